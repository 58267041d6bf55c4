import Derived.Test.YtgdkfmglkjfciaaGreatDoorSlc
import Derived.Test.YtgdkfmglkjfciaaGreatDoorPTpn
import Derived.Test.YtgdkfmglkjfciaaGreatDoorPRqs
set_option linter.all false
namespace Go.Proofs.Tryz
open Go.Ab
set_option maxRecDepth 100000
set_option maxHeartbeats 8000000
theorem sim_idS {α:Type} {r r':Res α} (h:Sim id id r r') {t:α} {m:List Tk} (hr:r=.ok (t,m)):okE m:=by
 subst hr
 exact h.1
def oneV (o:Option Nat):Int:=match o with | some i=>(i:Int) | none=>-1
def oneR2 (ws:List (List UInt8)) (l:List Tk):List Tk:=match oneOf ws l with | some _=>l.tail | none=>l
theorem one_opt {T l:List Tk} (ha:At T l) (hT:T.length≤10000) {ws:List (List UInt8)} (hw:ws.length≤100) :
  Cf Es 28 [.ptr 1000000 0 0,.d (.sl (ws.map fun w=>[.str w]))] [rdB T l] (.d (.int .i64 (oneV (oneOf ws l)))) [rdB T (oneR2 ws l)]:=by
 unfold oneR2
 cases h:oneOf ws l with
 | some i=>exact one_yes ha hT hw h
 | none=>exact one_no ha hT hw h
theorem one_at {T l:List Tk} (ha:At T l) (ws:List (List UInt8)):At T (oneR2 ws l)∧(oneR2 ws l).length+(if (oneOf ws l).isSome=true then 1 else 0)≤l.length:=by
 unfold oneR2
 cases h:oneOf ws l with
 | some i =>
   have hlen:=one_len h
   exact ⟨ha.tl1 h,by simp only [Option.isSome_some,if_true]; omega⟩
 | none=>exact ⟨ha,by simp⟩
def stK (tm:List Tk→Res Tm) (st:List Tk→Res Sm) (x:Sm) (l:List Tk):Option Nat→Res Sm
 | none=>.ok (x,l)
 | some i=>bind2 (coreS tm st (optW wAll l).2) fun y l'=>stC tm st (setS i (optW wAll l).1 x y) l'
theorem stC_K {tm:List Tk→Res Tm} {st:List Tk→Res Sm} (hT:∀ l,SfxOk (tm l) l) (hS:∀ l,SfxOk (st l) l) (x:Sm) (l:List Tk):stC tm st x l=stK tm st x (oneR2 setW l) (oneOf setW l):=by
 rw [stC_eq hT hS]
 unfold oneR2
 cases oneOf setW l <;> rfl
section
variable {fD:Nat→D} {T:List Tk} {L:Nat} {tm:List Tk→Res Tm} {st:List Tk→Res Sm}
theorem p_core {l:List Tk} (hF:FailOk fD) (ht:Rule Es fD T (L+1) 62 tm) (hs:RuleX So.a Es fD T (L+1) 64 (sourceS st)) (hst:RuleX Sm.a Es fD T L 13 st) (hT:T.length≤10000) (ha:At T l) (hl:l.length≤L+1) :
  CfO Es 27 [.ptr 1000000 0 0] [rdB T l] (outX Sm.a fD T (coreS tm st l)):=by
 have hsel:=p_selection hF ht hs hst.sfx hT ha hl
 generalize ho:outX Sm.a fD T (coreS tm st l)=o
 unfold coreS at ho
 refine cfO_intro mixs (fn:=Tryz.f27) (by kernel_rfl) rfl (by kernel_rfl) (by decide) o (by simp) (by simp [rdB]) ?_
 simp<;>(repeat' first|contradiction|exact .ok|apply And.intro|intro _|(refine gc (fun h=>?_) (fun h=>?_)<;>(have h':=h;(try simp at h');first|done|simp[h,h']|simp)))
 cases hw:isW wOpen l with
 | true =>
   rw [hw,if_pos rfl] at ho
   have hlen:=isW_len hw
   refine acallP_of (acallT_hand [1000000] (take_yes ha hT hw) (by simp) (by simp) (by simp) (by simp) (by simp) ?_)
   simp<;>(repeat' first|contradiction|exact .ok|apply And.intro|intro _|(refine gc (fun h=>?_) (fun h=>?_)<;>(have h':=h;(try simp at h');first|done|simp[h,h']|simp)))
   rcases hst.step (ha.tl hw) (by omega) with ⟨e,he,hc⟩ | ⟨x,l1,he,h1,hl1,hc⟩
   ·rw [he,bind2_err] at ho
    subst ho
    exact acallP_pan [1000000] (hc) (by simp) (by simp) (by simp) (by simp) (by kernel_rfl)
   rw [he,bind2_ok] at ho
   refine acallP_of (acallT_hand [1000000] (hc) (by simp) (by simp) (by simp) (by simp) (by simp) ?_)
   simp<;>(repeat' first|contradiction|exact .ok|apply And.intro|intro _|(refine gc (fun h=>?_) (fun h=>?_)<;>(have h':=h;(try simp at h');first|done|simp[h,h']|simp)))
   rcases exp_step hF h1 hT [wShut] (by decide) with ⟨e,he2,hc2⟩ | ⟨l2,he2,h2,hl2,hc2⟩
   ·rw [he2] at ho
    subst ho
    exact acallP_pan [1000000] (hc2) (by simp) (by simp) (by simp) (by simp) (by kernel_rfl)
   rw [he2,bind1_ok] at ho
   subst ho
   refine acallP_of (acallT_hand [1000000] (hc2) (by simp) (by simp) (by simp) (by simp) (by simp) ?_)
   simp only [outX]
   simp<;>(repeat' first|contradiction|exact .ok|apply And.intro|intro _|(refine gc (fun h=>?_) (fun h=>?_)<;>(have h':=h;(try simp at h');first|done|simp[h,h']|simp)))
 | false =>
   rw [hw,if_neg (by simp)] at ho
   rw [ho] at hsel
   refine acallP_of (acallT_hand [1000000] (take_no ha hT hw) (by simp) (by simp) (by simp) (by simp) (by simp) ?_)
   simp<;>(repeat' first|contradiction|exact .ok|apply And.intro|intro _|(refine gc (fun h=>?_) (fun h=>?_)<;>(have h':=h;(try simp at h');first|done|simp[h,h']|simp)))
   cases hp:selS tm st l with
   | error e =>
     rw [hp] at ho
     subst ho
     exact acallP_pan [1000000] (hsel) (by simp) (by simp) (by simp) (by simp) (by kernel_rfl)
   | ok x =>
     obtain ⟨x,m⟩:=x
     rw [hp] at ho
     subst ho
     simp only [outX] at hsel
     refine acallP_of (acallT_hand [1000000] (hsel) (by simp) (by simp) (by simp) (by simp) (by simp) ?_)
     simp only [outX]
     simp<;>(repeat' first|contradiction|exact .ok|apply And.intro|intro _|(refine gc (fun h=>?_) (fun h=>?_)<;>(have h':=h;(try simp at h');first|done|simp[h,h']|simp)))
@[simp] def zSd:List D:=[.int .i64 0,.bool false,.bool false,.bool false,.sl [],.str [],.sl [],.str [],.sl [],.sl [],.sl [],.sl [],.sl []]
theorem p_statement {l:List Tk} (hF:FailOk fD) (hTs:∀ l,SfxOk (tm l) l) (hSs:∀ l,SfxOk (st l) l) (hc:RuleX Sm.a Es fD T L 27 (coreS tm st)) (hT:T.length≤10000) (ha:At T l) (hl:l.length≤L) :
  CfO Es 13 [.ptr 1000000 0 0] [rdB T l] (outX Sm.a fD T (bind2 (coreS tm st l) fun x l'=>stC tm st x l')):=by
 generalize ho:outX Sm.a fD T (bind2 (coreS tm st l) fun x l'=>stC tm st x l')=o
 refine cfO_intro mixs (fn:=Tryz.f13) (by kernel_rfl) rfl (by kernel_rfl) (by decide) o (by simp) (by simp [rdB]) ?_
 simp<;>(repeat' first|contradiction|exact .ok|apply And.intro|intro _|(refine gc (fun h=>?_) (fun h=>?_)<;>(have h':=h;(try simp at h');first|done|simp[h,h']|simp)))
 rcases hc.step ha hl with ⟨e,he,hc1⟩ | ⟨x,l1,he,h1,hl1,hc1⟩
 ·rw [he,bind2_err] at ho
  subst ho
  exact acallP_pan [1000000] (hc1) (by simp) (by simp) (by simp) (by simp) (by kernel_rfl)
 rw [he,bind2_ok,stC_K hTs hSs] at ho
 refine acallP_of (acallT_hand [1000000] (hc1) (by simp) (by simp) (by simp) (by simp) (by simp) ?_)
 simp<;>(repeat' first|contradiction|exact .ok|apply And.intro|intro _|(refine gc (fun h=>?_) (fun h=>?_)<;>(have h':=h;(try simp at h');first|done|simp[h,h']|simp)))
 have ho1:=one_opt h1 hT (ws:=setW) (by decide)
 obtain ⟨h2,hl2⟩:=one_at h1 setW
 have hlt:∀ l i,oneOf setW l=some i→i<3:=fun l i hi=>by
  unfold oneOf at hi
  exact (List.findIdx?_eq_some_iff_getElem.1 hi).1
 have hi1:=hlt l1
 generalize oneOf setW l1=k1 at *
 generalize oneR2 setW l1=l2 at *
 refine acallP_of (acallT_hand [1000000] (ho1) (by simp) (by simp) (by simp) (by simp) (by simp) ?_)
 simp<;>(repeat' first|contradiction|exact .ok|apply And.intro|intro _|(refine gc (fun h=>?_) (fun h=>?_)<;>(have h':=h;(try simp at h');first|done|simp[h,h']|simp)))
 refine aloopPT mixs (by decide) (fun y:Option Nat×Sm×List Tk=>{ s:=mkS [(0,.ptr 1000000 0 0),(2,.ptr 2 0 0),(3,.ptr 3 0 0),(4,.d (.int .i64 (oneV y.1)))],b:=mkB [(1000000,1000000,rdB T y.2.2),(2,2,.var zSm),(3,3,.var (y.2.1.c.map AV.d))] })
  (fun y=>At T y.2.2∧y.2.2.length≤L∧(∀ i,y.1=some i→i<3)∧outX Sm.a fD T (stK tm st y.2.1 y.2.2 y.1)=o) (fun y=>y.2.2.length+if y.1.isSome=true then 1 else 0) (k1,x,l2) ⟨h2,by simp only; omega,hi1,ho⟩
  (sub_mk _ [(1000000,1000000,_),(2,2,_),(3,3,_)] ⟨by simp,by simp,by simp [renOf,Blk.live],base1⟩ (by simp [renOf])) ?_
 clear h1 hl1 hc1 he h2 hl2 ho hi1 ho1 hl
 rintro ⟨k,x,l⟩ ⟨h3,hl3,hk,ho3⟩
 simp only at h3 hl3 hk ho3
 cases k with
 | none =>
   simp only [stK] at ho3
   subst ho3
   simp only [outX,oneV]
   simp<;>(repeat' first|contradiction|exact .ok|apply And.intro|intro _|(refine gc (fun h=>?_) (fun h=>?_)<;>(have h':=h;(try simp at h');first|done|simp[h,h']|simp)))
 | some i =>
   have hi:=hk i rfl
   simp only [stK] at ho3
   have hge:(0:Int)≤(i:Int):=by omega
   have hwr:=wrap_in (n:=2+(i:Int)) (by omega) (by omega)
   have hto:=take_opt h3 hT wAll
   have h4:At T (optW wAll l).2:=h3.to (opt_sfx _ _) (opt_ok h3.ok)
   have hl4:=opt_len wAll l
   generalize optW wAll l=z at *
   obtain ⟨al,l4⟩:=z
   simp only at ho3 hto h4 hl4
   simp only [oneV]
   simp [hge]<;>(repeat' first|contradiction|exact .ok|apply And.intro|intro _|(refine gc (fun h=>?_) (fun h=>?_)<;>(have h':=h;(try simp at h');first|done|simp[h,h',hge]|simp[hge])))
   refine acallP_of (acallT_hand [1000000] (hto) (by simp) (by simp) (by simp) (by simp) (by simp) ?_)
   simp<;>(repeat' first|contradiction|exact .ok|apply And.intro|intro _|(refine gc (fun h=>?_) (fun h=>?_)<;>(have h':=h;(try simp at h');first|done|simp[h,h']|simp)))
   rcases hc.step h4 (by omega) with ⟨e,he5,hc5⟩ | ⟨y,l5,he5,h5,hl5,hc5⟩
   ·rw [he5,bind2_err] at ho3
    subst ho3
    exact acallP_pan [1000000] (hc5) (by simp) (by simp) (by simp) (by simp) (by kernel_rfl)
   rw [he5,bind2_ok,stC_K hTs hSs] at ho3
   have ho6:=one_opt h5 hT (ws:=setW) (by decide)
   obtain ⟨h6,hl6⟩:=one_at h5 setW
   have hi6:=hlt l5
   generalize oneOf setW l5=k6 at *
   generalize oneR2 setW l5=l6 at *
   refine acallP_of (acallT_hand [1000000] (hc5) (by simp) (by simp) (by simp) (by simp) (by simp) ?_)
   simp [hwr]<;>(repeat' first|contradiction|exact .ok|apply And.intro|intro _|(refine gc (fun h=>?_) (fun h=>?_)<;>(have h':=h;(try simp at h');first|done|simp[h,h',hwr]|simp[hwr])))
   refine acallP_of (acallT_hand [1000000] (ho6) (by simp) (by simp) (by simp) (by simp) (by simp) ?_)
   simp<;>(repeat' first|contradiction|exact .ok|apply And.intro|intro _|(refine gc (fun h=>?_) (fun h=>?_)<;>(have h':=h;(try simp at h');first|done|simp[h,h']|simp)))
   refine ⟨(k6,setS i al x y,l6),⟨h6,by simp only; omega,hi6,ho3⟩,?_,by simp only [Option.isSome_some,if_true]; omega⟩
   refine (show Ab.Sub Es 29 1 _ { s:=mkS [(0,.ptr 1000000 0 0),(2,.ptr 2 0 0),(3,.ptr 3 0 0),(4,.d (.int .i64 (oneV k6)))],b:=mkB [(1000000,1000000,rdB T l6),(2,2,.var zSm),(3,3,.var [.d (.int .i64 (2+(i:Int))),.d (.bool al),.d (.bool false),.d (.bool false),.nils,.d (.str []),.nils,.d (.str []),.nils,.nils,.nils,.nils,.d (.sl [x.c,y.c])])] } from
    sub_mk _ [(1000000,1000000,_),(2,2,_),(3,3,_)] ⟨by simp,by simp,by simp [renOf,Blk.live],base1⟩ (by simp [renOf])).trans ?_
   refine (sub_datc 3 (cells:=[.d (.int .i64 (2+(i:Int))),.d (.bool al),.d (.bool false),.d (.bool false),.nils,.d (.str []),.nils,.d (.str []),.nils,.nils,.nils,.nils,.d (.sl [x.c,y.c])]) [.int .i64 (2+(i:Int)),.bool al,.bool false,.bool false,.sl [],.str [],.sl [],.str [],.sl [],.sl [],.sl [],.sl [],.sl [x.c,y.c]] (by simp) rfl ?_).trans ?_
   ·intro k c d hc hd
    match k,hc,hd with
    | 0,hc,hd=>cases hc; cases hd; rfl
    | 1,hc,hd=>cases hc; cases hd; rfl
    | 2,hc,hd=>cases hc; cases hd; rfl
    | 3,hc,hd=>cases hc; cases hd; rfl
    | 4,hc,hd=>cases hc; cases hd; rfl
    | 5,hc,hd=>cases hc; cases hd; rfl
    | 6,hc,hd=>cases hc; cases hd; rfl
    | 7,hc,hd=>cases hc; cases hd; rfl
    | 8,hc,hd=>cases hc; cases hd; rfl
    | 9,hc,hd=>cases hc; cases hd; rfl
    | 10,hc,hd=>cases hc; cases hd; rfl
    | 11,hc,hd=>cases hc; cases hd; rfl
    | 12,hc,hd=>cases hc; cases hd; rfl
    | k+13,hc,hd=>simp at hc
   exact sub_mk _ [(1000000,1000000,_),(2,2,_),(3,3,_)] ⟨by simp,by simp,by simp [renOf,Blk.live,setS,Sm.c],base1⟩ (by simp [renOf,oneV])
end
theorem p_stmt {fD:Nat→D} (hF:FailOk fD) {T:List Tk} (hV:okT T) (hT:T.length≤10000) {N:Nat} (hN:9*T.length+8≤N):∀ (n:Nat) (l:List Tk),At T l→l.length<n→CfO Es 13 [.ptr 1000000 0 0] [rdB T l] (outX Sm.a fD T (stmtP N n l))
 | 0,l,ha,hn=>by omega
 | n+1,l,ha,hn=>by
   have hlT:=ha.sfx.length_le
   have hpos:=List.length_pos_iff.2 ha.ne
   have ht:Rule Es fD T l.length 62 (parP N 0) :=
    ⟨fun l' ha' hl'=>p_par hF hV hT N 0 l' (by omega) ha' (by unfold need; omega),fun l'=>par_sfx N 0 l',fun l' t m ho hp=>par_okE N 0 ho hp⟩
   have hst:RuleX Sm.a Es fD T (l.length - 1) 13 (stmtP N n) :=
    ⟨fun l' ha' hl'=>p_stmt hF hV hT hN n l' ha' (by omega),fun l'=>stmtP_sfx N n l',fun l' t m ho hp=>sim_idS (stmtP_sim (f:=id) (g:=id) (fun _=>⟨rfl,rfl,rfl,rfl,rfl⟩) N n l' ho) hp⟩
   obtain ⟨L,hL⟩:∃ L,l.length=L+1:=⟨l.length - 1,by omega⟩
   rw [hL] at ht hst
   have tmS:∀ l,okE l→Sim id id (parP N 0 l) (parP N 0 (l.map id)):=fun l hl=>par_sim (f:=id) (g:=id) (fun _=>⟨rfl,rfl,rfl,rfl,rfl⟩) N 0 l hl
   have stS:∀ l,okE l→Sim id id (stmtP N n l) (stmtP N n (l.map id)):=fun l hl=>stmtP_sim (f:=id) (g:=id) (fun _=>⟨rfl,rfl,rfl,rfl,rfl⟩) N n l hl
   have hso:RuleX So.a Es fD T (L+1) 64 (sourceS (stmtP N n)) :=
    ⟨fun l' ha' hl'=>p_source hF hst hT ha' hl',fun l'=>source_sfx hst.sfx l',fun l' t m ho hp=>sim_idS (sim_source (f:=id) (g:=id) (fun _=>⟨rfl,rfl,rfl,rfl,rfl⟩) stS ho) hp⟩
   have hco:RuleX Sm.a Es fD T (L+1) 27 (coreS (parP N 0) (stmtP N n)) :=
    ⟨fun l' ha' hl'=>p_core hF ht hso hst hT ha' hl',fun l'=>core_sfx ht.sfx hst.sfx l',fun l' t m ho hp=>sim_idS (sim_core (f:=id) (g:=id) (fun _=>⟨rfl,rfl,rfl,rfl,rfl⟩) tmS stS ho) hp⟩
   rw [stmtP]
   exact p_statement hF ht.sfx hst.sfx hco hT ha (by omega)
end Go.Proofs.Tryz
