import Derived.Test.YthpmjipkofbeiaaGreatDoorTFus
import Derived.Test.YthpmjipkofbeiaaGreatDoorTShy
import Derived.Test.YthpmjipkofbeiaaGreatDoorTTxt
import Derived.Test.YthpmjipkofbeiaaGreatDoorPtx
import Derived.Test.YthpmjipkofbeiaaGreatDoorAbB
import Derived.Test.YthpmjipkofbeiaaGreatDoorLif
import Derived.Test.YthpmjipkofbeiaaGreatDoorTPru
set_option linter.all false
namespace Go.Proofs.Tryz
open Go.Ab Go.RowKit
set_option maxRecDepth 100000
set_option maxHeartbeats 1000000
@[simp] theorem isIface_error:isIface Tryz.prog 163=true:=by kernel_rfl
theorem err_cell {w:World} {g:Gh} {B:List Blk} {bl:Nat→Blk} (m:Mem (ctxOf Ev w g B) bl w g) {i:Nat} (hi:i=9∨i=10):∃ v t x,w.cell? ⟨i,0,none⟩=some v∧v=.iface t x:=by
 have hc:=m.glob i [.any isErr] (by rcases hi with rfl | rfl <;> simp [ctxOf])
 simp only [RepCells,RepD] at hc
 obtain ⟨⟨v,hv,⟨t,x,rfl⟩,_⟩,_⟩:=hc
 exact ⟨_,t,x,m.con _ _ _ hv,rfl⟩
def numE (s:List UInt8):Int×Go.Ab.D:=match Lib.parseIntB 64 s with
 | .ok v=>(v,.val .nilIface)
 | .«syntax»=>(0,.ifn)
 | .range=>(Lib.intSat 64 s,.ifn)
theorem f_parseInt (s:List UInt8) (hs:s.length≤1000000):Cf Ev 174 [.d (.str s),.d (.int .i64 10),.d (.int .i64 64)] [] (.tup [.d (.int .i64 (numE s).1),.d (numE s).2]) []:=by
 refine cf_of_calls (by kernel_rfl) fun w g vs hr m=>?_
 simp only [RepAs,RepA,RepD] at hr
 obtain ⟨u,us,rfl,rfl,u2,us2,rfl,rfl,u3,us3,rfl,rfl,rfl⟩:=hr
 unfold numE
 cases hp:Lib.parseIntB 64 s with
 | ok v =>
   refine (Tryz.strconv_ParseInt_10_at64_ok ⟨s.toArray⟩ (by simp [ByteArray.size_mk']; omega) v hp w).mono ?_
   rintro e w' ⟨rfl,hw⟩
   refine ⟨_,rfl,?_,?_⟩
   ·simp only [RepA,RepAs,RepD]
    exact ⟨[.int .i64 v,.nilIface],rfl,.int .i64 v,[.nilIface],rfl,rfl,.nilIface,[],rfl,⟨rfl,rfl⟩,rfl⟩
   ·rcases hw with rfl | ⟨t,rfl⟩
    ·exact Below.refl _ _
    ·exact Lib.bytesWorld_below _ _ _
 | «syntax» =>
   obtain ⟨ev,t,x,h1,h2⟩:=err_cell m (i:=9) (.inl rfl)
   refine (Tryz.strconv_ParseInt_10_at64_syntax ⟨s.toArray⟩ (by simp [ByteArray.size_mk']; omega) hp ev w h1 (.inr ⟨t,x,h2⟩)).mono ?_
   rintro e w' ⟨N,rfl,_,_,hb⟩
   refine ⟨_,rfl,?_,hb⟩
   simp only [RepA,RepAs,RepD]
   exact ⟨[_,_],rfl,_,[_],rfl,rfl,_,[],rfl,⟨_,_,rfl⟩,rfl⟩
 | range =>
   obtain ⟨ev,t,x,h1,h2⟩:=err_cell m (i:=10) (.inr rfl)
   refine (Tryz.strconv_ParseInt_10_at64_range ⟨s.toArray⟩ (by simp [ByteArray.size_mk']; omega) hp ev w h1 (.inr ⟨t,x,h2⟩)).mono ?_
   rintro e w' ⟨N,rfl,_,_,hb⟩
   refine ⟨_,rfl,?_,hb⟩
   simp only [RepA,RepAs,RepD]
   exact ⟨[_,_],rfl,_,[_],rfl,rfl,_,[],rfl,⟨_,_,rfl⟩,rfl⟩
theorem v_bool (n:Int) (h:n=0∨n=1):Cf Ev 171 [.d (.int .i64 n)] [] (V.mk 2 n []).a []:=by
 refine cf_intro mixv (fn:=Tryz.f171) (by kernel_rfl) rfl (by kernel_rfl) (by decide) (by simp) ?_
 rcases h with rfl | rfl <;> simp [V.a] <;> ((repeat' (first | contradiction | exact .of (by kernel_rfl) | refine And.intro ?_ ?_ | intro _ | (refine agrd_cases (fun h=>?_) (fun h=>?_) <;> (have h':=h; (try simp at h'); first | done | simp [h,h'] | simp)))))
theorem r_bool (n:Int) (h:n=0∨n=1):Cf Ev 80 [.d (.int .i64 n)] [] (V.mk 2 n []).a []:=by
 refine cf_intro mixv (fn:=Tryz.f80) (by kernel_rfl) rfl (by kernel_rfl) (by decide) (by simp) ?_
 rcases h with rfl | rfl <;> simp [V.a] <;> ((repeat' (first | contradiction | exact .of (by kernel_rfl) | refine And.intro ?_ ?_ | intro _ | (refine agrd_cases (fun h=>?_) (fun h=>?_) <;> (have h':=h; (try simp at h'); first | done | simp [h,h'] | simp)))))
theorem take_head (s:List UInt8) (h:1≤s.length):(s.take 1==[39])=decide (s.head?=some 39):=by
 cases s with
 | nil=>simp at h
 | cons c s=>simp; rw [Bool.eq_iff_iff]; simp
theorem f_prefix (s:List UInt8) (hs:s.length≤1000000):Cf Ev 172 [.d (.str s),.d (.str [39])] [] (.d (.bool (decide (s.head?=some 39)))) []:=by
 have h0:Cf Ev 190 [.d (.str s),.d (.str [39])] [] (.d (.bool (decide (s.head?=some 39)))) []:=by
  refine cf_intro mixv (fn:=Tryz.f190) (by kernel_rfl) rfl (by kernel_rfl) (by decide) (by simp) ?_
  by_cases h:1≤s.length
  ·have h':(1:Int)≤s.length:=by omega
   have ht:=take_head s h
   simp [h,h',ht]
   (repeat' (first|contradiction|exact .ok|apply And.intro|intro _|(refine gc (fun h=>?_) (fun h=>?_)<;>(have h':=h;(try simp at h');first|done|simp[h,h',h,h',ht]|simp[h,h',ht]))))
  ·have:s=[]:=List.eq_nil_of_length_eq_zero (by omega)
   subst this
   simp
   all_goals exact gz
 refine cf_intro mixv (fn:=Tryz.f172) (by kernel_rfl) rfl (by kernel_rfl) (by decide) (by simp) ?_
 simp
 (repeat refine ⟨.of (by kernel_rfl),?_⟩)
 refine acallT_plain h0 (by simp) ?_
 simp
 all_goals exact gz
theorem drop_last (s:List UInt8) (h:1≤s.length):(s.drop (s.length - 1)==[39])=decide (s.getLast?=some 39):=by
 obtain ⟨c,t,rfl⟩:∃ c t,s=t++[c]:=by
  have hne:s ≠ []:=fun e=>by rw [e] at h; simp at h
  exact ⟨s.getLast hne,s.dropLast,(List.dropLast_concat_getLast hne).symm⟩
 rw [List.getLast?_append]
 simp
 rw [Bool.eq_iff_iff]; simp
theorem f_suffix (s:List UInt8) (hs:s.length≤1000000):Cf Ev 173 [.d (.str s),.d (.str [39])] [] (.d (.bool (decide (s.getLast?=some 39)))) []:=by
 have h0:Cf Ev 191 [.d (.str s),.d (.str [39])] [] (.d (.bool (decide (s.getLast?=some 39)))) []:=by
  refine cf_intro mixv (fn:=Tryz.f191) (by kernel_rfl) rfl (by kernel_rfl) (by decide) (by simp) ?_
  by_cases h:1≤s.length
  ·have h':(1:Int)≤s.length:=by omega
   have hw:IntKind.i64.wrap ((s.length:Int) - 1)=(s.length:Int) - 1:=wrap_in (by omega) (by omega)
   have h2:(0:Int)≤(s.length:Int) - 1:=by omega
   have h3:(s.length:Int) - 1≤s.length:=by omega
   have ht:=drop_last s h
   have hn:((s.length:Int) - 1).toNat=s.length - 1:=by omega
   simp [h,h',hw,h2,h3,hn,ht]
   (repeat' (first|contradiction|exact .ok|apply And.intro|intro _|(refine gc (fun h=>?_) (fun h=>?_)<;>(have h':=h;(try simp at h');first|done|simp[h,h',h,h',hw,h2,h3,hn,ht]|simp[h,h',hw,h2,h3,hn,ht]))))
  ·have:s=[]:=List.eq_nil_of_length_eq_zero (by omega)
   subst this
   simp
   all_goals exact gz
 refine cf_intro mixv (fn:=Tryz.f173) (by kernel_rfl) rfl (by kernel_rfl) (by decide) (by simp) ?_
 simp
 (repeat refine ⟨.of (by kernel_rfl),?_⟩)
 refine acallT_plain h0 (by simp) ?_
 simp
 all_goals exact gz
end Go.Proofs.Tryz
namespace Go.Proofs.Tryz
open Go.Ab
set_option maxRecDepth 100000
set_option maxHeartbeats 8000000
theorem upw_g (g:Nat) (cs:List D) (e:Ev.G g=some cs):Es.G g=some cs:=by
 rw [Ev_G] at e
 rw [Es_G,esG]
 split at e
 ·rename_i h; rw [if_pos h]; exact e
 ·rename_i h0
  rw [if_neg h0]
  split at e
  ·rename_i h; rw [if_pos h]; exact e
  ·rename_i h1
   rw [if_neg h1]
   split at e
   ·rename_i h; rw [if_pos h]; exact e
   ·cases e
theorem upw {f:FuncId} {xs:List AV} {B:List Blk} {y:AV} {B':List Blk} (h:Cf Ev f xs B y B'):Cf Es f xs B y B':=Cf.more (E:=Ev) (E':=Es) rfl upw_g h
def words:List (List UInt8):=[[115,101,108,101,99,116],[100,105,115,116,105,110,99,116],[97,108,108],[102,114,111,109],[119,104,101,114,101],[103,114,111,117,112],[98,121],[104,97,118,105,110,103],[97,115],[111,110],[117,110,105,111,110],[101,120,99,101,112,116],[105,110,116,101,114,115,101,99,116],[106,111,105,110],[105,110,110,101,114],[108,101,102,116],[114,105,103,104,116],[102,117,108,108],[99,114,111,115,115],[115,101,109,105],[97,110,116,105],[97,110,100],[111,114],[110,111,116],[105,115],[110,117,108,108],[116,114,117,101],[102,97,108,115,101],[105,110],[99,97,115,101],[119,104,101,110],[116,104,101,110],[101,108,115,101],[101,110,100],[118,97,108,117,101,115],[116,97,98,108,101],[112,114,105,109,97,114,121],[117,110,105,113,117,101],[102,111,114,101,105,103,110],[114,101,102,101,114,101,110,99,101,115],[99,104,101,99,107],[105,110,116],[98,111,111,108],[116,101,120,116],[99,111,117,110,116],[115,117,109],[109,105,110],[109,97,120],[99,111,97,108,101,115,99,101],[108,101,110,103,116,104],[115,97,109,101],[109,111,100]]
theorem rest_cell {w:World} {g:Gh} {B:List Blk} {bl:Nat→Blk} (m:Mem (ctxOf Es w g B) bl w g):∃ n,w.cell? ⟨6,0,none⟩=some (.int .i64 n):=by
 have hc:=m.glob 6 [.any isI64] (by simp [ctxOf,esG])
 simp only [RepCells,RepD] at hc
 obtain ⟨⟨v,hv,⟨n,rfl⟩,_⟩,_⟩:=hc
 exact ⟨n,m.con _ _ _ hv⟩
theorem c_contains (s sub:List UInt8) (hs:s.length<4294967281):Cf Es 125 [.d (.str s),.d (.str sub)] [] (.d (.bool (within sub s))) []:=by
 refine cf_of_calls (by kernel_rfl) fun w g vs hr m=>?_
 obtain ⟨_,_,rfl,r1,_,_,rfl,r2,r3⟩:=hr
 simp only [RepAs] at r3
 subst r3
 simp only [RepA,RepD] at r1 r2
 subst r1 r2
 obtain ⟨n,hn⟩:=rest_cell m
 refine (Tryz.strings_Contains _ _ n w (by simpa [ByteArray.size_mk'] using hs) hn).mono ?_
 rintro e w' ⟨rfl,rfl⟩
 refine ⟨_,rfl,?_,.refl _ _⟩
 simp only [RepA,RepD,Lib.contains,within_index]
@[simp] theorem cvAs_d (r:Nat→Option Nat) (bl:Nat→Blk) (kn:Bool):∀ l:List D,cvAs r bl kn (l.map AV.d)=(l.map AV.d,[])
  | []=>rfl
  | x::l=>by rw [List.map_cons,cvAs,cvAs_d r bl kn l]; rfl
@[simp] theorem toDs_d (bl:Nat→Blk):∀ l:List D,toDs bl (l.map AV.d)=some (l,[])
  | []=>rfl
  | x::l=>by rw [List.map_cons,toDs,toDs_d bl l]; rfl
@[simp] theorem names_d:∀ l:List D,List.flatMap AV.names (l.map AV.d)=[]
  | []=>rfl
  | x::l=>by rw [List.map_cons,List.flatMap_cons,names_d l]; rfl
theorem equal_T (F:FuncId) (a b:List Tm) (hn:a.length≤9223372036854775807) (h:∀ x∈a,∀ y∈b,Cf En F [x.a,y.a] [] (.d (.bool (x.eq y))) []) :
  Cf En 126 [.d (.sl (a.map Tm.c)),.d (.sl (b.map Tm.c)),.clo F []] [] (.d (.bool (agree Tm.eq a b))) []:=by
 refine cf_intro mix (fn:=Tryz.f126) (by kernel_rfl) rfl (by kernel_rfl) (by decide) (by simp) ?_
 by_cases hl:a.length=b.length
 ·have hl':(a.length:Int)=b.length:=by omega
  generalize hres:agree Tm.eq a b=res
  simp [hl,hl']
  refine ⟨.of (by kernel_rfl),.of (by kernel_rfl),.of (by kernel_rfl),?_⟩
  refine aloopT mix (by decide) (fun i:Nat=>{ s:=mkS [(1,.d (.sl (b.map Tm.c))),(2,.clo F []),(15,.d (.sl (a.map Tm.c))),(16,.d (.int .i64 b.length)),(17,.d (.int .i64 i))],b:=mkB [] }) (fun i:Nat=>i≤b.length∧agree Tm.eq (a.drop i) (b.drop i)=res) (fun i=>b.length - i) 0 (by simp [hres]) (sub_mk _ [] .nil (by simp)) ?_
  rintro i ⟨hi,ho⟩
  by_cases hlt:i<b.length
  ·have hlt':(i:Int)<b.length:=by omega
   have hla:i<a.length:=by omega
   have hg:a[i]?=some a[i]:=List.getElem?_eq_getElem hla
   have hg2:b[i]?=some b[i]:=List.getElem?_eq_getElem hlt
   have hd:=agree_drop (f:=Tm.eq) hg hg2
   have c1:=Tm.clen a[i]
   have c2:=Tm.clen b[i]
   have k1:=Tm.ctake a[i]
   have k2:=Tm.ctake b[i]
   simp [hlt,hlt',hla,hg,hg2,c1,c2,k1,k2]
   refine ⟨.of (by kernel_rfl),.of (by kernel_rfl),.of (by kernel_rfl),?_⟩
   refine acallT_plain (h a[i] (List.getElem_mem hla) b[i] (List.getElem_mem hlt)) (by simp [Tm.a]) ?_
   simp
   refine ⟨.of (by kernel_rfl),fun h=>⟨.of (by kernel_rfl),?_⟩,fun h=>⟨.of (by kernel_rfl),i+1,⟨hlt,?_⟩,?_,?_⟩⟩
   ·rw [← ho,hd,h]; rfl
   ·rw [← ho,hd,h]; rfl
   ·refine sub_mk _ [] .nil ?_
    simp
    exact wrap_in (by omega) (by omega)
   ·simp; omega
  ·have hlt':¬ (i:Int)<b.length:=by omega
   simp [hlt,hlt']
   refine ⟨.of (by kernel_rfl),.of (by kernel_rfl),?_⟩
   rw [← ho,agree_end (by omega) (by omega)]
 ·have hl':¬ (a.length:Int)=b.length:=by omega
  rw [agree_len a b hl]
  simp [hl,hl']
  exact ⟨.of (by kernel_rfl),.of (by kernel_rfl),.of (by kernel_rfl)⟩
mutual
/-- Lists that a program can hold. -/
def Tm.fits:Tm→Prop
 | .mk _ _ _ _ _ ks=>ks.length≤9223372036854775807∧tmsFits ks
def tmsFits:List Tm→Prop
 | []=>True
 | e::es=>e.fits∧tmsFits es
end
theorem tmsFits_get:∀ l:List Tm,tmsFits l→∀ e∈l,e.fits
 | x::xs,h,e,he=>by
   rw [tmsFits] at h
   rcases List.mem_cons.1 he with rfl | he
   ·exact h.1
   ·exact tmsFits_get xs h.2 e he
mutual
def Sm.fits:Sm→Prop
 | .mk _ _ _ _ is _ fq _ js w g h ks=>(is.length≤9223372036854775807∧tmsFits (is.map It.t))∧(fq.length≤9223372036854775807∧smsFits fq)∧(js.length≤9223372036854775807∧josFits js)∧(w.length≤9223372036854775807∧tmsFits w)∧(g.length≤9223372036854775807∧tmsFits g)∧(h.length≤9223372036854775807∧tmsFits h)∧(ks.length≤9223372036854775807∧smsFits ks)
def Jo.fits:Jo→Prop
 | .mk _ _ q _ o=>(q.length≤9223372036854775807∧smsFits q)∧(o.length≤9223372036854775807∧tmsFits o)
def smsFits:List Sm→Prop
 | []=>True
 | e::es=>e.fits∧smsFits es
def josFits:List Jo→Prop
 | []=>True
 | e::es=>e.fits∧josFits es
end
theorem tmsFits_app:∀ a b:List Tm,tmsFits a→tmsFits b→tmsFits (a++b)
 | [],b,_,h=>h
 | x::xs,b,h,h'=>by
   rw [tmsFits] at h
   rw [List.cons_append,tmsFits]
   exact ⟨h.1,tmsFits_app xs b h.2 h'⟩
theorem s_sameTerm:∀ (m:Nat) (x y:Tm),SizeOf.sizeOf x<m→x.fits→Cf En 85 [x.a,y.a] [] (.d (.bool (x.eq y))) []
 | 0,_,_,h,_=>absurd h (by omega)
 | m+1,.mk o y n t q ks,.mk o' y' n' t' q' ks',hm,hfit=>by
   refine cf_intro mix (fn:=Tryz.f85) (by kernel_rfl) rfl (by kernel_rfl) (by decide) (by simp) ?_
   rw [Tm.fits] at hfit
   have hq:=equal_T 85 ks ks' hfit.1 fun x hx z _=>s_sameTerm m x z (by
    have:=Tm.kid_lt (e:=.mk o y n t q ks) (k:=x) hx
    omega) (tmsFits_get ks hfit.2 x hx)
   rw [Tm.eq,tmsEq_agree]
   simp [Tm.a,Tm.c,tmsC_map]
   (repeat' (first|contradiction|exact .ok|apply And.intro|intro _|(refine gc (fun h=>?_) (fun h=>?_)<;>(have h':=h;(try simp at h');first|done|simp[h,h']|simp))))
   all_goals first | (refine acallT_plain hq (by simp) ?_; simp; (repeat' (first | contradiction | exact .of (by kernel_rfl) | refine And.intro ?_ ?_ | intro _ | (refine agrd_cases (fun h=>?_) (fun h=>?_) <;> (have h':=h; (try simp at h'); first | done | simp [h,h'] | simp))))) | skip
   all_goals simp_all
def boolV (n:Int):V:=if n ≠ 0∧n ≠ 1 then nulV else ⟨2,n,[]⟩
theorem boolV0:boolV 0=⟨2,0,[]⟩:=by simp [boolV]
theorem boolV1:boolV 1=⟨2,1,[]⟩:=by simp [boolV]
theorem rb_bool (n:Int):Cf En 80 [.d (.int .i64 n)] [] (boolV n).a []:=by
 refine cf_intro mix (fn:=Tryz.f80) (by kernel_rfl) rfl (by kernel_rfl) (by decide) (by simp) ?_
 by_cases h0:n=0
 ·subst h0
  simp [V.a,boolV,IntKind.wrap_i64]
  repeat' (first | exact .of (by kernel_rfl) | refine And.intro ?_ ?_)
 by_cases h1:n=1
 ·subst h1
  simp [V.a,boolV,IntKind.wrap_i64]
  repeat' (first | exact .of (by kernel_rfl) | refine And.intro ?_ ?_)
 simp [V.a,boolV,h0,h1,nulV]
 repeat' (first | exact .of (by kernel_rfl) | refine And.intro ?_ ?_)
 (repeat' (first|contradiction|exact .ok|apply And.intro|intro _|(refine gc (fun h=>?_) (fun h=>?_)<;>(have h':=h;(try simp at h');first|done|simp[h,h',h0,h1]|simp[h0,h1]))))
section
variable {f:Tk→Tk} {g:Nat→Nat} (hf:∀ t,(f t).kd=t.kd∧(f t).rw=t.rw∧(f t).tx=t.tx∧(f t).n=t.n∧(f t).fr=g t.fr)
variable {tm tm':List Tk→Res Tm} {st st':List Tk→Res Sm}
variable (hT:∀ l,okE l→Sim f g (tm l) (tm' (l.map f))) (hS:∀ l,okE l→Sim f g (st l) (st' (l.map f)))
include hf
end
section
variable {f:Tk→Tk} {g:Nat→Nat} (hf:∀ t,(f t).kd=t.kd∧(f t).rw=t.rw∧(f t).tx=t.tx∧(f t).n=t.n∧(f t).fr=g t.fr)
include hf
end
end Go.Proofs.Tryz
namespace Go.Proofs.Tryz
def fidx {α:Type} (p:α→Bool):List α→Nat→Int
 | [],_=>-1
 | x::l,i=>if p x=true then i else fidx p l (i+1)
theorem fidx_drop {α:Type} {p:α→Bool} {l:List α} {i k:Nat} (h:i<l.length):fidx p (l.drop i) k=if p l[i]=true then (k:Int) else fidx p (l.drop (i+1)) (k+1):=by
 rw [List.drop_eq_getElem_cons h,fidx]
end Go.Proofs.Tryz
