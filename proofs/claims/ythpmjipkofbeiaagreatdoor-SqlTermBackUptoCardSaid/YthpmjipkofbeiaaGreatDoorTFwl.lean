import Derived.Test.YthpmjipkofbeiaaGreatDoorTLvl
import Derived.Test.YthpmjipkofbeiaaGreatDoorAbB
import Derived.Test.YthpmjipkofbeiaaGreatDoorTShb
import Derived.Test.YthpmjipkofbeiaaGreatDoorTFdx
import Derived.Test.YthpmjipkofbeiaaGreatDoorTFtt
import Derived.Test.YthpmjipkofbeiaaGreatDoorBcr
import Derived.Test.YthpmjipkofbeiaaGreatDoorTFus
import Derived.Test.YthpmjipkofbeiaaGreatDoorTSqyRow
import Derived.Test.YthpmjipkofbeiaaGreatDoorVfo
import Derived.Test.YthpmjipkofbeiaaGreatDoorTFlq
set_option linter.all false
namespace Go.Proofs.Tryz
open Go.Ab
set_option maxRecDepth 100000
set_option maxHeartbeats 8000000
theorem p_joinedT (F:FuncId) (w:Tm→List UInt8) (l:List Tm) (hl:l.length≤1000000000000) (hb:(joinB (l.map w)).length≤140737488355328) (h:∀ x∈l,Cf Es F [x.a] [] (.d (.str (w x))) []) :
  Cf Es 52 [.d (.sl (l.map Tm.c)),.clo F []] [] (.d (.str (joinB (l.map w)))) []:=by
 refine cf_intro mixs (fn:=Tryz.f52) (by kernel_rfl) rfl (by kernel_rfl) (by decide) (by simp) ?_
 have hj:=f_joinB (l.map w) (by rw [List.length_map]; omega) hb
 rw [List.map_map] at hj
 generalize joinB (l.map w)=J at *
 simp
 (repeat refine ⟨.of (by kernel_rfl),?_⟩)
 refine aloopT mixs (by decide) (fun i:Nat=>{ s:=mkS [(1,.clo F []),(5,.ref 900 0 i 1),(8,.d (.sl (l.map Tm.c))),(9,.d (.int .i64 l.length)),(10,.d (.int .i64 i))],b:=mkB [(900,900,.arr 9 1 ((l.take i).map fun x=>[D.str (w x)]) false)] }) (fun i:Nat=>i≤l.length) (fun i=>l.length - i) 0 (by simp)
  (sub_mkn 5 900 9 1 (by simp) (by simp) (by decide) (by decide) _ [(900,900,_)] ⟨by simp,by simp,by simp [renOf,Blk.live],by simp⟩ (by simp [renOf])) ?_
 intro i hi
 by_cases hlt:i<l.length
 ·have hlt':(i:Int)<l.length:=by omega
  obtain ⟨x,hx⟩:∃ x,x=l[i]:=⟨_,rfl⟩
  have hgo:l[i]?=some x:=by rw [hx]; exact List.getElem?_eq_getElem hlt
  have hge:∀ h,l[i]'h=x:=fun _=>hx.symm
  have c1:=x.clen
  have k1:=x.ctake
  have hr:=h x (by rw [hx]; exact List.getElem_mem hlt)
  have htk:l.take (i+1)=l.take i++[x]:=by rw [List.take_add_one,hgo]; rfl
  have hmin:min i l.length=i:=by omega
  have hwr:=wrap_in (n:=(i:Int)+1) (by omega) (by omega)
  have s1:(i+1)*16≤140737488355328:=by omega
  have s2:i+1≤9223372036854775807:=by omega
  have s3:i≤9223372036854775806:=by omega
  simp [hlt,hlt',hgo,hge,c1,k1]
  (repeat' (first|contradiction|exact .ok|apply And.intro|intro _|(refine gc (fun h=>?_) (fun h=>?_)<;>(have h':=h;(try simp at h');first|done|simp[h,h',hlt,hlt',hgo,hge,c1,k1]|simp[hlt,hlt',hgo,hge,c1,k1]))))
  refine acallT_plain hr (by simp [Tm.a]) ?_
  simp [hmin,s1,s2,s3]
  (repeat' (first|contradiction|exact .ok|apply And.intro|intro _|(refine gc (fun h=>?_) (fun h=>?_)<;>(have h':=h;(try simp at h');first|done|simp[h,h',hmin,s1,s2,s3]|simp[hmin,s1,s2,s3]))))
  refine ⟨i+1,hlt,?_,by simp only; omega⟩
  exact sub_mk _ [(900,19,_)] ⟨by simp,by simp,by simp [renOf,Blk.live,htk],by simp⟩ (by simp [renOf,hwr])
 ·obtain rfl:i=l.length:=by omega
  have htl:List.take l.length (l.map fun x=>[D.str (w x)])=l.map fun x=>[D.str (w x)]:=List.take_of_length_le (by simp)
  simp
  (repeat' (first|contradiction|exact .ok|apply And.intro|intro _|(refine gc (fun h=>?_) (fun h=>?_)<;>(have h':=h;(try simp at h');first|done|simp[h,h']|simp))))
  refine acallT_plain hj (by simp [Function.comp_def,htl]) ?_
  simp
  all_goals exact gz
def Jo.on:Jo→List Tm | .mk _ _ _ _ o=>o
abbrev S3:=List UInt8×List Sm×List UInt8
def S3.c (s:S3):List D:=soC s.1 s.2.1 s.2.2
theorem S3.clen (s:S3):(S3.c s).length=3:=rfl
def S3.dep (s:S3):Int:=smsDep s.2.1
def pre:List (List Tz)→List Tz
 | []=>[]
 | w::ws=>sg wComma::(w++pre ws)
section
variable {tm:List Tk→Res Tm} {B:Nat} (hT:TmOk tm B)
include hT
end
variable {N:Nat}
def LexO (s:List UInt8) (w:List Tz):Prop:=(s=[]∧w=[])∨∃ v,s=32::v∧Lexes v w∧w ≠ []
theorem LexO.nil:LexO [] []:=.inl ⟨rfl,rfl⟩
theorem LexO.mk {v:List UInt8} {w:List Tz} (h:Lexes v w) (hw:w ≠ []):LexO (32::v) w:=.inr ⟨v,rfl,h,hw⟩
theorem wt_back {t:Tm} (h:rgT rsv t=true) {n:Nat} (hn:9*(toks (wr t)).length+8≤n):∃ e,parP n 0 (toks (wr t))=.ok (t,[e])∧e.kd=5:=wr_back (wf_of t h) hn
theorem r_sameTerms (a b:List Tm) (hn:a.length≤9223372036854775807) (h:∀ x∈a,∀ y∈b,Cf En 11 [x.a,y.a] [] (.d (.bool (x.eq y))) []) :
  Cf En 33 [.d (.sl (a.map Tm.c)),.d (.sl (b.map Tm.c))] [] (.d (.bool (agree Tm.eq a b))) []:=by
 refine cf_intro mix (fn:=Tryz.f33) (by kernel_rfl) rfl (by kernel_rfl) (by decide) (by simp) ?_
 by_cases hl:a.length=b.length
 ·have hl':(a.length:Int)=b.length:=by omega
  generalize hres:agree Tm.eq a b=res
  simp [hl,hl']
  refine ⟨.of (by kernel_rfl),.of (by kernel_rfl),.of (by kernel_rfl),?_⟩
  refine aloopT mix (by decide) (fun i:Nat=>{ s:=mkS [(0,.d (.sl (a.map Tm.c))),(1,.d (.sl (b.map Tm.c))),(5,.d (.int .i64 i))],b:=mkB [] }) (fun i:Nat=>i≤b.length∧agree Tm.eq (a.drop i) (b.drop i)=res) (fun i=>b.length - i) 0 (by simp [hres]) (sub_mk _ [] .nil (by simp)) ?_
  rintro i ⟨hi,ho⟩
  by_cases hlt:i<b.length
  ·have hlt':(i:Int)<b.length:=by omega
   have hla:i<a.length:=by omega
   have hg:a[i]?=some a[i]:=List.getElem?_eq_getElem hla
   have hg2:b[i]?=some b[i]:=List.getElem?_eq_getElem hlt
   have hd:=agree_drop (f:=Tm.eq) hg hg2
   have c1:=Tm.clen a[i]
   have c2:=Tm.clen b[i]
   have k1:=Tm.ctake a[i]
   have k2:=Tm.ctake b[i]
   simp [hl,hlt,hlt',hla,hg,hg2,c1,c2,k1,k2]
   refine ⟨.of (by kernel_rfl),?_⟩
   refine acallT_plain (h a[i] (List.getElem_mem hla) b[i] (List.getElem_mem hlt)) (by simp [Tm.a]) ?_
   simp
   refine ⟨.of (by kernel_rfl),fun h=>⟨.of (by kernel_rfl),?_⟩,fun h=>⟨.of (by kernel_rfl),i+1,⟨hlt,?_⟩,?_,?_⟩⟩
   ·rw [← ho,hd,h]; rfl
   ·rw [← ho,hd,h]; rfl
   ·refine sub_mk _ [] .nil ?_
    simp
    exact wrap_in (by omega) (by omega)
   ·simp; omega
  ·have hlt':¬ (i:Int)<b.length:=by omega
   simp [hl,hlt,hlt']
   refine ⟨.of (by kernel_rfl),.of (by kernel_rfl),?_⟩
   rw [← ho,agree_end (by omega) (by omega)]
 ·have hl':¬ (a.length:Int)=b.length:=by omega
  rw [agree_len a b hl]
  simp [hl,hl']
  exact ⟨.of (by kernel_rfl),.of (by kernel_rfl),.of (by kernel_rfl)⟩
theorem r_sameTerm:∀ (m:Nat) (x y:Tm),SizeOf.sizeOf x<m→x.fits→Cf En 11 [x.a,y.a] [] (.d (.bool (x.eq y))) []
 | 0,_,_,h,_=>absurd h (by omega)
 | m+1,.mk o y n t q ks,.mk o' y' n' t' q' ks',hm,hfit=>by
   refine cf_intro mix (fn:=Tryz.f11) (by kernel_rfl) rfl (by kernel_rfl) (by decide) (by simp) ?_
   rw [Tm.fits] at hfit
   have hq:=r_sameTerms ks ks' hfit.1 fun x hx z _=>r_sameTerm m x z (by
    have:=Tm.kid_lt (e:=.mk o y n t q ks) (k:=x) hx
    omega) (tmsFits_get ks hfit.2 x hx)
   rw [Tm.eq,tmsEq_agree]
   simp [Tm.a,Tm.c,tmsC_map]
   (repeat' (first|contradiction|exact .ok|apply And.intro|intro _|(refine gc (fun h=>?_) (fun h=>?_)<;>(have h':=h;(try simp at h');first|done|simp[h,h']|simp))))
   all_goals first | (refine acallT_plain hq (by simp) ?_; simp; (repeat' (first | contradiction | exact .of (by kernel_rfl) | refine And.intro ?_ ?_ | intro _ | (refine agrd_cases (fun h=>?_) (fun h=>?_) <;> (have h':=h; (try simp at h'); first | done | simp [h,h'] | simp))))) | skip
   all_goals simp_all


theorem all_drop {α:Type} {p:α→Bool} {l:List α} {i:Nat} {x:α} (h:l[i]?=some x):(l.drop i).all p=(p x&&(l.drop (i+1)).all p):=by
 obtain ⟨hi,rfl⟩:=List.getElem?_eq_some_iff.1 h
 rw [List.drop_eq_getElem_cons hi,List.all_cons]
theorem all_end {α:Type} {p:α→Bool} {l:List α} {i:Nat} (h:l.length≤i):(l.drop i).all p=true:=by rw [List.drop_eq_nil_of_le h]; rfl
theorem r_rights (l:List Tm) (hl:l.length≤9223372036854775807) (h:∀ x∈l,Cf Es 24 [x.a] [] (.d (.bool x.right)) []) :
  Cf Es 54 [.d (.sl (l.map Tm.c))] [] (.d (.bool (l.all Tm.right))) []:=by
 refine cf_intro mixs (fn:=Tryz.f54) (by kernel_rfl) rfl (by kernel_rfl) (by decide) (by simp) ?_
 generalize hR:l.all Tm.right=R
 simp
 (repeat refine ⟨.of (by kernel_rfl),?_⟩)
 refine aloopT mixs (by decide) (fun i:Nat=>{ s:=mkS [(0,.d (.sl (l.map Tm.c))),(3,.d (.int .i64 i))],b:=mkB [] }) (fun i:Nat=>i≤l.length∧(l.drop i).all Tm.right=R) (fun i=>l.length - i) 0 (by simp [hR]) (sub_mk _ [] .nil (by simp)) ?_
 rintro i ⟨hi,ho⟩
 by_cases hlt:i<l.length
 ·have hlt':(i:Int)<l.length:=by omega
  obtain ⟨x,hg⟩:∃ x,l[i]?=some x:=⟨_,List.getElem?_eq_getElem hlt⟩
  have hgi:∀ h,l[i]'h=x:=fun h=>(List.getElem?_eq_some_iff.1 hg).2
  have hx:=h x (List.mem_of_getElem? hg)
  rw [all_drop hg] at ho
  have c1:=x.clen
  have k1:=x.ctake
  generalize x.right=X at *
  simp [hlt,hlt',hg,hgi,c1,k1]
  (repeat refine ⟨.of (by kernel_rfl),?_⟩)
  refine acallT_plain hx (by simp [Tm.a]) ?_
  simp
  refine ⟨.of (by kernel_rfl),fun h=>⟨.of (by kernel_rfl),?_⟩,fun h=>⟨.of (by kernel_rfl),i+1,⟨hlt,?_⟩,sub_mk _ [] .nil ?_,?_⟩⟩
  ·rw [← ho,h]; rfl
  ·rw [← ho,h]; rfl
  ·simp; exact wrap_in (by omega) (by omega)
  ·simp; omega
 ·have hlt':¬ (i:Int)<l.length:=by omega
  rw [all_end (by omega)] at ho
  simp [hlt,hlt']
  (repeat refine ⟨.of (by kernel_rfl),?_⟩)
  exact ho.symm
theorem r_right:∀ (m:Nat) (x:Tm),SizeOf.sizeOf x<m→x.fits→Cf Es 24 [x.a] [] (.d (.bool x.right)) []
 | 0,_,h,_=>absurd h (by omega)
 | m+1,.mk o y n t q ks,hm,hfit=>by
   refine cf_intro mixs (fn:=Tryz.f24) (by kernel_rfl) rfl (by kernel_rfl) (by decide) (by simp) ?_
   rw [Tm.fits] at hfit
   have h1:=r_plain o y n t q ks ks.length
   have h2:=r_rights ks hfit.1 fun x hx=>r_right m x (by
    have:=Tm.kid_lt (e:=.mk o y n t q ks) (k:=x) hx
    omega) (tmsFits_get ks hfit.2 x hx)
   rw [Tm.right,tmsRight_all]
   generalize hK:ks.all Tm.right=K at *
   generalize hO:okK o y n t q ks.length=O at *
   simp [Tm.a,Tm.c,tmsC_map]
   (repeat refine ⟨.of (by kernel_rfl),?_⟩)
   refine acallT_plain h1 (by simp [Tm.a,Tm.c,tmsC_map]) ?_
   simp [tmsC_map]
   (repeat' (first|contradiction|exact .ok|apply And.intro|intro _|(refine gc (fun h=>?_) (fun h=>?_)<;>(have h':=h;(try simp at h');first|done|simp[h,h',tmsC_map]|simp[tmsC_map]))))
   all_goals first | (refine acallT_plain h2 (by simp) ?_; simp; (repeat' (first | contradiction | exact .of (by kernel_rfl) | refine And.intro ?_ ?_ | intro _ | (refine agrd_cases (fun h=>?_) (fun h=>?_) <;> (have h':=h; (try simp at h'); first | done | simp [h,h'] | simp))))) | skip
   all_goals simp_all
theorem r_validTerm (x:Tm) (hf:x.fits):Cf Es 8 [x.a] [] (.d (.bool (decide (x.dep≤24)&&x.right))) []:=by
 refine cf_intro mixs (fn:=Tryz.f8) (by kernel_rfl) rfl (by kernel_rfl) (by decide) (by simp) ?_
 have h1:=r_right _ x (Nat.lt_succ_self _) hf
 have h2:=ups (r_termDepth _ x (Nat.lt_succ_self _) hf)
 have c1:=x.clen
 have k1:=x.ctake
 simp [Tm.a,c1,k1]
 (repeat refine ⟨.of (by kernel_rfl),?_⟩)
 refine acallT_plain h1 (by simp [Tm.a]) ?_
 simp [c1,k1]
 (repeat' (first|contradiction|exact .ok|apply And.intro|intro _|(refine gc (fun h=>?_) (fun h=>?_)<;>(have h':=h;(try simp at h');first|done|simp[h,h',c1,k1]|simp[c1,k1]))))
 all_goals first | (refine acallT_plain h2 (by simp [Tm.a]) ?_; simp; (repeat' (first | contradiction | exact .of (by kernel_rfl) | refine And.intro ?_ ?_ | intro _ | (refine agrd_cases (fun h=>?_) (fun h=>?_) <;> (have h':=h; (try simp at h'); first | done | simp [h,h'] | simp))))) | skip
 all_goals simp_all
mutual
def Tm.few (d:Int):Tm→Bool
 | .mk _ _ _ t q ks=>decide (d≤40)&&(decide (ks.length≤8)&&(decide (t.length≤100)&&(decide (q.length≤100)&&tmsFew (up1 d) ks)))
def tmsFew (d:Int):List Tm→Bool
 | []=>true
 | e::es=>e.few d&&tmsFew d es
end
theorem tmsFew_all (d:Int):∀ l:List Tm,tmsFew d l=l.all fun e=>e.few d
 | []=>by rw [tmsFew]; rfl
 | e::es=>by rw [tmsFew,tmsFew_all d es]; rfl
def tsFew (l:List Tm):Bool:=decide (l.length≤10)&&tmsFew 0 l
mutual
def Sm.few (d:Int):Sm→Bool
 | .mk _ _ _ _ is ft fq fn js w g h ks=>decide (d≤30)&&(decide (is.length≤10)&&(decide (js.length≤8)&&(decide (ks.length≤6)&&(tsFew w&&(tsFew g&&(tsFew h &&
   ((decide (fq.length≤6)&&(decide (fn.length≤100)&&(decide (ft.length≤100)&&smsFew (up1 d) fq)))&&((is.all fun i=>i.t.few 0)&&(josFew d js&&smsFew (up1 d) ks)))))))))
def Jo.few (d:Int):Jo→Bool
 | .mk _ t q n o=>tsFew o&&(decide (q.length≤6)&&(decide (n.length≤100)&&(decide (t.length≤100)&&smsFew (up1 d) q)))
def smsFew (d:Int):List Sm→Bool
 | []=>true
 | e::es=>e.few d&&smsFew d es
def josFew (d:Int):List Jo→Bool
 | []=>true
 | e::es=>e.few d&&josFew d es
end
theorem l_termFew:∀ (m:Nat) (x:Tm) (d:Int),SizeOf.sizeOf x<m→Cf En 19 [x.a,.d (.int .i64 d)] [] (.d (.bool (x.few d))) []
 | 0,_,_,h=>absurd h (by omega)
 | m+1,.mk o y n t q ks,d,hm=>by
   refine cf_intro mix (fn:=Tryz.f19) (by kernel_rfl) rfl (by kernel_rfl) (by decide) (by simp) ?_
   have hq:=fun (x:Tm) (hx:x∈ks)=>l_termFew m x (up1 d) (by
    have:=Tm.kid_lt (e:=.mk o y n t q ks) (k:=x) hx
    omega)
   rw [Tm.few,tmsFew_all]
   generalize hR:(ks.all fun e=>e.few (up1 d))=R
   by_cases hA:d≤40∧ks.length≤8∧t.length≤100∧q.length≤100
   ·obtain ⟨a1,a2,a3,a4⟩:=hA
    have b1:¬ (40:Int)<d:=by omega
    have b2:¬ (8:Int)<ks.length:=by omega
    have b3:¬ (100:Int)<t.length:=by omega
    have b4:¬ (100:Int)<q.length:=by omega
    rw [show (decide (d≤40)&&(decide (ks.length≤8)&&(decide (t.length≤100)&&(decide (q.length≤100)&&R))))=R by simp [a1,a2,a3,a4]]
    simp [Tm.a,Tm.c,tmsC_map,a1,a2,a3,a4,b1,b2,b3,b4]
    (repeat refine ⟨.of (by kernel_rfl),?_⟩)
    refine aloopT mix (by decide) (fun i:Nat=>{ s:=mkS [(1,.d (.int .i64 d)),(2,.ptr 2 0 0),(5,.d (.int .i64 i))],b:=mkB [(2,2,.var (Tm.a (.mk o y n t q ks)).cells)] }) (fun i:Nat=>i≤ks.length∧((ks.drop i).all fun e=>e.few (up1 d))=R) (fun i=>ks.length - i) 0 (by simp [hR]) (sub_mk _ _ ⟨by simp,by simp,by simp [renOf,Blk.live,Tm.a,Tm.c,tmsC_map],by simp⟩ (by simp [renOf])) ?_
    rintro i ⟨hi,ho⟩
    by_cases hlt:i<ks.length
    ·have hlt':(i:Int)<ks.length:=by omega
     obtain ⟨x,hg⟩:∃ x,ks[i]?=some x:=⟨_,List.getElem?_eq_getElem hlt⟩
     have hgi:∀ h,ks[i]'h=x:=fun h=>(List.getElem?_eq_some_iff.1 hg).2
     rw [all_drop hg] at ho
     have hx:=hq x (List.mem_of_getElem? hg)
     have c1:=x.clen
     have k1:=x.ctake
     generalize x.few (up1 d)=X at *
     have hu:up1 d=IntKind.i64.wrap (d+1):=rfl
     simp [Tm.a,Tm.c,tmsC_map,hlt,hlt',hg,hgi,c1,k1]
     (repeat refine ⟨.of (by kernel_rfl),?_⟩)
     refine acallT_plain hx (by simp [Tm.a,hu]) ?_
     simp
     refine ⟨.of (by kernel_rfl),fun h=>⟨.of (by kernel_rfl),?_⟩,fun h=>⟨.of (by kernel_rfl),i+1,⟨hlt,?_⟩,sub_mk _ [(2,2,_)] ⟨by simp,by simp,by simp [renOf,Blk.live,Tm.a,Tm.c,tmsC_map],by simp⟩ ?_,?_⟩⟩
     ·rw [← ho,h]; rfl
     ·rw [← ho,h]; rfl
     ·simp [renOf]; exact wrap_in (by omega) (by omega)
     ·simp; omega
    ·have hlt':¬ (i:Int)<ks.length:=by omega
     rw [all_end (by omega)] at ho
     simp [Tm.a,Tm.c,tmsC_map,hlt,hlt']
     (repeat refine ⟨.of (by kernel_rfl),?_⟩)
     exact ho.symm
   ·have hF:(decide (d≤40)&&(decide (ks.length≤8)&&(decide (t.length≤100)&&(decide (q.length≤100)&&R))))=false:=by
     cases hx:(decide (d≤40)&&(decide (ks.length≤8)&&(decide (t.length≤100)&&(decide (q.length≤100)&&R)))) with
     | false=>rfl
     | true =>
       simp only [Bool.and_eq_true,decide_eq_true_eq] at hx
       exact absurd ⟨hx.1,hx.2.1,hx.2.2.1,hx.2.2.2.1⟩ hA
    rw [hF]
    clear hF hq hR
    simp [Tm.a,Tm.c,tmsC_map]
    (repeat' (first|contradiction|exact .ok|apply And.intro|intro _|(refine gc (fun h=>?_) (fun h=>?_)<;>(have h':=h;(try simp at h');first|done|simp[h,h',tmsC_map]|simp[tmsC_map]))))
    all_goals (exfalso; apply hA; refine ⟨?_,?_,?_,?_⟩ <;> omega)
theorem up1_nat {d:Nat} (h:d≤100000):up1 (d:Int)=((d+1:Nat):Int):=by unfold up1; rw [wrap_in (by omega) (by omega)]; omega
theorem tm_few {o y n:Int} {t q:List UInt8} {ks:List Tm} {d:Nat} (h:(Tm.mk o y n t q ks).few d=true):d≤40∧ks.length≤8∧t.length≤100∧∀ x∈ks,x.few ((d+1:Nat):Int)=true:=by
 rw [Tm.few] at h
 simp only [Bool.and_eq_true,decide_eq_true_eq] at h
 obtain ⟨hd,hk,ht,_,hl⟩:=h
 have hd':d≤40:=by omega
 rw [tmsFew_all,List.all_eq_true,up1_nat (by omega)] at hl
 exact ⟨hd',hk,ht,hl⟩
def nmsT:List (List UInt8):=[[97],[98],[105,100],[99,48],[99,49]]
def qlsT:List (List UInt8):=[[116,48],[120]]
def valW (L:List Int) (i:Nat) (k:Int):V:=((valuesOf k)[(1+nextV L i ((valuesOf k).length - 1)).toNat]?).getD nulV
def nmT (z:Int):List UInt8:=(nmsT[z.toNat]?).getD []
def qlT (z:Int):List UInt8:=(qlsT[z.toNat]?).getD []
def leafT (L:List Int) (i:Nat):Tm×Nat :=
 if nextV L i 6=0 then (.mk 1 (1+nextV L (i+1) 3) 0 [] [] [],i+2)
 else if nextV L i 6=1 then (.mk 2 0 (valW L (i+1) 1).n [] [] [],i+2)
 else if nextV L i 6=2 then (.mk 3 0 (nextV L (i+1) 2) [] [] [],i+2)
 else if nextV L i 6=3 then (.mk 4 0 0 (valW L (i+1) 3).t [] [],i+2)
 else if nextV L i 6=4 then (.mk 40 0 0 (nmT (nextV L (i+1) 5)) (qlT (nextV L (i+2) 2)) [],i+3)
 else (.mk 40 0 0 (nmT (nextV L (i+1) 5)) [] [],i+2)
def kidsT (g:Nat→Tm×Nat):Nat→Nat→List Tm×Nat
 | 0,s=>([],s)
 | n+1,s=>((kidsT g n s).1++[(g (kidsT g n s).2).1],(g (kidsT g n s).2).2)
theorem kidsT_len (g:Nat→Tm×Nat):∀ (n s:Nat),(kidsT g n s).1.length=n
 | 0,_=>rfl
 | n+1,s=>by simp [kidsT,kidsT_len g n s]
def ndT (g:Nat→Tm×Nat) (op:Int) (n s:Nat):Tm×Nat:=(.mk op 0 0 [] [] (kidsT g n s).1,(kidsT g n s).2)
def nodeT (L:List Int) (g:Nat→Tm×Nat) (i:Nat):Tm×Nat :=
 if nextV L i 8=0 then
  (if nextV L (i+1) 6=0 then (.mk 41 0 1 [] [] [],i+2) else (.mk 41 0 (1+nextV L (i+1) 6) [] [] [(g (i+2)).1],(g (i+2)).2))
 else if 6+nextV L (i+1) 23=11∨6+nextV L (i+1) 23=13∨6+nextV L (i+1) 23=21∨6+nextV L (i+1) 23=24∨6+nextV L (i+1) 23=25 then ndT g (6+nextV L (i+1) 23) 1 (i+2)
 else if 6+nextV L (i+1) 23=26 then ndT g 26 3 (i+2)
 else if 6+nextV L (i+1) 23=28 then ndT g 28 (2+nextV L (i+2) 3).toNat (i+3)
 else ndT g (6+nextV L (i+1) 23) 2 (i+2)
def termG (L:List Int):Nat→Nat→Tm×Nat
 | 0,i=>leafT L i
 | d+1,i=>if d=0 then leafT L i else if nextV L i 4=0 then leafT L (i+1) else nodeT L (termG L d) (i+1)
def tb:Nat→Nat
 | 0=>3
 | d+1=>10+5*tb d
theorem leafT_le (L:List Int) (i:Nat):(leafT L i).2≤i+3:=by
 unfold leafT
 repeat' split
 all_goals simp
theorem kidsT_le (g:Nat→Tm×Nat) (G:Nat) (hle:∀ j:Nat,j+G≤1000000→(g j).2≤j+G):∀ (n i:Nat),i+n*G≤1000000→(kidsT g n i).2≤i+n*G
 | 0,i,_=>by simp [kidsT]
 | n+1,i,h=>by
   rw [Nat.succ_mul] at h
   have h1:=kidsT_le g G hle n i (by omega)
   have h2:=hle (kidsT g n i).2 (by omega)
   simp only [kidsT]
   rw [Nat.succ_mul]
   omega
theorem nodeT_le (L:List Int) (g:Nat→Tm×Nat) (G:Nat) (hle:∀ j:Nat,j+G≤1000000→(g j).2≤j+G) (i:Nat) (hi:i+3+5*G≤1000000):(nodeT L g i).2≤i+3+5*G:=by
 have k:∀ (op:Int) (n s:Nat),n≤4→s≤i+3→(ndT g op n s).2≤i+3+5*G:=fun op n s hn hs=>by
  have hm:n*G≤4*G:=Nat.mul_le_mul_right _ hn
  have:=kidsT_le g G hle n s (by omega)
  simp only [ndT]; omega
 have h3:=nextV_in L (i+2) (n:=3) (by omega)
 have h1:=hle (i+2) (by omega)
 unfold nodeT
 split
 ·split
  ·simp; omega
  ·simp; omega
 split
 ·exact k _ 1 _ (by omega) (by omega)
 split
 ·exact k _ 3 _ (by omega) (by omega)
 split
 ·exact k _ _ _ (by omega) (by omega)
 ·exact k _ 2 _ (by omega) (by omega)
theorem termG_le (L:List Int):∀ (d i:Nat),i+tb d≤1000000→(termG L d i).2≤i+tb d
 | 0,i,_=>leafT_le L i
 | d+1,i,h=>by
   have hl:=leafT_le L i
   have hl1:=leafT_le L (i+1)
   simp only [tb] at h ⊢
   rw [termG]
   split
   ·omega
   split
   ·omega
   ·have:=nodeT_le L (termG L d) (tb d) (fun j hj=>termG_le L d j hj) (i+1) (by omega)
    omega
theorem valW_mem (L:List Int) (i:Nat) (k:Int) (h:2≤(valuesOf k).length):valW L i k∈valuesOf k:=by
 have hn:=nextV_in L i (n:=(valuesOf k).length - 1) (by omega)
 have hlt:(1+nextV L i ((valuesOf k).length - 1)).toNat<(valuesOf k).length:=by omega
 unfold valW
 rw [List.getElem?_eq_getElem hlt]
 exact List.getElem_mem hlt
theorem few_nil (o y n:Int) (t q:List UInt8) (d:Nat) (hd:d≤40) (ht:t.length≤100) (hq:q.length≤100):(Tm.mk o y n t q []).few d=true:=by
 rw [Tm.few,tmsFew]
 simp; omega
theorem nmT_len (z:Int):(nmT z).length≤100:=by
 have:∀ x∈nmsT,x.length≤100:=by decide
 unfold nmT
 cases h:nmsT[z.toNat]? with
 | none=>simp
 | some x=>exact this x (List.mem_of_getElem? h)
theorem qlT_len (z:Int):(qlT z).length≤100:=by
 have:∀ x∈qlsT,x.length≤100:=by decide
 unfold qlT
 cases h:qlsT[z.toNat]? with
 | none=>simp
 | some x=>exact this x (List.mem_of_getElem? h)
theorem leafT_few (L:List Int) (i d:Nat) (hd:d≤40):(leafT L i).1.few d=true:=by
 have h3:∀ x∈valuesOf 3,x.t.length≤100:=by decide
 have hv:=h3 _ (valW_mem L (i+1) 3 (by decide))
 unfold leafT
 repeat' split
 all_goals exact few_nil _ _ _ _ _ d hd (by first | exact Nat.zero_le _ | exact hv | exact nmT_len _) (by first | exact Nat.zero_le _ | exact qlT_len _)
theorem few_node (o y n:Int) (ks:List Tm) (d:Nat) (hd:d≤40) (hk:ks.length≤8) (h:∀ x∈ks,x.few ((d+1:Nat):Int)=true):(Tm.mk o y n [] [] ks).few d=true:=by
 rw [Tm.few,tmsFew_all,up1_nat (by omega)]
 simp only [Bool.and_eq_true,decide_eq_true_eq,List.all_eq_true]
 exact ⟨by omega,hk,by simp,by simp,h⟩
theorem kidsT_few (g:Nat→Tm×Nat) (p:Tm→Prop) (h:∀ j,p (g j).1):∀ (n s:Nat),∀ x∈(kidsT g n s).1,p x
 | 0,s,x,hx=>by cases hx
 | n+1,s,x,hx=>by
   simp only [kidsT,List.mem_append,List.mem_singleton] at hx
   rcases hx with hx | rfl
   ·exact kidsT_few g p h n s x hx
   ·exact h _
theorem termG_few (L:List Int):∀ (d i q:Nat),q+d≤40→(termG L d i).1.few q=true
 | 0,i,q,h=>leafT_few L i q (by omega)
 | d+1,i,q,h=>by
   have hl:=leafT_few L i q (by omega)
   have hl1:=leafT_few L (i+1) q (by omega)
   have k:∀ (op:Int) (n s:Nat),n≤4→(ndT (termG L d) op n s).1.few q=true:=fun op n s hn=>by
    simp only [ndT]
    exact few_node _ _ _ _ q (by omega) (by rw [kidsT_len]; omega) (kidsT_few _ (fun x=>x.few ((q+1:Nat):Int)=true) (fun j=>termG_few L d j (q+1) (by omega)) n s)
   have h3:=nextV_in L (i+1+2) (n:=3) (by omega)
   rw [termG]
   split
   ·exact hl
   split
   ·exact hl1
   unfold nodeT
   split
   ·split
    ·exact few_nil _ _ _ _ _ q (by omega) (by simp) (by simp)
    ·refine few_node _ _ _ _ q (by omega) (by simp) ?_
     intro x hx
     simp only [List.mem_singleton] at hx
     subst hx
     exact termG_few L d _ (q+1) (by omega)
   split
   ·exact k _ 1 _ (by omega)
   split
   ·exact k _ 3 _ (by omega)
   split
   ·exact k _ _ _ (by omega)
   ·exact k _ 2 _ (by omega)
theorem fits_of_few:∀ (m:Nat) (x:Tm),SizeOf.sizeOf x<m→∀ d:Nat,x.few d=true→x.fits
 | 0,_,h,_,_=>absurd h (by omega)
 | m+1,.mk o y n t q ks,hm,d,h=>by
   obtain ⟨hd,hk,ht,hl⟩:=tm_few h
   rw [Tm.fits]
   refine ⟨by omega,?_⟩
   have:∀ l:List Tm,(∀ x∈l,x.fits)→tmsFits l:=by
    intro l
    induction l with
    | nil=>intro _; rw [tmsFits]; trivial
    | cons e es ih=>intro h; rw [tmsFits]; exact ⟨h e List.mem_cons_self,ih fun x hx=>h x (List.mem_cons_of_mem _ hx)⟩
   exact this ks fun x hx=>fits_of_few m x (by have:=Tm.kid_lt (e:=.mk o y n t q ks) (k:=x) hx; omega) (d+1) (hl x hx)
theorem l_FewTerm (x:Tm):Cf Es 5 [x.a] [] (.d (.bool (x.few 0))) []:=by
 refine cf_intro mixs (fn:=Tryz.f5) (by kernel_rfl) rfl (by kernel_rfl) (by decide) (by simp) ?_
 have c1:=x.clen
 have k1:=x.ctake
 have h1:=ups (l_termFew _ x 0 (Nat.lt_succ_self _))
 simp [Tm.a,c1,k1]
 (repeat refine ⟨.of (by kernel_rfl),?_⟩)
 refine acallT_plain h1 (by simp [Tm.a]) ?_
 simp
 all_goals exact gz
end Go.Proofs.Tryz
