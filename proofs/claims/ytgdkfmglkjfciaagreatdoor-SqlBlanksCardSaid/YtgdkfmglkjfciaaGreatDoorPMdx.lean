import Derived.Test.YtgdkfmglkjfciaaGreatDoorPrj
import Derived.Test.YtgdkfmglkjfciaaGreatDoorPExc0
import Derived.Test.YtgdkfmglkjfciaaGreatDoorPFdx
import Derived.Test.YtgdkfmglkjfciaaGreatDoorPTpn
import Derived.Test.YtgdkfmglkjfciaaGreatDoorPRqs
set_option linter.all false
namespace Go.Proofs.Tryz
open Go.Ab
set_option maxRecDepth 100000
set_option maxHeartbeats 4000000
theorem Sm.ctake' (e:Sm):List.take 13 e.c=e.c:=List.take_of_length_le (by simp [Sm.clen])
theorem Jo.ctake' (e:Jo):List.take 5 e.c=e.c:=List.take_of_length_le (by simp [Jo.clen])
theorem It.ctake' (e:It):List.take 7 e.c=e.c:=List.take_of_length_le (by simp [It.clen])
@[simp] theorem takeS (t:Sm) (l:List D):List.take 13 (t.c++l)=t.c:=by rw [List.take_append_of_le_length (by rw [Sm.clen]; omega)]; exact List.take_of_length_le (by rw [Sm.clen]; omega)
@[simp] theorem dropS (t:Sm) (l:List D):List.drop 13 (t.c++l)=l:=by rw [List.drop_append_of_le_length (by rw [Sm.clen]; omega),List.drop_of_length_le (by rw [Sm.clen]; omega)]; rfl
@[simp] theorem dropSm (t:Sm):List.drop 13 (t.c.map AV.d)=[]:=List.drop_of_length_le (by simp [Sm.clen])
attribute [simp] Sm.clen Sm.ctake Sm.ctake' Sm.a smsC_map josC_map
attribute [simp] wSelect wFrom wAs wAll wJoin wOn wWhere wGroup wBy wHaving setW joiW
def outX {α:Type} (en:α→AV) (fD:Nat→D) (T:List Tk) (r:Res α):Out:=match r with
 | .error p=>.pan (fD p)
 | .ok (x,m)=>.ret (en x) [rdB T m]
structure RuleX {α:Type} (en:α→AV) (E:Env) (fD:Nat→D) (T:List Tk) (L:Nat) (f:FuncId) (p:List Tk→Res α):Prop where
 run:∀ l,At T l→l.length≤L→CfO E f [.ptr 1000000 0 0] [rdB T l] (outX en fD T (p l))
 sfx:∀ l,SfxOk (p l) l
 ok:∀ l t m,okE l→p l=.ok (t,m)→okE m
section
variable {α:Type} {en:α→AV} {E:Env} {fD:Nat→D} {T:List Tk} {L:Nat} {f:FuncId} {p:List Tk→Res α}
theorem RuleX.step (h:RuleX en E fD T L f p) {l:List Tk} (ha:At T l) (hl:l.length≤L) :
  (∃ e,p l=.error e∧CfX panE E f [.ptr 1000000 0 0] [rdB T l] (.d (fD e)) (deadB 1)) ∨
  (∃ t m,p l=.ok (t,m)∧At T m∧m.length≤l.length∧Cf E f [.ptr 1000000 0 0] [rdB T l] (en t) [rdB T m]):=by
 have h1:=h.run l ha hl
 cases hp:p l with
 | error e=>rw [hp] at h1; exact .inl ⟨e,rfl,h1⟩
 | ok x =>
   obtain ⟨t,m⟩:=x
   rw [hp] at h1
   exact .inr ⟨t,m,rfl,ha.to (h.sfx l t m hp) (h.ok l t m ha.ok hp),(h.sfx l t m hp).length_le,h1⟩
end
def So.a (s:So):AV:=soA s.1 s.2.1 s.2.2
section
variable {fD:Nat→D} {T l:List Tk} {L:Nat} {st:List Tk→Res Sm}
theorem p_source (hF:FailOk fD) (hs:RuleX Sm.a Es fD T L 13 st) (hT:T.length≤10000) (ha:At T l) (hl:l.length≤L+1) :
  CfO Es 64 [.ptr 1000000 0 0] [rdB T l] (outX So.a fD T (sourceS st l)):=by
 generalize ho:outX So.a fD T (sourceS st l)=o
 unfold sourceS at ho
 refine cfO_intro mixs (fn:=Tryz.f64) (by kernel_rfl) rfl (by kernel_rfl) (by decide) o (by simp) (by simp [rdB]) ?_
 cases hw:isW wOpen l with
 | true =>
   rw [hw,if_pos rfl] at ho
   have hlen:=isW_len hw
   simp<;>(repeat' first|contradiction|exact .ok|apply And.intro|intro _|(refine gc (fun h=>?_) (fun h=>?_)<;>(have h':=h;(try simp at h');first|done|simp[h,h']|simp)))
   refine acallP_of (acallT_hand [1000000] (take_yes ha hT hw) (by simp) (by simp) (by simp) (by simp) (by simp) ?_)
   simp<;>(repeat' first|contradiction|exact .ok|apply And.intro|intro _|(refine gc (fun h=>?_) (fun h=>?_)<;>(have h':=h;(try simp at h');first|done|simp[h,h']|simp)))
   rcases hs.step (ha.tl hw) (by omega) with ⟨e,he,hc⟩ | ⟨x,l1,he,h1,hl1,hc⟩
   ·rw [he,bind2_err] at ho
    subst ho
    exact acallP_pan [1000000] (hc) (by simp) (by simp) (by simp) (by simp) (by kernel_rfl)
   rw [he,bind2_ok] at ho
   refine acallP_of (acallT_hand [1000000] (hc) (by simp) (by simp) (by simp) (by simp) (by simp) ?_)
   simp<;>(repeat' first|contradiction|exact .ok|apply And.intro|intro _|(refine gc (fun h=>?_) (fun h=>?_)<;>(have h':=h;(try simp at h');first|done|simp[h,h']|simp)))
   rcases exp_step hF h1 hT [wShut,wAs] (by decide) with ⟨e,he2,hc2⟩ | ⟨l2,he2,h2,hl2,hc2⟩
   ·rw [he2] at ho
    subst ho
    exact acallP_pan [1000000] (hc2) (by simp) (by simp) (by simp) (by simp) (by kernel_rfl)
   rw [he2,bind1_ok] at ho
   refine acallP_of (acallT_hand [1000000] (hc2) (by simp) (by simp) (by simp) (by simp) (by simp) ?_)
   simp<;>(repeat' first|contradiction|exact .ok|apply And.intro|intro _|(refine gc (fun h=>?_) (fun h=>?_)<;>(have h':=h;(try simp at h');first|done|simp[h,h']|simp)))
   rcases name_step hF h2 hT with ⟨e,he3,hc3⟩ | ⟨n,l3,he3,h3,hl3,hc3⟩
   ·rw [he3,bind2_err] at ho
    subst ho
    exact acallP_pan [1000000] (hc3) (by simp) (by simp) (by simp) (by simp) (by kernel_rfl)
   rw [he3,bind2_ok] at ho
   subst ho
   refine acallP_of (acallT_hand [1000000] (hc3) (by simp) (by simp) (by simp) (by simp) (by simp) ?_)
   simp only [outX]
   simp [So.a,soA,soC]<;>(repeat' first|contradiction|exact .ok|apply And.intro|intro _|(refine gc (fun h=>?_) (fun h=>?_)<;>(have h':=h;(try simp at h');first|done|simp[h,h',So.a,soA,soC]|simp[So.a,soA,soC])))
 | false =>
   rw [hw,if_neg (by simp)] at ho
   simp<;>(repeat' first|contradiction|exact .ok|apply And.intro|intro _|(refine gc (fun h=>?_) (fun h=>?_)<;>(have h':=h;(try simp at h');first|done|simp[h,h']|simp)))
   refine acallP_of (acallT_hand [1000000] (take_no ha hT hw) (by simp) (by simp) (by simp) (by simp) (by simp) ?_)
   simp<;>(repeat' first|contradiction|exact .ok|apply And.intro|intro _|(refine gc (fun h=>?_) (fun h=>?_)<;>(have h':=h;(try simp at h');first|done|simp[h,h']|simp)))
   rcases name_step hF ha hT with ⟨e,he3,hc3⟩ | ⟨n,l3,he3,h3,hl3,hc3⟩
   ·rw [he3,bind2_err] at ho
    subst ho
    exact acallP_pan [1000000] (hc3) (by simp) (by simp) (by simp) (by simp) (by kernel_rfl)
   rw [he3,bind2_ok] at ho
   refine acallP_of (acallT_hand [1000000] (hc3) (by simp) (by simp) (by simp) (by simp) (by simp) ?_)
   simp<;>(repeat' first|contradiction|exact .ok|apply And.intro|intro _|(refine gc (fun h=>?_) (fun h=>?_)<;>(have h':=h;(try simp at h');first|done|simp[h,h']|simp)))
   unfold asS at ho
   cases hw2:isW wAs l3 with
   | true =>
     rw [hw2,if_pos rfl] at ho
     refine acallP_of (acallT_hand [1000000] (take_yes h3 hT hw2) (by simp) (by simp) (by simp) (by simp) (by simp) ?_)
     simp<;>(repeat' first|contradiction|exact .ok|apply And.intro|intro _|(refine gc (fun h=>?_) (fun h=>?_)<;>(have h':=h;(try simp at h');first|done|simp[h,h']|simp)))
     rcases name_step hF (h3.tl hw2) hT with ⟨e,he4,hc4⟩ | ⟨n4,l4,he4,h4,hl4,hc4⟩
     ·rw [he4,bind2_err] at ho
      subst ho
      exact acallP_pan [1000000] (hc4) (by simp) (by simp) (by simp) (by simp) (by kernel_rfl)
     rw [he4,bind2_ok] at ho
     subst ho
     refine acallP_of (acallT_hand [1000000] (hc4) (by simp) (by simp) (by simp) (by simp) (by simp) ?_)
     simp only [outX]
     simp [So.a,soA,soC]<;>(repeat' first|contradiction|exact .ok|apply And.intro|intro _|(refine gc (fun h=>?_) (fun h=>?_)<;>(have h':=h;(try simp at h');first|done|simp[h,h',So.a,soA,soC]|simp[So.a,soA,soC])))
   | false =>
     rw [hw2,if_neg (by simp),bind2_ok] at ho
     subst ho
     refine acallP_of (acallT_hand [1000000] (take_no h3 hT hw2) (by simp) (by simp) (by simp) (by simp) (by simp) ?_)
     simp only [outX]
     simp [So.a,soA,soC]<;>(repeat' first|contradiction|exact .ok|apply And.intro|intro _|(refine gc (fun h=>?_) (fun h=>?_)<;>(have h':=h;(try simp at h');first|done|simp[h,h',So.a,soA,soC]|simp[So.a,soA,soC])))
end
def mdW:List (List UInt8):=[[115,101,108,101,99,116],[97],[102,114,111,109],[116],[119,104,101,114,101],[49],[61],[40],[41],[44],[42],[97,115],[97,110,100],[111,114],[110,111,116],[105,115],[110,117,108,108],[116,114,117,101],[106,111,105,110],[111,110],[108,101,102,116],[99,114,111,115,115],[103,114,111,117,112],[98,121],[104,97,118,105,110,103],[99,111,117,110,116],[115,117,109],[100,105,115,116,105,110,99,116],[117,110,105,111,110],[97,108,108],[101,120,99,101,112,116],[39,120,39],[45],[43],[48],[105,110],[99,97,115,101],[119,104,101,110],[116,104,101,110],[101,108,115,101],[101,110,100],[46],[124,124],[60,62],[60,61],[108,101,110,103,116,104],[99,111,97,108,101,115,99,101],[105,110,116],[109,111,100],[115,97,109,101],[98],[39,39],[115,101,109,105],[105,110,116,101,114,115,101,99,116],[102,97,108,115,101],[47],[60],[109,105,110],[48,48,55],[39],[63],[65],[97,98,99,100,101,102,103,104,105,106,107,108,109,110,111,112,113],[49,48,48,48,48,48,48,48,48,48,48,48,49]]
theorem p_words:Cf En 9 [] [] (.d (.sl (mdW.map fun w=>[.str w]))) []:=by
 refine cf_intro mix (fn:=Tryz.f9) (by kernel_rfl) rfl (by kernel_rfl) (by decide) (by simp) ?_
 simp
 (repeat' (first|contradiction|exact .ok|apply And.intro|intro _|(refine gc (fun h=>?_) (fun h=>?_)<;>(have h':=h;(try simp at h');first|done|simp[h,h']|simp))))
 all_goals simp [mdW]
def mdS (L:List Int):Nat→Nat→List UInt8→List UInt8
 | 0,_,out=>out
 | k+1,j,out=>mdS L k (j+2) (out++(mdW[(nextV L j 64).toNat]?).getD []++(if 0<nextV L (j+1) 4 then [32] else []))
theorem mdW_len:∀ w∈mdW,w.length≤20:=by decide
theorem mdW_get (n:Nat):((mdW[n]?).getD []).length≤20:=by
 cases h:mdW[n]? with
 | none=>simp
 | some w=>exact mdW_len w (List.mem_of_getElem? h)
theorem mdS_len (L:List Int):∀ (k j:Nat) (out:List UInt8),(mdS L k j out).length≤out.length+21*k
 | 0,_,out=>by simp [mdS]
 | k+1,j,out=>by
   rw [mdS]
   have h:=mdS_len L k (j+2) (out++(mdW[(nextV L j 64).toNat]?).getD []++(if 0<nextV L (j+1) 4 then [32] else []))
   have h1:=mdW_get (nextV L j 64).toNat
   have h2:(if 0<nextV L (j+1) 4 then [32] else ([]:List UInt8)).length≤1:=by split <;> simp
   simp only [List.length_append] at h
   omega
def mdT (L:List Int):List UInt8:=mdS L (min L.length 60) 0 []
theorem p_made5 (L:List Int):Cf En 5 [.d (.sl (L.map fun n=>[.int .i64 n]))] [] (.d (.str (mdT L))) []:=by
 generalize hres:mdT L=res
 unfold mdT at hres
 refine cf_intro mix (fn:=Tryz.f5) (by kernel_rfl) rfl (by kernel_rfl) (by decide) (by simp) ?_
 simp
 (repeat refine ⟨.of (by kernel_rfl),?_⟩)
 refine acallT_plain p_words (by simp) ?_
 obtain ⟨W,hW⟩:∃ W,W=mdW:=⟨_,rfl⟩
 have hWl:W.length=64:=by rw [hW]; rfl
 rw [← hW]
 simp
 (repeat refine ⟨.of (by kernel_rfl),?_⟩)
 refine aloopT mix (by decide) (fun y:Nat×List UInt8=>{ s:=mkS [(0,.d (.sl (L.map fun n=>[.int .i64 n]))),(3,.ptr 9 0 0),(4,.d (.sl (W.map fun w=>[.str w]))),(5,.d (.str y.2)),(6,.d (.int .i64 y.1))],b:=mkB [(9,9,tapB L ((2*y.1:Nat):Int))] })
  (fun y=>y.1≤L.length∧y.1≤60∧y.2.length≤21*y.1∧mdS L (min L.length 60 - y.1) (2*y.1) y.2=res) (fun y=>60 - y.1) (0,[]) ⟨by simp,by simp,by simp,by simpa using hres⟩
  (sub_mk _ [(9,9,_)] ⟨by simp,by simp,by simp [renOf,Blk.live,tapB],by simp⟩ (by simp [renOf])) ?_
 rintro ⟨i,out⟩ ⟨hi,hi60,hol,hr⟩
 simp only at hi hi60 hol hr
 by_cases hlt:i<min L.length 60
 ·have h1:(i:Int)<(L.length:Int):=by omega
  have h2:(i:Int)<60:=by omega
  obtain ⟨k,hk⟩:∃ k,min L.length 60 - i=k+1:=⟨min L.length 60 - i - 1,by omega⟩
  rw [hk,mdS] at hr
  have n1:=t_next L (2*i) (by omega) 64 (by decide)
  have n2:=t_next L (2*i+1) (by omega) 4 (by decide)
  have v1:=nextV_in L (2*i) (n:=64) (by decide)
  rw [show nextI (2*i) 64=2*i+1 from rfl] at n1
  rw [show nextI (2*i+1) 4=2*(i+1) from rfl] at n2
  obtain ⟨z,hz⟩:∃ z:Nat,nextV L (2*i) 64=z:=⟨(nextV L (2*i) 64).toNat,by omega⟩
  rw [hz] at n1 v1 hr
  simp only [Int.toNat_natCast] at hr
  have hzW:z<W.length:=by omega
  obtain ⟨wd,hwd⟩:∃ wd,wd=W[z]:=⟨_,rfl⟩
  have hge:∀ h,W[z]'h=wd:=fun _=>hwd.symm
  have hgz:(mdW[z]?).getD []=wd:=by rw [← hW,List.getElem?_eq_getElem hzW,← hwd]; rfl
  have hwl:wd.length≤20:=by rw [hwd]; exact mdW_len _ (by rw [← hW]; exact List.getElem_mem hzW)
  have hzI:(z:Int)<64:=by omega
  rw [hgz] at hr
  have hwr:=wrap_in (n:=(i:Int)+1) (by omega) (by omega)
  have a1:out.length+wd.length≤9223372036854775807:=by omega
  have a2:out.length+wd.length+1≤9223372036854775807:=by omega
  simp [tapB] at n1 n2
  simp [h1,h2,hWl,tapB]
  (repeat refine ⟨.of (by kernel_rfl),?_⟩)
  refine acallT_hand [9] n1 (by simp) (by simp) (by simp) (by simp) (by simp) ?_
  have hgo:W[z]?=some wd:=by rw [List.getElem?_eq_getElem hzW,← hwd]
  simp [hgo,a1,hWl,hzI,v1.1]
  (repeat refine ⟨.of (by kernel_rfl),?_⟩)
  refine acallT_hand [9] n2 (by simp) (by simp) (by simp) (by simp) (by simp) ?_
  by_cases hp:0<nextV L (2*i+1) 4
  ·rw [if_pos hp] at hr
   simp [hp,a2]
   (repeat refine ⟨.of (by kernel_rfl),?_⟩)
   refine ⟨(i+1,out++wd++[32]),⟨by simp only; omega,by simp only; omega,by simp; omega,?_⟩,?_,by simp only; omega⟩
   ·simp only
    rw [show min L.length 60 - (i+1)=k from by omega]
    exact hr
   exact sub_mk _ [(9,9,_)] ⟨by simp,by simp,by simp [renOf,Blk.live,tapB],by simp⟩ (by simp [renOf,hwr])
  ·rw [if_neg hp,List.append_nil] at hr
   simp [hp]
   (repeat refine ⟨.of (by kernel_rfl),?_⟩)
   refine ⟨(i+1,out++wd),⟨by simp only; omega,by simp only; omega,by simp; omega,?_⟩,?_,by simp only; omega⟩
   ·simp only
    rw [show min L.length 60 - (i+1)=k from by omega]
    exact hr
   exact sub_mk _ [(9,9,_)] ⟨by simp,by simp,by simp [renOf,Blk.live,tapB],by simp⟩ (by simp [renOf,hwr])
 ·have hkn:min L.length 60 - i=0:=by omega
  rw [hkn,mdS] at hr
  subst hr
  by_cases h1:(i:Int)<(L.length:Int)
  ·have h2:¬ (i:Int)<60:=by omega
   simp [h1,h2]<;>(repeat' first|contradiction|exact .ok|apply And.intro|intro _|(refine gc (fun h=>?_) (fun h=>?_)<;>(have h':=h;(try simp at h');first|done|simp[h,h',h1,h2]|simp[h1,h2])))
  ·simp [h1]<;>(repeat' first|contradiction|exact .ok|apply And.intro|intro _|(refine gc (fun h=>?_) (fun h=>?_)<;>(have h':=h;(try simp at h');first|done|simp[h,h',h1]|simp[h1])))
end Go.Proofs.Tryz
