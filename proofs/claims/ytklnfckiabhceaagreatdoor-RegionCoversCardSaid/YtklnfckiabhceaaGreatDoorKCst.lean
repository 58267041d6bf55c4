import Derived.Test.YtklnfckiabhceaaGreatDoorKShy
set_option linter.all false
namespace Go.Proofs.Tryz
open Go.Ab
mutual
def Ex.few:Ex→Nat→Bool
 | .mk _ _ _ t _ ks,d=>if 60<d then false else if 12<ks.length then false else if 200<t.length then false else fewAll ks (d+1)
def fewAll:List Ex→Nat→Bool
 | [],_=>true
 | e::es,d=>e.few d&&fewAll es d
end
theorem fewAll_all:∀ (l:List Ex) (d:Nat),fewAll l d=l.all fun e=>e.few d
 | [],_=>rfl
 | e::es,d=>by rw [fewAll,fewAll_all es d]; rfl
mutual
def Ex.size:Ex→Int
 | .mk _ _ _ _ _ ks=>sizeAll 1 ks
def sizeAll:Int→List Ex→Int
 | a,[]=>a
 | a,e::es=>sizeAll (IntKind.i64.wrap (a+e.size)) es
end
theorem sizeAll_drop {l:List Ex} {i:Nat} {x:Ex} (a:Int) (h:l[i]?=some x):sizeAll a (l.drop i)=sizeAll (IntKind.i64.wrap (a+x.size)) (l.drop (i+1)):=by
 obtain ⟨hi,rfl⟩:=List.getElem?_eq_some_iff.1 h
 rw [List.drop_eq_getElem_cons hi,sizeAll]
mutual
def Ex.fits:Ex→Prop
 | .mk _ _ _ _ _ ks=>ks.length≤9223372036854775807∧fitsAll ks
def fitsAll:List Ex→Prop
 | []=>True
 | e::es=>e.fits∧fitsAll es
end
theorem fitsAll_get:∀ (l:List Ex),fitsAll l→∀ e∈l,e.fits
 | e::es,h,x,hx=>by
   rcases List.mem_cons.1 hx with rfl | hx
   ·exact h.1
   ·exact fitsAll_get es h.2 x hx
theorem size_cf:∀ (m:Nat) (e:Ex),SizeOf.sizeOf e<m→e.fits→Cf En 64 [e.a] [] (.d (.int .i64 e.size)) []
 | 0,_,h,_=>absurd h (by omega)
 | m+1,.mk o c n t g ks,hm,hfit=>by
   refine cf_intro mix (fn:=Tryz.f64) (by kernel_rfl) rfl (by kernel_rfl) (by decide) (by simp) ?_
   have hf:Ex.size (.mk o c n t g ks)=sizeAll 1 ks:=by rw [Ex.size]
   rw [hf]
   rw [Ex.fits] at hfit
   generalize hres:sizeAll 1 ks=res
   simp [Ex.a,Ex.c,kidsC_map]
   refine ⟨.of (by kernel_rfl),.of (by kernel_rfl),.of (by kernel_rfl),?_⟩
   refine aloopT mix (by decide) (fun p:Nat×Int=>{ s:=mkS [(1,.ptr 1 0 0),(3,.d (.int .i64 p.2)),(4,.d (.int .i64 p.1))],b:=mkB [(1,1,.var (Ex.a (.mk o c n t g ks)).cells)] }) (fun p=>p.1≤ks.length∧sizeAll p.2 (ks.drop p.1)=res) (fun p=>ks.length - p.1) (0,1) (by simp [hres]) (sub_mk _ _ ⟨by simp,by simp,by simp [renOf,Blk.live,Ex.a,Ex.c,kidsC_map],by simp⟩ (by simp [renOf])) ?_
   rintro ⟨i,acc⟩ ⟨hi,ho⟩
   simp only at hi ho
   by_cases hlt:i<ks.length
   ·have hlt':(i:Int)<ks.length:=by omega
    have hg:ks[i]?=some ks[i]:=List.getElem?_eq_getElem hlt
    have hdr:=sizeAll_drop acc hg
    have hlen:ks[i].c.length=6:=by cases ks[i]; rfl
    have htk:List.take 6 (List.map AV.d ks[i].c)=List.map AV.d ks[i].c:=List.take_of_length_le (by simp [hlen])
    simp [Ex.a,Ex.c,kidsC_map,hlt,hlt',hg,hlen,htk]
    have hkid:SizeOf.sizeOf ks[i]<m:=by
     have:=Ex.kid_lt (e:=.mk o c n t g ks) (k:=ks[i]) (List.getElem_mem hlt)
     omega
    refine ⟨.of (by kernel_rfl),acallT_plain (size_cf m ks[i] hkid (fitsAll_get ks hfit.2 _ (List.getElem_mem hlt))) (by simp [Ex.a]) ?_⟩
    simp
    refine ⟨.of (by kernel_rfl),.of (by kernel_rfl),(i+1,IntKind.i64.wrap (acc+ks[i].size)),⟨hlt,?_⟩,?_,?_⟩
    ·rw [← ho,hdr]
    ·refine sub_mk _ [(1,1,_)] ⟨by simp,by simp,by simp [renOf,Blk.live,Ex.a,Ex.c,kidsC_map],by simp⟩ ?_
     simp [renOf]
     exact wrap_in (by omega) (by omega)
    ·simp; omega
   ·have hlt':¬ (i:Int)<ks.length:=by omega
    simp [Ex.a,Ex.c,kidsC_map,hlt,hlt']
    refine ⟨.of (by kernel_rfl),.of (by kernel_rfl),?_⟩
    rw [← ho,List.drop_eq_nil_of_le (by omega)]; rfl
def Ex.ok (e:Ex):Bool:=e.few 0&&decide (e.size≤600)
end Go.Proofs.Tryz
namespace Go.Proofs.Tryz
open Go.Ab
def constOf (v:V) (i:Int):Ex :=
 if v.k=1 then .mk 2 0 v.n [] 0 [] else if v.k=2 then .mk 3 0 v.n [] 0 [] else if v.k=3 then .mk 4 0 0 v.t 0 [] else .mk 1 i 0 [] 0 []
theorem e_const (v:V) (i:Int):Cf En 145 [v.a,.d (.int .i64 i)] [] (constOf v i).a []:=by
 refine cf_intro mix (fn:=Tryz.f145) (by kernel_rfl) rfl (by kernel_rfl) (by decide) (by simp) ?_
 unfold constOf
 by_cases h1:v.k=1
 ·simp [V.a,h1,Ex.a,Ex.c,kidsC]
  repeat' (first | exact .of (by kernel_rfl) | refine And.intro ?_ ?_)
 by_cases h2:v.k=2
 ·simp [V.a,h2,Ex.a,Ex.c,kidsC]
  repeat' (first | exact .of (by kernel_rfl) | refine And.intro ?_ ?_)
 by_cases h3:v.k=3
 ·simp [V.a,h3,Ex.a,Ex.c,kidsC]
  repeat' (first | exact .of (by kernel_rfl) | refine And.intro ?_ ?_)
 ·simp [V.a,h1,h2,h3,Ex.a,Ex.c,kidsC]
  repeat' (first | exact .of (by kernel_rfl) | refine And.intro ?_ ?_)
theorem r_const (v:V) (i:Int):Cf En 65 [v.a,.d (.int .i64 i)] [] (constOf v i).a []:=by
 refine cf_intro mix (fn:=Tryz.f65) (by kernel_rfl) rfl (by kernel_rfl) (by decide) (by simp) ?_
 unfold constOf
 by_cases h1:v.k=1
 ·simp [V.a,h1,Ex.a,Ex.c,kidsC]
  repeat' (first | exact .of (by kernel_rfl) | refine And.intro ?_ ?_)
 by_cases h2:v.k=2
 ·simp [V.a,h2,Ex.a,Ex.c,kidsC]
  repeat' (first | exact .of (by kernel_rfl) | refine And.intro ?_ ?_)
 by_cases h3:v.k=3
 ·simp [V.a,h3,Ex.a,Ex.c,kidsC]
  repeat' (first | exact .of (by kernel_rfl) | refine And.intro ?_ ?_)
 ·simp [V.a,h1,h2,h3,Ex.a,Ex.c,kidsC]
  repeat' (first | exact .of (by kernel_rfl) | refine And.intro ?_ ?_)
end Go.Proofs.Tryz
