import Derived.Test.YthbnleoonldffaaGreatDoorFitR
set_option linter.all false
namespace Go.Proofs.Tryz
open Go.Ab
set_option maxRecDepth 100000
set_option maxHeartbeats 16000000
theorem aCG (o:Int) (h1:1≤o) (h2:o≤28) (k:Nat):Cf En 169 [.d (.int .i64 o),.d (.int .i64 k)] [] (.d (.bool (bI o k))) []:=by
 by_cases h5:o≤5
 ·have hc:bI o k=((k:Int)==0):=by
   have ho:o=1∨o=2∨o=3∨o=4∨o=5:=by omega
   rcases ho with rfl | rfl | rfl | rfl | rfl <;> simp [bI,bL,bK,ops]
  rw [hc]
  refine aD aW (fn:=Tryz.f169) (by kernel_rfl) rfl (by kernel_rfl) (by decide) (by simp) ?_
  simp [h5]
  (repeat' first|contradiction|exact .ok|apply And.intro|intro _|(apply gc<;>simp+contextual[h5]))
 have h6:6≤o:=by omega
 have hc:bI o k=if o=11∨o=13∨o=21∨o=24∨o=25 then (k:Int)==1 else if o=26 then (k:Int)==3 else if o=28 then decide (2≤(k:Int)) else (k:Int)==2:=by
  rcases uQ h6 h2 with rfl | rfl | rfl | rfl | rfl | rfl | rfl | rfl | rfl | rfl | rfl | rfl | rfl | rfl | rfl | rfl | rfl | rfl | rfl | rfl | rfl | rfl | rfl <;> simp [bI,bL,bK,ops]
  rw [Bool.eq_iff_iff]
  simp
  omega
 rw [hc]
 refine aD aW (fn:=Tryz.f169) (by kernel_rfl) rfl (by kernel_rfl) (by decide) (by simp) ?_
 have h5':¬ o≤5:=by omega
 by_cases c11:o=11
 ·subst c11; simp; (repeat' (first | contradiction | exact .of (by kernel_rfl) | refine And.intro ?_ ?_ | intro _ | (refine aN (fun h=>?_) (fun h=>?_) <;> (have h':=h; (try simp at h'); first | done | simp [h,h'] | simp))))
 by_cases c13:o=13
 ·subst c13; simp; (repeat' (first | contradiction | exact .of (by kernel_rfl) | refine And.intro ?_ ?_ | intro _ | (refine aN (fun h=>?_) (fun h=>?_) <;> (have h':=h; (try simp at h'); first | done | simp [h,h'] | simp))))
 by_cases c21:o=21
 ·subst c21; simp; (repeat' (first | contradiction | exact .of (by kernel_rfl) | refine And.intro ?_ ?_ | intro _ | (refine aN (fun h=>?_) (fun h=>?_) <;> (have h':=h; (try simp at h'); first | done | simp [h,h'] | simp))))
 by_cases c24:o=24
 ·subst c24; simp; (repeat' (first | contradiction | exact .of (by kernel_rfl) | refine And.intro ?_ ?_ | intro _ | (refine aN (fun h=>?_) (fun h=>?_) <;> (have h':=h; (try simp at h'); first | done | simp [h,h'] | simp))))
 by_cases c25:o=25
 ·subst c25; simp; (repeat' (first | contradiction | exact .of (by kernel_rfl) | refine And.intro ?_ ?_ | intro _ | (refine aN (fun h=>?_) (fun h=>?_) <;> (have h':=h; (try simp at h'); first | done | simp [h,h'] | simp))))
 by_cases c26:o=26
 ·subst c26; simp; (repeat' (first | contradiction | exact .of (by kernel_rfl) | refine And.intro ?_ ?_ | intro _ | (refine aN (fun h=>?_) (fun h=>?_) <;> (have h':=h; (try simp at h'); first | done | simp [h,h'] | simp))))
 by_cases c28:o=28
 ·subst c28; simp; (repeat' (first | contradiction | exact .of (by kernel_rfl) | refine And.intro ?_ ?_ | intro _ | (refine aN (fun h=>?_) (fun h=>?_) <;> (have h':=h; (try simp at h'); first | done | simp [h,h'] | simp))))
 simp [h5',c11,c13,c21,c24,c25,c26,c28]
 (repeat' first|contradiction|exact .ok|apply And.intro|intro _|(apply gc<;>simp+contextual[h5',c11,c13,c21,c24,c25,c26,c28]))
theorem qL (l:List Int) (hl:l.length≤1000) (t:Int):Cf En 280 [.d (.sl (aG l)),.d (.int .i64 t)] [] (.d (.bool (l.all (·==t)))) []:=by
 refine aD aW (fn:=Tryz.f280) (by kernel_rfl) rfl (by kernel_rfl) (by decide) (by simp) ?_
 generalize hres:l.all (·==t)=res
 simp [aG]
 (repeat' first|contradiction|exact .ok|apply And.intro|intro _|(apply gc<;>simp+contextual))
 refine aL aW (by decide) (fun i:Nat=>{ s:=cG [(0,.d (.sl (aG l))),(1,.d (.int .i64 t)),(4,.d (.bool false)),(5,.d (.int .i64 i))],b:=cE [] }) (fun i:Nat=>i≤l.length∧(l.drop i).all (·==t)=res) (fun i=>l.length - i) 0 (by simp [hres]) (aE _ [] .nil (by simp [aG])) ?_
 rintro i ⟨hi,ho⟩
 by_cases hlt:i<l.length
 ·have hlt':(i:Int)<l.length:=by omega
  have hg:l[i]?=some l[i]:=List.getElem?_eq_getElem hlt
  have hd:(l.drop i).all (·==t)=((l[i]==t)&&(l.drop (i+1)).all (·==t)):=by
   rw [List.drop_eq_getElem_cons hlt,List.all_cons]
  by_cases hx:l[i]=t
  ·simp [aG,hlt,hlt',hg,hx]
   (repeat' first|contradiction|exact .ok|apply And.intro|intro _|(apply gc<;>simp+contextual[hlt,hlt',hg,hx]))
   refine ⟨i+1,⟨hlt,?_⟩,?_,?_⟩
   ·rw [← ho,hd,hx]; simp
   ·refine aE _ [] .nil ?_
    simp [aG]
    exact aH (by omega) (by omega)
   ·simp; omega
  ·simp [aG,hlt,hlt',hg,hx]
   (repeat' first|contradiction|exact .ok|apply And.intro|intro _|(apply gc<;>simp+contextual[hlt,hlt',hg,hx]))
   all_goals (rw [← ho,hd]; simp [hx])
 ·have hlt':¬ (i:Int)<l.length:=by omega
  simp [aG,hlt,hlt']
  (repeat' first|contradiction|exact .ok|apply And.intro|intro _|(apply gc<;>simp+contextual))
  all_goals (rw [← ho,List.drop_eq_nil_of_le (by omega)]; rfl)
theorem aCH (ts:List Int) (hts:ts.length≤1000) (o c n g:Int) (t:List UInt8) (h1:1≤o) (h2:o≤5) (h5:o=5→0≤g∧g<ts.length) :
  Cf En 203 [.d (.sl (aG ts)),(Ex.mk o c n t g []).a,.d (.sl [])] [] (.d (.int .i64 (dT ts o c g []))) []:=by
 have ho:o=1∨o=2∨o=3∨o=4∨o=5:=by omega
 refine aD aW (fn:=Tryz.f203) (by kernel_rfl) rfl (by kernel_rfl) (by decide) (by simp) ?_
 rcases ho with rfl | rfl | rfl | rfl | rfl
 ·simp [Ex.a,Ex.c,aC,dT]; (repeat' (first | contradiction | exact .of (by kernel_rfl) | refine And.intro ?_ ?_ | intro _ | (refine aN (fun h=>?_) (fun h=>?_) <;> (have h':=h; (try simp at h'); first | done | simp [h,h'] | simp))))
 ·simp [Ex.a,Ex.c,aC,dT]; (repeat' (first | contradiction | exact .of (by kernel_rfl) | refine And.intro ?_ ?_ | intro _ | (refine aN (fun h=>?_) (fun h=>?_) <;> (have h':=h; (try simp at h'); first | done | simp [h,h'] | simp))))
 ·simp [Ex.a,Ex.c,aC,dT]; (repeat' (first | contradiction | exact .of (by kernel_rfl) | refine And.intro ?_ ?_ | intro _ | (refine aN (fun h=>?_) (fun h=>?_) <;> (have h':=h; (try simp at h'); first | done | simp [h,h'] | simp))))
 ·simp [Ex.a,Ex.c,aC,dT]; (repeat' (first | contradiction | exact .of (by kernel_rfl) | refine And.intro ?_ ?_ | intro _ | (refine aN (fun h=>?_) (fun h=>?_) <;> (have h':=h; (try simp at h'); first | done | simp [h,h'] | simp))))
 ·obtain ⟨a,b⟩:=h5 rfl
  have hgk:ts[g.toNat]?=some (ts[g.toNat]'(by omega)):=List.getElem?_eq_getElem _
  generalize ts[g.toNat]'(by omega)=k at hgk
  simp [Ex.a,Ex.c,aC,dT,aG,a,hgk]
  (repeat' first|contradiction|exact .ok|apply And.intro|intro _|(apply gc<;>simp+contextual[a,hgk]))
theorem aCI (ts:List Int) (hts:ts.length≤1000) (o:Int) (ks:List Ex) (k:List Int) (h1:6≤o) (h2:o≤28) (hk:k.length≤12) (hc:bI o k.length=true) :
  Cf En 203 [.d (.sl (aG ts)),(Ex.mk o 0 0 [] 0 ks).a,.d (.sl (aG k))] [] (.d (.int .i64 (dT ts o 0 0 k))) []:=by
 have hcn:=aAG hc h1
 refine aD aW (fn:=Tryz.f203) (by kernel_rfl) rfl (by kernel_rfl) (by decide) (by simp) ?_
 by_cases g1:o≤11
 ·have ho:o=6∨o=7∨o=8∨o=9∨o=10∨o=11:=by omega
  rcases ho with rfl | rfl | rfl | rfl | rfl | rfl
  all_goals
   rw [show dT ts _ 0 0 k=if k.all (·==1)=true then 1 else 0 from by simp [dT]]
   simp [Ex.a,Ex.c,aC]
   (repeat' first|contradiction|exact .ok|apply And.intro|intro _|(apply gc<;>simp+contextual))
   refine aA (qL k (by omega) 1) (by simp) ?_
   cases k.all (·==1) <;> simp <;> (repeat' (first | contradiction | exact .of (by kernel_rfl) | refine And.intro ?_ ?_ | intro _ | (refine aN (fun h=>?_) (fun h=>?_) <;> (have h':=h; (try simp at h'); first | done | simp [h,h'] | simp))))
 by_cases g12:o=12
 ·subst g12
  rw [show dT ts _ 0 0 k=if k.all (·==3)=true then 3 else 0 from by simp [dT]]
  simp [Ex.a,Ex.c,aC]
  (repeat' first|contradiction|exact .ok|apply And.intro|intro _|(apply gc<;>simp+contextual))
  refine aA (qL k (by omega) 3) (by simp) ?_
  cases k.all (·==3) <;> simp <;> (repeat' (first | contradiction | exact .of (by kernel_rfl) | refine And.intro ?_ ?_ | intro _ | (refine aN (fun h=>?_) (fun h=>?_) <;> (have h':=h; (try simp at h'); first | done | simp [h,h'] | simp))))
 by_cases g13:o=13
 ·subst g13
  rw [show dT ts _ 0 0 k=if k.all (·==3)=true then 1 else 0 from by simp [dT]]
  simp [Ex.a,Ex.c,aC]
  (repeat' first|contradiction|exact .ok|apply And.intro|intro _|(apply gc<;>simp+contextual))
  refine aA (qL k (by omega) 3) (by simp) ?_
  cases k.all (·==3) <;> simp <;> (repeat' (first | contradiction | exact .of (by kernel_rfl) | refine And.intro ?_ ?_ | intro _ | (refine aN (fun h=>?_) (fun h=>?_) <;> (have h':=h; (try simp at h'); first | done | simp [h,h'] | simp))))
 by_cases g21:o=21
 ·subst g21
  rw [show dT ts 21 0 0 k=2 from by simp [dT]]
  simp [Ex.a,Ex.c,aC]
  all_goals exact gz
 by_cases g22:o=22
 ·subst g22
  rw [show dT ts _ 0 0 k=if k.all (·==2)=true then 2 else 0 from by simp [dT]]
  simp [Ex.a,Ex.c,aC]
  (repeat' first|contradiction|exact .ok|apply And.intro|intro _|(apply gc<;>simp+contextual))
  refine aA (qL k (by omega) 2) (by simp) ?_
  cases k.all (·==2) <;> simp <;> (repeat' (first | contradiction | exact .of (by kernel_rfl) | refine And.intro ?_ ?_ | intro _ | (refine aN (fun h=>?_) (fun h=>?_) <;> (have h':=h; (try simp at h'); first | done | simp [h,h'] | simp))))
 by_cases g23:o=23
 ·subst g23
  rw [show dT ts _ 0 0 k=if k.all (·==2)=true then 2 else 0 from by simp [dT]]
  simp [Ex.a,Ex.c,aC]
  (repeat' first|contradiction|exact .ok|apply And.intro|intro _|(apply gc<;>simp+contextual))
  refine aA (qL k (by omega) 2) (by simp) ?_
  cases k.all (·==2) <;> simp <;> (repeat' (first | contradiction | exact .of (by kernel_rfl) | refine And.intro ?_ ?_ | intro _ | (refine aN (fun h=>?_) (fun h=>?_) <;> (have h':=h; (try simp at h'); first | done | simp [h,h'] | simp))))
 by_cases g24:o=24
 ·subst g24
  rw [show dT ts _ 0 0 k=if k.all (·==2)=true then 2 else 0 from by simp [dT]]
  simp [Ex.a,Ex.c,aC]
  (repeat' first|contradiction|exact .ok|apply And.intro|intro _|(apply gc<;>simp+contextual))
  refine aA (qL k (by omega) 2) (by simp) ?_
  cases k.all (·==2) <;> simp <;> (repeat' (first | contradiction | exact .of (by kernel_rfl) | refine And.intro ?_ ?_ | intro _ | (refine aN (fun h=>?_) (fun h=>?_) <;> (have h':=h; (try simp at h'); first | done | simp [h,h'] | simp))))
 by_cases g25:o=25
 ·subst g25
  rw [show dT ts _ 0 0 k=if k.all (·==2)=true then 2 else 0 from by simp [dT]]
  simp [Ex.a,Ex.c,aC]
  (repeat' first|contradiction|exact .ok|apply And.intro|intro _|(apply gc<;>simp+contextual))
  refine aA (qL k (by omega) 2) (by simp) ?_
  cases k.all (·==2) <;> simp <;> (repeat' (first | contradiction | exact .of (by kernel_rfl) | refine And.intro ?_ ?_ | intro _ | (refine aN (fun h=>?_) (fun h=>?_) <;> (have h':=h; (try simp at h'); first | done | simp [h,h'] | simp))))
 by_cases g26:o=26
 ·subst g26
  have h3:k.length=3:=by simpa using hcn
  match k,h3 with
  | [a,b,c],_ =>
    rw [show dT ts 26 0 0 [a,b,c]=if a=2∧b=c then b else 0 from by simp [dT]]
    by_cases e1:a=2
    ·subst e1
     by_cases e2:b=c
     ·subst e2
      simp [Ex.a,Ex.c,aC,aG]
      all_goals exact gz
     ·simp [Ex.a,Ex.c,aC,aG,e2]
      (repeat' first|contradiction|exact .ok|apply And.intro|intro _|(apply gc<;>simp+contextual[e2]))
    ·simp [Ex.a,Ex.c,aC,aG,e1]
     (repeat' first|contradiction|exact .ok|apply And.intro|intro _|(apply gc<;>simp+contextual[e1]))
 by_cases g27:o=27
 ·subst g27
  have h3:k.length=2:=by simpa using hcn
  match k,h3 with
  | [a,b],_ =>
    rw [show dT ts 27 0 0 [a,b]=if a=b then a else 0 from by simp [dT]]
    by_cases e1:a=b
    ·subst e1
     simp [Ex.a,Ex.c,aC,aG]
     all_goals exact gz
    ·simp [Ex.a,Ex.c,aC,aG,e1]
     (repeat' first|contradiction|exact .ok|apply And.intro|intro _|(apply gc<;>simp+contextual[e1]))
 have hk1:1≤k.length:=by
  by_cases g28:o=28
  ·subst g28; have:2≤k.length:=by simpa using hcn
   omega
  ·have g11:¬ o=11:=by omega
   have:k.length=2:=by simpa [g11,g13,g21,g24,g25,g26,g28] using hcn
   omega
 have hgk:k[0]?=some (k[0]'(by omega)):=List.getElem?_eq_getElem _
 generalize k[0]'(by omega)=a at hgk
 have g1':¬ o≤5:=by omega
 have c1:¬ o=1:=by omega
 have c2:¬ o=2:=by omega
 have c3:¬ o=3:=by omega
 have c4:¬ o=4:=by omega
 have c5:¬ o=5:=by omega
 have c6:¬ o=6:=by omega
 have c7:¬ o=7:=by omega
 have c8:¬ o=8:=by omega
 have c9:¬ o=9:=by omega
 have c10:¬ o=10:=by omega
 have c11:¬ o=11:=by omega
 rw [show dT ts o 0 0 k=if k.all (·==a)=true then 2 else 0 from by simp [dT,g1,g12,g13,g21,g22,g23,g24,g25,g26,g27,c1,c2,c3,c4,c5,hgk]]
 simp [Ex.a,Ex.c,aC,g1,g12,g13,g21,g22,g23,g24,g25,g26,g27,c1,c2,c3,c4,c5,c6,c7,c8,c9,c10,c11,aG,hgk]
 (repeat' first|contradiction|exact .ok|apply And.intro|intro _|(apply gc<;>simp+contextual[g1,g12,g13,g21,g22,g23,g24,g25,g26,g27,c1,c2,c3,c4,c5,c6,c7,c8,c9,c10,c11,hgk]))
 refine aA (qL k (by omega) a) (by simp [aG]) ?_
 cases k.all (·==a) <;> simp <;> (repeat' (first | contradiction | exact .of (by kernel_rfl) | refine And.intro ?_ ?_ | intro _ | (refine aN (fun h=>?_) (fun h=>?_) <;> (have h':=h; (try simp at h'); first | done | simp [h,h'] | simp))))
end Go.Proofs.Tryz
