import Derived.Test.YthbnleoonldffaaGreatDoorQCldR
import Derived.Test.YthbnleoonldffaaGreatDoorQPlw
import Derived.Test.YthbnleoonldffaaGreatDoorTye
import Derived.Test.YthbnleoonldffaaGreatDoorPlc
import Derived.Test.YthbnleoonldffaaGreatDoorQSve
import Derived.Test.YthbnleoonldffaaGreatDoorQR8c
import Derived.Test.YthbnleoonldffaaGreatDoorFitR
import Derived.Test.YthbnleoonldffaaGreatDoorAbB
set_option linter.all false
namespace Go.Proofs.Tryz
open Go.Ab
set_option maxRecDepth 100000
set_option maxHeartbeats 2000000
structure RJ (S:List Tb) (l:List Int):Prop where
 nd:l.Nodup
 rng:∀ z∈l,0≤z∧z<S.length
 bef:∀ (o:Nat) (h:o<l.length),∀ f∈HW S l[o].toNat,iB S f∈l.take o
theorem vT (S:List Tb):RJ S []:=⟨List.nodup_nil,fun z h=>(by cases h),fun o h=>absurd h (by simp)⟩
theorem RK {α:Type} {p:α→Bool}:∀ {l:List α} {i:Nat},0≤aY p l i→∃ (j:Nat) (x:α),aY p l i=(i:Int)+j∧l[j]?=some x∧p x=true
 | [],i,h=>by rw [aY] at h; omega
 | x::l,i,h=>by
   rw [aY] at h ⊢
   split
   ·rename_i hx; exact ⟨0,x,by simp,rfl,hx⟩
   ·rename_i hx
    rw [if_neg hx] at h
    obtain ⟨j,y,a,b,c⟩:=RK h
    exact ⟨j+1,y,by rw [a]; push_cast; omega,by simpa using b,c⟩
theorem YT {S:List Tb} {done:Nat→Bool} (h:0≤iQ S done):∃ k:Nat,iQ S done=k∧k<S.length∧AR S done k=true:=by
 unfold iQ at h ⊢
 obtain ⟨j,x,a,b,c⟩:=RK h
 rw [bR] at b
 split at b <;> simp only [Option.some.injEq,reduceCtorEq] at b
 rename_i hj
 subst b
 exact ⟨j,by rw [a]; simp,hj,c⟩
theorem KS {S:List Tb} (hT:∀ k,∀ f∈HW S k,0≤iB S f):∀ (n:Nat) {done:Nat→Bool} {out:List Int},(∀ k:Nat,done k=true↔(k:Int)∈out)→RJ S out→RJ S (jX S n done out).1
 | 0,_,_,_,h=>h
 | n+1,done,out,hd,h=>by
   rw [jX]
   split
   ·exact vT S
   ·rename_i hz
    obtain ⟨k,hk,hkl,hr⟩:=YT (S:=S) (done:=done) (by omega)
    rw [hk]
    unfold AR at hr
    rw [Bool.and_eq_true,Bool.not_eq_true',List.all_eq_true] at hr
    have hno:(k:Int) ∉ out:=fun hm=>by
     have:=(hd k).2 hm
     rw [hr.1] at this; cases this
    refine KS hT n (fun j=>?_) ⟨?_,fun z hzm=>?_,fun o ho f hf=>?_⟩
    ·unfold VU
     rw [Bool.or_eq_true,hd j,decide_eq_true_eq,List.mem_append,List.mem_singleton]
    ·rw [List.nodup_append]
     refine ⟨h.nd,by simp,fun a ha b hb e=>?_⟩
     rw [List.mem_singleton] at hb
     subst hb e
     exact hno ha
    ·rcases List.mem_append.1 hzm with hm | hm
     ·exact h.rng z hm
     ·rw [List.mem_singleton] at hm; subst hm; omega
    ·rcases Nat.lt_or_ge o out.length with ho2 | ho2
     ·rw [List.getElem_append_left ho2] at hf
      rw [List.take_append_of_le_length (by omega)]
      exact h.bef o ho2 f hf
     ·obtain rfl:o=out.length:=by simp at ho; omega
      rw [List.getElem_append_right (Nat.le_refl _)] at hf
      simp only [Nat.sub_self,List.getElem_cons_zero,Int.toNat_natCast] at hf
      rw [List.take_left']
      ·have h0:=hT k f hf
       have hdn:=hr.2 f hf
       have:=(hd (iB S f).toNat).1 hdn
       rwa [Int.toNat_of_nonneg h0] at this
      ·rfl
theorem RL (S:List Tb):RJ S (eX S).1:=by
 rw [uK]
 split
 ·exact vT S
 ·rename_i h
  exact KS (fun k=>AT (by simpa using h) k) _ (fun k=>by simp) (vT S)
theorem EA (S:List Tb):∀ (n:Nat) (done:Nat→Bool) (out:List Int),(jX S n done out).1.length≤n+out.length
 | 0,_,out=>by simp [jX]
 | n+1,done,out=>by
   rw [jX]
   split
   ·simp
   ·have:=EA S n (VU done (iQ S done)) (out++[iQ S done])
    simp at this ⊢
    omega
theorem KT (S:List Tb):(eX S).1.length≤S.length:=by
 rw [uK]
 split
 ·simp
 ·have:=EA S S.length (fun _=>false) []
  simpa using this
def lR (L:List Int) (i:Nat) (k:Int) (b:Bool):V:=if b=true then ((bB k)[(aU L i (min (bB k).length 4:Nat)).toNat]?).getD nulV else gB L i k
theorem aAp (L:List Int) (i:Nat) (hi:i≤1000000) (k:Int) (hk:k=1∨k=2∨k=3) (b:Bool) :
  Cf En 50 [.ptr 1000000 0 0,.d (.int .i64 k),.d (.bool b)] [aS L i] (lR L i k b).a [aS L (i+1)]:=by
 cases b with
 | false=>exact xV L i hi k hk
 | true =>
 have hl:(bB k).length=13∨(bB k).length=3∨(bB k).length=8:=by
  rcases hk with rfl | rfl | rfl <;> decide
 obtain ⟨m,hm⟩:∃ m:Nat,m=min (bB k).length 4:=⟨_,rfl⟩
 have hm4:3≤m∧m≤4∧m≤(bB k).length:=by omega
 have hmin:(if (4:Int)<((bB k).length:Int) then (4:Int) else ((bB k).length:Int))=m:=by split <;> omega
 have e0:lR L i k true=((bB k)[(aU L i (m:Nat)).toNat]?).getD nulV:=by unfold lR; rw [if_pos rfl,hm]
 have hn:=bG L i (n:=(m:Int)) (by omega)
 have hlt:(aU L i (m:Nat)).toNat<(bB k).length:=by omega
 have hg:(bB k)[(aU L i (m:Nat)).toNat]?=some (bB k)[(aU L i (m:Nat)).toNat]:=List.getElem?_eq_getElem hlt
 have ht:=dM L i (by omega) (m:Nat) (by omega) (by omega)
 have e1:lR L i k true=(bB k)[(aU L i (m:Nat)).toNat]:=by rw [e0,hg]; rfl
 have h0:0≤aU L i (m:Int):=hn.1
 rw [e1]
 refine aD aW (fn:=Tryz.f50) (by kernel_rfl) rfl (by kernel_rfl) (by decide) (by simp) ?_
 simp [aS]
 (repeat' first|contradiction|exact .ok|apply And.intro|intro _|(apply gc<;>simp+contextual))
 refine aA (LS k) (by simp [V.a]) ?_
 simp [hmin]
 (repeat' first|contradiction|exact .ok|apply And.intro|intro _|(apply gc<;>simp+contextual))
 try simp [hmin]
 refine aK [1000000] ht (by simp) (by simp) (by simp) (by simp [aS]) (by simp) ?_
 simp [aS,h0,hlt,V.c]
 (repeat' first|contradiction|exact .ok|apply And.intro|intro _|(apply gc<;>simp+contextual))
 all_goals simp [V.a]
structure SOk (S:List Tb):Prop where
 len:S.length≤1000
 ok:∀ x∈S,x.ok
 un:∀ x∈S,∀ l∈x.un,l.length≤1000
 ch:∀ x∈S,∀ e∈x.ch,AW e
def VX (x:Tb) (e:Ex):Int×Int:=mP (x.cols.map Col.t) e
def wF (S:List Tb):Int:=dR fN VX S
def lT (S:List Tb):Bool:=KX (wF S) S
theorem aAv {S:List Tb} (h:SOk S):Cf Es 31 [aR S] [] (.d (.int .i64 (wF S))) [] :=
 aCP S h.len h.ok h.un VX fun x hx e he=>SD (by rw [List.length_map]; exact (h.ok x hx).cols) (h.ch x hx e he).few
theorem BO {S:List Tb} (h:SOk S):Cf Es 23 [aR S] [] (.d (.int .i64 (wF S))) [] :=
 aAy S h.len h.ok h.un VX fun x hx e he=>gL (HQ (by rw [List.length_map]; exact (h.ok x hx).cols) (h.ch x hx e he).few)
theorem aAw {S:List Tb} (h:SOk S):Cf Es 118 [aR S] [] (.d (.bool (lT S))) []:=aCk S h.len h.ok h.ch VX (aAv h)
theorem aAx {S:List Tb} (h:SOk S):Cf Es 62 [aR S] [] (.d (.bool (lT S))) []:=aCl S h.len h.ok h.ch VX (BO h)
theorem QN {L:List Int} {x:Tb} (h:pG x) (e:Nat):pG (MD L x e).1:=by
 unfold MD
 split
 ·refine ⟨⟨h.ok.cols,h.ok.pr,h.ok.un,h.ok.fk,by simp,h.ok.fkc⟩,?_,h.ty⟩
  have:=h.free
  exact this
 ·exact h
theorem kS {L:List Int} {a:Nat}:∀ {n:Nat} {x:Tb},x∈(dP L a n).1→∃ j b,x=(rJ L j b).1
 | 0,x,h=>by simp [dP] at h
 | n+1,x,h=>by
   simp only [dP] at h
   rcases List.mem_append.1 h with h | h
   ·exact kS h
   ·exact ⟨n,_,by simpa using h⟩
theorem DI {L:List Int} {a n:Nat} {x:Tb} (h:x∈(dP L a n).1):pG x:=by
 obtain ⟨j,b,rfl⟩:=kS h
 exact QN (kV L j b) _
structure tS (x:Tb) (a:At):Prop where
 col:0≤a.col∧a.col<x.cols.length
 key:dJ x a.col=false
 kind:(a.op=21∧a.v=nulV)∨(dE x a.col=1∧14≤a.op∧a.op≤19∧a.v.k=1)∨(dE x a.col=2∧a.op=5∧a.v=nulV)∨(dE x a.col=2∧(a.op=14∨a.op=15)∧a.v.k=2)∨(dE x a.col=3∧(a.op=14∨a.op=15)∧a.v.k=3)
 val:a.v.valid=true
 len:a.v.t.length≤1
 no0:a.v.t ≠ [48]
 num:0≤a.v.n∧a.v.n≤2
theorem tT (L:List Int) {x:Tb} (h:pG x) (i:Nat):tS x (jW L x i).1:=by
 have hf:=h.free
 have hfm:∀ c∈fW x x.cols.length,0≤c∧c<x.cols.length∧dJ x c=false:=fun c h=>DW h
 unfold jW
 generalize fW x x.cols.length=Z at *
 have hnx:=bG L i (n:=Z.length) (by omega)
 have hzl:(aU L i Z.length).toNat<Z.length:=by omega
 obtain ⟨c,hc⟩:∃ c,c=Z[(aU L i Z.length).toNat]:=⟨_,rfl⟩
 have hcm:=hfm c (by rw [hc]; exact List.getElem_mem hzl)
 rw [List.getElem?_eq_getElem hzl,← hc]
 simp only [Option.getD_some]
 obtain ⟨h0,h1,h2⟩:=hcm
 have v1:=bG L (i+2) (n:=6) (by omega)
 have v2:=bG L (i+2) (n:=2) (by omega)
 have v3:=bG L (i+3) (n:=2) (by omega)
 have nv:nulV.valid=true∧nulV.t.length≤1∧nulV.t ≠ [48]∧0≤nulV.n∧nulV.n≤2:=by decide
 have hty:dE x c=1∨dE x c=2∨dE x c=3:=by
  have hl:c.toNat<x.cols.length:=by omega
  have:=h.ty x.cols[c.toNat] (List.getElem_mem hl)
  unfold dE
  rw [List.getElem?_eq_getElem hl]
  exact this
 split
 ·exact ⟨⟨h0,h1⟩,h2,.inl ⟨rfl,rfl⟩,nv.1,nv.2.1,nv.2.2.1,nv.2.2.2⟩
 split
 ·rename_i ht
  obtain ⟨s1,s2,s3,s4,s5⟩:=uF L (i+3) 1 (by omega)
  exact ⟨⟨h0,h1⟩,h2,.inr (.inl ⟨ht,by simp only; omega,by simp only; omega,s1⟩),s2,s3,s4,s5⟩
 split
 ·rename_i ht
  split
  ·exact ⟨⟨h0,h1⟩,h2,.inr (.inr (.inl ⟨ht,rfl,rfl⟩)),nv.1,nv.2.1,nv.2.2.1,nv.2.2.2⟩
  ·obtain ⟨s1,s2,s3,s4,s5⟩:=uF L (i+4) 2 (by omega)
   exact ⟨⟨h0,h1⟩,h2,.inr (.inr (.inr (.inl ⟨ht,by simp only; omega,s1⟩))),s2,s3,s4,s5⟩
 ·have ht:dE x c=3:=by omega
  obtain ⟨s1,s2,s3,s4,s5⟩:=uF L (i+3) 3 (by omega)
  exact ⟨⟨h0,h1⟩,h2,.inr (.inr (.inr (.inr ⟨ht,by simp only; omega,s1⟩))),s2,s3,s4,s5⟩
theorem YH (a:At):a.ex.nodes≤3:=by
 unfold At.ex eA bO
 repeat' split
 all_goals simp [Ex.nodes,aT]
theorem qG (L:List Int) (x:Tb) (e:Nat):(MD L x e).1.un=x.un∧(MD L x e).1.n=x.n∧(MD L x e).1.cols=x.cols∧(MD L x e).1.pr=x.pr∧(MD L x e).1.fk=x.fk∧((MD L x e).1.ch=x.ch∨∃ a,(MD L x e).1.ch=[(jW L x a).1.ex]):=by
 unfold MD
 split
 ·exact ⟨rfl,rfl,rfl,rfl,rfl,.inr ⟨_,rfl⟩⟩
 ·exact ⟨rfl,rfl,rfl,rfl,rfl,.inl rfl⟩
theorem YI (L:List Int) (a n:Nat) (hn:n≤10):SOk (dP L a n).1:=by
 refine ⟨by rw [iC]; omega,fun x hx=>(DI hx).ok,fun x hx l hl=>?_,fun x hx e he=>?_⟩
 ·obtain ⟨j,b,rfl⟩:=kS hx
  have h:=(qG L (kN L j b) (CK L (b+1+2*eD L b) j)).1
  unfold rJ at hl
  rw [h] at hl
  cases hl
 ·obtain ⟨j,b,rfl⟩:=kS hx
  have h:=(qG L (kN L j b) (CK L (b+1+2*eD L b) j)).2.2.2.2.2
  unfold rJ at he
  rcases h with h | ⟨c,h⟩
  ·rw [h] at he
   cases he
  ·rw [h] at he
   obtain rfl:=List.mem_singleton.1 he
   exact ⟨NZ (by have:=(tT L (kV L j b) c).len; omega) 0 (by omega),by have:=YH (jW L (kN L j b) c).1; omega⟩
def Tb.free (x:Tb):Tb:=⟨x.n,x.cols,x.pr,x.un,x.fk,[]⟩
def aGE (S:List Tb):List Tb:=S.map Tb.free
@[simp] theorem aFq (S:List Tb):(aGE S).length=S.length:=List.length_map _
def mW (x:Tb) (a:At):Bool:=decide (0≤a.col)&&(decide (a.col<x.cols.length)&&(!dJ x a.col &&
 if a.op=14∨a.op=15 then a.v.valid&&a.v.k==dE x a.col else if a.op=16∨a.op=17∨a.op=18∨a.op=19 then a.v.valid&&(a.v.k==1&&dE x a.col==1) else if a.op=21 then V.beq a.v nulV else if a.op=5 then V.beq a.v nulV&&dE x a.col==2 else false))
theorem wE (x:Tb) (hx:x.ok) (a:At):Cf En 282 [x.a,a.a] [] (.d (.bool (mW x a))) []:=by
 refine aD aW (fn:=Tryz.f282) (by kernel_rfl) rfl (by kernel_rfl) (by decide) (by simp) ?_
 unfold mW
 by_cases h1:a.col<0
 ·have h1':¬ 0≤a.col:=by omega
  simp [Tb.a,Tb.c,At.a,At.c,h1,h1']
  (repeat' (first|contradiction|exact .ok|apply And.intro|intro _|(refine gc (fun h=>?_) (fun h=>?_)<;>(have h':=h;(try simp at h');first|done|simp[h,h',h1]|simp[h1]))))
 have h1':0≤a.col:=by omega
 by_cases h2:(x.cols.length:Int)≤a.col
 ·have h2':¬ a.col<x.cols.length:=by omega
  simp [Tb.a,Tb.c,At.a,At.c,h1,h1',h2,h2']
  (repeat' (first|contradiction|exact .ok|apply And.intro|intro _|(refine gc (fun h=>?_) (fun h=>?_)<;>(have h':=h;(try simp at h');first|done|simp[h,h',h1,h2]|simp[h1,h2]))))
 have h2':a.col<x.cols.length:=by omega
 have hk:=aAB x hx a.col
 obtain ⟨u,hu⟩:∃ u,u=x.cols[a.col.toNat]:=⟨_,rfl⟩
 have hgu:∀ h,x.cols[a.col.toNat]'h=u:=fun _=>hu.symm
 have hty:dE x a.col=u.t:=by unfold dE; rw [List.getElem?_eq_getElem (by omega),← hu]; rfl
 rw [hty]
 simp [Tb.a,Tb.c,At.a,At.c,h1,h1',h2,h2']
 (repeat' (first|contradiction|exact .ok|apply And.intro|intro _|(refine gc (fun h=>?_) (fun h=>?_)<;>(have h':=h;(try simp at h');first|done|simp[h,h',h1,h2]|simp[h1,h2]))))
 refine aA hk (by simp [Tb.a,Tb.c]) ?_
 generalize dJ x a.col=K at *
 cases K with
 | true =>
   simp
   all_goals exact gz
 | false =>
   have hlt:a.col.toNat<x.cols.length:=by omega
   have hv:=rF a.v
   have hne:V.beq a.v nulV=(a.v.k==0&&(a.v.n==0&&a.v.t==[])):=rfl
   by_cases h14:a.op=14
   ·simp [h1',h2',hlt,hgu,Col.c,h14]
    (repeat' (first|contradiction|exact .ok|apply And.intro|intro _|(refine gc (fun h=>?_) (fun h=>?_)<;>(have h':=h;(try simp at h');first|done|simp[h,h',h1',h2',hlt,hgu,h14]|simp[h1',h2',hlt,hgu,h14]))))
    refine aA hv (by simp [V.a]) ?_
    generalize a.v.valid=B at *
    cases B
    ·simp
     all_goals exact gz
    ·simp [h1',h2',hlt,hgu,Col.c]
     all_goals exact gz
   by_cases h15:a.op=15
   ·simp [h1',h2',hlt,hgu,Col.c,h14,h15]
    (repeat' (first|contradiction|exact .ok|apply And.intro|intro _|(refine gc (fun h=>?_) (fun h=>?_)<;>(have h':=h;(try simp at h');first|done|simp[h,h',h1',h2',hlt,hgu,h14,h15]|simp[h1',h2',hlt,hgu,h14,h15]))))
    refine aA hv (by simp [V.a]) ?_
    generalize a.v.valid=B at *
    cases B
    ·simp
     all_goals exact gz
    ·simp [h1',h2',hlt,hgu,Col.c]
     all_goals exact gz
   by_cases h16:a.op=16∨a.op=17∨a.op=18∨a.op=19
   ·have hn14:¬ (a.op=14∨a.op=15):=by omega
    rw [if_neg hn14,if_pos h16]
    rcases h16 with h | h | h | h
    all_goals (
     simp [h1',h2',hlt,hgu,Col.c,h]
     (repeat' (first|contradiction|exact .ok|apply And.intro|intro _|(refine gc (fun h=>?_) (fun h=>?_)<;>(have h':=h;(try simp at h');first|done|simp[h,h',h1',h2',hlt,hgu,h]|simp[h1',h2',hlt,hgu,h]))))
     refine aA hv (by simp [V.a]) ?_
     generalize a.v.valid=B at *
     cases B with
     | false =>
       simp
       all_goals exact gz
     | true =>
       by_cases hk1:a.v.k=1
       ·simp [hk1]
        (repeat' (first|contradiction|exact .ok|apply And.intro|intro _|(refine gc (fun h=>?_) (fun h=>?_)<;>(have h':=h;(try simp at h');first|done|simp[h,h',hk1]|simp[hk1]))))
        all_goals (try simp [h1',h2'])
       ·simp [hk1]
        (repeat' (first|contradiction|exact .ok|apply And.intro|intro _|(refine gc (fun h=>?_) (fun h=>?_)<;>(have h':=h;(try simp at h');first|done|simp[h,h',hk1]|simp[hk1]))))
        all_goals (try simp [h1',h2']))
   have n16:¬ a.op=16:=fun h=>h16 (.inl h)
   have n17:¬ a.op=17:=fun h=>h16 (.inr (.inl h))
   have n18:¬ a.op=18:=fun h=>h16 (.inr (.inr (.inl h)))
   have n19:¬ a.op=19:=fun h=>h16 (.inr (.inr (.inr h)))
   rw [if_neg (by omega),if_neg h16]
   by_cases h21:a.op=21
   ·rw [if_pos h21,hne]
    simp [h1',h2',hlt,hgu,Col.c,h14,h15,n16,n17,n18,n19,h21]
    (repeat' (first|contradiction|exact .ok|apply And.intro|intro _|(refine gc (fun h=>?_) (fun h=>?_)<;>(have h':=h;(try simp at h');first|done|simp[h,h',h1',h2',hlt,hgu,h14,h15,n16,n17,n18,n19,h21]|simp[h1',h2',hlt,hgu,h14,h15,n16,n17,n18,n19,h21]))))
   by_cases h5:a.op=5
   ·rw [if_neg h21,if_pos h5,hne]
    by_cases e1:a.v.k=0∧a.v.n=0∧a.v.t=[]
    ·obtain ⟨e1,e2,e3⟩:=e1
     simp [h1',h2',hlt,hgu,Col.c,h14,h15,n16,n17,n18,n19,h21,h5,e1,e2,e3]
     (repeat' (first|contradiction|exact .ok|apply And.intro|intro _|(refine gc (fun h=>?_) (fun h=>?_)<;>(have h':=h;(try simp at h');first|done|simp[h,h',h1',h2',hlt,hgu,h14,h15,n16,n17,n18,n19,h21,h5,e1,e2,e3]|simp[h1',h2',hlt,hgu,h14,h15,n16,n17,n18,n19,h21,h5,e1,e2,e3]))))
    ·have e2:(a.v.k==0&&(a.v.n==0&&a.v.t==[]))=false:=by
      cases hq:(a.v.k==0&&(a.v.n==0&&a.v.t==[])) with
      | false=>rfl
      | true=>exfalso; apply e1; simpa using hq
     simp [h1',h2',hlt,hgu,Col.c,h14,h15,n16,n17,n18,n19,h21,h5,e2]
     (repeat' (first|contradiction|exact .ok|apply And.intro|intro _|(refine gc (fun h=>?_) (fun h=>?_)<;>(have h':=h;(try simp at h');first|done|simp[h,h',h1',h2',hlt,hgu,h14,h15,n16,n17,n18,n19,h21,h5,e2]|simp[h1',h2',hlt,hgu,h14,h15,n16,n17,n18,n19,h21,h5,e2]))))
   rw [if_neg h21,if_neg h5]
   simp [h1',h2',hlt,hgu,Col.c,h14,h15,n16,n17,n18,n19,h21,h5]
   (repeat' (first|contradiction|exact .ok|apply And.intro|intro _|(refine gc (fun h=>?_) (fun h=>?_)<;>(have h':=h;(try simp at h');first|done|simp[h,h',h1',h2',hlt,hgu,h14,h15,n16,n17,n18,n19,h21,h5]|simp[h1',h2',hlt,hgu,h14,h15,n16,n17,n18,n19,h21,h5]))))
mutual
def Ex.eq:Ex→Ex→Bool
 | .mk o c n t g ks,.mk o' c' n' t' g' ks'=>o==o'&&(c==c'&&(n==n'&&(t==t'&&(g==g'&&fD ks ks'))))
def fD:List Ex→List Ex→Bool
 | [],[]=>true
 | e::es,f::fs=>e.eq f&&fD es fs
 | [],_::_=>false
 | _::_,[]=>false
end
theorem wB:∀ (a b:List Ex),a.length ≠ b.length→fD a b=false
 | [],[],h=>absurd rfl h
 | [],_::_,_=>by rw [fD]
 | _::_,[],_=>by rw [fD]
 | e::es,f::fs,h=>by rw [fD,wB es fs (by simpa using h)]; simp
theorem BK {a b:List Ex} {i:Nat} {x y:Ex} (h1:a[i]?=some x) (h2:b[i]?=some y):fD (a.drop i) (b.drop i)=(x.eq y&&fD (a.drop (i+1)) (b.drop (i+1))):=by
 obtain ⟨hi,rfl⟩:=List.getElem?_eq_some_iff.1 h1
 obtain ⟨hj,rfl⟩:=List.getElem?_eq_some_iff.1 h2
 rw [List.drop_eq_getElem_cons hi,List.drop_eq_getElem_cons hj,fD]
theorem EK {a b:List Ex} {i:Nat} (h1:a.length≤i) (h2:b.length≤i):fD (a.drop i) (b.drop i)=true:=by
 rw [List.drop_eq_nil_of_le h1,List.drop_eq_nil_of_le h2,fD]
mutual
theorem Ex.eq_self:∀ e:Ex,e.eq e=true
 | .mk o c n t g ks=>by rw [Ex.eq,BL ks]; simp
theorem BL:∀ l:List Ex,fD l l=true
 | []=>by rw [fD]
 | e::es=>by rw [fD,e.eq_self,BL es]; rfl
end
theorem yD:∀ (m:Nat) (x y:Ex),SizeOf.sizeOf x<m→x.fits→Cf En 95 [x.a,y.a] [] (.d (.bool (x.eq y))) []
 | 0,_,_,h,_=>absurd h (by omega)
 | m+1,.mk o c n t g ks,.mk o' c' n' t' g' ks',hm,hfit=>by
   refine aD aW (fn:=Tryz.f95) (by kernel_rfl) rfl (by kernel_rfl) (by decide) (by simp) ?_
   rw [Ex.fits] at hfit
   have he:(Ex.mk o c n t g ks).eq (.mk o' c' n' t' g' ks')=(o==o'&&(c==c'&&(n==n'&&(t==t'&&(g==g'&&fD ks ks'))))):=by rw [Ex.eq]
   rw [he]
   by_cases h1:o=o'
   ·by_cases h2:c=c'
    ·by_cases h3:n=n'
     ·by_cases h4:t=t'
      ·by_cases h5:g=g'
       ·by_cases h6:ks.length=ks'.length
        ·have h6':(ks.length:Int)=ks'.length:=by omega
         subst h1 h2 h3 h4 h5
         have hr:(o==o&&(c==c&&(n==n&&(t==t&&(g==g&&fD ks ks')))))=fD ks ks':=by simp
         rw [hr]
         generalize hres:fD ks ks'=res
         simp [Ex.a,Ex.c,aC,h6,h6']
         refine ⟨.of (by kernel_rfl),.of (by kernel_rfl),.of (by kernel_rfl),?_⟩
         refine aL aW (by decide) (fun i:Nat=>{ s:=cG [(2,.ptr 2 0 0),(3,.ptr 3 0 0),(5,.d (.int .i64 i))],b:=cE [(2,2,.var (Ex.a (.mk o c n t g ks)).cells),(3,3,.var (Ex.a (.mk o c n t g ks')).cells)] }) (fun i:Nat=>i≤ks'.length∧fD (ks.drop i) (ks'.drop i)=res) (fun i=>ks'.length - i) 0 (by simp [hres]) (aE _ _ ⟨by simp,by simp,by simp [aB,Blk.live,Ex.a,Ex.c,aC],by simp⟩ (by simp [aB])) ?_
         rintro i ⟨hi,ho⟩
         by_cases hlt:i<ks'.length
         ·have hlt':(i:Int)<ks'.length:=by omega
          have hla:i<ks.length:=by omega
          have hg:ks[i]?=some ks[i]:=List.getElem?_eq_getElem hla
          have hg2:ks'[i]?=some ks'[i]:=List.getElem?_eq_getElem hlt
          have hd:=BK hg hg2
          have c1:=Ex.clen ks[i]
          have c2:=Ex.clen ks'[i]
          have k1:=Ex.ctake ks[i]
          have k2:=Ex.ctake ks'[i]
          have hkid:SizeOf.sizeOf ks[i]<m:=by
           have:=Ex.kid_lt (e:=.mk o c n t g ks) (k:=ks[i]) (List.getElem_mem hla)
           omega
          simp [Ex.a,Ex.c,aC,h6,hlt,hlt',hla,hg,hg2,c1,c2,k1,k2]
          refine ⟨.of (by kernel_rfl),aA (yD m ks[i] ks'[i] hkid (mI ks hfit.2 _ (List.getElem_mem hla))) (by simp [Ex.a]) ?_⟩
          simp
          refine ⟨.of (by kernel_rfl),fun h=>⟨.of (by kernel_rfl),?_⟩,fun h=>⟨.of (by kernel_rfl),i+1,⟨hlt,?_⟩,?_,?_⟩⟩
          ·rw [← ho,hd,h]; rfl
          ·rw [← ho,hd,h]; rfl
          ·refine aE _ [(2,2,_),(3,3,_)] ⟨by simp,by simp,by simp [aB,Blk.live,Ex.a,Ex.c,aC],by simp⟩ ?_
           simp [aB]
           exact aH (by omega) (by omega)
          ·simp; omega
         ·have hlt':¬ (i:Int)<ks'.length:=by omega
          simp [Ex.a,Ex.c,aC,h6,hlt,hlt']
          refine ⟨.of (by kernel_rfl),.of (by kernel_rfl),?_⟩
          rw [← ho,EK (by omega) (by omega)]
        ·have h6':¬ (ks.length:Int)=ks'.length:=by omega
         rw [wB ks ks' h6]
         simp [Ex.a,Ex.c,aC,h1,h2,h3,h4,h5,h6,h6']
         exact ⟨.of (by kernel_rfl),.of (by kernel_rfl),.of (by kernel_rfl)⟩
       ·have h5':(g==g')=false:=by simp [h5]
        have h5n:(g != g')=true:=by simp [h5]
        simp [Ex.a,Ex.c,aC,h1,h2,h3,h4,h5,h5',h5n]
        exact ⟨.of (by kernel_rfl),.of (by kernel_rfl),.of (by kernel_rfl)⟩
      ·have h4':(t==t')=false:=by simp [h4]
       have h4n:(!(t==t'))=true:=by simp [h4]
       simp [Ex.a,Ex.c,aC,h1,h2,h3,h4,h4',h4n]
       exact ⟨.of (by kernel_rfl),.of (by kernel_rfl),.of (by kernel_rfl)⟩
     ·have h3':(n==n')=false:=by simp [h3]
      have h3n:(n != n')=true:=by simp [h3]
      simp [Ex.a,Ex.c,aC,h1,h2,h3,h3',h3n]
      exact ⟨.of (by kernel_rfl),.of (by kernel_rfl),.of (by kernel_rfl)⟩
    ·have h2':(c==c')=false:=by simp [h2]
     have h2n:(c != c')=true:=by simp [h2]
     simp [Ex.a,Ex.c,aC,h1,h2,h2',h2n]
     exact ⟨.of (by kernel_rfl),.of (by kernel_rfl),.of (by kernel_rfl)⟩
   ·have h1':(o==o')=false:=by simp [h1]
    have h1n:(o != o')=true:=by simp [h1]
    simp [Ex.a,Ex.c,aC,h1,h1',h1n]
    exact ⟨.of (by kernel_rfl),.of (by kernel_rfl),.of (by kernel_rfl)⟩
end Go.Proofs.Tryz
