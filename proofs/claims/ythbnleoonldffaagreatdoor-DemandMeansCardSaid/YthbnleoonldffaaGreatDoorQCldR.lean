import Derived.Test.YthbnleoonldffaaGreatDoorOrs
import Derived.Test.YthbnleoonldffaaGreatDoorQClcR
import Derived.Test.YthbnleoonldffaaGreatDoorQEnvR
import Derived.Test.YthbnleoonldffaaGreatDoorQSfi
set_option linter.all false
namespace Go.Proofs.Tryz
open Go.Ab
set_option maxRecDepth 100000
set_option maxHeartbeats 4000000
def HW (S:List Tb) (k:Nat):List Fk:=match S[k]? with | some x=>x.fk | none=>[]
theorem RM (S:List Tb) (k:Nat):jO S k=fR S (HW S k) []:=by
 unfold jO HW
 cases S[k]? <;> rfl
theorem YU {S:List Tb} {k:Nat} {z:Int}:z∈jO S k↔∃ f∈HW S k,iB S f=z:=by
 rw [RM,DZ]
 simp
theorem OY {S:List Tb} {k:Nat}:(jO S k).Nodup:=by
 rw [RM]
 exact xA List.nodup_nil
def AR (S:List Tb) (done:Nat→Bool) (k:Nat):Bool:=!done k&&(HW S k).all fun f=>done (iB S f).toNat
def iQ (S:List Tb) (done:Nat→Bool):Int:=aY (AR S done) (bE (fun k=>k) S.length) 0
def VU (done:Nat→Bool) (z:Int) (k:Nat):Bool:=done k||decide ((k:Int)=z)
def jX (S:List Tb):Nat→(Nat→Bool)→List Int→List Int×Int
 | 0,_,out=>(out,0)
 | n+1,done,out=>if iQ S done<0 then ([],7) else jX S n (VU done (iQ S done)) (out++[iQ S done])
theorem AS {α:Type} {p q:α→Bool}:∀ {l:List α} {i:Nat},(∀ x∈l,p x=q x)→aY p l i=aY q l i
 | [],_,_=>rfl
 | x::l,i,h=>by
   rw [aY,aY,h x List.mem_cons_self,AS fun y hy=>h y (List.mem_cons_of_mem _ hy)]
theorem qZ {α:Type} {p:α→Bool}:∀ {l:List α} {i:Nat},aY p l i<(i:Int)+l.length
 | [],i=>by rw [aY]; simp; omega
 | x::l,i=>by
   rw [aY,List.length_cons]
   split
   ·omega
   ·have:=qZ (p:=p) (l:=l) (i:=i+1)
    push_cast at this ⊢
    omega
structure OkO (S:List Tb) (al:Nat→Bool) (es:Nat→List Int) (done:Nat→Bool):Prop where
 ha:∀ k,k<S.length→al k=!done k
 nd:∀ k,k<S.length→(es k).Nodup
 mem:∀ k,k<S.length→al k=true→∀ z,z∈es k↔(∃ f∈HW S k,iB S f=z)∧done z.toNat=false
theorem aBY {S:List Tb} {al:Nat→Bool} {es:Nat→List Int} {done:Nat→Bool} (h:OkO S al es done):lM S.length al es=iQ S done:=by
 unfold lM iQ
 refine AS fun k hk=>?_
 obtain ⟨j,hj,hkj⟩:=iJ.1 hk
 subst hkj
 unfold AR
 rw [← h.ha k hj]
 cases ha:al k
 ·rfl
 ·rw [Bool.true_and,Bool.true_and,Bool.eq_iff_iff,beq_iff_eq,List.length_eq_zero_iff,List.all_eq_true,List.eq_nil_iff_forall_not_mem]
  constructor
  ·intro h1 f hf
   cases hd:done (iB S f).toNat
   ·exact absurd ((h.mem k hj ha _).2 ⟨⟨f,hf,rfl⟩,hd⟩) (h1 _)
   ·rfl
  ·intro h1 z hz
   obtain ⟨⟨f,hf,rfl⟩,hd⟩:=(h.mem k hj ha _).1 hz
   rw [h1 f hf] at hd
   cases hd
theorem YV {S:List Tb} {al:Nat→Bool} {es:Nat→List Int} {done:Nat→Bool} (hT:∀ k,∀ f∈HW S k,0≤iB S f) (h:OkO S al es done) {z:Int} (hz:0≤z):OkO S (xX al z) (VV al es z) (VU done z):=by
 refine ⟨fun k hk=>?_,fun k hk=>?_,fun k hk ha y=>?_⟩
 ·unfold xX VU
  rw [h.ha k hk,Bool.not_or]
  congr 1
 ·unfold VV
  split
  ·exact (h.nd k hk).erase z
  ·exact h.nd k hk
 ·unfold VV
  rw [if_pos ha,(h.nd k hk).mem_erase_iff,h.mem k hk (by unfold xX at ha; rw [Bool.and_eq_true] at ha; exact ha.1)]
  unfold VU
  rw [Bool.or_eq_false_iff,decide_eq_false_iff_not]
  constructor
  ·rintro ⟨h1,⟨f,hf,rfl⟩,h2⟩
   have:=hT k f hf
   exact ⟨⟨f,hf,rfl⟩,h2,by omega⟩
  ·rintro ⟨⟨f,hf,rfl⟩,h2,h3⟩
   have:=hT k f hf
   exact ⟨by omega,⟨f,hf,rfl⟩,h2⟩
theorem RN {S:List Tb} (hT:∀ k,∀ f∈HW S k,0≤iB S f):∀ (n:Nat) {al:Nat→Bool} {es:Nat→List Int} {done:Nat→Bool} {out:List Int},OkO S al es done→uL S.length n al es out=jX S n done out
 | 0,_,_,_,_,_=>rfl
 | n+1,al,es,done,out,h=>by
   rw [uL,jX,aBY h]
   split
   ·rfl
   ·rename_i hz
    exact RN hT n (YV hT h (by omega))
theorem aBZ {S:List Tb} {k:Nat} {f:Fk} (h:f∈HW S k):∃ x∈S,f∈x.fk:=by
 unfold HW at h
 split at h
 ·rename_i x hx
  exact ⟨x,List.mem_of_getElem? hx,h⟩
 ·cases h
theorem AT {S:List Tb} (h:mM S=false) (k:Nat):∀ f∈HW S k,0≤iB S f:=by
 intro f hf
 obtain ⟨x,hx,hfx⟩:=aBZ hf
 unfold mM at h
 rw [List.any_eq_false] at h
 have:=h x hx
 rw [List.any_eq_true] at this
 by_cases h0:0≤iB S f
 ·exact h0
 ·exact absurd ⟨f,hfx,by simp; omega⟩ this
theorem uK (S:List Tb):eX S=if mM S=true then ([],11) else jX S S.length (fun _=>false) []:=by
 unfold eX
 split
 ·rfl
 ·rename_i h
  have hm:mM S=false:=by simpa using h
  refine RN (fun k=>AT hm k) _ ⟨fun _ _=>rfl,fun k _=>OY,fun k _ _ z=>?_⟩
  rw [YU]
  simp
def jQ {α β:Type} (f:α→β×Int):List α→List β×Int
 | []=>([],0)
 | x::xs=>if (f x).2=0 then (if (jQ f xs).2=0 then ((f x).1::(jQ f xs).1,0) else ([],(jQ f xs).2)) else ([],(f x).2)
theorem LW {α β:Type} {f:α→β×Int}:∀ {l:List α},(∀ x∈l,(f x).2=0)→jQ f l=(l.map fun x=>(f x).1,0)
 | [],_=>rfl
 | x::xs,h=>by
   rw [jQ,if_pos (h x List.mem_cons_self),LW fun y hy=>h y (List.mem_cons_of_mem _ hy),if_pos rfl]; rfl
theorem ER {α β:Type} {f:α→β×Int}:∀ {l:List α} {i:Nat} {x:α},(∀ j y,j<i→l[j]?=some y→(f y).2=0)→l[i]?=some x→(f x).2 ≠ 0→jQ f l=([],(f x).2)
 | [],i,x,_,h,_=>by simp at h
 | y::ys,0,x,_,h,hn=>by
   have:y=x:=by simpa using h
   subst this
   rw [jQ,if_neg hn]
 | y::ys,i+1,x,ho,h,hn=>by
   have h0:=ho 0 y (by omega) rfl
   have h1:=ER (l:=ys) (i:=i) (x:=x) (fun j z hj hz=>ho (j+1) z (by omega) (by simpa using hz)) (by simpa using h) hn
   rw [jQ,if_pos h0,h1,if_neg hn]
theorem ES {α β:Type} {f:α→β×Int}:∀ (l:List α),(jQ f l).2=0→∀ x∈l,(f x).2=0
 | [],_,x,hx=>by cases hx
 | y::ys,h,x,hx=>by
   rw [jQ] at h
   split at h
   ·rename_i h1
    split at h
    ·rename_i h2
     rcases List.mem_cons.1 hx with rfl | hx
     ·exact h1
     ·exact ES ys h2 x hx
    ·exact absurd h (by assumption)
   ·exact absurd h (by assumption)
theorem uQ {o:Int} (h1:6≤o) (h2:o≤28):o=6∨o=7∨o=8∨o=9∨o=10∨o=11∨o=12∨o=13∨o=14∨o=15∨o=16∨o=17∨o=18∨o=19∨o=20∨o=21∨o=22∨o=23∨o=24∨o=25∨o=26∨o=27∨o=28:=by omega
def fC (ty:Int) (l:List Int):Bool :=
 if ty=1 then l.all (·==1) else if ty=2 then l.all (·==3) else if ty=3 then l.all (·==2)
 else if ty=4 then l.all (·==(l[0]?).getD 0) else if ty=6 then (l[0]?).getD 0==2&&(l[1]?).getD 0==(l[2]?).getD 0 else true
def iD (ts:List Int) (o c g:Int) (kts:List Int):Int :=
 if o=5 then (ts[g.toNat]?).getD 0 else if o=1 then c else if (bK o).2.2.2=0 then (kts[kts.length - 1]?).getD 0 else (bK o).2.2.2
def dG (ts:List Int) (o c g:Int) (kts:List Int):Int×Int :=
 if o=5 then (if 1≤(ts[g.toNat]?).getD 0∧(ts[g.toNat]?).getD 0≤3 then ((ts[g.toNat]?).getD 0,0) else (0,4))
 else if fC (bK o).2.2.1 kts=true then (iD ts o c g kts,0) else (0,4)
def dT (ts:List Int) (o c g:Int) (k:List Int):Int :=
 if o=1 then c else if o=2 then 1 else if o=3 then 2 else if o=4 then 3 else if o=5 then (ts[g.toNat]?).getD 0
 else if o≤11 then (if k.all (·==1)=true then 1 else 0)
 else if o=12 then (if k.all (·==3)=true then 3 else 0)
 else if o=13 then (if k.all (·==3)=true then 1 else 0)
 else if o=21 then 2
 else if o=22∨o=23∨o=24∨o=25 then (if k.all (·==2)=true then 2 else 0)
 else if o=26 then (if (k[0]?).getD 0=2∧(k[1]?).getD 0=(k[2]?).getD 0 then (k[1]?).getD 0 else 0)
 else if o=27 then (if (k[0]?).getD 0=(k[1]?).getD 0 then (k[0]?).getD 0 else 0)
 else (if k.all (·==(k[0]?).getD 0)=true then 2 else 0)
theorem aAG {o:Int} {k:Nat} (h:bI o k=true) (h1:6≤o):if o=11∨o=13∨o=21∨o=24∨o=25 then k=1 else if o=26 then k=3 else if o=28 then 2≤k else k=2:=by
 have h2:o≤28:=by
  unfold bI bL at h
  simp only [Bool.and_eq_true,decide_eq_true_eq] at h
  omega
 rcases uQ h1 h2 with rfl | rfl | rfl | rfl | rfl | rfl | rfl | rfl | rfl | rfl | rfl | rfl | rfl | rfl | rfl | rfl | rfl | rfl | rfl | rfl | rfl | rfl | rfl <;> simp [bI,bL,bK,ops] at h <;> simp <;> omega
theorem aAH (ts:List Int) (o c g:Int) (k:List Int) (h1:6≤o) (h2:o≤28) (hc:bI o k.length=true) (hk:∀ x∈k,1≤x∧x≤3) :
  dG ts o c g k=if dT ts o c g k<1∨3<dT ts o c g k then (0,4) else (dT ts o c g k,0):=by
 have hcn:=aAG hc h1
 rcases uQ h1 h2 with rfl | rfl | rfl | rfl | rfl | rfl | rfl | rfl | rfl | rfl | rfl | rfl | rfl | rfl | rfl | rfl | rfl | rfl | rfl | rfl | rfl | rfl | rfl
 case inr.inr.inr.inr.inr.inr.inr.inr.inr.inr.inr.inr.inr.inr.inr.inr.inr.inr.inr.inr.inr.inr =>
  simp only [dG,dT,fC,iD,bK,ops]
  simp
  split <;> simp_all
 case inr.inr.inr.inr.inr.inr.inr.inr.inr.inr.inr.inr.inr.inr.inr.inr.inr.inr.inr.inr.inl =>
  have h3:k.length=3:=by simpa using hcn
  match k,h3 with
  | [a,b,d],_ =>
    have ha:=hk a (by simp)
    have hb:=hk b (by simp)
    have hd:=hk d (by simp)
    simp [dG,dT,fC,iD,bK,ops]
    by_cases e1:a=2 <;> by_cases e2:b=d <;> simp_all
    try omega
 case inr.inr.inr.inr.inr.inr.inr.inr.inr.inr.inr.inr.inr.inr.inr.inr.inr.inr.inr.inr.inr.inl =>
  have h3:k.length=2:=by simpa using hcn
  match k,h3 with
  | [a,b],_ =>
    have ha:=hk a (by simp)
    have hb:=hk b (by simp)
    simp [dG,dT,fC,iD,bK,ops]
    by_cases e1:a=b
    ·subst e1
     simp
     omega
    ·simp [e1,Ne.symm e1]
     try exact fun h=>absurd h.symm e1
 all_goals
  simp [dG,dT,fC,iD,bK,ops]
  try (split <;> simp_all)
theorem aAI (ts:List Int) (o c g:Int) (h1:1≤o) (h2:o≤5) (hc:o=1→1≤c∧c≤3) :
  dG ts o c g []=if dT ts o c g []<1∨3<dT ts o c g [] then (0,4) else (dT ts o c g [],0):=by
 have ho:o=1∨o=2∨o=3∨o=4∨o=5:=by omega
 rcases ho with rfl | rfl | rfl | rfl | rfl
 ·have:=hc rfl
  simp [dG,dT,fC,iD,bK,ops]
  omega
 ·simp [dG,dT,fC,iD,bK,ops]
 ·simp [dG,dT,fC,iD,bK,ops]
 ·simp [dG,dT,fC,iD,bK,ops]
 ·simp only [dG,dT]
  simp
  split <;> split <;> first | rfl | omega
theorem aCU (ts:List Int) (o c g:Int) (k:List Int) (h:dG ts o c g k=if dT ts o c g k<1∨3<dT ts o c g k then (0,4) else (dT ts o c g k,0)) (h0:(dG ts o c g k).2=0):1≤(dG ts o c g k).1∧(dG ts o c g k).1≤3:=by
 rw [h] at h0 ⊢
 split at h0
 ·exact absurd h0 (by decide)
 ·rename_i h1
  rw [if_neg h1]
  simp only
  omega
theorem lF {α:Type} {p:α→Bool}:∀ {l:List α} {i:Nat},decide (0≤aY p l i)=l.any p
 | [],i=>by simp [aY]
 | x::l,i=>by
   rw [aY,List.any_cons]
   split
   ·rename_i h; rw [h]; simp
   ·rename_i h
    have h':p x=false:=by simpa using h
    rw [lF,h',Bool.false_or]
theorem XG (l:List Int):∀ x∈aG l,x.length=1:=by
 intro x hx
 obtain ⟨n,_,rfl⟩:=List.mem_map.1 hx
 rfl
theorem aBs (l:List Int) (hl:l.length≤1000) (z:Int):Cf En 327 [.d (.sl (aG l)),.d (.int .i64 z)] [] (.d (.int .i64 (aY (fun x=>z==x) l 0))) []:=by
 refine aD aW (fn:=Tryz.f327) (by kernel_rfl) rfl (by kernel_rfl) (by decide) (by simp) ?_
 simp
 (repeat' first|contradiction|exact .ok|apply And.intro|intro _|(apply gc<;>simp+contextual))
 refine aL aW (by decide) (fun i:Nat=>{ s:=cG [(0,.d (.sl (aG l))),(1,.d (.int .i64 z)),(7,.d (.int .i64 l.length)),(8,.d (.int .i64 i))],b:=cE [] }) (fun i=>i≤l.length∧aY (fun x=>z==x) (l.drop i) i=aY (fun x=>z==x) l 0) (fun i=>l.length - i) 0 (by simp) (aE _ [] .nil (by simp)) ?_
 rintro i ⟨hi,hf⟩
 by_cases hlt:i<l.length
 ·rw [dX hlt] at hf
  have hw:=aH (n:=(i:Int)+1) (by omega) (by omega)
  obtain ⟨u,hu⟩:∃ u,u=l[i]:=⟨_,rfl⟩
  have hgi:∀ h,l[i]'h=u:=fun _=>hu.symm
  have hg:=dS hlt
  rw [← hu] at hf hg
  by_cases he:z=u
  ·subst he
   rw [if_pos (by simp)] at hf
   simp [hlt,hgi,hg,← hf]
   all_goals exact gz
  ·rw [if_neg (by simpa using he)] at hf
   simp [hlt,hgi,hg,he]
   (repeat' first|contradiction|exact .ok|apply And.intro|intro _|(apply gc<;>simp+contextual[he]))
   refine ⟨i+1,⟨by omega,by simpa using hf⟩,?_,by simp; omega⟩
   exact aE _ [] .nil (by simp [hw])
 obtain rfl:i=l.length:=by omega
 rw [List.drop_length,aY] at hf
 simp [← hf]
 all_goals exact gz
theorem oN (l:List Int) (hl:l.length≤1000) (z:Int):Cf En 253 [.d (.sl (aG l)),.d (.int .i64 z)] [] (.d (.bool (l.contains z))) []:=by
 refine aD aW (fn:=Tryz.f253) (by kernel_rfl) rfl (by kernel_rfl) (by decide) (by simp) ?_
 have h:=lF (p:=fun x=>z==x) (l:=l) (i:=0)
 have hc:l.contains z=l.any fun x=>z==x:=by rw [List.contains_eq_any_beq]
 rw [hc]
 simp
 (repeat' first|contradiction|exact .ok|apply And.intro|intro _|(apply gc<;>simp+contextual))
 refine aA (aBs l hl z) (by simp) ?_
 simp [h]
 all_goals exact gz
theorem KN (c:UInt8):Cf Es 135 [.d (.int .u8 c.toNat)] [] (.d (.bool (sK c))) []:=by
 refine aD cF (fn:=Tryz.f135) (by kernel_rfl) rfl (by kernel_rfl) (by decide) (by simp) ?_
 unfold sK
 simp
 (repeat' (first|contradiction|exact .ok|apply And.intro|intro _|(refine gc (fun h=>?_) (fun h=>?_)<;>(have h':=h;(try simp at h');first|done|simp[h,h']|simp))))
 all_goals (first | (rw [Bool.eq_iff_iff]; simp; omega) | (simp; omega) | (simp_all; omega))
theorem KO:words.all jR=true:=by decide
theorem UI {c:UInt8} {s:List UInt8} (hl:s.length≤15) (hc:sK c=true) :
  iP words (c::s)=(!jA (32::(c::(s++[32]))) (oT words)&&(c::s).all iA):=by
 have h:=fun hp=>rW (c::s) hp words KO
 rw [List.cons_append] at h
 unfold iP qX
 cases ha:(c::s).all iA with
 | false=>simp
 | true =>
   rw [h (CI ha)]
   simp [hc]
   omega
theorem YL (s:List UInt8):Cf Es 69 [.d (.str s)] [] (.d (.bool (iP words s))) []:=by
 refine aD cF (fn:=Tryz.f69) (by kernel_rfl) rfl (by kernel_rfl) (by decide) (by simp) ?_
 cases s with
 | nil =>
   simp [iP,qX]
   all_goals exact gz
 | cons c s =>
   by_cases hl:s.length≤15
   ·have hl':¬ (16:Int)<(s.length:Int)+1:=by omega
    have hl3:¬ (16:Int)<(s.length:Int):=by omega
    simp [hl,hl']
    refine ⟨.of (by kernel_rfl),?_⟩
    refine aA (KN c) (by simp) ?_
    simp [hl,hl']
    refine aN (fun h=>?_) (fun h=>?_)
    ·have h':sK c=true:=by simpa using h
     have b1:1+(s.length+1)≤9223372036854775807:=by omega
     have b2:s.length+1+1≤9223372036854775807:=by omega
     have b3:s.length+1+1+1≤9223372036854775807:=by omega
     have b4:1+(s.length+1)+1≤9223372036854775807:=by omega
     simp [h,h',b1,b2,b3,b4]
     refine aA (OJ (oT words) (32::((c::s)++[32])) (by decide)) (by simp [oT,words]) ?_
     rw [UI hl h']
     generalize hW:jA (32::(c::(s++[32]))) (oT words)=W
     generalize hA:(c::s).all iA=A
     cases W with
     | true =>
       simp [h,h',hW]
       all_goals exact gz
     | false =>
       simp [h,h',hW]
       obtain ⟨t,ht⟩:∃ t,t=c::s:=⟨_,rfl⟩
       have htl:(s.length:Int)+1=t.length:=by rw [ht]; simp
       have htn:t.length≤16:=by rw [ht]; simp; omega
       rw [← ht] at hA ⊢
       rw [htl]
       refine ⟨.of (by kernel_rfl),.of (by kernel_rfl),?_⟩
       refine aL cF (by decide) (fun i:Nat=>{ s:=cG [(0,.d (.str t)),(25,.d (.int .i64 t.length)),(26,.d (.int .i64 i))],b:=cE [] }) (fun i:Nat=>i≤t.length∧∀ j (h:j<t.length),j<i→iA t[j]=true) (fun i=>t.length - i) 0 (by simp) (aE _ [] .nil (by simp)) ?_
       clear ht htl hl hl' hl3 h h' hW b1 b2 b3 b4
       rintro i ⟨hi,ho⟩
       by_cases hlt:i<t.length
       ·have hlt':(i:Int)<t.length:=by omega
        have hg:t[i]?=some t[i]:=List.getElem?_eq_getElem hlt
        simp [hlt,hlt',hg]
        refine ⟨.of (by kernel_rfl),.of (by kernel_rfl),.of (by kernel_rfl),?_⟩
        refine aA (KN t[i]) (by simp) ?_
        simp
        have hbad:iA t[i]=false→A=false:=fun h=>by
         rw [← hA]
         cases hx:t.all iA with
         | false=>rfl
         | true=>rw [List.all_eq_true.1 hx _ (List.getElem_mem hlt)] at h; cases h
        have hgood:iA t[i]=true→∀ j (h:j<t.length),j<i+1→iA t[j]=true:=fun h j hj hji=>by
         rcases Nat.lt_or_ge j i with c | c
         ·exact ho j hj c
         ·have:j=i:=by omega
          subst this
          exact h
        generalize hb:t[i]=b at *
        have hnb:iA b=(sK b||(decide (48≤b.toNat)&&decide (b.toNat≤57)||b.toNat==95)):=rfl
        clear ho hA hg
        (repeat' (first|contradiction|exact .ok|apply And.intro|intro _|(refine gc (fun h=>?_) (fun h=>?_)<;>(have h':=h;(try simp at h');first|done|simp[h,h']|simp))))
        all_goals first
         | (refine ⟨i+1,⟨hlt,hgood ?_⟩,aE _ [] .nil ?_,?_⟩
            ·clear hbad hgood hb; first | (rw [hnb]; simp_all; done) | (rw [hnb]; simp_all; omega)
            ·simp; exact aH (by omega) (by omega)
            ·simp; omega)
         | (apply hbad; clear hbad hgood hb; rw [hnb]; simp_all; done)
         | (apply hbad; clear hbad hgood hb; rw [hnb]; simp_all; omega)
       ·have hlt':¬ (i:Int)<t.length:=by omega
        have:A=true:=by
         rw [← hA,List.all_eq_true]
         intro x hx
         obtain ⟨j,hj,rfl⟩:=List.getElem_of_mem hx
         exact ho j hj (by omega)
        simp [hlt,hlt',this]
        exact ⟨.of (by kernel_rfl),.of (by kernel_rfl)⟩
    ·have h':sK c=false:=by simpa using h
     simp [h,h',iP,qX]
     all_goals exact gz
   ·have hn:iP words (c::s)=false:=by unfold iP; simp; intro h; omega
    rw [hn]
    have hl':(16:Int)<(s.length:Int)+1:=by omega
    simp [hl,hl']
    (repeat' (first|contradiction|exact .ok|apply And.intro|intro _|(refine gc (fun h=>?_) (fun h=>?_)<;>(have h':=h;(try simp at h');first|done|simp[h,h',hl']|simp[hl']))))
    all_goals simp_all
theorem OV:Cf Es 128 [] [] (.d (.sl (words.map fun w=>[.str w]))) []:=by
 refine aD cF (fn:=Tryz.f128) (by kernel_rfl) rfl (by kernel_rfl) (by decide) (by simp) ?_
 simp [words]
 all_goals exact gz
theorem YM (s:List UInt8):Cf Es 60 [.d (.str s)] [] (.d (.bool (iP words s))) []:=by
 refine aD cF (fn:=Tryz.f60) (by kernel_rfl) rfl (by kernel_rfl) (by decide) (by simp) ?_
 cases s with
 | nil =>
   simp [iP,qX]
   all_goals exact gz
 | cons c s =>
   by_cases hl:s.length≤15
   ·have hl':¬ (16:Int)<(s.length:Int)+1:=by omega
    have hl3:¬ (s.length:Int)+1<1:=by omega
    have hN:iP words (c::s)=(sK c&&((c::s).all iA&&!words.contains (c::s))):=by
     unfold iP qX
     simp
     omega
    rw [hN]
    generalize hA:(c::s).all iA=A
    generalize hW:words.contains (c::s)=W
    generalize hR:(sK c&&(A&&!W))=R
    by_cases hc:sK c=true
    ·have h1:¬ (c.toNat:Int)<97:=by unfold sK at hc; simp at hc; omega
     have h2:¬ (122:Int)<c.toNat:=by unfold sK at hc; simp at hc; omega
     simp [hl,hl',hl3,h1,h2,hc]
     obtain ⟨t,ht⟩:∃ t,t=c::s:=⟨_,rfl⟩
     have htl:(s.length:Int)+1=t.length:=by rw [ht]; simp
     have htn:t.length≤16:=by rw [ht]; simp; omega
     rw [← ht] at hA hW ⊢
     refine ⟨.of (by kernel_rfl),.of (by kernel_rfl),.of (by kernel_rfl),?_⟩
     refine aL cF (by decide) (fun i:Nat=>{ s:=cG [(0,.d (.str t)),(3,.d (.int .i64 i))],b:=cE [] }) (fun i:Nat=>i≤t.length∧∀ j (h:j<t.length),j<i→iA t[j]=true) (fun i=>t.length - i) 0 (by simp) (aE _ [] .nil (by simp)) ?_
     clear ht htl hl hl' hl3 h1 h2
     rintro i ⟨hi,ho⟩
     by_cases hlt:i<t.length
     ·have hlt':(i:Int)<t.length:=by omega
      have hg:t[i]?=some t[i]:=List.getElem?_eq_getElem hlt
      simp [hlt,hlt',hg]
      refine ⟨.of (by kernel_rfl),?_⟩
      have hbad:iA t[i]=false→A=false:=fun h=>by
       rw [← hA]
       cases hx:t.all iA with
       | false=>rfl
       | true=>rw [List.all_eq_true.1 hx _ (List.getElem_mem hlt)] at h; cases h
      have hgood:iA t[i]=true→∀ j (h:j<t.length),j<i+1→iA t[j]=true:=fun h j hj hji=>by
       rcases Nat.lt_or_ge j i with c | c
       ·exact ho j hj c
       ·have:j=i:=by omega
        subst this
        exact h
      generalize hb:t[i]=b at *
      have hgi:∀ h,t[i]'h=b:=fun _=>hb
      have hnb:iA b=(decide (97≤b.toNat)&&decide (b.toNat≤122)||(decide (48≤b.toNat)&&decide (b.toNat≤57)||b.toNat==95)):=rfl
      clear ho hA
      (repeat' (first|contradiction|exact .ok|apply And.intro|intro _|(refine gc (fun h=>?_) (fun h=>?_)<;>(have h':=h;(try simp at h');first|done|simp[h,h',hg,hlt,hgi]|simp[hg,hlt,hgi]))))
      all_goals first
       | (refine ⟨i+1,⟨hlt,hgood ?_⟩,aE _ [] .nil ?_,?_⟩
          ·clear hbad hgood hb hgi hR; first | (rw [hnb]; simp_all; done) | (rw [hnb]; simp_all; omega)
          ·simp; exact aH (by omega) (by omega)
          ·simp; omega)
       | (rw [← hR,show A=false by (apply hbad; clear hbad hgood hb hgi hR; first | (rw [hnb]; simp_all; done) | (rw [hnb]; simp_all; omega))]; simp)
     ·have hlt':¬ (i:Int)<t.length:=by omega
      have:A=true:=by
       rw [← hA,List.all_eq_true]
       intro x hx
       obtain ⟨j,hj,rfl⟩:=List.getElem_of_mem hx
       exact ho j hj (by omega)
      subst this
      clear ho hA hi
      simp [hlt,hlt']
      refine ⟨.of (by kernel_rfl),?_⟩
      refine aA OV (by simp) ?_
      simp
      (repeat refine ⟨.of (by kernel_rfl),?_⟩)
      refine aL cF (by decide) (fun i:Nat=>{ s:=cG [(0,.d (.str t)),(4,.d (.sl (words.map fun w=>[.str w]))),(5,.d (.int .i64 i))],b:=cE [] }) (fun i:Nat=>i≤words.length∧(words.drop i).contains t=W) (fun i=>words.length - i) 0 (by simp [← hW]) (aE _ [] .nil (by simp)) ?_
      clear hlt hlt' i
      rintro i ⟨hi,ho⟩
      by_cases hlt:i<words.length
      ·have hlt':(i:Int)<words.length:=by omega
       obtain ⟨v,hg⟩:∃ v,words[i]?=some v:=⟨_,List.getElem?_eq_getElem hlt⟩
       have hgi:∀ h,words[i]'h=v:=fun h=>(List.getElem?_eq_some_iff.1 hg).2
       have hd:words.drop i=v::words.drop (i+1):=by rw [List.drop_eq_getElem_cons hlt,hgi]
       rw [hd] at ho
       simp [hlt,hlt',hg,hgi]
       refine ⟨.of (by kernel_rfl),.of (by kernel_rfl),fun h=>⟨.of (by kernel_rfl),?_⟩,fun h=>⟨.of (by kernel_rfl),i+1,⟨hlt,?_⟩,aE _ [] .nil ?_,?_⟩⟩
       ·subst h
        simp at ho
        rw [← hR,← ho]; simp
       ·rw [← ho]
        simp
        intro e
        exact absurd e.symm h
       ·simp
        have:words.length=52:=rfl
        exact aH (by omega) (by omega)
       ·simp; omega
      ·have hlt':¬ (i:Int)<words.length:=by omega
       have hWf:W=false:=by
        rw [← ho,List.drop_eq_nil_of_le (by omega)]; rfl
       simp [hlt,hlt']
       refine ⟨.of (by kernel_rfl),.of (by kernel_rfl),?_⟩
       rw [← hR,hWf,hc]; rfl
    ·have hc':sK c=false:=by simpa using hc
     have hRf:R=false:=by rw [← hR,hc']; rfl
     subst hRf
     clear hR
     unfold sK at hc'
     simp [hl,hl',hl3]
     (repeat' (first|contradiction|exact .ok|apply And.intro|intro _|(refine gc (fun h=>?_) (fun h=>?_)<;>(have h':=h;(try simp at h');first|done|simp[h,h',hl3]|simp[hl3]))))
     all_goals first | (simp_all; done) | (simp_all; omega)
   ·have hn:iP words (c::s)=false:=by unfold iP; simp; intro h; omega
    rw [hn]
    have hl':(16:Int)<(s.length:Int)+1:=by omega
    have hl3:¬ (s.length:Int)+1<1:=by omega
    have hl4:(1:Int)≤(s.length:Int)+1:=by omega
    simp [hl,hl',hl3,hl4]
    (repeat' (first|contradiction|exact .ok|apply And.intro|intro _|(refine gc (fun h=>?_) (fun h=>?_)<;>(have h':=h;(try simp at h');first|done|simp[h,h',hl',hl3,hl4]|simp[hl',hl3,hl4]))))
    all_goals simp_all
theorem zW:∀ (m:Nat) (e:Ex),SizeOf.sizeOf e<m→∀ q:Nat,e.few q=true→e.nodes≤1048576→Cf En 191 [e.a] [] (.d (fV e.cols)) []
 | 0,_,h,_,_,_=>absurd h (by omega)
 | m+1,.mk o c n t g ks,hm,q,hq,hn=>by
   obtain ⟨hk,ht,hfew⟩:=gI hq
   rw [Ex.nodes] at hn
   have:=qD ks
   exact JP o c n g t ks hk (by omega) fun e he=>by
    have:=kF ks e he
    exact zW m e (by have:=Ex.kid_lt (e:=.mk o c n t g ks) (k:=e) he; omega) (q+1) (hfew e he) (by omega)
theorem GI:∀ (m:Nat) (e:Ex),SizeOf.sizeOf e<m→∀ q:Nat,e.few q=true→e.nodes≤1048576→Cf En 131 [e.a] [] (.d (fV e.rcols)) []
 | 0,_,h,_,_,_=>absurd h (by omega)
 | m+1,.mk o c n t g ks,hm,q,hq,hn=>by
   obtain ⟨hk,ht,hfew⟩:=gI hq
   rw [Ex.nodes] at hn
   exact JR o c n g t ks hk (by omega) fun e he=>by
    have:=kF ks e he
    exact GI m e (by have:=Ex.kid_lt (e:=.mk o c n t g ks) (k:=e) he; omega) (q+1) (hfew e he) (by omega)
end Go.Proofs.Tryz
