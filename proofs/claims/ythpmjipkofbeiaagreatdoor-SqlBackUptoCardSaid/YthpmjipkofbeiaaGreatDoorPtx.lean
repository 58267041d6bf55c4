import Derived.Test.YthpmjipkofbeiaaGreatDoorUFdx
import Derived.Lib.ItoaMem
import Derived.Lib.ParseIntB
set_option linter.all false
namespace Go.Proofs.Tryz
open Go.Ab
def cU (c:UInt8):Bool:=decide (48≤c.toNat)&&decide (c.toNat≤57)
theorem wQ {k:Nat} (h:k<10):(UInt8.ofNat (48+k)).toNat=48+k:=by
 rw [UInt8.toNat_ofNat']
 omega
theorem jT (u:Nat):∀ c∈Lib.decDigits u,cU c=true:=by
 induction u using Nat.strongRecOn with
 | _ u ih =>
   intro c hc
   rw [Lib.decDigits] at hc
   split at hc
   ·simp only [List.mem_singleton] at hc
    subst hc
    unfold cU
    rw [wQ (by omega)]
    simp
    omega
   ·rcases List.mem_append.1 hc with hc | hc
    ·exact ih _ (by omega) c hc
    ·simp only [List.mem_singleton] at hc
     subst hc
     unfold cU
     rw [wQ (by omega)]
     simp
     omega
theorem oX (u:Nat):Lib.decDigits u ≠ []:=by
 rw [Lib.decDigits]
 split <;> simp
def JA (acc:Nat) (l:List UInt8):Nat:=l.foldl (fun a c=>a*10+(c.toNat - 48)) acc
theorem rD (u:Nat):JA 0 (Lib.decDigits u)=u:=by
 induction u using Nat.strongRecOn with
 | _ u ih =>
   rw [Lib.decDigits]
   split
   ·simp only [JA,List.foldl_cons,List.foldl_nil]
    rw [wQ (by omega)]
    omega
   ·have:=ih (u / 10) (by omega)
    unfold JA at this ⊢
    rw [List.foldl_append,this]
    simp only [List.foldl_cons,List.foldl_nil]
    rw [wQ (by omega)]
    omega
theorem aBl:∀ (l:List UInt8) (acc:Nat),acc≤JA acc l
 | [],acc=>Nat.le_refl _
 | c::l,acc=>by
   have:=aBl l (acc*10+(c.toNat - 48))
   unfold JA at this ⊢
   rw [List.foldl_cons]
   omega
theorem xK:∀ (l:List UInt8) (acc:Nat),(∀ c∈l,cU c=true)→JA acc l≤18446744073709551615→Lib.parseUintM 18446744073709551615 acc l=.ok (JA acc l)
 | [],acc,_,_=>rfl
 | c::r,acc,hd,hm=>by
   have hc:=hd c List.mem_cons_self
   unfold cU at hc
   simp only [Bool.and_eq_true,decide_eq_true_eq] at hc
   have hr:=aBl r (acc*10+(c.toNat - 48))
   have he:JA acc (c::r)=JA (acc*10+(c.toNat - 48)) r:=rfl
   rw [he] at hm ⊢
   rw [Lib.parseUintM,if_pos hc,if_neg (by omega),if_neg (by omega)]
   exact xK r _ (fun x hx=>hd x (List.mem_cons_of_mem _ hx)) hm
theorem wR {c:UInt8} (h:cU c=true):48≤c.toNat∧c.toNat≤57:=by
 unfold cU at h
 simpa using h
theorem aAc (n:Int) (h0:-9223372036854775808≤n) (h1:n≤9223372036854775807):Lib.parseIntB 64 (Lib.itoa n)=.ok n:=by
 have key:∀ u:Nat,u≤18446744073709551615→Lib.parseUintB 64 (Lib.decDigits u)=.ok u:=fun u hu=>by
  unfold Lib.parseUintB
  rw [if_neg (oX u)]
  have:=xK (Lib.decDigits u) 0 (jT u) (by rw [rD]; exact hu)
  rw [rD] at this
  exact this
 unfold Lib.itoa
 split
 ·rename_i hn
  have h45:(45:UInt8).toNat=45:=rfl
  simp only [Lib.parseIntB,h45,or_true,if_true,true_and]
  rw [key _ (by omega)]
  simp only [not_true_eq_false,false_and,if_false]
  rw [if_neg (by omega)]
  congr 1
  omega
 ·rename_i hn
  obtain ⟨c,r,hcr⟩:=List.exists_cons_of_ne_nil (oX n.toNat)
  have hc:=wR (jT n.toNat c (by rw [hcr]; exact List.mem_cons_self))
  have hk:=key n.toNat (by omega)
  rw [hcr] at hk ⊢
  simp only [Lib.parseIntB]
  rw [if_neg (by omega),hk]
  simp only
  rw [if_neg (by omega),if_neg (by omega),if_neg (by omega)]
  congr 1
  omega
theorem JB:∀ (k u:Nat),u<10 ^ (k+1)→Lib.nDigits u≤k+1
 | 0,u,h=>by rw [Lib.nDigits_small (by simpa using h)]; omega
 | k+1,u,h=>by
   by_cases hu:u<10
   ·rw [Lib.nDigits_small hu]; omega
   ·rw [Lib.nDigits_big hu]
    have:=JB k (u / 10) (by rw [Nat.pow_succ] at h; omega)
    omega
def tru:List UInt8:=[116,114,117,101]
def fls:List UInt8:=[102,97,108,115,101]
def nul:List UInt8:=[110,117,108,108]
def gC (v:V):List UInt8:=if v.valid=true then (if v.k=1 then Lib.itoa v.n else if v.k=2 then (if v.n=1 then tru else fls) else if v.k=3 then 39::(v.t++[39]) else nul) else [63]
def cA (s:List UInt8) (v:V):Bool:=v.valid&&gC v==s
def mid (s:List UInt8):List UInt8:=(s.take (s.length - 1)).drop 1
def cF:V:=⟨0,0,[]⟩
def jD (s:List UInt8):Option V :=
 if s=tru then some ⟨2,1,[]⟩
 else if s=fls then some ⟨2,0,[]⟩
 else if s.head?=some 39∧s.getLast?=some 39∧2≤s.length then some ⟨3,0,mid s⟩
 else if s=nul then some cF
 else match Lib.parseIntB 64 s with
  | .ok n=>some ⟨1,n,[]⟩
  | _=>none
def dD (s:List UInt8):V×Int:=match jD s with
 | some v=>if cA s v=true then (v,0) else (cF,2)
 | none=>(cF,2)
def mT (a:Int) (c:UInt8):Int:=if cU c=true then IntKind.i64.wrap (IntKind.i64.wrap (10*a)+IntKind.i64.wrap (IntKind.u8.wrap (c.toNat - 48))) else a
def ER (s:List UInt8):Int:=if s.length≤14 then (if s.any (·==45)=true then IntKind.i64.wrap (0 - s.foldl mT 0) else s.foldl mT 0) else 0
def mU (s:List UInt8):List V:=[cF,⟨2,0,[]⟩,⟨2,1,[]⟩]++((if 2≤s.length then [⟨3,0,mid s⟩] else [])++[⟨1,ER s,[]⟩])
def lE (s:List UInt8):V×Int:=match (mU s).find? (cA s) with
 | some v=>(v,0)
 | none=>(cF,2)
theorem NC (n:Int):∃ c r,Lib.itoa n=c::r∧(c.toNat=45∨48≤c.toNat∧c.toNat≤57):=by
 unfold Lib.itoa
 split
 ·exact ⟨_,_,rfl,.inl rfl⟩
 ·obtain ⟨c,r,hcr⟩:=List.exists_cons_of_ne_nil (oX n.toNat)
  exact ⟨c,r,hcr,.inr (wR (jT n.toNat c (by rw [hcr]; exact List.mem_cons_self)))⟩
theorem jE {v:V} (h:v.valid=true):v=cF∨(v.k=1∧v.t=[]∧-1000000000000≤v.n∧v.n≤1000000000000)∨v=⟨2,0,[]⟩∨v=⟨2,1,[]⟩∨(v.k=3∧v.n=0):=by
 obtain ⟨k,n,t⟩:=v
 unfold V.valid at h
 simp only at h ⊢
 by_cases h0:k=0
 ·subst h0
  simp at h
  obtain ⟨rfl,rfl⟩:=h
  exact .inl rfl
 rw [if_neg h0] at h
 by_cases h1:k=1
 ·subst h1
  simp at h
  exact .inr (.inl ⟨rfl,h.2.2,h.1,h.2.1⟩)
 rw [if_neg h1] at h
 by_cases h2:k=2
 ·subst h2
  simp at h
  obtain ⟨h,rfl⟩:=h
  rcases h with rfl | rfl
  ·exact .inr (.inr (.inl rfl))
  ·exact .inr (.inr (.inr (.inl rfl)))
 rw [if_neg h2] at h
 by_cases h3:k=3
 ·subst h3
  simp at h
  exact .inr (.inr (.inr (.inr ⟨rfl,h.1⟩)))
 rw [if_neg h3] at h
 cases h
theorem VG:∀ (l:List UInt8) (a:Nat),(∀ c∈l,cU c=true)→a*10 ^ l.length+10 ^ l.length≤10 ^ 18→l.foldl mT (a:Int)=(JA a l:Nat)
 | [],a,_,_=>rfl
 | c::r,a,hd,hm=>by
   have hc:=hd c List.mem_cons_self
   have hr:=wR hc
   have hp:1≤10 ^ r.length:=Nat.one_le_pow _ _ (by decide)
   rw [List.length_cons,Nat.pow_succ] at hm
   have e2:(a*10+(c.toNat - 48))*10 ^ r.length+10 ^ r.length≤10 ^ 18:=by
    have:(a*10+(c.toNat - 48))*10 ^ r.length+10 ^ r.length≤a*(10 ^ r.length*10)+10 ^ r.length*10:=by
     have h9:(c.toNat - 48)*10 ^ r.length≤9*10 ^ r.length:=Nat.mul_le_mul_right _ (by omega)
     rw [Nat.add_mul]
     have:a*10*10 ^ r.length=a*(10 ^ r.length*10):=by rw [Nat.mul_assoc,Nat.mul_comm 10]
     omega
    omega
   have ha:a*10≤10 ^ 18:=by
    have:a*10≤a*(10 ^ r.length*10):=Nat.mul_le_mul_left _ (by omega)
    omega
   have hs:mT (a:Int) c=((a*10+(c.toNat - 48):Nat):Int):=by
    unfold mT
    rw [if_pos hc]
    have w1:IntKind.i64.wrap (10*(a:Int))=10*a:=aZ (by omega) (by omega)
    have w2:IntKind.u8.wrap ((c.toNat:Int) - 48)=(c.toNat:Int) - 48:=by
     have:IntKind.u8.wrap ((c.toNat:Int) - 48)=((c.toNat:Int) - 48) % 256:=by simp [IntKind.wrap,IntKind.signed,IntKind.bits]
     rw [this]
     omega
    rw [w1,w2,wI (n:=(c.toNat:Int) - 48),aZ (by omega) (by omega)]
    omega
   rw [List.foldl_cons,hs,VG r _ (fun x hx=>hd x (List.mem_cons_of_mem _ hx)) e2]
   rfl
theorem aDv (n:Int) (h0:-1000000000000≤n) (h1:n≤1000000000000):ER (Lib.itoa n)=n:=by
 have hlen:∀ u:Nat,u≤1000000000000→(Lib.decDigits u).length≤13:=fun u hu=>by
  rw [Lib.decDigits_length]
  exact JB 12 u (by omega)
 have hfold:∀ u:Nat,u≤1000000000000→(Lib.decDigits u).foldl mT 0=(u:Int):=fun u hu=>by
  have hl:=hlen u hu
  have hp:10 ^ (Lib.decDigits u).length≤10 ^ 13:=Nat.pow_le_pow_right (by decide) hl
  have:=VG (Lib.decDigits u) 0 (jT u) (by omega)
  rw [rD] at this
  exact this
 have hno:∀ u:Nat,(Lib.decDigits u).any (·==45)=false:=fun u=>by
  rw [List.any_eq_false]
  intro c hc
  have:=wR (jT u c hc)
  simp only [beq_iff_eq]
  rintro rfl
  revert this
  decide
 unfold ER Lib.itoa
 split
 ·rename_i hn
  have hl:=hlen n.natAbs (by omega)
  have h45:mT 0 45=0:=by unfold mT cU; simp
  rw [if_pos (by rw [List.length_cons]; omega),List.any_cons,List.foldl_cons,h45,hfold _ (by omega)]
  simp only [BEq.rfl,Bool.true_or,if_true]
  rw [aZ (by omega) (by omega)]
  omega
 ·rename_i hn
  have hl:=hlen n.toNat (by omega)
  rw [if_pos (by omega),hno,hfold _ (by omega)]
  simp only [Bool.false_eq_true,if_false]
  omega
theorem JC (t:List UInt8):mid (39::(t++[39]))=t:=by
 unfold mid
 simp
theorem aAd {s:List UInt8} {v:V} (h:cA s v=true):jD s=some v:=by
 unfold cA at h
 rw [Bool.and_eq_true,beq_iff_eq] at h
 obtain ⟨hv,hs⟩:=h
 unfold gC at hs
 rw [if_pos hv] at hs
 rcases jE hv with rfl | ⟨hk,ht,h0,h1⟩ | rfl | rfl | ⟨hk,hn⟩
 ·subst hs; simp [jD,cF,tru,fls,nul]
 ·rw [if_pos hk] at hs
  obtain ⟨c,r,hcr,hc⟩:=NC v.n
  have hp:=aAc v.n (by omega) (by omega)
  rw [hs] at hp hcr
  have hne:∀ (d:UInt8) (l:List UInt8),d.toNat ≠ 45→¬ (48≤d.toNat∧d.toNat≤57)→s ≠ d::l:=fun d l h45 hd e=>by
   rw [hcr] at e
   have hcd:c=d:=by injection e
   subst hcd
   omega
  unfold jD
  rw [if_neg (show ¬ s=tru from hne 116 _ (by decide) (by decide)),if_neg (show ¬ s=fls from hne 102 _ (by decide) (by decide)),if_neg,if_neg (show ¬ s=nul from hne 110 _ (by decide) (by decide)),hp]
  ·obtain ⟨k,n,t⟩:=v
   simp only at hk ht ⊢
   rw [hk,ht]
  ·rintro ⟨h39,_⟩
   rw [hcr] at h39
   have:c=39:=by simpa using h39
   subst this
   revert hc
   decide
 ·subst hs; simp [jD,tru,fls]
 ·subst hs; simp [jD,tru]
 ·have hk1:¬ v.k=1:=by omega
  have hk2:¬ v.k=2:=by omega
  rw [if_neg hk1,if_neg hk2,if_pos hk] at hs
  subst hs
  unfold jD
  rw [if_neg (by simp [tru]),if_neg (by simp [fls]),if_pos ⟨rfl,by rw [show (39::(v.t++[39]))=(39::v.t)++[39] from rfl,List.getLast?_append]; rfl,by simp⟩,JC]
  obtain ⟨k,n,t⟩:=v
  simp only at hk hn ⊢
  rw [hk,hn]
theorem aAe {s:List UInt8} {v:V} (h:cA s v=true):v∈mU s:=by
 unfold cA at h
 rw [Bool.and_eq_true,beq_iff_eq] at h
 obtain ⟨hv,hs⟩:=h
 unfold gC at hs
 rw [if_pos hv] at hs
 unfold mU
 rcases jE hv with rfl | ⟨hk,ht,h0,h1⟩ | rfl | rfl | ⟨hk,hn⟩
 ·simp
 ·rw [if_pos hk] at hs
  have:=aDv v.n h0 h1
  rw [hs] at this
  have:v=⟨1,ER s,[]⟩:=by
   obtain ⟨k,n,t⟩:=v
   simp only at hk ht this ⊢
   rw [hk,ht,this]
  rw [this]
  simp
 ·simp
 ·simp
 ·have hk1:¬ v.k=1:=by omega
  have hk2:¬ v.k=2:=by omega
  rw [if_neg hk1,if_neg hk2,if_pos hk] at hs
  have:v=⟨3,0,mid s⟩:=by
   rw [← hs,JC]
   obtain ⟨k,n,t⟩:=v
   simp only at hk hn ⊢
   rw [hk,hn]
  rw [this,if_pos (by rw [← hs]; simp)]
  simp
theorem ND {s:List UInt8} {v:V} (h:cA s v=true):dD s=(v,0):=by
 unfold dD
 rw [aAd h]
 simp only [h,if_true]
theorem NE (s:List UInt8):dD s=lE s:=by
 unfold lE
 cases hf:(mU s).find? (cA s) with
 | some v=>exact ND (List.find?_some hf)
 | none =>
   rw [List.find?_eq_none] at hf
   unfold dD
   cases hc:jD s with
   | none=>rfl
   | some v =>
     simp only
     rw [if_neg]
     intro hg
     exact hf v (aAe hg) hg
theorem CQ {v:V} (h:v.valid=true):dD (gC v)=(v,0):=ND (by unfold cA; simp [h])
theorem EG {v:V} (h:v.valid=true):v.t.length≤24:=by
 rcases jE h with rfl | ⟨_,ht,_,_⟩ | rfl | rfl | ⟨hk,hn⟩
 ·decide
 ·rw [ht]; decide
 ·decide
 ·decide
 ·unfold V.valid at h
  rw [hk] at h
  simp [oK] at h
  exact h.2.1
end Go.Proofs.Tryz
