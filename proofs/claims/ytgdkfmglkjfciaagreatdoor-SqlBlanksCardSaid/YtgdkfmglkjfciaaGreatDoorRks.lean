import Derived.Test.YtgdkfmglkjfciaaGreatDoorPRkp
import Derived.Test.YtgdkfmglkjfciaaGreatDoorPExc0
set_option linter.all false
namespace Go.Proofs.Tryz
open Go.Ab
set_option maxRecDepth 100000
theorem Kp.len {st st':RS} (k:Kp st st'):st'.1.length≤st.1.length:=k.1.length_le
theorem is_lt {w:List UInt8} {st:RS} (h:rIs w st=true):(rNext st).1.length<st.1.length:=by
 obtain ⟨h1,h2⟩:=rIs_W h
 unfold rNext
 rw [if_pos h1]
 have:=isW_len h2
 simp only
 omega
theorem one_lt {ws:List (List UInt8)} {st:RS} {i:Nat} (h:rOne ws st=some i):(rNext st).1.length<st.1.length:=by
 obtain ⟨h1,h2⟩:=rOne_W h
 unfold rNext
 rw [if_pos h1]
 have:=one_len h2
 simp only
 omega
theorem is_nilR {w:List UInt8} {b:Int}:rIs w ([],b)=false:=by unfold rIs; simp [isW]
theorem one_nilR {ws:List (List UInt8)} {b:Int}:rOne ws ([],b)=none:=by
 unfold rOne
 split
 ·exact one_nil ws
 ·rfl
theorem nil_of {s:RS} (h:s.1.length≤0):s=([],s.2):=by
 obtain ⟨l,b⟩:=s
 obtain rfl:l=[]:=List.length_eq_zero_iff.1 (by simp only at h; omega)
 rfl
theorem kp_as (s:RS):Kp s (asR s).2:=by
 unfold asR
 split
 ·rename_i h; exact (kp_is h).trans (kp_name _)
 ·exact .refl s
theorem kp_opt (w:List UInt8) (s:RS):Kp s (rOpt w s).2:=by
 unfold rOpt
 split
 ·rename_i h; exact kp_is h
 ·exact .refl s
section
variable {tm:RS→Tm×RS} {st:RS→Sm×RS} (hT:∀ s,Kp s (tm s).2) (hS:∀ s,Kp s (st s).2)
include hT in
theorem kp_item (s:RS):Kp s (itemR tm s).2:=(hT s).trans (kp_as _)
include hT in
theorem kp_items:∀ (k:Nat) (is:List It) (s:RS),Kp s (itemsR tm k is s).2
 | 0,is,s=>.refl s
 | k+1,is,s=>by
   rw [itemsR]
   split
   ·rename_i h; exact (kp_is h).trans ((kp_item hT _).trans (kp_items k _ _))
   ·exact .refl s
include hS in
theorem kp_source (s:RS):Kp s (sourceR st s).2:=by
 unfold sourceR
 split
 ·rename_i h; exact (kp_is h).trans ((hS _).trans ((kp_want _ _).trans ((kp_want _ _).trans (kp_name _))))
 ·exact (kp_name s).trans (kp_as _)
include hT hS in
theorem kp_join (k:Nat) (s:RS):Kp s (joinR tm st k s).2:=by
 unfold joinR
 simp only
 split
 ·exact (kp_want _ _).trans (kp_source hS _)
 ·exact (kp_want _ _).trans ((kp_source hS _).trans ((kp_want _ _).trans (hT _)))
include hT hS in
theorem kp_joins:∀ (k:Nat) (js:List Jo) (s:RS),Kp s (joinsR tm st k js s).2
 | 0,js,s=>.refl s
 | k+1,js,s=>by
   rw [joinsR]
   split
   ·exact .refl s
   ·split
    ·rename_i h; exact (kp_one h).trans ((kp_join hT hS _ _).trans (kp_joins k _ _))
    ·split
     ·exact (kp_join hT hS _ _).trans (kp_joins k _ _)
     ·exact .refl s
include hT in
theorem kp_oneR (w:List UInt8) (s:RS):Kp s (oneR tm w s).2:=by
 unfold oneR
 split
 ·rename_i h; exact (kp_is h).trans (hT _)
 ·exact .refl s
include hT in
theorem kp_group (s:RS):Kp s (groupR tm s).2:=by
 unfold groupR
 split
 ·rename_i h; exact (kp_is h).trans ((kp_want _ _).trans ((hT _).trans (kp_more hT _ _ _)))
 ·exact .refl s
include hT in
theorem kp_star (s:RS):Kp s (starR tm s).2:=by
 unfold starR
 split
 ·rename_i h; exact kp_is h
 ·exact (kp_item hT s).trans (kp_items hT _ _ _)
include hT hS in
theorem kp_sel (s:RS):Kp s (selR tm st s).2 :=
 (kp_want _ s).trans ((kp_opt _ _).trans ((kp_star hT _).trans ((kp_want _ _).trans ((kp_source hS _).trans ((kp_joins hT hS _ _ _).trans ((kp_oneR hT _ _).trans ((kp_group hT _).trans (kp_oneR hT _ _))))))))
include hT hS in
theorem kp_core (s:RS):Kp s (coreR tm st s).2:=by
 unfold coreR
 split
 ·rename_i h; exact (kp_is h).trans ((hS _).trans (kp_want _ _))
 ·exact kp_sel hT hS s
include hT hS in
theorem kp_stmtR:∀ (k:Nat) (x:Sm) (s:RS),Kp s (stmtR tm st k x s).2
 | 0,x,s=>.refl s
 | k+1,x,s=>by
   rw [stmtR]
   split
   ·exact .refl s
   ·rename_i h; exact (kp_one h).trans ((kp_opt _ _).trans ((kp_core hT hS _).trans (kp_stmtR k _ _)))
def itCR (tm:RS→Tm×RS) (is:List It) (s:RS):List It×RS:=itemsR tm s.1.length is s
def moCR (tm:RS→Tm×RS) (ks:List Tm) (s:RS):List Tm×RS:=moreR tm s.1.length ks s
def joCR (tm:RS→Tm×RS) (st:RS→Sm×RS) (js:List Jo) (s:RS):List Jo×RS:=joinsR tm st s.1.length js s
def stCR (tm:RS→Tm×RS) (st:RS→Sm×RS) (x:Sm) (s:RS):Sm×RS:=stmtR tm st s.1.length x s
include hT in
theorem itemsR_fu:∀ (k m:Nat) (is:List It) (s:RS),s.1.length≤k→s.1.length≤m→itemsR tm k is s=itemsR tm m is s
 | 0,m,is,s,h,_=>by
   rw [nil_of h]
   cases m with
   | zero=>rfl
   | succ m=>rw [itemsR,itemsR,is_nilR,if_neg (by simp)]
 | k+1,0,is,s,_,h=>by
   rw [nil_of h,itemsR,itemsR,is_nilR,if_neg (by simp)]
 | k+1,m+1,is,s,h,h'=>by
   rw [itemsR,itemsR]
   split
   ·rename_i hw
    have hlen:=is_lt hw
    have hk:=(kp_item hT (rNext s)).len
    exact itemsR_fu k m _ _ (by omega) (by omega)
   ·rfl
include hT in
theorem itCR_eq (is:List It) (s:RS):itCR tm is s=if rIs wComma s=true then itCR tm (is++[(itemR tm (rNext s)).1]) (itemR tm (rNext s)).2 else (is,s):=by
 unfold itCR
 rw [itemsR_fu hT s.1.length (s.1.length+1) is s (Nat.le_refl _) (by omega),itemsR]
 split
 ·rename_i hw
  have hlen:=is_lt hw
  have hk:=(kp_item hT (rNext s)).len
  exact itemsR_fu hT _ _ _ _ (by omega) (Nat.le_refl _)
 ·rfl
include hT in
theorem moreR_fu:∀ (k m:Nat) (is:List Tm) (s:RS),s.1.length≤k→s.1.length≤m→moreR tm k is s=moreR tm m is s
 | 0,m,is,s,h,_=>by
   rw [nil_of h]
   cases m with
   | zero=>rfl
   | succ m=>rw [moreR,moreR,is_nilR,if_neg (by simp)]
 | k+1,0,is,s,_,h=>by
   rw [nil_of h,moreR,moreR,is_nilR,if_neg (by simp)]
 | k+1,m+1,is,s,h,h'=>by
   rw [moreR,moreR]
   split
   ·rename_i hw
    have hlen:=is_lt hw
    have hk:=(hT (rNext s)).len
    exact moreR_fu k m _ _ (by omega) (by omega)
   ·rfl
include hT in
theorem moCR_eq (is:List Tm) (s:RS):moCR tm is s=if rIs wComma s=true then moCR tm (is++[(tm (rNext s)).1]) (tm (rNext s)).2 else (is,s):=by
 unfold moCR
 rw [moreR_fu hT s.1.length (s.1.length+1) is s (Nat.le_refl _) (by omega),moreR]
 split
 ·rename_i hw
  have hlen:=is_lt hw
  have hk:=(hT (rNext s)).len
  exact moreR_fu hT _ _ _ _ (by omega) (Nat.le_refl _)
 ·rfl
def jnR (tm:RS→Tm×RS) (st:RS→Sm×RS) (s:RS):Jo×Bool×RS:=match rOne joiR s with
 | some i=>((joinR tm st i (rNext s)).1,true,(joinR tm st i (rNext s)).2)
 | none=>if rIs wJoin s=true then ((joinR tm st 1 s).1,true,(joinR tm st 1 s).2) else (.mk 1 [] [] [] [],false,s)
include hT hS in
theorem jn_lt {s:RS} (h:(jnR tm st s).2.1=true):(jnR tm st s).2.2.1.length<s.1.length:=by
 unfold jnR at *
 cases ho:rOne joiR s with
 | some i =>
   simp only
   have:=(kp_join hT hS i (rNext s)).len
   have:=one_lt ho
   omega
 | none =>
   rw [ho] at h
   simp only at h ⊢
   cases hw:rIs wJoin s with
   | false=>rw [hw] at h; simp at h
   | true =>
     simp only [if_true]
     have h1:=is_lt hw
     unfold joinR
     have e:rWant wJoin s=rNext s:=by unfold rWant; rw [if_pos hw]
     simp only [e]
     split
     ·rename_i h0; exact absurd h0 (by decide)
     ·have:=((kp_source hS (rNext s)).trans ((kp_want wOn _).trans (hT _))).len
      simp only
      omega
theorem jn_no {s:RS} (h:(jnR tm st s).2.1=false):(jnR tm st s).2.2=s:=by
 unfold jnR at *
 cases ho:rOne joiR s with
 | some i=>rw [ho] at h; simp at h
 | none =>
   rw [ho] at h
   simp only at h ⊢
   split at h
   ·simp at h
   ·rename_i hw; rw [if_neg hw]
theorem joinsR_step (k:Nat) (js:List Jo) (s:RS):joinsR tm st (k+1) js s=if 0≤s.2 then (js,s) else if (jnR tm st s).2.1=true then joinsR tm st k (js++[(jnR tm st s).1]) (jnR tm st s).2.2 else (js,s):=by
 rw [joinsR]
 unfold jnR
 split
 ·rfl
 ·cases ho:rOne joiR s with
  | some i=>simp
  | none =>
    simp only
    split
    ·simp
    ·simp
include hT hS in
theorem joinsR_fu:∀ (k m:Nat) (js:List Jo) (s:RS),s.1.length≤k→s.1.length≤m→joinsR tm st k js s=joinsR tm st m js s:=by
 have z:∀ (m:Nat) (js:List Jo) (s:RS),s.1.length≤0→joinsR tm st m js s=(js,s):=fun m js s h=>by
  rw [nil_of h]
  cases m with
  | zero=>rfl
  | succ m =>
    rw [joinsR,one_nilR]
    simp only [is_nilR]
    split <;> rfl
 intro k
 induction k with
 | zero=>intro m js s h _; rw [z _ _ _ h,z _ _ _ h]
 | succ k ih =>
   intro m js s h h'
   cases m with
   | zero=>rw [z _ _ _ h',z _ _ _ h']
   | succ m =>
     rw [joinsR_step,joinsR_step]
     split
     ·rfl
     ·split
      ·rename_i hj
       have:=jn_lt hT hS hj
       exact ih m _ _ (by omega) (by omega)
      ·rfl
include hT hS in
theorem joCR_eq (js:List Jo) (s:RS):joCR tm st js s=if 0≤s.2 then (js,s) else if (jnR tm st s).2.1=true then joCR tm st (js++[(jnR tm st s).1]) (jnR tm st s).2.2 else (js,s):=by
 unfold joCR
 rw [joinsR_fu hT hS s.1.length (s.1.length+1) js s (Nat.le_refl _) (by omega),joinsR_step]
 split
 ·rfl
 ·split
  ·rename_i hj
   have:=jn_lt hT hS hj
   exact joinsR_fu hT hS _ _ _ _ (by omega) (Nat.le_refl _)
  ·rfl
include hT hS in
theorem stmtR_fu:∀ (k m:Nat) (x:Sm) (s:RS),s.1.length≤k→s.1.length≤m→stmtR tm st k x s=stmtR tm st m x s
 | 0,m,x,s,h,_=>by
   rw [nil_of h]
   cases m with
   | zero=>rfl
   | succ m=>rw [stmtR,stmtR,one_nilR]
 | k+1,0,x,s,_,h=>by
   rw [nil_of h,stmtR,stmtR,one_nilR]
 | k+1,m+1,x,s,h,h'=>by
   rw [stmtR,stmtR]
   split
   ·rfl
   ·rename_i i ho
    have hlen:=one_lt ho
    have h2:=(kp_opt wAll (rNext s)).len
    have h3:=(kp_core hT hS (rOpt wAll (rNext s)).2).len
    exact stmtR_fu k m _ _ (by omega) (by omega)
include hT hS in
theorem stCR_eq (x:Sm) (s:RS):stCR tm st x s=match rOne setW s with
  | none=>(x,s)
  | some i=>stCR tm st (setS i (rOpt wAll (rNext s)).1 x (coreR tm st (rOpt wAll (rNext s)).2).1) (coreR tm st (rOpt wAll (rNext s)).2).2:=by
 unfold stCR
 rw [stmtR_fu hT hS s.1.length (s.1.length+1) x s (Nat.le_refl _) (by omega),stmtR]
 cases ho:rOne setW s with
 | none=>rfl
 | some i =>
   have hlen:=one_lt ho
   have h2:=(kp_opt wAll (rNext s)).len
   have h3:=(kp_core hT hS (rOpt wAll (rNext s)).2).len
   exact stmtR_fu hT hS _ _ _ _ (by omega) (Nat.le_refl _)
end
theorem kp_stmtQ (N:Nat):∀ (n:Nat) (s:RS),Kp s (stmtQ N n s).2
 | 0,s=>kp_fail s
 | n+1,s=>by
   rw [stmtQ]
   exact (kp_core (kp_par N 0) (kp_stmtQ N n) s).trans (kp_stmtR (kp_par N 0) (kp_stmtQ N n) _ _ _)
end Go.Proofs.Tryz
