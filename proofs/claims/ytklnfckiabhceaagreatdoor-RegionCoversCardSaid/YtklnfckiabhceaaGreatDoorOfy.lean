import Derived.Test.YtklnfckiabhceaaGreatDoorOfx
set_option linter.all false
namespace Go.Proofs.Tryz
open Go.Ab
set_option maxRecDepth 100000
set_option maxHeartbeats 8000000
def ofZ (S:List Tb) (I:List (List (List V))) (R:List (List Rg)) (A:List (List At)) (t r:Int):Option Nat :=
 if plainS S=true∧0≤t∧0≤r then ofG S I R A (t.toNat+1) t.toNat r.toNat else none
theorem p_of_neg (S:List Tb) (h:FillOk S) (I:List (List (List V))) (R:List (List Rg)) (A:List (List At)) (ho:OfOk I R A) (t r:Int) (hn:t<0∨r<0) :
  Cf Eo 37 [schA S,instA I,.d (.sl (R.map rgD)),.d (.sl (A.map atD)),.d (.int .i64 t),.d (.int .i64 r)] [] (pairO none) []:=by
 refine cf_intro mixo (fn:=Tryz.f37) (by kernel_rfl) rfl (by kernel_rfl) (by decide) (by simp) ?_
 by_cases n1:t<0
 ·simp [schA,instA,pairO,n1]
  (repeat' (first|contradiction|exact .ok|apply And.intro|intro _|(refine gc (fun h=>?_) (fun h=>?_)<;>(have h':=h;(try simp at h');first|done|simp[h,h',n1]|simp[n1]))))
 have n2:r<0:=by omega
 obtain ⟨k,rfl⟩:∃ k:Nat,t=k:=⟨t.toNat,by omega⟩
 obtain ⟨M,hM⟩:∃ M:Int,M=(if (A.length:Int)<(if (R.length:Int)<(if I.length<S.length then (I.length:Int) else S.length) then (R.length:Int) else (if I.length<S.length then (I.length:Int) else S.length)) then (A.length:Int) else (if (R.length:Int)<(if I.length<S.length then (I.length:Int) else S.length) then (R.length:Int) else (if I.length<S.length then (I.length:Int) else S.length))):=⟨_,rfl⟩
 by_cases c:M≤k
 ·rw [hM] at c
  simp [schA,instA,pairO,n1,c]
  (repeat' (first|contradiction|exact .ok|apply And.intro|intro _|(refine gc (fun h=>?_) (fun h=>?_)<;>(have h':=h;(try simp at h');first|done|simp[h,h',n1,c]|simp[n1,c]))))
 ·rw [hM] at c
  simp [schA,instA,pairO,n1,c,n2]
  (repeat' (first|contradiction|exact .ok|apply And.intro|intro _|(refine gc (fun h=>?_) (fun h=>?_)<;>(have h':=h;(try simp at h');first|done|simp[h,h',n1,c,n2]|simp[n1,c,n2]))))
theorem p_Of (S:List Tb) (h:FillOk S) (hd:Dec S) (I:List (List (List V))) (R:List (List Rg)) (A:List (List At)) (ho:OfOk I R A) (t r:Int) :
  Cf Es 13 [schA S,instA I,.d (.sl (R.map rgD)),.d (.sl (A.map atD)),.d (.int .i64 t),.d (.int .i64 r)] [] (pairO (ofZ S I R A t r)) []:=by
 refine cf_intro mixs (fn:=Tryz.f13) (by kernel_rfl) rfl (by kernel_rfl) (by decide) (by simp) ?_
 have hp:=p_PlainA h.ok
 unfold ofZ
 cases hP:plainS S with
 | false =>
   rw [hP] at hp
   rw [if_neg (by simp)]
   simp [schA,instA]
   (repeat' (first|contradiction|exact .ok|apply And.intro|intro _|(refine gc (fun h=>?_) (fun h=>?_)<;>(have h':=h;(try simp at h');first|done|simp[h,h']|simp))))
   refine acallT_plain hp (by simp [schA]) ?_
   simp [pairO]
   all_goals exact gz
 | true =>
   rw [hP] at hp
   by_cases hn:t<0∨r<0
   ·rw [if_neg (by omega)]
    have hc:=upo (p_of_neg S h I R A ho t r hn)
    simp [schA,instA]
    (repeat' (first|contradiction|exact .ok|apply And.intro|intro _|(refine gc (fun h=>?_) (fun h=>?_)<;>(have h':=h;(try simp at h');first|done|simp[h,h']|simp))))
    refine acallT_plain hp (by simp [schA]) ?_
    simp
    (repeat' (first|contradiction|exact .ok|apply And.intro|intro _|(refine gc (fun h=>?_) (fun h=>?_)<;>(have h':=h;(try simp at h');first|done|simp[h,h']|simp))))
    refine acallT_plain hc (by simp [schA,instA]) ?_
    simp [pairO]
    all_goals exact gz
   ·rw [if_pos ⟨rfl,by omega,by omega⟩]
    obtain ⟨k,rfl⟩:∃ k:Nat,t=k:=⟨t.toNat,by omega⟩
    obtain ⟨n,rfl⟩:∃ k:Nat,r=k:=⟨r.toNat,by omega⟩
    have hc:=upo (p_of S h hd I R A ho (k+1) k n (by omega))
    rw [Int.toNat_natCast,Int.toNat_natCast]
    generalize ofG S I R A (k+1) k n=O at *
    simp [schA,instA]
    (repeat' (first|contradiction|exact .ok|apply And.intro|intro _|(refine gc (fun h=>?_) (fun h=>?_)<;>(have h':=h;(try simp at h');first|done|simp[h,h']|simp))))
    refine acallT_plain hp (by simp [schA]) ?_
    simp
    (repeat' (first|contradiction|exact .ok|apply And.intro|intro _|(refine gc (fun h=>?_) (fun h=>?_)<;>(have h':=h;(try simp at h');first|done|simp[h,h']|simp))))
    refine acallT_plain hc (by simp [schA,instA]) ?_
    simp [pairO]
    all_goals exact gz
end Go.Proofs.Tryz
