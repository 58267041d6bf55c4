import Derived.Test.YtklnfckiabhceaaGreatDoorLog
import Derived.Test.YtklnfckiabhceaaGreatDoorKShy
set_option linter.all false
namespace Go.Proofs.Tryz
open Go.Ab
def absI (a:Int):Int:=if a < -a then -a else a
def mulOk (a b:Int):Bool:=a==0||(b==0||decide (absI a≤(1000000000000:Int).tdiv (absI b)))
def numOf (op a b:Int):Option Int :=
 if op=6 then some (a+b) else if op=7 then some (a - b)
 else if op=8 then (if mulOk a b=true then some (a*b) else none)
 else if op=9 then (if b=0 then none else some (a.tdiv b))
 else if op=10 then (if b=0 then none else some (a.tmod b)) else none
def fitV (v:V):V:=if v.valid=true then v else nulV
def arV (op:Int) (a b:V):V :=
 if a.valid=true∧b.valid=true∧a.k=b.k then
  if a.k=1 then match numOf op a.n b.n with
   | some n=>fitV ⟨1,n,[]⟩
   | none=>nulV
  else if a.k=3∧op=12 then fitV ⟨3,0,a.t++b.t⟩ else nulV
 else nulV
theorem absI_pos {a:Int} (h:a ≠ 0):0<absI a:=by unfold absI; split <;> omega
theorem absI_nat (a:Int):absI a=a.natAbs:=by unfold absI; split <;> omega
theorem mul_bound {a b:Int} (h:mulOk a b=true):-1000000000000≤a*b∧a*b≤1000000000000:=by
 unfold mulOk at h
 simp only [Bool.or_eq_true,beq_iff_eq,decide_eq_true_eq] at h
 rcases h with rfl | rfl | h
 ·simp
 ·simp
 ·by_cases hb:b=0
  ·subst hb; simp
  ·have hp:=absI_pos hb
   rw [Int.tdiv_eq_ediv_of_nonneg (by omega),Int.le_ediv_iff_mul_le hp,absI_nat,absI_nat,← Int.natCast_mul,← Int.natAbs_mul] at h
   omega
theorem numOf_bound {op a b n:Int} (ha:-1000000000000≤a∧a≤1000000000000) (hb:-1000000000000≤b∧b≤1000000000000) (h:numOf op a b=some n) :
  -2000000000000≤n∧n≤2000000000000∧(op ≠ 6→op ≠ 7→-1000000000000≤n∧n≤1000000000000):=by
 unfold numOf at h
 split at h
 ·cases h; omega
 ·split at h
  ·cases h; omega
  ·split at h
   ·split at h
    ·rename_i hm
     cases h
     have:=mul_bound hm
     omega
    ·cases h
   ·have e1:(a.tdiv b).natAbs≤a.natAbs:=by rw [Int.natAbs_tdiv]; exact Nat.div_le_self _ _
    have e2:(a.tmod b).natAbs≤a.natAbs:=by rw [Int.natAbs_tmod]; exact Nat.mod_le _ _
    split at h
    ·split at h
     ·cases h
     ·cases h
      omega
    ·split at h
     ·split at h
      ·cases h
      ·cases h
       omega
     ·cases h
@[simp] theorem wrap0:IntKind.i64.wrap 0=0:=by decide
theorem v_numbers (op a b:Int) (ha:-1000000000000≤a∧a≤1000000000000) (hb:-1000000000000≤b∧b≤1000000000000) :
  Cf En 183 [.d (.int .i64 op),.d (.int .i64 a),.d (.int .i64 b)] [] (.tup [.d (.int .i64 ((numOf op a b).getD 0)),.d (.bool (numOf op a b).isSome)]) []:=by
 refine cf_intro mix (fn:=Tryz.f183) (by kernel_rfl) rfl (by kernel_rfl) (by decide) (by simp) ?_
 have na:IntKind.i64.wrap (-a)=-a:=wrap_in (by omega) (by omega)
 have nb:IntKind.i64.wrap (-b)=-b:=wrap_in (by omega) (by omega)
 by_cases h6:op=6
 ·subst h6
  have:=wrap_in (n:=a+b) (by omega) (by omega)
  simp [numOf,this]
  all_goals exact gz
 by_cases h7:op=7
 ·subst h7
  have:=wrap_in (n:=a - b) (by omega) (by omega)
  simp [numOf,this]
  all_goals exact gz
 by_cases h8:op=8
 ·subst h8
  by_cases ha0:a=0
  ·subst ha0
   simp [numOf,mulOk]
   all_goals exact gz
  by_cases hb0:b=0
  ·subst hb0
   simp [numOf,mulOk,ha0]
   (repeat' (first|contradiction|exact .ok|apply And.intro|intro _|(refine gc (fun h=>?_) (fun h=>?_)<;>(have i:=h;(try simp at i);first|done|simp[h,i,ha0]|simp[ha0]))))
  have hp:=absI_pos hb0
  have hq:¬ absI b=0:=by omega
  have hp1:(1000000000000:Int).tdiv (absI b)≤1000000000000∧0≤(1000000000000:Int).tdiv (absI b):=by
   rw [Int.tdiv_eq_ediv_of_nonneg (by omega)]
   exact ⟨Int.ediv_le_self _ (by omega),Int.ediv_nonneg (by omega) (by omega)⟩
  have hw:=wrap_in (n:=(1000000000000:Int).tdiv (absI b)) (by omega) (by omega)
  have ea:(if a < -a then -a else a)=absI a:=rfl
  have eb:(if b < -b then -b else b)=absI b:=rfl
  by_cases hm:mulOk a b=true
  ·have hbd:=mul_bound hm
   have hw2:=wrap_in (n:=a*b) (by omega) (by omega)
   have hle:absI a≤(1000000000000:Int).tdiv (absI b):=by simpa [mulOk,ha0,hb0] using hm
   have hlt:¬ (1000000000000:Int).tdiv (absI b)<absI a:=by omega
   simp [numOf,hm]
   (repeat' (first|contradiction|exact .ok|apply And.intro|intro _|(refine gc (fun h=>?_) (fun h=>?_)<;>(have i:=h;(try simp at i);first|done|simp[h,i,ha0,hb0,na,nb,ea,eb,hq,hw,hlt,hw2]|simp[ha0,hb0,na,nb,ea,eb,hq,hw,hlt,hw2]))))
   all_goals simp [hm]
  ·have hlt:(1000000000000:Int).tdiv (absI b)<absI a:=by simpa [mulOk,ha0,hb0] using hm
   simp [numOf,hm]
   (repeat' (first|contradiction|exact .ok|apply And.intro|intro _|(refine gc (fun h=>?_) (fun h=>?_)<;>(have i:=h;(try simp at i);first|done|simp[h,i,ha0,hb0,na,nb,ea,eb,hq,hw,hlt]|simp[ha0,hb0,na,nb,ea,eb,hq,hw,hlt]))))
   all_goals simp [hm]
 by_cases h9:op=9
 ·subst h9
  by_cases hb0:b=0
  ·subst hb0
   simp [numOf]
   all_goals exact gz
  have hs:numOf 9 a b=some (a.tdiv b):=by simp [numOf,hb0]
  have hbd:=numOf_bound ha hb hs
  have hw:=wrap_in (n:=a.tdiv b) (by omega) (by omega)
  simp [hs,hb0,hw]
  all_goals exact gz
 by_cases h10:op=10
 ·subst h10
  by_cases hb0:b=0
  ·subst hb0
   simp [numOf]
   all_goals exact gz
  have hs:numOf 10 a b=some (a.tmod b):=by simp [numOf,hb0]
  simp [hs,hb0]
  all_goals exact gz
 ·have hs:numOf op a b=none:=by simp [numOf,h6,h7,h8,h9,h10]
  simp [hs,h6,h7,h8,h9,h10]
  all_goals exact gz
theorem r_product (a b:Int) (ha:-1000000000000≤a∧a≤1000000000000) (hb:-1000000000000≤b∧b≤1000000000000) :
  Cf En 159 [.d (.int .i64 a),.d (.int .i64 b)] [] (.tup [.d (.int .i64 ((numOf 8 a b).getD 0)),.d (.bool (numOf 8 a b).isSome)]) []:=by
 refine cf_intro mix (fn:=Tryz.f159) (by kernel_rfl) rfl (by kernel_rfl) (by decide) (by simp) ?_
 have na:IntKind.i64.wrap (-a)=-a:=wrap_in (by omega) (by omega)
 have nb:IntKind.i64.wrap (-b)=-b:=wrap_in (by omega) (by omega)
 by_cases ha0:a=0
 ·subst ha0
  simp [numOf,mulOk]
  all_goals exact gz
 by_cases hb0:b=0
 ·subst hb0
  simp [numOf,mulOk,ha0]
  (repeat' (first|contradiction|exact .ok|apply And.intro|intro _|(refine gc (fun h=>?_) (fun h=>?_)<;>(have i:=h;(try simp at i);first|done|simp[h,i,ha0]|simp[ha0]))))
 have hp:=absI_pos hb0
 have hq:¬ absI b=0:=by omega
 have hp1:(1000000000000:Int).tdiv (absI b)≤1000000000000∧0≤(1000000000000:Int).tdiv (absI b):=by
  rw [Int.tdiv_eq_ediv_of_nonneg (by omega)]
  exact ⟨Int.ediv_le_self _ (by omega),Int.ediv_nonneg (by omega) (by omega)⟩
 have hw:=wrap_in (n:=(1000000000000:Int).tdiv (absI b)) (by omega) (by omega)
 have ea:absI a=if a<0 then -a else a:=by unfold absI; grind
 have eb:absI b=if b<0 then -b else b:=by unfold absI; grind
 by_cases hm:mulOk a b=true
 ·have hbd:=mul_bound hm
  have hw2:=wrap_in (n:=a*b) (by omega) (by omega)
  have hle:absI a≤(1000000000000:Int).tdiv (absI b):=by simpa [mulOk,ha0,hb0] using hm
  have hlt:¬ (1000000000000:Int).tdiv (absI b)<absI a:=by omega
  by_cases sa:a<0 <;> by_cases sb:b<0 <;> simp only [sa,sb,if_true,if_false] at ea eb <;> rw [ea,eb] at hlt <;> rw [eb] at hw hq <;> simp [numOf,hm,ha0,hb0,sa,sb,na,nb] <;> (repeat' (first | contradiction | exact .of (by kernel_rfl) | refine And.intro ?_ ?_ | intro _ | (refine agrd_cases (fun h=>?_) (fun h=>?_) <;> (have h':=h; (try simp at h'); first | done | simp [h,h',ha0,hb0,sa,sb,na,nb,hq,hw,hlt,hw2] | simp [ha0,hb0,sa,sb,na,nb,hq,hw,hlt,hw2])))) <;> (try simp_all) <;> omega
 ·have hlt:(1000000000000:Int).tdiv (absI b)<absI a:=by simpa [mulOk,ha0,hb0] using hm
  by_cases sa:a<0 <;> by_cases sb:b<0 <;> simp only [sa,sb,if_true,if_false] at ea eb <;> rw [ea,eb] at hlt <;> rw [eb] at hw hq <;> simp [numOf,hm,ha0,hb0,sa,sb,na,nb] <;> (repeat' (first | contradiction | exact .of (by kernel_rfl) | refine And.intro ?_ ?_ | intro _ | (refine agrd_cases (fun h=>?_) (fun h=>?_) <;> (have h':=h; (try simp at h'); first | done | simp [h,h',ha0,hb0,sa,sb,na,nb,hq,hw,hlt] | simp [ha0,hb0,sa,sb,na,nb,hq,hw,hlt])))) <;> (try simp_all) <;> omega
theorem r_fit (v:V):Cf En 158 [v.a] [] (fitV v).a []:=by
 refine cf_intro mix (fn:=Tryz.f158) (by kernel_rfl) rfl (by kernel_rfl) (by decide) (by simp) ?_
 unfold fitV
 simp [V.a]
 (repeat' (first|contradiction|exact .ok|apply And.intro|intro _|(refine gc (fun h=>?_) (fun h=>?_)<;>(have i:=h;(try simp at i);first|done|simp[h,i]|simp))))
 refine acallT_plain (r_valid v) (by simp [V.a]) ?_
 cases h:v.valid <;> simp [V.a,nulV] <;> (repeat' (first | contradiction | exact .of (by kernel_rfl) | refine And.intro ?_ ?_ | intro _ | (refine agrd_cases (fun h=>?_) (fun h=>?_) <;> (have h':=h; (try simp at h'); first | done | simp [h,h'] | simp))))
theorem num_valid {v:V} (h:v.valid=true) (hk:v.k=1):(-1000000000000≤v.n∧v.n≤1000000000000)∧v.t=[]:=by
 simpa [V.valid,hk,and_assoc] using h
theorem text_valid {v:V} (h:v.valid=true) (hk:v.k=3):v.n=0∧v.t.length≤24:=by
 have:v.n=0∧textOk v.t=true:=by simpa [V.valid,hk] using h
 exact ⟨this.1,by have:=this.2; unfold textOk at this; simp at this; exact this.1⟩
theorem nul_valid:nulV.valid=true:=by simp [nulV,V.valid]
set_option maxHeartbeats 4000000 in
theorem v_arith (op:Int) (a b:V):Cf En 147 [.d (.int .i64 op),a.a,b.a] [] (arV op a b).a []:=by
 refine cf_intro mix (fn:=Tryz.f147) (by kernel_rfl) rfl (by kernel_rfl) (by decide) (by simp) ?_
 simp [V.a]
 (repeat' (first|contradiction|exact .ok|apply And.intro|intro _|(refine gc (fun h=>?_) (fun h=>?_)<;>(have i:=h;(try simp at i);first|done|simp[h,i]|simp))))
 refine acallT_plain (v_valid a) (by simp [V.a]) ?_
 cases hva:a.valid
 ·rw [show arV op a b=nulV from by simp [arV,hva]]
  simp [nulV]
  all_goals exact gz
 simp [V.a]
 refine acallT_plain (v_valid b) (by simp [V.a]) ?_
 cases hvb:b.valid
 ·rw [show arV op a b=nulV from by simp [arV,hvb]]
  simp [nulV,V.a]
  all_goals exact gz
 simp [V.a]
 by_cases hk:a.k=b.k
 ·simp [hk]
  by_cases h1:b.k=1
  ·have hka:a.k=1:=by omega
   have hna:=(num_valid hva hka).1
   have hnb:=(num_valid hvb h1).1
   rw [show arV op a b=(match numOf op a.n b.n with | some n=>fitV ⟨1,n,[]⟩ | none=>nulV) from by simp [arV,hva,hvb,hk,h1]]
   simp [h1]
   (repeat' (first|contradiction|exact .ok|apply And.intro|intro _|(refine gc (fun h=>?_) (fun h=>?_)<;>(have i:=h;(try simp at i);first|done|simp[h,i]|simp))))
   refine acallT_plain (v_numbers op a.n b.n hna hnb) (by simp [V.a]) ?_
   simp
   cases hn:numOf op a.n b.n with
   | none =>
     simp [nulV]
     all_goals exact gz
   | some n =>
     simp [V.a]
     (repeat' (first|contradiction|exact .ok|apply And.intro|intro _|(refine gc (fun h=>?_) (fun h=>?_)<;>(have i:=h;(try simp at i);first|done|simp[h,i]|simp))))
     refine acallT_plain (v_valid ⟨1,n,[]⟩) (by simp [V.a]) ?_
     cases hf:V.valid ⟨1,n,[]⟩
     ·simp [fitV,hf,nulV]
      all_goals exact gz
     ·simp [fitV,hf]
      all_goals exact gz
  ·by_cases h3:b.k=3
   ·by_cases h12:op=12
    ·have hka:a.k=3:=by omega
     have la:=(text_valid hva hka).2
     have lb:=(text_valid hvb h3).2
     have hl:a.t.length+b.t.length≤9223372036854775807:=by omega
     rw [show arV op a b=fitV ⟨3,0,a.t++b.t⟩ from by simp [arV,hva,hvb,hk,h3,h12]]
     simp [h3,h12,hl]
     (repeat' (first|contradiction|exact .ok|apply And.intro|intro _|(refine gc (fun h=>?_) (fun h=>?_)<;>(have i:=h;(try simp at i);first|done|simp[h,i,h3,h12,hl]|simp[h3,h12,hl]))))
     refine acallT_plain (v_valid ⟨3,0,a.t++b.t⟩) (by simp [V.a]) ?_
     cases hf:V.valid ⟨3,0,a.t++b.t⟩
     ·simp [fitV,hf,nulV]
      all_goals exact gz
     ·simp [fitV,hf]
      all_goals exact gz
    ·rw [show arV op a b=nulV from by simp [arV,hva,hvb,hk,h3,h12]]
     have hka:a.k=3:=by omega
     simp [h3,h12,hka]
     (repeat' (first|contradiction|exact .ok|apply And.intro|intro _|(refine gc (fun h=>?_) (fun h=>?_)<;>(have i:=h;(try simp at i);first|done|simp[h,i,h3,h12,hka]|simp[h3,h12,hka]))))
     refine acallT_plain (v_valid nulV) (by simp [V.a,nulV]) ?_
     simp [nul_valid,nulV,V.a]
     all_goals exact gz
   ·rw [show arV op a b=nulV from by simp [arV,hva,hvb,hk,h1,h3]]
    have n1:¬ a.k=1:=by omega
    have n3:¬ a.k=3:=by omega
    simp [h1,h3,n1,n3]
    (repeat' (first|contradiction|exact .ok|apply And.intro|intro _|(refine gc (fun h=>?_) (fun h=>?_)<;>(have i:=h;(try simp at i);first|done|simp[h,i,h1,h3,n1,n3]|simp[h1,h3,n1,n3]))))
    refine acallT_plain (v_valid nulV) (by simp [V.a,nulV]) ?_
    simp [nul_valid,nulV,V.a]
    all_goals exact gz
 ·rw [show arV op a b=nulV from by simp [arV,hva,hvb,hk]]
  simp [hk,nulV]
  all_goals exact gz
theorem fit_in {n:Int} (h:-1000000000000≤n∧n≤1000000000000):fitV ⟨1,n,[]⟩=⟨1,n,[]⟩:=by
 have:V.valid ⟨1,n,[]⟩=true:=by simp [V.valid,h.1,h.2]
 simp [fitV,this]
set_option maxHeartbeats 4000000 in
theorem r_arith (op:Int) (a b:V):Cf En 106 [.d (.int .i64 op),a.a,b.a] [] (arV op a b).a []:=by
 refine cf_intro mix (fn:=Tryz.f106) (by kernel_rfl) rfl (by kernel_rfl) (by decide) (by simp) ?_
 simp [V.a]
 (repeat' (first|contradiction|exact .ok|apply And.intro|intro _|(refine gc (fun h=>?_) (fun h=>?_)<;>(have i:=h;(try simp at i);first|done|simp[h,i]|simp))))
 refine acallT_plain (r_valid a) (by simp [V.a]) ?_
 cases hva:a.valid
 ·rw [show arV op a b=nulV from by simp [arV,hva]]
  simp [nulV]
  all_goals exact gz
 simp [V.a]
 refine acallT_plain (r_valid b) (by simp [V.a]) ?_
 cases hvb:b.valid
 ·rw [show arV op a b=nulV from by simp [arV,hvb]]
  simp [nulV,V.a]
  all_goals exact gz
 simp [V.a]
 by_cases h12:op=12
 ·subst h12
  by_cases ka:a.k=3
  ·by_cases kb:b.k=3
   ·have la:=(text_valid hva ka).2
    have lb:=(text_valid hvb kb).2
    have hl:a.t.length+b.t.length≤9223372036854775807:=by omega
    rw [show arV 12 a b=fitV ⟨3,0,a.t++b.t⟩ from by simp [arV,hva,hvb,ka,kb]]
    simp [ka,kb,hl]
    (repeat' (first|contradiction|exact .ok|apply And.intro|intro _|(refine gc (fun h=>?_) (fun h=>?_)<;>(have i:=h;(try simp at i);first|done|simp[h,i,ka,kb,hl]|simp[ka,kb,hl]))))
    refine acallT_plain (r_fit ⟨3,0,a.t++b.t⟩) (by simp [V.a]) ?_
    simp [V.a]
    all_goals exact gz
   ·rw [show arV 12 a b=nulV from by simp [arV,ka,kb]; intro _ _ h; omega]
    simp [ka,kb,nulV]
    (repeat' (first|contradiction|exact .ok|apply And.intro|intro _|(refine gc (fun h=>?_) (fun h=>?_)<;>(have i:=h;(try simp at i);first|done|simp[h,i,ka,kb]|simp[ka,kb]))))
  ·rw [show arV 12 a b=nulV from by simp [arV,ka,numOf]]
   simp [ka,nulV]
   (repeat' (first|contradiction|exact .ok|apply And.intro|intro _|(refine gc (fun h=>?_) (fun h=>?_)<;>(have i:=h;(try simp at i);first|done|simp[h,i,ka]|simp[ka]))))
 by_cases ka:a.k=1
 ·by_cases kb:b.k=1
  ·have na:=(num_valid hva ka).1
   have nb:=(num_valid hvb kb).1
   have he:arV op a b=(match numOf op a.n b.n with | some n=>fitV ⟨1,n,[]⟩ | none=>nulV):=by simp [arV,hva,hvb,ka,kb]
   by_cases h6:op=6
   ·subst h6
    rw [show arV 6 a b=fitV ⟨1,a.n+b.n,[]⟩ from by rw [he]; simp [numOf]]
    have hw:=wrap_in (n:=a.n+b.n) (by omega) (by omega)
    simp [ka,kb,hw]
    (repeat' (first|contradiction|exact .ok|apply And.intro|intro _|(refine gc (fun h=>?_) (fun h=>?_)<;>(have i:=h;(try simp at i);first|done|simp[h,i,ka,kb,hw]|simp[ka,kb,hw]))))
    refine acallT_plain (r_fit ⟨1,a.n+b.n,[]⟩) (by simp [V.a]) ?_
    simp [V.a]
    all_goals exact gz
   by_cases h7:op=7
   ·subst h7
    rw [show arV 7 a b=fitV ⟨1,a.n - b.n,[]⟩ from by rw [he]; simp [numOf]]
    have hw:=wrap_in (n:=a.n - b.n) (by omega) (by omega)
    simp [ka,kb,hw]
    (repeat' (first|contradiction|exact .ok|apply And.intro|intro _|(refine gc (fun h=>?_) (fun h=>?_)<;>(have i:=h;(try simp at i);first|done|simp[h,i,ka,kb,hw]|simp[ka,kb,hw]))))
    refine acallT_plain (r_fit ⟨1,a.n - b.n,[]⟩) (by simp [V.a]) ?_
    simp [V.a]
    all_goals exact gz
   by_cases h8:op=8
   ·subst h8
    rw [he]
    simp [ka,kb]
    (repeat' (first|contradiction|exact .ok|apply And.intro|intro _|(refine gc (fun h=>?_) (fun h=>?_)<;>(have i:=h;(try simp at i);first|done|simp[h,i,ka,kb]|simp[ka,kb]))))
    refine acallT_plain (r_product a.n b.n na nb) (by simp [V.a]) ?_
    cases hn:numOf 8 a.n b.n with
    | none =>
      simp [nulV]
      all_goals exact gz
    | some n =>
      have:=(numOf_bound na nb hn).2.2 (by decide) (by decide)
      simp [fit_in this]
      all_goals exact gz
   by_cases h9:op=9
   ·subst h9
    rw [he]
    by_cases hb0:b.n=0
    ·rw [show numOf 9 a.n b.n=none from by simp [numOf,hb0]]
     simp [ka,kb,nulV,hb0]
     (repeat' (first|contradiction|exact .ok|apply And.intro|intro _|(refine gc (fun h=>?_) (fun h=>?_)<;>(have i:=h;(try simp at i);first|done|simp[h,i,ka,kb,hb0]|simp[ka,kb,hb0]))))
    ·have hn:numOf 9 a.n b.n=some (a.n.tdiv b.n):=by simp [numOf,hb0]
     have h:=(numOf_bound na nb hn).2.2 (by decide) (by decide)
     have hw:=wrap_in (n:=a.n.tdiv b.n) (by omega) (by omega)
     simp [hn,fit_in h,ka,kb,hb0,hw]
     (repeat' (first|contradiction|exact .ok|apply And.intro|intro _|(refine gc (fun h=>?_) (fun h=>?_)<;>(have i:=h;(try simp at i);first|done|simp[h,i,ka,kb,hb0,hw]|simp[ka,kb,hb0,hw]))))
   by_cases h10:op=10
   ·subst h10
    rw [he]
    by_cases hb0:b.n=0
    ·rw [show numOf 10 a.n b.n=none from by simp [numOf,hb0]]
     simp [ka,kb,nulV,hb0]
     (repeat' (first|contradiction|exact .ok|apply And.intro|intro _|(refine gc (fun h=>?_) (fun h=>?_)<;>(have i:=h;(try simp at i);first|done|simp[h,i,ka,kb,hb0]|simp[ka,kb,hb0]))))
    ·have hn:numOf 10 a.n b.n=some (a.n.tmod b.n):=by simp [numOf,hb0]
     have h:=(numOf_bound na nb hn).2.2 (by decide) (by decide)
     simp [hn,fit_in h,ka,kb,hb0]
     (repeat' (first|contradiction|exact .ok|apply And.intro|intro _|(refine gc (fun h=>?_) (fun h=>?_)<;>(have i:=h;(try simp at i);first|done|simp[h,i,ka,kb,hb0]|simp[ka,kb,hb0]))))
   ·rw [he,show numOf op a.n b.n=none from by simp [numOf,h6,h7,h8,h9,h10]]
    simp [h6,h7,h8,h9,h10,h12,ka,kb,nulV]
    (repeat' (first|contradiction|exact .ok|apply And.intro|intro _|(refine gc (fun h=>?_) (fun h=>?_)<;>(have i:=h;(try simp at i);first|done|simp[h,i,h6,h7,h8,h9,h10,h12,ka,kb]|simp[h6,h7,h8,h9,h10,h12,ka,kb]))))
  ·rw [show arV op a b=nulV from by simp [arV,ka]; intro _ _ h; omega]
   simp [h12,ka,kb,nulV]
   (repeat' (first|contradiction|exact .ok|apply And.intro|intro _|(refine gc (fun h=>?_) (fun h=>?_)<;>(have i:=h;(try simp at i);first|done|simp[h,i,h12,ka,kb]|simp[h12,ka,kb]))))
 ·rw [show arV op a b=nulV from by simp [arV,ka,h12]]
  simp [h12,ka,nulV]
  (repeat' (first|contradiction|exact .ok|apply And.intro|intro _|(refine gc (fun h=>?_) (fun h=>?_)<;>(have i:=h;(try simp at i);first|done|simp[h,i,h12,ka]|simp[h12,ka]))))
end Go.Proofs.Tryz
