import Derived.Test.YthbnleoonldffaaGreatDoorLog
import Derived.Test.YthbnleoonldffaaGreatDoorQExp
set_option linter.all false
namespace Go.Proofs.Tryz
open Go.Ab
def gR (a:Int):Int:=if a < -a then -a else a
def nH (a b:Int):Bool:=a==0||(b==0||decide (gR a≤(1000000000000:Int).tdiv (gR b)))
def dF (op a b:Int):Option Int :=
 if op=6 then some (a+b) else if op=7 then some (a - b)
 else if op=8 then (if nH a b=true then some (a*b) else none)
 else if op=9 then (if b=0 then none else some (a.tdiv b))
 else if op=10 then (if b=0 then none else some (a.tmod b)) else none
def rI (v:V):V:=if v.valid=true then v else nulV
def jU (op:Int) (a b:V):V :=
 if a.valid=true∧b.valid=true∧a.k=b.k then
  if a.k=1 then match dF op a.n b.n with
   | some n=>rI ⟨1,n,[]⟩
   | none=>nulV
  else if a.k=3∧op=12 then rI ⟨3,0,a.t++b.t⟩ else nulV
 else nulV
theorem zT {a:Int} (h:a ≠ 0):0<gR a:=by unfold gR; split <;> omega
theorem JH (a:Int):gR a=a.natAbs:=by unfold gR; split <;> omega
theorem vH {a b:Int} (h:nH a b=true):-1000000000000≤a*b∧a*b≤1000000000000:=by
 unfold nH at h
 simp only [Bool.or_eq_true,beq_iff_eq,decide_eq_true_eq] at h
 rcases h with rfl | rfl | h
 ·simp
 ·simp
 ·by_cases hb:b=0
  ·subst hb; simp
  ·have hp:=zT hb
   rw [Int.tdiv_eq_ediv_of_nonneg (by omega),Int.le_ediv_iff_mul_le hp,JH,JH,← Int.natCast_mul,← Int.natAbs_mul] at h
   omega
theorem mG {op a b n:Int} (ha:-1000000000000≤a∧a≤1000000000000) (hb:-1000000000000≤b∧b≤1000000000000) (h:dF op a b=some n) :
  -2000000000000≤n∧n≤2000000000000∧(op ≠ 6→op ≠ 7→-1000000000000≤n∧n≤1000000000000):=by
 unfold dF at h
 split at h
 ·cases h; omega
 ·split at h
  ·cases h; omega
  ·split at h
   ·split at h
    ·rename_i hm
     cases h
     have:=vH hm
     omega
    ·cases h
   ·have e1:(a.tdiv b).natAbs≤a.natAbs:=by rw [Int.natAbs_tdiv]; exact Nat.div_le_self _ _
    have e2:(a.tmod b).natAbs≤a.natAbs:=by rw [Int.natAbs_tmod]; exact Nat.mod_le _ _
    split at h
    ·split at h
     ·cases h
     ·cases h
      omega
    ·split at h
     ·split at h
      ·cases h
      ·cases h
       omega
     ·cases h
@[simp] theorem aHh:IntKind.i64.wrap 0=0:=by decide
theorem TP (op a b:Int) (ha:-1000000000000≤a∧a≤1000000000000) (hb:-1000000000000≤b∧b≤1000000000000) :
  Cf En 340 [.d (.int .i64 op),.d (.int .i64 a),.d (.int .i64 b)] [] (.tup [.d (.int .i64 ((dF op a b).getD 0)),.d (.bool (dF op a b).isSome)]) []:=by
 refine aD aW (fn:=Tryz.f340) (by kernel_rfl) rfl (by kernel_rfl) (by decide) (by simp) ?_
 have na:IntKind.i64.wrap (-a)=-a:=aH (by omega) (by omega)
 have nb:IntKind.i64.wrap (-b)=-b:=aH (by omega) (by omega)
 by_cases h6:op=6
 ·subst h6
  have:=aH (n:=a+b) (by omega) (by omega)
  simp [dF,this]
  all_goals exact gz
 by_cases h7:op=7
 ·subst h7
  have:=aH (n:=a - b) (by omega) (by omega)
  simp [dF,this]
  all_goals exact gz
 by_cases h8:op=8
 ·subst h8
  by_cases ha0:a=0
  ·subst ha0
   simp [dF,nH]
   all_goals exact gz
  by_cases hb0:b=0
  ·subst hb0
   simp [dF,nH,ha0]
   (repeat' (first|contradiction|exact .ok|apply And.intro|intro _|(refine gc (fun h=>?_) (fun h=>?_)<;>(have h':=h;(try simp at h');first|done|simp[h,h',ha0]|simp[ha0]))))
  have hp:=zT hb0
  have hq:¬ gR b=0:=by omega
  have hp1:(1000000000000:Int).tdiv (gR b)≤1000000000000∧0≤(1000000000000:Int).tdiv (gR b):=by
   rw [Int.tdiv_eq_ediv_of_nonneg (by omega)]
   exact ⟨Int.ediv_le_self _ (by omega),Int.ediv_nonneg (by omega) (by omega)⟩
  have hw:=aH (n:=(1000000000000:Int).tdiv (gR b)) (by omega) (by omega)
  have ea:(if a < -a then -a else a)=gR a:=rfl
  have eb:(if b < -b then -b else b)=gR b:=rfl
  by_cases hm:nH a b=true
  ·have hbd:=vH hm
   have hw2:=aH (n:=a*b) (by omega) (by omega)
   have hle:gR a≤(1000000000000:Int).tdiv (gR b):=by simpa [nH,ha0,hb0] using hm
   have hlt:¬ (1000000000000:Int).tdiv (gR b)<gR a:=by omega
   simp [dF,hm]
   (repeat' (first|contradiction|exact .ok|apply And.intro|intro _|(refine gc (fun h=>?_) (fun h=>?_)<;>(have h':=h;(try simp at h');first|done|simp[h,h',ha0,hb0,na,nb,ea,eb,hq,hw,hlt,hw2]|simp[ha0,hb0,na,nb,ea,eb,hq,hw,hlt,hw2]))))
   all_goals simp [hm]
  ·have hlt:(1000000000000:Int).tdiv (gR b)<gR a:=by simpa [nH,ha0,hb0] using hm
   simp [dF,hm]
   (repeat' (first|contradiction|exact .ok|apply And.intro|intro _|(refine gc (fun h=>?_) (fun h=>?_)<;>(have h':=h;(try simp at h');first|done|simp[h,h',ha0,hb0,na,nb,ea,eb,hq,hw,hlt]|simp[ha0,hb0,na,nb,ea,eb,hq,hw,hlt]))))
   all_goals simp [hm]
 by_cases h9:op=9
 ·subst h9
  by_cases hb0:b=0
  ·subst hb0
   simp [dF]
   all_goals exact gz
  have hs:dF 9 a b=some (a.tdiv b):=by simp [dF,hb0]
  have hbd:=mG ha hb hs
  have hw:=aH (n:=a.tdiv b) (by omega) (by omega)
  simp [hs,hb0,hw]
  all_goals exact gz
 by_cases h10:op=10
 ·subst h10
  by_cases hb0:b=0
  ·subst hb0
   simp [dF]
   all_goals exact gz
  have hs:dF 10 a b=some (a.tmod b):=by simp [dF,hb0]
  simp [hs,hb0]
  all_goals exact gz
 ·have hs:dF op a b=none:=by simp [dF,h6,h7,h8,h9,h10]
  simp [hs,h6,h7,h8,h9,h10]
  all_goals exact gz
theorem TQ (a b:Int) (ha:-1000000000000≤a∧a≤1000000000000) (hb:-1000000000000≤b∧b≤1000000000000) :
  Cf En 251 [.d (.int .i64 a),.d (.int .i64 b)] [] (.tup [.d (.int .i64 ((dF 8 a b).getD 0)),.d (.bool (dF 8 a b).isSome)]) []:=by
 refine aD aW (fn:=Tryz.f251) (by kernel_rfl) rfl (by kernel_rfl) (by decide) (by simp) ?_
 have na:IntKind.i64.wrap (-a)=-a:=aH (by omega) (by omega)
 have nb:IntKind.i64.wrap (-b)=-b:=aH (by omega) (by omega)
 by_cases ha0:a=0
 ·subst ha0
  simp [dF,nH]
  all_goals exact gz
 by_cases hb0:b=0
 ·subst hb0
  simp [dF,nH,ha0]
  (repeat' (first|contradiction|exact .ok|apply And.intro|intro _|(refine gc (fun h=>?_) (fun h=>?_)<;>(have h':=h;(try simp at h');first|done|simp[h,h',ha0]|simp[ha0]))))
 have hp:=zT hb0
 have hq:¬ gR b=0:=by omega
 have hp1:(1000000000000:Int).tdiv (gR b)≤1000000000000∧0≤(1000000000000:Int).tdiv (gR b):=by
  rw [Int.tdiv_eq_ediv_of_nonneg (by omega)]
  exact ⟨Int.ediv_le_self _ (by omega),Int.ediv_nonneg (by omega) (by omega)⟩
 have hw:=aH (n:=(1000000000000:Int).tdiv (gR b)) (by omega) (by omega)
 have ea:gR a=if a<0 then -a else a:=by unfold gR; grind
 have eb:gR b=if b<0 then -b else b:=by unfold gR; grind
 by_cases hm:nH a b=true
 ·have hbd:=vH hm
  have hw2:=aH (n:=a*b) (by omega) (by omega)
  have hle:gR a≤(1000000000000:Int).tdiv (gR b):=by simpa [nH,ha0,hb0] using hm
  have hlt:¬ (1000000000000:Int).tdiv (gR b)<gR a:=by omega
  by_cases sa:a<0 <;> by_cases sb:b<0 <;> simp only [sa,sb,if_true,if_false] at ea eb <;> rw [ea,eb] at hlt <;> rw [eb] at hw hq <;> simp [dF,hm,ha0,hb0,sa,sb,na,nb] <;> (repeat' (first | contradiction | exact .of (by kernel_rfl) | refine And.intro ?_ ?_ | intro _ | (refine aN (fun h=>?_) (fun h=>?_) <;> (have h':=h; (try simp at h'); first | done | simp [h,h',ha0,hb0,sa,sb,na,nb,hq,hw,hlt,hw2] | simp [ha0,hb0,sa,sb,na,nb,hq,hw,hlt,hw2])))) <;> (try simp_all) <;> omega
 ·have hlt:(1000000000000:Int).tdiv (gR b)<gR a:=by simpa [nH,ha0,hb0] using hm
  by_cases sa:a<0 <;> by_cases sb:b<0 <;> simp only [sa,sb,if_true,if_false] at ea eb <;> rw [ea,eb] at hlt <;> rw [eb] at hw hq <;> simp [dF,hm,ha0,hb0,sa,sb,na,nb] <;> (repeat' (first | contradiction | exact .of (by kernel_rfl) | refine And.intro ?_ ?_ | intro _ | (refine aN (fun h=>?_) (fun h=>?_) <;> (have h':=h; (try simp at h'); first | done | simp [h,h',ha0,hb0,sa,sb,na,nb,hq,hw,hlt] | simp [ha0,hb0,sa,sb,na,nb,hq,hw,hlt])))) <;> (try simp_all) <;> omega
theorem XA (v:V):Cf En 250 [v.a] [] (rI v).a []:=by
 refine aD aW (fn:=Tryz.f250) (by kernel_rfl) rfl (by kernel_rfl) (by decide) (by simp) ?_
 unfold rI
 simp [V.a]
 (repeat' (first|contradiction|exact .ok|apply And.intro|intro _|(refine gc (fun h=>?_) (fun h=>?_)<;>(have h':=h;(try simp at h');first|done|simp[h,h']|simp))))
 refine aA (rF v) (by simp [V.a]) ?_
 cases h:v.valid <;> simp [V.a,nulV] <;> (repeat' (first | contradiction | exact .of (by kernel_rfl) | refine And.intro ?_ ?_ | intro _ | (refine aN (fun h=>?_) (fun h=>?_) <;> (have h':=h; (try simp at h'); first | done | simp [h,h'] | simp))))
theorem qU {v:V} (h:v.valid=true) (hk:v.k=1):(-1000000000000≤v.n∧v.n≤1000000000000)∧v.t=[]:=by
 simpa [V.valid,hk,and_assoc] using h
theorem oK {v:V} (h:v.valid=true) (hk:v.k=3):v.n=0∧v.t.length≤24:=by
 have:v.n=0∧mY v.t=true:=by simpa [V.valid,hk] using h
 exact ⟨this.1,by have:=this.2; unfold mY at this; simp at this; exact this.1⟩
theorem DH:nulV.valid=true:=by simp [nulV,V.valid]
set_option maxHeartbeats 4000000 in
theorem oL (op:Int) (a b:V):Cf En 271 [.d (.int .i64 op),a.a,b.a] [] (jU op a b).a []:=by
 refine aD aW (fn:=Tryz.f271) (by kernel_rfl) rfl (by kernel_rfl) (by decide) (by simp) ?_
 simp [V.a]
 (repeat' (first|contradiction|exact .ok|apply And.intro|intro _|(refine gc (fun h=>?_) (fun h=>?_)<;>(have h':=h;(try simp at h');first|done|simp[h,h']|simp))))
 refine aA (jG a) (by simp [V.a]) ?_
 cases hva:a.valid
 ·rw [show jU op a b=nulV from by simp [jU,hva]]
  simp [nulV]
  all_goals exact gz
 simp [V.a]
 refine aA (jG b) (by simp [V.a]) ?_
 cases hvb:b.valid
 ·rw [show jU op a b=nulV from by simp [jU,hvb]]
  simp [nulV,V.a]
  all_goals exact gz
 simp [V.a]
 by_cases hk:a.k=b.k
 ·simp [hk]
  by_cases h1:b.k=1
  ·have hka:a.k=1:=by omega
   have hna:=(qU hva hka).1
   have hnb:=(qU hvb h1).1
   rw [show jU op a b=(match dF op a.n b.n with | some n=>rI ⟨1,n,[]⟩ | none=>nulV) from by simp [jU,hva,hvb,hk,h1]]
   simp [h1]
   (repeat' (first|contradiction|exact .ok|apply And.intro|intro _|(refine gc (fun h=>?_) (fun h=>?_)<;>(have h':=h;(try simp at h');first|done|simp[h,h']|simp))))
   refine aA (TP op a.n b.n hna hnb) (by simp [V.a]) ?_
   simp
   cases hn:dF op a.n b.n with
   | none =>
     simp [nulV]
     all_goals exact gz
   | some n =>
     simp [V.a]
     (repeat' (first|contradiction|exact .ok|apply And.intro|intro _|(refine gc (fun h=>?_) (fun h=>?_)<;>(have h':=h;(try simp at h');first|done|simp[h,h']|simp))))
     refine aA (jG ⟨1,n,[]⟩) (by simp [V.a]) ?_
     cases hf:V.valid ⟨1,n,[]⟩
     ·simp [rI,hf,nulV]
      all_goals exact gz
     ·simp [rI,hf]
      all_goals exact gz
  ·by_cases h3:b.k=3
   ·by_cases h12:op=12
    ·have hka:a.k=3:=by omega
     have la:=(oK hva hka).2
     have lb:=(oK hvb h3).2
     have hl:a.t.length+b.t.length≤9223372036854775807:=by omega
     rw [show jU op a b=rI ⟨3,0,a.t++b.t⟩ from by simp [jU,hva,hvb,hk,h3,h12]]
     simp [h3,h12,hl]
     (repeat' (first|contradiction|exact .ok|apply And.intro|intro _|(refine gc (fun h=>?_) (fun h=>?_)<;>(have h':=h;(try simp at h');first|done|simp[h,h',h3,h12,hl]|simp[h3,h12,hl]))))
     refine aA (jG ⟨3,0,a.t++b.t⟩) (by simp [V.a]) ?_
     cases hf:V.valid ⟨3,0,a.t++b.t⟩
     ·simp [rI,hf,nulV]
      all_goals exact gz
     ·simp [rI,hf]
      all_goals exact gz
    ·rw [show jU op a b=nulV from by simp [jU,hva,hvb,hk,h3,h12]]
     have hka:a.k=3:=by omega
     simp [h3,h12,hka]
     (repeat' (first|contradiction|exact .ok|apply And.intro|intro _|(refine gc (fun h=>?_) (fun h=>?_)<;>(have h':=h;(try simp at h');first|done|simp[h,h',h3,h12,hka]|simp[h3,h12,hka]))))
     refine aA (jG nulV) (by simp [V.a,nulV]) ?_
     simp [DH,nulV,V.a]
     all_goals exact gz
   ·rw [show jU op a b=nulV from by simp [jU,hva,hvb,hk,h1,h3]]
    have n1:¬ a.k=1:=by omega
    have n3:¬ a.k=3:=by omega
    simp [h1,h3,n1,n3]
    (repeat' (first|contradiction|exact .ok|apply And.intro|intro _|(refine gc (fun h=>?_) (fun h=>?_)<;>(have h':=h;(try simp at h');first|done|simp[h,h',h1,h3,n1,n3]|simp[h1,h3,n1,n3]))))
    refine aA (jG nulV) (by simp [V.a,nulV]) ?_
    simp [DH,nulV,V.a]
    all_goals exact gz
 ·rw [show jU op a b=nulV from by simp [jU,hva,hvb,hk]]
  simp [hk,nulV]
  all_goals exact gz
theorem NY {n:Int} (h:-1000000000000≤n∧n≤1000000000000):rI ⟨1,n,[]⟩=⟨1,n,[]⟩:=by
 have:V.valid ⟨1,n,[]⟩=true:=by simp [V.valid,h.1,h.2]
 simp [rI,this]
set_option maxHeartbeats 4000000 in
theorem oM (op:Int) (a b:V):Cf En 170 [.d (.int .i64 op),a.a,b.a] [] (jU op a b).a []:=by
 refine aD aW (fn:=Tryz.f170) (by kernel_rfl) rfl (by kernel_rfl) (by decide) (by simp) ?_
 simp [V.a]
 (repeat' (first|contradiction|exact .ok|apply And.intro|intro _|(refine gc (fun h=>?_) (fun h=>?_)<;>(have h':=h;(try simp at h');first|done|simp[h,h']|simp))))
 refine aA (rF a) (by simp [V.a]) ?_
 cases hva:a.valid
 ·rw [show jU op a b=nulV from by simp [jU,hva]]
  simp [nulV]
  all_goals exact gz
 simp [V.a]
 refine aA (rF b) (by simp [V.a]) ?_
 cases hvb:b.valid
 ·rw [show jU op a b=nulV from by simp [jU,hvb]]
  simp [nulV,V.a]
  all_goals exact gz
 simp [V.a]
 by_cases h12:op=12
 ·subst h12
  by_cases ka:a.k=3
  ·by_cases kb:b.k=3
   ·have la:=(oK hva ka).2
    have lb:=(oK hvb kb).2
    have hl:a.t.length+b.t.length≤9223372036854775807:=by omega
    rw [show jU 12 a b=rI ⟨3,0,a.t++b.t⟩ from by simp [jU,hva,hvb,ka,kb]]
    simp [ka,kb,hl]
    (repeat' (first|contradiction|exact .ok|apply And.intro|intro _|(refine gc (fun h=>?_) (fun h=>?_)<;>(have h':=h;(try simp at h');first|done|simp[h,h',ka,kb,hl]|simp[ka,kb,hl]))))
    refine aA (XA ⟨3,0,a.t++b.t⟩) (by simp [V.a]) ?_
    simp [V.a]
    all_goals exact gz
   ·rw [show jU 12 a b=nulV from by simp [jU,ka,kb]; intro _ _ h; omega]
    simp [ka,kb,nulV]
    (repeat' (first|contradiction|exact .ok|apply And.intro|intro _|(refine gc (fun h=>?_) (fun h=>?_)<;>(have h':=h;(try simp at h');first|done|simp[h,h',ka,kb]|simp[ka,kb]))))
  ·rw [show jU 12 a b=nulV from by simp [jU,ka,dF]]
   simp [ka,nulV]
   (repeat' (first|contradiction|exact .ok|apply And.intro|intro _|(refine gc (fun h=>?_) (fun h=>?_)<;>(have h':=h;(try simp at h');first|done|simp[h,h',ka]|simp[ka]))))
 by_cases ka:a.k=1
 ·by_cases kb:b.k=1
  ·have na:=(qU hva ka).1
   have nb:=(qU hvb kb).1
   have he:jU op a b=(match dF op a.n b.n with | some n=>rI ⟨1,n,[]⟩ | none=>nulV):=by simp [jU,hva,hvb,ka,kb]
   by_cases h6:op=6
   ·subst h6
    rw [show jU 6 a b=rI ⟨1,a.n+b.n,[]⟩ from by rw [he]; simp [dF]]
    have hw:=aH (n:=a.n+b.n) (by omega) (by omega)
    simp [ka,kb,hw]
    (repeat' (first|contradiction|exact .ok|apply And.intro|intro _|(refine gc (fun h=>?_) (fun h=>?_)<;>(have h':=h;(try simp at h');first|done|simp[h,h',ka,kb,hw]|simp[ka,kb,hw]))))
    refine aA (XA ⟨1,a.n+b.n,[]⟩) (by simp [V.a]) ?_
    simp [V.a]
    all_goals exact gz
   by_cases h7:op=7
   ·subst h7
    rw [show jU 7 a b=rI ⟨1,a.n - b.n,[]⟩ from by rw [he]; simp [dF]]
    have hw:=aH (n:=a.n - b.n) (by omega) (by omega)
    simp [ka,kb,hw]
    (repeat' (first|contradiction|exact .ok|apply And.intro|intro _|(refine gc (fun h=>?_) (fun h=>?_)<;>(have h':=h;(try simp at h');first|done|simp[h,h',ka,kb,hw]|simp[ka,kb,hw]))))
    refine aA (XA ⟨1,a.n - b.n,[]⟩) (by simp [V.a]) ?_
    simp [V.a]
    all_goals exact gz
   by_cases h8:op=8
   ·subst h8
    rw [he]
    simp [ka,kb]
    (repeat' (first|contradiction|exact .ok|apply And.intro|intro _|(refine gc (fun h=>?_) (fun h=>?_)<;>(have h':=h;(try simp at h');first|done|simp[h,h',ka,kb]|simp[ka,kb]))))
    refine aA (TQ a.n b.n na nb) (by simp [V.a]) ?_
    cases hn:dF 8 a.n b.n with
    | none =>
      simp [nulV]
      all_goals exact gz
    | some n =>
      have:=(mG na nb hn).2.2 (by decide) (by decide)
      simp [NY this]
      all_goals exact gz
   by_cases h9:op=9
   ·subst h9
    rw [he]
    by_cases hb0:b.n=0
    ·rw [show dF 9 a.n b.n=none from by simp [dF,hb0]]
     simp [ka,kb,nulV,hb0]
     (repeat' (first|contradiction|exact .ok|apply And.intro|intro _|(refine gc (fun h=>?_) (fun h=>?_)<;>(have h':=h;(try simp at h');first|done|simp[h,h',ka,kb,hb0]|simp[ka,kb,hb0]))))
    ·have hn:dF 9 a.n b.n=some (a.n.tdiv b.n):=by simp [dF,hb0]
     have h:=(mG na nb hn).2.2 (by decide) (by decide)
     have hw:=aH (n:=a.n.tdiv b.n) (by omega) (by omega)
     simp [hn,NY h,ka,kb,hb0,hw]
     (repeat' (first|contradiction|exact .ok|apply And.intro|intro _|(refine gc (fun h=>?_) (fun h=>?_)<;>(have h':=h;(try simp at h');first|done|simp[h,h',ka,kb,hb0,hw]|simp[ka,kb,hb0,hw]))))
   by_cases h10:op=10
   ·subst h10
    rw [he]
    by_cases hb0:b.n=0
    ·rw [show dF 10 a.n b.n=none from by simp [dF,hb0]]
     simp [ka,kb,nulV,hb0]
     (repeat' (first|contradiction|exact .ok|apply And.intro|intro _|(refine gc (fun h=>?_) (fun h=>?_)<;>(have h':=h;(try simp at h');first|done|simp[h,h',ka,kb,hb0]|simp[ka,kb,hb0]))))
    ·have hn:dF 10 a.n b.n=some (a.n.tmod b.n):=by simp [dF,hb0]
     have h:=(mG na nb hn).2.2 (by decide) (by decide)
     simp [hn,NY h,ka,kb,hb0]
     (repeat' (first|contradiction|exact .ok|apply And.intro|intro _|(refine gc (fun h=>?_) (fun h=>?_)<;>(have h':=h;(try simp at h');first|done|simp[h,h',ka,kb,hb0]|simp[ka,kb,hb0]))))
   ·rw [he,show dF op a.n b.n=none from by simp [dF,h6,h7,h8,h9,h10]]
    simp [h6,h7,h8,h9,h10,h12,ka,kb,nulV]
    (repeat' (first|contradiction|exact .ok|apply And.intro|intro _|(refine gc (fun h=>?_) (fun h=>?_)<;>(have h':=h;(try simp at h');first|done|simp[h,h',h6,h7,h8,h9,h10,h12,ka,kb]|simp[h6,h7,h8,h9,h10,h12,ka,kb]))))
  ·rw [show jU op a b=nulV from by simp [jU,ka]; intro _ _ h; omega]
   simp [h12,ka,kb,nulV]
   (repeat' (first|contradiction|exact .ok|apply And.intro|intro _|(refine gc (fun h=>?_) (fun h=>?_)<;>(have h':=h;(try simp at h');first|done|simp[h,h',h12,ka,kb]|simp[h12,ka,kb]))))
 ·rw [show jU op a b=nulV from by simp [jU,ka,h12]]
  simp [h12,ka,nulV]
  (repeat' (first|contradiction|exact .ok|apply And.intro|intro _|(refine gc (fun h=>?_) (fun h=>?_)<;>(have h':=h;(try simp at h');first|done|simp[h,h',h12,ka]|simp[h12,ka]))))
end Go.Proofs.Tryz
