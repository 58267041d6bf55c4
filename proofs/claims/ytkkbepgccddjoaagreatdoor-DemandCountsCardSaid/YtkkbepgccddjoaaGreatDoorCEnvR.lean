import Derived.Test.YtkkbepgccddjoaaGreatDoorCShy
import Derived.Test.YtkkbepgccddjoaaGreatDoorAbB
import Derived.Lib.IndexMore
set_option linter.all false
namespace Go.Proofs.Tryz
open Go.Ab
set_option maxRecDepth 100000
@[simp] theorem aFU (r:Nat→Option Nat) (bl:Nat→Blk) (kn:Bool):∀ l:List D,cS r bl kn (l.map AV.d)=(l.map AV.d,[])
  | []=>rfl
  | x::l=>by rw [List.map_cons,cS,aFU r bl kn l]; rfl
@[simp] theorem aFV (bl:Nat→Blk):∀ l:List D,pF bl (l.map AV.d)=some (l,[])
  | []=>rfl
  | x::l=>by rw [List.map_cons,pF,aFV bl l]; rfl
@[simp] theorem aDO:∀ l:List D,List.flatMap AV.names (l.map AV.d)=[]
  | []=>rfl
  | x::l=>by rw [List.map_cons,List.flatMap_cons,aDO l]; rfl
inductive Ex where
 | mk (o c n:Int) (t:List UInt8) (g:Int) (kids:List Ex)
def Ex.kids:Ex→List Ex | .mk _ _ _ _ _ ks=>ks
mutual
def Ex.c:Ex→List D
 | .mk o c n t g ks=>[.int .i64 o,.int .i64 c,.int .i64 n,.str t,.int .i64 g,.sl (dZ ks)]
def dZ:List Ex→List (List D)
 | []=>[]
 | e::es=>e.c::dZ es
end
theorem aE:∀ l:List Ex,dZ l=l.map Ex.c
 | []=>rfl
 | e::es=>by rw [dZ,aE es]; rfl
def Ex.a (e:Ex):AV:=.agg (e.c.map AV.d)
theorem Ex.kid_lt {e k:Ex} (h:k∈e.kids):SizeOf.sizeOf k<SizeOf.sizeOf e:=by
 cases e
 have:=List.sizeOf_lt_of_mem h
 simp only [Ex.kids] at this
 simp only [Ex.mk.sizeOf_spec]
 omega
theorem Ex.clen (e:Ex):e.c.length=6:=by cases e; rfl
theorem Ex.ctake (e:Ex):List.take 6 (e.c.map AV.d)=e.c.map AV.d:=List.take_of_length_le (by simp [Ex.clen])
theorem Ex.ctake' (e:Ex):List.take 6 e.c=e.c:=List.take_of_length_le (by simp [Ex.clen])
def bT (v:V) (i:Int):Ex :=
 if v.k=1 then .mk 2 0 v.n [] 0 [] else if v.k=2 then .mk 3 0 v.n [] 0 [] else if v.k=3 then .mk 4 0 0 v.t 0 [] else .mk 1 i 0 [] 0 []
theorem aDF (v:V) (i:Int):Cf En 254 [v.a,.d (.int .i64 i)] [] (bT v i).a []:=by
 refine cI aW (fn:=Tryz.f254) rfl ?_
 unfold bT
 by_cases h1:v.k=1
 ·simp [V.a,h1,Ex.a,Ex.c,dZ]
  repeat' (first | exact .of (by kernel_rfl) | refine And.intro ?_ ?_)
 by_cases h2:v.k=2
 ·simp [V.a,h2,Ex.a,Ex.c,dZ]
  repeat' (first | exact .of (by kernel_rfl) | refine And.intro ?_ ?_)
 by_cases h3:v.k=3
 ·simp [V.a,h3,Ex.a,Ex.c,dZ]
  repeat' (first | exact .of (by kernel_rfl) | refine And.intro ?_ ?_)
 ·simp [V.a,h1,h2,h3,Ex.a,Ex.c,dZ]
  repeat' (first | exact .of (by kernel_rfl) | refine And.intro ?_ ?_)
theorem aDG (v:V) (i:Int):Cf En 77 [v.a,.d (.int .i64 i)] [] (bT v i).a []:=by
 refine cI aW (fn:=Tryz.f77) rfl ?_
 unfold bT
 by_cases h1:v.k=1
 ·simp [V.a,h1,Ex.a,Ex.c,dZ]
  repeat' (first | exact .of (by kernel_rfl) | refine And.intro ?_ ?_)
 by_cases h2:v.k=2
 ·simp [V.a,h2,Ex.a,Ex.c,dZ]
  repeat' (first | exact .of (by kernel_rfl) | refine And.intro ?_ ?_)
 by_cases h3:v.k=3
 ·simp [V.a,h3,Ex.a,Ex.c,dZ]
  repeat' (first | exact .of (by kernel_rfl) | refine And.intro ?_ ?_)
 ·simp [V.a,h1,h2,h3,Ex.a,Ex.c,dZ]
  repeat' (first | exact .of (by kernel_rfl) | refine And.intro ?_ ?_)
def iI (a:Int):Int:=if a < -a then -a else a
def oI (a b:Int):Bool:=a==0||(b==0||decide (iI a≤(1000000000000:Int).tdiv (iI b)))
def dI (op a b:Int):Option Int :=
 if op=6 then some (a+b) else if op=7 then some (a - b)
 else if op=8 then (if oI a b=true then some (a*b) else none)
 else if op=9 then (if b=0 then none else some (a.tdiv b))
 else if op=10 then (if b=0 then none else some (a.tmod b)) else none
def sZ (v:V):V:=if v.valid=true then v else nulV
def lB (op:Int) (a b:V):V :=
 if a.valid=true∧b.valid=true∧a.k=b.k then
  if a.k=1 then match dI op a.n b.n with
   | some n=>sZ ⟨1,n,[]⟩
   | none=>nulV
  else if a.k=3∧op=12 then sZ ⟨3,0,a.t++b.t⟩ else nulV
 else nulV
theorem CE {a:Int} (h:a ≠ 0):0<iI a:=by unfold iI; split <;> omega
theorem MQ (a:Int):iI a=a.natAbs:=by unfold iI; split <;> omega
theorem xH {a b:Int} (h:oI a b=true):-1000000000000≤a*b∧a*b≤1000000000000:=by
 unfold oI at h
 simp only [Bool.or_eq_true,beq_iff_eq,decide_eq_true_eq] at h
 rcases h with rfl | rfl | h
 ·simp
 ·simp
 ·by_cases hb:b=0
  ·subst hb; simp
  ·have hp:=CE hb
   rw [Int.tdiv_eq_ediv_of_nonneg (by omega),Int.le_ediv_iff_mul_le hp,MQ,MQ,← Int.natCast_mul,← Int.natAbs_mul] at h
   omega
theorem nH {op a b n:Int} (ha:-1000000000000≤a∧a≤1000000000000) (hb:-1000000000000≤b∧b≤1000000000000) (h:dI op a b=some n) :
  -2000000000000≤n∧n≤2000000000000∧(op ≠ 6→op ≠ 7→-1000000000000≤n∧n≤1000000000000):=by
 unfold dI at h
 split at h
 ·cases h; omega
 ·split at h
  ·cases h; omega
  ·split at h
   ·split at h
    ·rename_i hm
     cases h
     have:=xH hm
     omega
    ·cases h
   ·have e1:(a.tdiv b).natAbs≤a.natAbs:=by rw [Int.natAbs_tdiv]; exact Nat.div_le_self _ _
    have e2:(a.tmod b).natAbs≤a.natAbs:=by rw [Int.natAbs_tmod]; exact Nat.mod_le _ _
    split at h
    ·split at h
     ·cases h
     ·cases h
      omega
    ·split at h
     ·split at h
      ·cases h
      ·cases h
       omega
     ·cases h
@[simp] theorem aJF:IntKind.i64.wrap 0=0:=by decide
theorem XY (op a b:Int) (ha:-1000000000000≤a∧a≤1000000000000) (hb:-1000000000000≤b∧b≤1000000000000) :
  Cf En 231 [.d (.int .i64 op),.d (.int .i64 a),.d (.int .i64 b)] [] (.tup [.d (.int .i64 ((dI op a b).getD 0)),.d (.bool (dI op a b).isSome)]) []:=by
 refine cI aW (fn:=Tryz.f231) rfl ?_
 have na:IntKind.i64.wrap (-a)=-a:=bL (by omega) (by omega)
 have nb:IntKind.i64.wrap (-b)=-b:=bL (by omega) (by omega)
 by_cases h6:op=6
 ·subst h6
  have:=wI (n:=a+b)
  simp [dI,this]
  all_goals exact gz
 by_cases h7:op=7
 ·subst h7
  have:=wI (n:=a - b)
  simp [dI,this]
  all_goals exact gz
 by_cases h8:op=8
 ·subst h8
  by_cases ha0:a=0
  ·subst ha0
   simp [dI,oI]
   all_goals exact gz
  by_cases hb0:b=0
  ·subst hb0
   simp [dI,oI]
   (repeat' (first|contradiction|exact .ok|apply And.intro|intro _|(refine gc (fun h=>?_) (fun h=>?_)<;>(have h':=h;(try simp at h');first|done|simp[h,h']|simp[ha0]))))
  have hp:=CE hb0
  have hq:¬ iI b=0:=by omega
  have hp1:(1000000000000:Int).tdiv (iI b)≤1000000000000∧0≤(1000000000000:Int).tdiv (iI b):=by
   rw [Int.tdiv_eq_ediv_of_nonneg (by omega)]
   exact ⟨Int.ediv_le_self _ (by omega),Int.ediv_nonneg (by omega) (by omega)⟩
  have hw:=wI (n:=(1000000000000:Int).tdiv (iI b))
  have ea:(if a < -a then -a else a)=iI a:=rfl
  have eb:(if b < -b then -b else b)=iI b:=rfl
  by_cases hm:oI a b=true
  ·have hbd:=xH hm
   have hw2:=wI (n:=a*b)
   have hle:iI a≤(1000000000000:Int).tdiv (iI b):=by simpa [oI,ha0,hb0] using hm
   have hlt:¬ (1000000000000:Int).tdiv (iI b)<iI a:=by omega
   simp [dI,hm]
   (repeat' (first|contradiction|exact .ok|apply And.intro|intro _|(refine gc (fun h=>?_) (fun h=>?_)<;>(have h':=h;(try simp at h');first|done|simp[h,h',na,nb,ea,eb,hq,hw,hlt,hw2]|simp[ha0,hb0,na,nb,ea,eb,hq,hw,hlt,hw2]))))
   all_goals simp [hm]
  ·have hlt:(1000000000000:Int).tdiv (iI b)<iI a:=by simpa [oI,ha0,hb0] using hm
   simp [dI,hm]
   (repeat' (first|contradiction|exact .ok|apply And.intro|intro _|(refine gc (fun h=>?_) (fun h=>?_)<;>(have h':=h;(try simp at h');first|done|simp[h,h',na,nb,ea,eb,hq,hw,hlt]|simp[ha0,hb0,na,nb,ea,eb,hq,hw,hlt]))))
   all_goals simp [hm]
 by_cases h9:op=9
 ·subst h9
  by_cases hb0:b=0
  ·subst hb0
   simp [dI]
   all_goals exact gz
  have hs:dI 9 a b=some (a.tdiv b):=by simp [dI,hb0]
  have hbd:=nH ha hb hs
  have hw:=wI (n:=a.tdiv b)
  simp [hs,hb0,hw]
  all_goals exact gz
 by_cases h10:op=10
 ·subst h10
  by_cases hb0:b=0
  ·subst hb0
   simp [dI]
   all_goals exact gz
  have hs:dI 10 a b=some (a.tmod b):=by simp [dI,hb0]
  simp [hs,hb0]
  all_goals exact gz
 ·have hs:dI op a b=none:=by simp [dI,h6,h7,h8,h9,h10]
  simp [hs,h6,h7,h8,h9,h10]
  all_goals exact gz
theorem XZ (a b:Int) (ha:-1000000000000≤a∧a≤1000000000000) (hb:-1000000000000≤b∧b≤1000000000000) :
  Cf En 205 [.d (.int .i64 a),.d (.int .i64 b)] [] (.tup [.d (.int .i64 ((dI 8 a b).getD 0)),.d (.bool (dI 8 a b).isSome)]) []:=by
 refine cI aW (fn:=Tryz.f205) rfl ?_
 have na:IntKind.i64.wrap (-a)=-a:=bL (by omega) (by omega)
 have nb:IntKind.i64.wrap (-b)=-b:=bL (by omega) (by omega)
 by_cases ha0:a=0
 ·subst ha0
  simp [dI,oI]
  all_goals exact gz
 by_cases hb0:b=0
 ·subst hb0
  simp [dI,oI]
  (repeat' (first|contradiction|exact .ok|apply And.intro|intro _|(refine gc (fun h=>?_) (fun h=>?_)<;>(have h':=h;(try simp at h');first|done|simp[h,h']|simp[ha0]))))
 have hp:=CE hb0
 have hq:¬ iI b=0:=by omega
 have hp1:(1000000000000:Int).tdiv (iI b)≤1000000000000∧0≤(1000000000000:Int).tdiv (iI b):=by
  rw [Int.tdiv_eq_ediv_of_nonneg (by omega)]
  exact ⟨Int.ediv_le_self _ (by omega),Int.ediv_nonneg (by omega) (by omega)⟩
 have hw:=wI (n:=(1000000000000:Int).tdiv (iI b))
 have ea:iI a=if a<0 then -a else a:=by unfold iI; grind
 have eb:iI b=if b<0 then -b else b:=by unfold iI; grind
 by_cases hm:oI a b=true
 ·have hbd:=xH hm
  have hw2:=wI (n:=a*b)
  have hle:iI a≤(1000000000000:Int).tdiv (iI b):=by simpa [oI,ha0,hb0] using hm
  have hlt:¬ (1000000000000:Int).tdiv (iI b)<iI a:=by omega
  by_cases sa:a<0 <;> by_cases sb:b<0 <;> simp only [sa,sb,if_true,if_false] at ea eb <;> rw [ea,eb] at hlt <;> rw [eb] at hw hq <;> simp [dI,hm] <;> (repeat' (first | contradiction | exact .of (by kernel_rfl) | refine And.intro ?_ ?_ | intro _ | (refine aK (fun h=>?_) (fun h=>?_) <;> (have h':=h; (try simp at h'); first | done | simp [h,h',hb0,sa,sb,na,nb,hq,hw,hlt,hw2] | simp [ha0,hb0,sa,sb,na,nb,hq,hw,hlt,hw2])))) <;> (try simp_all) <;> omega
 ·have hlt:(1000000000000:Int).tdiv (iI b)<iI a:=by simpa [oI,ha0,hb0] using hm
  by_cases sa:a<0 <;> by_cases sb:b<0 <;> simp only [sa,sb,if_true,if_false] at ea eb <;> rw [ea,eb] at hlt <;> rw [eb] at hw hq <;> simp [dI,hm] <;> (repeat' (first | contradiction | exact .of (by kernel_rfl) | refine And.intro ?_ ?_ | intro _ | (refine aK (fun h=>?_) (fun h=>?_) <;> (have h':=h; (try simp at h'); first | done | simp [h,h',hb0,sa,sb,na,nb,hq,hw,hlt] | simp [ha0,hb0,sa,sb,na,nb,hq,hw,hlt])))) <;> (try simp_all) <;> omega
theorem aAJ (v:V):Cf En 204 [v.a] [] (sZ v).a []:=by
 refine cI aW (fn:=Tryz.f204) rfl ?_
 unfold sZ
 simp [V.a]
 (repeat' (first|contradiction|exact .ok|apply And.intro|intro _|(refine gc (fun h=>?_) (fun h=>?_)<;>(have h':=h;(try simp at h');first|done|simp[h,h']|simp))))
 refine aA (sV v) (by simp [V.a]) ?_
 cases h:v.valid <;> simp [nulV] <;> (repeat' (first | contradiction | exact .of (by kernel_rfl) | refine And.intro ?_ ?_ | intro _ | (refine aK (fun h=>?_) (fun h=>?_) <;> (have h':=h; (try simp at h'); first | done | simp [h,h'] | simp))))
theorem sN {v:V} (h:v.valid=true) (hk:v.k=1):(-1000000000000≤v.n∧v.n≤1000000000000)∧v.t=[]:=by
 simpa [V.valid,hk,and_assoc] using h
theorem pQ {v:V} (h:v.valid=true) (hk:v.k=3):v.n=0∧v.t.length≤24:=by
 have:v.n=0∧oC v.t=true:=by simpa [V.valid,hk] using h
 exact ⟨this.1,by have:=this.2; unfold oC at this; simp at this; exact this.1⟩
set_option maxHeartbeats 4000000 in
theorem pR (op:Int) (a b:V):Cf En 189 [.d (.int .i64 op),a.a,b.a] [] (lB op a b).a []:=by
 refine cI aW (fn:=Tryz.f189) rfl ?_
 simp [V.a]
 (repeat' (first|contradiction|exact .ok|apply And.intro|intro _|(refine gc (fun h=>?_) (fun h=>?_)<;>(have h':=h;(try simp at h');first|done|simp[h,h']|simp))))
 refine aA (jP a) (by simp [V.a]) ?_
 cases hva:a.valid
 ·rw [show lB op a b=nulV from by simp [lB,hva]]
  simp [nulV]
  all_goals exact gz
 simp
 refine aA (jP b) (by simp [V.a]) ?_
 cases hvb:b.valid
 ·rw [show lB op a b=nulV from by simp [lB,hvb]]
  simp [nulV]
  all_goals exact gz
 simp
 by_cases hk:a.k=b.k
 ·simp [hk]
  by_cases h1:b.k=1
  ·have hka:a.k=1:=by omega
   have hna:=(sN hva hka).1
   have hnb:=(sN hvb h1).1
   rw [show lB op a b=(match dI op a.n b.n with | some n=>sZ ⟨1,n,[]⟩ | none=>nulV) from by simp [lB,hva,hvb,hk,h1]]
   simp [h1]
   (repeat' (first|contradiction|exact .ok|apply And.intro|intro _|(refine gc (fun h=>?_) (fun h=>?_)<;>(have h':=h;(try simp at h');first|done|simp[h,h']|simp))))
   refine aP (XY op a.n b.n hna hnb) ?_
   simp
   cases hn:dI op a.n b.n with
   | none =>
     simp [nulV]
     all_goals exact gz
   | some n =>
     simp
     (repeat' (first|contradiction|exact .ok|apply And.intro|intro _|(refine gc (fun h=>?_) (fun h=>?_)<;>(have h':=h;(try simp at h');first|done|simp[h,h']|simp))))
     refine aA (jP ⟨1,n,[]⟩) (by simp [V.a]) ?_
     cases hf:V.valid ⟨1,n,[]⟩
     ·simp [sZ,hf,nulV]
      all_goals exact gz
     ·simp [sZ,hf]
      all_goals exact gz
  ·by_cases h3:b.k=3
   ·by_cases h12:op=12
    ·have hka:a.k=3:=by omega
     have la:=(pQ hva hka).2
     have lb:=(pQ hvb h3).2
     have hl:a.t.length+b.t.length≤9223372036854775807:=by omega
     rw [show lB op a b=sZ ⟨3,0,a.t++b.t⟩ from by simp [lB,hva,hvb,hk,h3,h12]]
     simp [h3,h12]
     (repeat' (first|contradiction|exact .ok|apply And.intro|intro _|(refine gc (fun h=>?_) (fun h=>?_)<;>(have h':=h;(try simp at h');first|done|simp[h,h',h3,h12,hl]|simp[h3,h12,hl]))))
     refine aA (jP ⟨3,0,a.t++b.t⟩) (by simp [V.a]) ?_
     cases hf:V.valid ⟨3,0,a.t++b.t⟩
     ·simp [sZ,hf,nulV]
      all_goals exact gz
     ·simp [sZ,hf]
      all_goals exact gz
    ·rw [show lB op a b=nulV from by simp [lB,hva,hvb,hk,h3,h12]]
     have hka:a.k=3:=by omega
     simp [h3,h12,hka]
     (repeat' (first|contradiction|exact .ok|apply And.intro|intro _|(refine gc (fun h=>?_) (fun h=>?_)<;>(have h':=h;(try simp at h');first|done|simp[h,h',h3,h12,hka]|simp[h3,h12,hka]))))
     refine aA (jP nulV) (by simp [V.a,nulV]) ?_
     simp [nulV]
     all_goals exact gz
   ·rw [show lB op a b=nulV from by simp [lB,hva,hvb,hk,h1,h3]]
    have n1:¬ a.k=1:=by omega
    have n3:¬ a.k=3:=by omega
    simp [h1]
    (repeat' (first|contradiction|exact .ok|apply And.intro|intro _|(refine gc (fun h=>?_) (fun h=>?_)<;>(have h':=h;(try simp at h');first|done|simp[h,h']|simp[h1,h3,n1,n3]))))
    refine aA (jP nulV) (by simp [V.a,nulV]) ?_
    simp [nulV]
    all_goals exact gz
 ·rw [show lB op a b=nulV from by simp [lB,hva,hvb,hk]]
  simp [hk,nulV]
  all_goals exact gz
theorem RY {n:Int} (h:-1000000000000≤n∧n≤1000000000000):sZ ⟨1,n,[]⟩=⟨1,n,[]⟩:=by
 have:V.valid ⟨1,n,[]⟩=true:=by simp [V.valid,h.1,h.2]
 simp [sZ,this]
set_option maxHeartbeats 4000000 in
theorem pS (op:Int) (a b:V):Cf En 150 [.d (.int .i64 op),a.a,b.a] [] (lB op a b).a []:=by
 refine cI aW (fn:=Tryz.f150) rfl ?_
 simp [V.a]
 (repeat' (first|contradiction|exact .ok|apply And.intro|intro _|(refine gc (fun h=>?_) (fun h=>?_)<;>(have h':=h;(try simp at h');first|done|simp[h,h']|simp))))
 refine aA (sV a) (by simp [V.a]) ?_
 cases hva:a.valid
 ·rw [show lB op a b=nulV from by simp [lB,hva]]
  simp [nulV]
  all_goals exact gz
 simp
 refine aA (sV b) (by simp [V.a]) ?_
 cases hvb:b.valid
 ·rw [show lB op a b=nulV from by simp [lB,hvb]]
  simp [nulV]
  all_goals exact gz
 simp
 by_cases h12:op=12
 ·subst h12
  by_cases ka:a.k=3
  ·by_cases kb:b.k=3
   ·have la:=(pQ hva ka).2
    have lb:=(pQ hvb kb).2
    have hl:a.t.length+b.t.length≤9223372036854775807:=by omega
    rw [show lB 12 a b=sZ ⟨3,0,a.t++b.t⟩ from by simp [lB,hva,hvb,ka,kb]]
    simp [ka,kb,hl]
    (repeat' (first|contradiction|exact .ok|apply And.intro|intro _|(refine gc (fun h=>?_) (fun h=>?_)<;>(have h':=h;(try simp at h');first|done|simp[h,h',ka,kb,hl]|simp[ka,kb,hl]))))
    refine aA (aAJ ⟨3,0,a.t++b.t⟩) (by simp [V.a]) ?_
    simp [V.a]
    all_goals exact gz
   ·rw [show lB 12 a b=nulV from by simp [lB,ka]; intro _ _ h; omega]
    simp [ka,kb,nulV]
    (repeat' (first|contradiction|exact .ok|apply And.intro|intro _|(refine gc (fun h=>?_) (fun h=>?_)<;>(have h':=h;(try simp at h');first|done|simp[h,h',ka,kb]|simp[ka,kb]))))
  ·rw [show lB 12 a b=nulV from by simp [lB,ka,dI]]
   simp [nulV]
   (repeat' (first|contradiction|exact .ok|apply And.intro|intro _|(refine gc (fun h=>?_) (fun h=>?_)<;>(have h':=h;(try simp at h');first|done|simp[h,h']|simp[ka]))))
 by_cases ka:a.k=1
 ·by_cases kb:b.k=1
  ·have na:=(sN hva ka).1
   have nb:=(sN hvb kb).1
   have he:lB op a b=(match dI op a.n b.n with | some n=>sZ ⟨1,n,[]⟩ | none=>nulV):=by simp [lB,hva,hvb,ka,kb]
   by_cases h6:op=6
   ·subst h6
    rw [show lB 6 a b=sZ ⟨1,a.n+b.n,[]⟩ from by rw [he]; simp [dI]]
    have hw:=wI (n:=a.n+b.n)
    simp [ka,kb,hw]
    (repeat' (first|contradiction|exact .ok|apply And.intro|intro _|(refine gc (fun h=>?_) (fun h=>?_)<;>(have h':=h;(try simp at h');first|done|simp[h,h',ka,kb,hw]|simp[ka,kb,hw]))))
    refine aA (aAJ ⟨1,a.n+b.n,[]⟩) (by simp [V.a]) ?_
    simp [V.a]
    all_goals exact gz
   by_cases h7:op=7
   ·subst h7
    rw [show lB 7 a b=sZ ⟨1,a.n - b.n,[]⟩ from by rw [he]; simp [dI]]
    have hw:=wI (n:=a.n - b.n)
    simp [ka,kb,hw]
    (repeat' (first|contradiction|exact .ok|apply And.intro|intro _|(refine gc (fun h=>?_) (fun h=>?_)<;>(have h':=h;(try simp at h');first|done|simp[h,h',ka,kb,hw]|simp[ka,kb,hw]))))
    refine aA (aAJ ⟨1,a.n - b.n,[]⟩) (by simp [V.a]) ?_
    simp [V.a]
    all_goals exact gz
   by_cases h8:op=8
   ·subst h8
    rw [he]
    simp [ka,kb]
    (repeat' (first|contradiction|exact .ok|apply And.intro|intro _|(refine gc (fun h=>?_) (fun h=>?_)<;>(have h':=h;(try simp at h');first|done|simp[h,h',ka,kb]|simp[ka,kb]))))
    refine aP (XZ a.n b.n na nb) ?_
    cases hn:dI 8 a.n b.n with
    | none =>
      simp [nulV]
      all_goals exact gz
    | some n =>
      have:=(nH na nb hn).2.2 (by decide) (by decide)
      simp [RY this]
      all_goals exact gz
   by_cases h9:op=9
   ·subst h9
    rw [he]
    by_cases hb0:b.n=0
    ·rw [show dI 9 a.n b.n=none from by simp [dI,hb0]]
     simp [ka,kb,nulV,hb0]
     (repeat' (first|contradiction|exact .ok|apply And.intro|intro _|(refine gc (fun h=>?_) (fun h=>?_)<;>(have h':=h;(try simp at h');first|done|simp[h,h',ka,kb,hb0]|simp[ka,kb,hb0]))))
    ·have hn:dI 9 a.n b.n=some (a.n.tdiv b.n):=by simp [dI,hb0]
     have h:=(nH na nb hn).2.2 (by decide) (by decide)
     have hw:=wI (n:=a.n.tdiv b.n)
     simp [hn,RY h,ka,kb,hb0,hw]
     (repeat' (first|contradiction|exact .ok|apply And.intro|intro _|(refine gc (fun h=>?_) (fun h=>?_)<;>(have h':=h;(try simp at h');first|done|simp[h,h',ka,kb,hb0,hw]|simp[ka,kb,hb0,hw]))))
   by_cases h10:op=10
   ·subst h10
    rw [he]
    by_cases hb0:b.n=0
    ·rw [show dI 10 a.n b.n=none from by simp [dI,hb0]]
     simp [ka,kb,nulV,hb0]
     (repeat' (first|contradiction|exact .ok|apply And.intro|intro _|(refine gc (fun h=>?_) (fun h=>?_)<;>(have h':=h;(try simp at h');first|done|simp[h,h',ka,kb,hb0]|simp[ka,kb,hb0]))))
    ·have hn:dI 10 a.n b.n=some (a.n.tmod b.n):=by simp [dI,hb0]
     have h:=(nH na nb hn).2.2 (by decide) (by decide)
     simp [hn,RY h,ka,kb,hb0]
     (repeat' (first|contradiction|exact .ok|apply And.intro|intro _|(refine gc (fun h=>?_) (fun h=>?_)<;>(have h':=h;(try simp at h');first|done|simp[h,h',ka,kb,hb0]|simp[ka,kb,hb0]))))
   ·rw [he,show dI op a.n b.n=none from by simp [dI,h6,h7,h8,h9,h10]]
    simp [h6,h7,h8,h9,h10,h12,ka,kb,nulV]
    (repeat' (first|contradiction|exact .ok|apply And.intro|intro _|(refine gc (fun h=>?_) (fun h=>?_)<;>(have h':=h;(try simp at h');first|done|simp[h,h',h6,h7,h8,h9,h10,h12,ka,kb]|simp[h6,h7,h8,h9,h10,h12,ka,kb]))))
  ·rw [show lB op a b=nulV from by simp [lB,ka]; intro _ _ h; omega]
   simp [h12,ka,kb,nulV]
   (repeat' (first|contradiction|exact .ok|apply And.intro|intro _|(refine gc (fun h=>?_) (fun h=>?_)<;>(have h':=h;(try simp at h');first|done|simp[h,h',h12,ka,kb]|simp[h12,ka,kb]))))
 ·rw [show lB op a b=nulV from by simp [lB,ka,h12]]
  simp [h12,nulV]
  (repeat' (first|contradiction|exact .ok|apply And.intro|intro _|(refine gc (fun h=>?_) (fun h=>?_)<;>(have h':=h;(try simp at h');first|done|simp[h,h']|simp[h12,ka]))))
mutual
def Ex.few:Ex→Nat→Bool
 | .mk _ _ _ t _ ks,d=>if 60<d then false else if 12<ks.length then false else if 200<t.length then false else gN ks (d+1)
def gN:List Ex→Nat→Bool
 | [],_=>true
 | e::es,d=>e.few d&&gN es d
end
theorem pW:∀ (l:List Ex) (d:Nat),gN l d=l.all fun e=>e.few d
 | [],_=>rfl
 | e::es,d=>by rw [gN,pW es d]; rfl
mutual
def Ex.size:Ex→Int
 | .mk _ _ _ _ _ ks=>dS 1 ks
def dS:Int→List Ex→Int
 | a,[]=>a
 | a,e::es=>dS (IntKind.i64.wrap (a+e.size)) es
end
theorem vT {l:List Ex} {i:Nat} {x:Ex} (a:Int) (h:l[i]?=some x):dS a (l.drop i)=dS (IntKind.i64.wrap (a+x.size)) (l.drop (i+1)):=by
 obtain ⟨hi,rfl⟩:=List.getElem?_eq_some_iff.1 h
 rw [List.drop_eq_getElem_cons hi,dS]
mutual
def Ex.fits:Ex→Prop
 | .mk _ _ _ _ _ ks=>ks.length≤9223372036854775807∧jJ ks
def jJ:List Ex→Prop
 | []=>True
 | e::es=>e.fits∧jJ es
end
theorem nJ:∀ (l:List Ex),jJ l→∀ e∈l,e.fits
 | e::es,h,x,hx=>by
   rcases List.mem_cons.1 hx with rfl | hx
   ·exact h.1
   ·exact nJ es h.2 x hx
theorem UX:∀ (m:Nat) (e:Ex),SizeOf.sizeOf e<m→e.fits→Cf En 113 [e.a] [] (.d (.int .i64 e.size)) []
 | 0,_,h,_=>absurd h (by omega)
 | m+1,.mk o c n t g ks,hm,hfit=>by
   refine cI aW (fn:=Tryz.f113) rfl ?_
   have hf:Ex.size (.mk o c n t g ks)=dS 1 ks:=by rw [Ex.size]
   rw [hf]
   rw [Ex.fits] at hfit
   generalize hres:dS 1 ks=res
   simp [Ex.a,Ex.c,aE]
   refine ⟨.of (by kernel_rfl),.of (by kernel_rfl),.of (by kernel_rfl),?_⟩
   refine aL aW (fun p:Nat×Int=>{ s:=cE [(1,.ptr 1 0 0),(3,.d (.int .i64 p.2)),(4,.d (.int .i64 p.1))],b:=cC [(1,1,.var (Ex.a (.mk o c n t g ks)).cells)] }) (fun p=>p.1≤ks.length∧dS p.2 (ks.drop p.1)=res) (fun p=>ks.length - p.1) (0,1) (by simp [hres]) (aI _ _ ⟨by simp,by simp,by simp [aB,Blk.live,Ex.a,Ex.c,aE],by simp⟩ (by simp [aB])) ?_
   rintro ⟨i,acc⟩ ⟨hi,ho⟩
   simp only at hi ho
   by_cases hlt:i<ks.length
   ·have hlt':(i:Int)<ks.length:=by omega
    have hg:ks[i]?=some ks[i]:=gE hlt
    have hdr:=vT acc hg
    have hlen:ks[i].c.length=6:=by cases ks[i]; rfl
    have htk:List.take 6 (List.map AV.d ks[i].c)=List.map AV.d ks[i].c:=List.take_of_length_le (by simp [hlen])
    simp [Ex.a,Ex.c,aE,hlt,hlt',hlen,htk]
    have hkid:SizeOf.sizeOf ks[i]<m:=by
     have:=Ex.kid_lt (e:=.mk o c n t g ks) (k:=ks[i]) (List.getElem_mem hlt)
     omega
    refine ⟨.of (by kernel_rfl),aA (UX m ks[i] hkid (nJ ks hfit.2 _ (List.getElem_mem hlt))) (by simp [Ex.a]) ?_⟩
    simp
    refine ⟨.of (by kernel_rfl),.of (by kernel_rfl),(i+1,IntKind.i64.wrap (acc+ks[i].size)),⟨hlt,?_⟩,?_,?_⟩
    ·rw [← ho,hdr]
    ·refine sM _ [(1,1,_)] (by simp [aB,Blk.live,aE]) ?_
     simp [aB]
     exact bL (by omega) (by omega)
    ·simp; omega
   ·have hlt':¬ (i:Int)<ks.length:=by omega
    simp [Ex.a,Ex.c,aE,hlt,hlt']
    refine ⟨.of (by kernel_rfl),.of (by kernel_rfl),?_⟩
    rw [← ho,List.drop_eq_nil_of_le (by omega)]; rfl
def Ex.ok (e:Ex):Bool:=e.few 0&&decide (e.size≤600)
abbrev Opn:=List UInt8×Int×Int×Int
def ops:List Opn:=[([],0,0,0),([110,117,108,108],0,0,0),([105,110,116],0,0,1),([98,111,111,108],0,0,2),([116,101,120,116],0,0,3),([99,111,108,117,109,110],0,0,0),([97,100,100],2,1,1),([115,117,98],2,1,1),([109,117,108],2,1,1),([100,105,118],2,1,1),([109,111,100],2,1,1),([110,101,103],1,1,1),([99,111,110,99,97,116],2,2,3),([108,101,110,103,116,104],1,2,1),([101,113],2,4,2),([110,101],2,4,2),([108,116],2,4,2),([108,101],2,4,2),([103,116],2,4,2),([103,101],2,4,2),([115,97,109,101],2,4,2),([105,115,110,117,108,108],1,5,2),([97,110,100],2,3,2),([111,114],2,3,2),([110,111,116],1,3,2),([105,115,116,114,117,101],1,3,2),([99,97,115,101],3,6,0),([99,111,97,108,101,115,99,101],2,4,0),([105,110],2,4,2)]
def YG (o:Opn):List D:=[.str o.1,.int .i64 o.2.1,.int .i64 o.2.2.1,.int .i64 o.2.2.2]
def opsC:List D:=ops.flatMap YG
noncomputable def Eo:eC:=⟨Tryz.prog,fun g=>if g=1 then some [.int .i64 0,.int .i64 0,.str []] else if g=0 then some opsC else none⟩
@[simp] theorem aJQ:Eo.P=Tryz.prog:=id rfl
@[simp] theorem aHC (g:Nat):Eo.G g=if g=1 then some [.int .i64 0,.int .i64 0,.str []] else if g=0 then some opsC else none:=rfl
theorem aDM:Eo.P.follows .mixedOrders=true:=by kernel_rfl
theorem up {f:FuncId} {xs:List AV} {B:List Blk} {y:AV} {B':List Blk} (h:Cf En f xs B y B'):Cf Eo f xs B y B' :=
 Cf.more (E:=En) (E':=Eo) rfl (fun g cs e=>by
  rw [aJf] at e
  rw [aHC]
  split at e
  ·rename_i h0; rw [if_pos h0]; exact e
  ·cases e) h
theorem vR:opsC.length=116:=by decide
theorem GM:∀ (l:List Opn) (o:Nat),(l.flatMap YG).drop (o*4)=(l.drop o).flatMap YG
 | [],o=>by simp
 | x::l,0=>by simp
 | x::l,o+1=>by
   rw [List.flatMap_cons,show (o+1)*4=(YG x).length+o*4 from by simp [YG]; omega,← List.drop_drop,List.drop_left,GM l o,List.drop_succ_cons]
def zop:Opn:=([],0,0,0)
def bQ (o:Int):Opn:=(ops[o.toNat]?).getD zop
theorem aDN {o:Nat} (h:o<29):∃ rest,opsC.drop (o*4)=.str (bQ o).1::.int .i64 (bQ o).2.1::.int .i64 (bQ o).2.2.1::.int .i64 (bQ o).2.2.2::rest:=by
 have hl:o<ops.length:=h
 refine ⟨(ops.drop (o+1)).flatMap YG,?_⟩
 unfold opsC
 rw [GM,List.drop_eq_getElem_cons hl,List.flatMap_cons]
 unfold bQ
 rw [Int.toNat_natCast,gE hl]
 rfl
theorem aAX:∀ o:Nat,o<29→1≤o→(bQ o).1 ≠ []:=by decide
def bR (o:Int):Bool:=decide (1≤o)&&decide (o≤28)
def vS (o:Int):Opn:=if bR o=true then bQ o else zop
def NN (o:Opn):AV:=.agg [.d (.str o.1),.d (.int .i64 o.2.1),.d (.int .i64 o.2.2.1),.d (.int .i64 o.2.2.2)]
set_option maxRecDepth 100000 in
theorem aFT (o:Int):Cf Eo 188 [.d (.int .i64 o)] [] (.tup [NN (vS o),.d (.bool (bR o))]) []:=by
 refine cI aDM (fn:=Tryz.f188) rfl ?_
 by_cases h1:o<0
 ·have hi:bR o=false:=by unfold bR; simp; omega
  simp [vS,hi,NN,zop,h1]
  (repeat' (first|contradiction|exact .ok|apply And.intro|intro _|(refine gc (fun h=>?_) (fun h=>?_)<;>(have h':=h;(try simp at h');first|done|simp[h,h',h1]|simp[h1]))))
 by_cases h2:29≤o
 ·have hi:bR o=false:=by unfold bR; simp; omega
  simp [vS,hi,NN,zop,h1,h2]
  (repeat' (first|contradiction|exact .ok|apply And.intro|intro _|(refine gc (fun h=>?_) (fun h=>?_)<;>(have h':=h;(try simp at h');first|done|simp[h,h',h1,h2]|simp[h1,h2]))))
  all_goals omega
 obtain ⟨n,rfl⟩:∃ n:Nat,o=n:=⟨o.toNat,by omega⟩
 have hn:n<29:=by omega
 obtain ⟨rest,hr⟩:=aDN hn
 have hb:n*4≤116:=by omega
 have hlt:(n:Int)<29:=by omega
 have hnl:¬ 29≤n:=by omega
 have h4:n*4≤opsC.length:=by rw [vR]; omega
 by_cases h0:n=0
 ·subst h0
  have h00:opsC.head?=some (.str []):=rfl
  simp [vS,bR,NN,zop,vR,h00]
  (repeat' (first|contradiction|exact .ok|apply And.intro|intro _|(refine gc (fun h=>?_) (fun h=>?_)<;>(have h':=h;(try simp at h');first|done|simp[h,h',h00]|simp[h00]))))
 ·have hi:bR n=true:=by unfold bR; simp; omega
  have hw:=aAX n hn (by omega)
  simp [vS,hi,NN,h1]
  (repeat' (first|contradiction|exact .ok|apply And.intro|intro _|(refine gc (fun h=>?_) (fun h=>?_)<;>(have h':=h;(try simp at h');first|done|simp[h,h',hr,hlt,hb,vR,hw]|simp[hr,h1,hlt,hb,vR,hnl,hw]))))
  all_goals simp [hi]
def bN (o:Int) (n:Nat):Bool:=bR o&&((n:Int)==(bQ o).2.1||(o==28&&decide ((n:Int)>(bQ o).2.1)))
set_option maxRecDepth 100000 in
theorem UW (o c n:Int) (t:List UInt8) (g:Int) (ks:List Ex):Cf Eo 144 [(Ex.mk o c n t g ks).a] [] (.tup [NN (vS o),.d (.bool (bR o)),.d (.bool (bN o ks.length))]) []:=by
 refine cI aDM (fn:=Tryz.f144) rfl ?_
 simp [Ex.a,Ex.c,aE]
 (repeat' (first|contradiction|exact .ok|apply And.intro|intro _|(refine gc (fun h=>?_) (fun h=>?_)<;>(have h':=h;(try simp at h');first|done|simp[h,h']|simp))))
 refine aP (aFT o) ?_
 simp [NN]
 (repeat' (first|contradiction|exact .ok|apply And.intro|intro _|(refine gc (fun h=>?_) (fun h=>?_)<;>(have h':=h;(try simp at h');first|done|simp[h,h']|simp))))
 all_goals simp_all [bN,vS]
def pY:List (List UInt8)→List UInt8
 | []=>[32]
 | w::ws=>32::(w++pY ws)
def kC (sub:List UInt8):List UInt8→Bool
 | []=>sub.isEmpty
 | b::l=>sub.isPrefixOf (b::l)||kC sub l
theorem vZ (sub:List UInt8):∀ l:List UInt8,decide (0≤Lib.index l sub)=kC sub l
 | []=>by unfold Lib.index kC; cases sub <;> simp
 | b::l=>by
   have ih:=vZ sub l
   have hge:=Lib.index_ge l sub
   unfold Lib.index kC
   cases h:sub.isPrefixOf (b::l) with
   | true=>simp
   | false =>
     rw [← ih]
     simp only [Bool.false_or,Bool.false_eq_true,if_false]
     by_cases h1:Lib.index l sub=-1
     ·simp [h1]
     ·have:(Lib.index l sub==-1)=false:=by simpa using h1
      rw [this]
      simp
      omega
def kZ (w:List UInt8):Bool:=w.all (· != 32)
theorem yW (s:List UInt8):∀ (w l:List UInt8),kZ w=true→kC (32::(s++[32])) (w++l)=kC (32::(s++[32])) l
 | [],l,_=>rfl
 | b::w,l,h=>by
   simp only [kZ,List.all_cons,Bool.and_eq_true,bne_iff_ne,ne_eq] at h
   have h2:kZ w=true:=h.2
   rw [List.cons_append,kC,yW s w l h2]
   have:((32:UInt8)==b)=false:=by simpa using fun e=>h.1 e.symm
   simp [List.isPrefixOf,this]
theorem OB (ws:List (List UInt8)):∃ l,pY ws=32::l:=by cases ws <;> exact ⟨_,rfl⟩
theorem yX:∀ (s w l:List UInt8),kZ s=true→kZ w=true→(s++[32]).isPrefixOf (w++32::l)=(s==w)
 | [],[],l,_,_=>by simp [List.isPrefixOf]
 | [],b::w,l,_,h=>by
   simp only [kZ,List.all_cons,Bool.and_eq_true,bne_iff_ne,ne_eq] at h
   have:((32:UInt8)==b)=false:=by simpa using fun e=>h.1 e.symm
   simp [List.isPrefixOf,this]
 | a::s,[],l,h,_=>by
   simp only [kZ,List.all_cons,Bool.and_eq_true,bne_iff_ne,ne_eq] at h
   have:(a==(32:UInt8))=false:=by simpa using h.1
   simp [List.isPrefixOf,this]
 | a::s,b::w,l,h1,h2=>by
   simp only [kZ,List.all_cons,Bool.and_eq_true] at h1 h2
   have ih:=yX s w l h1.2 h2.2
   simp only [List.cons_append,List.isPrefixOf]
   rw [ih]
   rfl
theorem tM (s:List UInt8) (hs:kZ s=true):∀ ws:List (List UInt8),ws.all kZ=true→kC (32::(s++[32])) (pY ws)=ws.contains s
 | [],_=>by cases s <;> simp [pY,kC,List.isPrefixOf]
 | w::ws,h=>by
   simp only [List.all_cons,Bool.and_eq_true] at h
   rw [pY,kC,yW s w _ h.1,tM s hs ws h.2]
   obtain ⟨l,hl⟩:=OB ws
   simp only [List.isPrefixOf,BEq.rfl,Bool.true_and]
   rw [hl,yX s w l hs h.1,Bool.eq_iff_iff]
   simp
def uD (c:UInt8):Bool:=decide (97≤c.toNat)&&decide (c.toNat≤122)
def iT (c:UInt8):Bool:=uD c||(decide (48≤c.toNat)&&decide (c.toNat≤57)||c.toNat==95)
theorem OC {c:UInt8} (h:iT c=true):(c != 32)=true:=by
 have:c ≠ 32:=by rintro rfl; revert h; decide
 simpa using this
theorem FE {s:List UInt8} (h:s.all iT=true):kZ s=true:=by
 rw [List.all_eq_true] at h
 exact List.all_eq_true.2 fun x hx=>OC (h x hx)
def sR:List UInt8→Bool
 | []=>false
 | c::_=>uD c
def jL (ws:List (List UInt8)) (s:List UInt8):Bool:=decide (s.length≤16)&&(sR s&&(s.all iT&&!ws.contains s))
def aAW (v:Value):Prop:=∃ m,v=.int .i64 m
def esG (g:Nat):Option (List D):=if g=1 then some [.int .i64 0,.int .i64 0,.str []] else if g=0 then some opsC else if g=2 then some [.any aAW] else none
noncomputable def Es:eC:=⟨Tryz.prog,esG⟩
@[simp] theorem aJP:Es.P=Tryz.prog:=id rfl
@[simp] theorem aHA (g:Nat):Es.G g=esG g:=rfl
theorem bM:Es.P.follows .mixedOrders=true:=by kernel_rfl
theorem upo {f:FuncId} {xs:List AV} {B:List Blk} {y:AV} {B':List Blk} (h:Cf Eo f xs B y B'):Cf Es f xs B y B' :=
 Cf.more (E:=Eo) (E':=Es) rfl (fun g cs e=>by
  rw [aHC] at e
  rw [aHA,esG]
  split at e
  ·rename_i h0; rw [if_pos h0]; exact e
  ·rename_i h0
   split at e
   ·rename_i h1; rw [if_neg h0,if_pos h1]; exact e
   ·cases e) h
theorem eG {f:FuncId} {xs:List AV} {B:List Blk} {y:AV} {B':List Blk} (h:Cf En f xs B y B'):Cf Es f xs B y B':=upo (up h)
def words:List (List UInt8):=[[115,101,108,101,99,116],[100,105,115,116,105,110,99,116],[97,108,108],[102,114,111,109],[119,104,101,114,101],[103,114,111,117,112],[98,121],[104,97,118,105,110,103],[97,115],[111,110],[117,110,105,111,110],[101,120,99,101,112,116],[105,110,116,101,114,115,101,99,116],[106,111,105,110],[105,110,110,101,114],[108,101,102,116],[114,105,103,104,116],[102,117,108,108],[99,114,111,115,115],[115,101,109,105],[97,110,116,105],[97,110,100],[111,114],[110,111,116],[105,115],[110,117,108,108],[116,114,117,101],[102,97,108,115,101],[105,110],[99,97,115,101],[119,104,101,110],[116,104,101,110],[101,108,115,101],[101,110,100],[118,97,108,117,101,115],[116,97,98,108,101],[112,114,105,109,97,114,121],[117,110,105,113,117,101],[102,111,114,101,105,103,110],[114,101,102,101,114,101,110,99,101,115],[99,104,101,99,107],[105,110,116],[98,111,111,108],[116,101,120,116],[99,111,117,110,116],[115,117,109],[109,105,110],[109,97,120],[99,111,97,108,101,115,99,101],[108,101,110,103,116,104],[115,97,109,101],[109,111,100]]
theorem YE {w:World} {g:Gh} {B:List Blk} {bl:Nat→Blk} (m:Mem (gK Es w g B) bl w g):∃ n,w.cell? ⟨2,0,none⟩=some (.int .i64 n):=by
 have hc:=m.glob 2 [.any aAW] (by simp [gK,esG])
 simp only [dF,aY] at hc
 obtain ⟨⟨v,hv,⟨n,rfl⟩,_⟩,_⟩:=hc
 exact ⟨n,m.con _ _ _ hv⟩
theorem SF (s sub:List UInt8) (hs:s.length<4294967281):Cf Es 207 [.d (.str s),.d (.str sub)] [] (.d (.bool (kC sub s))) []:=by
 refine rM (by kernel_rfl) fun w g vs hr m=>?_
 obtain ⟨_,_,rfl,r1,_,_,rfl,r2,r3⟩:=hr
 simp only [bA] at r3
 subst r3
 simp only [aF,aY] at r1 r2
 subst r1 r2
 obtain ⟨n,hn⟩:=YE m
 refine (Tryz.strings_Contains _ _ n w (by simpa [ByteArray.size_mk'] using hs) hn).mono ?_
 rintro e w' ⟨rfl,rfl⟩
 refine ⟨_,rfl,?_,.refl _ _⟩
 simp only [aF,aY,Lib.contains,vZ]
end Go.Proofs.Tryz
