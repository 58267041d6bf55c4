import Derived.Test.YtklnfckiabhceaaGreatDoorKTxt
import Derived.Test.YtklnfckiabhceaaGreatDoorKCldR
import Derived.Test.YtklnfckiabhceaaGreatDoorKCst
import Derived.Test.YtklnfckiabhceaaGreatDoorKEnvR
import Derived.Test.YtklnfckiabhceaaGreatDoorAbB
set_option linter.all false
namespace Go.Proofs.Tryz
open Go.Ab
set_option maxRecDepth 100000
set_option maxHeartbeats 2000000
instance V.dec:DecidableEq V:=fun a b =>
 if h:a.k=b.k∧a.n=b.n∧a.t=b.t then .isTrue (by cases a; cases b; simp only at h; obtain ⟨rfl,rfl,rfl⟩:=h; rfl) else .isFalse fun e=>by subst e; exact h ⟨rfl,rfl,rfl⟩
theorem cmpI_eq {a b:Int} (h:cmpI a b=0):a=b:=by
 rcases cmpI_cases a b with ⟨_,h1,_⟩ | ⟨h1,_,_⟩ | ⟨_,h1,_⟩
 ·omega
 ·exact h1
 ·omega
theorem cmpS_eq {a b:List UInt8} (h:cmpS a b=0):a=b:=by
 rcases cmpS_cases a b with ⟨_,h1,_⟩ | ⟨h1,_,_⟩ | ⟨_,h1,_⟩
 ·omega
 ·exact h1
 ·omega
theorem V.cmp_eq {v u:V} (h:v.cmp u=0):v=u:=by
 rw [V.cmp_def] at h
 split at h
 ·exact absurd h (by assumption)
 ·rename_i h1
  split at h
  ·exact absurd h (by assumption)
  ·rename_i h2
   cases v; cases u
   simp only [V.mk.injEq]
   exact ⟨cmpI_eq (by simpa using h1),cmpI_eq (by simpa using h2),cmpS_eq h⟩
def V.lt (v u:V):Prop:=v.cmp u<0
def V.le (v u:V):Prop:=v.cmp u≤0
theorem V.lt_irr (v:V):¬ v.lt v:=by unfold V.lt; rw [V.cmp_self]; omega
theorem V.lt_asym {v u:V} (h:v.lt u):¬ u.lt v:=by unfold V.lt at *; rw [V.cmp_neg]; omega
theorem V.le_of_not {v u:V} (h:¬ v.lt u):u.le v:=by unfold V.lt V.le at *; rw [V.cmp_neg]; omega
theorem V.le_trans {a b c:V} (h1:a.le b) (h2:b.le c):a.le c:=V.cmp_trans h1 h2
theorem V.lt_le {v u:V} (h:v.lt u):v.le u:=by unfold V.lt V.le at *; omega
theorem V.lt_trans {a b c:V} (h1:a.lt b) (h2:b.lt c):a.lt c:=by
 have h3:=V.le_trans (V.lt_le h1) (V.lt_le h2)
 have:a.cmp c ≠ 0:=fun h=>by
  have:=V.cmp_eq h
  subst this
  exact V.lt_asym h1 h2
 unfold V.lt V.le at *; omega
theorem V.lt_of_le_ne {v u:V} (h:v.le u) (hn:v ≠ u):v.lt u:=by
 have:v.cmp u ≠ 0:=fun h=>hn (V.cmp_eq h)
 unfold V.lt V.le at *; omega
theorem V.le_refl (v:V):v.le v:=by unfold V.le; rw [V.cmp_self]; omega
theorem sorted_ext:∀ a b:List V,a.Pairwise V.lt→b.Pairwise V.lt→(∀ x,x∈a↔x∈b)→a=b
 | [],[],_,_,_=>rfl
 | [],y::b,_,_,h=>by have:=(h y).2 List.mem_cons_self; cases this
 | x::a,[],_,_,h=>by have:=(h x).1 List.mem_cons_self; cases this
 | x::a,y::b,ha,hb,h=>by
   rw [List.pairwise_cons] at ha hb
   have hxy:x=y:=by
    rcases List.mem_cons.1 ((h x).1 List.mem_cons_self) with e | e
    ·exact e
    ·rcases List.mem_cons.1 ((h y).2 List.mem_cons_self) with e' | e'
     ·exact e'.symm
     ·exact absurd (hb.1 x e) (V.lt_asym (ha.1 y e'))
   subst hxy
   rw [sorted_ext a b ha.2 hb.2 fun z=>?_]
   have hz:=h z
   constructor
   ·intro hm
    rcases List.mem_cons.1 (hz.1 (List.mem_cons_of_mem _ hm)) with e | e
    ·subst e; exact absurd (ha.1 z hm) (V.lt_irr z)
    ·exact e
   ·intro hm
    rcases List.mem_cons.1 (hz.2 (List.mem_cons_of_mem _ hm)) with e | e
    ·subst e; exact absurd (hb.1 z hm) (V.lt_irr z)
    ·exact e
def posD (v:V):List V→Nat
 | []=>0
 | u::us=>if u.cmp v<0 then posD v us+1 else 0
def insD (l:List V) (v:V):List V:=if l[posD v l]?=some v then l else l.take (posD v l)++v::l.drop (posD v l)
theorem posD_le (v:V):∀ l:List V,posD v l≤l.length
 | []=>by simp [posD]
 | u::us=>by have:=posD_le v us; simp only [posD,List.length_cons]; split <;> omega
theorem insD_cons (u:V) (us:List V) (v:V):insD (u::us) v=if u.cmp v<0 then u::insD us v else if u=v then u::us else v::u::us:=by
 unfold insD
 by_cases h:u.cmp v<0
 ·have:posD v (u::us)=posD v us+1:=by simp [posD,h]
  rw [this,if_pos h]
  simp only [List.getElem?_cons_succ,List.take_succ_cons,List.drop_succ_cons]
  split <;> rfl
 ·have:posD v (u::us)=0:=by simp [posD,h]
  rw [this,if_neg h]
  by_cases e:u=v
  ·simp [e]
  ·simp [e]
theorem insD_mem (v x:V):∀ l:List V,x∈insD l v↔x=v∨x∈l
 | []=>by simp [insD,posD]
 | u::us=>by
   rw [insD_cons]
   split
   ·rw [List.mem_cons,insD_mem v x us,List.mem_cons]
    constructor
    ·rintro (h | h | h)
     ·exact .inr (.inl h)
     ·exact .inl h
     ·exact .inr (.inr h)
    ·rintro (h | h | h)
     ·exact .inr (.inl h)
     ·exact .inl h
     ·exact .inr (.inr h)
   ·split
    ·rename_i e
     subst e
     constructor
     ·exact fun h=>.inr h
     ·rintro (rfl | h)
      ·exact List.mem_cons_self
      ·exact h
    ·rw [List.mem_cons]
theorem insD_sorted (v:V):∀ l:List V,l.Pairwise V.lt→(insD l v).Pairwise V.lt
 | [],_=>by simp [insD,posD]
 | u::us,h=>by
   rw [insD_cons]
   rw [List.pairwise_cons] at h
   split
   ·rename_i h1
    rw [List.pairwise_cons]
    refine ⟨fun x hx=>?_,insD_sorted v us h.2⟩
    rcases (insD_mem v x us).1 hx with rfl | hx
    ·exact h1
    ·exact h.1 x hx
   ·split
    ·rw [List.pairwise_cons]; exact h
    ·rename_i h1 h2
     have hvu:v.lt u:=V.lt_of_le_ne (V.le_of_not h1) (fun e=>h2 e.symm)
     rw [List.pairwise_cons,List.pairwise_cons]
     refine ⟨fun x hx=>?_,h⟩
     rcases List.mem_cons.1 hx with rfl | hx
     ·exact hvu
     ·exact V.lt_trans hvu (h.1 x hx)
def sortD (l:List V):List V:=l.foldl insD []
theorem foldD (l:List V):∀ acc:List V,acc.Pairwise V.lt→(l.foldl insD acc).Pairwise V.lt∧∀ x,x∈l.foldl insD acc↔x∈l∨x∈acc:=by
 induction l with
 | nil=>intro acc h; exact ⟨h,fun x=>by simp⟩
 | cons v l ih =>
   intro acc h
   obtain ⟨a,b⟩:=ih (insD acc v) (insD_sorted v acc h)
   refine ⟨a,fun x=>?_⟩
   rw [List.foldl_cons,b x,insD_mem,List.mem_cons]
   constructor
   ·rintro (h | h | h)
    ·exact .inl (.inr h)
    ·exact .inl (.inl h)
    ·exact .inr h
   ·rintro ((h | h) | h)
    ·exact .inr (.inl h)
    ·exact .inl h
    ·exact .inr (.inr h)
theorem sortD_sorted (l:List V):(sortD l).Pairwise V.lt:=(foldD l [] .nil).1
theorem sortD_mem (l:List V) (x:V):x∈sortD l↔x∈l:=by rw [sortD,(foldD l [] .nil).2]; simp
def posS (acc:List V) (v:V):Nat→Nat
 | 0=>0
 | j+1=>if v.cmp ((acc[j]?).getD v)<0 then posS acc v j else j+1
def insS (acc:List V) (v:V):List V:=acc.take (posS acc v acc.length)++v::acc.drop (posS acc v acc.length)
def isort (l:List V):List V:=l.foldl insS []
theorem posS_le (acc:List V) (v:V):∀ j,posS acc v j≤j
 | 0=>Nat.le_refl _
 | j+1=>by have:=posS_le acc v j; rw [posS]; split <;> omega
theorem posS_gt (acc:List V) (v:V):∀ j,j≤acc.length→∀ i (h:i<acc.length),posS acc v j≤i→i<j→v.cmp acc[i]<0
 | 0,_,i,_,_,h=>absurd h (by omega)
 | j+1,hj,i,hi,h1,h2=>by
   rw [posS] at h1
   split at h1
   ·rename_i hc
    rcases Nat.lt_or_ge i j with c | c
    ·exact posS_gt acc v j (by omega) i hi h1 c
    ·have:i=j:=by omega
     subst this
     rw [List.getElem?_eq_getElem hi] at hc
     exact hc
   ·omega
theorem posS_before (acc:List V) (v:V):∀ j,j≤acc.length→0<posS acc v j→¬ v.cmp ((acc[posS acc v j - 1]?).getD v)<0
 | 0,_,h=>absurd h (by simp [posS])
 | j+1,hj,h=>by
   rw [posS] at h ⊢
   split
   ·rename_i hc
    rw [if_pos hc] at h
    exact posS_before acc v j (by omega) h
   ·rename_i hc
    simpa using hc
theorem insS_mem (acc:List V) (v x:V):x∈insS acc v↔x=v∨x∈acc:=by
 unfold insS
 rw [List.mem_append,List.mem_cons]
 have h:acc=acc.take (posS acc v acc.length)++acc.drop (posS acc v acc.length):=(List.take_append_drop _ _).symm
 constructor
 ·rintro (h1 | h1 | h1)
  ·exact .inr (List.mem_of_mem_take h1)
  ·exact .inl h1
  ·exact .inr (List.mem_of_mem_drop h1)
 ·rintro (h1 | h1)
  ·exact .inr (.inl h1)
  ·rw [h,List.mem_append] at h1
   rcases h1 with h1 | h1
   ·exact .inl h1
   ·exact .inr (.inr h1)
theorem insS_sorted (acc:List V) (v:V) (h:acc.Pairwise V.le):(insS acc v).Pairwise V.le:=by
 have hle:=posS_le acc v acc.length
 have hgt:=posS_gt acc v acc.length (Nat.le_refl _)
 have hbf:=posS_before acc v acc.length (Nat.le_refl _)
 unfold insS
 generalize posS acc v acc.length=p at *
 rw [List.pairwise_append,List.pairwise_cons]
 have hdr:∀ x∈acc.drop p,v.le x:=fun x hx=>by
  obtain ⟨i,hi,rfl⟩:=List.getElem_of_mem hx
  rw [List.getElem_drop]
  have hi':p+i<acc.length:=by rw [List.length_drop] at hi; omega
  exact V.lt_le (hgt (p+i) hi' (by omega) hi')
 have htk:∀ x∈acc.take p,x.le v:=fun x hx=>by
  obtain ⟨i,hi,rfl⟩:=List.getElem_of_mem hx
  rw [List.length_take] at hi
  rw [List.getElem_take]
  have hp:0<p:=by omega
  have h1:=hbf hp
  have hpl:p - 1<acc.length:=by omega
  rw [List.getElem?_eq_getElem hpl,Option.getD_some] at h1
  have h2:(acc[p - 1]).le v:=V.le_of_not h1
  rcases Nat.lt_or_ge i (p - 1) with c | c
  ·exact V.le_trans ((List.pairwise_iff_getElem.1 h) i (p - 1) (by omega) hpl c) h2
  ·have:i=p - 1:=by omega
   subst this; exact h2
 refine ⟨h.sublist (List.take_sublist _ _),⟨hdr,h.sublist (List.drop_sublist _ _)⟩,fun a ha b hb=>?_⟩
 rcases List.mem_cons.1 hb with rfl | hb
 ·exact htk a ha
 ·exact V.le_trans (htk a ha) (hdr b hb)
theorem foldS (l:List V):∀ acc:List V,acc.Pairwise V.le→(l.foldl insS acc).Pairwise V.le∧∀ x,x∈l.foldl insS acc↔x∈l∨x∈acc:=by
 induction l with
 | nil=>intro acc h; exact ⟨h,fun x=>by simp⟩
 | cons v l ih =>
   intro acc h
   obtain ⟨a,b⟩:=ih (insS acc v) (insS_sorted acc v h)
   refine ⟨a,fun x=>?_⟩
   rw [List.foldl_cons,b x,insS_mem,List.mem_cons]
   constructor
   ·rintro (h | h | h)
    ·exact .inl (.inr h)
    ·exact .inl (.inl h)
    ·exact .inr h
   ·rintro ((h | h) | h)
    ·exact .inr (.inl h)
    ·exact .inl h
    ·exact .inr (.inr h)
def V.beq (a b:V):Bool:=a.k==b.k&&(a.n==b.n&&a.t==b.t)
theorem V.beq_iff (a b:V):V.beq a b=true↔a=b:=by
 cases a; cases b
 simp [V.beq,V.mk.injEq]
def compV:List V→List V
 | []=>[]
 | [v]=>[v]
 | v::u::l=>if V.beq v u=true then compV (u::l) else v::compV (u::l)
theorem compV_head:∀ (v:V) (l:List V),∃ m,compV (v::l)=v::m
 | v,[]=>⟨[],rfl⟩
 | v,u::l=>by
   rw [compV]
   split
   ·rename_i h
    have:=(V.beq_iff v u).1 h
    subst this
    exact compV_head v l
   ·exact ⟨_,rfl⟩
theorem compV_mem (x:V):∀ l:List V,x∈compV l↔x∈l
 | []=>by simp [compV]
 | [v]=>by simp [compV]
 | v::u::l=>by
   rw [compV]
   split
   ·rename_i h
    have:=(V.beq_iff v u).1 h
    subst this
    rw [compV_mem x (v::l)]
    simp
   ·rw [List.mem_cons,compV_mem x (u::l),List.mem_cons (a:=x) (b:=v)]
theorem compV_sorted:∀ l:List V,l.Pairwise V.le→(compV l).Pairwise V.lt
 | [],_=>by simp [compV]
 | [v],_=>by simp [compV]
 | v::u::l,h=>by
   rw [compV]
   have h':=List.pairwise_cons.1 h
   have ih:=compV_sorted (u::l) h'.2
   split
   ·exact ih
   ·rename_i hne
    have hvu:v.lt u:=V.lt_of_le_ne (h'.1 u List.mem_cons_self) fun e=>hne ((V.beq_iff v u).2 e)
    rw [List.pairwise_cons]
    refine ⟨fun x hx=>?_,ih⟩
    obtain ⟨m,hm⟩:=compV_head u l
    rw [hm] at hx ih
    rcases List.mem_cons.1 hx with rfl | hx
    ·exact hvu
    ·exact V.lt_trans hvu ((List.pairwise_cons.1 ih).1 x hx)
theorem comp_sort (l:List V):compV (isort l)=sortD l:=by
 obtain ⟨a,b⟩:=foldS l [] .nil
 refine sorted_ext _ _ (compV_sorted _ a) (sortD_sorted l) fun x=>?_
 rw [compV_mem,sortD_mem]
 have:=b x
 simpa [isort] using this
structure At where
 col:Int
 op:Int
 v:V
def At.c (x:At):List D:=[.int .i64 x.col,.int .i64 x.op,.int .i64 x.v.k,.int .i64 x.v.n,.str x.v.t]
def At.a (x:At):AV:=.agg (x.c.map AV.d)
def colX (c:Int):Ex:=.mk 5 0 0 [] c []
def At.ex (x:At):Ex:=if x.op=5 then colX x.col else if x.op=21 then .mk 21 0 0 [] 0 [colX x.col] else .mk x.op 0 0 [] 0 [colX x.col,constOf x.v 0]
def At.zero (x:At):At:=⟨0,x.op,x.v⟩
def At.tr (x:At) (w:V):Int:=(evalV x.zero.ex [w]).tr
def aboutG (c:Int) (l:List At):List At:=l.filter fun a=>a.col==c
def trsG (l:List At) (w:V):List Int:=l.map fun a=>a.tr w
def maxI:Int:=1000000000000
def goI:List V→List V
 | []=>[]
 | v::rest=>(if v.n+1≤maxI∧(match rest with | []=>true | u::_=>u.n != v.n+1)=true then [v,⟨1,v.n+1,[]⟩] else [v])++goI rest
def genI (cs:List V):List V:=(match cs with | []=>[⟨1,-maxI,[]⟩] | v::_=>if v.n>-maxI then [⟨1,-maxI,[]⟩] else [])++goI cs
def itoaG (n:Nat):List UInt8:=if n<10 then [UInt8.ofNat (48+n)] else [UInt8.ofNat (48+n / 10),UInt8.ofNat (48+n % 10)]
def txV (n:Nat):V:=⟨3,0,itoaG n⟩
def hasV (cs:List V) (n:Nat):Bool:=cs.any fun u=>V.beq u (txV n)
def frG (cs:List V):Nat→Nat→Nat
 | 0,n=>n
 | m+1,n=>if hasV cs n=true then frG cs m (n+1) else n
def frN (cs:List V):Nat:=frG cs (cs.length+1) 0
theorem fr_zero {cs:List V} (h:∀ v∈cs,v.t ≠ [48]):frN cs=0:=by
 unfold frN
 rw [frG,if_neg]
 unfold hasV
 rw [List.any_eq_true]
 rintro ⟨v,hv,e⟩
 exact h v hv (by rw [(V.beq_iff _ _).1 e]; rfl)
theorem nodup_le:∀ (l cs:List V),l.Nodup→(∀ x∈l,x∈cs)→l.length≤cs.length
 | [],cs,_,_=>by simp
 | x::l,cs,hn,h=>by
   obtain ⟨h1,h2⟩:=List.nodup_cons.1 hn
   have:=nodup_le l (cs.filter fun u=>!V.beq u x) h2 fun y hy=>List.mem_filter.2 ⟨h y (List.mem_cons_of_mem _ hy),by
    cases e:V.beq y x with
    | false=>rfl
    | true=>rw [(V.beq_iff _ _).1 e] at hy; exact absurd hy h1⟩
   have hlt:(cs.filter fun u=>!V.beq u x).length<cs.length:=List.length_filter_lt_length_iff_exists.2 ⟨x,h x (List.mem_cons_self ..),by simp [(V.beq_iff x x).2 rfl]⟩
   rw [List.length_cons]
   omega
theorem tx_inj:∀ i,i<14→∀ j,j<14→itoaG i=itoaG j→i=j:=by decide
theorem has_le {cs:List V} {n:Nat} (hn:n≤13) (h:∀ j,j<n→hasV cs j=true):n≤cs.length:=by
 have hd:((List.range n).map txV).Nodup:=by
  unfold List.Nodup
  rw [List.pairwise_map]
  refine List.Pairwise.imp_of_mem (fun {a b} ha hb hab=>?_) List.pairwise_lt_range
  rw [List.mem_range] at ha hb
  intro e
  unfold txV at e
  have:=tx_inj a (by omega) b (by omega) (by injection e)
  omega
 have:=nodup_le _ cs hd fun x hx=>by
  obtain ⟨j,hj,rfl⟩:=List.mem_map.1 hx
  obtain ⟨u,hu,e⟩:=List.any_eq_true.1 (h j (List.mem_range.1 hj))
  rw [← (V.beq_iff _ _).1 e]
  exact hu
 rw [List.length_map,List.length_range] at this
 exact this
theorem has_le2 {cs:List V} (hl:cs.length≤12) {n:Nat} (h:∀ j,j<n→hasV cs j=true):n≤cs.length:=by
 by_cases hn:n≤13
 ·exact has_le hn h
 ·have:=has_le (cs:=cs) (n:=13) (by omega) fun j hj=>h j (by omega)
  omega
def genC (k:Int) (nb:Bool) (cs:List V):List V :=
 (if k=1 then genI cs else if k=2 then [⟨2,0,[]⟩,⟨2,1,[]⟩] else if k=3 then cs++[txV (frN cs)] else [])++(if nb=true then [nulV] else [])
def distG (f:V→List Int) (acc:List V):List V→List V
 | []=>acc
 | v::vs=>distG f (if (acc.any fun u=>f u==f v)=true then acc else acc++[v]) vs
def constsG (l:List At):List V:=sortD ((l.filter fun a=>a.v.k != 0).map At.v)
def classesG (c k:Int) (nb:Bool) (l:List At):List V:=distG (trsG (aboutG c l)) [] (genC k nb (constsG (aboutG c l)))
end Go.Proofs.Tryz
namespace Go.Proofs.Tryz
open Go.Ab
set_option maxRecDepth 100000
set_option maxHeartbeats 2000000
def schA (S:List Tb):AV:=.agg [.d (.sl (S.map Tb.c))]
def place {α:Type} (p:α→Bool) (l:List α):AV:=.tup [.d (.int .i64 (max (fidx p l 0) 0)),.d (.bool (decide (0≤fidx p l 0)))]
theorem s_find1 (x:Tb) (t:List UInt8):Cf En 115 [x.a,.ptr 1000000 0 0] [.var [.d (.str t)]] (.d (.bool (x.n==t))) [.var [.d (.str t)]]:=by
 refine cf_intro mix (fn:=Tryz.f115) (by kernel_rfl) rfl (by kernel_rfl) (by decide) (by simp) ?_
 simp [Tb.a,Tb.c]
 all_goals exact gz
theorem s_idxT (S:List Tb) (hl:S.length≤1000) (t:List UInt8):Cf En 71 [.d (.sl (S.map Tb.c)),.clo 115 [.ptr 1000000 0 0]] [.var [.d (.str t)]] (.d (.int .i64 (fidx (fun x=>x.n==t) S 0))) [.var [.d (.str t)]]:=by
 refine cf_intro mix (fn:=Tryz.f71) (by kernel_rfl) rfl (by kernel_rfl) (by decide) (by simp) ?_
 simp
 (repeat' (first|contradiction|exact .ok|apply And.intro|intro _|(refine gc (fun h=>?_) (fun h=>?_)<;>(have i:=h;(try simp at i);first|done|simp[h,i]|simp))))
 refine aloopT mix (by decide) (fun i:Nat=>{ s:=mkS [(0,.d (.sl (S.map Tb.c))),(1,.clo 115 [.ptr 1000000 0 0]),(7,.d (.int .i64 S.length)),(8,.d (.int .i64 i))],b:=mkB [(1000000,1000000,.var [.d (.str t)])] }) (fun i=>i≤S.length∧fidx (fun x=>x.n==t) (S.drop i) i=fidx (fun x=>x.n==t) S 0) (fun i=>S.length - i) 0 (by simp) (sub_mk _ [(1000000,1000000,_)] ⟨by simp,by simp,by simp [renOf,Blk.live],base1⟩ (by simp [renOf])) ?_
 rintro i ⟨hi,hf⟩
 by_cases hlt:i<S.length
 ·rw [fidx_drop hlt] at hf
  obtain ⟨u,hu⟩:∃ u,u=S[i]:=⟨_,rfl⟩
  have hgi:∀ h,S[i]'h=u:=fun _=>hu.symm
  rw [← hu] at hf
  have hw:=wrap_in (n:=(i:Int)+1) (by omega) (by omega)
  simp [hlt,hgi,Tb.c]
  (repeat' (first|contradiction|exact .ok|apply And.intro|intro _|(refine gc (fun h=>?_) (fun h=>?_)<;>(have i:=h;(try simp at i);first|done|simp[h,i]|simp))))
  refine acallT_hand [1000000] (s_find1 u t) (by simp) (by simp) (by simp) (by simp) (by simp [Tb.a,Tb.c]) ?_
  cases he:u.n==t
  ·rw [he] at hf
   simp [he]
   (repeat' (first|contradiction|exact .ok|apply And.intro|intro _|(refine gc (fun h=>?_) (fun h=>?_)<;>(have i:=h;(try simp at i);first|done|simp[h,i,he]|simp[he]))))
   refine ⟨i+1,⟨by omega,by simpa using hf⟩,?_,by simp; omega⟩
   exact sub_mk _ [(1000000,1000000,_)] ⟨by simp,by simp,by simp [renOf,Blk.live],base1⟩ (by simp [renOf,hw])
  ·rw [he] at hf
   simp only [if_true] at hf
   simp [he,← hf]
   (repeat' (first|contradiction|exact .ok|apply And.intro|intro _|(refine gc (fun h=>?_) (fun h=>?_)<;>(have i:=h;(try simp at i);first|done|simp[h,i,he]|simp[he]))))
 have hie:i=S.length:=by omega
 subst hie
 rw [List.drop_length,fidx] at hf
 simp [← hf]
 all_goals exact gz
theorem s_find (S:List Tb) (hl:S.length≤1000) (t:List UInt8):Cf En 67 [schA S,.d (.str t)] [] (place (fun x:Tb=>x.n==t) S) []:=by
 refine cf_intro mix (fn:=Tryz.f67) (by kernel_rfl) rfl (by kernel_rfl) (by decide) (by simp) ?_
 unfold place
 simp [schA]
 (repeat' (first|contradiction|exact .ok|apply And.intro|intro _|(refine gc (fun h=>?_) (fun h=>?_)<;>(have i:=h;(try simp at i);first|done|simp[h,i]|simp))))
 refine acallT_hand [3] (s_idxT S hl t) (by simp) (by simp) (by simp) (by simp) (by simp) ?_
 generalize fidx (fun x:Tb=>x.n==t) S 0=k
 simp
 (repeat' (first|contradiction|exact .ok|apply And.intro|intro _|(refine gc (fun h=>?_) (fun h=>?_)<;>(have i:=h;(try simp at i);first|done|simp[h,i]|simp))))
 split <;> omega
theorem place_at {α:Type} {p:α→Bool} {l:List α} {i:Nat} (h:fidx p l 0=(i:Int)):place p l=.tup [.d (.int .i64 i),.d (.bool true)]:=by
 unfold place; rw [h]; simp
theorem place_no {α:Type} {p:α→Bool} {l:List α} (h:fidx p l 0=-1):place p l=.tup [.d (.int .i64 0),.d (.bool false)]:=by
 unfold place; rw [h]; rfl
theorem r3_find (S:List Tb) (hl:S.length≤1000) (t:List UInt8):Cf En 41 [schA S,.d (.str t)] [] (place (fun x:Tb=>x.n==t) S) []:=by
 refine cf_intro mix (fn:=Tryz.f41) (by kernel_rfl) rfl (by kernel_rfl) (by decide) (by simp) ?_
 simp [schA]
 (repeat' (first|contradiction|exact .ok|apply And.intro|intro _|(refine gc (fun h=>?_) (fun h=>?_)<;>(have i:=h;(try simp at i);first|done|simp[h,i]|simp))))
 refine aloopT mix (by decide) (fun i:Nat=>{ s:=mkS [(1,.d (.str t)),(2,.ptr 2 0 0),(6,.d (.int .i64 i))],b:=mkB [(2,2,.var [.d (.sl (S.map Tb.c))])] }) (fun i=>i≤S.length∧fidx (fun x=>x.n==t) (S.drop i) i=fidx (fun x=>x.n==t) S 0) (fun i=>S.length - i) 0 (by simp) (sub_mk [(1,_),(2,_),(6,_)] [(2,2,_)] ⟨by simp,by simp,by simp [renOf,Blk.live],by simp⟩ (by simp [renOf])) ?_
 rintro i ⟨hi,hf⟩
 by_cases hlt:i<S.length
 ·rw [fidx_drop hlt] at hf
  obtain ⟨u,hu⟩:∃ u,u=S[i]:=⟨_,rfl⟩
  have hgi:∀ h,S[i]'h=u:=fun _=>hu.symm
  rw [← hu] at hf
  have hw:=wrap_in (n:=(i:Int)+1) (by omega) (by omega)
  by_cases he:u.n=t
  rotate_left
  ·rw [show (u.n==t)=false from by simpa using he] at hf
   simp [hlt,hgi,Tb.c,he]
   (repeat' (first|contradiction|exact .ok|apply And.intro|intro _|(refine gc (fun h=>?_) (fun h=>?_)<;>(have i:=h;(try simp at i);first|done|simp[h,i,hlt,hgi,he]|simp[hlt,hgi,he]))))
   refine ⟨i+1,⟨by omega,by simpa using hf⟩,?_,by simp; omega⟩
   exact sub_mk [(1,_),(2,_),(6,_)] [(2,2,_)] ⟨by simp,by simp,by simp [renOf,Blk.live],by simp⟩ (by simp [renOf,hw])
  ·rw [show (u.n==t)=true from by simpa using he] at hf
   simp only [if_true] at hf
   rw [place_at hf.symm]
   simp [hlt,hgi,Tb.c,Col.c,he]
   (repeat' (first|contradiction|exact .ok|apply And.intro|intro _|(refine gc (fun h=>?_) (fun h=>?_)<;>(have i:=h;(try simp at i);first|done|simp[h,i,hlt,hgi,he]|simp[hlt,hgi,he]))))
 have hie:i=S.length:=by omega
 subst hie
 rw [List.drop_length,fidx] at hf
 rw [place_no hf.symm]
 simp
 all_goals exact gz
theorem s_col1 (x:Col) (t:List UInt8):Cf En 162 [x.a,.ptr 1000000 0 0] [.var [.d (.str t)]] (.d (.bool (x.n==t))) [.var [.d (.str t)]]:=by
 refine cf_intro mix (fn:=Tryz.f162) (by kernel_rfl) rfl (by kernel_rfl) (by decide) (by simp) ?_
 simp [Col.a,Col.c]
 all_goals exact gz
theorem s_idxC (S:List Col) (hl:S.length≤1000) (t:List UInt8):Cf En 161 [.d (.sl (S.map Col.c)),.clo 162 [.ptr 1000000 0 0]] [.var [.d (.str t)]] (.d (.int .i64 (fidx (fun x=>x.n==t) S 0))) [.var [.d (.str t)]]:=by
 refine cf_intro mix (fn:=Tryz.f161) (by kernel_rfl) rfl (by kernel_rfl) (by decide) (by simp) ?_
 simp
 (repeat' (first|contradiction|exact .ok|apply And.intro|intro _|(refine gc (fun h=>?_) (fun h=>?_)<;>(have i:=h;(try simp at i);first|done|simp[h,i]|simp))))
 refine aloopT mix (by decide) (fun i:Nat=>{ s:=mkS [(0,.d (.sl (S.map Col.c))),(1,.clo 162 [.ptr 1000000 0 0]),(7,.d (.int .i64 S.length)),(8,.d (.int .i64 i))],b:=mkB [(1000000,1000000,.var [.d (.str t)])] }) (fun i=>i≤S.length∧fidx (fun x=>x.n==t) (S.drop i) i=fidx (fun x=>x.n==t) S 0) (fun i=>S.length - i) 0 (by simp) (sub_mk _ [(1000000,1000000,_)] ⟨by simp,by simp,by simp [renOf,Blk.live],base1⟩ (by simp [renOf])) ?_
 rintro i ⟨hi,hf⟩
 by_cases hlt:i<S.length
 ·rw [fidx_drop hlt] at hf
  obtain ⟨u,hu⟩:∃ u,u=S[i]:=⟨_,rfl⟩
  have hgi:∀ h,S[i]'h=u:=fun _=>hu.symm
  rw [← hu] at hf
  have hw:=wrap_in (n:=(i:Int)+1) (by omega) (by omega)
  simp [hlt,hgi,Col.c]
  (repeat' (first|contradiction|exact .ok|apply And.intro|intro _|(refine gc (fun h=>?_) (fun h=>?_)<;>(have i:=h;(try simp at i);first|done|simp[h,i]|simp))))
  refine acallT_hand [1000000] (s_col1 u t) (by simp) (by simp) (by simp) (by simp) (by simp [Col.a,Col.c]) ?_
  cases he:u.n==t
  ·rw [he] at hf
   simp [he]
   (repeat' (first|contradiction|exact .ok|apply And.intro|intro _|(refine gc (fun h=>?_) (fun h=>?_)<;>(have i:=h;(try simp at i);first|done|simp[h,i,he]|simp[he]))))
   refine ⟨i+1,⟨by omega,by simpa using hf⟩,?_,by simp; omega⟩
   exact sub_mk _ [(1000000,1000000,_)] ⟨by simp,by simp,by simp [renOf,Blk.live],base1⟩ (by simp [renOf,hw])
  ·rw [he] at hf
   simp only [if_true] at hf
   simp [he,← hf]
   (repeat' (first|contradiction|exact .ok|apply And.intro|intro _|(refine gc (fun h=>?_) (fun h=>?_)<;>(have i:=h;(try simp at i);first|done|simp[h,i,he]|simp[he]))))
 have hie:i=S.length:=by omega
 subst hie
 rw [List.drop_length,fidx] at hf
 simp [← hf]
 all_goals exact gz
theorem s_column (x:Tb) (hl:x.cols.length≤1000) (t:List UInt8):Cf En 116 [x.a,.d (.str t)] [] (place (fun c:Col=>c.n==t) x.cols) []:=by
 refine cf_intro mix (fn:=Tryz.f116) (by kernel_rfl) rfl (by kernel_rfl) (by decide) (by simp) ?_
 unfold place
 simp [Tb.a,Tb.c]
 (repeat' (first|contradiction|exact .ok|apply And.intro|intro _|(refine gc (fun h=>?_) (fun h=>?_)<;>(have i:=h;(try simp at i);first|done|simp[h,i]|simp))))
 refine acallT_hand [3] (s_idxC x.cols hl t) (by simp) (by simp) (by simp) (by simp) (by simp) ?_
 generalize fidx (fun c:Col=>c.n==t) x.cols 0=k
 simp
 (repeat' (first|contradiction|exact .ok|apply And.intro|intro _|(refine gc (fun h=>?_) (fun h=>?_)<;>(have i:=h;(try simp at i);first|done|simp[h,i]|simp))))
 split <;> omega
theorem r3_column (x:Tb) (hl:x.cols.length≤1000) (t:List UInt8):Cf En 131 [x.a,.d (.str t)] [] (place (fun c:Col=>c.n==t) x.cols) []:=by
 refine cf_intro mix (fn:=Tryz.f131) (by kernel_rfl) rfl (by kernel_rfl) (by decide) (by simp) ?_
 simp [Tb.a,Tb.c]
 (repeat' (first|contradiction|exact .ok|apply And.intro|intro _|(refine gc (fun h=>?_) (fun h=>?_)<;>(have i:=h;(try simp at i);first|done|simp[h,i]|simp))))
 refine aloopT mix (by decide) (fun i:Nat=>{ s:=mkS [(1,.d (.str t)),(2,.ptr 2 0 0),(6,.d (.int .i64 i))],b:=mkB [(2,2,.var (x.c.map AV.d))] }) (fun i=>i≤x.cols.length∧fidx (fun c:Col=>c.n==t) (x.cols.drop i) i=fidx (fun c:Col=>c.n==t) x.cols 0) (fun i=>x.cols.length - i) 0 (by simp) (sub_mk [(1,_),(2,_),(6,_)] [(2,2,_)] ⟨by simp,by simp,by simp [renOf,Blk.live,Tb.c],by simp⟩ (by simp [renOf])) ?_
 rintro i ⟨hi,hf⟩
 by_cases hlt:i<x.cols.length
 ·rw [fidx_drop hlt] at hf
  obtain ⟨u,hu⟩:∃ u,u=x.cols[i]:=⟨_,rfl⟩
  have hgi:∀ h,x.cols[i]'h=u:=fun _=>hu.symm
  rw [← hu] at hf
  have hw:=wrap_in (n:=(i:Int)+1) (by omega) (by omega)
  by_cases he:u.n=t
  rotate_left
  ·rw [show (u.n==t)=false from by simpa using he] at hf
   simp [hlt,hgi,Tb.c,Col.c,he]
   (repeat' (first|contradiction|exact .ok|apply And.intro|intro _|(refine gc (fun h=>?_) (fun h=>?_)<;>(have i:=h;(try simp at i);first|done|simp[h,i,hlt,hgi,he]|simp[hlt,hgi,he]))))
   refine ⟨i+1,⟨by omega,by simpa using hf⟩,?_,by simp; omega⟩
   exact sub_mk [(1,_),(2,_),(6,_)] [(2,2,_)] ⟨by simp,by simp,by simp [renOf,Blk.live,Tb.c],by simp⟩ (by simp [renOf,hw])
  ·rw [show (u.n==t)=true from by simpa using he] at hf
   simp only [if_true] at hf
   rw [place_at hf.symm]
   simp [hlt,hgi,Tb.c,Col.c,he]
   (repeat' (first|contradiction|exact .ok|apply And.intro|intro _|(refine gc (fun h=>?_) (fun h=>?_)<;>(have i:=h;(try simp at i);first|done|simp[h,i,hlt,hgi,he]|simp[hlt,hgi,he]))))
 have hie:i=x.cols.length:=by omega
 subst hie
 rw [List.drop_length,fidx] at hf
 rw [place_no hf.symm]
 simp [Tb.c]
 all_goals exact gz
end Go.Proofs.Tryz
namespace Go.Proofs.Tryz
open Go.Ab
set_option maxRecDepth 100000
set_option maxHeartbeats 2000000
@[simp] theorem mapk:mapKey? Tryz.prog 160=some (.int .i64,some (.bool false)):=by kernel_rfl
theorem m_nil:Cf En 123 [.d (.val (.map none))] [] (.d (.bool false)) []:=by
 refine cf_intro mix (fn:=Tryz.f123) (by kernel_rfl) rfl (by kernel_rfl) (by decide) (by simp) ?_
 simp
 all_goals exact gz
theorem m_len (es:List (D×D)) (h:es.length≤1000):Cf En 123 [.mref 1000000] [.mp es] (.d (.bool (es.length==0))) [.mp es]:=by
 refine cf_intro mix (fn:=Tryz.f123) (by kernel_rfl) rfl (by kernel_rfl) (by decide) (by simp) ?_
 have e:((es.length:Int)==0)=(es.length==0):=by rw [Bool.eq_iff_iff]; simp
 simp [e]
 all_goals exact gz
def mAV (al:Nat→Bool) (o k:Nat):AV:=if al k=true then .mref (o+k) else .d (.val (.map none))
def mB (al:Nat→Bool) (es:Nat→List (D×D)) (o N:Nat):List Blk:=.varr 160 1 (seqF (fun k=>[mAV al o k]) N)::seqF (fun k=>.mp (es k)) N
theorem mB_len (al:Nat→Bool) (es:Nat→List (D×D)) (o N:Nat):(mB al es o N).length=N+1:=by simp [mB]
theorem m_idx (al:Nat→Bool) (es:Nat→List (D×D)) (N:Nat) (hN:N≤1000) (hes:∀ k,k<N→(es k).length≤1000) :
  Cf En 122 [.ref 1000000 0 N 1,.clo 123 []] (mB al es 1000001 N) (.d (.int .i64 (fidx (fun k=>al k&&(es k).length==0) (seqF (fun k=>k) N) 0))) (mB al es 1000001 N):=by
 refine cf_intro mix (fn:=Tryz.f122) (by kernel_rfl) rfl (by kernel_rfl) (by decide) (by simp) ?_
 have b0:blkOf (mB al es 1000001 N) 1000000=.varr 160 1 (seqF (fun k=>[mAV al 1000001 k]) N):=by simp [blkOf,mB]
 have b1:∀ k,k<N→blkOf (mB al es 1000001 N) (1000001+k)=.mp (es k):=fun k hk=>by
  unfold blkOf mB
  rw [if_pos (by rw [firstName_eq]; omega),show 1000001+k - firstName=k+1 from by rw [firstName_eq]; omega,List.getElem?_cons_succ,seqF_get,if_pos hk]; rfl
 have hkeep:KeptOk (mB al es 1000001 N).length (blkOf (mB al es 1000001 N)) (idK (mB al es 1000001 N)):=by
  refine keptH rfl fun i b hb=>?_
  have hil:=(List.getElem?_eq_some_iff.1 hb).1
  rw [mB_len] at hil
  cases i with
  | zero =>
    simp only [mB,List.getElem?_cons_zero,Option.some.injEq] at hb
    subst hb
    rw [show firstName+0=1000000 from rfl,b0]
    refine ⟨.inl rfl,?_⟩
    simp only [cvB,seqF_map]
    congr 1
    refine seqF_congr fun k hk=>?_
    simp only [cvAs,mAV]
    split
    ·simp only [cvA,renOf_idK,mB_len,firstName_eq]
     rw [if_pos (by omega)]
    ·simp only [cvA]
  | succ k =>
    simp only [mB,List.getElem?_cons_succ,seqF_get] at hb
    split at hb <;> simp only [Option.some.injEq,reduceCtorEq] at hb
    subst hb
    rename_i hk
    rw [show firstName+(k+1)=1000001+k from by rw [firstName_eq]; omega,b1 k hk]
    exact ⟨.inl rfl,rfl⟩
 simp
 (repeat' (first|contradiction|exact .ok|apply And.intro|intro _|(refine gc (fun h=>?_) (fun h=>?_)<;>(have i:=h;(try simp at i);first|done|simp[h,i]|simp))))
 refine aloopT mix (by decide) (fun i:Nat=>{ s:=mkS [(0,.ref 1000000 0 N 1),(1,.clo 123 []),(7,.d (.int .i64 N)),(8,.d (.int .i64 i))],b:=blkOf (mB al es 1000001 N) }) (fun i=>i≤N∧fidx (fun k=>al k&&(es k).length==0) ((seqF (fun k=>k) N).drop i) i=fidx (fun k=>al k&&(es k).length==0) (seqF (fun k=>k) N) 0) (fun i=>N - i) 0 (by simp) (sub_sb rfl _ (by simp)) ?_
 rintro i ⟨hi,hf⟩
 by_cases hlt:i<N
 ·rw [fidx_drop (by simpa using hlt)] at hf
  have hgi:∀ h,(seqF (fun k=>k) N)[i]'h=i:=fun h=>by
   have:=seqF_get (fun k=>k) N i
   rw [List.getElem?_eq_getElem h,if_pos hlt] at this
   exact Option.some.inj this
  rw [hgi] at hf
  have hw:=wrap_in (n:=(i:Int)+1) (by omega) (by omega)
  have hr:(seqF (fun k=>[mAV al 1000001 k]) N)[i]?=some [mAV al 1000001 i]:=by rw [seqF_get,if_pos hlt]
  have hr2:∀ h,(seqF (fun k=>[mAV al 1000001 k]) N)[i]'h=[mAV al 1000001 i]:=fun h=>by
   rw [List.getElem?_eq_getElem h] at hr
   exact Option.some.inj hr
  cases ha:al i
  ·have hr3:∀ h,(seqF (fun k=>[mAV al 1000001 k]) N)[i]'h=[.d (.val (.map none))]:=fun h=>by rw [hr2,mAV,ha]; rfl
   rw [ha] at hf
   simp [hlt,b0,hr3]
   (repeat' (first|contradiction|exact .ok|apply And.intro|intro _|(refine gc (fun h=>?_) (fun h=>?_)<;>(have i:=h;(try simp at i);first|done|simp[h,i]|simp))))
   refine acallT_plain m_nil (by simp) ?_
   simp
   (repeat' (first|contradiction|exact .ok|apply And.intro|intro _|(refine gc (fun h=>?_) (fun h=>?_)<;>(have i:=h;(try simp at i);first|done|simp[h,i]|simp))))
   refine ⟨i+1,⟨by omega,by simpa using hf⟩,?_,by simp; omega⟩
   exact sub_sb rfl _ (by simp [hw])
  ·have hr3:∀ h,(seqF (fun k=>[mAV al 1000001 k]) N)[i]'h=[.mref (1000001+i)]:=fun h=>by rw [hr2,mAV,ha]; rfl
   rw [ha] at hf
   have b1i:=b1 i hlt
   simp [hlt,b0,hr3]
   (repeat' (first|contradiction|exact .ok|apply And.intro|intro _|(refine gc (fun h=>?_) (fun h=>?_)<;>(have i:=h;(try simp at i);first|done|simp[h,i]|simp))))
   refine acallT_hand [1000001+i] (m_len (es i) (hes i hlt)) (by simp) (by simp) (by simp [b1i]) (by simp [b1i]) (by simp [fwdR_cons]) ?_
   cases he:(es i).length==0
   ·rw [he] at hf
    simp [he,b1i]
    (repeat' (first|contradiction|exact .ok|apply And.intro|intro _|(refine gc (fun h=>?_) (fun h=>?_)<;>(have i:=h;(try simp at i);first|done|simp[h,i]|simp))))
    refine ⟨i+1,⟨by omega,by simpa using hf⟩,?_,by simp; omega⟩
    refine sub_sb (upd_same b1i) _ (by simp [hw])
   ·rw [he] at hf
    simp [he,b1i]
    (repeat' (first|contradiction|exact .ok|apply And.intro|intro _|(refine gc (fun h=>?_) (fun h=>?_)<;>(have i:=h;(try simp at i);first|done|simp[h,i]|simp))))
    rw [ends_hand,upd_same b1i]
    simp only [Bool.and_self,if_true] at hf
    simp [← hf]
    exact hkeep
 have hie:i=N:=by omega
 subst hie
 rw [List.drop_of_length_le (by simp),fidx] at hf
 simp
 (repeat' (first|contradiction|exact .ok|apply And.intro|intro _|(refine gc (fun h=>?_) (fun h=>?_)<;>(have i:=h;(try simp at i);first|done|simp[h,i]|simp))))
 rw [ends_hand]
 simp [← hf]
 exact hkeep
end Go.Proofs.Tryz
namespace Go.Proofs.Tryz
open Go.Ab
set_option maxRecDepth 100000
set_option maxHeartbeats 2000000
def kM (l:List Int):List (D×D):=l.map fun z=>(.int .i64 z,.bool true)
def insK (z:Int) (l:List Int):List Int:=if z∈l then l else l++[z]
@[simp] theorem kM_len (l:List Int):(kM l).length=l.length:=by simp [kM]
@[simp] theorem kM_ok (l:List Int):(kM l).all (fun e=>keyOk (.int .i64) e.1)=true:=by
  rw [List.all_eq_true]
  intro e he
  obtain ⟨z,_,rfl⟩:=List.mem_map.1 he
  rfl
theorem eqK_int (a b:Int):eqK (.int .i64 a) (.int .i64 b)=(a==b):=by simp [eqK]
theorem kM_set (z:Int):∀ l:List Int,mpSet (.int .i64 z) (.bool true) (kM l)=kM (insK z l)
 | []=>rfl
 | a::l=>by
   have ih:=kM_set z l
   show mpSet _ _ ((.int .i64 a,.bool true)::kM l)=_
   rw [mpSet,eqK_int]
   by_cases h:z=a
   ·subst h
    simp [insK,kM]
   ·rw [if_neg (by simpa using h),ih]
    unfold insK
    by_cases h2:z∈l
    ·rw [if_pos h2,if_pos (List.mem_cons_of_mem _ h2)]; rfl
    ·rw [if_neg h2,if_neg (by simp [h,h2])]; rfl
theorem kM_del (z:Int):∀ l:List Int,mpDel (.int .i64 z) (kM l)=kM (l.erase z)
 | []=>rfl
 | a::l=>by
   have ih:=kM_del z l
   show mpDel _ ((.int .i64 a,.bool true)::kM l)=_
   rw [mpDel,eqK_int]
   by_cases h:z=a
   ·subst h
    simp
   ·rw [if_neg (by simpa using h),ih,List.erase_cons_tail (by simpa using fun e=>h e.symm)]
    rfl
theorem insK_mem {z x:Int} {l:List Int}:x∈insK z l↔x=z∨x∈l:=by
 unfold insK
 split
 ·rename_i h
  constructor
  ·exact fun h=>.inr h
  ·rintro (rfl | h2)
   ·exact h
   ·exact h2
 ·simp [or_comm]
theorem insK_nodup {z:Int} {l:List Int} (h:l.Nodup):(insK z l).Nodup:=by
 unfold insK
 split
 ·exact h
 ·rename_i hz
  rw [List.nodup_append]
  refine ⟨h,by simp,fun a ha b hb e=>?_⟩
  simp at hb
  subst hb e
  exact hz ha
def tgt (S:List Tb) (f:Fk):Int:=fidx (fun x:Tb=>x.n==f.t) S 0
def keysT (S:List Tb):List Fk→List Int→List Int
 | [],l=>l
 | f::r,l=>keysT S r (insK (tgt S f) l)
theorem keysT_mem {S:List Tb} {x:Int}:∀ {r:List Fk} {l:List Int},x∈keysT S r l↔x∈l∨∃ f∈r,tgt S f=x
 | [],l=>by simp [keysT]
 | f::r,l=>by
   rw [keysT,keysT_mem,insK_mem]
   simp only [List.mem_cons,exists_eq_or_imp]
   constructor
   ·rintro ((rfl | h) | h)
    ·exact .inr (.inl rfl)
    ·exact .inl h
    ·exact .inr (.inr h)
   ·rintro (h | h | h)
    ·exact .inl (.inr h)
    ·exact .inl (.inl h.symm)
    ·exact .inr h
theorem keysT_nodup {S:List Tb}:∀ {r:List Fk} {l:List Int},l.Nodup→(keysT S r l).Nodup
 | [],_,h=>h
 | f::r,l,h=>by rw [keysT]; exact keysT_nodup (insK_nodup h)
end Go.Proofs.Tryz
