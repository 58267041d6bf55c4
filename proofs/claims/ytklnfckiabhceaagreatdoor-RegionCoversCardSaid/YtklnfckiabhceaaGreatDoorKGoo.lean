import Derived.Test.YtklnfckiabhceaaGreatDoorSut
import Derived.Test.YtklnfckiabhceaaGreatDoorKTye
import Derived.Test.YtklnfckiabhceaaGreatDoorKRgc
import Derived.Test.YtklnfckiabhceaaGreatDoorKClb
import Derived.Test.YtklnfckiabhceaaGreatDoorKFil
import Derived.Test.YtklnfckiabhceaaGreatDoorOfx
import Derived.Test.YtklnfckiabhceaaGreatDoorGue
import Derived.Test.YtklnfckiabhceaaGreatDoorAbB
import Derived.Test.YtklnfckiabhceaaGreatDoorAri
set_option linter.all false
namespace Go.Proofs.Tryz
open Go.Ab
set_option maxRecDepth 100000
set_option maxHeartbeats 4000000
theorem suits_ok {x:Tb} {a:At} (h:AtOk x a):suitsG x a=true:=by
 have h1:=h.col.1
 have h2:=h.col.2
 unfold suitsG
 rw [h.key,h.val]
 rcases h.kind with ⟨e,v⟩ | ⟨t,o1,o2,k⟩ | ⟨t,e,v⟩ | ⟨t,e,k⟩ | ⟨t,e,k⟩
 ·rw [v,e]; simp [h1,h2]; decide
 ·have:a.op=14∨a.op=15∨a.op=16∨a.op=17∨a.op=18∨a.op=19:=by omega
  rcases this with e | e | e | e | e | e <;> (rw [e,t,k]; simp [h1,h2])
 ·rw [v,e,t]; simp [h1,h2]; decide
 ·rcases e with e | e <;> (rw [e,t,k]; simp [h1,h2])
 ·rcases e with e | e <;> (rw [e,t,k]; simp [h1,h2])
theorem const_val {v:V} (h:v.valid=true) (hk:v.k=1∨v.k=2∨v.k=3):evalV (constOf v 0) []=v:=by
 obtain ⟨k,n,t⟩:=v
 unfold V.valid at h
 unfold constOf
 rcases hk with e | e | e <;> (simp only at e; subst e; simp at h)
 ·obtain rfl:t=[]:=by simpa using h.2.2
  show evalV (.mk 2 0 n [] 0 []) []=_
  rw [evalV,if_pos (by decide)]; rfl
 ·obtain rfl:t=[]:=by simpa using h.2
  show evalV (.mk 3 0 n [] 0 []) []=_
  rw [evalV,if_pos (by decide)]; rfl
 ·obtain rfl:n=0:=by simpa using h.1
  show evalV (.mk 4 0 0 t 0 []) []=_
  rw [evalV,if_pos (by decide)]; rfl
theorem r13_value (v:V) (h:v.valid=true) (hk:v.k=1∨v.k=2∨v.k=3) (ht:v.t.length≤200):Cf En 135 [(constOf v 0).a] [] v.a []:=by
 refine cf_intro mix (fn:=Tryz.f135) (by kernel_rfl) rfl (by kernel_rfl) (by decide) (by simp) ?_
 have hq:(constOf v 0).few 0=true:=by
  unfold constOf
  repeat' split
  all_goals (rw [Ex.few,fewAll,if_neg (by omega),if_neg (by simp),if_neg (by simp <;> omega)])
 have he:=reval_cf [] (by simp) (SizeOf.sizeOf (constOf v 0)+1) (constOf v 0) (by omega) 0 hq
 rw [const_val h hk] at he
 unfold constOf at he ⊢
 rcases hk with e | e | e
 all_goals (
  simp [e,Ex.a,Ex.c,kidsC] at he ⊢
  (repeat' (first|contradiction|exact .ok|apply And.intro|intro _|(refine gc (fun h=>?_) (fun h=>?_)<;>(have h':=h;(try simp at h');first|done|simp[h,h']|simp))))
  refine acallT_plain he (by simp [Ex.a,Ex.c,kidsC]) ?_
  simp [V.a]
  (repeat' (first | contradiction | exact .of (by kernel_rfl) | refine And.intro ?_ ?_ | intro _ | (refine agrd_cases (fun h=>?_) (fun h=>?_) <;> (have h':=h; (try simp at h'); first | done | simp [h,h'] | simp)))))
def oneA (a:At):AV:=.tup [a.a,.d (.bool true)]
theorem r13_one (x:Tb) (hx:x.ok) (a:At) (h:AtOk x a):Cf En 81 [x.a,a.ex.a] [] (oneA a) []:=by
 have hs:=r13_suits x hx a
 rw [suits_ok h] at hs
 have hex:=r13_expr a
 have hsm:=re_same (SizeOf.sizeOf a.ex+1) a.ex a.ex (by omega) (by
  unfold At.ex
  repeat' split
  all_goals simp [colX,constOf,Ex.fits,fitsAll]
  all_goals (repeat' split)
  all_goals simp [Ex.fits,fitsAll])
 rw [Ex.eq_self] at hsm
 have hlen:=h.len
 have hval:=h.val
 have hkind:=h.kind
 clear h
 rcases a with ⟨col,op,v⟩
 simp only at hkind hlen hval
 unfold At.ex at hex hsm ⊢
 simp only at hex hsm ⊢
 refine cf_intro mix (fn:=Tryz.f81) (by kernel_rfl) rfl (by kernel_rfl) (by decide) (by simp) ?_
 rcases hkind with ⟨e,hv⟩ | ⟨t,o1,o2,hk⟩ | ⟨t,e,hv⟩ | ⟨t,e,hk⟩ | ⟨t,e,hk⟩
 ·subst e hv
  simp [colX,Ex.a,Ex.c,kidsC,At.a,At.c,nulV,Tb.a,Tb.c] at hs hex hsm ⊢
  (repeat' (first|contradiction|exact .ok|apply And.intro|intro _|(refine gc (fun h=>?_) (fun h=>?_)<;>(have h':=h;(try simp at h');first|done|simp[h,h']|simp))))
  refine acallT_plain hs (by simp) ?_
  simp
  (repeat' (first|contradiction|exact .ok|apply And.intro|intro _|(refine gc (fun h=>?_) (fun h=>?_)<;>(have h':=h;(try simp at h');first|done|simp[h,h']|simp))))
  refine acallT_plain hex (by simp) ?_
  simp
  refine acallT_plain hsm (by simp) ?_
  simp
  (repeat' (first|contradiction|exact .ok|apply And.intro|intro _|(refine gc (fun h=>?_) (fun h=>?_)<;>(have h':=h;(try simp at h');first|done|simp[h,h']|simp))))
  all_goals simp [oneA,At.a,At.c]
 ·have n5:¬ op=5:=by omega
  have n21:¬ op=21:=by omega
  have hvl:=r13_value v hval (.inl hk) (by omega)
  simp [n5,n21,hk,constOf,colX,Ex.a,Ex.c,kidsC,At.a,At.c,V.a,Tb.a,Tb.c] at hs hex hsm hvl ⊢
  (repeat' (first|contradiction|exact .ok|apply And.intro|intro _|(refine gc (fun h=>?_) (fun h=>?_)<;>(have h':=h;(try simp at h');first|done|simp[h,h',n5,n21]|simp[n5,n21]))))
  refine acallT_plain hvl (by simp) ?_
  simp
  (repeat' (first|contradiction|exact .ok|apply And.intro|intro _|(refine gc (fun h=>?_) (fun h=>?_)<;>(have h':=h;(try simp at h');first|done|simp[h,h']|simp))))
  refine acallT_plain hs (by simp) ?_
  simp
  (repeat' (first|contradiction|exact .ok|apply And.intro|intro _|(refine gc (fun h=>?_) (fun h=>?_)<;>(have h':=h;(try simp at h');first|done|simp[h,h']|simp))))
  refine acallT_plain hex (by simp) ?_
  simp
  refine acallT_plain hsm (by simp) ?_
  simp
  (repeat' (first|contradiction|exact .ok|apply And.intro|intro _|(refine gc (fun h=>?_) (fun h=>?_)<;>(have h':=h;(try simp at h');first|done|simp[h,h']|simp))))
  all_goals simp [oneA,At.a,At.c,hk]
 ·subst e hv
  simp [colX,Ex.a,Ex.c,kidsC,At.a,At.c,nulV,Tb.a,Tb.c] at hs hex hsm ⊢
  (repeat' (first|contradiction|exact .ok|apply And.intro|intro _|(refine gc (fun h=>?_) (fun h=>?_)<;>(have h':=h;(try simp at h');first|done|simp[h,h']|simp))))
  refine acallT_plain hs (by simp) ?_
  simp
  (repeat' (first|contradiction|exact .ok|apply And.intro|intro _|(refine gc (fun h=>?_) (fun h=>?_)<;>(have h':=h;(try simp at h');first|done|simp[h,h']|simp))))
  refine acallT_plain hex (by simp) ?_
  simp
  refine acallT_plain hsm (by simp) ?_
  simp
  (repeat' (first|contradiction|exact .ok|apply And.intro|intro _|(refine gc (fun h=>?_) (fun h=>?_)<;>(have h':=h;(try simp at h');first|done|simp[h,h']|simp))))
  all_goals simp [oneA,At.a,At.c]
 ·have n5:¬ op=5:=by omega
  have n21:¬ op=21:=by omega
  have hvl:=r13_value v hval (.inr (.inl hk)) (by omega)
  simp [n5,n21,hk,constOf,colX,Ex.a,Ex.c,kidsC,At.a,At.c,V.a,Tb.a,Tb.c] at hs hex hsm hvl ⊢
  (repeat' (first|contradiction|exact .ok|apply And.intro|intro _|(refine gc (fun h=>?_) (fun h=>?_)<;>(have h':=h;(try simp at h');first|done|simp[h,h',n5,n21]|simp[n5,n21]))))
  refine acallT_plain hvl (by simp) ?_
  simp
  (repeat' (first|contradiction|exact .ok|apply And.intro|intro _|(refine gc (fun h=>?_) (fun h=>?_)<;>(have h':=h;(try simp at h');first|done|simp[h,h']|simp))))
  refine acallT_plain hs (by simp) ?_
  simp
  (repeat' (first|contradiction|exact .ok|apply And.intro|intro _|(refine gc (fun h=>?_) (fun h=>?_)<;>(have h':=h;(try simp at h');first|done|simp[h,h']|simp))))
  refine acallT_plain hex (by simp) ?_
  simp
  refine acallT_plain hsm (by simp) ?_
  simp
  (repeat' (first|contradiction|exact .ok|apply And.intro|intro _|(refine gc (fun h=>?_) (fun h=>?_)<;>(have h':=h;(try simp at h');first|done|simp[h,h']|simp))))
  all_goals simp [oneA,At.a,At.c,hk]
 ·have n5:¬ op=5:=by omega
  have n21:¬ op=21:=by omega
  have hvl:=r13_value v hval (.inr (.inr hk)) (by omega)
  simp [n5,n21,hk,constOf,colX,Ex.a,Ex.c,kidsC,At.a,At.c,V.a,Tb.a,Tb.c] at hs hex hsm hvl ⊢
  (repeat' (first|contradiction|exact .ok|apply And.intro|intro _|(refine gc (fun h=>?_) (fun h=>?_)<;>(have h':=h;(try simp at h');first|done|simp[h,h',n5,n21]|simp[n5,n21]))))
  refine acallT_plain hvl (by simp) ?_
  simp
  (repeat' (first|contradiction|exact .ok|apply And.intro|intro _|(refine gc (fun h=>?_) (fun h=>?_)<;>(have h':=h;(try simp at h');first|done|simp[h,h']|simp))))
  refine acallT_plain hs (by simp) ?_
  simp
  (repeat' (first|contradiction|exact .ok|apply And.intro|intro _|(refine gc (fun h=>?_) (fun h=>?_)<;>(have h':=h;(try simp at h');first|done|simp[h,h']|simp))))
  refine acallT_plain hex (by simp) ?_
  simp
  refine acallT_plain hsm (by simp) ?_
  simp
  (repeat' (first|contradiction|exact .ok|apply And.intro|intro _|(refine gc (fun h=>?_) (fun h=>?_)<;>(have h':=h;(try simp at h');first|done|simp[h,h']|simp))))
  all_goals simp [oneA,At.a,At.c,hk]
def atomsA (l:List At):AV:=.tup [.d (.sl (l.map At.c)),.d (.bool true)]
theorem r13_atoms (x:Tb) (hx:x.ok) (a:At) (h:AtOk x a):Cf En 35 [x.a,a.ex.a] [] (atomsA [a]) []:=by
 have ho:=r13_one x hx a h
 refine cf_intro mix (fn:=Tryz.f35) (by kernel_rfl) rfl (by kernel_rfl) (by decide) (by simp) ?_
 generalize a.ex=e at *
 rcases e with ⟨o,c,n,t,g,ks⟩
 simp [Tb.a,Tb.c,Ex.a,Ex.c] at ho ⊢
 (repeat' (first|contradiction|exact .ok|apply And.intro|intro _|(refine gc (fun h=>?_) (fun h=>?_)<;>(have h':=h;(try simp at h');first|done|simp[h,h']|simp))))
 refine acallT_plain ho (by simp) ?_
 simp [oneA,At.a,At.c]
 (repeat' (first|contradiction|exact .ok|apply And.intro|intro _|(refine gc (fun h=>?_) (fun h=>?_)<;>(have h':=h;(try simp at h');first|done|simp[h,h']|simp))))
 all_goals simp [atomsA,At.c]
end Go.Proofs.Tryz
namespace Go.Proofs.Tryz
open Go.Ab
set_option maxRecDepth 100000
set_option maxHeartbeats 1000000
def clsR (x:Tb) (l:List At) (c:Nat):List V:=if keyT x c=true then [⟨1,0,[]⟩] else classesG c (colO x c).t (colO x c).b l
def mulR (C:List V) (c:Nat) (R:List (List V)):List (List V):=R.flatMap fun r=>C.map fun v=>r.set c v
def rowsR (f:Nat→List V):Nat→Nat→List (List V)→Option (List (List V))
 | 0,_,R=>some R
 | m+1,c,R=>if 2000<R.length*(f c).length then none else rowsR f m (c+1) (mulR (f c) c R)
def fineR (ch:List Ex) (row:List V):Bool:=ch.all fun e=>(evalV e row).tr != 0
def ownS (ch:List Ex) (l:List At) (O:List Rg) (r:List V):List Rg:=if (fineR ch r&&!(O.any fun o=>o.t==trG r l))=true then O++[⟨trG r l,[],r⟩] else O
def ownG (ch:List Ex) (l:List At):List (List V)→List Rg→List Rg
 | [],O=>O
 | r::R,O=>ownG ch l R (ownS ch l O r)
def emptyP (P:List (List Rg)):Bool:=P.any fun p=>p.length==0
def endR (O:List Rg) (P:List (List Rg)):Int×List Rg:=if emptyP P=true then (0,[]) else if limG O.length P=true then (0,crossG O P) else (8,[])
def regG (x:Tb) (l:List At) (P:List (List Rg)):Int×List Rg:=match rowsR (clsR x l) x.cols.length 0 [List.replicate x.cols.length nulV] with
 | none=>(8,[])
 | some R=>endR (ownG x.ch l R []) P
def regA (q:Int×List Rg):AV:=.tup [.d (.sl (q.2.map Rg.c)),.d (.int .i64 q.1)]
def regS (S:List Tb) (t:Int) (l:List At) (P:List (List Rg)):Int×List Rg :=
 if plainS S=true∧0≤t∧t<S.length∧suitG (tabO S t.toNat) l=true∧P.length=(tabO S t.toNat).fk.length then regG (tabO S t.toNat) l P else (1,[])
theorem distG_len (f:V→List Int):∀ (L O:List V),(distG f O L).length≤O.length+L.length
 | [],O=>by simp [distG]
 | v::L,O=>by
   rw [distG]
   refine Nat.le_trans (distG_len f L _) ?_
   split <;> (simp only [List.length_append,List.length_cons,List.length_nil]; omega)
theorem clsR_len (x:Tb) (l:List At) (c:Nat):(clsR x l c).length≤2*l.length+4:=by
 unfold clsR
 split
 ·simp
 ·unfold classesG
  have h1:=distG_len (trsG (aboutG c l)) (genC (colO x c).t (colO x c).b (constsG (aboutG c l))) []
  have h2:=genC_len (colO x c).t (colO x c).b (constsG (aboutG c l))
  have h3:=constsG_len (aboutG c l)
  have h4:(aboutG c l).length≤l.length:=List.length_filter_le _ _
  simp at h1
  omega
theorem mulR_len (C:List V) (c:Nat):∀ R:List (List V),(mulR C c R).length=R.length*C.length
 | []=>by simp [mulR]
 | r::R=>by
   have h:=mulR_len C c R
   unfold mulR at h ⊢
   rw [List.flatMap_cons,List.length_append,h,List.length_map,List.length_cons,Nat.add_mul,Nat.one_mul,Nat.add_comm]
theorem mulR_row {C:List V} {c n:Nat} {R:List (List V)} (h:∀ r∈R,r.length=n):∀ r∈mulR C c R,r.length=n:=fun r hr=>by
 unfold mulR at hr
 obtain ⟨q,hq,hr⟩:=List.mem_flatMap.1 hr
 obtain ⟨v,_,rfl⟩:=List.mem_map.1 hr
 rw [List.length_set]; exact h q hq
theorem mulR_take {C:List V} {c i:Nat} {R:List (List V)} (h:i<R.length):mulR C c (R.take (i+1))=mulR C c (R.take i)++C.map fun v=>R[i].set c v:=by
 unfold mulR
 rw [take_snoc h,List.flatMap_append]
 simp
theorem map_take {α β:Type} {f:α→β} {l:List α} {i:Nat} (h:i<l.length):(l.take (i+1)).map f=(l.take i).map f++[f l[i]]:=by
 rw [take_snoc h,List.map_append]; rfl
theorem rowsR_len {f:Nat→List V}:∀ {m c:Nat} {R T:List (List V)},R.length≤2000→rowsR f m c R=some T→T.length≤2000
 | 0,c,R,T,h,e=>by rw [rowsR,Option.some.injEq] at e; subst e; exact h
 | m+1,c,R,T,h,e=>by
   rw [rowsR] at e
   split at e
   ·cases e
   ·exact rowsR_len (by rw [mulR_len]; omega) e
theorem rowsR_row {f:Nat→List V} {n:Nat}:∀ {m c:Nat} {R T:List (List V)},(∀ r∈R,r.length=n)→rowsR f m c R=some T→∀ r∈T,r.length=n
 | 0,c,R,T,h,e=>by rw [rowsR,Option.some.injEq] at e; subst e; exact h
 | m+1,c,R,T,h,e=>by
   rw [rowsR] at e
   split at e
   ·cases e
   ·exact rowsR_row (mulR_row h) e
theorem ownS_len {ch:List Ex} {l:List At} {O:List Rg} {r:List V}:(ownS ch l O r).length≤O.length+1:=by
 unfold ownS
 split
 ·simp
 ·omega
theorem ownG_len {ch:List Ex} {l:List At}:∀ {R:List (List V)} {O:List Rg},(ownG ch l R O).length≤O.length+R.length
 | [],O=>by simp [ownG]
 | r::R,O=>by
   rw [ownG]
   have h1:=ownS_len (ch:=ch) (l:=l) (O:=O) (r:=r)
   have h2:=ownG_len (ch:=ch) (l:=l) (R:=R) (O:=ownS ch l O r)
   simp; omega
def OwnOk (n:Nat) (l:List At) (o:Rg):Prop:=o.t.length=l.length∧o.p=[]∧o.s.length=n
theorem ownS_ok {ch:List Ex} {l:List At} {O:List Rg} {r:List V} {n:Nat} (hr:r.length=n) (h:∀ o∈O,OwnOk n l o):∀ o∈ownS ch l O r,OwnOk n l o:=fun o ho=>by
 unfold ownS at ho
 split at ho
 ·rcases List.mem_append.1 ho with ho | ho
  ·exact h o ho
  ·rw [List.mem_singleton] at ho
   subst ho
   exact ⟨by simp [trG],rfl,hr⟩
 ·exact h o ho
theorem ownG_ok {ch:List Ex} {l:List At} {n:Nat}:∀ {R:List (List V)} {O:List Rg},(∀ r∈R,r.length=n)→(∀ o∈O,OwnOk n l o)→∀ o∈ownG ch l R O,OwnOk n l o
 | [],O,_,h=>h
 | r::R,O,hr,h=>by
   rw [ownG]
   exact ownG_ok (fun q hq=>hr q (List.mem_cons_of_mem _ hq)) (ownS_ok (hr r (List.mem_cons_self ..)) h)
theorem crossG_ok {n:Nat} {l:List At}:∀ {P:List (List Rg)} {O:List Rg} {k:Nat},(∀ o∈O,o.t.length=l.length∧o.p.length=k∧o.s.length=n)→∀ o∈crossG O P,o.t.length=l.length∧o.p.length=k+P.length∧o.s.length=n
 | [],O,k,h=>by simpa [crossG] using h
 | p::P,O,k,h=>fun o ho=>by
   rw [crossG] at ho
   have:=crossG_ok (P:=P) (O:=mulP p.length O) (k:=k+1) (fun o ho=>by
    unfold mulP at ho
    obtain ⟨q,hq,ho⟩:=List.mem_flatMap.1 ho
    obtain ⟨j,_,rfl⟩:=upL_mem ho
    obtain ⟨h1,h2,h3⟩:=h q hq
    exact ⟨h1,by simp [Rg.add,h2],h3⟩) o ho
   rw [List.length_cons]
   omega
theorem regS_ok {S:List Tb} {t:Int} {l:List At} {P:List (List Rg)}:∀ o∈(regS S t l P).2,o.t.length=l.length∧o.p.length=P.length∧o.s.length=(tabO S t.toNat).cols.length:=fun o ho=>by
 unfold regS at ho
 split at ho
 ·unfold regG at ho
  split at ho
  ·cases ho
  ·rename_i R hR
   unfold endR at ho
   split at ho
   ·cases ho
   ·split at ho
    ·have:=crossG_ok (l:=l) (k:=0) (n:=(tabO S t.toNat).cols.length) (fun o ho=>by
      obtain ⟨h1,h2,h3⟩:=ownG_ok (n:=(tabO S t.toNat).cols.length) (rowsR_row (by simp) hR) (by simp) o ho
      exact ⟨h1,by rw [h2]; rfl,h3⟩) o ho
     simpa using this
    ·cases ho
 ·cases ho
end Go.Proofs.Tryz
namespace Go.Proofs.Tryz
open Go.Ab
set_option maxRecDepth 100000
set_option maxHeartbeats 1000000
theorem fidx_first {α:Type} {p:α→Bool}:∀ {l:List α} {m k:Nat} {x:α},l[m]?=some x→p x=true→(k:Int)≤fidx p l k∧fidx p l k≤(k:Int)+m
 | [],m,k,x,h,_=>by simp at h
 | y::l,0,k,x,h,hp=>by
   simp only [List.getElem?_cons_zero,Option.some.injEq] at h
   subst h
   rw [fidx,if_pos hp]; omega
 | y::l,m+1,k,x,h,hp=>by
   rw [List.getElem?_cons_succ] at h
   rw [fidx]
   split
   ·omega
   ·have:=fidx_first (k:=k+1) h hp
    omega
def DecN (S:List Tb):Prop:=∀ k x,S[k]?=some x→x.n=nmG 116 k∧∀ g∈x.fk,∃ m,m<k∧g.t=nmG 116 m
theorem tabP_dec (L:List Int) (j a:Nat):(tabP L j a).1.n=nmG 116 j∧∀ g∈(tabP L j a).1.fk,∃ m,m<j∧g.t=nmG 116 m:=by
 obtain ⟨_,p2,_,_,p5,_⟩:=ck_parts L (tab0 L j a) (pkE L (a+1+2*freeP L a) j)
 unfold tabP
 rw [p2,p5]
 refine ⟨rfl,fun g hg=>?_⟩
 obtain ⟨k,hk,rfl⟩:=upL_mem hg
 have hj:0<j:=by
  rcases Nat.eq_zero_or_pos j with rfl | h
  ·simp [pkN] at hk
  ·exact h
 have:=nextV_in L (a+1+2*freeP L a+2*k+1) (n:=(j:Int)) (by omega)
 exact ⟨_,by omega,rfl⟩
theorem dec_made (L:List Int) (a:Nat):∀ n,DecN (tabsP L a n).1
 | 0=>fun k x h=>by simp [tabsP] at h
 | n+1=>fun k x h=>by
   simp only [tabsP] at h
   rw [List.getElem?_append,tabsP_len] at h
   split at h
   ·exact dec_made L a n k x h
   ·rename_i hk
    have h0:k=n:=by
     have:=(List.getElem?_eq_some_iff.1 h).1
     simp at this; omega
    subst h0
    rw [Nat.sub_self,List.getElem?_cons_zero,Option.some.injEq] at h
    subst h
    exact tabP_dec L k _
theorem dec_free {S:List Tb} (h:DecN S):DecN (freS S):=fun k x hx=>by
 unfold freS at hx
 rw [List.getElem?_map] at hx
 cases hs:S[k]? with
 | none=>rw [hs] at hx; cases hx
 | some y =>
   rw [hs] at hx
   simp only [Option.map_some,Option.some.injEq] at hx
   subst hx
   exact h k y hs
theorem dec_of {S:List Tb} (h:DecN S):Dec S:=fun k hk g hg=>by
 have hx:S[k]?=some S[k]:=List.getElem?_eq_getElem hk
 unfold tabO at hg
 rw [hx] at hg
 obtain ⟨m,hm,e⟩:=(h k _ hx).2 g hg
 have hy:S[m]?=some (S[m]'(by omega)):=List.getElem?_eq_getElem (by omega)
 have:=fidx_first (p:=fun x:Tb=>x.n==g.t) (k:=0) hy (by rw [(h m _ hy).1,e]; exact beq_self_eq_true _)
 unfold tgN tgt
 omega
end Go.Proofs.Tryz
namespace Go.Proofs.Tryz
open Go.Ab
set_option maxRecDepth 100000
set_option maxHeartbeats 1000000
def exAt:Ex→At
 | .mk o _ _ _ g ks=>if o=5 then ⟨g,5,nulV⟩ else ⟨(match ks[0]? with | some (Ex.mk _ _ _ _ g0 _)=>g0 | none=>0),o,match ks[1]? with | some k=>evalV k [] | none=>nulV⟩
theorem exAt_ex {x:Tb} {a:At} (h:AtOk x a):exAt a.ex=a:=by
 have hv:=h.val
 have hk:=h.kind
 obtain ⟨col,op,v⟩:=a
 simp only at hv hk
 unfold At.ex
 rcases hk with ⟨e,hw⟩ | ⟨t,o1,o2,k⟩ | ⟨t,e,hw⟩ | ⟨t,e,k⟩ | ⟨t,e,k⟩
 ·subst e hw; rfl
 ·have h5:¬ op=5:=by omega
  have h21:¬ op=21:=by omega
  simp only [h5,h21,if_false,exAt,colX]
  simp [const_val hv (.inl k)]
 ·subst e hw; rfl
 ·have h5:¬ op=5:=by omega
  have h21:¬ op=21:=by omega
  simp only [h5,h21,if_false,exAt,colX]
  simp [const_val hv (.inr (.inl k))]
 ·have h5:¬ op=5:=by omega
  have h21:¬ op=21:=by omega
  simp only [h5,h21,if_false,exAt,colX]
  simp [const_val hv (.inr (.inr k))]
def chkL (l:List At) (ch:List Ex):List At:=ch.foldl (fun l e=>insA l (exAt e)) l
theorem chkL_snoc (l:List At) (ch:List Ex) (e:Ex):chkL l (ch++[e])=insA (chkL l ch) (exAt e):=by simp [chkL]
structure MadeS (S:List Tb):Prop where
 fill:FillOk S
 dec:DecN S
 made:∀ x∈S,Made x
 ch:∀ x∈S,x.ch.length≤1∧∀ e∈x.ch,∃ a,AtOk x a∧e=a.ex
theorem atOk_parts {x y:Tb} {a:At} (h1:y.cols=x.cols) (h2:y.pr=x.pr) (h3:y.fk=x.fk) (h:AtOk x a):AtOk y a:=by
 have hk:keyT y a.col=keyT x a.col:=by unfold keyT; rw [h2,h3]
 have ht:typT y a.col=typT x a.col:=by unfold typT; rw [h1]
 exact ⟨by rw [h1]; exact h.col,by rw [hk]; exact h.key,by rw [ht]; exact h.kind,h.val,h.len,h.no0,h.num⟩
theorem made_made (L:List Int) (a n:Nat) (hn:n≤10):MadeS (tabsP L a n).1:=by
 refine ⟨fill_made L a n hn,dec_made L a n,fun x hx=>tabs_made hx,fun x hx=>?_⟩
 obtain ⟨j,b,rfl⟩:=tabsP_mem hx
 obtain ⟨_,_,p3,p4,p5,p6⟩:=ck_parts L (tab0 L j b) (pkE L (b+1+2*freeP L b) j)
 unfold tabP
 rcases p6 with p6 | ⟨c,p6⟩
 ·rw [p6]
  exact ⟨by simp [tab0],fun e he=>by simp [tab0] at he⟩
 ·rw [p6]
  exact ⟨by simp,fun e he=>⟨_,atOk_parts p3 p4 p5 (atom_ok L (tab0_made L j b) c),List.mem_singleton.1 he⟩⟩
structure LOk (x:Tb) (l:List At):Prop where
 len:l.length≤10
 ok:∀ a∈l,AtOk x a
theorem chkL_ok {x:Tb}:∀ {ch:List Ex} {l:List At},(∀ e∈ch,∃ a,AtOk x a∧e=a.ex)→(∀ a∈l,AtOk x a)→(chkL l ch).length≤l.length+ch.length∧∀ a∈chkL l ch,AtOk x a
 | [],l,_,h=>⟨by simp [chkL],h⟩
 | e::ch,l,hc,h=>by
   obtain ⟨a,ha,rfl⟩:=hc e (List.mem_cons_self ..)
   have h1:=insA_len l (exAt a.ex)
   have:=chkL_ok (ch:=ch) (l:=insA l (exAt a.ex)) (fun q hq=>hc q (List.mem_cons_of_mem _ hq)) fun b hb=>by
    rcases insA_mem hb with rfl | hb
    ·rw [exAt_ex ha]; exact ha
    ·exact h b hb
   refine ⟨?_,this.2⟩
   have:=this.1
   simp only [List.length_cons]
   show (chkL (insA l (exAt a.ex)) ch).length≤_
   omega
abbrev WA:=Nat→Option (List At)
abbrev WR:=Nat→Option (List Rg)
def wA (L:List Int) (S:List Tb) (i n:Nat):List At×Nat:=atsG L (tabO S n) (nextV L i 3).toNat (i+1)
def wL (L:List Int) (S:List Tb) (i n:Nat):List At:=chkL (wA L S i n).1 (tabO S n).ch
def wP (S:List Tb) (R:WR) (n:Nat):List (List Rg):=(tabO S n).fk.map fun g=>(R (tgN S g)).getD []
def wQ (L:List Int) (S:List Tb) (R:WR) (i n:Nat):Int×List Rg:=regS S n (wL L S i n) (wP S R n)
def wBad (q:Int×List Rg):Bool:=decide (q.1 ≠ 0)||decide (300<q.2.length)
structure W where
 A:WA
 R:WR
 i:Nat
 ok:Bool
def worldG (L:List Int) (S:List Tb):List Int→WA→WR→Nat→W
 | [],A,R,i=>⟨A,R,i,true⟩
 | z::zs,A,R,i=>if wBad (wQ L S R i z.toNat)=true then ⟨upd A z.toNat (some (wL L S i z.toNat)),R,(wA L S i z.toNat).2,false⟩
   else worldG L S zs (upd A z.toNat (some (wL L S i z.toNat))) (upd R z.toNat (some (wQ L S R i z.toNat).2)) (wA L S i z.toNat).2
structure WOk (S:List Tb) (A:WA) (R:WR):Prop where
 a:∀ j l,A j=some l→LOk (tabO S j) l
 r:∀ j r,R j=some r→r.length≤300∧∀ x∈r,x.t.length≤10∧x.p.length≤10
theorem wL_ok (L:List Int) {S:List Tb} (h:MadeS S) (i n:Nat) (hn:n<S.length):LOk (tabO S n) (wL L S i n):=by
 have hx:tabO S n∈S:=by unfold tabO; rw [List.getElem?_eq_getElem hn]; exact List.getElem_mem hn
 have hm:=h.made _ hx
 obtain ⟨c1,c2⟩:=h.ch _ hx
 have hv:=nextV_in L i (n:=3) (by omega)
 have hl:=atsG_len L (tabO S n) (nextV L i 3).toNat (i+1)
 have:=chkL_ok c2 (atsG_ok L hm (nextV L i 3).toNat (i+1))
 exact ⟨by unfold wL wA; omega,this.2⟩
theorem wA_le (L:List Int) (S:List Tb) (i n:Nat):(wA L S i n).2≤i+11:=by
 have hv:=nextV_in L i (n:=3) (by omega)
 have:=atsG_le L (tabO S n) (nextV L i 3).toNat (i+1)
 unfold wA; omega
theorem wQ_ok (L:List Int) {S:List Tb} (h:MadeS S) (R:WR) (i n:Nat) (hn:n<S.length):∀ x∈(wQ L S R i n).2,x.t.length≤10∧x.p.length≤10:=fun x hx=>by
 have h1:=regS_ok x hx
 have h2:=(wL_ok L h i n hn).len
 have hm:tabO S n∈S:=by unfold tabO; rw [List.getElem?_eq_getElem hn]; exact List.getElem_mem hn
 have h3:=(h.fill.fk _ hm).1
 have h4:(wP S R n).length=(tabO S n).fk.length:=by simp [wP]
 omega
theorem wstep_ok (L:List Int) {S:List Tb} (h:MadeS S) {A:WA} {R:WR} (i n:Nat) (hn:n<S.length) (w:WOk S A R) (hq:wBad (wQ L S R i n)=false) :
  WOk S (upd A n (some (wL L S i n))) (upd R n (some (wQ L S R i n).2)):=by
 unfold wBad at hq
 rw [Bool.or_eq_false_iff,decide_eq_false_iff_not,decide_eq_false_iff_not] at hq
 refine ⟨fun j l e=>?_,fun j r e=>?_⟩
 ·simp only [upd] at e
  split at e
  ·rename_i hj; subst hj; cases e; exact wL_ok L h i _ hn
  ·exact w.a j l e
 ·simp only [upd] at e
  split at e
  ·rename_i hj; subst hj; cases e; exact ⟨by omega,wQ_ok L h R i _ hn⟩
  ·exact w.r j r e
theorem worldG_ok (L:List Int) {S:List Tb} (h:MadeS S):∀ (l:List Int) (A:WA) (R:WR) (i:Nat),(∀ z∈l,0≤z∧z<S.length)→WOk S A R→(worldG L S l A R i).ok=true→WOk S (worldG L S l A R i).A (worldG L S l A R i).R
 | [],A,R,i,_,w,_=>w
 | z::zs,A,R,i,hz,w,ok=>by
   have h0:=hz z (List.mem_cons_self ..)
   rw [worldG] at ok ⊢
   split
   ·rename_i hb; rw [if_pos hb] at ok; cases ok
   ·rename_i hb
    rw [if_neg hb] at ok
    exact worldG_ok L h zs _ _ _ (fun q hq=>hz q (List.mem_cons_of_mem _ hq)) (wstep_ok L h i _ (by omega) w (by simpa using hb)) ok
def outL {α:Type} (f:Nat→Option (List α)) (N:Nat):List (List α):=seqF (fun j=>(f j).getD []) N
theorem outL_len {α:Type} (f:Nat→Option (List α)) (N:Nat):(outL f N).length=N:=seqF_len _ _
theorem outL_mem {α:Type} {f:Nat→Option (List α)} {N:Nat} {l:List α} (h:l∈outL f N):l=[]∨∃ j,f j=some l:=by
 obtain ⟨j,hj⟩:=List.mem_iff_getElem?.1 h
 unfold outL at hj
 rw [seqF_get] at hj
 split at hj
 ·simp only [Option.some.injEq] at hj
  cases e:f j with
  | none=>rw [e] at hj; exact .inl hj.symm
  | some q=>rw [e] at hj; simp only [Option.getD_some] at hj; subst hj; exact .inr ⟨j,e⟩
 ·cases hj
end Go.Proofs.Tryz
namespace Go.Proofs.Tryz
open Go.Ab
set_option maxRecDepth 100000
set_option maxHeartbeats 8000000
def celA (A:WA) (j:Nat):List AV:=match A j with | none=>[.nils] | some l=>[.d (.sl (l.map At.c))]
def celR (R:WR) (j:Nat):List AV:=match R j with | none=>[.nils] | some l=>[.d (.sl (l.map Rg.c))]
theorem celA_set {A:WA} {n N:Nat} {l:List At}:(seqF (celA A) N).set n [.d (.sl (l.map At.c))]=seqF (celA (upd A n (some l))) N:=by
 rw [seqF_set]
 refine seqF_congr fun j _=>?_
 by_cases h:j=n
 ·subst h; simp [celA,upd]
 ·simp [celA,upd,h]
theorem celR_set {R:WR} {n N:Nat} {l:List Rg}:(seqF (celR R) N).set n [.d (.sl (l.map Rg.c))]=seqF (celR (upd R n (some l))) N:=by
 rw [seqF_set]
 refine seqF_congr fun j _=>?_
 by_cases h:j=n
 ·subst h; simp [celR,upd]
 ·simp [celR,upd,h]
theorem celA_one (A:WA) (j:Nat):∃ c,celA A j=[c]:=by unfold celA; split <;> exact ⟨_,rfl⟩
theorem celR_one (A:WR) (j:Nat):∃ c,celR A j=[c]:=by unfold celR; split <;> exact ⟨_,rfl⟩
theorem cel_get {f:Nat→List AV} {N j:Nat} {c:AV} (h:j<N) (hc:f j=[c]):∀ hh,(seqF f N)[j]'hh=[c]:=fun hh=>by rw [gd_get h,hc]
theorem celA_zero {N:Nat}:seqF (celA fun _=>none) N=List.replicate N [.nils]:=by
 rw [seqF_rep]; exact seqF_congr fun j _=>by simp [celA]
theorem celR_zero {N:Nat}:seqF (celR fun _=>none) N=List.replicate N [.nils]:=by
 rw [seqF_rep]; exact seqF_congr fun j _=>by simp [celR]
theorem cv_celA {A:WA} {N:Nat} {r:Nat→Option Nat} {bl:Nat→Blk}:(seqF (celA A) N).map (fun x=>(cvAs r bl true x).1)=seqF (celA A) N:=by
 rw [seqF_map]
 refine seqF_congr fun j _=>?_
 unfold celA
 split <;> simp [cvAs,cvA]
theorem cv_celR {R:WR} {N:Nat} {r:Nat→Option Nat} {bl:Nat→Blk}:(seqF (celR R) N).map (fun x=>(cvAs r bl true x).1)=seqF (celR R) N:=by
 rw [seqF_map]
 refine seqF_congr fun j _=>?_
 unfold celR
 split <;> simp [cvAs,cvA]
def worldA (S:List Tb) (w:W):AV:=.tup [schA S,.d (.sl ((outL w.A S.length).map atD)),.d (.sl ((outL w.R S.length).map rgD)),.d (.bool w.ok)]
theorem sub_celA {E:Env} {N nb:Nat} {st:St} (n:Nat) {ety M:Nat} {A:WA} (hb:st.b n=.varr ety 1 (seqF (celA A) M)):Sub E N nb st { s:=st.s,b:=upd st.b n (.arr ety 1 ((outL A M).map atD) false) }:=by
 refine sub_dat n _ hb (by simp [outL_len]) fun i x y hx hy=>?_
 unfold outL at hy
 rw [seqF_map,seqF_get] at hy
 rw [seqF_get] at hx
 split at hx <;> simp only [Option.some.injEq,reduceCtorEq] at hx
 rename_i hi
 rw [if_pos hi,Option.some.injEq] at hy
 subst hx hy
 unfold celA
 cases A i with
 | none=>exact ⟨_,_,rfl,rfl,by simp [datC]⟩
 | some l=>exact ⟨_,_,rfl,rfl,by simp [datC]⟩
theorem sub_celR {E:Env} {N nb:Nat} {st:St} (n:Nat) {ety M:Nat} {R:WR} (hb:st.b n=.varr ety 1 (seqF (celR R) M)):Sub E N nb st { s:=st.s,b:=upd st.b n (.arr ety 1 ((outL R M).map rgD) false) }:=by
 refine sub_dat n _ hb (by simp [outL_len]) fun i x y hx hy=>?_
 unfold outL at hy
 rw [seqF_map,seqF_get] at hy
 rw [seqF_get] at hx
 split at hx <;> simp only [Option.some.injEq,reduceCtorEq] at hx
 rename_i hi
 rw [if_pos hi,Option.some.injEq] at hy
 subst hx hy
 unfold celR
 cases R i with
 | none=>exact ⟨_,_,rfl,rfl,by simp [datC]⟩
 | some l=>exact ⟨_,_,rfl,rfl,by simp [datC]⟩
end Go.Proofs.Tryz
namespace Go.Proofs.Tryz
open Go.Ab
set_option maxRecDepth 100000
set_option maxHeartbeats 1000000
structure AtsOk (l:List At):Prop where
 len:l.length≤12
 t:∀ a∈l,a.v.t.length≤200
 n:∀ a∈l,-maxI≤a.v.n∧a.v.n≤maxI
theorem allF_at {f:Nat→Bool}:∀ {m i:Nat},allF f m i=true→∀ j,i≤j→j<i+m→f j=true
 | 0,i,_,j,h1,h2=>by omega
 | m+1,i,h,j,h1,h2=>by
   rw [allF,Bool.and_eq_true] at h
   by_cases e:j=i
   ·subst e; exact h.1
   ·exact allF_at h.2 j (by omega) (by omega)
theorem suit_suits {x:Tb} {l:List At} (h:suitG x l=true):∀ a∈l,suitsG x a=true:=fun a ha=>by
 obtain ⟨j,hj,rfl⟩:=List.getElem_of_mem ha
 have:=allF_at h j (by omega) (by omega)
 unfold suitAt at this
 rw [List.getElem?_eq_getElem hj] at this
 simp only [Bool.and_eq_true] at this
 exact this.1
theorem valid_small {v:V} (h:v.valid=true):v.t.length≤200∧-maxI≤v.n∧v.n≤maxI:=by
 unfold maxI
 by_cases k0:v.k=0
 ·have:v.n=0∧v.t=[]:=by simpa [V.valid,k0] using h
  rw [this.1,this.2]; simp
 by_cases k1:v.k=1
 ·have:=num_valid h k1
  rw [this.2]; simp; omega
 by_cases k2:v.k=2
 ·have:(v.n=0∨v.n=1)∧v.t=[]:=by simpa [V.valid,k2] using h
  rw [this.2]; simp; omega
 by_cases k3:v.k=3
 ·have:=text_valid h k3
  omega
 ·simp [V.valid,k0,k1,k2,k3] at h
theorem suits_facts {x:Tb} {a:At} (h:suitsG x a=true):(a.v.t.length≤200∧-maxI≤a.v.n∧a.v.n≤maxI)∧(a.v.k=0∨a.v.k=typT x a.col):=by
 unfold suitsG at h
 simp only [Bool.and_eq_true,decide_eq_true_eq] at h
 obtain ⟨_,_,_,h⟩:=h
 have hz:V.beq a.v nulV=true→(a.v.t.length≤200∧-maxI≤a.v.n∧a.v.n≤maxI)∧(a.v.k=0∨a.v.k=typT x a.col):=fun e=>by
  rw [(V.beq_iff _ _).1 e]
  exact ⟨valid_small nul_valid,.inl rfl⟩
 split at h
 ·simp only [Bool.and_eq_true,beq_iff_eq] at h
  exact ⟨valid_small h.1,.inr h.2⟩
 split at h
 ·simp only [Bool.and_eq_true,beq_iff_eq] at h
  exact ⟨valid_small h.1,.inr (by rw [h.2.1,h.2.2])⟩
 split at h
 ·exact hz h
 split at h
 ·simp only [Bool.and_eq_true] at h
  exact hz h.1
 ·cases h
theorem suit_ats {x:Tb} {l:List At} (h:suitG x l=true) (hl:l.length≤12):AtsOk l :=
 ⟨hl,fun a ha=>(suits_facts (suit_suits h a ha)).1.1,fun a ha=>(suits_facts (suit_suits h a ha)).1.2⟩
end Go.Proofs.Tryz
namespace Go.Proofs.Tryz
open Go.Ab
set_option maxRecDepth 100000
set_option maxHeartbeats 1000000
theorem rowsG_row {L:List Int} {S:List Tb} {x:Tb} {T:Nat→List (List V)} {a:Nat}:∀ {k:Nat},∀ r∈rowsG L S x T a k,r.length=x.cols.length
 | 0,r,h=>by simp [rowsG] at h
 | k+1,r,h=>by
   rw [rowsG] at h
   rcases List.mem_append.1 h with h | h
   ·exact rowsG_row r h
   ·rw [List.mem_singleton] at h; subst h; exact rowG_len ..
theorem tabO_cols {S:List Tb} (h:FillOk S) (n:Nat):(tabO S n).cols.length≤20:=by
 unfold tabO
 cases hs:S[n]? with
 | none=>simp
 | some y=>exact h.cols y (List.mem_of_getElem? hs)
theorem fillG_row {L:List Int} {S:List Tb} (h:FillOk S) {most:Nat}:∀ (l:List Int) (y:(Nat→List (List V))×Nat),(∀ j,∀ r∈y.1 j,r.length≤20)→∀ j,∀ r∈(fillG L S most l y).1 j,r.length≤20
 | [],y,hy=>hy
 | z::l,y,hy=>by
   rw [fillG]
   refine fillG_row h l _ fun j r hr=>?_
   unfold stepG at hr
   simp only [upd] at hr
   split at hr
   ·rw [rowsG_row r hr]; exact tabO_cols h _
   ·exact hy j r hr
theorem good_ok (L:List Int) {S:List Tb} (h:FillOk S) (most a:Nat) (hm:most≤100):(goodG L S most a).1.length≤1000∧∀ t∈(goodG L S most a).1,t.length≤100∧∀ r∈t,r.length≤20:=by
 unfold goodG
 refine ⟨by simp only [seqF_len]; have:=h.few; omega,fun t ht=>?_⟩
 obtain ⟨j,hj⟩:=List.mem_iff_getElem?.1 ht
 simp only at hj
 rw [seqF_get] at hj
 split at hj
 ·simp only [Option.some.injEq] at hj
  subst hj
  unfold fillT
  refine ⟨?_,fun r hr=>fillG_row h _ (fun _=>[],a) (by simp) _ r hr⟩
  have:=fillG_rows (L:=L) (S:=S) (most:=most) ((ordS S).1.take (ordS S).1.length) (fun _=>[],a) (fun _=>by simp) j
  omega
 ·cases hj
end Go.Proofs.Tryz
