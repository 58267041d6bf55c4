import Derived.Test.YtklnfckiabhceaaGreatDoorKSml
import Derived.Test.YtklnfckiabhceaaGreatDoorKGoo
import Derived.Test.YtklnfckiabhceaaGreatDoorKIto
import Derived.Test.YtklnfckiabhceaaGreatDoorKOdr
import Derived.Test.YtklnfckiabhceaaGreatDoorOfy
set_option linter.all false
namespace Go.Proofs.Tryz
open Go.Ab
set_option maxRecDepth 100000
set_option maxHeartbeats 2000000
theorem constOf_val {v:V} (hv:v.valid=true) (hk:v.k=1∨v.k=2∨v.k=3) (row:List V):evalV (constOf v 0) row=v:=by
 obtain ⟨k,n,t⟩:=v
 simp only at hk
 rcases hk with rfl | rfl | rfl
 ·have:=(num_valid hv rfl).2
  simp only at this
  subst this
  simp [constOf,evalV,cntd,isOp,opOf,ops]
 ·have:t=[]:=by simp [V.valid] at hv; exact hv.2
  subst this
  simp [constOf,evalV,cntd,isOp,opOf,ops]
 ·have:=(text_valid hv rfl).1
  simp only at this
  subst this
  simp [constOf,evalV,cntd,isOp,opOf,ops]
theorem ev_col (w:V):evalV (colX 0) [w]=w:=by simp [colX,evalV,cntd,isOp,opOf,ops]
theorem tr_null {a:At} (h:a.op=21) (w:V):a.tr w=if w.k=0 then 1 else 0:=by
 unfold At.tr At.zero At.ex
 simp only [h]
 rw [if_neg (by decide),if_pos trivial]
 simp [evalV,evalAll,ev_col,cntd,isOp,opOf,ops,applyV,at0,ofV]
 by_cases e:w.k=0 <;> simp [e,V.tr]
theorem tr_bool {a:At} (h:a.op=5) (w:V):a.tr w=w.tr:=by
 unfold At.tr At.zero At.ex
 simp only [h]
 rw [if_pos trivial,ev_col]
theorem tr_cmp {a:At} (h:14≤a.op∧a.op≤19) (hv:a.v.valid=true) (hk:a.v.k=1∨a.v.k=2∨a.v.k=3) (w:V) :
  a.tr w=(applyV a.op [w,a.v]).tr:=by
 unfold At.tr At.zero At.ex
 simp only
 rw [if_neg (by omega),if_neg (by omega)]
 have hc:=constOf_val hv hk [w]
 have hcn:cntd a.op 2=true:=by
  rcases (by omega:a.op=14∨a.op=15∨a.op=16∨a.op=17∨a.op=18∨a.op=19) with e | e | e | e | e | e <;> rw [e] <;> rfl
 rw [evalV]
 simp only [List.length_cons,List.length_nil,Nat.zero_add,Nat.reduceAdd]
 rw [if_pos hcn,if_neg (by omega),if_neg (by omega),if_neg (by omega),if_neg (by omega),if_neg (by omega)]
 simp only [evalAll,ev_col,hc]
theorem app_congr {o:Int} (h:14≤o∧o≤19) {w w' v:V} (hk:w.k=w'.k) (hc:w.cmp v=w'.cmp v):applyV o [w,v]=applyV o [w',v]:=by
 have hs:w.same v=w'.same v:=by rw [V.same_cmp,V.same_cmp,hc]
 have hn:v.cmp w=v.cmp w':=by rw [V.cmp_neg w v,V.cmp_neg w' v,hc]
 rcases (by omega:o=14∨o=15∨o=16∨o=17∨o=18∨o=19) with rfl | rfl | rfl | rfl | rfl | rfl <;> simp [applyV,at0,at1,eqV,lessV,hk,hs,hc,hn]
theorem app_same {o:Int} (h:o=14∨o=15) {w w' v:V} (hk:w.k=w'.k) (hc:w.same v=w'.same v):applyV o [w,v]=applyV o [w',v]:=by
 rcases h with rfl | rfl <;> simp [applyV,at0,at1,eqV,hk,hc]
def num (n:Int):V:=⟨1,n,[]⟩
theorem num_cmp (a b:Int):(num a).cmp (num b)=cmpI a b:=by
 rw [V.cmp_def]
 simp only [num,cmpI_self]
 have:cmpS [] []=0:=by decide
 rw [this]
 by_cases h:cmpI a b=0 <;> simp [h]
theorem goI_rep:∀ (l:List Int) (n:Int),l.Pairwise (·<·)→n≤maxI→(∃ h∈l.head?,h≤n)→∃ m,num m∈goI (l.map num)∧(∀ h∈l.head?,h≤m)∧∀ z∈l,cmpI n z=cmpI m z
 | [],n,_,_,h=>by obtain ⟨_,h,_⟩:=h; simp at h
 | [v],n,_,hn,h=>by
   have hv:v≤n:=by simpa using h
   by_cases e:n=v
   ·subst e
    refine ⟨n,by simp [goI,num]; split <;> simp,by simp,by simp⟩
   ·have h1:v+1≤maxI:=by omega
    refine ⟨v+1,by simp [goI,num,h1],by simp; omega,?_⟩
    intro z hz
    simp at hz
    subst hz
    unfold cmpI
    rw [if_neg (by omega),if_pos (by omega),if_neg (by omega),if_pos (by omega)]
 | v::u::l,n,hp,hn,h=>by
   have hv:v≤n:=by simpa using h
   have hp':=List.pairwise_cons.1 hp
   have hvu:v<u:=hp'.1 u List.mem_cons_self
   by_cases hu:u≤n
   ·obtain ⟨m,h1,h2,h3⟩:=goI_rep (u::l) n hp'.2 hn ⟨u,by simp,hu⟩
    have hum:u≤m:=h2 u (by simp)
    refine ⟨m,?_,by simp; omega,fun z hz=>?_⟩
    ·rw [List.map_cons,List.map_cons] at *
     rw [goI]
     exact List.mem_append_right _ h1
    ·rcases List.mem_cons.1 hz with rfl | hz
     ·unfold cmpI
      rw [if_neg (by omega),if_pos (by omega),if_neg (by omega),if_pos (by omega)]
     ·exact h3 z hz
   ·have hrest:∀ z∈u::l,u≤z:=fun z hz=>by
     rcases List.mem_cons.1 hz with rfl | hz
     ·exact Int.le_refl _
     ·exact Int.le_of_lt ((List.pairwise_cons.1 hp'.2).1 z hz)
    by_cases e:n=v
    ·subst e
     refine ⟨n,?_,by simp,fun _ _=>rfl⟩
     rw [List.map_cons,List.map_cons,goI]
     apply List.mem_append_left
     split <;> simp [num]
    ·have h1:v+1≤maxI:=by omega
     refine ⟨v+1,?_,by simp; omega,fun z hz=>?_⟩
     ·rw [List.map_cons,List.map_cons,goI]
      apply List.mem_append_left
      rw [if_pos ⟨h1,by simp [num]; omega⟩]
      simp [num]
     ·rcases List.mem_cons.1 hz with rfl | hz
      ·unfold cmpI
       rw [if_neg (by omega),if_pos (by omega),if_neg (by omega),if_pos (by omega)]
      ·have:=hrest z hz
       unfold cmpI
       rw [if_pos (by omega),if_pos (by omega)]
theorem genI_rep (l:List Int) (n:Int) (hp:l.Pairwise (·<·)) (h1:-maxI≤n) (h2:n≤maxI):∃ m,num m∈genI (l.map num)∧∀ z∈l,cmpI n z=cmpI m z:=by
 cases l with
 | nil=>exact ⟨-maxI,by simp [genI,num],by simp⟩
 | cons v r =>
   by_cases hv:v≤n
   ·obtain ⟨m,a,_,b⟩:=goI_rep (v::r) n hp h2 ⟨v,by simp,hv⟩
    exact ⟨m,List.mem_append_right _ a,b⟩
   ·refine ⟨-maxI,?_,fun z hz=>?_⟩
    ·unfold genI
     apply List.mem_append_left
     simp only [List.map_cons]
     rw [if_pos (by simp [num]; omega)]
     simp [num]
    ·have hz':v≤z:=by
      rcases List.mem_cons.1 hz with rfl | hz
      ·exact Int.le_refl _
      ·exact Int.le_of_lt ((List.pairwise_cons.1 hp).1 z hz)
     unfold cmpI
     rw [if_pos (by omega),if_pos (by omega)]
theorem consts_nums {l:List At} (h:∀ a∈l,a.v.k=0∨(a.v.k=1∧a.v.valid=true)):∃ ns:List Int,ns.Pairwise (·<·)∧constsG l=ns.map num:=by
 have hm:∀ v∈constsG l,v=num v.n:=fun v hv=>by
  obtain ⟨a,ha,hav⟩:=consts_mem hv
  have hk0:v.k ≠ 0:=by
   unfold constsG at hv
   rw [sortD_mem,List.mem_map] at hv
   obtain ⟨b,hb,rfl⟩:=hv
   have:=(List.mem_filter.1 hb).2
   simpa using this
  rcases h a ha with h1 | ⟨h1,h2⟩
  ·rw [hav] at h1; exact absurd h1 hk0
  ·rw [hav] at h1 h2
   have:=(num_valid h2 h1).2
   obtain ⟨k,n,t⟩:=v
   simp only at h1 this
   subst h1 this
   rfl
 refine ⟨(constsG l).map V.n,?_,?_⟩
 ·have hs:(constsG l).Pairwise V.lt:=sortD_sorted _
  rw [List.pairwise_map]
  refine hs.imp_of_mem fun {a b} ha hb hab=>?_
  unfold V.lt at hab
  rw [hm a ha,hm b hb,num_cmp] at hab
  have:=cmpI_cases a.n b.n
  omega
 ·rw [List.map_map]
  conv=>lhs; rw [← List.map_id (constsG l)]
  exact List.map_congr_left fun v hv=>hm v hv
theorem rep {x:Tb} {A:List At} (hA:∀ a∈A,AtOk x a) {c:Int} {t:Int} (ht:typT x c=t) (hc:∀ a∈A,a.col=c) (hk:t=1∨t=2∨t=3) (nb:Bool) {w:V} (hv:w.valid=true) (hw:w.k=t∨(nb=true∧w=nulV)) :
  ∃ v∈genC t nb (constsG A),trsG A v=trsG A w:=by
 rcases hw with hw | ⟨rfl,rfl⟩
 ·have hkind:∀ a∈A,(a.op=21∧a.v=nulV)∨(t=1∧14≤a.op∧a.op≤19∧a.v.k=1)∨(t=2∧a.op=5∧a.v=nulV)∨(t=2∧(a.op=14∨a.op=15)∧a.v.k=2)∨(t=3∧(a.op=14∨a.op=15)∧a.v.k=3):=fun a ha=>by
   have:=(hA a ha).kind
   rwa [hc a ha,ht] at this
  rcases hk with rfl | rfl | rfl
  ·obtain ⟨ns,hp,hns⟩:=consts_nums (l:=A) fun a ha=>by
    rcases hkind a ha with k | k | k | k | k
    ·exact .inl (by rw [k.2]; rfl)
    ·exact .inr ⟨k.2.2.2,(hA a ha).val⟩
    ·exact absurd k.1 (by decide)
    ·exact absurd k.1 (by decide)
    ·exact absurd k.1 (by decide)
   obtain ⟨⟨b1,b2⟩,b3⟩:=num_valid hv hw
   have hwn:w=num w.n:=by obtain ⟨k,n,tt⟩:=w; simp only at hw b3; subst hw b3; rfl
   obtain ⟨m,hm,hcm⟩:=genI_rep ns w.n hp (by simp only [maxI]; omega) (by simp only [maxI]; omega)
   refine ⟨num m,?_,?_⟩
   ·unfold genC
    rw [if_pos rfl,hns]
    exact List.mem_append_left _ hm
   ·unfold trsG
    refine List.map_congr_left fun a ha=>?_
    rcases hkind a ha with k | k | k | k | k
    ·rw [tr_null k.1,tr_null k.1,hw]; rfl
    ·have hval:=(hA a ha).val
     rw [tr_cmp ⟨k.2.1,k.2.2.1⟩ hval (.inl k.2.2.2),tr_cmp ⟨k.2.1,k.2.2.1⟩ hval (.inl k.2.2.2)]
     have hin:a.v∈constsG A:=by
      unfold constsG
      rw [sortD_mem,List.mem_map]
      exact ⟨a,List.mem_filter.2 ⟨ha,by rw [k.2.2.2]; decide⟩,rfl⟩
     rw [hns,List.mem_map] at hin
     obtain ⟨z,hz,hza⟩:=hin
     rw [app_congr ⟨k.2.1,k.2.2.1⟩ (w:=num m) (w':=w) (by rw [hw]; rfl)]
     rw [← hza,hwn,num_cmp,num_cmp]
     exact (hcm z hz).symm
    ·exact absurd k.1 (by decide)
    ·exact absurd k.1 (by decide)
    ·exact absurd k.1 (by decide)
  ·refine ⟨w,?_,rfl⟩
   obtain ⟨k,n,tt⟩:=w
   simp only at hw
   subst hw
   simp [V.valid] at hv
   obtain ⟨h1,rfl⟩:=hv
   unfold genC
   rw [if_neg (by decide),if_pos rfl]
   apply List.mem_append_left
   rcases h1 with rfl | rfl <;> simp
  ·by_cases hin:w∈constsG A
   ·refine ⟨w,?_,rfl⟩
    unfold genC
    rw [if_neg (by decide),if_neg (by decide),if_pos rfl]
    exact List.mem_append_left _ (List.mem_append_left _ hin)
   ·have hfr:frN (constsG A)=0:=fr_zero fun v hv=>by
     obtain ⟨a,ha,rfl⟩:=consts_mem hv
     exact (hA a ha).no0
    refine ⟨⟨3,0,[48]⟩,?_,?_⟩
    ·unfold genC
     rw [if_neg (by decide),if_neg (by decide),if_pos rfl,hfr]
     exact List.mem_append_left _ (List.mem_append_right _ List.mem_cons_self)
    ·unfold trsG
     refine List.map_congr_left fun a ha=>?_
     rcases hkind a ha with k | k | k | k | k
     ·rw [tr_null k.1,tr_null k.1,hw]
     ·exact absurd k.1 (by decide)
     ·exact absurd k.1 (by decide)
     ·exact absurd k.1 (by decide)
     ·have hval:=(hA a ha).val
      have ho:14≤a.op∧a.op≤19:=by omega
      rw [tr_cmp ho hval (.inr (.inr k.2.2)),tr_cmp ho hval (.inr (.inr k.2.2))]
      have hav:a.v∈constsG A:=by
       unfold constsG
       rw [sortD_mem,List.mem_map]
       exact ⟨a,List.mem_filter.2 ⟨ha,by rw [k.2.2]; decide⟩,rfl⟩
      have n1:w.same a.v=false:=by
       rw [V.same_cmp,beq_eq_false_iff_ne]
       intro e
       exact hin (by rw [V.cmp_eq e]; exact hav)
      have n2:V.same ⟨3,0,[48]⟩ a.v=false:=by
       rw [V.same_cmp,beq_eq_false_iff_ne]
       intro e
       exact (hA a ha).no0 (by rw [← V.cmp_eq e])
      rw [app_same k.2.1 (w:=⟨3,0,[48]⟩) (w':=w) (by rw [hw]) (by rw [n1,n2])]
 ·refine ⟨nulV,?_,rfl⟩
  unfold genC
  rw [if_pos rfl]
  exact List.mem_append_right _ List.mem_cons_self
theorem dist_spec (f:V→List Int):∀ (C O:List V),O.Pairwise (fun u v=>f u ≠ f v)→(distG f O C).Pairwise (fun u v=>f u ≠ f v)∧(∀ v∈O,v∈distG f O C)∧∀ v∈C,∃ u∈distG f O C,f u=f v
 | [],O,h=>⟨h,fun v hv=>hv,fun v hv=>by cases hv⟩
 | v::C,O,h=>by
   rw [distG]
   by_cases ha:(O.any fun u=>f u==f v)=true
   ·rw [if_pos ha]
    obtain ⟨a,b,c⟩:=dist_spec f C O h
    refine ⟨a,b,fun w hw=>?_⟩
    rcases List.mem_cons.1 hw with rfl | hw
    ·obtain ⟨u,hu,e⟩:=List.any_eq_true.1 ha
     exact ⟨u,b u hu,by simpa using e⟩
    ·exact c w hw
   ·rw [if_neg ha]
    have hO:(O++[v]).Pairwise (fun u v=>f u ≠ f v):=by
     rw [List.pairwise_append]
     refine ⟨h,by simp,fun u hu w hw=>?_⟩
     simp at hw
     subst hw
     intro e
     exact ha (List.any_eq_true.2 ⟨u,hu,by simpa using e⟩)
    obtain ⟨a,b,c⟩:=dist_spec f C (O++[v]) hO
    refine ⟨a,fun u hu=>b u (List.mem_append_left _ hu),fun w hw=>?_⟩
    rcases List.mem_cons.1 hw with rfl | hw
    ·exact ⟨w,b w (by simp),rfl⟩
    ·exact c w hw
end Go.Proofs.Tryz
namespace Go.Proofs.Tryz
open Go.Ab
set_option maxRecDepth 100000
set_option maxHeartbeats 1000000
theorem At.cmp_cases (a b:At):(a.cmp b<0∧(a.col<b.col∨a.col=b.col∧(a.op<b.op∨a.op=b.op∧a.v.cmp b.v<0)))∨(a.cmp b=0∧a=b)∨(0<a.cmp b∧(b.col<a.col∨b.col=a.col∧(b.op<a.op∨b.op=a.op∧b.v.cmp a.v<0))):=by
 have hv:=V.cmp_neg a.v b.v
 have he:=fun h=>V.cmp_eq (v:=a.v) (u:=b.v) h
 obtain ⟨c1,o1,v1⟩:=a
 obtain ⟨c2,o2,v2⟩:=b
 unfold At.cmp
 simp only at *
 split
 ·left; exact ⟨by omega,by omega⟩
 split
 ·right; right; exact ⟨by omega,by omega⟩
 split
 ·left; exact ⟨by omega,by omega⟩
 split
 ·right; right; exact ⟨by omega,by omega⟩
 have e1:c1=c2:=by omega
 have e2:o1=o2:=by omega
 subst e1 e2
 rcases (by omega:v1.cmp v2<0∨v1.cmp v2=0∨0<v1.cmp v2) with h | h | h
 ·left; exact ⟨h,by omega⟩
 ·right; left; refine ⟨h,?_⟩; rw [he h]
 ·right; right; exact ⟨h,by omega⟩
def At.lt (a b:At):Prop:=a.cmp b<0
theorem At.lt_iff (a b:At):a.lt b↔(a.col<b.col∨a.col=b.col∧(a.op<b.op∨a.op=b.op∧a.v.cmp b.v<0)):=by
 unfold At.lt
 have h:=At.cmp_cases a b
 constructor
 ·intro h0
  rcases h with h | h | h
  ·exact h.2
  ·omega
  ·omega
 ·intro h0
  rcases h with h | h | h
  ·exact h.1
  ·exfalso
   rw [h.2] at h0
   have:=V.cmp_self b.v
   omega
  ·exfalso
   have:=V.cmp_neg a.v b.v
   omega
theorem At.lt_trans {a b c:At} (h1:a.lt b) (h2:b.lt c):a.lt c:=by
 rw [At.lt_iff] at *
 rcases h1 with h1 | ⟨e1,h1⟩
 ·rcases h2 with h2 | ⟨e2,h2⟩
  ·exact .inl (by omega)
  ·exact .inl (by omega)
 ·rcases h2 with h2 | ⟨e2,h2⟩
  ·exact .inl (by omega)
  ·refine .inr ⟨by omega,?_⟩
   rcases h1 with h1 | ⟨f1,h1⟩
   ·rcases h2 with h2 | ⟨f2,h2⟩
    ·exact .inl (by omega)
    ·exact .inl (by omega)
   ·rcases h2 with h2 | ⟨f2,h2⟩
    ·exact .inl (by omega)
    ·exact .inr ⟨by omega,V.lt_trans h1 h2⟩
theorem insA_cons (u:At) (us:List At) (a:At):insA (u::us) a=if u.cmp a<0 then u::insA us a else if u.cmp a=0 then u::us else a::u::us:=by
 by_cases h:u.cmp a<0
 ·have hh:hitA a (u::us)=hitA a us:=by
   unfold hitA
   rw [posA,if_pos h,List.getElem?_cons_succ]
  unfold insA
  rw [hh,posA,if_pos h,if_pos h]
  cases hitA a us <;> simp
 ·have hh:hitA a (u::us)=(u.cmp a==0):=by
   unfold hitA
   rw [posA,if_neg h,List.getElem?_cons_zero]
  unfold insA
  rw [hh,posA,if_neg h,if_neg h]
  by_cases h0:u.cmp a=0
  ·simp [h0]
  ·simp [h0]
theorem insA_sorted (a:At):∀ l:List At,l.Pairwise At.lt→(insA l a).Pairwise At.lt
 | [],_=>by simp [insA,hitA,posA]
 | u::us,h=>by
   obtain ⟨h1,h2⟩:=List.pairwise_cons.1 h
   rw [insA_cons]
   split
   ·rename_i hu
    refine List.pairwise_cons.2 ⟨fun x hx=>?_,insA_sorted a us h2⟩
    rcases insA_mem hx with rfl | hx
    ·exact hu
    ·exact h1 x hx
   ·split
    ·exact h
    ·rename_i hu hne
     have hau:a.lt u:=by
      rw [At.lt_iff]
      rcases At.cmp_cases u a with c | c | c
      ·omega
      ·omega
      ·exact c.2
     refine List.pairwise_cons.2 ⟨fun x hx=>?_,h⟩
     rcases List.mem_cons.1 hx with rfl | hx
     ·exact hau
     ·exact At.lt_trans hau (h1 x hx)
theorem atsG_sorted (L:List Int) (x:Tb):∀ n i,(atsG L x n i).1.Pairwise At.lt
 | 0,i=>.nil
 | n+1,i=>insA_sorted _ _ (atsG_sorted L x n i)
theorem allF_all {f:Nat→Bool}:∀ {m i:Nat},(∀ j,f j=true)→allF f m i=true
 | 0,i,h=>rfl
 | m+1,i,h=>by rw [allF,h i,allF_all h]; rfl
theorem suits_at {x:Tb} {a:At} (h:AtOk x a):suitsG x a=true:=by
 unfold suitsG
 have h1:=h.col
 have hv:=h.val
 rw [h.key,hv]
 simp only [h1.1,h1.2,decide_true,Bool.not_false,Bool.true_and]
 rcases h.kind with k | k | k | k | k
 ·rw [k.1,k.2]; rfl
 ·obtain ⟨k1,k2,k3,k4⟩:=k
  rw [k1,k4]
  split
  ·rfl
  split
  ·rfl
  ·exfalso; omega
 ·rw [k.1,k.2.1,k.2.2]; rfl
 ·obtain ⟨k1,k2,k4⟩:=k
  rw [k1,k4,if_pos k2]; rfl
 ·obtain ⟨k1,k2,k4⟩:=k
  rw [k1,k4,if_pos k2]; rfl
theorem suit_ok {x:Tb} {l:List At} (h:∀ a∈l,AtOk x a) (hp:l.Pairwise At.lt):suitG x l=true:=by
 unfold suitG
 refine allF_all fun j=>?_
 unfold suitAt
 cases hj:l[j]? with
 | none=>rfl
 | some a =>
   simp only
   rw [suits_at (h a (List.mem_of_getElem? hj)),Bool.true_and]
   cases j with
   | zero=>rfl
   | succ k =>
     simp only
     obtain ⟨hk,e⟩:=List.getElem?_eq_some_iff.1 hj
     rw [List.getElem?_eq_getElem (show k<l.length by omega)]
     simp only [decide_eq_true_eq]
     have:=List.pairwise_iff_getElem.1 hp k (k+1) (by omega) hk (by omega)
     rw [e] at this
     exact this
theorem ev_row {c:Int} {row:List V} {v:V} (h0:0≤c) (hr:row[c.toNat]?=some v):evalV (colX c) row=v:=by
 obtain ⟨hl,hv⟩:=List.getElem?_eq_some_iff.1 hr
 have hc:0≤c∧c<row.length:=by omega
 simp [colX,evalV,cntd,isOp,opOf,ops,hc,hv]
theorem ex_row {x:Tb} {a:At} (h:AtOk x a) {row:List V} {v:V} (hr:row[a.col.toNat]?=some v):(evalV a.ex row).tr=a.tr v:=by
 have hc:=ev_row h.col.1 hr
 have hz:=ev_col v
 have hval:=h.val
 have hcase:(a.op=21)∨(a.op=5)∨(14≤a.op∧a.op≤19∧(a.v.k=1∨a.v.k=2∨a.v.k=3)):=by
  rcases h.kind with k | k | k | k | k
  ·exact .inl k.1
  ·exact .inr (.inr ⟨k.2.1,k.2.2.1,.inl k.2.2.2⟩)
  ·exact .inr (.inl k.2.1)
  ·exact .inr (.inr ⟨by omega,by omega,.inr (.inl k.2.2)⟩)
  ·exact .inr (.inr ⟨by omega,by omega,.inr (.inr k.2.2)⟩)
 rcases hcase with k | k | ⟨k1,k2,k3⟩
 ·rw [tr_null k]
  unfold At.ex
  rw [if_neg (by omega),if_pos k]
  simp [evalV,evalAll,hc,cntd,isOp,opOf,ops,applyV,at0,ofV]
  by_cases e:v.k=0 <;> simp [e,V.tr]
 ·rw [tr_bool k]
  unfold At.ex
  rw [if_pos k,hc]
 ·rw [tr_cmp ⟨k1,k2⟩ hval k3]
  unfold At.ex
  rw [if_neg (by omega),if_neg (by omega)]
  have hcv:=constOf_val hval k3 row
  have hcn:cntd a.op 2=true:=by
   rcases (by omega:a.op=14∨a.op=15∨a.op=16∨a.op=17∨a.op=18∨a.op=19) with e | e | e | e | e | e <;> rw [e] <;> rfl
  rw [evalV]
  simp only [List.length_cons,List.length_nil,Nat.zero_add,Nat.reduceAdd]
  rw [if_pos hcn,if_neg (by omega),if_neg (by omega),if_neg (by omega),if_neg (by omega),if_neg (by omega)]
  simp only [evalAll,hc,hcv]
def ValOk (x:Tb) (c:Nat) (v:V):Prop:=v.valid=true∧(v.k=(colO x c).t∨((colO x c).b=true∧v=nulV))
theorem typT_col {x:Tb} {c:Nat} (h:c<x.cols.length):typT x c=(colO x c).t:=by
 unfold typT colO
 rw [Int.toNat_natCast,List.getElem?_eq_getElem h]
 rfl
theorem cls_rep {x:Tb} {l:List At} (hl:∀ a∈l,AtOk x a) {c:Nat} (hc:c<x.cols.length) (hk:keyT x c=false) (ht:(colO x c).t=1∨(colO x c).t=2∨(colO x c).t=3) {v:V} (hv:ValOk x c v) :
  ∃ u∈clsR x l c,∀ a∈l,a.col=c→a.tr u=a.tr v:=by
 unfold clsR
 rw [hk,if_neg (by simp)]
 unfold classesG
 obtain ⟨_,_,d⟩:=dist_spec (trsG (aboutG c l)) (genC (colO x c).t (colO x c).b (constsG (aboutG c l))) [] .nil
 obtain ⟨w,hw1,hw2⟩:=rep (A:=aboutG c l) (fun a ha=>hl a (about_mem ha).1) (typT_col hc) (fun a ha=>(about_mem ha).2) ht (colO x c).b hv.1 hv.2
 obtain ⟨u,hu1,hu2⟩:=d w hw1
 refine ⟨u,hu1,fun a ha hac=>?_⟩
 have he:trsG (aboutG c l) u=trsG (aboutG c l) v:=by rw [hu2,hw2]
 unfold trsG at he
 have hm:a∈aboutG (c:Int) l:=List.mem_filter.2 ⟨ha,by simpa using hac⟩
 exact List.map_inj_left.1 he a hm
theorem rows_rep {f:Nat→List V} {C:Nat} (g:Nat→V):∀ {m c:Nat} {R T:List (List V)} {r:List V},rowsR f m c R=some T→r∈R→r.length=C→c+m=C→(∀ j,c≤j→j<C→g j∈f j)→(∀ j,j<c→r[j]?=some (g j))→∃ q∈T,q.length=C∧∀ j,j<C→q[j]?=some (g j)
 | 0,c,R,T,r,e,hr,hrl,hcm,_,hp=>by
   rw [rowsR,Option.some.injEq] at e
   subst e
   exact ⟨r,hr,hrl,fun j hj=>hp j (by omega)⟩
 | m+1,c,R,T,r,e,hr,hrl,hcm,hg,hp=>by
   rw [rowsR] at e
   split at e
   ·cases e
   ·refine rows_rep g e (r:=r.set c (g c)) ?_ (by rw [List.length_set]; exact hrl) (by omega) (fun j h1 h2=>hg j (by omega) h2) fun j hj=>?_
    ·unfold mulR
     exact List.mem_flatMap.2 ⟨r,hr,List.mem_map.2 ⟨g c,hg c (by omega) (by omega),rfl⟩⟩
    ·by_cases hjc:j=c
     ·subst hjc
      rw [List.getElem?_set_self (by omega)]
     ·rw [List.getElem?_set_ne (by omega)]
      exact hp j (by omega)
theorem ownS_has {l:List At} {O:List Rg} {r:List V}:(∀ o∈O,o∈ownS [] l O r)∧∃ o∈ownS [] l O r,o.t=trG r l:=by
 unfold ownS fineR
 rw [List.all_nil,Bool.true_and]
 cases h:O.any fun o=>o.t==trG r l with
 | true =>
   rw [if_neg (by simp)]
   obtain ⟨o,ho,e⟩:=List.any_eq_true.1 h
   exact ⟨fun o h=>h,o,ho,by simpa using e⟩
 | false =>
   rw [if_pos (by simp)]
   exact ⟨fun o h=>List.mem_append_left _ h,_,List.mem_append_right _ (List.mem_singleton.2 rfl),rfl⟩
theorem ownG_has {l:List At}:∀ {R:List (List V)} {O:List Rg},(∀ o∈O,o∈ownG [] l R O)∧∀ r∈R,∃ o∈ownG [] l R O,o.t=trG r l
 | [],O=>⟨fun o h=>h,fun r h=>by cases h⟩
 | r::R,O=>by
   rw [ownG]
   obtain ⟨h1,o,h2,h3⟩:=ownS_has (l:=l) (O:=O) (r:=r)
   obtain ⟨g1,g2⟩:=ownG_has (l:=l) (R:=R) (O:=ownS [] l O r)
   refine ⟨fun o h=>g1 o (h1 o h),fun q hq=>?_⟩
   rcases List.mem_cons.1 hq with rfl | hq
   ·exact ⟨o,g1 o h2,h3⟩
   ·exact g2 q hq
theorem ownG_tr {ch:List Ex} {l:List At}:∀ {R:List (List V)} {O:List Rg},(∀ o∈O,o.t=trG o.s l)→∀ o∈ownG ch l R O,o.t=trG o.s l
 | [],O,h=>h
 | r::R,O,h=>by
   rw [ownG]
   refine ownG_tr fun o ho=>?_
   unfold ownS at ho
   split at ho
   ·rcases List.mem_append.1 ho with ho | ho
    ·exact h o ho
    ·rw [List.mem_singleton] at ho; subst ho; rfl
   ·exact h o ho
theorem crossG_tr {l:List At}:∀ {P:List (List Rg)} {O:List Rg},(∀ o∈O,o.t=trG o.s l)→∀ o∈crossG O P,o.t=trG o.s l
 | [],O,h=>h
 | p::P,O,h=>by
   rw [crossG]
   refine crossG_tr fun o ho=>?_
   unfold mulP at ho
   obtain ⟨q,hq,ho⟩:=List.mem_flatMap.1 ho
   obtain ⟨j,_,rfl⟩:=upL_mem ho
   exact h q hq
theorem upL_has {α:Type} (f:Nat→α) {k j:Nat} (h:j<k):f j∈upL f k:=by
 rw [List.mem_iff_getElem?]
 exact ⟨j,by rw [upL_get,if_pos h]⟩
def Picks:List Int→List (List Rg)→Prop
 | [],[]=>True
 | k::ks,p::P=>(0≤k∧k<p.length)∧Picks ks P
 | _,_=>False
theorem crossG_has:∀ {P:List (List Rg)} {O:List Rg} {o:Rg} {ks:List Int},o∈O→Picks ks P→∃ u∈crossG O P,u.t=o.t∧u.p=o.p++ks
 | [],O,o,[],ho,_=>⟨o,ho,rfl,by simp⟩
 | [],O,o,k::ks,ho,h=>by cases h
 | p::P,O,o,[],ho,h=>by cases h
 | p::P,O,o,k::ks,ho,h=>by
   rw [crossG]
   obtain ⟨⟨h0,h1⟩,h2⟩:=h
   obtain ⟨j,rfl⟩:∃ j:Nat,k=j:=⟨k.toNat,by omega⟩
   obtain ⟨u,hu,e1,e2⟩:=crossG_has (P:=P) (O:=mulP p.length O) (o:=o.add j) (ks:=ks) (by
    unfold mulP
    exact List.mem_flatMap.2 ⟨o,ho,upL_has o.add (by omega)⟩) h2
   exact ⟨u,hu,e1,by rw [e2]; simp [Rg.add]⟩
theorem picks_zero:∀ {P:List (List Rg)},emptyP P=false→∃ ks,Picks ks P
 | [],_=>⟨[],trivial⟩
 | p::P,h=>by
   unfold emptyP at h
   rw [List.any_cons,Bool.or_eq_false_iff] at h
   obtain ⟨ks,hk⟩:=picks_zero (P:=P) h.2
   have:¬ p.length=0:=by simpa using h.1
   exact ⟨0::ks,⟨by omega,by omega⟩,hk⟩
structure RegOk (x:Tb) (l:List At) (P:List (List Rg)) (q:Int×List Rg):Prop where
 err:q.1=0∨q.1=8
 tr:∀ o∈q.2,o.t=trG o.s l∧o.t.length=l.length∧o.s.length=x.cols.length
 par:∀ o∈q.2,o.p.length=P.length
 pos:q.1=0→0<q.2.length
 has:q.1=0→∀ row:List V,row.length=x.cols.length→(∀ c,c<x.cols.length→keyT x c=false→∀ v,row[c]?=some v→ValOk x c v)→∀ ks,Picks ks P→∃ o∈q.2,o.t=trG row l∧o.p=ks
theorem nul_ok (x:Tb) (c:Nat) (ht:(colO x c).t=1∨(colO x c).t=2∨(colO x c).t=3):∃ v,ValOk x c v:=by
 unfold ValOk
 rcases ht with h | h | h <;> rw [h]
 ·exact ⟨⟨1,0,[]⟩,by decide,.inl rfl⟩
 ·exact ⟨⟨2,0,[]⟩,by decide,.inl rfl⟩
 ·exact ⟨⟨3,0,[]⟩,by decide,.inl rfl⟩
theorem regG_ok {x:Tb} (hx:x.ch=[]) {l:List At} (hl:∀ a∈l,AtOk x a) (ht:∀ c,c<x.cols.length→(colO x c).t=1∨(colO x c).t=2∨(colO x c).t=3) {P:List (List Rg)} (hP:emptyP P=false) :
  RegOk x l P (regG x l P):=by
 unfold regG
 cases hT:rowsR (clsR x l) x.cols.length 0 [List.replicate x.cols.length nulV] with
 | none=>exact ⟨.inr rfl,by simp,by simp,fun h=>by simp at h,fun h=>by simp at h⟩
 | some T =>
   simp only
   rw [hx]
   unfold endR
   rw [hP,if_neg (by simp)]
   split
   rotate_left
   ·exact ⟨.inr rfl,by simp,by simp,fun h=>by simp at h,fun h=>by simp at h⟩
   have hrl:=rowsR_row (n:=x.cols.length) (by simp) hT
   have hown:=ownG_ok (ch:=[]) (l:=l) (n:=x.cols.length) (O:=[]) hrl (by simp)
   have hcr:=crossG_ok (P:=P) (n:=x.cols.length) (l:=l) (k:=0) (fun o ho=>by
    obtain ⟨h1,h2,h3⟩:=hown o ho
    exact ⟨h1,by rw [h2]; rfl,h3⟩)
   have hmain:∀ row:List V,row.length=x.cols.length→(∀ c,c<x.cols.length→keyT x c=false→∀ v,row[c]?=some v→ValOk x c v)→∀ ks,Picks ks P→∃ o∈crossG (ownG [] l T []) P,o.t=trG row l∧o.p=ks:=by
    intro row hrow hval ks hks
    have hex:∀ c,∃ u,c<x.cols.length→u∈clsR x l c∧∀ a∈l,a.col=c→a.tr u=a.tr ((row[c]?).getD nulV):=fun c=>by
     by_cases hc:c<x.cols.length
     ·cases hk:keyT x c with
      | true =>
        refine ⟨⟨1,0,[]⟩,fun _=>⟨by unfold clsR; rw [hk]; simp,fun a ha hac=>?_⟩⟩
        have:=(hl a ha).key
        rw [hac,hk] at this
        cases this
      | false =>
        have hrc:row[c]?=some (row[c]'(by omega)):=List.getElem?_eq_getElem (by omega)
        obtain ⟨u,hu1,hu2⟩:=cls_rep hl hc hk (ht c hc) (hval c hc hk _ hrc)
        exact ⟨u,fun _=>⟨hu1,fun a ha hac=>by rw [hrc]; exact hu2 a ha hac⟩⟩
     ·exact ⟨nulV,fun h=>absurd h hc⟩
    obtain ⟨g,hg⟩:∃ g:Nat→V,∀ c,c<x.cols.length→g c∈clsR x l c∧∀ a∈l,a.col=c→a.tr (g c)=a.tr ((row[c]?).getD nulV):=⟨fun c=>(hex c).choose,fun c=>(hex c).choose_spec⟩
    obtain ⟨q,hq,hql,hqg⟩:=rows_rep g hT (List.mem_singleton.2 rfl) (by simp) (by omega) (fun j _ h=>(hg j h).1) (fun j h=>by omega)
    obtain ⟨o,ho,eo⟩:=(ownG_has (l:=l) (R:=T) (O:=[])).2 q hq
    obtain ⟨u,hu,e1,e2⟩:=crossG_has ho hks
    have hop:=(hown o ho).2.1
    refine ⟨u,hu,?_,by rw [e2,hop]; rfl⟩
    rw [e1,eo]
    unfold trG
    refine List.map_congr_left fun a ha=>?_
    have hao:=hl a ha
    have hac:=hao.col
    have hlt:a.col.toNat<x.cols.length:=by omega
    rw [ex_row hao (hqg a.col.toNat hlt),ex_row hao (List.getElem?_eq_getElem (show a.col.toNat<row.length by omega)),(hg a.col.toNat hlt).2 a ha (by omega),List.getElem?_eq_getElem (show a.col.toNat<row.length by omega)]
    rfl
   refine ⟨.inl rfl,fun o ho=>?_,fun o ho=>by have:=(hcr o ho).2.1; omega,fun _=>?_,fun _=>hmain⟩
   ·obtain ⟨c1,c2,c3⟩:=hcr o ho
    exact ⟨crossG_tr (ownG_tr (by simp)) o ho,c1,c3⟩
   ·obtain ⟨ks,hks⟩:=picks_zero hP
    have hex:∀ c,∃ u,c<x.cols.length→ValOk x c u:=fun c=>by
     by_cases hc:c<x.cols.length
     ·obtain ⟨v,hv⟩:=nul_ok x c (ht c hc)
      exact ⟨v,fun _=>hv⟩
     ·exact ⟨nulV,fun h=>absurd h hc⟩
    obtain ⟨o,ho,_⟩:=hmain (seqF (fun c=>(hex c).choose) x.cols.length) (seqF_len _ _) (fun c hc _ v hv=>by
     rw [seqF_get,if_pos hc,Option.some.injEq] at hv
     rw [← hv]
     exact (hex c).choose_spec hc) ks hks
    exact List.length_pos_of_mem ho
end Go.Proofs.Tryz
namespace Go.Proofs.Tryz
open Go.Ab
set_option maxRecDepth 100000
set_option maxHeartbeats 1000000
theorem scan_zero {α:Type} {f:Nat→α→Int}:∀ {l:List α} {k:Nat},(∀ i x,l[i]?=some x→f (k+i) x=0)→scanE f l k=0
 | [],k,h=>rfl
 | y::l,k,h=>by
   have h0:=h 0 y (by simp)
   rw [scanE,if_neg (by simpa using h0)]
   exact scan_zero fun i x hi=>by
    have:=h (i+1) x (by simpa using hi)
    rw [← this]
    congr 1
    omega
theorem tabsP_at {L:List Int} {a:Nat}:∀ {n k:Nat} {x:Tb},(tabsP L a n).1[k]?=some x→∃ b,x=(tabP L k b).1
 | 0,k,x,h=>by simp [tabsP] at h
 | n+1,k,x,h=>by
   simp only [tabsP] at h
   rw [List.getElem?_append,tabsP_len] at h
   split at h
   ·exact tabsP_at h
   ·rename_i hk
    have h0:k=n:=by
     have:=(List.getElem?_eq_some_iff.1 h).1
     simp at this; omega
    subst h0
    rw [Nat.sub_self,List.getElem?_cons_zero,Option.some.injEq] at h
    exact ⟨_,h.symm⟩
theorem free_tab {L:List Int} {j a:Nat}:(tabP L j a).1.free=tab0 L j a:=by
 unfold tabP ckP
 split <;> rfl
theorem fre_at {L:List Int} {a n k:Nat} {x:Tb} (h:(freS (tabsP L a n).1)[k]?=some x):∃ b,x=tab0 L k b:=by
 unfold freS at h
 rw [List.getElem?_map] at h
 cases hs:(tabsP L a n).1[k]? with
 | none=>rw [hs] at h; cases h
 | some y =>
   rw [hs] at h
   simp only [Option.map_some,Option.some.injEq] at h
   obtain ⟨b,rfl⟩:=tabsP_at hs
   exact ⟨b,by rw [← h,free_tab]⟩
theorem nm_inj:∀ i,i<6→∀ k,k<6→nmG 116 i=nmG 116 k→i=k:=by decide
theorem nm_ok:∀ k,k<6→nm3 (nmG 116 k)=true:=by decide +kernel
theorem col_type (L:List Int) (a k:Nat):(colP L a k).t=1∨(colP L a k).t=2∨(colP L a k).t=3:=by
 have:=nextV_in L (a+2*k) (n:=3) (by omega)
 simp only [colP]
 omega
theorem tab_ok (n:List UInt8) (c0 c1:Col) (h0:c0.n=nmG 99 0) (h1:c1.n=nmG 99 1) (t0:c0.t=1∨c0.t=2∨c0.t=3) (t1:c1.t=1∨c1.t=2∨c1.t=3) (f0 f1:List UInt8) (x:Tb)
  (hx:x=⟨n,[idC,c0],[0],[],[],[]⟩∨x=⟨n,[idC,c0,fcP 0],[0],[],[⟨[2],f0⟩],[]⟩∨x=⟨n,[idC,c0,fcP 0,fcP 1],[0],[],[⟨[2],f0⟩,⟨[3],f1⟩],[]⟩
   ∨ x=⟨n,[idC,c0,c1],[0],[],[],[]⟩∨x=⟨n,[idC,c0,c1,fcP 0],[0],[],[⟨[3],f0⟩],[]⟩∨x=⟨n,[idC,c0,c1,fcP 0,fcP 1],[0],[],[⟨[3],f0⟩,⟨[4],f1⟩],[]⟩) :
  tableE nm3 tyT x=0∧plnT x=true∧typT x 0=1∧∀ f∈x.fk,∃ c,f.cols=[c]∧typT x c=1:=by
 rcases c0 with ⟨n0,t0',b0⟩
 rcases c1 with ⟨n1,t1',b1⟩
 simp only at h0 h1 t0 t1
 subst h0 h1
 rcases hx with rfl | rfl | rfl | rfl | rfl | rfl
 ·rcases t0 with rfl | rfl | rfl <;> exact ⟨by kernel_rfl,by kernel_rfl,by kernel_rfl,by simp⟩
 ·rcases t0 with rfl | rfl | rfl <;> exact ⟨by kernel_rfl,by kernel_rfl,by kernel_rfl,by simp [typT,fcP]⟩
 ·rcases t0 with rfl | rfl | rfl <;> exact ⟨by kernel_rfl,by kernel_rfl,by kernel_rfl,by simp [typT,fcP]⟩
 ·rcases t0 with rfl | rfl | rfl <;> rcases t1 with rfl | rfl | rfl <;> exact ⟨by kernel_rfl,by kernel_rfl,by kernel_rfl,by simp⟩
 ·rcases t0 with rfl | rfl | rfl <;> rcases t1 with rfl | rfl | rfl <;> exact ⟨by kernel_rfl,by kernel_rfl,by kernel_rfl,by simp [typT,fcP]⟩
 ·rcases t0 with rfl | rfl | rfl <;> rcases t1 with rfl | rfl | rfl <;> exact ⟨by kernel_rfl,by kernel_rfl,by kernel_rfl,by simp [typT,fcP]⟩
theorem tab0_ok (L:List Int) (j a:Nat):tableE nm3 tyT (tab0 L j a)=0∧plnT (tab0 L j a)=true∧typT (tab0 L j a) 0=1∧∀ f∈(tab0 L j a).fk,∃ c,f.cols=[c]∧typT (tab0 L j a) c=1:=by
 have h1:=freeP_in L a
 have h2:=pkN_le L (a+1+2*freeP L a) j
 refine tab_ok (nmG 116 j) (colP L (a+1) 0) (colP L (a+1) 1) rfl rfl (col_type ..) (col_type ..) (fkP L (a+1+2*freeP L a) j (freeP L a+1) 0).t (fkP L (a+1+2*freeP L a) j (freeP L a+1) 1).t _ ?_
 unfold tab0
 generalize a+1+2*freeP L a=B at *
 generalize freeP L a=m at *
 generalize pkN L B j=z at *
 have hm:m=1∨m=2:=by omega
 have hz:z=0∨z=1∨z=2:=by omega
 rcases hm with rfl | rfl <;> rcases hz with rfl | rfl | rfl <;> simp [colsP,upL,fksP,fkP]
theorem plain_free (L:List Int) (a n:Nat) (hn:n≤6):plainS (freS (tabsP L a n).1)=true:=by
 have hD:DecN (freS (tabsP L a n).1):=dec_free (dec_made L a n)
 have hd:=dec_of hD
 have hl:(freS (tabsP L a n).1).length=n:=by rw [freS_len,tabsP_len]
 have hat:∀ {k:Nat} {x:Tb},(freS (tabsP L a n).1)[k]?=some x→∃ b,x=tab0 L k b:=fun h=>fre_at h
 generalize freS (tabsP L a n).1=S at *
 have hlt:∀ {k:Nat} {x:Tb},S[k]?=some x→k<6:=fun h=>by
  have:=(List.getElem?_eq_some_iff.1 h).1
  omega
 have hfi:∀ {k:Nat} {x:Tb},S[k]?=some x→fidx (fun y:Tb=>y.n==nmG 116 k) S 0=k:=fun {k x} h=>by
  have:=fidx_at (p:=fun y:Tb=>y.n==nmG 116 k) (k:=0) h (by simp [(hD k x h).1]) (fun i y hi hy=>by
   simp only [beq_eq_false_iff_ne]
   intro e
   rw [(hD i y hy).1] at e
   have:=nm_inj i (hlt hy) k (hlt h) e
   omega)
  rw [this]; omega
 unfold plainS plnS validS validE
 rw [Bool.and_eq_true,beq_iff_eq,if_neg (by omega),ordS_dec hd]
 refine ⟨?_,List.all_eq_true.2 fun x hx=>?_⟩
 ·rw [scan_zero (f:=tabE nm3 tyT S),scan_zero]
  ·rfl
  ·intro i x hx
   refine scan_zero fun q f hf=>?_
   obtain ⟨b,rfl⟩:=hat hx
   have hfm:f∈(tab0 L i b).fk:=List.mem_of_getElem? hf
   obtain ⟨c,e1,e2⟩:=(tab0_ok L i b).2.2.2 f hfm
   obtain ⟨m,hm,em⟩:=(hD i _ hx).2 f hfm
   have hiS:=(List.getElem?_eq_some_iff.1 hx).1
   have hSm:S[m]?=some (S[m]'(by omega)):=List.getElem?_eq_getElem (by omega)
   obtain ⟨b',eb⟩:=hat hSm
   rw [eb] at hSm
   have ht:tgt S f=m:=by unfold tgt; rw [em]; exact hfi hSm
   unfold refE
   rw [ht,Int.toNat_natCast,hSm]
   simp only
   rw [if_neg (by omega),if_pos]
   have h0:=(tab0_ok L m b').2.2.1
   unfold pairE
   rw [e1]
   have hp:(tab0 L m b').pr=[0]:=rfl
   rw [hp]
   simp [e2,h0]
  ·intro i x hx
   obtain ⟨b,rfl⟩:=hat hx
   have hn:(tab0 L i b).n=nmG 116 i:=rfl
   unfold tabE
   rw [hn,nm_ok i (hlt hx),if_neg (by simp),hfi hx,if_neg (by omega)]
   exact (tab0_ok L i b).1
 ·obtain ⟨i,hi,rfl⟩:=List.getElem_of_mem hx
  obtain ⟨b,e⟩:=hat (List.getElem?_eq_getElem hi)
  rw [e]
  exact (tab0_ok L i b).2.1
end Go.Proofs.Tryz
namespace Go.Proofs.Tryz
open Go.Ab
set_option maxRecDepth 100000
set_option maxHeartbeats 1000000
theorem smallB_ok (L:List Int) (i:Nat) (k:Int) (hk:k=1∨k=2∨k=3) (b:Bool):(smallB L i k b).valid=true∧((smallB L i k b).k=k∨(b=true∧smallB L i k b=nulV)):=by
 unfold smallB
 cases b with
 | false =>
   rw [if_neg (by decide)]
   obtain ⟨h1,h2,_⟩:=small_in L i k hk
   exact ⟨h2,.inl h1⟩
 | true =>
   have all:∀ v∈valuesOf k,v.valid=true∧(v.k=k∨v=nulV):=by
    rcases hk with rfl | rfl | rfl <;> decide
   have hl3:3≤(valuesOf k).length:=by rcases hk with rfl | rfl | rfl <;> decide
   rw [if_pos rfl]
   obtain ⟨m,hm⟩:∃ m,m=min (valuesOf k).length 4:=⟨_,rfl⟩
   rw [← hm]
   have hn:=nextV_in L i (n:=(m:Int)) (by omega)
   have hlt:(nextV L i (m:Int)).toNat<(valuesOf k).length:=by omega
   rw [List.getElem?_eq_getElem hlt,Option.getD_some]
   obtain ⟨h1,h2⟩:=all _ (List.getElem_mem hlt)
   exact ⟨h1,h2.imp id fun h=>⟨rfl,h⟩⟩
structure KeyOk (x:Tb):Prop where
 pr:∃ p:Nat,x.pr=[(p:Int)]∧p<x.cols.length
 fk:∀ f∈x.fk,∃ c:Nat,f.cols=[(c:Int)]∧c<x.cols.length∧hdI x.pr ≠ c
 dis:(x.fk.map fun f=>hdI f.cols).Nodup
 ty:∀ c,c<x.cols.length→(colO x c).t=1∨(colO x c).t=2∨(colO x c).t=3
theorem fksB_dis {x:Tb}:∀ {l:List Fk} {pre:List Int},fksB x pre l=true→(∀ f∈l,fkB x f=true∧hdI f.cols ∉ pre)∧(l.map fun f=>hdI f.cols).Nodup
 | [],pre,_=>⟨by simp,.nil⟩
 | f::l,pre,h=>by
   rw [fksB,Bool.and_eq_true,Bool.and_eq_true] at h
   obtain ⟨⟨h1,h2⟩,h3⟩:=h
   obtain ⟨g1,g2⟩:=fksB_dis h3
   have hn:hdI f.cols ∉ pre:=by simpa using h2
   refine ⟨fun g hg=>?_,?_⟩
   ·rcases List.mem_cons.1 hg with rfl | hg
    ·exact ⟨h1,hn⟩
    ·exact ⟨(g1 g hg).1,fun hm=>(g1 g hg).2 (List.mem_append_left _ hm)⟩
   ·rw [List.map_cons,List.nodup_cons]
    refine ⟨fun hm=>?_,g2⟩
    obtain ⟨g,hg,e⟩:=List.mem_map.1 hm
    exact (g1 g hg).2 (List.mem_append_right _ (by rw [e]; simp))
theorem key_ok {S:List Tb} (h:FillOk S) (hp:plainS S=true) {x:Tb} (hx:x∈S):KeyOk x:=by
 unfold plainS plnS at hp
 rw [Bool.and_eq_true] at hp
 have hpl:=List.all_eq_true.1 hp.2 x hx
 unfold plnT at hpl
 rw [Bool.and_eq_true,Bool.and_eq_true] at hpl
 obtain ⟨hpr,hfk,_⟩:=hpl
 obtain ⟨g1,g2⟩:=fksB_dis hfk
 obtain ⟨p1,p2,p3⟩:=h.pr x hx
 obtain ⟨_,f1⟩:=h.fk x hx
 refine ⟨?_,fun f hf=>?_,g2,fun c hc=>?_⟩
 ·obtain ⟨p,hpe⟩:=len_one p1
  rw [hpe] at p2 p3
  simp only [hdI,List.headD_cons] at p2 p3
  exact ⟨p.toNat,by rw [hpe,Int.toNat_of_nonneg p2],by omega⟩
 ·obtain ⟨c1,c2,c3⟩:=f1 f hf
  obtain ⟨c,hce⟩:=len_one c1
  have hb:=(g1 f hf).1
  unfold fkB at hb
  simp only [Bool.and_eq_true,Bool.not_eq_true',beq_eq_false_iff_ne] at hb
  have hne:=hb.2.2.2
  rw [hce] at c2 c3 hne
  simp only [hdI,List.headD_cons] at c2 c3 hne
  refine ⟨c.toNat,by rw [hce,Int.toNat_of_nonneg c2],by omega,?_⟩
  rw [Int.toNat_of_nonneg c2]
  exact fun e=>hne e.symm
 ·unfold colO
  rw [List.getElem?_eq_getElem hc]
  exact h.ty x hx _ (List.getElem_mem hc)
structure RowOk (S:List Tb) (T:Nat→List (List V)) (x:Tb) (n:Nat) (row:List V):Prop where
 len:row.length=x.cols.length
 pr:row[(hdI x.pr).toNat]?=some (numV (n+1))
 fk:∀ f∈x.fk,∃ q:Nat,row[(hdI f.cols).toNat]?=some (numV (1+q))∧q<(T (tgN S f)).length
 val:∀ c,c<x.cols.length→keyT x c=false→∀ v,row[c]?=some v→ValOk x c v
theorem fkS_out {L:List Int} {S:List Tb} {x:Tb} {T:Nat→List (List V)} {b c:Nat}:∀ {z:Nat} {r:List V},(∀ f∈x.fk,(hdI f.cols).toNat ≠ c)→(fkS L S x T b z r)[c]?=r[c]?
 | 0,r,_=>rfl
 | z+1,r,h=>by
   rw [fkS]
   cases hz:x.fk[z]? with
   | none=>exact fkS_out h
   | some f =>
     simp only
     rw [List.getElem?_set_ne (h f (List.mem_of_getElem? hz))]
     exact fkS_out h
theorem fkS_at {L:List Int} {S:List Tb} {x:Tb} (hx:KeyOk x) {T:Nat→List (List V)} {b:Nat}:∀ {z:Nat} {r:List V} {j:Nat} {f:Fk},z≤x.fk.length→j<z→x.fk[j]?=some f→r.length=x.cols.length→(fkS L S x T b z r)[(hdI f.cols).toNat]?=some (numV (1+nextV L (b+j) (T (tgN S f)).length))
 | 0,r,j,f,_,hj,_,_=>by omega
 | z+1,r,j,f,hz,hj,hf,hr=>by
   rw [fkS]
   have hzl:z<x.fk.length:=by omega
   rw [List.getElem?_eq_getElem hzl]
   simp only
   obtain ⟨c,e1,c1,_⟩:=hx.fk f (List.mem_of_getElem? hf)
   have hfc:(hdI f.cols).toNat=c:=by rw [e1]; simp [hdI]
   by_cases hjz:j=z
   ·subst hjz
    rw [List.getElem?_eq_getElem hzl,Option.some.injEq] at hf
    rw [hf,List.getElem?_set_self (by rw [fkS_len,hr,hfc]; exact c1)]
   ·obtain ⟨d,e2,d1,_⟩:=hx.fk x.fk[z] (List.getElem_mem hzl)
    have hzc:(hdI x.fk[z].cols).toNat=d:=by rw [e2]; simp [hdI]
    have hne:d ≠ c:=by
     intro e
     subst e
     have:=List.nodup_iff_pairwise_ne.1 hx.dis
     rw [List.pairwise_iff_getElem] at this
     have hj':j<x.fk.length:=by omega
     have hfj:x.fk[j]=f:=by rw [List.getElem?_eq_getElem hj',Option.some.injEq] at hf; exact hf
     have:=this j z (by simpa using hj') (by simpa using hzl) (by omega)
     simp only [List.getElem_map] at this
     rw [hfj,e1,e2] at this
     exact this rfl
    rw [List.getElem?_set_ne (by rw [hzc,hfc]; exact hne)]
    exact fkS_at hx (by omega) (by omega) hf hr
theorem keyT_iff {x:Tb} {c:Int}:keyT x c=false→c ∉ x.pr∧∀ f∈x.fk,c ∉ f.cols:=by
 intro h
 unfold keyT at h
 rw [Bool.or_eq_false_iff] at h
 refine ⟨by simpa using h.1,fun f hf hm=>?_⟩
 have:=h.2
 rw [List.any_eq_false] at this
 exact this f hf (by simpa using hm)
theorem rowG_ok (L:List Int) {S:List Tb} {x:Tb} (hx:KeyOk x) {T:Nat→List (List V)} (a k:Nat) (hT:∀ f∈x.fk,0<(T (tgN S f)).length):RowOk S T x k (rowG L S x T a k):=by
 obtain ⟨p,hp,hpl⟩:=hx.pr
 have hpc:(hdI x.pr).toNat=p:=by rw [hp]; simp [hdI]
 refine ⟨rowG_len ..,?_,fun f hf=>?_,fun c hc hk v hv=>?_⟩
 ·unfold rowG
  rw [fkS_out]
  ·unfold rowP
   rw [List.getElem?_set_self (by rw [rowS_len,hpc]; exact hpl)]
  ·intro f hf
   obtain ⟨c,e1,_,c2⟩:=hx.fk f hf
   rw [e1,hpc]
   rw [hp] at c2
   simp [hdI] at c2 ⊢
   omega
 ·obtain ⟨j,hj,rfl⟩:=List.getElem_of_mem hf
  unfold rowG
  rw [fkS_at hx (Nat.le_refl _) hj (List.getElem?_eq_getElem hj) (rowP_len ..)]
  have hl:=hT _ hf
  have hn:=nextV_in L (a+x.cols.length+j) (n:=((T (tgN S x.fk[j])).length:Int)) (by omega)
  generalize nextV L (a+x.cols.length+j) ((T (tgN S x.fk[j])).length:Int)=z at *
  exact ⟨z.toNat,by rw [Int.toNat_of_nonneg (by omega)],by omega⟩
 ·obtain ⟨k1,k2⟩:=keyT_iff hk
  unfold rowG at hv
  rw [fkS_out] at hv
  ·unfold rowP at hv
   rw [List.getElem?_set_ne (by
    rw [hpc]
    intro e
    subst e
    exact k1 (by rw [hp]; simp))] at hv
   unfold rowS at hv
   rw [seqF_get,if_pos hc,Option.some.injEq,if_pos hc] at hv
   subst hv
   unfold smC
   exact smallB_ok L _ _ (hx.ty c hc) _
  ·intro f hf e
   obtain ⟨d,e1,_,_⟩:=hx.fk f hf
   have:=k2 f hf
   rw [e1] at this e
   simp [hdI] at this e
   omega
theorem rowsG_ok (L:List Int) {S:List Tb} {x:Tb} (hx:KeyOk x) {T:Nat→List (List V)} (a:Nat):∀ {m:Nat},(0<m→∀ f∈x.fk,0<(T (tgN S f)).length)→∀ n row,(rowsG L S x T a m)[n]?=some row→RowOk S T x n row
 | 0,_,n,row,h=>by simp [rowsG] at h
 | m+1,hT,n,row,h=>by
   rw [rowsG,List.getElem?_append,rowsG_len] at h
   split at h
   ·exact rowsG_ok L hx a (fun _=>hT (by omega)) n row h
   ·rename_i hn
    have h0:n=m:=by
     have:=(List.getElem?_eq_some_iff.1 h).1
     simp at this; omega
    subst h0
    rw [Nat.sub_self,List.getElem?_cons_zero,Option.some.injEq] at h
    subst h
    exact rowG_ok L hx _ _ (hT (by omega))
def InsOk (S:List Tb) (T:Nat→List (List V)) (j:Nat):Prop:=∀ k,k<j→∀ n row,(T k)[n]?=some row→RowOk S T (tabO S k) n row
theorem row_mono {S:List Tb} {T U:Nat→List (List V)} {x:Tb} {n:Nat} {row:List V} (h:RowOk S T x n row) (he:∀ f∈x.fk,U (tgN S f)=T (tgN S f)):RowOk S U x n row :=
 ⟨h.len,h.pr,fun f hf=>by rw [he f hf]; exact h.fk f hf,h.val⟩
theorem fill_ins (L:List Int) {S:List Tb} (hd:Dec S) (hK:∀ x∈S,KeyOk x) (most:Nat):∀ (n j:Nat) (y:(Nat→List (List V))×Nat),j+n=S.length→InsOk S y.1 j→InsOk S (fillG L S most (upN j n) y).1 S.length
 | 0,j,y,h,w=>by
   have:j=S.length:=by omega
   subst this
   exact w
 | n+1,j,y,h,w=>by
   rw [upN,fillG,Int.toNat_natCast]
   have hj:j<S.length:=by omega
   have hx:tabO S j∈S:=by unfold tabO; rw [List.getElem?_eq_getElem hj]; exact List.getElem_mem hj
   refine fill_ins L hd hK most n (j+1) _ (by omega) fun k hk i row hr=>?_
   have hT:∀ m,m<j→(stepG L S most j y).1 m=y.1 m:=fun m hm=>by
    unfold stepG
    simp only [upd]
    rw [if_neg (by omega)]
   have hup:∀ f∈(tabO S k).fk,(stepG L S most j y).1 (tgN S f)=y.1 (tgN S f):=fun f hf=>hT _ (by have:=(hd k (by omega) f hf).2; omega)
   refine row_mono ?_ hup
   by_cases hkj:k=j
   ·subst hkj
    unfold stepG at hr
    simp only [upd,if_true] at hr
    exact rowsG_ok L (hK _ hx) _ (fun hm=>numR_pos hm) i row hr
   ·rw [hT k (by omega)] at hr
    exact w k (by omega) i row hr
theorem good_ins (L:List Int) {S:List Tb} (hd:Dec S) (hK:∀ x∈S,KeyOk x) (most a:Nat):InsOk S (fillT L S most a (ordS S).1.length).1 S.length:=by
 unfold fillT
 rw [List.take_length,ordS_dec hd]
 exact fill_ins L hd hK most S.length 0 _ (by omega) fun k hk=>absurd hk (by omega)
theorem fidx_has {α:Type} {p:α→Bool} {l:List α} {x:α} (h:x∈l) (hp:p x=true):0≤fidx p l 0∧(fidx p l 0).toNat<l.length:=by
 obtain ⟨j,hj,rfl⟩:=List.getElem_of_mem h
 have:=fidx_first (p:=p) (k:=0) (List.getElem?_eq_getElem hj) hp
 omega
theorem picks_snoc:∀ {ks:List Int} {P:List (List Rg)} {k:Int} {p:List Rg},Picks ks P→0≤k→k<p.length→Picks (ks++[k]) (P++[p])
 | [],[],k,p,_,h0,h1=>⟨⟨h0,h1⟩,trivial⟩
 | [],q::P,k,p,h,_,_=>by cases h
 | j::ks,[],k,p,h,_,_=>by cases h
 | j::ks,q::P,k,p,h,h0,h1=>⟨h.1,picks_snoc h.2 h0 h1⟩
theorem parG_some {S:List Tb} {I:List (List (List V))} {F:Nat→Nat→Option Nat} {row:List V} {R:Nat→List Rg}:∀ {l:List Fk} {acc:List Int} {P:List (List Rg)},Picks acc P →
  (∀ g∈l,0≤refZ S I row g∧∃ q,F (tgN S g) (refZ S I row g).toNat=some q∧q<(R (tgN S g)).length)→∃ ks,parG S I F row acc l=some ks∧Picks ks (P++l.map fun g=>R (tgN S g))
 | [],acc,P,h,_=>⟨acc,rfl,by simpa using h⟩
 | g::l,acc,P,h,hg=>by
   obtain ⟨h1,q,h2,h3⟩:=hg g (List.mem_cons_self ..)
   obtain ⟨ks,e1,e2⟩:=parG_some (S:=S) (I:=I) (F:=F) (row:=row) (R:=R) (l:=l) (acc:=acc++[(q:Int)]) (P:=P++[R (tgN S g)]) (picks_snoc h (by omega) (by omega)) fun f hf=>hg f (List.mem_cons_of_mem _ hf)
   refine ⟨ks,?_,by simpa [List.append_assoc] using e2⟩
   rw [parG,if_neg (by omega),h2]
   exact e1
theorem of_some {S:List Tb} (hd:Dec S) (hK:∀ x∈S,KeyOk x) {T:Nat→List (List V)} (hT:InsOk S T S.length) {A:Nat→List At} {R:Nat→List Rg}
  (hR:∀ k,k<S.length→RegOk (tabO S k) (A k) ((tabO S k).fk.map fun g=>R (tgN S g)) (0,R k)):∀ (m k n:Nat),k<m→k<S.length→n<(T k).length→∃ q,ofG S (seqF T S.length) (seqF R S.length) (seqF A S.length) m k n=some q∧q<(R k).length
 | 0,k,n,hm,_,_=>by omega
 | m+1,k,n,hm,hk,hn=>by
   have hIT:∀ j,j<S.length→(seqF T S.length)[j]?=some (T j):=fun j hj=>by rw [seqF_get,if_pos hj]
   obtain ⟨row,hrow⟩:∃ r,r=(T k)[n]:=⟨_,rfl⟩
   have hr:(T k)[n]?=some row:=by rw [List.getElem?_eq_getElem hn,hrow]
   have hok:=hT k hk n row hr
   have hx:tabO S k∈S:=by unfold tabO; rw [List.getElem?_eq_getElem hk]; exact List.getElem_mem hk
   rw [of_yes (S:=S) (rows:=T k) (row:=row) (rgs:=R k) (ats:=A k) rfl (hIT k hk) (by rw [seqF_get,if_pos hk]) (by rw [seqF_get,if_pos hk]) hr hk]
   obtain ⟨ks,e1,e2⟩:=parG_some (S:=S) (I:=seqF T S.length) (F:=ofG S (seqF T S.length) (seqF R S.length) (seqF A S.length) m) (row:=row) (R:=R) (l:=(tabO S k).fk) (acc:=[]) (P:=[]) trivial (fun g hg=>by
    obtain ⟨h0,h1⟩:=hd k hk g hg
    obtain ⟨q,f1,f2⟩:=hok.fk g hg
    have hto:tgN S g<S.length:=by omega
    have hxo:tabO S (tgN S g)∈S:=by unfold tabO; rw [List.getElem?_eq_getElem hto]; exact List.getElem_mem hto
    obtain ⟨c,c1,c2,_⟩:=(hK _ hx).fk g hg
    obtain ⟨p,p1,p2⟩:=(hK _ hxo).pr
    have hrq:(T (tgN S g))[q]?=some ((T (tgN S g))[q]'f2):=List.getElem?_eq_getElem f2
    have hoq:=hT _ hto q _ hrq
    have hZ:refZ S (seqF T S.length) row g=fidx (hitG (hdI (tabO S (tgN S g)).pr).toNat (hdI g.cols).toNat row) (T (tgN S g)) 0:=by
     unfold refZ refG
     rw [if_pos (by rw [seqF_len]; exact hto),if_pos (by rw [hok.len,c1]; simpa [hdI] using c2),hIT _ hto]
     rfl
    have hhit:hitG (hdI (tabO S (tgN S g)).pr).toNat (hdI g.cols).toNat row ((T (tgN S g))[q]'f2)=true:=by
     unfold hitG
     rw [hoq.pr,f1]
     have e:(numV (↑q+1):V)=numV (1+q):=by rw [Int.add_comm]
     rw [e]
     have hlt:(hdI (tabO S (tgN S g)).pr).toNat<((T (tgN S g))[q]'f2).length:=by rw [hoq.len,p1]; simpa [hdI] using p2
     simp only [hlt,decide_true,Option.getD_some,Bool.true_and]
     rw [(V.beq_iff _ _).2 rfl]
     rfl
    obtain ⟨z1,z2⟩:=fidx_has (List.mem_of_getElem? hrq) hhit
    rw [hZ]
    obtain ⟨q',g1,g2⟩:=of_some hd hK hT hR m (tgN S g) _ (by omega) hto z2
    exact ⟨z1,q',g1,g2⟩)
   rw [e1]
   simp only
   obtain ⟨o,ho,o1,o2⟩:=(hR k hk).has rfl row hok.len hok.val ks (by simpa using e2)
   obtain ⟨z1,z2⟩:=fidx_has (p:=rgH (trG row (A k)) ks) ho (by unfold rgH; rw [o1,o2]; simp)
   rw [if_pos z1]
   exact ⟨_,rfl,z2⟩
end Go.Proofs.Tryz
namespace Go.Proofs.Tryz
open Go.Ab
set_option maxRecDepth 100000
set_option maxHeartbeats 1000000
def CInv (S:List Tb) (A:WA) (R:WR) (j:Nat):Prop:=∀ k,k<j→∃ l r,A k=some l∧R k=some r∧RegOk (tabO S k) l (wP S R k) (0,r)∧r.length≤300∧l.length≤10∧∀ a∈l,a.v.t.length≤200
theorem cinv_step {S:List Tb} (hd:Dec S) {A:WA} {R:WR} {j:Nat} {l:List At} {r:List Rg} (hj:j<S.length) (h:CInv S A R j) (hr:RegOk (tabO S j) l (wP S R j) (0,r)) (h3:r.length≤300) (hl:l.length≤10) (ha:∀ a∈l,a.v.t.length≤200):CInv S (upd A j (some l)) (upd R j (some r)) (j+1):=fun k hk=>by
 rw [wP_upd hd (by omega) (by omega)]
 by_cases hkj:k=j
 ·subst hkj
  exact ⟨l,r,by simp [upd],by simp [upd],hr,h3,hl,ha⟩
 ·obtain ⟨l',r',h1,h2,h3⟩:=h k (by omega)
  exact ⟨l',r',by simp [upd,hkj,h1],by simp [upd,hkj,h2],h3⟩
theorem cinv_pos {S:List Tb} {A:WA} {R:WR} {j:Nat} (h:CInv S A R j) {k:Nat} (hk:k<j):∃ r,R k=some r∧0<r.length∧r.length≤300:=by
 obtain ⟨l,r,_,h2,h3,h4,_⟩:=h k hk
 exact ⟨r,h2,h3.pos rfl,h4⟩
theorem cinv_par {S:List Tb} (hd:Dec S) {A:WA} {R:WR} {j:Nat} (hj:j<S.length) (h:CInv S A R j):emptyP (wP S R j)=false∧∀ p∈wP S R j,p.length≤2000:=by
 have hp:∀ p∈wP S R j,0<p.length∧p.length≤300:=fun p hp=>by
  unfold wP at hp
  obtain ⟨g,hg,rfl⟩:=List.mem_map.1 hp
  obtain ⟨r,h1,h2,h3⟩:=cinv_pos h (hd j hj g hg).2
  rw [h1]
  exact ⟨h2,h3⟩
 refine ⟨?_,fun p h=>by have:=(hp p h).2; omega⟩
 unfold emptyP
 rw [List.any_eq_false]
 intro p h
 have:=(hp p h).1
 simp
 intro e
 subst e
 simp at this
theorem reg_made (L:List Int) {S:List Tb} (h:MadeS S) (hp:plainS S=true) (hc:∀ x∈S,x.ch=[]) {R:WR} {j e:Nat} (hj:j<S.length) (he:emptyP (wP S R j)=false) :
  RegOk (tabO S j) (wA L S e j).1 (wP S R j) (regS S j (wA L S e j).1 (wP S R j)):=by
 have hx:tabO S j∈S:=by unfold tabO; rw [List.getElem?_eq_getElem hj]; exact List.getElem_mem hj
 have hm:=h.made _ hx
 have hl:=atsG_ok L hm (nextV L e 3).toNat (e+1)
 have hs:suitG (tabO S j) (wA L S e j).1=true:=suit_ok hl (atsG_sorted L _ _ _)
 unfold regS
 rw [if_pos ⟨hp,by omega,by omega,by rw [Int.toNat_natCast]; exact hs,by rw [Int.toNat_natCast]; simp [wP]⟩,Int.toNat_natCast]
 exact regG_ok (hc _ hx) hl (fun c hc=>by
  unfold colO
  rw [List.getElem?_eq_getElem hc]
  exact hm.ty _ (List.getElem_mem hc)) he
theorem made_free (L:List Int) (a n:Nat) (hn:n≤6):MadeS (freS (tabsP L a n).1):=by
 refine ⟨fill_free L a n (by omega),dec_free (dec_made L a n),fun x hx=>?_,fun x hx=>?_⟩
 ·obtain ⟨k,hk⟩:=List.mem_iff_getElem?.1 hx
  obtain ⟨b,rfl⟩:=fre_at hk
  exact tab0_made L k b
 ·obtain ⟨y,_,rfl⟩:=List.mem_map.1 hx
  exact ⟨by simp [Tb.free],by simp [Tb.free]⟩
theorem cinv_of {S:List Tb} {A:WA} {R:WR} (h:CInv S A R S.length) (hS:S.length≤10) (hf:∀ k,k<S.length→(tabO S k).fk.length≤8) {I:List (List (List V))} (hI:I.length≤1000∧∀ t∈I,t.length≤1000∧∀ r∈t,r.length≤9223372036854775807) :
  OfOk I (outL R S.length) (outL A S.length):=by
 have mem:∀ {α:Type} {f:Nat→Option (List α)} {l:List α},l∈outL f S.length→∃ j,j<S.length∧(f j).getD []=l:=fun {α f l} hl=>by
  obtain ⟨j,hj⟩:=List.mem_iff_getElem?.1 hl
  unfold outL at hj
  rw [seqF_get] at hj
  split at hj
  ·rename_i hlt
   exact ⟨j,hlt,by simpa using hj⟩
  ·cases hj
 refine ⟨hI.1,by rw [outL_len]; omega,by rw [outL_len]; omega,hI.2,fun l hl=>?_,fun l hl=>?_⟩
 ·obtain ⟨j,hj,rfl⟩:=mem hl
  obtain ⟨l,r,h1,h2,h3,h4,h5,h6⟩:=h j hj
  rw [h2,Option.getD_some]
  refine ⟨by omega,fun x hx=>?_⟩
  have:=(h3.tr x hx).2.1
  have:=h3.par x hx
  have:=hf j hj
  rw [show (wP S R j).length=(tabO S j).fk.length from by simp [wP]] at *
  omega
 ·obtain ⟨j,hj,rfl⟩:=mem hl
  obtain ⟨l,r,h1,h2,h3,h4,h5,h6⟩:=h j hj
  rw [h1,Option.getD_some]
  exact ⟨by omega,h6⟩
theorem cov_some (L:List Int) {S:List Tb} (hF:FillOk S) (hD:Dec S) (hp:plainS S=true) {A:WA} {R:WR} (h:CInv S A R S.length) (a k n:Nat) (hk:k<S.length) (hn:n<((goodG L S 5 a).1[k]?.getD []).length) :
  ∃ q,ofZ S (goodG L S 5 a).1 (outL R S.length) (outL A S.length) k n=some q:=by
 have hK:∀ x∈S,KeyOk x:=fun x hx=>key_ok hF hp hx
 have hT:=good_ins L hD hK 5 a
 have hR:∀ k,k<S.length→RegOk (tabO S k) ((A k).getD []) ((tabO S k).fk.map fun g=>(R (tgN S g)).getD []) (0,(R k).getD []):=fun k hk=>by
  obtain ⟨l,r,h1,h2,h3,_⟩:=h k hk
  rw [h1,h2,Option.getD_some,Option.getD_some]
  exact h3
 have hn2:n<((fillT L S 5 a (ordS S).1.length).1 k).length:=by
  unfold goodG at hn
  simp only at hn
  rw [seqF_get,if_pos hk,Option.getD_some] at hn
  exact hn
 obtain ⟨q,h1,_⟩:=of_some (A:=fun k=>(A k).getD []) (R:=fun k=>(R k).getD []) hD hK hT hR (k+1) k n (by omega) hk hn2
 refine ⟨q,?_⟩
 unfold ofZ
 rw [if_pos ⟨hp,by omega,by omega⟩,Int.toNat_natCast,Int.toNat_natCast]
 exact h1
end Go.Proofs.Tryz
