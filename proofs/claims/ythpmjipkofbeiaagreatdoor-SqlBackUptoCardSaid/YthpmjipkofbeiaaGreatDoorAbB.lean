import Derived.Test.YthpmjipkofbeiaaGreatDoorAbC
import Derived.ProofKit
import Derived.MakeChecks
import Derived.OpenShut
import Derived.Lib.LaidTab
import Derived.Sort.Grow
set_option linter.all false
namespace Go.Ab
theorem XW {P:Program} {ρ ρ':Operand→AV} {o:Oper} {bl:Nat→Blk} (h:∀ x∈o.op.operands,ρ x=ρ' x):zK P ρ o bl=zK P ρ' o bl:=by
 obtain ⟨dst,op,type,pos,after,guard⟩:=o
 have pairs:∀ ps:List (Nat×Operand),(∀ x∈ps.map (·.2),ρ x=ρ' x)→(ps.map fun p=>(p.1,ρ p.2))=(ps.map fun p=>(p.1,ρ' p.2)):=fun ps hp =>
  List.map_congr_left fun p hm=>by rw [hp p.2 (List.mem_map.2 ⟨p,hm,rfl⟩)]
 simp only at h
 cases op <;> simp only [Op.operands] at h <;> simp only [zK]
 case build t ps=>rw [pairs _ (fun x hx=>h x (by simpa using hx))]
 case buildSlice t n ps=>rw [pairs _ (fun x hx=>h x (by simpa using hx))]
 case makeFunc fn first caps =>
  cases fn <;> simp only
  have h1:caps.toList.map ρ=caps.toList.map ρ':=List.map_congr_left fun x hx=>h x (by simp [Array.mem_toList_iff.1 hx])
  have h2:first.toList.map ρ=first.toList.map ρ':=List.map_congr_left fun x hx=>h x (by simp [Array.mem_toList_iff.1 hx])
  rw [h1,h2]
 case slice t x lo hi mx=>cases lo <;> cases hi <;> cases mx <;> simp_all
 case binOp op t x y yt =>
  have hx:=h x (by simp)
  split
  ·have hy:=h (.const .nilIface) (by simp)
   rw [hx,hy]
  ·have hy:=h (.const (.map none)) (by simp)
   rw [hx,hy]
  ·rw [hx,h _ (by simp)]
 case makeMap t hint=>cases hint <;> rfl
 case mapUpdate t mo k x=>rw [h mo (by simp),h k (by simp),h x (by simp)]
 case lookup t mo k ok=>rw [h mo (by simp),h k (by simp)]
 case call c =>
  obtain ⟨callee,args,argTypes⟩:=c
  have ha:∀ x∈args.toList,ρ x=ρ' x:=fun x hx=>h x (by simp [Call.operands,Array.mem_toList_iff.1 hx])
  unfold zJ
  simp only
  split
  ·split
   ·rename_i x t hx ht
    rw [ha x (by rw [hx]; simp)]
   ·rfl
  ·split
   ·rename_i mo k t ts hx ht
    rw [ha mo (by rw [hx]; simp),ha k (by rw [hx]; simp)]
   ·rfl
  ·split
   ·rename_i d s t ts hx ht
    rw [ha d (by rw [hx]; simp),ha s (by rw [hx]; simp)]
   ·rfl
  ·split
   ·rename_i x t hx ht
    rw [ha x (by rw [hx]; simp)]
   ·rfl
  ·split
   ·rename_i x t hx ht
    rw [ha x (by rw [hx]; simp)]
   ·rfl
  ·split
   ·rename_i s x t t' hx ht
    rw [ha s (by rw [hx]; simp),ha x (by rw [hx]; simp)]
   ·rfl
  ·split
   ·rename_i x y hx
    rw [ha x (by rw [hx]; simp),ha y (by rw [hx]; simp)]
   ·rename_i x r hno hx
    rw [ha x (by rw [hx]; simp),List.map_congr_left fun y hy=>ha y (by rw [hx]; simp [hy])]
   ·rfl
  ·split
   ·rename_i x y hx
    rw [ha x (by rw [hx]; simp),ha y (by rw [hx]; simp)]
   ·rename_i x r hno hx
    rw [ha x (by rw [hx]; simp),List.map_congr_left fun y hy=>ha y (by rw [hx]; simp [hy])]
   ·rfl
  ·rfl
 all_goals (first | rfl | (simp_all; done))
theorem LD {E:dA} {ρ ρ':Operand→AV} {o:Oper} {bl:Nat→Blk} {res:AV} {wr:List (Nat×Blk)} (h:∀ x∈o.op.operands,ρ x=ρ' x) (hc:PI E ρ o bl res wr):PI E ρ' o bl res wr:=by
 obtain ⟨c,fo,f,xs,ks,d,y,B',hop,hcal,hfo,hdst,ok,hres,hwr⟩:=hc
 rw [hop] at h
 obtain ⟨callee,args,argTypes⟩:=c
 simp only at hcal
 subst hcal
 simp only [Op.operands,Call.operands] at h
 have ha:args.toList.map ρ=args.toList.map ρ':=List.map_congr_left fun x hx=>h x (by simp [Array.mem_toList_iff.1 hx])
 have hf:ρ fo=ρ' fo:=h fo (by simp)
 exact ⟨_,fo,f,xs,ks,d,y,B',hop,rfl,by simp only [← hf,← ha]; exact hfo,hdst,ok,hres,hwr⟩
theorem FG {G:Nat→Option (List D)} {s:Nat→AV} {dst:Option Tmp} {v:AV} {x:Operand} (h:∀ d,dst=some d→x ≠ .tmp d) :
  mX G (zW s dst v) x=mX G s x:=by
 cases dst with
 | none=>rfl
 | some d =>
   cases x with
   | tmp t =>
     have:t ≠ d:=fun e=>h d rfl (by rw [e])
     simp [mX,zW,dQ,this]
   | _=>rfl
theorem nM {ops:Array Oper} {o:Oper} {t:Tmp} (h:.tmp t∈o.op.operands):t∈o.looksAt ops:=by
 unfold Oper.looksAt
 exact List.mem_append_left _ (List.mem_filterMap.2 ⟨.tmp t,by simpa using h,rfl⟩)
theorem qS {ops:Array Oper} {o:Oper} {s:Nat→AV} {dst:Option Tmp} {v:AV} (h:∀ d,dst=some d→d ∉ o.looksAt ops) :
  eK ops o (zW s dst v)=eK ops o s:=by
 cases dst with
 | none=>rfl
 | some d =>
   unfold eK
   split
   ·rfl
   ·rename_i j want hg
    split
    ·rename_i t ht
     have:t ≠ d:=fun e=>h d rfl (by subst e; simp [Oper.looksAt,hg,ht])
     simp [zW,dQ,this]
    ·rfl
theorem Step.at {E:dA} {ops:Array Oper} {o:Oper} {st st':St} {t wn:List Nat} (h:Step E ops o st st' t wn) :
  ∃ v wr,st'=st.put o.dst v wr∧wn=wr.map (·.1)∧(∀ n∈wn,n∈t) ∧
    ∀ st2:St,eK ops o st2.s=eK ops o st.s→(∀ x∈o.op.operands,mX E.G st2.s x=mX E.G st.s x)→(∀ n∈t,st2.b n=st.b n)→Step E ops o st2 (st2.put o.dst v wr) t wn:=by
 rcases h with ⟨hw,res,wr,heff,hwr,rfl,rfl⟩ | ⟨hw,rfl,rfl,rfl⟩
 ·refine ⟨res,wr,rfl,rfl,fun n hn=>?_,fun st2 h1 h2 h3=>.inl ⟨h1.trans hw,res,wr,?_,hwr,rfl,rfl⟩⟩
  ·obtain ⟨p,hp,rfl⟩:=List.mem_map.1 hn
   exact hwr p hp
  ·have hr:bM t st2.b=bM t st.b:=by
    funext n
    unfold bM
    split
    ·rename_i hn; exact h3 n hn
    ·rfl
   rw [hr]
   rcases heff with he | he
   ·exact .inl (by rw [XW h2]; exact he)
   ·exact .inr (LD (fun x hx=>(h2 x hx).symm) he)
 ·exact ⟨.sk,[],rfl,rfl,(fun n hn=>by cases hn),fun st2 h1 _ _=>.inr ⟨h1.trans hw,rfl,rfl,rfl⟩⟩
theorem SK {α:Type} (f:Nat→α) {i j:Nat} (x y:α) (h:i ≠ j):dQ (dQ f i x) j y=dQ (dQ f j y) i x:=by
 funext k
 simp only [dQ]
 split <;> split <;> first | rfl | (rename_i a b; exact absurd (b.symm.trans a) h)
theorem SL {α:Type} (f:Nat→α) {i:Nat} (x:α):∀ (l:List (Nat×α)),(∀ p∈l,p.1 ≠ i)→bW (dQ f i x) l=dQ (bW f l) i x
 | [],_=>rfl
 | p::l,h=>by
   show bW (dQ (dQ f i x) p.1 p.2) l=_
   rw [SK f x p.2 (Ne.symm (h p List.mem_cons_self)),SL _ x l fun q hq=>h q (List.mem_cons_of_mem _ hq)]
   rfl
theorem MD {α:Type} (f:Nat→α):∀ (l l':List (Nat×α)),(∀ p∈l,∀ q∈l',p.1 ≠ q.1)→bW (bW f l) l'=bW (bW f l') l
 | [],_,_=>rfl
 | p::l,l',h=>by
   show bW (bW (dQ f p.1 p.2) l) l'=bW (dQ (bW f l') p.1 p.2) l
   rw [MD (dQ f p.1 p.2) l l' fun a ha b hb=>h a (List.mem_cons_of_mem _ ha) b hb,SL f p.2 l' fun q hq=>(h p List.mem_cons_self q hq).symm]
theorem St.put_comm (st:St) {d d':Option Tmp} (v v':AV) (wr wr':List (Nat×Blk)) (hd:∀ x,d=some x→d' ≠ some x) (hw:∀ p∈wr,∀ q∈wr',p.1 ≠ q.1) :
  (st.put d v wr).put d' v' wr'=(st.put d' v' wr').put d v wr:=by
 unfold St.put
 congr 1
 ·cases d <;> cases d' <;> simp only [zW]
  rename_i a b
  exact SK _ _ _ fun e=>hd a rfl (by rw [e])
 ·exact MD _ _ _ hw
def EK (l l':List Nat):Prop:=∀ n∈l,n ∉ l'
theorem Step.swap {E:dA} {ops:Array Oper} {x y:Oper} {s s1 s2:St} {tx wx ty wy:List Nat} (hap:x.apart ops y=true) (h1:EK wx ty) (h2:EK wy tx)
  (hx:Step E ops x s s1 tx wx) (hy:Step E ops y s1 s2 ty wy):∃ s1',Step E ops y s s1' ty wy∧Step E ops x s1' s2 tx wx:=by
 obtain ⟨a1,a2,a3⟩:=Oper.apart_spec hap
 obtain ⟨vx,wrx,rfl,rfl,hwx,kx⟩:=hx.at
 obtain ⟨vy,wry,rfl,rfl,hwy,ky⟩:=hy.at
 have noty:∀ n∈ty,bW s.b wrx n=s.b n:=fun n hn=>HT fun p hp e=>h1 p.1 (List.mem_map.2 ⟨p,hp,rfl⟩) (e ▸ hn)
 have notx:∀ n∈tx,bW s.b wry n=s.b n:=fun n hn=>HT fun p hp e=>h2 p.1 (List.mem_map.2 ⟨p,hp,rfl⟩) (e ▸ hn)
 have sy:Step E ops y s (s.put y.dst vy wry) ty (wry.map (·.1)):=ky s
  (by simp only [St.put]; exact (qS a1).symm)
  (fun z hz=>by
   simp only [St.put]
   exact (FG fun d hd e=>a1 d hd (nM (by rw [← e]; exact hz))).symm)
  (fun n hn=>(noty n hn).symm)
 refine ⟨_,sy,?_⟩
 have sx:=kx (s.put y.dst vy wry)
  (by simp only [St.put]; exact qS a3)
  (fun z hz=>by
   simp only [St.put]
   exact FG fun d hd e=>a3 d hd (nM (by rw [← e]; exact hz)))
  (fun n hn=>notx n hn)
 rw [St.put_comm s vx vy wrx wry a2 (fun p hp q hq e=>h1 p.1 (List.mem_map.2 ⟨p,hp,rfl⟩) (hwy _ (List.mem_map.2 ⟨q,hq,e.symm⟩)))]
 exact sx
def Path (E:dA) (ops:Array Oper) (inf:Nat→List Nat×List Nat):List Nat→St→St→Prop
 | [],s,s'=>s=s'
 | i::l,s,s'=>∃ o s1,ops[i]?=some o∧Step E ops o s s1 (inf i).1 (inf i).2∧Path E ops inf l s1 s'
def PG (ops:Array Oper) (inf:Nat→List Nat×List Nat) (i j:Nat):Prop :=
 ∀ x y,ops[i]?=some x→ops[j]?=some y→x.apart ops y=true∧EK (inf i).2 (inf j).1∧EK (inf j).2 (inf i).1
theorem Path.front {E:dA} {ops:Array Oper} {inf:Nat→List Nat×List Nat} {k:Nat} {l2:List Nat}:∀ (l1:List Nat) (s s':St),(∀ i∈l1,PG ops inf i k)→Path E ops inf (l1++k::l2) s s'→Path E ops inf (k::(l1++l2)) s s'
 | [],s,s',_,h=>h
 | i::l1,s,s',hf,h=>by
   obtain ⟨o,s1,ho,hs,hp⟩:=h
   obtain ⟨o',s2,ho',hs',hp'⟩:=Path.front l1 s1 s' (fun j hj=>hf j (List.mem_cons_of_mem _ hj)) hp
   obtain ⟨f1,f2,f3⟩:=hf i List.mem_cons_self o o' ho ho'
   obtain ⟨s1',g1,g2⟩:=Step.swap f1 f2 f3 hs hs'
   exact ⟨o',s1',ho',g1,o,s2,ho,g2,hp'⟩
def YZ (acc:List Nat) (o:Oper):Nat:=o.after.toList.foldl (fun s e=>if Region.binds .any e then s ||| 2 ^ e.on ||| acc.getD e.on 0 else s) 0
def kR:List Oper→List Nat→List Nat
 | [],acc=>acc
 | o::os,acc=>kR os (acc++[YZ acc o])
def iU (ops:List Oper):List Nat:=kR ops []
theorem rM:∀ (ops:List Oper) (acc:List Nat) (i:Nat),i<acc.length→(kR ops acc)[i]?=acc[i]?
 | [],_,_,_=>rfl
 | o::os,acc,i,h=>by
   rw [kR,rM os _ i (by simp; omega),List.getElem?_append_left h]
theorem zV:∀ (ops:List Oper) (acc:List Nat) (i:Nat) (o:Oper),ops[i]?=some o→∃ acc',(∀ k,k<acc.length+i→acc'[k]?=(kR ops acc)[k]?)∧acc'.length=acc.length+i∧(kR ops acc)[acc.length+i]?=some (YZ acc' o)
 | [],_,_,_,h=>by simp at h
 | o'::os,acc,0,o,h=>by
   simp at h
   subst h
   refine ⟨acc,fun k hk=>?_,rfl,?_⟩
   ·rw [kR,rM os _ k (by simp; omega),List.getElem?_append_left (by omega)]
   ·rw [kR,rM os _ _ (by simp)]; simp
 | o'::os,acc,i+1,o,h=>by
   obtain ⟨acc',h1,h2,h3⟩:=zV os (acc++[YZ acc o']) i o (by simpa using h)
   simp only [List.length_append,List.length_cons,List.length_nil,Nat.zero_add] at h1 h2 h3
   exact ⟨acc',fun k hk=>h1 k (by omega),by omega,by rw [kR,show acc.length+(i+1)=acc.length+1+i from by omega]; exact h3⟩
theorem HN (acc:List Nat) (k:Nat):∀ (es:List Edge) (s:Nat),(es.foldl (fun s e=>if Region.binds .any e then s ||| 2 ^ e.on ||| acc.getD e.on 0 else s) s).testBit k=true →
  s.testBit k=true∨∃ e∈es,Region.binds .any e=true∧(e.on=k∨(acc.getD e.on 0).testBit k=true)
 | [],s,h=>.inl h
 | e::es,s,h=>by
   rw [List.foldl_cons] at h
   rcases HN acc k es _ h with h | ⟨e',he',h⟩
   ·split at h
    ·rename_i hb
     simp only [Nat.testBit_or,Bool.or_eq_true] at h
     rcases h with (h | h) | h
     ·exact .inl h
     ·rw [Nat.testBit_two_pow] at h
      exact .inr ⟨e,List.mem_cons_self,hb,.inl (by simpa using h)⟩
     ·exact .inr ⟨e,List.mem_cons_self,hb,.inr h⟩
    ·exact .inl h
   ·exact .inr ⟨e',List.mem_cons_of_mem _ he',h⟩
def oS (ops:List Oper):Bool:=ops.zipIdx.all fun (o,i)=>o.after.toList.all fun e=>!Region.binds .any e||decide (e.on<i)
theorem pP {ops:List Oper} (h:oS ops=true) {i:Nat} {o:Oper} (hi:ops[i]?=some o) {e:Edge} (he:e∈o.after) (hb:Region.binds .any e=true):e.on<i:=by
 unfold oS at h
 rw [List.all_eq_true] at h
 have:=h (o,i) (List.mem_iff_getElem?.2 ⟨i,by simp [List.getElem?_zipIdx,hi]⟩)
 rw [List.all_eq_true] at this
 have:=this e (by simpa using he)
 simpa [hb] using this
theorem xT {ops:List Oper} (hed:oS ops=true) {i k:Nat} {o:Oper} (hi:ops[i]?=some o) (h:((iU ops).getD i 0).testBit k=true) :
  ∃ e∈o.after,Region.binds .any e=true∧(e.on=k∨((iU ops).getD e.on 0).testBit k=true):=by
 obtain ⟨acc',h1,h2,h3⟩:=zV ops [] i o hi
 simp only [List.length_nil,Nat.zero_add] at h1 h2 h3
 rw [List.getD_eq_getElem?_getD,iU,h3,Option.getD_some] at h
 rcases HN acc' k _ 0 h with h | ⟨e,he,hb,h⟩
 ·simp at h
 ·refine ⟨e,by simpa using he,hb,h.imp id fun h=>?_⟩
  rw [List.getD_eq_getElem?_getD,iU,← h1 e.on (pP hed hi (by simpa using he) hb),← List.getD_eq_getElem?_getD]
  exact h
theorem aCR {E:dA} {C:kD} (hP:C.P=E.P) (hG:C.G=E.G) {N nb:Nat} (hN:N≤aB) {ops:Array Oper} (hd:∀ (i:Nat) (o:Oper),ops[i]?=some o→∀ d,o.dst=some d→d<N) (hed:oS ops.toList=true)
  {inf:Nat→List Nat×List Nat} (hfree:∀ i j,i<j→j<ops.size→((iU ops.toList).getD j 0).testBit i=true∨PG ops inf i j) {Q:Exit→Act→World→Prop} {s':St} (hQ:∀ a w,Inv C N nb s' a w→Q .normal a w) :
  ∀ (fuel:Nat) (l:List Nat) (listed:Array Bool) (s:St) (a:Act) (w:World),l.Pairwise (·<·)→(∀ i,i∈l↔i<ops.size∧listed.getD i true=false)→listed.size=ops.size →
    (∀ i k,i<ops.size→listed.getD i true=true→((iU ops.toList).getD i 0).testBit k=true→listed.getD k false=true)→l.length≤fuel →
    Path E ops inf l s s'→Inv C N nb s a w→wpAny E.P .any ops Q fuel listed a w:=by
 intro fuel
 induction fuel with
 | zero =>
   intro l listed s a w _ hl hsz _ hlen hp inv
   have:l=[]:=List.length_eq_zero_iff.1 (by omega)
   subst this
   refine ⟨?_,by simp only [Path] at hp; subst hp; exact hQ a w inv⟩
   apply List.eq_nil_iff_forall_not_mem.2
   intro i hi
   obtain ⟨h0,o,ho,_⟩:=mem_ready.1 hi
   have:=(hl i).2 ⟨(Array.getElem?_eq_some_iff.1 ho).1,h0⟩
   cases this
 | succ fuel ih =>
   intro l listed s a w hpw hl hsz hdc hlen hp inv
   have hget:∀ i,i<ops.size→listed.getD i true=listed.getD i false:=fun i hi=>by simp [hsz,hi]
   refine ⟨fun hr=>?_,fun i hi=>?_⟩
   ·cases l with
    | nil=>simp only [Path] at hp; subst hp; exact hQ a w inv
    | cons i l =>
      exfalso
      have hi:=(hl i).1 List.mem_cons_self
      have:i∈Region.ready .any ops listed:=mem_ready.2 ⟨hi.2,ops[i],by simp [hi.1],fun e he hb=>by
       have hlt:=pP hed (i:=i) (o:=ops[i]) (by simp [hi.1]) he hb
       have hes:e.on<ops.size:=by omega
       rw [← hget _ hes]
       cases hc:listed.getD e.on true with
       | true=>rfl
       | false =>
         have hmem:=(hl e.on).2 ⟨hes,hc⟩
         rcases List.mem_cons.1 hmem with rfl | hmem
         ·omega
         ·have:=(List.pairwise_cons.1 hpw).1 _ hmem; omega⟩
      rw [hr] at this
      cases this
   ·obtain ⟨h0,o,ho,hall⟩:=mem_ready.1 hi
    have hlt:i<ops.size:=(Array.getElem?_eq_some_iff.1 ho).1
    have hmem:=(hl i).2 ⟨hlt,h0⟩
    obtain ⟨l1,l2,rfl⟩:=List.append_of_mem hmem
    have hdone:∀ k,((iU ops.toList).getD i 0).testBit k=true→listed.getD k false=true:=fun k hk=>by
     obtain ⟨e,he,hb,h⟩:=xT hed (by simpa using ho) hk
     rcases h with rfl | h
     ·exact hall e he hb
     ·have hes:e.on<ops.size:=by have:=pP hed (by simpa using ho) he hb; omega
      exact hdc e.on k hes (by rw [hget _ hes]; exact hall e he hb) h
    have hpw':=List.pairwise_append.1 hpw
    have hfr:∀ j∈l1,PG ops inf j i:=fun j hj=>by
     have hji:j<i:=hpw'.2.2 j hj i List.mem_cons_self
     rcases hfree j i hji hlt with h | h
     ·have hj':=(hl j).1 (List.mem_append_left _ hj)
      have:=hdone j h
      rw [← hget j hj'.1,hj'.2] at this; cases this
     ·exact h
    obtain ⟨o',s1,ho',hs,hp'⟩:=Path.front l1 s s' hfr hp
    rw [ho] at ho'; cases ho'
    refine mZ hP hG hN ho (hd i o ho) inv hs fun a' w' inv'=>?_
    have hni:∀ j∈l1++l2,j ≠ i:=fun j hj e=>by
     subst e
     rcases List.mem_append.1 hj with h | h
     ·exact absurd (hpw'.2.2 j h j List.mem_cons_self) (by omega)
     ·exact absurd ((List.pairwise_cons.1 hpw'.2.1).1 j h) (by omega)
    refine ih (l1++l2) (listed.setIfInBounds i true) s1 a' w' ?_ (fun j=>?_) (by simpa using hsz) (fun j k hj hjl hk=>?_) (by simp at hlen ⊢; omega) hp' inv'
    ·exact List.pairwise_append.2 ⟨hpw'.1,(List.pairwise_cons.1 hpw'.2.1).2,fun x hx y hy=>hpw'.2.2 x hx y (List.mem_cons_of_mem _ hy)⟩
    ·by_cases e:j=i
     ·subst e
      constructor
      ·intro h; exact absurd rfl (hni j h)
      ·rintro ⟨_,h⟩; simp [hsz,hlt] at h
     ·rw [getD_set_ne true (Ne.symm e),← hl j]
      simp [e]
    ·by_cases e:j=i
     ·subst e; exact getD_set_true (hdone k hk)
     ·rw [getD_set_ne true (Ne.symm e)] at hjl
      exact getD_set_true (hdc j k hj hjl hk)
abbrev eX:=List Nat×List Nat
def fO (E:dA) (o:Oper) (st:St) (K:St→List Nat→List Nat→Prop):Prop :=
 match zK E.P (mX E.G st.s) o (bM (oE (mX E.G st.s) o) st.b) with
 | some (v,wr)=>wr.all (fun p=>(oE (mX E.G st.s) o).contains p.1)=true∧K (st.put o.dst v wr) (oE (mX E.G st.s) o) (wr.map (·.1))
 | none=>False
def nV (E:dA) (f:FuncId) (args:List AV) (dst:Option Tmp) (st:St) (K:St→List Nat→List Nat→Prop):Prop :=
 ∃ ks d y B',(dst=some d∨B'.length=ks.length)∧OA E f args st.b ks d y B' ∧
   K (st.put dst (iA ks d y) (eC st.b (aT ks st.b args)++dF ks d B'))
     (aT ks st.b args++ks++(dF ks d B').map (·.1)) (aT ks st.b args++(dF ks d B').map (·.1))
def mR (E:dA) (o:Oper) (st:St) (K:St→List Nat→List Nat→Prop):Prop :=
 match o.op with
 | .call { callee:=.value fo,args,.. }=>match mX E.G st.s fo with
   | .clo f caps=>nV E f (args.toList.map (mX E.G st.s)++caps) o.dst st K
   | .bnd f fs=>nV E f (fs++args.toList.map (mX E.G st.s)) o.dst st K
   | _=>False
 | _=>fO E o st K
theorem GJ (bl:Nat→Blk) (l:List Nat):(eC bl l).map (·.1)=l:=by simp [eC,List.map_map,Function.comp_def]
theorem XB {E:dA} {ops:Array Oper} {o:Oper} {st:St} {K:St→List Nat→List Nat→Prop} (hw:eK ops o st.s=some true) (h:fO E o st K):∃ st' t wn,Step E ops o st st' t wn∧K st' t wn:=by
 unfold fO at h
 split at h
 ·rename_i v wr he
  refine ⟨_,_,_,.inl ⟨hw,v,wr,.inl he,fun p hp=>?_,rfl,rfl⟩,h.2⟩
  have:=h.1
  rw [List.all_eq_true] at this
  simpa using this p hp
 ·exact h.elim
mutual
theorem aCj {r:Nat→Option Nat} {bl:Nat→Blk} {kn:Bool} {t:List Nat}:∀ (c:AV),(∀ k∈(jW r bl kn c).2,k∈t)→jW r (bM t bl) kn c=jW r bl kn c
 | .d _,_=>rfl
 | .un,_=>rfl
 | .sk,_=>rfl
 | .nils,_=>rfl
 | .dp _,_=>rfl
 | .ptr n i j,_=>rfl
 | .ref n lo len sz,h=>by
   simp only [jW] at *
   split
   ·rfl
   ·rename_i hr
    simp only [hr] at h
    cases ht:OB bl (.ref n lo len sz) with
    | none =>
      have:OB (bM t bl) (.ref n lo len sz)=none:=by
       simp only [OB] at *
       unfold bM
       split
       ·rename_i e s xs f hb
        split at hb
        ·simp only [hb] at ht; exact ht
        ·cases hb
       ·rfl
      rw [this]
    | some p =>
      obtain ⟨x,l⟩:=p
      rw [ht] at h
      have hl:l=[n]:=by
       simp only [OB] at ht
       split at ht
       ·split at ht <;> simp only [Option.some.injEq,Prod.mk.injEq,reduceCtorEq] at ht
        exact ht.2.symm
       ·cases ht
      have hn:n∈t:=h n (by rw [hl]; simp)
      have:OB (bM t bl) (.ref n lo len sz)=OB bl (.ref n lo len sz):=by simp [OB,bM,hn]
      rw [this,ht]
 | .mref n,_=>rfl
 | .anyb,_=>rfl
 | .agg cs,h=>by simp only [jW] at *; rw [gU cs h]
 | .tup cs,h=>by simp only [jW] at *; rw [gU cs h]
 | .clo f cs,h=>by simp only [jW] at *; rw [gU cs h]
 | .bnd f cs,h=>by simp only [jW] at *; rw [gU cs h]
theorem gU {r:Nat→Option Nat} {bl:Nat→Blk} {kn:Bool} {t:List Nat}:∀ (cs:List AV),(∀ k∈(fL r bl kn cs).2,k∈t)→fL r (bM t bl) kn cs=fL r bl kn cs
 | [],_=>rfl
 | c::cs,h=>by
   simp only [fL] at *
   rw [aCj c fun k hk=>h k (List.mem_append_left _ hk),gU cs fun k hk=>h k (List.mem_append_right _ hk)]
end
theorem BJ {r:Nat→Option Nat} {bl:Nat→Blk} {kn:Bool} {t:List Nat} {b:Blk} (h:∀ k∈(qG r bl kn b).2,k∈t):qG r (bM t bl) kn b=qG r bl kn b:=by
 cases b <;> simp only [qG] at h ⊢
 ·rw [gU _ h]
 ·rename_i ety sz xs
  have e:∀ x∈xs,fL r (bM t bl) kn x=fL r bl kn x:=fun x hx=>gU x fun k hk=>h k (List.mem_flatMap.2 ⟨x,hx,hk⟩)
  have e1:xs.map (fun x=>(fL r (bM t bl) kn x).1)=xs.map fun x=>(fL r bl kn x).1:=List.map_congr_left fun x hx=>by rw [e x hx]
  have e2:(xs.flatMap fun x=>(fL r (bM t bl) kn x).2)=xs.flatMap fun x=>(fL r bl kn x).2:=by
   rw [List.flatMap_def,List.flatMap_def]
   congr 1
   exact List.map_congr_left fun x hx=>by rw [e x hx]
  rw [e1,e2]
theorem GK {E:dA} {ops:Array Oper} {o:Oper} {st:St} {K:St→List Nat→List Nat→Prop} {c:Call} {fo:Operand} {f:FuncId} {args:List AV} (hop:o.op=.call c) (hcal:c.callee=.value fo) (hfo:tB (mX E.G st.s fo) (c.args.toList.map (mX E.G st.s))=some (f,args))
  (hw:eK ops o st.s=some true) (h:nV E f args o.dst st K):∃ st' t wn,Step E ops o st st' t wn∧K st' t wn:=by
 obtain ⟨ks,d,y,B',hdst,ok,hK⟩:=h
 generalize ht:aT ks st.b args++ks++(dF ks d B').map (·.1)=t at hK
 have hfr:∀ k∈aT ks st.b args,k∈t:=fun k hk=>by rw [← ht]; exact List.mem_append_left _ (List.mem_append_left _ hk)
 have hks:∀ k∈ks,k∈t:=fun k hk=>by rw [← ht]; exact List.mem_append_left _ (List.mem_append_right _ hk)
 have hout:∀ k∈(dF ks d B').map (·.1),k∈t:=fun k hk=>by rw [← ht]; exact List.mem_append_right _ hk
 have e1:fN ks (bM t st.b) args=fN ks st.b args:=gU _ fun k hk=>hfr k (List.mem_append_left _ hk)
 have e2:bE ks (bM t st.b)=bE ks st.b:=by
  unfold bE
  apply List.map_congr_left
  intro n hn
  have hb:bM t st.b n=st.b n:=by simp [bM,hks n hn]
  rw [hb]
  have hall:∀ k∈(qG (kY ks) st.b true (st.b n)).2,k∈t:=fun k hk=>hfr k (List.mem_append_right _ (by
   simp only [bE,List.mem_flatMap,List.mem_map]
   exact ⟨_,⟨n,hn,rfl⟩,hk⟩))
  exact BJ hall
 have e3:aT ks (bM t st.b) args=aT ks st.b args:=by unfold aT; rw [e1,e2]
 have e4:eC (bM t st.b) (aT ks (bM t st.b) args)=eC st.b (aT ks st.b args):=by rw [e3]; exact GF hfr
 have ok':OA E f args (bM t st.b) ks d y B':=⟨ok.nodup,fun n hn=>by rw [show bM t st.b n=st.b n from by simp [bM,hks n hn]]; exact ok.live n hn,ok.len,fun j hj=>by
  have:dS d j∈t:=hout _ (by
   unfold dF
   simp only [List.map_map,List.mem_map,List.mem_range]
   refine ⟨ks.length+j,by omega,?_⟩
   simp only [Function.comp_apply,bZ]
   rw [if_neg (by omega)]; congr 1; omega)
  rw [show bM t st.b (dS d j)=st.b (dS d j) from by simp [bM,this]]
  exact ok.free j hj,ok.low,by
   obtain ⟨kn,hc⟩:=ok.cf
   refine ⟨kn,?_⟩
   rw [gU args fun k hk=>hfr k (List.mem_append_left _ (by rw [qN] at hk; exact hk)),e2]
   exact hc⟩
 refine ⟨_,t,_,.inl ⟨hw,iA ks d y,eC st.b (aT ks st.b args)++dF ks d B',.inr ⟨c,fo,f,args,ks,d,y,B',hop,hcal,hfo,hdst,ok',rfl,by rw [e4]⟩,fun p hp=>?_,rfl,rfl⟩,?_⟩
 ·rcases List.mem_append.1 hp with hp | hp
  ·exact hfr _ (by rw [← GJ st.b (aT ks st.b args)]; exact List.mem_map.2 ⟨p,hp,rfl⟩)
  ·exact hout _ (List.mem_map.2 ⟨p,hp,rfl⟩)
 ·rw [List.map_append,GJ]; exact hK
theorem zA {E:dA} {ops:Array Oper} {o:Oper} {st:St} {K:St→List Nat→List Nat→Prop} (hw:eK ops o st.s=some true) (h:mR E o st K):∃ st' t wn,Step E ops o st st' t wn∧K st' t wn:=by
 unfold mR at h
 split at h
 ·rename_i fo args types hop
  split at h
  ·rename_i f caps hfo
   exact GK hop rfl (by rw [hfo]; rfl) hw h
  ·rename_i f caps hfo
   exact GK hop rfl (by rw [hfo]; rfl) hw h
  ·exact h.elim
 ·exact XB hw h
def rX (E:dA) (ops:Array Oper):List Oper→St→List eX→(St→List eX→Prop)→Prop
 | [],st,lg,K=>K st lg
 | o::rest,st,lg,K=>match eK ops o st.s with
   | some b=>(b=true→mR E o st fun st' t wn=>rX E ops rest st' (lg++[(t,wn)]) K)∧(b=false→rX E ops rest (st.put o.dst .sk []) (lg++[([],[])]) K)
   | none=>False
theorem LS {E:dA} {ops:Array Oper}:∀ (rest:List Oper) (st:St) (lg:List eX) (K:St→List eX→Prop),rX E ops rest st lg K→(∀ i,rest[i]?=ops[lg.length+i]?) →
  ∃ s' ext,ext.length=rest.length∧K s' (lg++ext)∧∀ inf:Nat→eX,(∀ i e,ext[i]?=some e→inf (lg.length+i)=e)→Path E ops inf (List.range' lg.length rest.length) st s'
 | [],st,lg,K,h,_=>⟨st,[],rfl,by simpa [rX] using h,fun inf _=>rfl⟩
 | o::rest,st,lg,K,h,hidx=>by
   have ho:ops[lg.length]?=some o:=by simpa using (hidx 0).symm
   have hidx':∀ e i,rest[i]?=ops[(lg++[e]).length+i]?:=fun e i=>by
    have:=hidx (i+1)
    simp only [List.getElem?_cons_succ] at this
    rw [this]; congr 1; simp; omega
   have fin:∀ (s1:St) (t wn:List Nat),Step E ops o st s1 t wn→rX E ops rest s1 (lg++[(t,wn)]) K →
     ∃ s' ext,ext.length=(o::rest).length∧K s' (lg++ext)∧∀ inf:Nat→eX,(∀ i e,ext[i]?=some e→inf (lg.length+i)=e)→Path E ops inf (List.range' lg.length (o::rest).length) st s':=by
    intro s1 t wn hs hr
    obtain ⟨s',ext,h1,h2,h3⟩:=LS rest s1 _ K hr (hidx' _)
    refine ⟨s',(t,wn)::ext,by simp [h1],by simpa using h2,fun inf hinf=>?_⟩
    simp only [List.length_cons,List.range'_succ]
    have h0:=hinf 0 (t,wn) rfl
    simp only [Nat.add_zero] at h0
    refine ⟨o,s1,ho,by rw [h0]; exact hs,?_⟩
    have:=h3 inf fun i e he=>by
     have:=hinf (i+1) e (by simpa using he)
     rw [← this]; congr 1; simp; omega
    simpa using this
   simp only [rX] at h
   split at h
   ·rename_i b hb
    cases b with
    | true =>
      obtain ⟨st',t,wn,hs,hr⟩:=zA hb (h.1 rfl)
      exact fin st' t wn hs hr
    | false=>exact fin _ [] [] (.inr ⟨hb,rfl,rfl,rfl⟩) (h.2 rfl)
   ·exact h.elim
def RN (l l':List Nat):Bool:=l.all fun n=>!l'.contains n
theorem xP {l l':List Nat} (h:RN l l'=true):EK l l':=fun n hn=>by
 unfold RN at h
 rw [List.all_eq_true] at h
 simpa using h n hn
def BK (ops:Array Oper) (ms:List Nat) (lg:List eX):List (Nat×Oper)→Bool
 | []=>true
 | (j,y)::rest=>(ops.toList.zipIdx.take j).all (fun (x,i)=>(ms.getD j 0).testBit i||(x.apart ops y&&RN (lg.getD i ([],[])).2 (lg.getD j ([],[])).1&&RN (lg.getD j ([],[])).2 (lg.getD i ([],[])).1))&&BK ops ms lg rest
def DM (N:Nat) (draw:Bool) (ops:Array Oper) (lg:List eX):Bool :=
 ops.toList.all (fun o=>match o.dst with | some d=>decide (d<N) | none=>true) &&
 (!draw||(oS ops.toList&&BK ops (iU ops.toList) lg (ops.toList.zipIdx.map fun (o,i)=>(i,o))))
theorem lQ {ops:Array Oper} {ms:List Nat} {lg:List eX}:∀ (l:List (Nat×Oper)),BK ops ms lg l=true→∀ j y,(j,y)∈l→∀ i x,i<j→ops[i]?=some x →
  (ms.getD j 0).testBit i=true∨(x.apart ops y=true∧EK (lg.getD i ([],[])).2 (lg.getD j ([],[])).1∧EK (lg.getD j ([],[])).2 (lg.getD i ([],[])).1)
 | [],_,j,y,h=>by cases h
 | (j',y')::rest,h,j,y,hm=>by
   simp only [BK,Bool.and_eq_true] at h
   rcases List.mem_cons.1 hm with e | hm
   ·simp only [Prod.mk.injEq] at e
    obtain ⟨rfl,rfl⟩:=e
    intro i x hij hx
    have h1:=h.1
    rw [List.all_eq_true] at h1
    have:=h1 (x,i) (List.mem_iff_getElem?.2 ⟨i,by rw [List.getElem?_take,if_pos hij,List.getElem?_zipIdx]; simp [hx]⟩)
    simp only [Bool.or_eq_true,Bool.and_eq_true] at this
    exact this.imp id fun h=>⟨h.1.1,xP h.1.2,xP h.2⟩
   ·exact lQ rest h.2 j y hm
inductive AExit where
 | normal
 | exit (id:Nat)
 | ret
def AExit.to:AExit→Exit
 | .normal=>.normal
 | .exit id=>.exit id
 | .ret=>.ret
def Awp (E:dA) (N nb:Nat) (c:Code) (st:St) (Q:AExit→St→Prop):Prop :=
 ∀ (C:kD),C.P=E.P→C.G=E.G→∀ a w,Inv C N nb st a w→∀ R:Exit→Act→World→Prop,(∀ e st' a' w',Q e st'→Inv C N nb st' a' w'→R e.to a' w')→c.wp E.P R a w
theorem Inv.drew {C:kD} {N nb:Nat} {st:St} {a:Act} {w:World} (h:Inv C N nb st a w):Inv C N nb st a w.drew :=
 ⟨h.high,h.defers,h.size,let ⟨g,h1,h2⟩:=h.ex; ⟨g,h1,h2.drew⟩⟩
theorem RO {E:dA} {C:kD} (hP:C.P=E.P) (hG:C.G=E.G) {N nb:Nat} (hN:N≤aB) {ops:Array Oper} (hd:∀ (i:Nat) (o:Oper),ops[i]?=some o→∀ d,o.dst=some d→d<N) {inf:Nat→eX} {Q:Exit→Act→World→Prop} {s':St}
  (hQ:∀ a w,Inv C N nb s' a w→Q .normal a w):∀ (l:List Nat) (s:St) (a:Act) (w:World),Path E ops inf l s s'→Inv C N nb s a w→wpOps E.P ops Q l a w
 | [],s,a,w,hp,inv=>by simp only [Path] at hp; subst hp; exact hQ a w inv
 | i::l,s,a,w,hp,inv=>by
   obtain ⟨o,s1,ho,hs,hp'⟩:=hp
   rw [wpOps_cons]
   exact mZ hP hG hN ho (hd i o ho) inv hs fun a' w' inv'=>RO hP hG hN hd hQ l s1 a' w' hp' inv'
theorem GL {E:dA} (hmix:E.P.follows .mixedOrders=true) {N nb:Nat} (hN:N≤aB) {id:Nat} {ops:Array Oper} {draw:Bool} {st:St} {Q:AExit→St→Prop}
  (h:rX E ops ops.toList st [] fun st' lg=>DM N draw ops lg=true∧Q .normal st'):Awp E N nb (.region id ops draw) st Q:=by
 intro C hP hG a w inv R hR
 obtain ⟨s',ext,hlen,⟨hok,hQ⟩,hpath⟩:=LS _ _ _ _ h (fun i=>by simp)
 simp only [List.nil_append] at hok
 have hp:=hpath (fun i=>ext.getD i ([],[])) (fun i e he=>by simp [he])
 simp only [List.length_nil] at hp
 simp only [DM,Bool.and_eq_true] at hok
 have hd:∀ (i:Nat) (o:Oper),ops[i]?=some o→∀ d,o.dst=some d→d<N:=fun i o ho d hd=>by
  have:=hok.1
  rw [List.all_eq_true] at this
  have:=this o (by simpa using Array.mem_of_getElem? ho)
  simpa [hd] using this
 have hQ':∀ a w,Inv C N nb s' a w→R .normal a w:=fun a w inv=>hR .normal s' a w hQ inv
 cases draw with
 | false =>
   refine wp_region ?_
   have hl:(ops.toList.length)=ops.size:=by simp
   rw [hl] at hp
   rw [List.range_eq_range']
   exact RO hP hG hN hd hQ' _ st a w hp inv
 | true =>
   simp only [Bool.not_true,Bool.false_or,Bool.and_eq_true] at hok
   refine wp_region_any hmix ?_
   have hfree:∀ i j,i<j→j<ops.size→((iU ops.toList).getD j 0).testBit i=true∨PG ops (fun i=>ext.getD i ([],[])) i j:=fun i j hij hj=>by
    have hy:ops[j]?=some ops[j]:=by simp [hj]
    have hx:ops[i]?=some ops[i]:=by simp [show i<ops.size from by omega]
    have:=lQ _ hok.2.2 j ops[j] (List.mem_map.2 ⟨(ops[j],j),List.mem_iff_getElem?.2 ⟨j,by simp [hj]⟩,rfl⟩) i ops[i] hij hx
    refine this.imp (fun e=>e) fun h x y ex ey=>?_
    rw [hx] at ex; rw [hy] at ey
    cases ex; cases ey
    exact h
   have hin:∀ i,(Array.replicate ops.size false).getD i true=false↔i<ops.size:=fun i=>by
    by_cases h:i<ops.size <;> simp [h]
   exact aCR hP hG hN hd hok.2.1 hfree hQ' ops.size (List.range' 0 ops.toList.length) _ st a _ (List.pairwise_lt_range' ..) (fun i=>by
    rw [hin i]; simp) (by simp) (fun i k hi hli=>by
    have:=(hin i).2 hi
    rw [this] at hli; cases hli) (by simp) hp inv.drew
theorem Inv.slot {C:kD} {N nb:Nat} {st:St} {a:Act} {w:World} (inv:Inv C N nb st a w) {x:Operand} {b:Bool} (h:mX C.G st.s x=.d (.bool b)):a.eval x=.bool b:=by
 obtain ⟨_,_,_,g,hs,m⟩:=inv
 have:=vB m hs x
 rw [h] at this
 simpa [aG,aU] using this
theorem Inv.slotv {C:kD} {N nb:Nat} {st:St} {a:Act} {w:World} (inv:Inv C N nb st a w) {x:Operand} (h:mX C.G st.s x=.anyb):∃ b,a.eval x=.bool b:=by
 obtain ⟨_,_,_,g,hs,m⟩:=inv
 have:=vB m hs x
 rw [h] at this
 simpa [aG] using this
def RP (E:dA) (N nb:Nat) (c:Code) (st:St) (Q:AExit→St→Prop):Prop:=Awp E N nb (.loop c) st Q
def fJ (E:dA) (N nb:Nat):Code→St→(AExit→St→Prop)→Prop
 | .skip,st,Q=>Q .normal st
 | .region _ ops draw,st,Q=>rX E ops ops.toList st [] fun st' lg=>DM N draw ops lg=true∧Q .normal st'
 | .seq x y,st,Q=>fJ E N nb x st fun e st'=>match e with
   | .normal=>fJ E N nb y st' Q
   | e=>Q e st'
 | .cond c x y,st,Q=>match mX E.G st.s c with
   | .d (.bool b)=>(b=true→fJ E N nb x st Q)∧(b=false→fJ E N nb y st Q)
   | .anyb=>fJ E N nb x st Q∧fJ E N nb y st Q
   | _=>False
 | .block id c,st,Q=>fJ E N nb c st fun e st'=>match e with
   | .exit id'=>if id'=id then Q .normal st' else Q (.exit id') st'
   | e=>Q e st'
 | .exit id,st,Q=>Q (.exit id) st
 | .ret,st,Q=>Q .ret st
 | .loop c,st,Q=>RP E N nb c st Q
 | _,_,_=>False
theorem fZ {E:dA} (hmix:E.P.follows .mixedOrders=true) {N nb:Nat} (hN:N≤aB):∀ (c:Code) (st:St) (Q:AExit→St→Prop),fJ E N nb c st Q→Awp E N nb c st Q
 | .skip,st,Q,h=>fun C hP hG a w inv R hR=>wp_skip (hR .normal st a w h inv)
 | .region id ops draw,st,Q,h=>GL hmix hN h
 | .seq x y,st,Q,h=>fun C hP hG a w inv R hR=>wp_seq (fZ hmix hN x st _ h C hP hG a w inv _ fun e st' a' w' hq inv'=>by
   cases e with
   | normal=>exact fZ hmix hN y st' Q hq C hP hG a' w' inv' R hR
   | exit id=>exact hR _ st' a' w' hq inv'
   | ret=>exact hR _ st' a' w' hq inv')
 | .cond c x y,st,Q,h=>fun C hP hG a w inv R hR=>by
   simp only [fJ] at h
   split at h
   ·rename_i b hb
    have hv:=inv.slot (x:=c) (by rw [hG]; exact hb)
    cases b with
    | true=>exact wp_cond_true hv (fZ hmix hN x st Q (h.1 rfl) C hP hG a w inv R hR)
    | false=>exact wp_cond_false hv (fZ hmix hN y st Q (h.2 rfl) C hP hG a w inv R hR)
   ·rename_i hb
    have hv:=inv.slotv (x:=c) (by rw [hG]; exact hb)
    obtain ⟨b,hv⟩:=hv
    cases b with
    | true=>exact wp_cond_true hv (fZ hmix hN x st Q h.1 C hP hG a w inv R hR)
    | false=>exact wp_cond_false hv (fZ hmix hN y st Q h.2 C hP hG a w inv R hR)
   ·exact h.elim
 | .block id c,st,Q,h=>fun C hP hG a w inv R hR=>wp_block (fZ hmix hN c st _ h C hP hG a w inv _ fun e st' a' w' hq inv'=>by
   cases e with
   | normal=>exact hR _ st' a' w' hq inv'
   | exit id' =>
     simp only at hq
     simp only [AExit.to,Exit.inBlock]
     split at hq
     ·rename_i e; rw [if_pos e]; exact hR .normal st' a' w' hq inv'
     ·rename_i e; rw [if_neg e]; exact hR (.exit id') st' a' w' hq inv'
   | ret=>exact hR _ st' a' w' hq inv')
 | .exit id,st,Q,h=>fun C hP hG a w inv R hR=>wp_exit (hR (.exit id) st a w h inv)
 | .ret,st,Q,h=>fun C hP hG a w inv R hR=>wp_ret (hR .ret st a w h inv)
 | .loop c,st,Q,h=>h
 | .rangeFunc ..,st,Q,h=>by simp [fJ] at h
 | .scope ..,st,Q,h=>by simp [fJ] at h
 | .label ..,st,Q,h=>by simp [fJ] at h
 | .goto ..,st,Q,h=>by simp [fJ] at h
 | .refuse ..,st,Q,h=>by simp [fJ] at h
def Sub (E:dA) (N nb:Nat) (st st2:St):Prop:=∀ (C:kD),C.P=E.P→C.G=E.G→∀ a w,Inv C N nb st a w→Inv C N nb st2 a w
theorem Sub.refl (E:dA) (N nb:Nat) (st:St):Sub E N nb st st:=fun _ _ _ _ _ h=>h
theorem Sub.trans {E:dA} {N nb:Nat} {a b c:St} (x:Sub E N nb a b) (y:Sub E N nb b c):Sub E N nb a c:=fun C hP hG f w h=>y C hP hG f w (x C hP hG f w h)
theorem Awp.sub {E:dA} {N nb:Nat} {c:Code} {st st2:St} {Q:AExit→St→Prop} (h:Sub E N nb st st2) (hw:Awp E N nb c st2 Q):Awp E N nb c st Q :=
 fun C hP hG a w inv R hR=>hw C hP hG a w (h C hP hG a w inv) R hR
theorem aMz {E:dA} (hmix:E.P.follows .mixedOrders=true) {N nb:Nat} (hN:N≤aB) {c:Code} {st:St} {Q:AExit→St→Prop} {ι:Type} (F:ι→St) (meas:ι→Nat) (i0:ι) (h0:Sub E N nb st (F i0))
  (round:∀ i,fJ E N nb c (F i) fun e st'=>match e with
   | .normal=>∃ i',Sub E N nb st' (F i')∧meas i'<meas i
   | e=>Q e st'):RP E N nb c st Q:=by
 intro C hP hG a w inv R hR b k cs
 have key:∀ n i a w,meas i=n→Inv C N nb (F i) a w→∃ e a' w',R e a' w'∧Arrives E.P (lone (b.at a (.code c::.inLoop c::k)) cs w) b k cs e a' w':=by
  intro n
  induction n using Nat.strongRecOn with
  | _ n ih =>
    intro i a w hn inv
    obtain ⟨e,a₁,w₁,hq,harr⟩:=fZ hmix hN c (F i) _ (round i) C hP hG a w inv (fun e a' w'=>match e with
     | .normal=>∃ i',Inv C N nb (F i') a' w'∧meas i'<meas i
     | e=>R e a' w') (fun e st' a' w' hq inv'=>by
       cases e with
       | normal =>
         obtain ⟨i',hs,hm⟩:=hq
         exact ⟨i',hs C hP hG a' w' inv',hm⟩
       | exit id=>exact hR _ st' a' w' hq inv'
       | ret=>exact hR _ st' a' w' hq inv') b (.inLoop c::k) cs
    cases e with
    | normal =>
      obtain ⟨i',inv',hm⟩:=hq
      obtain ⟨e₂,a₂,w₂,hq₂,harr₂⟩:=ih (meas i') (hn ▸ hm) i' a₁ w₁ rfl inv'
      exact ⟨e₂,a₂,w₂,hq₂,.of_steps (Steps.trans harr (.one step_inLoop)) harr₂⟩
    | exit id=>exact ⟨_,a₁,w₁,hq,.pass (x:=.inLoop c) rfl (fun _ _=>.inl (by simp)) harr⟩
    | goto l=>exact ⟨_,a₁,w₁,hq,.pass (x:=.inLoop c) rfl (fun _ _=>.inl (by simp)) harr⟩
    | ret=>exact ⟨_,a₁,w₁,hq,.pass (x:=.inLoop c) rfl (fun _ _=>.inl (by simp)) harr⟩
    | panic ch=>exact ⟨_,a₁,w₁,hq,.pass (x:=.inLoop c) rfl (fun _ _=>.inl (by simp)) harr⟩
    | outgrown=>exact ⟨_,a₁,w₁,hq,.pass (x:=.inLoop c) rfl (fun _ _=>.inl (by simp)) harr⟩
 obtain ⟨e,a',w',hq,harr⟩:=key _ i0 a w rfl (h0 C hP hG a w inv)
 exact ⟨e,a',w',hq,.of_steps (.one step_loop) harr⟩
abbrev uQ:=List (Nat×Nat×Blk)
def aD:uQ→Nat→Option Nat
 | [],_=>none
 | (m,n,_)::r,k=>if k=n then some m else aD r k
def GS:uQ→Nat→Option Nat
 | [],_=>none
 | (m,n,_)::r,k=>if k=m then some n else GS r k
def eG (l:uQ):Nat→Blk:=bW (fun _=>.free) (l.map fun p=>(p.1,p.2.2))
def eP (l:List (Nat×AV)):Nat→AV:=bW (fun _=>.un) l
theorem RZ {α:Type} {f:Nat→α}:∀ (l:List (Nat×α)) (i:Nat),((∀ p∈l,p.1 ≠ i)∧bW f l i=f i)∨∃ p∈l,p.1=i∧bW f l i=p.2:=by
 intro l
 induction l generalizing f with
 | nil=>exact fun i=>.inl ⟨(fun p hp=>by cases hp),rfl⟩
 | cons p l ih =>
   intro i
   rcases ih (f:=dQ f p.1 p.2) i with ⟨h1,h2⟩ | ⟨q,hq,h1,h2⟩
   ·by_cases e:i=p.1
    ·exact .inr ⟨p,List.mem_cons_self,e.symm,by show bW (dQ f p.1 p.2) l i=_; rw [h2]; simp [dQ,e]⟩
    ·refine .inl ⟨fun q hq=>?_,by show bW (dQ f p.1 p.2) l i=_; rw [h2]; simp [dQ,e]⟩
     rcases List.mem_cons.1 hq with rfl | hq
     ·exact fun e'=>e e'.symm
     ·exact h1 q hq
   ·exact .inr ⟨q,List.mem_cons_of_mem _ hq,h1,h2⟩
theorem GT:∀ {l:uQ} {n m:Nat},aD l n=some m→∃ b,(m,n,b)∈l
 | [],_,_,h=>by cases h
 | (m',n',b)::r,n,m,h=>by
   simp only [aD] at h
   split at h
   ·rename_i e; cases h; subst e; exact ⟨b,List.mem_cons_self⟩
   ·obtain ⟨b',hb⟩:=GT h; exact ⟨b',List.mem_cons_of_mem _ hb⟩
theorem wG:∀ {l:uQ} {m n:Nat} {b:Blk},(l.map fun p=>p.2.1).Nodup→(m,n,b)∈l→aD l n=some m
 | [],_,_,_,_,h=>by cases h
 | (m',n',b')::r,m,n,b,hn,h=>by
   simp only [List.map_cons,List.nodup_cons] at hn
   simp only [aD]
   rcases List.mem_cons.1 h with e | h2
   ·cases e; simp
   ·rw [if_neg,wG hn.2 h2]
    rintro rfl
    exact hn.1 (List.mem_map.2 ⟨(m,n,b),h2,rfl⟩)
theorem LV:∀ {l:uQ} {m n:Nat} {b:Blk},(l.map fun p=>p.1).Nodup→(m,n,b)∈l→GS l m=some n
 | [],_,_,_,_,h=>by cases h
 | (m',n',b')::r,m,n,b,hn,h=>by
   simp only [List.map_cons,List.nodup_cons] at hn
   simp only [GS]
   rcases List.mem_cons.1 h with e | h2
   ·cases e; simp
   ·rw [if_neg,LV hn.2 h2]
    rintro rfl
    exact hn.1 (List.mem_map.2 ⟨(m,n,b),h2,rfl⟩)
theorem GU:∀ {l:uQ} {n m:Nat},GS l m=some n→∃ b,(m,n,b)∈l
 | [],_,_,h=>by cases h
 | (m',n',b)::r,n,m,h=>by
   simp only [GS] at h
   split at h
   ·rename_i e; cases h; subst e; exact ⟨b,List.mem_cons_self⟩
   ·obtain ⟨b',hb⟩:=GU h; exact ⟨b',List.mem_cons_of_mem _ hb⟩
structure KeptOk (nb:Nat) (bl:Nat→Blk) (l:uQ):Prop where
 new:(l.map fun p=>p.1).Nodup
 old:(l.map fun p=>p.2.1).Nodup
 cont:∀ p∈l,((bl p.2.1).live=true∨bl p.2.1=.dead)∧(qG (aD l) bl true (bl p.2.1)).1=p.2.2
 base:∀ j,j<nb→∃ p∈l,p.1=aB+j∧p.2.1=aB+j
theorem BQ {C:kD} {nb:Nat} (high:∀ n l,aB≤n→C.h0.L n=some l→n<aB+nb) {bl:Nat→Blk} {w:World} {h:Gh} (m:Mem C bl w h) {l:uQ} (ok:KeptOk nb bl l) (fr:List Nat)
  (hfr:∀ n∈fr,aD l n=none∧∃ e s xs f,bl n=.arr e s xs f) (hl:∀ p∈l,∀ k∈(qG (aD l) bl true (bl p.2.1)).2,k∈fr) :
  ∃ h',Mem C (eG l) w h'∧∀ (c:AV) (v:Value) (kn:Bool),(∀ k∈(jW (aD l) bl kn c).2,k∈fr)→aG h v c→aG h' v (jW (aD l) bl kn c).1:=by
 obtain ⟨h1,held,m1⟩:=yX fr bl h m fun n hn=>(hfr n hn).2
 let h':Gh:={ μ:=h1.μ,L:=fun k=>(GS l k).bind h.L }
 have hL:∀ {k n b},(k,n,b)∈l→h'.L k=h.L n:=fun {k n b} hm=>by
  simp only [h',LV ok.new hm,Option.bind_some]
 have ren:Ren h h' (aD l):=⟨held.le,fun n k loc hk hloc=>by
  obtain ⟨b,hm⟩:=GT hk
  rw [hL hm]; exact hloc⟩
 have hview:∀ k,eG l k=.free∧h'.L k=none∨∃ n b,(k,n,b)∈l∧eG l k=b∧h'.L k=h.L n:=fun k=>by
  unfold eG
  rcases RZ (f:=fun _=>Blk.free) (l.map fun p=>(p.1,p.2.2)) k with ⟨h1,h2⟩ | ⟨p,hp,h1,h2⟩
  ·left
   refine ⟨h2,?_⟩
   cases e:GS l k with
   | none=>simp [h',e]
   | some n =>
     obtain ⟨b,hm⟩:=GU e
     exact absurd rfl (h1 (k,b) (List.mem_map.2 ⟨_,hm,rfl⟩))
  ·right
   obtain ⟨⟨k',n,b⟩,hm,rfl⟩:=List.mem_map.1 hp
   simp only at h1 h2
   subst h1
   exact ⟨n,b,hm,h2,hL hm⟩
 have livecv:∀ (r:Nat→Option Nat) (bb:Nat→Blk) (kn:Bool) (b:Blk),(qG r bb kn b).1.live=b.live:=fun r bb kn b=>by cases b <;> rfl
 have hlive:∀ {k n b},(k,n,b)∈l→b.live=true→(bl n).live=true:=fun {k n b} hm hb=>by
  have:=(ok.cont _ hm).2
  simp only at this
  rw [← this,livecv] at hb; exact hb
 refine ⟨h',⟨fun k=>?_,m1.con,m1.glob,?_,?_,m.size,m.frame,m1.mext,m1.mold,?_,m.os,m.tape,m.output,m.know⟩,fun c v kn hc hr=>yY (fun n _=>m.blks n) ren held.els c v hc hr⟩
 ·rcases hview k with ⟨e1,e2⟩ | ⟨n,b,hm,e1,e2⟩
  ·rw [e1]; exact e2
  ·rw [e1]
   obtain ⟨hc1,hc2⟩:=ok.cont _ hm
   simp only at hc1 hc2
   rw [← hc2]
   rcases hc1 with hlv | hd
   ·have hrn:=wG ok.old hm
    refine yZ (fun n _=>m.blks n) ren held.els hrn hlv (m.blks n) (hl _ hm) (fun _ _ _=>rfl) (fun loc a1 a2 o v a3=>?_)
    have:h'.μ loc.blk o=h.μ loc.blk o:=held.other loc.blk (fun q hq l2 e4 e5=>by
     obtain ⟨b1,e',s',xs',f',b2⟩:=hfr q hq
     have hqn:q ≠ n:=fun e=>by subst e; rw [hrn] at b1; cases b1
     exact (m.apart q n l2 loc hqn (by rw [b2]; rfl) hlv e4 a1 e5 a2).symm) o
    rw [this] at a3; exact a3
   ·rw [hd]
    have:=m.blks n
    rw [hd] at this
    obtain ⟨loc,hloc⟩:=this
    exact ⟨loc,by rw [e2]; exact hloc⟩
 ·intro i j l1 l2 hij a1 a2 a3 a4 a5 a6
  rcases hview i with ⟨e1,e2⟩ | ⟨n,b,hm,e1,e2⟩
  ·rw [e1] at a1; cases a1
  ·rcases hview j with ⟨f1,f2⟩ | ⟨n',b',hm',f1,f2⟩
   ·rw [f1] at a2; cases a2
   ·rw [e1] at a1
    rw [f1] at a2
    rw [e2] at a3
    rw [f2] at a4
    have hnn:n ≠ n':=fun e=>by
     subst e
     have:=wG ok.old hm
     rw [wG ok.old hm'] at this
     cases this; exact hij rfl
    exact m.apart n n' l1 l2 hnn (hlive hm a1) (hlive hm' a2) a3 a4 a5 a6
 ·intro i l1 a1 a2 a3
  rcases hview i with ⟨e1,e2⟩ | ⟨n,b,hm,e1,e2⟩
  ·rw [e1] at a1; cases a1
  ·rw [e1] at a1
   rw [e2] at a2
   exact m.own n l1 (hlive hm a1) a2 a3
 ·intro n loc hn hloc
  obtain ⟨⟨k,n',b⟩,hm,e1,e2⟩:=ok.base (n - aB) (by have:=high n loc hn hloc; omega)
  simp only at e1 e2
  rw [show aB+(n - aB)=n from by omega] at e1 e2
  subst e1 e2
  rw [hL hm]
  exact m.lkeep n' loc hn hloc
theorem aJ {E:dA} {N nb:Nat} {st:St} (slots:List (Nat×AV)) (l:uQ) (ok:KeptOk nb st.b l) (hs:∀ p∈slots,(jW (aD l) st.b true (st.s p.1)).1=p.2) :
  Sub E N nb st { s:=eP slots,b:=eG l }:=by
 intro C hP hG a w inv
 obtain ⟨hhi,hdef,hsz,h,hsl,m⟩:=inv
 let fr:=slots.flatMap (fun p=>(jW (aD l) st.b true (st.s p.1)).2)++l.flatMap (fun p=>(qG (aD l) st.b true (st.b p.2.1)).2)
 obtain ⟨h',m',hrep⟩:=BQ hhi m ok fr (fun n hn=>by
  rcases List.mem_append.1 hn with hn | hn
  ·obtain ⟨p,_,hp⟩:=List.mem_flatMap.1 hn
   exact oP _ n hp
  ·obtain ⟨p,_,hp⟩:=List.mem_flatMap.1 hn
   exact nK hp) (fun p hp k hk=>List.mem_append_right _ (List.mem_flatMap.2 ⟨p,hp,hk⟩))
 refine ⟨hhi,hdef,hsz,h',fun i=>?_,m'⟩
 unfold eP
 rcases RZ (f:=fun _=>AV.un) slots i with ⟨_,h2⟩ | ⟨p,hp,h1,h2⟩
 ·simp only [h2,aG]
 ·simp only [h2]
  subst h1
  rw [← hs p hp]
  exact hrep _ _ true (fun k hk=>List.mem_append_left _ (List.mem_flatMap.2 ⟨p,hp,hk⟩)) (hsl p.1)
theorem aHL {E:dA} {N nb:Nat} {st:St} {i m ety sz:Nat} (hi:st.s i=.nils) (hm:st.b m=.free) (hlow:m<aB) (hsz:0<sz) :
  Sub E N nb st { s:=dQ st.s i (.ref m 0 0 sz),b:=dQ st.b m (.arr ety sz [] false) }:=by
 intro C hP hG a w inv
 obtain ⟨hhi,hdef,hsz',h,hsl,mm⟩:=inv
 have hL:h.L m=none:=by have:=mm.blks m; rw [hm] at this; exact this
 have le:=Gh.le_add (l:=⟨0,0,sz,true⟩) hL
 have view:∀ (k:Nat) (l:Loc),(h.add m ⟨0,0,sz,true⟩).L k=some l→l.nul=false→k ≠ m∧h.L k=some l:=fun k l e5 e6=>by
  by_cases ek:k=m
  ·subst ek; simp only [Gh.add,if_true,Option.some.injEq] at e5; rw [← e5] at e6; cases e6
  ·simp only [Gh.add,if_neg ek] at e5; exact ⟨ek,e5⟩
 refine ⟨hhi,hdef,hsz',h.add m ⟨0,0,sz,true⟩,fun k=>?_,⟨fun k=>?_,mm.con,mm.glob,?_,?_,mm.size,mm.frame,mm.mext,mm.mold,?_,mm.os,mm.tape,mm.output,mm.know⟩⟩
 ·by_cases e:k=i
  ·subst e
   have:=hsl k
   rw [hi] at this
   simp only [dQ,if_true,aG] at this ⊢
   exact ⟨⟨0,0,sz,true⟩,by simp [Gh.add],rfl,by simp [this]⟩
  ·simp only [dQ,if_neg e]
   exact lU le _ _ (hsl k)
 ·by_cases ek:k=m
  ·subst ek
   simp only [dQ,if_true]
   exact ⟨⟨0,0,sz,true⟩,by simp [Gh.add],rfl,hsz,by simp⟩
  ·simp only [dQ,if_neg ek]
   exact iE (mm.blks k) le (fun e0=>by simp [Gh.add,ek,e0]) (fun _ _ _ _=>rfl) (fun _ _ _ _ _ _ e=>e)
 ·intro i j l1 l2 hij a1 a2 a3 a4 a5 a6
  obtain ⟨b1,b2⟩:=view i l1 a3 a5
  obtain ⟨b3,b4⟩:=view j l2 a4 a6
  simp only [dQ,if_neg b1] at a1
  simp only [dQ,if_neg b3] at a2
  exact mm.apart i j l1 l2 hij a1 a2 b2 b4 a5 a6
 ·intro i l1 a1 a3 a5
  obtain ⟨b1,b2⟩:=view i l1 a3 a5
  simp only [dQ,if_neg b1] at a1
  exact mm.own i l1 a1 b2 a5
 ·intro i l1 hi hl
  have:i ≠ m:=by omega
  simp only [Gh.add,if_neg this]
  exact mm.lkeep i l1 hi hl
def aAS (E:dA) (st:St):ResultVar→Option AV
 | .tmp t=>some (st.s t)
 | .cell a t=>match cV E.P t with
   | some ti=>(xG ti st.b (st.s a)).map (·.1)
   | none=>none
def xR (E:dA) (st:St):List ResultVar→Option (List AV)
 | []=>some []
 | r::rs=>match aAS E st r,xR E st rs with
   | some v,some vs=>some (v::vs)
   | _,_=>none
def uR (E:dA) (fn:Func) (st:St):Option AV :=
 match xR E st fn.results.toList with
 | some [v]=>some v
 | some vs=>some (.tup vs)
 | none=>none
def begin (xs:List AV) (B:List Blk):St:={ s:=fun i=>(xs[i]?).getD .sk,b:=bL B }
def Ends (E:dA) (fn:Func) (nb:Nat) (y:AV) (B':List Blk) (st:St):Prop :=
 ∃ v l,uR E fn st=some v∧KeptOk nb st.b l∧(l.map fun p=>(p.1,p.2.2))=(B'.zipIdx.map fun p=>(aB+p.2,p.1))∧(jW (aD l) st.b false v).1=y
def aAT (E:dA) (fn:Func) (nb:Nat) (y:AV) (B':List Blk) (st:St):Prop :=
 ∃ v l,uR E fn st=some v∧KeptOk nb st.b l∧(l.map fun p=>(p.1,p.2.2))=(B'.zipIdx.map fun p=>(aB+p.2,p.1))∧(jW (aD l) st.b true v).1=y
theorem zM {E:dA} {C:kD} (hP:C.P=E.P) {st:St} {w:World} {h:Gh} (m:Mem C st.b w h) {tmps:Array Value} (hs:∀ i,aG h (tmps.getD i undef) (st.s i)):∀ (rs:List ResultVar) (vs:List AV),xR E st rs=some vs →
  ∃ us:List Value,(rs.mapM fun r=>(match r with | .tmp t=>pure (tmps.getD t undef) | .cell a t=>do loadVar t (← asAddr (tmps.getD a undef)):Sem Value)).run E.P w=.ok us w∧bB h us vs
 | [],vs,he=>by
   simp only [xR,Option.some.injEq] at he
   subst he
   exact ⟨[],by simp,by simp [bB]⟩
 | r::rs,vs,he=>by
   simp only [xR] at he
   split at he <;> simp only [Option.some.injEq,reduceCtorEq] at he
   rename_i v vs' h1 h2
   subst he
   obtain ⟨us,hus,hr⟩:=zM hP m hs rs vs' h2
   have one:∃ u,((match r with | .tmp t=>pure (tmps.getD t undef) | .cell a t=>do loadVar t (← asAddr (tmps.getD a undef)):Sem Value)).run E.P w=.ok u w∧aG h u v:=by
    cases r with
    | tmp t =>
      simp only [aAS,Option.some.injEq] at h1
      subst h1
      exact ⟨_,rfl,hs t⟩
    | cell a t =>
      simp only [aAS] at h1
      split at h1
      ·rename_i ti hti
       simp only [Option.map_eq_some_iff] at h1
       obtain ⟨⟨v',wr⟩,hv,rfl⟩:=h1
       have hv':xG ti (bM [(match st.s a with | .ptr n _ _=>n | _=>0)] st.b) (st.s a)=some (v',wr):=by
        rw [← hv]
        cases st.s a <;> simp [xG,bM]
       obtain ⟨_,u,hrun,ru⟩:=DQ m (hP ▸ hti) (hs a) hv'
       have key:∃ ad,tmps.getD a undef=.pointer (some ad):=by
        have:=hs a
        cases e:st.s a <;> rw [e] at this hv <;> simp only [xG] at hv <;> first | (cases hv; done) | skip
        ·simp only [aG] at this; obtain ⟨l,_,_,hx⟩:=this; exact ⟨_,hx⟩
        ·simp only [aG] at this; obtain ⟨b,o,hx,_⟩:=this; exact ⟨_,hx⟩
       obtain ⟨ad,had⟩:=key
       rw [had,hP] at hrun
       simp only [Instr.loadAt,Instr.sureAddr,Sem.run_bind,Sem.run_pure,Result.andThen_ok] at hrun
       refine ⟨u,?_,ru⟩
       simp only [had,asAddr,Sem.run_bind,Sem.run_pure,Result.andThen_ok]
       exact hrun
      ·cases h1
   obtain ⟨u,hu,hru⟩:=one
   exact ⟨u::us,by simp only [List.mapM_cons,Sem.run_bind,hu,Result.andThen_ok,hus,Sem.run_pure],u,us,rfl,hru,hr⟩
theorem pM {E:dA} {C:kD} (hP:C.P=E.P) {st:St} {w:World} {h:Gh} (m:Mem C st.b w h) {fn:Func} {tmps:Array Value} (hs:∀ i,aG h (tmps.getD i undef) (st.s i)) {v:AV} (he:uR E fn st=some v) :
  ∃ u,(results fn tmps).run E.P w=.ok u w∧aG h u v:=by
 unfold uR at he
 have run:∀ vs,xR E st fn.results.toList=some vs→∃ us:List Value,(results fn tmps).run E.P w=.ok (if h:us.toArray.size=1 then us.toArray[0] else .tuple us.toArray) w∧bB h us vs:=fun vs hvs=>by
  obtain ⟨us,hus,hr⟩:=zM hP m hs _ vs hvs
  refine ⟨us,?_,hr⟩
  unfold results
  rw [Array.mapM_eq_mapM_toList]
  simp only [Sem.run_bind,Sem.run_map]
  erw [hus]
  rfl
 split at he
 ·rename_i v0 hv
  simp only [Option.some.injEq] at he
  subst he
  obtain ⟨us,hus,hr⟩:=run _ hv
  simp only [bB] at hr
  obtain ⟨u,us',rfl,hu,rfl⟩:=hr
  exact ⟨u,by rw [hus]; simp,hu⟩
 ·rename_i vs hne hv
  simp only [Option.some.injEq] at he
  subst he
  obtain ⟨us,hus,hr⟩:=run _ hv
  have hl:=(bV.1 hr).1
  have:¬ us.toArray.size=1:=fun e=>by
   simp only [List.size_toArray] at e
   match vs,hl with
   | [x],_=>exact hne x rfl
   | [],hl=>simp only [List.length_nil] at hl; omega
   | _::_::_,hl=>simp only [List.length_cons] at hl; omega
  refine ⟨_,by rw [hus,dif_neg this],?_⟩
  simp only [aG]
  exact ⟨us,rfl,hr⟩
 ·cases he
theorem aED {E:dA} (hmix:E.P.follows .mixedOrders=true) {f:FuncId} {fn:Func} {c:Code} (hf:E.P.funcs[f]?=some fn) (hbody:fn.body=some c) (hent:eR E.P f=true) (hN:fn.ntmps≤aB)
  {xs:List AV} {B B':List Blk} {y:AV} (hx:xs.length≤fn.ntmps)
  (h:fJ E fn.ntmps B.length c (begin xs B) fun e st=>match e with
   | .exit _=>False
   | _=>Ends E fn B.length y B' st):Cf E f xs B y B':=by
 refine ⟨hent,fun w g vs hr m=>?_⟩
 have hl:=(bV.1 hr).1
 refine calls_of_wp hf hbody ?_
 have inv:Inv (cK E w g B) fn.ntmps B.length (begin xs B) { tmps:=⟨vs⟩++Array.replicate (fn.ntmps - (⟨vs⟩:Array Value).size) undef,defers:=[] } w:=by
  refine ⟨fun n l hn hl'=>?_,rfl,by simp; omega,g,fun i=>?_,m⟩
  ·rcases Nat.lt_or_ge n (aB+B.length) with c | c
   ·exact c
   ·have:=m.blks n
    unfold bL at this
    rw [if_pos hn,List.getElem?_eq_none (by omega)] at this
    have hz:g.L n=none:=this
    have:(cK E w g B).h0.L n=g.L n:=rfl
    rw [this,hz] at hl'; cases hl'
  ·simp only [begin]
   by_cases hi:i<vs.length
   ·have hx':i<xs.length:=by omega
    obtain ⟨v,hv,hrv⟩:=(bV.1 hr).2 i _ (List.getElem?_eq_getElem hx')
    rw [List.getElem?_eq_getElem hx',Option.getD_some]
    have:((⟨vs⟩:Array Value)++Array.replicate (fn.ntmps - (⟨vs⟩:Array Value).size) undef).getD i undef=v:=by
     simp only [Array.getD_eq_getD_getElem?]
     rw [Array.getElem?_append_left (by simpa using hi)]
     simp [hv]
    rw [this]; exact hrv
   ·rw [List.getElem?_eq_none (by omega),Option.getD_none]
    simp only [aG,Array.getD_eq_getD_getElem?]
    rw [Array.getElem?_append_right (by simpa using hi)]
    simp only [Array.getElem?_replicate]
    split <;> rfl
 refine fZ hmix hN c (begin xs B) _ h (cK E w g B) rfl rfl _ w inv _ fun e st a' w' hq inv'=>?_
 have fin:Ends E fn B.length y B' st→a'.defers=[]∧∃ v,(results fn a'.tmps).run E.P w'=.ok v w'∧(∃ v' h',Ending.returned v=.returned v'∧aG h' v' y∧Mem (cK E w g B) (bL B') w' h'):=by
  rintro ⟨v,l,hv,ok,hB,hy⟩
  obtain ⟨hhi,hdef,hsz,h1,hsl,m1⟩:=inv'
  obtain ⟨u,hu,ru⟩:=pM (C:=cK E w g B) rfl m1 hsl hv
  obtain ⟨h2,m2,hrep⟩:=BQ hhi m1 ok ((jW (aD l) st.b false v).2++l.flatMap (fun p=>(qG (aD l) st.b true (st.b p.2.1)).2)) (fun n hn=>by
   rcases List.mem_append.1 hn with hn | hn
   ·exact oP _ n hn
   ·obtain ⟨p,_,hp⟩:=List.mem_flatMap.1 hn
    exact nK hp) (fun p hp k hk=>List.mem_append_right _ (List.mem_flatMap.2 ⟨p,hp,hk⟩))
  refine ⟨hdef,u,hu,u,h2,rfl,?_,?_⟩
  ·rw [← hy]; exact hrep v u false (fun k hk=>List.mem_append_left _ hk) ru
  ·have e:eG l=bL B':=by
    funext n
    unfold eG
    rw [hB]
    have hinj:∀ (L:List Blk) (k n:Nat) (f:Nat→Blk),(∀ i,i<L.length→f (aB+(k+i))=.free)→bW f ((L.zipIdx k).map fun p=>(aB+p.2,p.1)) n=if aB+k≤n then (match L[n - aB - k]? with | some b=>b | none=>f n) else f n:=by
     intro L
     induction L with
     | nil=>intro k n f _; simp [bW]
     | cons b L ih =>
       intro k n f hfree
       simp only [List.zipIdx_cons,List.map_cons]
       rw [show bW f ((aB+k,b)::((L.zipIdx (k+1)).map fun p=>(aB+p.2,p.1)))=bW (dQ f (aB+k) b) ((L.zipIdx (k+1)).map fun p=>(aB+p.2,p.1)) from rfl]
       rw [ih (k+1) n _ (fun i hi=>by
        simp only [dQ]
        rw [if_neg (by omega)]
        have:=hfree (i+1) (by simp; omega)
        rwa [show k+(i+1)=k+1+i from by omega] at this)]
       by_cases c1:aB+k≤n
       ·rw [if_pos c1]
        by_cases c2:n=aB+k
        ·subst c2
         rw [if_neg (by omega)]
         simp [dQ]
        ·rw [if_pos (by omega),show n - aB - k=(n - aB - (k+1))+1 from by omega,List.getElem?_cons_succ]
         split
         ·rfl
         ·simp [dQ,c2]
       ·rw [if_neg c1,if_neg (by omega)]
        simp only [dQ]
        rw [if_neg (by omega)]
    rw [hinj B' 0 n _ (fun i _=>rfl)]
    unfold bL
    simp only [Nat.add_zero,Nat.sub_zero]
    split
    ·cases B'[n - aB]? <;> rfl
    ·rfl
   rw [← e]; exact m2
 cases e with
 | normal=>exact fin hq
 | exit id=>exact hq.elim
 | ret=>exact fin hq
theorem aCB {E:dA} (hmix:E.P.follows .mixedOrders=true) {f:FuncId} {fn:Func} {c:Code} (hf:E.P.funcs[f]?=some fn) (hbody:fn.body=some c) (hent:eR E.P f=true) (hN:fn.ntmps≤aB)
  {xs:List AV} {B B':List Blk} {y:AV} (hx:xs.length≤fn.ntmps)
  (h:fJ E fn.ntmps B.length c (begin xs B) fun e st=>match e with
   | .exit _=>False
   | _=>aAT E fn B.length y B' st):Cf E f xs B y B':=by
 refine ⟨hent,fun w g vs hr m=>?_⟩
 have hl:=(bV.1 hr).1
 refine calls_of_wp hf hbody ?_
 have inv:Inv (cK E w g B) fn.ntmps B.length (begin xs B) { tmps:=⟨vs⟩++Array.replicate (fn.ntmps - (⟨vs⟩:Array Value).size) undef,defers:=[] } w:=by
  refine ⟨fun n l hn hl'=>?_,rfl,by simp; omega,g,fun i=>?_,m⟩
  ·rcases Nat.lt_or_ge n (aB+B.length) with c | c
   ·exact c
   ·have:=m.blks n
    unfold bL at this
    rw [if_pos hn,List.getElem?_eq_none (by omega)] at this
    have hz:g.L n=none:=this
    have:(cK E w g B).h0.L n=g.L n:=rfl
    rw [this,hz] at hl'; cases hl'
  ·simp only [begin]
   by_cases hi:i<vs.length
   ·have hx':i<xs.length:=by omega
    obtain ⟨v,hv,hrv⟩:=(bV.1 hr).2 i _ (List.getElem?_eq_getElem hx')
    rw [List.getElem?_eq_getElem hx',Option.getD_some]
    have:((⟨vs⟩:Array Value)++Array.replicate (fn.ntmps - (⟨vs⟩:Array Value).size) undef).getD i undef=v:=by
     simp only [Array.getD_eq_getD_getElem?]
     rw [Array.getElem?_append_left (by simpa using hi)]
     simp [hv]
    rw [this]; exact hrv
   ·rw [List.getElem?_eq_none (by omega),Option.getD_none]
    simp only [aG,Array.getD_eq_getD_getElem?]
    rw [Array.getElem?_append_right (by simpa using hi)]
    simp only [Array.getElem?_replicate]
    split <;> rfl
 refine fZ hmix hN c (begin xs B) _ h (cK E w g B) rfl rfl _ w inv _ fun e st a' w' hq inv'=>?_
 have fin:aAT E fn B.length y B' st→a'.defers=[]∧∃ v,(results fn a'.tmps).run E.P w'=.ok v w'∧(∃ v' h',Ending.returned v=.returned v'∧aG h' v' y∧Mem (cK E w g B) (bL B') w' h'):=by
  rintro ⟨v,l,hv,ok,hB,hy⟩
  obtain ⟨hhi,hdef,hsz,h1,hsl,m1⟩:=inv'
  obtain ⟨u,hu,ru⟩:=pM (C:=cK E w g B) rfl m1 hsl hv
  obtain ⟨h2,m2,hrep⟩:=BQ hhi m1 ok ((jW (aD l) st.b true v).2++l.flatMap (fun p=>(qG (aD l) st.b true (st.b p.2.1)).2)) (fun n hn=>by
   rcases List.mem_append.1 hn with hn | hn
   ·exact oP _ n hn
   ·obtain ⟨p,_,hp⟩:=List.mem_flatMap.1 hn
    exact nK hp) (fun p hp k hk=>List.mem_append_right _ (List.mem_flatMap.2 ⟨p,hp,hk⟩))
  refine ⟨hdef,u,hu,u,h2,rfl,?_,?_⟩
  ·rw [← hy]; exact hrep v u true (fun k hk=>List.mem_append_left _ hk) ru
  ·have e:eG l=bL B':=by
    funext n
    unfold eG
    rw [hB]
    have hinj:∀ (L:List Blk) (k n:Nat) (f:Nat→Blk),(∀ i,i<L.length→f (aB+(k+i))=.free)→bW f ((L.zipIdx k).map fun p=>(aB+p.2,p.1)) n=if aB+k≤n then (match L[n - aB - k]? with | some b=>b | none=>f n) else f n:=by
     intro L
     induction L with
     | nil=>intro k n f _; simp [bW]
     | cons b L ih =>
       intro k n f hfree
       simp only [List.zipIdx_cons,List.map_cons]
       rw [show bW f ((aB+k,b)::((L.zipIdx (k+1)).map fun p=>(aB+p.2,p.1)))=bW (dQ f (aB+k) b) ((L.zipIdx (k+1)).map fun p=>(aB+p.2,p.1)) from rfl]
       rw [ih (k+1) n _ (fun i hi=>by
        simp only [dQ]
        rw [if_neg (by omega)]
        have:=hfree (i+1) (by simp; omega)
        rwa [show k+(i+1)=k+1+i from by omega] at this)]
       by_cases c1:aB+k≤n
       ·rw [if_pos c1]
        by_cases c2:n=aB+k
        ·subst c2
         rw [if_neg (by omega)]
         simp [dQ]
        ·rw [if_pos (by omega),show n - aB - k=(n - aB - (k+1))+1 from by omega,List.getElem?_cons_succ]
         split
         ·rfl
         ·simp [dQ,c2]
       ·rw [if_neg c1,if_neg (by omega)]
        simp only [dQ]
        rw [if_neg (by omega)]
    rw [hinj B' 0 n _ (fun i _=>rfl)]
    unfold bL
    simp only [Nat.add_zero,Nat.sub_zero]
    split
    ·cases B'[n - aB]? <;> rfl
    ·rfl
   rw [← e]; exact m2
 cases e with
 | normal=>exact fin hq
 | exit id=>exact hq.elim
 | ret=>exact fin hq
end Go.Ab
namespace Go.Ab
open Go.ChangeShapes Go.RowKit
theorem Cf.more {E E':dA} (hP:E'.P=E.P) (hG:∀ g cs,E.G g=some cs→E'.G g=some cs) {f:FuncId} {xs:List AV} {B:List Blk} {y:AV} {B':List Blk} (h:Cf E f xs B y B'):Cf E' f xs B y B':=by
 refine ⟨by rw [hP]; exact h.1,fun w g vs hr m=>?_⟩
 rw [hP]
 have m0:Mem (cK E w g B) (bL B) w g :=
  ⟨m.blks,m.con,fun k cs e=>m.glob k cs (hG k cs e),m.apart,m.own,m.size,m.frame,m.mext,m.mold,m.lkeep,m.os,m.tape,m.output,fun k cs e=>m.know k cs (hG k cs e)⟩
 refine (h.2 w g vs hr m0).mono ?_
 rintro e w' ⟨v,h',rfl,ry,m'⟩
 exact ⟨v,h',rfl,ry,⟨m'.blks,m'.con,fun k cs e=>gO m'.mext cs k 0 (m.glob k cs e),m'.apart,m'.own,m'.size,m'.frame,m'.mext,m'.mold,m'.lkeep,m'.os,m'.tape,m'.output,m.know⟩⟩
theorem aHM {E:dA} {f:FuncId} {xs:List AV} {y:AV} (h:Cf E f xs [] y []) {w:World} {μ:Nat→Nat→Option Value} (hμ:∀ b o v,μ b o=some v→w.cell? ⟨b,o,none⟩=some v)
  (hG:∀ g cs,E.G g=some cs→dT μ g 0 cs) (hK:∀ g cs,E.G g=some cs→∃ a ety z,w.heap[g]?=some (.cells a ety z)∧a.size=cs.length) {vs:List Value} (hr:bB ⟨μ,fun _=>none⟩ vs xs) :
  Calls E.P f ⟨vs⟩ w fun e w'=>∃ v h',e=.returned v∧aG h' v y∧Below w.heap.size w w':=by
 have hbase:mE ⟨μ,fun _=>none⟩ []=[]:=rfl
 have hbl:∀ n,bL [] n=.free:=fun n=>by simp [bL]
 have m0:Mem (cK E w ⟨μ,fun _=>none⟩ []) (bL []) w ⟨μ,fun _=>none⟩:=by
  refine ⟨?_,hμ,hG,?_,?_,Nat.le_refl _,fun _ _ _=>rfl,fun _ _ _ e=>e,fun _ _ _ _ _ e=>e,?_,rfl,rfl,rfl,fun g cs e=>by
   obtain ⟨a,ety,z,h1,h2⟩:=hK g cs e
   refine ⟨?_,by simp [cK,hbase],a,ety,z,h1,h2⟩
   obtain ⟨hlt,_⟩:=Array.getElem?_eq_some_iff.1 h1
   exact hlt⟩
  ·intro n; rw [hbl]; rfl
  ·intro i j l l' _ _ _ e; cases e
  ·intro i l _ e; cases e
  ·intro _ _ _ e; cases e
 refine (h.2 w ⟨μ,fun _=>none⟩ vs hr m0).mono ?_
 rintro e w' ⟨v,h',rfl,ry,m⟩
 exact ⟨v,h',rfl,ry,⟨m.os,m.tape,m.output,m.size,fun k hk=>m.frame k hk (by simp [cK,hbase])⟩⟩
def iH (w:World):Nat→Nat→Option Value:=fun b o=>w.cell? ⟨b,o,none⟩
theorem DW {α:Type} {n:Nat} {R:Nat→α→Prop} (h:∀ i,i<n→∃ u,R i u):∃ l:List α,l.length=n∧∀ (i:Nat) (u:α),l[i]?=some u→R i u:=by
 induction n with
 | zero=>exact ⟨[],rfl,fun i u e=>by simp at e⟩
 | succ n ih =>
   obtain ⟨l,h1,h2⟩:=ih fun i hi=>h i (by omega)
   obtain ⟨u,hu⟩:=h n (by omega)
   refine ⟨l++[u],by simp [h1],fun i x hx=>?_⟩
   rcases Nat.lt_or_ge i l.length with c | c
   ·rw [List.getElem?_append_left c] at hx; exact h2 i x hx
   ·rw [List.getElem?_append_right c] at hx
    have:i - l.length=0:=by
     rcases Nat.eq_zero_or_pos (i - l.length) with e | e
     ·exact e
     ·rw [List.getElem?_eq_none (by simp; omega)] at hx; cases hx
    rw [this] at hx
    simp at hx
    subst hx
    have:i=n:=by omega
    subst this
    exact hu
theorem MG {w:World} {a:Addr} {v:Value} (h:w.cell? a=some v):a.spot=none:=by
 unfold World.cell? at h
 split at h
 ·cases hs:a.spot with
  | none=>rfl
  | some _=>simp [hs] at h
 ·cases h
theorem aKr {w:World} {a:Addr} {len cap sz:Nat} {α:Type} (f:α→List D) (hl:len≤cap) (hsz:∀ u,(f u).length=sz) (hsz0:0<sz)
  (hi:∀ i,i<len→∃ u:α,∀ (j:Nat) (c:D),(f u)[j]?=some c→∃ v,w.cell? (a.add (i*sz+j))=some v∧aU (iH w) v c) :
  ∃ l:List α,l.length=len∧aU (iH w) (.slice (some a) len cap) (.sl (l.map f)):=by
 obtain ⟨l,h1,h2⟩:=DW hi
 refine ⟨l,h1,?_⟩
 simp only [aU]
 refine ⟨some a,cap,by simp [h1],by simp [h1]; exact hl,?_⟩
 by_cases h0:l=[]
 ·left; simp [h0]
 ·right
  have hpos:0<l.length:=List.length_pos_iff.2 h0
  have hsp:a.spot=none:=by
   have hg:l[0]?=some l[0]:=List.getElem?_eq_getElem hpos
   obtain ⟨v,hv,_⟩:=h2 0 _ hg 0 _ (List.getElem?_eq_getElem (by rw [hsz]; exact hsz0))
   have:=MG hv
   simpa [Addr.add] using this
  obtain ⟨b,o,sp⟩:=a
  simp only at hsp
  subst hsp
  refine ⟨b,o,sz,rfl,gW.2 fun i x hx=>?_⟩
  rw [List.getElem?_map] at hx
  cases hg:l[i]? with
  | none=>rw [hg] at hx; cases hx
  | some u =>
    rw [hg] at hx
    simp only [Option.map_some,Option.some.injEq] at hx
    subst hx
    refine ⟨hsz u,iG.2 fun j c hc=>?_⟩
    obtain ⟨v,hv,hr⟩:=h2 i u hg j c hc
    refine ⟨v,?_,hr⟩
    simp only [iH,Addr.add] at hv ⊢
    rw [Nat.add_assoc]
    split at hv
    ·rename_i e0; rw [e0]; exact hv
    ·exact hv
theorem ZE {W W':World} {may:MemPlace→Prop} (hb:Below W.heap.size W W'):W.keptBut W' may:=by
 refine ⟨hb.os,hb.output,fun i hi=>?_⟩
 rw [hb.block i hi]
 cases h:W.heap[i]? with
 | none=>rfl
 | some o=>cases o <;> simp
section
variable {H:Type} {enc:TypeId×Value→H} {P:Program}
theorem MH (hl:laidOutB P=true) {W W':World} (hb:Below W.heap.size W W') {sp:Nat→Bool}:∀ (ts:List TypeId) (vs:List Value) (ds:List (DataW H)) (ps:List MemPlace),(∀ t∈ts,P.readableRec t=true∧t<P.types.size) →
  DataW.TrodAll enc P W 0 (fun _=>true) true ts vs ds ps→(∀ p∈ps,p.block<W.heap.size)→(∀ p∈ps,sp p.block=true)→DataW.TrodAll enc P W' 0 sp true ts vs ds ps
 | [],vs,ds,ps,_,h,_,_=>by
   obtain ⟨rfl,rfl,rfl⟩:=trodAll_nil h
   exact trodAll_mk0
 | t::ts,vs,ds,ps,hr,h,hlt,hs=>by
   obtain ⟨v,vs1,d,ds1,a,b,rfl,rfl,rfl,h1,h2⟩:=trodAll_cons h
   exact ⟨a,b,WideElems.Trod_stays hl (hr t List.mem_cons_self).1 (hr t List.mem_cons_self).2 h1 (fun p hp=>hb.same (hlt p (List.mem_append_left _ hp))) (fun p hp=>hs p (List.mem_append_left _ hp)),
    MH hl hb ts vs1 ds1 b (fun t ht=>hr t (List.mem_cons_of_mem _ ht)) h2 (fun p hp=>hlt p (List.mem_append_right _ hp)) (fun p hp=>hs p (List.mem_append_right _ hp)),rfl⟩
theorem aEM {f:Func} {s:ChangeSpec} {apart fresh handsOn again:Bool} {W W':World} {args:Array Value} {ds gs:List (DataW H)} {before:List MemPlace} {tb:TypeId}
  (hW:DataW.Whole enc P f.params.toList s.vars apart W args.toList ds gs before) (hl:laidOutB P=true) (hread0:(f.params.toList.all fun t=>P.readableRec t&&decide (t<P.types.size))=true)
  (hb:Below W.heap.size W W') (hvn:s.vars=[]) (hrt:f.resultTypes=#[tb]) (ht:P.underlying tb=some .bool)
  (ha:(s.fn H ds).args=ds) (hres:(s.fn H ds).results=[.lit (.bool true)]) (hv:(s.fn H ds).vars=[]) :
  s.post enc P f apart fresh handsOn again W args (.bool true) W':=by
 have hread:∀ t∈f.params.toList,P.readableRec t=true∧t<P.types.size:=fun t ht=>by
  rw [List.all_eq_true] at hread0
  simpa using hread0 t ht
 have hlt:=hW.lt
 have hW0:=hW
 obtain ⟨p,q,hA,hV,rfl,hz,hn⟩:=hW
 rw [hvn] at hV
 obtain ⟨rfl,rfl⟩:=trodVars_none hV
 simp only [List.append_nil] at *
 have hargs:∀ sp:Nat→Bool,(∀ x∈p,sp x.block=true)→DataW.TrodAll enc P W' 0 sp true f.params.toList args.toList ds p:=fun sp hs=>MH hl hb _ _ _ _ hread hA hlt hs
 have hresults:∀ (b:Nat) (sp:Nat→Bool) (hd:Bool),DataW.TrodAll enc P W' b sp hd f.resultTypes.toList ((Value.bool true).resultList f.resultTypes.size) [.lit (.bool true)] []:=fun b sp hd=>by
  rw [hrt]
  exact trodAll_mk1 (shut_bool ht _)
 have hvars:∀ sp:Nat→Bool,DataW.TrodVars enc P W' sp s.vars [] []:=fun sp=>by rw [hvn]; trivial
 have hold:∀ x∈p,(fun b=>decide (b<W.heap.size)) x.block=true:=fun x hx=>by simpa using hlt x hx
 refine ⟨ds,[],p,[],p,[],hW0,?_,?_,?_,ZE hb,fun _=>?_⟩
 ·rw [List.append_nil,hres]; exact hresults _ _ _
 ·rw [List.append_nil,ha]; exact hargs _ hold
 ·rw [List.append_nil,hv]; exact hvars _
 ·refine ⟨ok_one hrt rfl (okWide_bool_mk ht _),_,_,([]++p)++[],⟨[]++p,[],trodAll_append (hargs _ fun _ _=>rfl) (hresults _ _ _),hvars _,rfl,?_,?_⟩,?_⟩
  ·intro b off hp
   have hp':MemPlace.cell b off∈p:=by simpa using hp
   rw [hb.frozen (p:=⟨b,off,none⟩) (hlt _ hp')]
   exact hz b off hp'
  ·intro h; simpa using hn h
  ·intro x hx _; simpa using hx
end
end Go.Ab
namespace Go.Ab
open Go.RowKit
def rZ (μ:Nat→Nat→Option Value):List Value→List D→Prop
 | [],[]=>True
 | v::vs,c::cs=>aU μ v c∧rZ μ vs cs
 | _,_=>False
theorem qQ {μ:Nat→Nat→Option Value}:∀ {a:List Value} {x:List D} {b:List Value} {y:List D},rZ μ a x→rZ μ b y→rZ μ (a++b) (x++y)
 | [],[],_,_,_,h=>h
 | v::vs,c::cs,_,_,h1,h2=>⟨h1.1,qQ h1.2 h2⟩
 | [],_::_,_,_,h,_=>h.elim
 | _::_,[],_,_,h,_=>h.elim
theorem tG {μ:Nat→Nat→Option Value} {b:Nat}:∀ {l:List Value} {x:List D} {o:Nat},rZ μ l x→(∀ i v,l[i]?=some v→μ b (o+i)=some v)→dT μ b o x
 | [],[],_,_,_=>trivial
 | v::vs,c::cs,o,h,hm=>by
   refine ⟨⟨v,by simpa using hm 0 v rfl,h.1⟩,tG h.2 fun i u hu=>?_⟩
   have:=hm (i+1) u (by simpa using hu)
   rw [show o+1+i=o+(i+1) from by omega]; exact this
 | [],_::_,_,h,_=>h.elim
 | _::_,[],_,h,_=>h.elim
variable {H:Type}
def zO (P:Program) (r:TypeId→DataW H→Option (List D)):Nat→List Field→List (DataW H)→Option (List D×Nat)
 | o,[],[]=>some ([],o)
 | o,f::fs,d::ds=>if f.offset=o then match r f.type d,zO P r (o+P.cellsOf f.type) fs ds with
   | some x,some (y,e)=>some (x++y,e)
   | _,_=>none
   else none
 | _,_,_=>none
def aEE (r:DataW H→Option (List D)):List (DataW H)→Option (List D)
 | []=>some []
 | d::ds=>match r d,aEE r ds with
   | some x,some y=>some (x++y)
   | _,_=>none
def DO (P:Program):Nat→TypeId→DataW H→Option (List D)
 | 0,_,_=>none
 | n+1,t,d=>match P.underlying t,d with
   | some .bool,.lit (.bool b)=>some [.bool b]
   | some (.int k),.lit (.int k' m)=>if k'=k then some [.int k m] else none
   | some .string,.lit (.string s)=>some [.str s]
   | some (.struct fs),.agg ds=>match zO P (DO P n) 0 fs.toList ds with
     | some (x,e)=>if e=P.cellsOf t then some x else none
     | none=>none
   | some (.array m e),.agg ds=>if ds.length=m∧P.cellsOf t=m*P.cellsOf e then aEE (DO P n e) ds else none
   | _,_=>none
variable {enc:TypeId×Value→H} {P:Program} {w:World} {base:Nat} {spare:Nat→Bool} {held:Bool}
theorem zP {μ:Nat→Nat→Option Value} {cs:List Value} {r:TypeId→DataW H→Option (List D)} {q:TypeId→List Value→Option (DataW H×List MemPlace)}
  (hr:∀ t c d p x,q t c=some (d,p)→r t d=some x→rZ μ c x) :
  ∀ (fs:List Field) (o:Nat) (xs:List (DataW H×List MemPlace)) (y:List D) (e:Nat),(fs.mapM fun f=>q f.type ((cs.drop f.offset).take (P.cellsOf f.type)))=some xs →
    zO P r o fs (xs.map (·.1))=some (y,e)→e=cs.length→rZ μ (cs.drop o) y
 | [],o,xs,y,e,h,hy,he=>by
   simp only [List.mapM_nil,Option.pure_def,Option.some.injEq] at h
   subst h
   simp only [List.map_nil,zO,Option.some.injEq,Prod.mk.injEq] at hy
   obtain ⟨rfl,rfl⟩:=hy
   rw [he,List.drop_length]; trivial
 | f::fs,o,xs,y,e,h,hy,he=>by
   simp only [List.mapM_cons,Option.bind_eq_bind,Option.bind_eq_some_iff,Option.pure_def,Option.some.injEq] at h
   obtain ⟨⟨d,p⟩,h1,xs',h2,rfl⟩:=h
   simp only [List.map_cons,zO] at hy
   split at hy
   ·rename_i ho
    subst ho
    split at hy
    ·rename_i x y' e' hx hy'
     cases hy
     have i1:=hr _ _ _ _ _ h1 hx
     have i2:=zP hr fs _ xs' y' _ h2 hy' he
     rw [← List.take_append_drop (P.cellsOf f.type) (cs.drop f.offset),List.drop_drop]
     exact qQ i1 i2
    ·cases hy
   ·cases hy
theorem LX {μ:Nat→Nat→Option Value} {sz:Nat} {r:DataW H→Option (List D)} {q:List Value→Option (DataW H×List MemPlace)}
  (hr:∀ c d p x,q c=some (d,p)→r d=some x→rZ μ c x) :
  ∀ (ds:List (DataW H)) (cs:List Value) (y:List D),cs.length=ds.length*sz→(∀ i d,ds[i]?=some d→∃ p,q ((cs.drop (i*sz)).take sz)=some (d,p))→aEE r ds=some y→rZ μ cs y
 | [],cs,y,hl,_,hy=>by
   simp only [aEE,Option.some.injEq] at hy
   subst hy
   have:cs=[]:=List.eq_nil_of_length_eq_zero (by simpa using hl)
   subst this; trivial
 | d::ds,cs,y,hl,h,hy=>by
   simp only [aEE] at hy
   split at hy
   ·rename_i x y' hx hy'
    cases hy
    obtain ⟨p,hp⟩:=h 0 d rfl
    simp only [Nat.zero_mul,List.drop_zero] at hp
    have i1:=hr _ _ _ _ hp hx
    have i2:=LX (sz:=sz) hr ds (cs.drop sz) y' (by rw [List.length_drop,hl,List.length_cons,Nat.add_mul,Nat.one_mul]; omega) (fun i d' hd=>by
     obtain ⟨p',hp'⟩:=h (i+1) d' (by simpa using hd)
     refine ⟨p',?_⟩
     rw [List.drop_drop,show sz+i*sz=(i+1)*sz from by rw [Nat.succ_mul]; omega]
     exact hp') hy'
    rw [← List.take_append_drop sz cs]
    exact qQ i1 i2
   ·cases hy
theorem qR {μ:Nat→Nat→Option Value}:∀ (n m:Nat) (t:TypeId) (cs:List Value) (d:DataW H) (p:List MemPlace) (x:List D),DataW.trod enc P w base spare held n t cs=some (d,p)→DO P m t d=some x→rZ μ cs x
 | _,0,_,_,_,_,_,_,h=>by simp [DO] at h
 | 0,_,_,_,_,_,_,h,_=>by simp [DataW.trod] at h
 | n+1,m+1,t,cs,d,p,x,h,hx=>by
   unfold DO at hx
   split at hx
   ·rename_i ht
    cases hx
    obtain ⟨b,rfl,e⟩:=DataW.trod_bool ht h
    simp only [Prod.mk.injEq,DataW.lit.injEq,Lit.bool.injEq] at e
    obtain ⟨rfl,_⟩:=e
    exact ⟨by simp only [aU],trivial⟩
   ·rename_i k k' j ht
    split at hx
    ·rename_i hk
     subst hk
     cases hx
     obtain ⟨b,rfl,e,_⟩:=DataW.trod_int ht h
     simp only [Prod.mk.injEq,DataW.lit.injEq,Lit.int.injEq] at e
     obtain ⟨⟨_,rfl⟩,_⟩:=e
     exact ⟨by simp only [aU],trivial⟩
    ·cases hx
   ·rename_i s ht
    cases hx
    obtain ⟨b,rfl,e,_⟩:=DataW.trod_string ht h
    simp only [Prod.mk.injEq,DataW.lit.injEq,Lit.string.injEq] at e
    obtain ⟨rfl,_⟩:=e
    exact ⟨by simp only [aU],trivial⟩
   ·rename_i fs ds ht
    split at hx
    ·rename_i y e hy
     split at hx
     ·rename_i he
      cases hx
      simp only [DataW.trod,ht] at h
      split at h
      ·rename_i hl
       simp only [Option.map_eq_some_iff] at h
       obtain ⟨xs,hm,e2⟩:=h
       simp only [Prod.mk.injEq,DataW.agg.injEq] at e2
       obtain ⟨rfl,_⟩:=e2
       have:=zP (P:=P) (μ:=μ) (cs:=cs) (r:=DO P m) (q:=DataW.trod enc P w base spare held n) (fun t c d p x a b=>qR n m t c d p x a b) fs.toList 0 xs x _ hm hy (by rw [he,hl])
       simpa using this
      ·cases h
     ·cases hx
    ·cases hx
   ·rename_i k e ds ht
    split at hx
    ·rename_i hd
     obtain ⟨hd,hc⟩:=hd
     obtain ⟨xs,m1,e1,e2,hlen,hn3,hel⟩:=DataW.trod_array ht h
     obtain rfl:n=m1:=by omega
     simp only [Prod.mk.injEq,DataW.agg.injEq] at e2
     obtain ⟨rfl,_⟩:=e2
     refine LX (sz:=P.cellsOf e) (fun c d p x a b=>qR n m e c d p x a b) (xs.map (·.1)) cs x (by rw [hlen,hc,List.length_map,hn3]) (fun i d' hd=>?_) hx
     rw [List.getElem?_map,Option.map_eq_some_iff] at hd
     obtain ⟨⟨d2,p2⟩,hd,rfl⟩:=hd
     have hi:i<k:=by
      obtain ⟨hi,_⟩:=List.getElem?_eq_some_iff.1 hd
      omega
     exact ⟨p2,by rw [hel i hi,hd]⟩
    ·cases hx
   ·cases hx
theorem uT {name:String} {g f:Nat} {t:TypeId} {cs:Array Value} {d:DataW Unit} {p:List MemPlace} {x:List D} {m:Nat} {en:TypeId×Value→Unit}
  (hg:P.globalNamed name=some g) (hv:w.var? P name=some cs) (hd:DataW.trod en P w base spare held f t cs.toList=some (d,p)) (hu:DO P m t d=some x):dT (iH w) g 0 x:=by
 refine tG (qR f m t cs.toList d p x hd hu) fun i v hi=>?_
 unfold iH
 rw [World.var?_cell hg hv,Nat.zero_add,← Array.getElem?_toList]
 exact hi
theorem SD {μ:Nat→Nat→Option Value}:∀ {a:List Value} {x:List D},rZ μ a x→a.length=x.length
 | [],[],_=>rfl
 | v::vs,c::cs,h=>by simp [SD h.2]
 | [],_::_,h=>h.elim
 | _::_,[],h=>h.elim
theorem sA {name:String} {g f:Nat} {t:TypeId} {cs:Array Value} {d:DataW Unit} {p:List MemPlace} {x:List D} {m:Nat} {en:TypeId×Value→Unit}
  (hg:P.globalNamed name=some g) (hv:w.var? P name=some cs) (hd:DataW.trod en P w base spare held f t cs.toList=some (d,p)) (hu:DO P m t d=some x):∃ a ety z,w.heap[g]?=some (.cells a ety z)∧a.size=x.length:=by
 have hl:=SD (qR (μ:=fun _ _=>none) f m t cs.toList d p x hd hu)
 simp only [World.var?,hg,Option.bind_some] at hv
 split at hv
 ·rename_i a ety z h
  simp only [Option.some.injEq] at hv
  subst hv
  exact ⟨_,_,_,h,by simpa using hl⟩
 ·cases hv
end Go.Ab
namespace Go.Ab
open Go.RowKit Go.Sort
theorem nZ {E:dA} {f:FuncId} {xs:List AV} {y:AV} (hent:eR E.P f=true)
  (h:∀ (w:World) (g:Gh) (vs:List Value),bB g vs xs→Mem (cK E w g []) (bL []) w g→Calls E.P f ⟨vs⟩ w fun e w'=>∃ v,e=.returned v∧aG g v y∧Below w.heap.size w w'):Cf E f xs [] y []:=by
 refine ⟨hent,fun w g vs hr m=>(h w g vs hr m).mono ?_⟩
 rintro e w' ⟨v,rfl,ry,hb⟩
 refine ⟨v,g,rfl,ry,?_⟩
 have hL:∀ n,g.L n=none:=fun n=>by
  have:=m.blks n
  simpa [bL,lL] using this
 refine ⟨fun n=>?_,fun b o v hv=>?_,m.glob,?_,?_,Nat.le_trans m.size hb.size,?_,m.mext,m.mold,m.lkeep,hb.os.trans m.os,hb.tape.trans m.tape,hb.output.trans m.output,m.know⟩
 ·have:=m.blks n
  simp only [bL,List.length_nil] at this ⊢
  simpa [lL] using this
 ·have hc:=m.con b o v hv
  have hlt:b<w.heap.size:=by
   unfold World.cell? at hc
   rcases Nat.lt_or_ge b w.heap.size with c | c
   ·exact c
   ·rw [show w.heap[b]?=none from Array.getElem?_eq_none c] at hc
    cases hc
  unfold World.cell? at hc ⊢
  rw [hb.block b hlt]
  exact hc
 ·intro i j l l' _ h1; simp [bL,Blk.live] at h1
 ·intro i l h1; simp [bL,Blk.live] at h1
 ·intro b hb1 hb2
  exact hb.block b hb1
theorem ZF {E:dA} {w:World} {g:Gh} {B:List Blk} {bl:Nat→Blk} (m:Mem (cK E w g B) bl w g) {name:String} {i:Nat} {k:IntKind} {zs:List Int}
  (hg:E.P.globalNamed name=some i) (hG:E.G i=some (zs.map fun z=>D.int k z)):Lib.TabIs E.P w name k zs:=by
 obtain ⟨_,_,a,ety,z,h1,h2⟩:=m.know i _ hG
 have h1':w.heap[i]?=some (.cells a ety z):=h1
 have hc:=iG.1 (m.glob i _ hG)
 unfold Lib.TabIs World.var?
 rw [hg]
 simp only [Option.bind_some,h1']
 congr 1
 apply Array.ext
 ·simp [h2]
 ·intro j hj1 hj2
  have hj:j<zs.length:=by simpa [h2] using hj1
  obtain ⟨v,hv,hr⟩:=hc j (.int k zs[j]) (by rw [List.getElem?_map,List.getElem?_eq_getElem hj]; rfl)
  have hcell:=m.con _ _ _ hv
  simp only [aU] at hr
  subst hr
  unfold World.cell? at hcell
  rw [h1'] at hcell
  simp at hcell
  rw [Array.getElem?_eq_some_iff] at hcell
  obtain ⟨_,hx⟩:=hcell
  simp [hx]
end Go.Ab
namespace Go.Ab
structure pL {α:Type} (k:α):Type where
theorem aHH {α:Type} (f:Nat→α) (i j:Nat) (x:α):dQ f i x j=if j=i then x else f j:=rfl
theorem aCl (t:List Nat) (bl:Nat→Blk) (n:Nat):bM t bl n=if n∈t then bl n else .dead:=rfl
theorem aEr {E:dA} {ops:Array Oper} {st:St} {lg:List eX} {K:St→List eX→Prop}:rX E ops [] st lg K=K st lg:=_root_.id rfl
theorem aCm {E:dA} {ops:Array Oper} {o:Oper} {rest:List Oper} {st:St} {lg:List eX} {K:St→List eX→Prop} (hg:o.guard=none):rX E ops (o::rest) st lg K=mR E o st fun st' t wn=>rX E ops rest st' (lg++[(t,wn)]) K:=by
 simp [rX,eK,hg]
def uG (v:AV) (want:Bool) (x y:Prop) (_:pL (x,y)):Prop:=match v with
 | .d (.bool b)=>if b=want then x else y
 | .sk=>y
 | _=>False
def RQ (ops:List Oper) (j:Nat) (s:Nat→AV):AV:=match (ops[j]?).bind (·.dst) with
 | some t=>s t
 | none=>.sk
theorem XG {E:dA} {ops:List Oper} {rest:List Oper} {st:St} {lg:List eX} {K:St→List eX→Prop} {dst:Option Tmp} {op:Op} {ty:TypeId} {pos:String} {after:Array Edge} {j:Nat} {want:Bool} :
  rX E ⟨ops⟩ ({ dst:=dst,op:=op,type:=ty,pos:=pos,after:=after,guard:=some (j,want) }::rest) st lg K =
   uG (RQ ops j st.s) want (mR E { dst:=dst,op:=op,type:=ty,pos:=pos,after:=after,guard:=some (j,want) } st fun st' t wn=>rX E ⟨ops⟩ rest st' (lg++[(t,wn)]) K) (rX E ⟨ops⟩ rest (st.put dst .sk []) (lg++[([],[])]) K) ⟨⟩:=by
 have he:((⟨ops⟩:Array Oper)[j]?)=ops[j]?:=by simp
 simp only [rX,eK,he,RQ]
 cases ht:(ops[j]?).bind (·.dst) with
 | none=>simp [uG]
 | some t =>
   simp only
   cases e:st.s t with
   | d x =>
     cases x with
     | bool b=>by_cases e:b=want <;> simp [uG,e]
     | _=>simp [uG]
   | sk=>simp [uG]
   | _=>simp [uG]
theorem aCn {want:Bool} {x y:Prop} {t:pL (x,y)}:uG (.d (.bool true)) want x y t=if want=true then x else y:=by cases want <;> rfl
theorem XH {want:Bool} {x y:Prop} {t:pL (x,y)}:uG (.d (.bool false)) want x y t=if want=true then y else x:=by cases want <;> rfl
theorem aI {b want:Bool} {x y:Prop} {t:pL (x,y)} (h1:b=want→x) (h2:b=(!want)→y):uG (.d (.bool b)) want x y t:=by
 cases b <;> cases want <;> simp_all [uG]
theorem aHI {want:Bool} {x y:Prop} {t:pL (x,y)}:uG .sk want x y t=y:=rfl
def aHJ (r:BL) (t:List Nat) (dst:Option Tmp) (st:St) (K:St→List Nat→List Nat→Prop) (_:pL K):Prop:=match r with
 | some (v,wr)=>wr.all (fun p=>t.contains p.1)=true∧K { s:=zW st.s dst v,b:=bW st.b wr } t (wr.map (·.1))
 | none=>False
theorem BO {v:AV} {t:List Nat} {dst:Option Tmp} {st:St} {K:St→List Nat→List Nat→Prop} {tk:pL K}:aHJ (some (v,[])) t dst st K tk=K { s:=zW st.s dst v,b:=st.b } t []:=by simp [aHJ,bW]
theorem aCo {v:AV} {p:Nat×Blk} {wr:List (Nat×Blk)} {t:List Nat} {dst:Option Tmp} {st:St} {K:St→List Nat→List Nat→Prop} {tk:pL K}:aHJ (some (v,p::wr)) t dst st K tk =
  ((p::wr).all (fun p=>t.contains p.1)=true∧K { s:=zW st.s dst v,b:=bW st.b (p::wr) } t ((p::wr).map (·.1))):=rfl
theorem BP {E:dA} {o:Oper} {st:St} {K:St→List Nat→List Nat→Prop}:fO E o st K=aHJ ((zK E.P (mX E.G st.s) o (bM (oE (mX E.G st.s) o) st.b))) ((oE (mX E.G st.s) o)) o.dst st K ⟨⟩:=_root_.id rfl
def aEs (E:dA) (v:AV) (args:List AV) (dst:Option Tmp) (st:St) (K:St→List Nat→List Nat→Prop) (_:pL K):Prop:=match v with
 | .clo f caps=>nV E f (args++caps) dst st K
 | .bnd f fs=>nV E f (fs++args) dst st K
 | _=>False
theorem aEt {E:dA} {f:FuncId} {caps args:List AV} {dst:Option Tmp} {st:St} {K:St→List Nat→List Nat→Prop} {tk:pL K}:aEs E (.clo f caps) args dst st K tk=nV E f (args++caps) dst st K:=rfl
theorem aEu {E:dA} {f:FuncId} {fs args:List AV} {dst:Option Tmp} {st:St} {K:St→List Nat→List Nat→Prop} {tk:pL K}:aEs E (.bnd f fs) args dst st K tk=nV E f (fs++args) dst st K:=rfl
section
variable {E:dA} {dst:Option Tmp} {ty:TypeId} {pos:String} {after:Array Edge} {g:Option (Nat×Bool)} {st:St} {K:St→List Nat→List Nat→Prop}
theorem aEv {fo:Operand} {args:Array Operand} {types:Array TypeId}:mR E { dst:=dst,op:=.call { callee:=.value fo,args:=args,argTypes:=types },type:=ty,pos:=pos,after:=after,guard:=g } st K=aEs E ((mX E.G st.s fo)) ((args.toList.map (mX E.G st.s))) dst st K ⟨⟩:=_root_.id rfl
theorem RR {b:Builtin} {args:Array Operand} {types:Array TypeId}:mR E { dst:=dst,op:=.call { callee:=.builtin b,args:=args,argTypes:=types },type:=ty,pos:=pos,after:=after,guard:=g } st K =
  fO E { dst:=dst,op:=.call { callee:=.builtin b,args:=args,argTypes:=types },type:=ty,pos:=pos,after:=after,guard:=g } st K:=_root_.id rfl
theorem aEw {x:Operand}:mR E { dst:=dst,op:=.move x,type:=ty,pos:=pos,after:=after,guard:=g } st K=K { s:=zW st.s dst (mX E.G st.s x),b:=st.b } [] []:=by
 simp only [mR,BP,zK,oE,eB,BO]
theorem XI {x:Operand}:mR E { dst:=dst,op:=.assign x,type:=ty,pos:=pos,after:=after,guard:=g } st K=K { s:=zW st.s dst (mX E.G st.s x),b:=st.b } [] []:=by
 simp only [mR,BP,zK,oE,eB,BO]
theorem ON {x:Operand}:mR E { dst:=dst,op:=.nilCheck x,type:=ty,pos:=pos,after:=after,guard:=g } st K=fO E { dst:=dst,op:=.nilCheck x,type:=ty,pos:=pos,after:=after,guard:=g } st K:=_root_.id rfl
theorem aEx {c x y:Operand}:mR E { dst:=dst,op:=.pick c x y,type:=ty,pos:=pos,after:=after,guard:=g } st K=fO E { dst:=dst,op:=.pick c x y,type:=ty,pos:=pos,after:=after,guard:=g } st K:=_root_.id rfl
theorem aCp {t:TypeId}:mR E { dst:=dst,op:=.alloc t,type:=ty,pos:=pos,after:=after,guard:=g } st K=fO E { dst:=dst,op:=.alloc t,type:=ty,pos:=pos,after:=after,guard:=g } st K:=_root_.id rfl
theorem aHK {t:TypeId} {x:Operand}:mR E { dst:=dst,op:=.box t x,type:=ty,pos:=pos,after:=after,guard:=g } st K=fO E { dst:=dst,op:=.box t x,type:=ty,pos:=pos,after:=after,guard:=g } st K:=_root_.id rfl
theorem aCq {t:TypeId} {ps:Array (Nat×Operand)}:mR E { dst:=dst,op:=.build t ps,type:=ty,pos:=pos,after:=after,guard:=g } st K=fO E { dst:=dst,op:=.build t ps,type:=ty,pos:=pos,after:=after,guard:=g } st K:=_root_.id rfl
theorem GR {t:TypeId} {n:Nat} {ps:Array (Nat×Operand)}:mR E { dst:=dst,op:=.buildSlice t n ps,type:=ty,pos:=pos,after:=after,guard:=g } st K=fO E { dst:=dst,op:=.buildSlice t n ps,type:=ty,pos:=pos,after:=after,guard:=g } st K:=_root_.id rfl
theorem aEy {t:TypeId} {x:Operand}:mR E { dst:=dst,op:=.load t x,type:=ty,pos:=pos,after:=after,guard:=g } st K=fO E { dst:=dst,op:=.load t x,type:=ty,pos:=pos,after:=after,guard:=g } st K:=_root_.id rfl
theorem aCr {t:TypeId} {x y:Operand}:mR E { dst:=dst,op:=.store t x y,type:=ty,pos:=pos,after:=after,guard:=g } st K=fO E { dst:=dst,op:=.store t x y,type:=ty,pos:=pos,after:=after,guard:=g } st K:=_root_.id rfl
theorem aCs {b:BinOp} {t t':TypeId} {x y:Operand}:mR E { dst:=dst,op:=.binOp b t x y t',type:=ty,pos:=pos,after:=after,guard:=g } st K=fO E { dst:=dst,op:=.binOp b t x y t',type:=ty,pos:=pos,after:=after,guard:=g } st K:=_root_.id rfl
theorem aEz {b:UnOp} {t:TypeId} {x:Operand}:mR E { dst:=dst,op:=.unOp b t x,type:=ty,pos:=pos,after:=after,guard:=g } st K=fO E { dst:=dst,op:=.unOp b t x,type:=ty,pos:=pos,after:=after,guard:=g } st K:=_root_.id rfl
theorem RT {t t':TypeId} {x:Operand}:mR E { dst:=dst,op:=.convert t t' x,type:=ty,pos:=pos,after:=after,guard:=g } st K=fO E { dst:=dst,op:=.convert t t' x,type:=ty,pos:=pos,after:=after,guard:=g } st K:=_root_.id rfl
theorem OO {fn:Fn} {ts xs:Array Operand}:mR E { dst:=dst,op:=.makeFunc fn ts xs,type:=ty,pos:=pos,after:=after,guard:=g } st K=fO E { dst:=dst,op:=.makeFunc fn ts xs,type:=ty,pos:=pos,after:=after,guard:=g } st K:=_root_.id rfl
theorem KV {t:TypeId} {x y:Operand}:mR E { dst:=dst,op:=.makeSlice t x y,type:=ty,pos:=pos,after:=after,guard:=g } st K=fO E { dst:=dst,op:=.makeSlice t x y,type:=ty,pos:=pos,after:=after,guard:=g } st K:=_root_.id rfl
theorem aCt {t:TypeId} {x:Operand} {lo hi mx:Option Operand}:mR E { dst:=dst,op:=.slice t x lo hi mx,type:=ty,pos:=pos,after:=after,guard:=g } st K=fO E { dst:=dst,op:=.slice t x lo hi mx,type:=ty,pos:=pos,after:=after,guard:=g } st K:=_root_.id rfl
theorem KW {t:TypeId} {x:Operand} {f:Nat}:mR E { dst:=dst,op:=.fieldAddr t x f,type:=ty,pos:=pos,after:=after,guard:=g } st K=fO E { dst:=dst,op:=.fieldAddr t x f,type:=ty,pos:=pos,after:=after,guard:=g } st K:=_root_.id rfl
theorem aCu {t:TypeId} {x:Operand} {f:Nat}:mR E { dst:=dst,op:=.field t x f,type:=ty,pos:=pos,after:=after,guard:=g } st K=fO E { dst:=dst,op:=.field t x f,type:=ty,pos:=pos,after:=after,guard:=g } st K:=_root_.id rfl
theorem KX {t:TypeId} {x y:Operand}:mR E { dst:=dst,op:=.indexAddr t x y,type:=ty,pos:=pos,after:=after,guard:=g } st K=fO E { dst:=dst,op:=.indexAddr t x y,type:=ty,pos:=pos,after:=after,guard:=g } st K:=_root_.id rfl
theorem aCv {t:TypeId} {x y:Operand}:mR E { dst:=dst,op:=.index t x y,type:=ty,pos:=pos,after:=after,guard:=g } st K=fO E { dst:=dst,op:=.index t x y,type:=ty,pos:=pos,after:=after,guard:=g } st K:=_root_.id rfl
theorem aCw {t:TypeId} {x:Operand}:mR E { dst:=dst,op:=.range t x,type:=ty,pos:=pos,after:=after,guard:=g } st K=fO E { dst:=dst,op:=.range t x,type:=ty,pos:=pos,after:=after,guard:=g } st K:=_root_.id rfl
theorem aEA {x:Operand} {b:Bool}:mR E { dst:=dst,op:=.next x b,type:=ty,pos:=pos,after:=after,guard:=g } st K=fO E { dst:=dst,op:=.next x b,type:=ty,pos:=pos,after:=after,guard:=g } st K:=_root_.id rfl
theorem RU {t:TypeId}:mR E { dst:=dst,op:=.makeMap t none,type:=ty,pos:=pos,after:=after,guard:=g } st K=fO E { dst:=dst,op:=.makeMap t none,type:=ty,pos:=pos,after:=after,guard:=g } st K:=_root_.id rfl
theorem KY {t:TypeId} {x y z:Operand}:mR E { dst:=dst,op:=.mapUpdate t x y z,type:=ty,pos:=pos,after:=after,guard:=g } st K=fO E { dst:=dst,op:=.mapUpdate t x y z,type:=ty,pos:=pos,after:=after,guard:=g } st K:=_root_.id rfl
theorem XJ {t:TypeId} {x y:Operand} {b:Bool}:mR E { dst:=dst,op:=.lookup t x y b,type:=ty,pos:=pos,after:=after,guard:=g } st K=fO E { dst:=dst,op:=.lookup t x y b,type:=ty,pos:=pos,after:=after,guard:=g } st K:=_root_.id rfl
theorem RV {x:Operand} {i:Nat}:mR E { dst:=dst,op:=.extract x i,type:=ty,pos:=pos,after:=after,guard:=g } st K=fO E { dst:=dst,op:=.extract x i,type:=ty,pos:=pos,after:=after,guard:=g } st K:=_root_.id rfl
end
def RW (v:AV) (x y:Prop) (_:pL (x,y)):Prop:=match v with
 | .d (.bool b)=>(b=true→x)∧(b=false→y)
 | .anyb=>x∧y
 | _=>False
theorem aEB {x y:Prop} {t:pL (x,y)}:RW .anyb x y t=(x∧y):=rfl
theorem aCx {x y:Prop} {t:pL (x,y)}:RW (.d (.bool true)) x y t=x:=by simp [RW]
theorem XK {x y:Prop} {t:pL (x,y)}:RW (.d (.bool false)) x y t=y:=by simp [RW]
theorem aCy {b:Bool} {x y:Prop} {t:pL (x,y)}:RW (.d (.bool b)) x y t=((b=true→x)∧(b=false→y)):=rfl
section
variable {E:dA} {N nb:Nat} {st:St} {Q:AExit→St→Prop}
theorem XL:fJ E N nb .skip st Q=Q .normal st:=_root_.id rfl
theorem OP {id:Nat} {ops:List Oper} {draw:Bool}:fJ E N nb (.region id ⟨ops⟩ draw) st Q=rX E ⟨ops⟩ ops st [] fun st' lg=>DM N draw ⟨ops⟩ lg=true∧Q .normal st':=_root_.id rfl
theorem aCz {x y:Code}:fJ E N nb (.seq x y) st Q=fJ E N nb x st fun e st'=>match e with
  | .normal=>fJ E N nb y st' Q
  | e=>Q e st':=_root_.id rfl
theorem XM {c:Operand} {x y:Code}:fJ E N nb (.cond c x y) st Q=RW ((mX E.G st.s c)) (fJ E N nb x st Q) (fJ E N nb y st Q) ⟨⟩:=_root_.id rfl
theorem RX {id:Nat} {c:Code}:fJ E N nb (.block id c) st Q=fJ E N nb c st fun e st'=>match e with
  | .exit id'=>if id'=id then Q .normal st' else Q (.exit id') st'
  | e=>Q e st':=_root_.id rfl
theorem XN {id:Nat}:fJ E N nb (.exit id) st Q=Q (.exit id) st:=_root_.id rfl
theorem aCA:fJ E N nb .ret st Q=Q .ret st:=_root_.id rfl
theorem XO {c:Code}:fJ E N nb (.loop c) st Q=RP E N nb c st Q:=_root_.id rfl
end
theorem RY {E:dA} {f:FuncId} {args xs:List AV} {dst:Option Tmp} {st:St} {K:St→List Nat→List Nat→Prop} {y:AV} (hx:(fN [] st.b args).1=xs) (h:Cf E f xs [] y [])
  (hK:K (st.put dst (iA [] 0 y) (eC st.b (aT [] st.b args))) (aT [] st.b args) (aT [] st.b args)):nV E f args dst st K:=by
 refine ⟨[],0,y,[],.inr rfl,⟨List.nodup_nil,?_,Nat.le_refl _,?_,by decide,?_⟩,?_⟩
 ·intro _ h; cases h
 ·intro j hj; simp at hj
 ·exact ⟨false,by rw [show (fL (kY []) st.b false args).1=xs from hx]; exact h⟩
 ·simpa [dF] using hK
def RegOk (N:Nat) (draw:Bool) (ops:Array Oper) (_:pL ops) (lg:List eX):Prop:=DM N draw ops lg=true
theorem RegOk.of {N:Nat} {draw:Bool} {ops:Array Oper} {t:pL ops} {lg:List eX} (h:DM N draw ops lg=true):RegOk N draw ops t lg:=h
theorem LH {E:dA} {N nb:Nat} {st:St} {Q:AExit→St→Prop} {id:Nat} {ops:List Oper} {draw:Bool}:fJ E N nb (.region id ⟨ops⟩ draw) st Q=rX E ⟨ops⟩ ops st [] fun st' lg=>RegOk N draw ⟨ops⟩ ⟨⟩ lg∧Q .normal st':=by rw [OP]; simp only [RegOk]
def jU (E:dA) (f:FuncId) (args:List AV) (dst:Option Tmp) (st:St) (K:St→List Nat→List Nat→Prop) (_:pL K):Prop:=nV E f args dst st K
theorem aCS {E:dA} {f:FuncId} {caps args:List AV} {dst:Option Tmp} {st:St} {K:St→List Nat→List Nat→Prop} {tk:pL K}:aEs E (.clo f caps) args dst st K tk=jU E f (args++caps) dst st K ⟨⟩:=by rw [aEt]; simp only [jU]
theorem aCT {E:dA} {f:FuncId} {fs args:List AV} {dst:Option Tmp} {st:St} {K:St→List Nat→List Nat→Prop} {tk:pL K}:aEs E (.bnd f fs) args dst st K tk=jU E f (fs++args) dst st K ⟨⟩:=by rw [aEu]; simp only [jU]
theorem aA {E:dA} {f:FuncId} {args xs:List AV} {dst:Option Tmp} {st:St} {K:St→List Nat→List Nat→Prop} {t:pL K} {y:AV} (h:Cf E f xs [] y []) (hx:(fN [] st.b args).1=xs)
  (hK:K (st.put dst (iA [] 0 y) (eC st.b (aT [] st.b args))) (aT [] st.b args) (aT [] st.b args)):jU E f args dst st K t:=RY hx h hK
def vA (E:dA) (N nb:Nat) (c:Code) (st:St) (Q:AExit→St→Prop) (_:pL (c,Q)):Prop:=RP E N nb c st Q
theorem TO {E:dA} {N nb:Nat} {st:St} {Q:AExit→St→Prop} {c:Code}:fJ E N nb (.loop c) st Q=vA E N nb c st Q ⟨⟩:=by rw [XO]; simp only [vA]
def DX {ι:Type} (E:dA) (N nb:Nat) (F:ι→St) (I:ι→Prop) (meas:ι→Nat) (i:ι) (st:St) (_:pL (F,I,meas,i)):Prop:=∃ i',I i'∧Sub E N nb st (F i')∧meas i'<meas i
theorem aEN {E:dA} (hmix:E.P.follows .mixedOrders=true) {N nb:Nat} (hN:N≤aB) {c:Code} {st:St} {Q:AExit→St→Prop} {t:pL (c,Q)} {ι:Type} (F:ι→St) (I:ι→Prop) (meas:ι→Nat) (i0:ι) (hi:I i0) (h0:Sub E N nb st (F i0))
  (round:∀ i,I i→fJ E N nb c (F i) fun e st'=>match e with
   | .normal=>DX E N nb F I meas i st' ⟨⟩
   | e=>Q e st'):vA E N nb c st Q t:=by
 refine aMz (ι:={ i:ι // I i }) hmix hN (fun i=>F i.1) (fun i=>meas i.1) ⟨i0,hi⟩ h0 fun i=>?_
 have h:=round i.1 i.2
 have e:(fun e st'=>match e with
   | .normal=>DX E N nb F I meas i.1 st' ⟨⟩
   | e=>Q e st':AExit→St→Prop)=fun e st'=>match e with
   | .normal=>∃ i':{ i:ι // I i },Sub E N nb st' (F i'.1)∧meas i'.1<meas i.1
   | e=>Q e st':=by
  funext e st'
  cases e <;> simp only [DX]
  apply propext
  constructor
  ·rintro ⟨i2,a,b,d⟩; exact ⟨⟨i2,a⟩,b,d⟩
  ·rintro ⟨⟨i2,a⟩,b,d⟩; exact ⟨i2,a,b,d⟩
 rw [e] at h
 exact h
theorem ZI {E:dA} {fn:Func} {y:AV} {st:St}:Ends E fn 0 y [] st=∃ v,uR E fn st=some v∧(jW (fun _=>none) st.b false v).1=y:=by
 apply propext
 constructor
 ·rintro ⟨v,l,h1,_,h3,h4⟩
  have:l=[]:=by simpa using h3
  subst this
  exact ⟨v,h1,h4⟩
 ·rintro ⟨v,h1,h2⟩
  exact ⟨v,[],h1,⟨by simp,by simp,by simp,by simp⟩,rfl,h2⟩
def aKs (r:Option AV) (bl:Nat→Blk) (y:AV):Prop:=match r with
 | some v=>(jW (fun _=>none) bl false v).1=y
 | none=>False
theorem aCU {E:dA} {fn:Func} {y:AV} {st:St}:Ends E fn 0 y [] st=aKs (uR E fn st) st.b y:=by
 rw [ZI]
 unfold aKs
 cases uR E fn st <;> simp
theorem aCV {v y:AV} {bl:Nat→Blk}:aKs (some v) bl y=((jW (fun _=>none) bl false v).1=y):=rfl
theorem TP {E:dA} {fn:Func} {y:AV} {st:St}:aAT E fn 0 y [] st=∃ v,uR E fn st=some v∧(jW (fun _=>none) st.b true v).1=y:=by
 apply propext
 constructor
 ·rintro ⟨v,l,h1,_,h3,h4⟩
  have:l=[]:=by simpa using h3
  subst this
  exact ⟨v,h1,h4⟩
 ·rintro ⟨v,h1,h2⟩
  exact ⟨v,[],h1,⟨by simp,by simp,by simp,by simp⟩,rfl,h2⟩
def aEO (r:Option AV) (bl:Nat→Blk) (y:AV):Prop:=match r with
 | some v=>(jW (fun _=>none) bl true v).1=y
 | none=>False
theorem ZJ {E:dA} {fn:Func} {y:AV} {st:St}:aAT E fn 0 y [] st=aEO (uR E fn st) st.b y:=by
 rw [TP]
 unfold aEO
 cases uR E fn st <;> simp
theorem ZK {v y:AV} {bl:Nat→Blk}:aEO (some v) bl y=((jW (fun _=>none) bl true v).1=y):=rfl
theorem aHN (l:List (Nat×AV)) (i:Nat):eP l i=bW (fun _=>.un) l i:=_root_.id rfl
theorem aHO (l:uQ) (i:Nat):eG l i=bW (fun _=>.free) (l.map fun p=>(p.1,p.2.2)) i:=_root_.id rfl
theorem aCW (i:Nat):bL [] i=.free:=by simp [bL]
theorem aZ {n:Int} (h1:-9223372036854775808≤n) (h2:n≤9223372036854775807):IntKind.i64.wrap n=n:=by rw [IntKind.wrap_i64]; omega
def aHP:Nat→Nat→List Nat
 | _,0=>[]
 | k,n+1=>k::aHP (k+1) n
theorem ZL (n:Nat):List.range n=aHP 0 n:=by
 rw [List.range_eq_range']
 generalize 0=k
 induction n generalizing k with
 | zero=>rfl
 | succ n ih=>rw [List.range'_succ,ih,aHP]
theorem aEP (n:Nat):kY [] n=none:=by simp [kY]
theorem KeptOk.nil {bl:Nat→Blk}:KeptOk 0 bl []:=⟨by simp,by simp,by simp,by simp⟩
attribute [simp ↓] aEr aCm XG aEv RR aEw XI ON aEx aCp aHK aCq GR aEy aCr aCs aEz RT OO KV aCt KW aCu KX aCv RV aCw aEA RU KY XJ XL LH aCz XM RX XN aCA TO BP aCU ZJ
attribute [simp] RQ aEP aHP ZL aHN aHO aCW begin KeptOk.nil aCn XH aHI BO aCo aCS aCT aCx XK aCy aEB aHH aCl aCV ZK fN aT bE iA
attribute [simp] zW bW mX iF zK oE eB OC xG OD tC OE tD OF aHz aHA OG eD aAM aHB unE uO BN OH aHC zC GO aHE aHF zD OI EV GN rK OJ qO aAN aAO LU tE aHD OL aAR zJ OK aAQ EX EY EZ aAP aHG AV.mnames AV.names zL AV.cells AV.isCell AV.good OB qH eC nL dI TK.agg xR aAS uR jW fL qG Blk.frzd St.put
attribute [irreducible] vA jU
theorem RegOk.ok {N:Nat} {draw:Bool} {ops:Array Oper} {t:pL ops} {lg:List eX} (h:DM N draw ops lg=true:=by kernel_rfl):RegOk N draw ops t lg:=h
theorem gc {b want:Bool} {x y:Prop} {t:pL (x,y)} (h1:b=want→x) (h2:b=(!want)→y):uG (.d (.bool b)) want x y t:=aI h1 h2
theorem gz {p:Prop} (h:p:=by (repeat' (first | contradiction | exact RegOk.of (by kernel_rfl) | refine And.intro ?_ ?_ | intro _ | (refine aI (fun h=>?_) (fun h=>?_) <;> (have h':=h; (try simp at h'); first | done | simp [h,h'] | simp))))):p:=h
structure W (q:Prop):Prop where
 out:q
theorem gs {p q:Prop} (h:q) (e:W q→p:=by intro h; first | ((simp <;> (repeat' first | contradiction | exact .ok | apply And.intro | intro _ | (apply gc <;> simp +contextual))) <;> exact h.out) | ((simp <;> (repeat' (first | contradiction | exact .ok | apply And.intro | intro _ | (refine gc (fun h=>?_) (fun h=>?_) <;> (have h':=h; (try simp at h'); first | done | simp [h,h'] | simp))))) <;> exact h.out)):p:=e ⟨h⟩
theorem gw {p q:Prop} (h:q) (e:W q→p:=by intro h; first | ((repeat' first | contradiction | exact .ok | apply And.intro | intro _ | (apply gc <;> simp +contextual)) <;> exact h.out) | ((repeat' (first | contradiction | exact .ok | apply And.intro | intro _ | (refine gc (fun h=>?_) (fun h=>?_) <;> (have h':=h; (try simp at h'); first | done | simp [h,h'] | simp)))) <;> exact h.out)):p:=e ⟨h⟩
theorem gq {p:Prop} (h:p:=by first | (simp <;> (repeat' first | contradiction | exact .ok | apply And.intro | intro _ | (apply gc <;> simp +contextual))) | (simp <;> (repeat' (first | contradiction | exact .ok | apply And.intro | intro _ | (refine gc (fun h=>?_) (fun h=>?_) <;> (have h':=h; (try simp at h'); first | done | simp [h,h'] | simp)))))):p:=h
theorem gr {p q:Prop} (h:q) (e:W q→p:=by intro h; (repeat refine ⟨.of (by kernel_rfl),?_⟩); exact h.out):p:=e ⟨h⟩
theorem aP {E:dA} {f:FuncId} {args xs:List AV} {dst:Option Tmp} {st:St} {K:St→List Nat→List Nat→Prop} {t:pL K} {y:AV} (h:Cf E f xs [] y [])
  (hK:K (st.put dst (iA [] 0 y) (eC st.b (aT [] st.b args))) (aT [] st.b args) (aT [] st.b args)) (hx:(fN [] st.b args).1=xs:=by simp):jU E f args dst st K t:=aA h hx hK
theorem aL {E:dA} (hmix:E.P.follows .mixedOrders=true) {N nb:Nat} {c:Code} {st:St} {Q:AExit→St→Prop} {t:pL (c,Q)} {ι:Type} (F:ι→St) (I:ι→Prop) (meas:ι→Nat) (i0:ι) (hi:I i0) (h0:Sub E N nb st (F i0))
  (round:∀ i,I i→fJ E N nb c (F i) fun e st'=>match e with
   | .normal=>DX E N nb F I meas i st' ⟨⟩
   | e=>Q e st') (hN:N≤aB:=by decide):vA E N nb c st Q t:=aEN hmix hN F I meas i0 hi h0 round
theorem wI {n:Int} (h1:-9223372036854775808≤n:=by omega) (h2:n≤9223372036854775807:=by omega):IntKind.i64.wrap n=n:=aZ h1 h2
theorem cI {E:dA} (hmix:E.P.follows .mixedOrders=true) {f:FuncId} {fn:Func} {c:Code} (hbody:fn.body=some c) {xs:List AV} {B B':List Blk} {y:AV}
  (h:fJ E fn.ntmps B.length c (begin xs B) fun e st=>match e with
   | .exit _=>False
   | _=>Ends E fn B.length y B' st) (hf:E.P.funcs[f]?=some fn:=by kernel_rfl) (hent:eR E.P f=true:=by kernel_rfl) (hN:fn.ntmps≤aB:=by decide) (hx:xs.length≤fn.ntmps:=by simp):Cf E f xs B y B':=aED hmix hf hbody hent hN hx h
theorem sM {E:dA} {N nb:Nat} {st:St} (slots:List (Nat×AV)) (l:uQ) (h3:∀ p∈l,((st.b p.2.1).live=true∨st.b p.2.1=.dead)∧(qG (aD l) st.b true (st.b p.2.1)).1=p.2.2) (hs:∀ p∈slots,(jW (aD l) st.b true (st.s p.1)).1=p.2)
  (h1:(l.map fun p=>p.1).Nodup:=by simp) (h2:(l.map fun p=>p.2.1).Nodup:=by simp) (h4:∀ j,j<nb→∃ p∈l,p.1=aB+j∧p.2.1=aB+j:=by simp):Sub E N nb st { s:=eP slots,b:=eG l }:=aJ slots l ⟨h1,h2,h3,h4⟩ hs
theorem gE {α:Type} {l:List α} {i:Nat} (h:i<l.length):l[i]?=some l[i]:=List.getElem?_eq_getElem h
theorem bD {E:dA} {f:FuncId} {args xs:List AV} {B B':List Blk} {dst:Option Tmp} {st:St} {K:St→List Nat→List Nat→Prop} {t:pL K} {y:AV} (ks:List Nat) (h:Cf E f xs B y B') (hlen:B'.length=ks.length) (nd:ks.Nodup)
  (hlive:∀ n∈ks,(st.b n).live=true) (hb:(bE ks st.b).map (·.1)=B) (hx:(fN ks st.b args).1=xs)
  (hK:K (st.put dst (iA ks 0 y) (eC st.b (aT ks st.b args)++dF ks 0 B')) (aT ks st.b args++ks++(dF ks 0 B').map (·.1)) (aT ks st.b args++(dF ks 0 B').map (·.1))):jU E f args dst st K t:=by
 unfold jU
 refine ⟨ks,0,y,B',.inr hlen,⟨nd,hlive,by omega,fun j hj=>by omega,?_,?_⟩,hK⟩
 ·rw [hlen,Nat.sub_self]; decide
 ·exact ⟨false,by rw [show (fL (kY ks) st.b false args).1=xs from hx,hb]; exact h⟩
def zN:Nat→List Blk→uQ
 | _,[]=>[]
 | i,b::B=>(aB+i,aB+i,b)::zN (i+1) B
def BR (B:List Blk):uQ:=zN 0 B
theorem SA:∀ (B:List Blk) (i:Nat),((zN i B).map fun p=>(p.1,p.2.2))=((B.zipIdx i).map fun p=>(aB+p.2,p.1))
 | [],_=>rfl
 | b::B,i=>by simp [zN,SA B (i+1)]
theorem uS:∀ (B:List Blk) (i j:Nat),(zN i B)[j]?=(B[j]?).map fun b=>(aB+(i+j),aB+(i+j),b)
 | [],_,_=>rfl
 | b::B,i,0=>by simp [zN]
 | b::B,i,j+1=>by simp [zN,uS B (i+1) j]; rw [show i+1+j=i+(j+1) from by omega]
def LW (nb:Nat) (r:Option AV) (bl:Nat→Blk) (y:AV) (B':List Blk):Prop:=match r with
 | some v=>KeptOk nb bl (BR B')∧(jW (aD (BR B')) bl false v).1=y
 | none=>False
theorem BS {E:dA} {fn:Func} {y:AV} {st:St} {B':List Blk}:Ends E fn B'.length y B' st=LW B'.length (uR E fn st) st.b y B':=by
 apply propext
 unfold LW
 constructor
 ·rintro ⟨v,l,hv,ok,hm,hy⟩
  have hl:l=BR B':=by
   apply List.ext_getElem?
   intro i
   unfold BR
   rw [uS,Nat.zero_add]
   have hi:=congrArg (·[i]?) hm
   simp only [List.getElem?_map,List.getElem?_zipIdx,Nat.zero_add,Option.map_map] at hi
   cases hb:B'[i]? with
   | none =>
     rw [hb] at hi
     cases hli:l[i]? with
     | none=>rfl
     | some p=>rw [hli] at hi; cases hi
   | some b =>
     rw [hb] at hi
     cases hli:l[i]? with
     | none=>rw [hli] at hi; cases hi
     | some p =>
       rw [hli] at hi
       obtain ⟨a,n,c⟩:=p
       simp only [Option.map_some,Function.comp_apply,Option.some.injEq,Prod.mk.injEq] at hi
       obtain ⟨rfl,rfl⟩:=hi
       obtain ⟨hil,_⟩:=List.getElem?_eq_some_iff.1 hb
       obtain ⟨p,hp,e1,e2⟩:=ok.base i hil
       obtain ⟨k,hk⟩:=List.mem_iff_getElem?.1 hp
       have hn:=ok.new
       obtain ⟨hk1,hk2⟩:=List.getElem?_eq_some_iff.1 hk
       obtain ⟨hi1,hi2⟩:=List.getElem?_eq_some_iff.1 hli
       have hki:k=i:=by
        have hkm:(l.map fun p=>p.1)[k]?=some (aB+i):=by rw [List.getElem?_map,hk]; exact congrArg some e1
        have him:(l.map fun p=>p.1)[i]?=some (aB+i):=by rw [List.getElem?_map,hli]; rfl
        have hpw:=List.pairwise_iff_getElem.1 hn
        have hk3:k<(l.map fun p=>p.1).length:=by simpa using hk1
        have hi3:i<(l.map fun p=>p.1).length:=by simpa using hi1
        rw [List.getElem?_eq_getElem hk3,Option.some.injEq] at hkm
        rw [List.getElem?_eq_getElem hi3,Option.some.injEq] at him
        rcases Nat.lt_trichotomy k i with c | c | c
        ·exact absurd (hkm.trans him.symm) (hpw k i hk3 hi3 c)
        ·exact c
        ·exact absurd (him.trans hkm.symm) (hpw i k hi3 hk3 c)
       subst hki
       rw [hk] at hli
       simp only [Option.some.injEq] at hli
       subst hli
       simp only at e2
       subst e2
       rfl
  subst hl
  rw [hv]
  exact ⟨ok,hy⟩
 ·intro h
  cases hr:uR E fn st with
  | none=>rw [hr] at h; exact h.elim
  | some v =>
    rw [hr] at h
    exact ⟨v,BR B',hr,h.1,SA B' 0,h.2⟩
theorem XP {E:dA} {fn:Func} {y:AV} {st:St} {b:Blk}:Ends E fn 1 y [b] st=LW 1 (uR E fn st) st.b y [b]:=BS (B':=[b])
theorem XQ {E:dA} {fn:Func} {y:AV} {st:St} {b1 b2 b3 b4:Blk}:Ends E fn 4 y [b1,b2,b3,b4] st=LW 4 (uR E fn st) st.b y [b1,b2,b3,b4]:=BS (B':=[b1,b2,b3,b4])
theorem XR {nb:Nat} {v y:AV} {bl:Nat→Blk} {B:List Blk}:LW nb (some v) bl y B=(KeptOk nb bl (BR B)∧(jW (aD (BR B)) bl false v).1=y):=rfl
theorem tF:aB=1000000:=rfl
theorem aMA {B:List Blk} {nb:Nat} {bl:Nat→Blk} (hn:nb=B.length) (h:∀ i b,B[i]?=some b→((bl (aB+i)).live=true∨bl (aB+i)=.dead)∧(qG (aD (BR B)) bl true (bl (aB+i))).1=b):KeptOk nb bl (BR B):=by
 have inj:∀ (g:Nat×Nat×Blk→Nat),(∀ i b,g (aB+i,aB+i,b)=aB+i)→∀ (B:List Blk) (k:Nat),((zN k B).map g).Nodup∧∀ x∈(zN k B).map g,aB+k≤x:=by
  intro g hg B
  induction B with
  | nil=>intro k; exact ⟨List.nodup_nil,fun x hx=>by cases hx⟩
  | cons b B ih =>
    intro k
    obtain ⟨h1,h2⟩:=ih (k+1)
    simp only [zN,List.map_cons,hg,List.nodup_cons]
    refine ⟨⟨fun hm=>?_,h1⟩,fun x hx=>?_⟩
    ·have:=h2 _ hm; omega
    ·rcases List.mem_cons.1 hx with rfl | hx
     ·exact Nat.le_refl _
     ·have:=h2 x hx; omega
 refine ⟨(inj _ (fun _ _=>rfl) B 0).1,(inj _ (fun _ _=>rfl) B 0).1,fun p hp=>?_,fun j hj=>?_⟩
 ·obtain ⟨i,hi⟩:=List.mem_iff_getElem?.1 hp
  unfold BR at hi
  rw [uS] at hi
  cases hb:B[i]? with
  | none=>rw [hb] at hi; cases hi
  | some b =>
    rw [hb] at hi
    simp only [Nat.zero_add,Option.map_some,Option.some.injEq] at hi
    subst hi
    exact h i b hb
 ·have hj':j<B.length:=by omega
  refine ⟨(aB+j,aB+j,B[j]),?_,rfl,rfl⟩
  refine List.mem_iff_getElem?.2 ⟨j,?_⟩
  unfold BR
  rw [uS,List.getElem?_eq_getElem hj']
  simp
attribute [simp ↓] XP XQ
attribute [simp] tF XR
theorem aCC (k:Nat) (ks:List Nat) (n:Nat):kY (k::ks) n=if n=k then some 1000000 else (kY ks n).map (·+1):=by
 unfold kY
 rw [List.idxOf?_cons]
 by_cases h:n=k
 ·subst h; simp
 ·have:(k==n)=false:=by simpa using fun e=>h e.symm
  rw [this,if_neg h]
  cases List.idxOf? n ks <;> rfl
theorem aCD {B:List Blk} {n:Nat}:aD (BR B) n=if aB≤n∧n<aB+B.length then some n else none:=by
 have key:∀ (B:List Blk) (i:Nat),aD (zN i B) n=if aB+i≤n∧n<aB+i+B.length then some n else none:=by
  intro B
  induction B with
  | nil=>intro i; simp only [zN,aD]; rw [if_neg (by simp only [List.length_nil]; omega)]
  | cons b B ih =>
    intro i
    simp only [zN,aD,ih]
    by_cases h:n=aB+i
    ·subst h; simp
    ·simp only [h,if_false,List.length_cons]
     by_cases h2:aB+(i+1)≤n∧n<aB+(i+1)+B.length
     ·rw [if_pos h2,if_pos (by omega)]
     ·rw [if_neg h2,if_neg (by omega)]
 exact key B 0
theorem GV {B:List Blk} {bl:Nat→Blk}:KeptOk B.length bl (BR B)=∀ i b,B[i]?=some b→((bl (aB+i)).live=true∨bl (aB+i)=.dead)∧(qG (aD (BR B)) bl true (bl (aB+i))).1=b:=by
 apply propext
 constructor
 ·intro h i b hb
  exact h.cont (aB+i,aB+i,b) (List.mem_iff_getElem?.2 ⟨i,by unfold BR; rw [uS,hb]; simp⟩)
 ·exact aMA rfl
theorem aMB {b:Blk} {bl:Nat→Blk}:KeptOk 1 bl (BR [b])=(((bl 1000000).live=true∨bl 1000000=.dead)∧(qG (aD (BR [b])) bl true (bl 1000000)).1=b):=by
 have:=@GV [b] bl
 simp only [List.length_cons,List.length_nil,Nat.zero_add] at this
 rw [this]
 apply propext
 constructor
 ·intro h; exact h 0 b rfl
 ·rintro h i c hc
  cases i with
  | zero=>cases hc; exact h
  | succ i=>cases hc
theorem aMC {b0 b1 b2 b3:Blk} {bl:Nat→Blk}:KeptOk 4 bl (BR [b0,b1,b2,b3]) =
  ((((bl 1000000).live=true∨bl 1000000=.dead)∧(qG (aD (BR [b0,b1,b2,b3])) bl true (bl 1000000)).1=b0) ∧
  (((bl 1000001).live=true∨bl 1000001=.dead)∧(qG (aD (BR [b0,b1,b2,b3])) bl true (bl 1000001)).1=b1) ∧
  (((bl 1000002).live=true∨bl 1000002=.dead)∧(qG (aD (BR [b0,b1,b2,b3])) bl true (bl 1000002)).1=b2) ∧
  (((bl 1000003).live=true∨bl 1000003=.dead)∧(qG (aD (BR [b0,b1,b2,b3])) bl true (bl 1000003)).1=b3)):=by
 have:=@GV [b0,b1,b2,b3] bl
 simp only [List.length_cons,List.length_nil,Nat.zero_add,Nat.reduceAdd] at this
 rw [this]
 apply propext
 constructor
 ·intro h; exact ⟨h 0 b0 rfl,h 1 b1 rfl,h 2 b2 rfl,h 3 b3 rfl⟩
 ·rintro ⟨h0,h1,h2,h3⟩ i c hc
  match i,hc with
  | 0,hc=>cases hc; exact h0
  | 1,hc=>cases hc; exact h1
  | 2,hc=>cases hc; exact h2
  | 3,hc=>cases hc; exact h3
theorem XS {b:Blk} {B:List Blk} {n:Nat}:bL (b::B) n=if 1000000≤n then ((b::B)[n - 1000000]?).getD .free else .free:=rfl
theorem XT {B:List Blk} {n:Nat}:aD (BR B) n=if 1000000≤n∧n<1000000+B.length then some n else none:=aCD
attribute [simp] aMB aMC XS XT aCC
attribute [simp] dF bZ rW bE Blk.live
theorem bH {l:uQ} {b:Blk}:∀ j,j<1→∃ p∈((1000000,1000000,b)::l),p.1=aB+j∧p.2.1=aB+j:=fun j hj=>by
 obtain rfl:j=0:=by omega
 exact ⟨_,List.mem_cons_self,rfl,rfl⟩
theorem GW {E:dA} {f:FuncId} {args xs:List AV} {B B':List Blk} {d:Nat} {st:St} {K:St→List Nat→List Nat→Prop} {t:pL K} {y:AV} (ks:List Nat) (h:Cf E f xs B y B') (hlen:B'.length=ks.length+1) (nd:ks.Nodup)
  (hlive:∀ n∈ks,(st.b n).live=true) (hd:d≤900) (hfree:st.b (1000*(d+1))=.free) (hb:(bE ks st.b).map (·.1)=B) (hx:(fN ks st.b args).1=xs)
  (hK:K (st.put (some d) (iA ks d y) (eC st.b (aT ks st.b args)++dF ks d B')) (aT ks st.b args++ks++(dF ks d B').map (·.1)) (aT ks st.b args++(dF ks d B').map (·.1))):jU E f args (some d) st K t:=by
 unfold jU
 refine ⟨ks,d,y,B',.inl rfl,⟨nd,hlive,by omega,fun j hj=>?_,?_,?_⟩,hK⟩
 ·obtain rfl:j=0:=by omega
  exact hfree
 ·rw [hlen,Nat.add_sub_cancel_left]
  unfold dS
  rw [tF]
  omega
 ·exact ⟨false,by rw [show (fL (kY ks) st.b false args).1=xs from hx,hb]; exact h⟩
theorem SB {E:dA} {f:FuncId} {args xs:List AV} {B B':List Blk} {d:Nat} {st:St} {K:St→List Nat→List Nat→Prop} {t:pL K} {y:AV} (ks:List Nat) (h:Cf E f xs B y B') (hlen:B'.length=ks.length+1) (nd:ks.Nodup)
  (hlive:∀ n∈ks,(st.b n).live=true) (hd:d≤900) (hfree:st.b (1000*(d+1))=.free) (hb:(bE ks st.b).map (·.1)=B) (hx:(fL (kY ks) st.b true args).1=xs)
  (hK:K (st.put (some d) (iA ks d y) (eC st.b (aT ks st.b args)++dF ks d B')) (aT ks st.b args++ks++(dF ks d B').map (·.1)) (aT ks st.b args++(dF ks d B').map (·.1))):jU E f args (some d) st K t:=by
 unfold jU
 refine ⟨ks,d,y,B',.inl rfl,⟨nd,hlive,by omega,fun j hj=>?_,?_,?_⟩,hK⟩
 ·obtain rfl:j=0:=by omega
  exact hfree
 ·rw [hlen,Nat.add_sub_cancel_left]
  unfold dS
  rw [tF]
  omega
 ·exact ⟨true,by rw [hx,hb]; exact h⟩
theorem KZ {E:dA} {f:FuncId} {args xs:List AV} {dst:Option Tmp} {st:St} {K:St→List Nat→List Nat→Prop} {t:pL K} {y:AV} (h:Cf E f xs [] y []) (hx:(fL (kY []) st.b true args).1=xs)
  (hK:K (st.put dst (iA [] 0 y) (eC st.b (aT [] st.b args))) (aT [] st.b args) (aT [] st.b args)):jU E f args dst st K t:=by
 unfold jU
 refine ⟨[],0,y,[],.inr rfl,⟨List.nodup_nil,?_,Nat.le_refl _,?_,by decide,?_⟩,?_⟩
 ·intro _ h; cases h
 ·intro j hj; simp at hj
 ·exact ⟨true,by rw [hx]; exact h⟩
 ·simpa [dF] using hK
attribute [simp] dS
theorem kZ {E:dA} {f:FuncId} {args xs:List AV} {B B':List Blk} {dst:Option Tmp} {st:St} {K:St→List Nat→List Nat→Prop} {t:pL K} {y:AV} (h:Cf E f xs B y B')
  (hK:K (st.put dst (iA [1000000] 0 y) (eC st.b (aT [1000000] st.b args)++dF [1000000] 0 B')) (aT [1000000] st.b args++[1000000]++(dF [1000000] 0 B').map (·.1)) (aT [1000000] st.b args++(dF [1000000] 0 B').map (·.1)))
  (hlen:B'.length=[1000000].length:=by simp) (hlive:∀ n∈[1000000],(st.b n).live=true:=by simp) (hb:(bE [1000000] st.b).map (·.1)=B:=by simp) (hx:(fN [1000000] st.b args).1=xs:=by simp):jU E f args dst st K t:=bD [1000000] h hlen (by simp) hlive hb hx hK
theorem sZ {E:dA} {N:Nat} {st:St} (slots:List (Nat×AV)) {b:Blk} (r:uQ) (h3:∀ p∈(1000000,1000000,b)::r,((st.b p.2.1).live=true∨st.b p.2.1=.dead)∧(qG (aD ((1000000,1000000,b)::r)) st.b true (st.b p.2.1)).1=p.2.2) (hs:∀ p∈slots,(jW (aD ((1000000,1000000,b)::r)) st.b true (st.s p.1)).1=p.2)
  (h1:(((1000000,1000000,b)::r).map fun p=>p.1).Nodup:=by simp) (h2:(((1000000,1000000,b)::r).map fun p=>p.2.1).Nodup:=by simp):Sub E N 1 st { s:=eP slots,b:=eG ((1000000,1000000,b)::r) }:=aJ slots _ ⟨h1,h2,h3,bH⟩ hs
theorem aH {E:dA} {f:FuncId} {args xs:List AV} {B B':List Blk} {dst:Option Tmp} {st:St} {K:St→List Nat→List Nat→Prop} {t:pL K} {y:AV} (ks:List Nat) (h:Cf E f xs B y B')
  (hb:(bE ks st.b).map (·.1)=B) (hx:(fN ks st.b args).1=xs)
  (hK:K (st.put dst (iA ks 0 y) (eC st.b (aT ks st.b args)++dF ks 0 B')) (aT ks st.b args++ks++(dF ks 0 B').map (·.1)) (aT ks st.b args++(dF ks 0 B').map (·.1)))
  (hlen:B'.length=ks.length:=by simp) (nd:ks.Nodup:=by simp) (hlive:∀ n∈ks,(st.b n).live=true:=by simp):jU E f args dst st K t:=bD ks h hlen nd hlive hb hx hK
theorem gV {E:dA} {N nb:Nat} {st:St} (k m ety sz c:Nat) {cells:List AV} (hk:st.b k=.var cells) (hc:cells[c]?=some .nils) (hm:st.b m=.free) (hlow:m<aB) (hsz:0<sz) :
  Sub E N nb st { s:=st.s,b:=dQ (dQ st.b k (.var (cells.set c (.ref m 0 0 sz)))) m (.arr ety sz [] false) }:=by
 intro C hP hG a w inv
 obtain ⟨hhi,hdef,hsz',h,hsl,mm⟩:=inv
 have hL:h.L m=none:=by have:=mm.blks m; rw [hm] at this; exact this
 have hkm:k ≠ m:=fun e=>by subst e; rw [hk] at hm; cases hm
 have le:=Gh.le_add (l:=⟨0,0,sz,true⟩) hL
 have hlive:∀ n,n ≠ m→((dQ (dQ st.b k (.var (cells.set c (.ref m 0 0 sz)))) m (.arr ety sz [] false)) n).live=(st.b n).live:=fun n hn=>by
  simp only [dQ,if_neg hn]
  split
  ·rename_i e; subst e; rw [hk]; rfl
  ·rfl
 have view:∀ (k:Nat) (l:Loc),(h.add m ⟨0,0,sz,true⟩).L k=some l→l.nul=false→k ≠ m∧h.L k=some l:=fun k l e5 e6=>by
  by_cases ek:k=m
  ·subst ek; simp only [Gh.add,if_true,Option.some.injEq] at e5; rw [← e5] at e6; cases e6
  ·simp only [Gh.add,if_neg ek] at e5; exact ⟨ek,e5⟩
 refine ⟨hhi,hdef,hsz',h.add m ⟨0,0,sz,true⟩,fun i=>lU le _ _ (hsl i),⟨fun j=>?_,mm.con,mm.glob,?_,?_,mm.size,mm.frame,mm.mext,mm.mold,?_,mm.os,mm.tape,mm.output,mm.know⟩⟩
 ·by_cases ek:j=m
  ·subst ek
   simp only [dQ,if_true]
   exact ⟨⟨0,0,sz,true⟩,by simp [Gh.add],rfl,hsz,by simp⟩
  ·by_cases ej:j=k
   ·subst ej
    simp only [dQ,if_neg ek,if_true]
    have:=mm.blks j
    rw [hk] at this
    obtain ⟨l,cs,e,h1,h2,h3,h4,h5⟩:=this
    refine ⟨l,cs,e,by simp only [Gh.add,if_neg ek]; exact h1,h2,h3,?_,h5⟩
    rw [bV] at h4 ⊢
    refine ⟨by rw [List.length_set]; exact h4.1,fun i x hx=>?_⟩
    by_cases hi:i=c
    ·subst hi
     obtain ⟨v,hv,hr⟩:=h4.2 i _ hc
     have hlt:i<cells.length:=(List.getElem?_eq_some_iff.1 hc).1
     rw [List.getElem?_set_self hlt] at hx
     cases hx
     refine ⟨v,hv,?_⟩
     simp only [aG] at hr ⊢
     exact ⟨⟨0,0,sz,true⟩,by simp [Gh.add],rfl,by simp [hr]⟩
    ·rw [List.getElem?_set_ne (fun e=>hi e.symm)] at hx
     obtain ⟨v,hv,hr⟩:=h4.2 i x hx
     exact ⟨v,hv,lU le _ _ hr⟩
   ·simp only [dQ,if_neg ek,if_neg ej]
    exact iE (mm.blks j) le (fun e0=>by simp [Gh.add,ek,e0]) (fun _ _ _ _=>rfl) (fun _ _ _ _ _ _ e=>e)
 ·intro i j l1 l2 hij a1 a2 a3 a4 a5 a6
  obtain ⟨b1,b2⟩:=view i l1 a3 a5
  obtain ⟨b3,b4⟩:=view j l2 a4 a6
  rw [hlive i b1] at a1
  rw [hlive j b3] at a2
  exact mm.apart i j l1 l2 hij a1 a2 b2 b4 a5 a6
 ·intro i l1 a1 a3 a5
  obtain ⟨b1,b2⟩:=view i l1 a3 a5
  rw [hlive i b1] at a1
  exact mm.own i l1 a1 b2 a5
 ·intro i l1 hi hl
  have:i ≠ m:=by omega
  simp only [Gh.add,if_neg this]
  exact mm.lkeep i l1 hi hl
theorem FF {E:dA} {N nb:Nat} {st:St} (i m ety sz:Nat) (hi:st.s i=.nils) (hm:st.b m=.free) (hlow:m<aB) (hsz:0<sz) (slots:List (Nat×AV)) (l:uQ)
  (ok:KeptOk nb (dQ st.b m (.arr ety sz [] false)) l) (hs:∀ p∈slots,(jW (aD l) (dQ st.b m (.arr ety sz [] false)) true (dQ st.s i (.ref m 0 0 sz) p.1)).1=p.2) :
  Sub E N nb st { s:=eP slots,b:=eG l }:=(aHL hi hm hlow hsz).trans (aJ slots l ok hs)
def AExitTo (E:dA) (N nb:Nat) (id:Nat) (G:St) (id':Nat) (st:St) (_:pL (id,G)):Prop:=id'=id∧Sub E N nb st G
theorem OT {E:dA} (hmix:E.P.follows .mixedOrders=true) {N nb:Nat} (hN:N≤aB) {c:Code} {st:St} {Q:AExit→St→Prop} {t:pL (c,Q)} {ι:Type} (F:ι→St) (I:ι→Prop) (meas:ι→Nat) (i0:ι) (hi:I i0) (id:Nat) (G:St) (h0:Sub E N nb st (F i0))
  (round:∀ i,I i→fJ E N nb c (F i) fun e st'=>match e with
   | .normal=>DX E N nb F I meas i st' ⟨⟩
   | .exit id'=>AExitTo E N nb id G id' st' ⟨⟩
   | .ret=>Q .ret st') (hG:Q (.exit id) G):vA E N nb c st Q t:=by
 have key:vA E N nb c st (fun e st'=>match e with
   | .normal=>Q .normal st'
   | .exit id'=>AExitTo E N nb id G id' st' ⟨⟩
   | .ret=>Q .ret st') ⟨⟩:=aEN hmix hN F I meas i0 hi h0 fun i hI=>by
  have h:=round i hI
  have e:(fun e st'=>match e with
    | .normal=>DX E N nb F I meas i st' ⟨⟩
    | .exit id'=>AExitTo E N nb id G id' st' ⟨⟩
    | .ret=>Q .ret st':AExit→St→Prop)=fun e st'=>match e with
    | .normal=>DX E N nb F I meas i st' ⟨⟩
    | e=>(match e with
      | .normal=>Q .normal st'
      | .exit id'=>AExitTo E N nb id G id' st' ⟨⟩
      | .ret=>Q .ret st'):=by
   funext e st'
   cases e <;> rfl
  rw [e] at h
  exact h
 unfold vA RP at key ⊢
 intro C hP hCG a w inv R hR
 refine key C hP hCG a w inv R fun e st' a' w' hq inv'=>?_
 cases e with
 | normal=>exact hR .normal st' a' w' hq inv'
 | exit id' =>
   obtain ⟨rfl,hs⟩:=hq
   exact hR (.exit id') G a' w' hG (hs C hP hCG a' w' inv')
 | ret=>exact hR .ret st' a' w' hq inv'
theorem AExitTo.mk {E:dA} {N nb id id':Nat} {G st:St} {t:pL (id,G)} (h:id'=id) (hs:Sub E N nb st G):AExitTo E N nb id G id' st t:=⟨h,hs⟩
attribute [irreducible] AExitTo
def aKl {α:Type} (f:Nat→α):Nat→List α
 | 0=>[]
 | n+1=>aKl f n++[f n]
@[simp] theorem aEC {α:Type} (f:Nat→α):∀ n,(aKl f n).length=n
  | 0=>rfl
  | n+1=>by rw [aKl,List.length_append,aEC f n]; rfl
def EndsS (E:dA) (fn:Func) (nb:Nat) (y:AV) (B':List Blk) (st:St):Prop:=∃ st2,Sub E fn.ntmps nb st st2∧Ends E fn nb y B' st2
theorem aCk {E:dA} (hmix:E.P.follows .mixedOrders=true) {f:FuncId} {fn:Func} {c:Code} (hf:E.P.funcs[f]?=some fn) (hbody:fn.body=some c) (hent:eR E.P f=true) (hN:fn.ntmps≤aB)
  {xs:List AV} {B B':List Blk} {y:AV} (hx:xs.length≤fn.ntmps)
  (h:fJ E fn.ntmps B.length c (begin xs B) fun e st=>match e with
   | .exit _=>False
   | _=>EndsS E fn B.length y B' st):Cf E f xs B y B':=by
 refine ⟨hent,fun w g vs hr m=>?_⟩
 have hl:=(bV.1 hr).1
 refine calls_of_wp hf hbody ?_
 have inv:Inv (cK E w g B) fn.ntmps B.length (begin xs B) { tmps:=⟨vs⟩++Array.replicate (fn.ntmps - (⟨vs⟩:Array Value).size) undef,defers:=[] } w:=by
  refine ⟨fun n l hn hl'=>?_,rfl,by simp; omega,g,fun i=>?_,m⟩
  ·rcases Nat.lt_or_ge n (aB+B.length) with c | c
   ·exact c
   ·have:=m.blks n
    unfold bL at this
    rw [if_pos hn,List.getElem?_eq_none (by omega)] at this
    have hz:g.L n=none:=this
    have:(cK E w g B).h0.L n=g.L n:=rfl
    rw [this,hz] at hl'; cases hl'
  ·simp only [begin]
   by_cases hi:i<vs.length
   ·have hx':i<xs.length:=by omega
    obtain ⟨v,hv,hrv⟩:=(bV.1 hr).2 i _ (List.getElem?_eq_getElem hx')
    rw [List.getElem?_eq_getElem hx',Option.getD_some]
    have:((⟨vs⟩:Array Value)++Array.replicate (fn.ntmps - (⟨vs⟩:Array Value).size) undef).getD i undef=v:=by
     simp only [Array.getD_eq_getD_getElem?]
     rw [Array.getElem?_append_left (by simpa using hi)]
     simp [hv]
    rw [this]; exact hrv
   ·rw [List.getElem?_eq_none (by omega),Option.getD_none]
    simp only [aG,Array.getD_eq_getD_getElem?]
    rw [Array.getElem?_append_right (by simpa using hi)]
    simp only [Array.getElem?_replicate]
    split <;> rfl
 refine fZ hmix hN c (begin xs B) _ h (cK E w g B) rfl rfl _ w inv _ fun e st1 a' w' hq inv1=>?_
 have fin:EndsS E fn B.length y B' st1→a'.defers=[]∧∃ v,(results fn a'.tmps).run E.P w'=.ok v w'∧(∃ v' h',Ending.returned v=.returned v'∧aG h' v' y∧Mem (cK E w g B) (bL B') w' h'):=by
  rintro ⟨st,hsub,v,l,hv,ok,hB,hy⟩
  have inv':=hsub (cK E w g B) rfl rfl _ _ inv1
  obtain ⟨hhi,hdef,hsz,h1,hsl,m1⟩:=inv'
  obtain ⟨u,hu,ru⟩:=pM (C:=cK E w g B) rfl m1 hsl hv
  obtain ⟨h2,m2,hrep⟩:=BQ hhi m1 ok ((jW (aD l) st.b false v).2++l.flatMap (fun p=>(qG (aD l) st.b true (st.b p.2.1)).2)) (fun n hn=>by
   rcases List.mem_append.1 hn with hn | hn
   ·exact oP _ n hn
   ·obtain ⟨p,_,hp⟩:=List.mem_flatMap.1 hn
    exact nK hp) (fun p hp k hk=>List.mem_append_right _ (List.mem_flatMap.2 ⟨p,hp,hk⟩))
  refine ⟨hdef,u,hu,u,h2,rfl,?_,?_⟩
  ·rw [← hy]; exact hrep v u false (fun k hk=>List.mem_append_left _ hk) ru
  ·have e:eG l=bL B':=by
    funext n
    unfold eG
    rw [hB]
    have hinj:∀ (L:List Blk) (k n:Nat) (f:Nat→Blk),(∀ i,i<L.length→f (aB+(k+i))=.free)→bW f ((L.zipIdx k).map fun p=>(aB+p.2,p.1)) n=if aB+k≤n then (match L[n - aB - k]? with | some b=>b | none=>f n) else f n:=by
     intro L
     induction L with
     | nil=>intro k n f _; simp [bW]
     | cons b L ih =>
       intro k n f hfree
       simp only [List.zipIdx_cons,List.map_cons]
       rw [show bW f ((aB+k,b)::((L.zipIdx (k+1)).map fun p=>(aB+p.2,p.1)))=bW (dQ f (aB+k) b) ((L.zipIdx (k+1)).map fun p=>(aB+p.2,p.1)) from rfl]
       rw [ih (k+1) n _ (fun i hi=>by
        simp only [dQ]
        rw [if_neg (by omega)]
        have:=hfree (i+1) (by simp; omega)
        rwa [show k+(i+1)=k+1+i from by omega] at this)]
       by_cases c1:aB+k≤n
       ·rw [if_pos c1]
        by_cases c2:n=aB+k
        ·subst c2
         rw [if_neg (by omega)]
         simp [dQ]
        ·rw [if_pos (by omega),show n - aB - k=(n - aB - (k+1))+1 from by omega,List.getElem?_cons_succ]
         split
         ·rfl
         ·show (if n=aB+k then b else f n)=f n
          rw [if_neg c2]
       ·rw [if_neg c1,if_neg (by omega)]
        simp only [dQ]
        rw [if_neg (by omega)]
    rw [hinj B' 0 n _ (fun i _=>rfl)]
    unfold bL
    simp only [Nat.add_zero,Nat.sub_zero]
    split
    ·cases B'[n - aB]? <;> rfl
    ·rfl
   rw [← e]; exact m2
 cases e with
 | normal=>exact fin hq
 | exit id=>exact hq.elim
 | ret=>exact fin hq
theorem EndsS.mk {E:dA} {fn:Func} {nb:Nat} {y:AV} {B':List Blk} {st:St} (st2:St) (h:Sub E fn.ntmps nb st st2) (e:Ends E fn nb y B' st2):EndsS E fn nb y B' st:=⟨st2,h,e⟩
structure Conv (ety sz n:Nat) (b b2:Blk):Prop where
 shape:(∃ xs ys,b=.arr ety sz xs false∧b2=.varr ety sz ys∧xs.length=ys.length∧∀ (i:Nat) x y,xs[i]?=some x→ys[i]?=some y→x.length=y.length∧∀ (k:Nat) c d,x[k]?=some c→y[k]?=some d→∀ (h:Gh) v,aU h.μ v c→aG h v d) ∨
  (∃ xs ys,b=.varr ety sz xs∧b2=.arr ety sz ys false∧xs.length=ys.length∧∀ (i:Nat) x y,xs[i]?=some x→ys[i]?=some y→x.length=y.length∧∀ (k:Nat) c d,x[k]?=some c→y[k]?=some d→∀ (h:Gh) v,aG h v c→aU h.μ v d)
theorem aEo {α β:Type} {xs:List α} {ys:List β} (h:xs.length=ys.length) {i:Nat} {y:β} (hy:ys[i]?=some y):∃ x,xs[i]?=some x:=by
 have:=(List.getElem?_eq_some_iff.1 hy).1
 exact ⟨_,List.getElem?_eq_getElem (by omega)⟩
theorem aKk {μ:Nat→Nat→Option Value} {v:Value} (h:v=.slice none 0 0):aU μ v (.sl []):=by
 subst h
 simp only [aU]
 exact ⟨none,0,rfl,Nat.le_refl _,.inl trivial⟩
def aEp:AV→D→Prop
 | .d x,y=>x=y
 | .nils,y=>y=.sl []
 | _,_=>False
theorem aEq {c:AV} {y:D} (h:aEp c y) {g:Gh} {v:Value} (hr:aG g v c):aU g.μ v y:=by
 cases c with
 | d x=>simp only [aEp] at h; subst h; simpa only [aG] using hr
 | nils=>simp only [aEp] at h; subst h; exact aKk (by simpa only [aG] using hr)
 | _=>exact h.elim
theorem cJ {E:dA} (hmix:E.P.follows .mixedOrders=true) {f:FuncId} {fn:Func} {c:Code} (hbody:fn.body=some c) {xs:List AV} {B B':List Blk} {y:AV}
  (h:fJ E fn.ntmps B.length c (begin xs B) fun e st=>match e with
   | .exit _=>False
   | _=>EndsS E fn B.length y B' st) (hf:E.P.funcs[f]?=some fn:=by kernel_rfl) (hent:eR E.P f=true:=by kernel_rfl) (hN:fn.ntmps≤aB:=by decide) (hx:xs.length≤fn.ntmps:=by simp):Cf E f xs B y B':=aCk hmix hf hbody hent hN hx h
def mvR:List (Nat×Nat)→Nat→Option Nat
 | [],k=>some k
 | p::r,k=>if k=p.1 then some p.2 else mvR r k
def mvO:List (Nat×Nat)→Nat→Option Nat
 | [],_=>none
 | p::r,k=>if k=p.2 then some p.1 else mvO r k
def mvD:List (Nat×Nat)→Nat→Bool
 | [],_=>false
 | p::r,k=>if k=p.1 then true else mvD r k
def mvB (l:List (Nat×Nat)) (bl:Nat→Blk) (k:Nat):Blk:=match mvO l k with
 | some n=>(qG (mvR l) bl true (bl n)).1
 | none=>if mvD l k=true then .dead else (qG (mvR l) bl true (bl k)).1
def lS:Nat→List Nat→List Blk→uQ
 | i,n::ns,b::bs=>(aB+i,n,b)::lS (i+1) ns bs
 | _,_,_=>[]
theorem LZ:∀ (i:Nat) (ns:List Nat) (bs:List Blk),ns.length=bs.length→((lS i ns bs).map fun p=>(p.1,p.2.2))=(bs.zipIdx i).map fun p=>(aB+p.2,p.1)
 | _,[],[],_=>rfl
 | i,n::ns,b::bs,h=>by simp [lS,LZ (i+1) ns bs (by simpa using h)]
 | _,[],_::_,h=>by cases h
 | _,_::_,[],h=>by cases h
theorem MA:∀ (i:Nat) (ns:List Nat) (bs:List Blk),((lS i ns bs).map fun p=>p.1).Nodup∧∀ x∈(lS i ns bs).map fun p=>p.1,aB+i≤x
 | _,[],_=>by simp [lS]
 | _,_::_,[]=>by simp [lS]
 | i,n::ns,b::bs=>by
   obtain ⟨h1,h2⟩:=MA (i+1) ns bs
   rw [lS,List.map_cons,List.nodup_cons]
   refine ⟨⟨fun hm=>?_,h1⟩,fun x hx=>?_⟩
   ·have:=h2 _ hm; simp only at this; omega
   ·rcases List.mem_cons.1 hx with rfl | hx
    ·exact Nat.le_refl _
    ·have:=h2 x hx; omega
theorem MB:∀ (i:Nat) (ns:List Nat) (bs:List Blk),ns.length=bs.length→(lS i ns bs).map (fun p=>p.2.1)=ns
 | _,[],[],_=>rfl
 | i,n::ns,b::bs,h=>by rw [lS,List.map_cons,MB (i+1) ns bs (by simpa using h)]
 | _,[],_::_,h=>by cases h
 | _,_::_,[],h=>by cases h
theorem MC:∀ (i:Nat) (ns:List Nat) (bs:List Blk) (j n:Nat) (b:Blk),ns[j]?=some n→bs[j]?=some b→(lS i ns bs)[j]?=some (aB+(i+j),n,b)
 | _,[],_,j,n,b,h,_=>by simp at h
 | _,_::_,[],j,n,b,_,h=>by simp at h
 | i,n::ns,b::bs,0,m,c,h1,h2=>by cases h1; cases h2; rfl
 | i,n::ns,b::bs,j+1,m,c,h1,h2=>by
   rw [lS,List.getElem?_cons_succ,MC (i+1) ns bs j m c (by simpa using h1) (by simpa using h2)]
   rw [show i+1+j=i+(j+1) from by omega]
theorem aEG {nb:Nat} {bl:Nat→Blk} {ns:List Nat} {bs:List Blk} (hl:ns.length=bs.length) (hn:ns.Nodup) (hb:ns.take nb=(List.range nb).map fun j=>aB+j)
  (hc:∀ p∈lS 0 ns bs,((bl p.2.1).live=true∨bl p.2.1=.dead)∧(qG (aD (lS 0 ns bs)) bl true (bl p.2.1)).1=p.2.2):KeptOk nb bl (lS 0 ns bs):=by
 refine ⟨(MA 0 ns bs).1,by rw [MB 0 ns bs hl]; exact hn,hc,fun j hj=>?_⟩
 have h:=congrArg (·[j]?) hb
 simp only [List.getElem?_map,List.getElem?_range hj,Option.map_some,List.getElem?_take,if_pos hj] at h
 have hjl:j<bs.length:=by
  have:=(List.getElem?_eq_some_iff.1 h).1
  omega
 have hg:=MC 0 ns bs j _ _ h (List.getElem?_eq_getElem hjl)
 exact ⟨_,List.mem_of_getElem? hg,by simp,by simp⟩
theorem all_nil {α:Type} {P:α→Prop}:∀ x∈([]:List α),P x:=fun _ h=>by cases h
theorem all_cons {α:Type} {P:α→Prop} {a:α} {l:List α} (ha:P a) (hl:∀ x∈l,P x):∀ x∈a::l,P x:=fun x hx=>by
 rcases List.mem_cons.1 hx with rfl | hx
 ·exact ha
 ·exact hl x hx
theorem EndsS.of {E:dA} {fn:Func} {nb:Nat} {y:AV} {B':List Blk} {st:St} (olds:List Nat) (v:AV) (hlen:olds.length=B'.length) (hv:uR E fn st=some v) (hn:olds.Nodup) (hb:olds.take nb=(List.range nb).map fun j=>aB+j)
  (hc:∀ p∈lS 0 olds B',((st.b p.2.1).live=true∨st.b p.2.1=.dead)∧(qG (aD (lS 0 olds B')) st.b true (st.b p.2.1)).1=p.2.2) (hy:(jW (aD (lS 0 olds B')) st.b false v).1=y):EndsS E fn nb y B' st :=
 EndsS.mk _ (.refl _ _ _ _) ⟨v,lS 0 olds B',hv,aEG hlen hn hb hc,LZ 0 olds B' hlen,hy⟩
theorem EndsS.sub {E:dA} {fn:Func} {nb:Nat} {y:AV} {B':List Blk} {st st2:St} (h:Sub E fn.ntmps nb st st2) (e:EndsS E fn nb y B' st2):EndsS E fn nb y B' st:=by
 obtain ⟨st3,h2,e2⟩:=e
 exact ⟨st3,h.trans h2,e2⟩
attribute [simp] lS
attribute [simp] mvR mvO mvD mvB
theorem aOn {α : Type} {p : α → Prop} {x0 : α} (h0 : p x0) : ∀ y ∈ [x0], p y := all_cons h0 all_nil
end Go.Ab
