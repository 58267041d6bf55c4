import Derived.Test.YthbnleoonldffaaGreatDoorSuu
set_option linter.all false
namespace Go.Proofs.Tryz
open Go.Ab
set_option maxRecDepth 100000
set_option maxHeartbeats 4000000
def At.beq (a b:At):Bool:=a.col==b.col&&(a.op==b.op&&(a.v.k==b.v.k&&(a.v.n==b.v.n&&a.v.t==b.v.t)))
theorem At.beq_iff (a b:At):At.beq a b=true↔a=b:=by
 obtain ⟨c,o,k,n,t⟩:=a
 obtain ⟨c',o',k',n',t'⟩:=b
 simp [At.beq]
def aDg:At:=⟨0,0,⟨0,0,[]⟩⟩
def nQ (acc:List At) (v:At):Nat→Nat
 | 0=>0
 | j+1=>if v.cmp ((acc[j]?).getD v)<0 then nQ acc v j else j+1
def qN (acc:List At) (v:At):List At:=acc.take (nQ acc v acc.length)++v::acc.drop (nQ acc v acc.length)
def eS (l:List At):List At:=l.foldl qN []
theorem LH (acc:List At) (v:At):∀ j,nQ acc v j≤j
 | 0=>Nat.le_refl _
 | j+1=>by have:=LH acc v j; rw [nQ]; split <;> omega
def cO:List At→List At
 | []=>[]
 | [v]=>[v]
 | v::u::l=>if At.beq v u=true then cO (u::l) else v::cO (u::l)
theorem qO:∀ (v:At) (l:List At),∃ m,cO (v::l)=v::m
 | v,[]=>⟨[],rfl⟩
 | v,u::l=>by
   rw [cO]
   split
   ·rename_i h
    have:=(At.beq_iff v u).1 h
    subst this
    exact qO v l
   ·exact ⟨_,rfl⟩
def lS (S R:List At) (v:At) (j:Nat):List At:=S.take j++v::(S.drop j++R)
theorem LI {S R:List At} {v:At} {j:Nat} (h:j≤S.length):(lS S R v j)[j]?=some v:=by
 unfold lS
 rw [List.getElem?_append_right (by simp; omega),List.length_take,Nat.min_eq_left h,Nat.sub_self]
 rfl
theorem HI {S R:List At} {v:At} {p:Nat} (h:p<S.length):(lS S R v (p+1))[p]?=some S[p]:=by
 unfold lS
 rw [List.getElem?_append_left (by simp; omega),List.getElem?_take,if_pos (by omega),List.getElem?_eq_getElem h]
theorem VD (S R:List At) (v:At) {j:Nat} (h:j≤S.length):(lS S R v j).length=S.length+1+R.length:=by
 unfold lS; simp; omega
theorem PU {S R:List At} {v:At} {p:Nat} (h:p<S.length):((lS S R v (p+1)).set (p+1) S[p]).set p v=lS S R v p:=by
 apply List.ext_getElem?
 intro k
 unfold lS
 by_cases c1:k=p
 ·subst c1
  rw [List.getElem?_set_self (by simp; omega)]
  exact (LI (R:=R) (v:=v) (Nat.le_of_lt h)).symm
 ·rw [List.getElem?_set_ne (fun e=>c1 e.symm)]
  by_cases c2:k=p+1
  ·subst c2
   rw [List.getElem?_set_self (by simp; omega),List.getElem?_append_right (by simp; omega)]
   simp
   rw [Nat.min_eq_left (by omega),show p+1 - p=1 from by omega,List.getElem?_cons_succ,List.getElem?_append_left (by simp; omega),List.getElem?_drop,List.getElem?_eq_getElem (by omega)]
   rfl
  ·rw [List.getElem?_set_ne (fun e=>c2 e.symm)]
   rcases Nat.lt_or_ge k p with c | c
   ·rw [List.getElem?_append_left (by simp; omega),List.getElem?_append_left (by simp; omega),List.getElem?_take,List.getElem?_take,if_pos (by omega),if_pos c]
   ·rw [List.getElem?_append_right (by simp; omega),List.getElem?_append_right (by simp; omega)]
    simp only [List.length_take]
    rw [Nat.min_eq_left (by omega),Nat.min_eq_left (by omega),show k - (p+1)=(k - p - 2)+1 from by omega,show k - p=(k - p - 2)+1+1 from by omega,List.getElem?_cons_succ,List.getElem?_cons_succ]
    rw [List.drop_eq_getElem_cons h,List.cons_append,List.getElem?_cons_succ]
    congr 1
theorem LJ {l:List At} {i:Nat} (h:i<l.length):eS (l.take (i+1))=qN (eS (l.take i)) l[i]:=by
 unfold eS
 rw [bV h,List.foldl_append]
 rfl
theorem VE (acc:List At) (v:At):(qN acc v).length=acc.length+1:=by
 have:=LH acc v acc.length
 unfold qN; simp; omega
theorem sO (l:List At):(eS l).length=l.length:=by
 have:∀ (m acc:List At),(m.foldl qN acc).length=acc.length+m.length:=by
  intro m
  induction m with
  | nil=>intro acc; simp
  | cons v m ih=>intro acc; rw [List.foldl_cons,ih,VE,List.length_cons]; omega
 have h:=this l []
 unfold eS; simpa using h
def aEq (n:Nat) (i:Nat) (x:Nat×List At):St :=
 { s:=cG [(0,.ref 1000000 0 n 5),(1,.d (.int .i64 0)),(2,.d (.int .i64 n)),(3,.clo 268 []),(8,.d (.int .i64 i)),(9,.d (.int .i64 x.1))],b:=cE [(1000000,1000000,.arr 113 5 (x.2.map At.c) false)] }
theorem VF (l:List At) (hl:l.length≤1000):Cf En 376 [.ref 1000000 0 l.length 5,.d (.int .i64 0),.d (.int .i64 l.length),.clo 268 []] [.arr 113 5 (l.map At.c) false] (.tup []) [.arr 113 5 ((eS l).map At.c) false]:=by
 refine aD aW (fn:=Tryz.f376) (by kernel_rfl) rfl (by kernel_rfl) (by decide) (by simp) ?_
 simp [show IntKind.i64.wrap 1=1 from by decide]
 (repeat' first|contradiction|exact .ok|apply And.intro|intro _|(apply gc<;>simp+contextual))
 refine aL aW (by decide) (fun i:Nat=>{ s:=cG [(0,.ref 1000000 0 l.length 5),(1,.d (.int .i64 0)),(2,.d (.int .i64 l.length)),(3,.clo 268 []),(8,.d (.int .i64 i))],b:=cE [(1000000,1000000,.arr 113 5 ((eS (l.take i)++l.drop i).map At.c) false)] }) (fun i=>1≤i) (fun i=>l.length - i) 1 (by simp) (aE _ [(1000000,1000000,_)] ⟨by simp,by simp,?_,bT⟩ (by simp [aB])) ?_
 ·have e:eS (l.take 1)++l.drop 1=l:=by
   cases l with
   | nil=>rfl
   | cons v r=>simp [eS,qN,nQ]
  have e':List.map At.c (eS (l.take 1))++(List.map At.c l).tail=List.map At.c l:=by rw [← List.drop_one,← List.map_drop,← List.map_append,e]
  simp [aB,Blk.live,e']
 intro i hi1
 by_cases hlt:i<l.length
 ·have ht:=LJ hlt
  obtain ⟨v,hv⟩:∃ v,v=l[i]:=⟨_,rfl⟩
  rw [← hv] at ht
  have hd:l.drop i=v::l.drop (i+1):=by rw [List.drop_eq_getElem_cons hlt,hv]
  have hSl:(eS (l.take i)).length=i:=by rw [sO]; simp; omega
  have hw:=aH (n:=(i:Int)+1) (by omega) (by omega)
  rw [hd]
  have hlR:(l.drop (i+1)).length=l.length - (i+1):=by simp
  generalize eS (l.take i)=S at *
  generalize hR:l.drop (i+1)=R at *
  have hX0:S++v::R=lS S R v i:=by unfold lS; rw [← hSl,List.take_length,List.drop_length,List.nil_append]
  simp [hlt]
  (repeat' first|contradiction|exact .ok|apply And.intro|intro _|(apply gc<;>simp+contextual))
  refine aL aW (by decide) (aEq l.length i) (fun x=>x.1≤i∧x.2=lS S R v x.1∧nQ S v x.1=nQ S v i) (fun x=>x.1) (i,S++v::R) ⟨by simp,hX0,rfl⟩ (aE _ [(1000000,1000000,_)] ⟨by simp,by simp,by simp [aB,Blk.live],bT⟩ (by simp [aB])) ?_
  rintro ⟨j,X⟩ ⟨hj,hX,hp⟩
  simp only at hj hX hp
  have hXl:X.length=l.length:=by rw [hX,VD S R v (by omega)]; omega
  have hfin:nQ S v i=j→lS S R v j=qN S v++R:=fun e=>by
   unfold qN; rw [hSl,e]; unfold lS; simp
  cases j with
  | zero =>
    have hX2:X=qN S v++R:=by rw [hX]; exact hfin (by rw [← hp]; rfl)
    simp [aEq]
    (repeat' first|contradiction|exact .ok|apply And.intro|intro _|(apply gc<;>simp+contextual))
    refine ⟨i+1,by omega,?_,by simp; omega⟩
    exact aE _ [(1000000,1000000,_)] ⟨by simp,by simp,by simp [aB,Blk.live,hX2,ht,hR],bT⟩ (by simp [aB,hw])
  | succ p =>
    have hps:p<S.length:=by omega
    obtain ⟨u,hu⟩:∃ u,u=S[p]:=⟨_,rfl⟩
    have g1:X[p+1]?=some v:=by rw [hX]; exact LI (by omega)
    have g2:X[p]?=some u:=by rw [hX,hu]; exact HI hps
    have hlX:p+1<X.length:=by omega
    have hlX0:p<X.length:=by omega
    have hln:p+1<l.length:=by omega
    have hln0:p<l.length:=by omega
    have q1:∀ h,X[p+1]'h=v:=fun h=>by rw [List.getElem?_eq_getElem h] at g1; exact Option.some.inj g1
    have q2:∀ h,X[p]'h=u:=fun h=>by rw [List.getElem?_eq_getElem h] at g2; exact Option.some.inj g2
    have hsw:(X.set (p+1) u).set p v=lS S R v p:=by rw [hX,hu]; exact PU hps
    have hpos:nQ S v (p+1)=if v.cmp u<0 then nQ S v p else p+1:=by rw [nQ,List.getElem?_eq_getElem hps,hu]; rfl
    rw [hpos] at hp
    have h0:(0:Int)<(p:Int)+1:=by omega
    have h1:(0:Int)≤(p:Int)+1:=by omega
    have hwp:IntKind.i64.wrap (p:Int)=p:=aH (by omega) (by omega)
    simp [aEq,h0,h1,hwp,hln,hln0,hlX,hlX0,q1,q2,At.c]
    (repeat' first|contradiction|exact .ok|apply And.intro|intro _|(apply gc<;>simp+contextual))
    refine aA (aCO v u) (by simp [At.a,At.c]) ?_
    by_cases hc:v.cmp u<0
    ·rw [if_pos hc] at hp
     simp [hc,h0,h1,hwp,hln,hln0,hlX,hlX0,q1,q2,At.c]
     (repeat' first|contradiction|exact .ok|apply And.intro|intro _|(apply gc<;>simp+contextual[hc]))
     refine ⟨(p,(X.set (p+1) u).set p v),⟨by simp only; omega,hsw,hp⟩,?_,by simp⟩
     exact aE _ [(1000000,1000000,_)] ⟨by simp,by simp,by simp [aB,Blk.live,List.map_set,At.c],bT⟩ (by simp [aB,hwp])
    ·rw [if_neg hc] at hp
     have hX2:X=qN S v++R:=by rw [hX]; exact hfin hp.symm
     simp [hc]
     (repeat' first|contradiction|exact .ok|apply And.intro|intro _|(apply gc<;>simp+contextual[hc]))
     refine ⟨i+1,by omega,?_,by simp; omega⟩
     exact aE _ [(1000000,1000000,_)] ⟨by simp,by simp,by simp [aB,Blk.live,hX2,ht,hR],bT⟩ (by simp [aB,hw])
 ·have hlt':¬ (i:Int)<l.length:=by omega
  have e1:l.take i=l:=List.take_of_length_le (by omega)
  have e2:l.drop i=[]:=List.drop_of_length_le (by omega)
  simp [hlt,e1,e2]
  all_goals exact gz
def aEr (n:Nat):Int:=if n=0 then 0 else if n=1 then 1 else if n≤3 then 2 else if n≤7 then 3 else 4
theorem PV (n:Nat) (h:n≤12):Cf En 374 [.d (.int .u64 n)] [] (.d (.int .i64 (aEr n))) []:=by
 refine aD aW (fn:=Tryz.f374) (by kernel_rfl) rfl (by kernel_rfl) (by decide) (by simp) ?_
 rcases (by omega:n=0∨n=1∨n=2∨n=3∨n=4∨n=5∨n=6∨n=7∨n=8∨n=9∨n=10∨n=11∨n=12) with rfl | rfl | rfl | rfl | rfl | rfl | rfl | rfl | rfl | rfl | rfl | rfl | rfl
 all_goals
  simp [show ∀ k:Nat,k≤12→IntKind.u8.wrap k=k from by decide,show IntKind.u8.wrap 0=0 from by decide,show IntKind.u8.wrap 1=1 from by decide,show IntKind.u8.wrap 2=2 from by decide,show IntKind.u8.wrap 3=3 from by decide,show IntKind.u8.wrap 4=4 from by decide,show IntKind.u8.wrap 5=5 from by decide,show IntKind.u8.wrap 6=6 from by decide,show IntKind.u8.wrap 7=7 from by decide,show IntKind.u8.wrap 8=8 from by decide,show IntKind.u8.wrap 9=9 from by decide,show IntKind.u8.wrap 10=10 from by decide,show IntKind.u8.wrap 11=11 from by decide,show IntKind.u8.wrap 12=12 from by decide,show IntKind.i64.wrap 0=0 from by decide,show IntKind.i64.wrap 1=1 from by decide,show IntKind.i64.wrap 2=2 from by decide,show IntKind.i64.wrap 3=3 from by decide,show IntKind.i64.wrap 4=4 from by decide]
  (repeat' first|contradiction|exact .ok|apply And.intro|intro _|(apply gc<;>simp+contextual))
  all_goals (first | rfl | decide)
theorem aAs (n:Nat) (h:n≤12):Cf En 333 [.d (.int .u64 n)] [] (.d (.int .i64 (aEr n))) []:=by
 refine aD aW (fn:=Tryz.f333) (by kernel_rfl) rfl (by kernel_rfl) (by decide) (by simp) ?_
 simp
 (repeat' first|contradiction|exact .ok|apply And.intro|intro _|(apply gc<;>simp+contextual))
 refine aA (PV n h) (by simp) ?_
 simp
 all_goals exact gz
theorem aGL (l:List At) (hl:l.length≤12) (lim:Int):Cf En 336 [.ref 1000000 0 l.length 5,.d (.int .i64 0),.d (.int .i64 l.length),.d (.int .i64 lim),.clo 268 []] [.arr 113 5 (l.map At.c) false] (.tup []) [.arr 113 5 ((eS l).map At.c) false]:=by
 refine aD aW (fn:=Tryz.f336) (by kernel_rfl) rfl (by kernel_rfl) (by decide) (by simp) ?_
 have hw:=aH (n:=(l.length:Int)) (by omega) (by omega)
 have h12:(l.length:Int)≤12:=by omega
 simp
 (repeat' first|contradiction|exact .ok|apply And.intro|intro _|(apply gc<;>simp+contextual))
 refine aL aW (by decide) (fun _:Unit=>{ s:=cG [(0,.ref 1000000 0 l.length 5),(1,.d (.int .i64 0)),(2,.d (.int .i64 l.length)),(4,.clo 268 [])],b:=cE [(1000000,1000000,.arr 113 5 (l.map At.c) false)] }) (fun _=>True) (fun _=>0) () trivial (aE _ [(1000000,1000000,_)] ⟨by simp,by simp,by simp [aB,Blk.live],bT⟩ (by simp [aB])) ?_
 intro _ _
 simp [hw,hl,h12]
 (repeat' first|contradiction|exact .ok|apply And.intro|intro _|(apply gc<;>simp+contextual))
 refine aK [1000000] (VF l (by omega)) (by simp) (by simp) (by simp) (by simp) (by simp) ?_
 simp
 all_goals exact gz
theorem PW (l:List At) (hl:l.length≤12):Cf En 267 [.ref 1000000 0 l.length 5,.clo 268 []] [.arr 113 5 (l.map At.c) false] (.tup []) [.arr 113 5 ((eS l).map At.c) false]:=by
 refine aD aW (fn:=Tryz.f267) (by kernel_rfl) rfl (by kernel_rfl) (by decide) (by simp) ?_
 have hw:IntKind.u64.wrap (l.length:Int)=l.length:=by rw [IntKind.wrap_u64]; omega
 simp [hw]
 (repeat' first|contradiction|exact .ok|apply And.intro|intro _|(apply gc<;>simp+contextual))
 refine aA (aAs l.length hl) (by simp) ?_
 simp
 refine aK [1000000] (aGL l hl (aEr l.length)) (by simp) (by simp) (by simp) (by simp) (by simp) ?_
 simp
 all_goals exact gz
theorem LK {l:List At} {i:Nat} (h:i+1<l.length):(cO (l.drop i)).tail=if At.beq l[i] l[i+1]=true then (cO (l.drop (i+1))).tail else l[i+1]::(cO (l.drop (i+1))).tail:=by
 rw [List.drop_eq_getElem_cons (show i<l.length by omega),List.drop_eq_getElem_cons h]
 obtain ⟨m,hm⟩:=qO l[i+1] (l.drop (i+1+1))
 rw [cO,hm]
 split <;> simp
theorem LL {l:List At} {i:Nat} (h:i+1<l.length) (he:At.beq l[i] l[i+1]=false):cO (l.drop i)=l[i]::cO (l.drop (i+1)):=by
 rw [List.drop_eq_getElem_cons (show i<l.length by omega),List.drop_eq_getElem_cons h,cO,if_neg (by rw [he]; decide)]
theorem BM:∀ l:List At,(cO l).length≤l.length
 | []=>by simp [cO]
 | [v]=>by simp [cO]
 | v::u::l=>by
   have:=BM (u::l)
   rw [cO]
   split <;> simp at*<;> omega
def aCL (n k0:Nat) (x:Nat×Nat×List At):St :=
 { s:=cG [(0,.ref 1000000 0 n 5),(3,.d (.int .i64 x.1)),(4,.ref 1000000 k0 (n - k0) 5),(5,.d (.int .i64 x.2.1))],b:=cE [(1000000,1000000,.arr 113 5 (x.2.2.map At.c) false)] }
theorem At.beq_f {u v:At} (h:At.beq u v=false):(u.col==v.col&&(u.op==v.op&&(u.v.k==v.v.k&&(u.v.n==v.v.n&&u.v.t==v.v.t))))=false:=h
theorem aAt (l:List At) (hl:l.length≤1000):Cf En 269 [.ref 1000000 0 l.length 5] [.arr 113 5 (l.map At.c) false]
  (.ref 1000000 0 (cO l).length 5) [.arr 113 5 ((cO l++List.replicate (l.length - (cO l).length) aDg).map At.c) false]:=by
 refine aD aW (fn:=Tryz.f269) (by kernel_rfl) rfl (by kernel_rfl) (by decide) (by simp) ?_
 by_cases h2:l.length<2
 ·have h2':(l.length:Int)<2:=by omega
  have hc:cO l=l:=by
   match l,h2 with
   | [],_=>rfl
   | [_],_=>rfl
  simp [h2,h2',hc]
  (repeat' first|contradiction|exact .ok|apply And.intro|intro _|(apply gc<;>simp+contextual[h2,h2']))
 have h2':¬ (l.length:Int)<2:=by omega
 simp [h2,h2']
 (repeat' first|contradiction|exact .ok|apply And.intro|intro _|(apply gc<;>simp+contextual[h2,h2']))
 refine aL aW (by decide) (fun p:Nat=>{ s:=cG [(0,.ref 1000000 0 l.length 5),(3,.d (.int .i64 ((p:Int)+1)))],b:=cE [(1000000,1000000,.arr 113 5 (l.map At.c) false)] }) (fun p=>p+1≤l.length∧cO l=l.take p++cO (l.drop p)) (fun p=>l.length - p) 0 ⟨by omega,by simp⟩ (aE _ [(1000000,1000000,_)] ⟨by simp,by simp,by simp [aB,Blk.live],bT⟩ (by simp [aB])) ?_
 rintro p ⟨hp,hC⟩
 by_cases hlt:p+1<l.length
 ·have hlt':(p:Int)+1<l.length:=by omega
  have h0:(0:Int)≤(p:Int)+1:=by omega
  have hp0:p<l.length:=by omega
  have hwp:IntKind.i64.wrap (p:Int)=p:=aH (by omega) (by omega)
  have hwp1:IntKind.i64.wrap ((p:Int)+1)=p+1:=aH (by omega) (by omega)
  have hwp2:IntKind.i64.wrap ((p:Int)+1+1)=p+1+1:=aH (by omega) (by omega)
  obtain ⟨v,hv⟩:∃ v,v=l[p]:=⟨_,rfl⟩
  obtain ⟨u,hu⟩:∃ u,u=l[p+1]:=⟨_,rfl⟩
  have hgv:∀ h,l[p]'h=v:=fun _=>hv.symm
  have hgu:∀ h,l[p+1]'h=u:=fun _=>hu.symm
  cases hb:At.beq u v with
  | false =>
    have hb2:At.beq l[p] l[p+1]=false:=by
     cases e:At.beq l[p] l[p+1] with
     | false=>rfl
     | true =>
       have:=(At.beq_iff _ _).1 e
       rw [hgv,hgu] at this
       subst this
       rw [(At.beq_iff _ _).2 rfl] at hb; cases hb
    have hs:=LL hlt hb2
    have hf:=At.beq_f hb
    simp [hlt,hlt',h0,hp0,hwp,hgv,hgu,At.c,hf]
    (repeat' first|contradiction|exact .ok|apply And.intro|intro _|(apply gc<;>simp+contextual[hf]))
    refine ⟨p+1,⟨by omega,by rw [hC,hs,bV hp0,List.append_assoc]; rfl⟩,?_,by simp; omega⟩
    exact aE _ [(1000000,1000000,_)] ⟨by simp,by simp,by simp [aB,Blk.live],bT⟩ (by simp [aB,hwp2])
  | true =>
    have huv:=(At.beq_iff _ _).1 hb
    subst huv
    have hinit:l.take (p+1)++(cO (l.drop (p+1))).tail=cO l:=by
     rw [hC,bV hp0,hgv,List.append_assoc]
     congr 1
     obtain ⟨m,hm⟩:=qO u (l.drop (p+1+1))
     rw [List.drop_eq_getElem_cons hp0,List.drop_eq_getElem_cons hlt,hgv,hgu,cO,if_pos ((At.beq_iff _ _).2 rfl),hm]
     rfl
    have hle':(p:Int)+1≤l.length:=by omega
    simp [hlt,hlt',hle',h0,hp0,hwp,hgv,hgu,At.c]
    (repeat' first|contradiction|exact .ok|apply And.intro|intro _|(apply gc<;>simp+contextual))
    refine aL aW (by decide) (aCL l.length (p+1)) (fun x=>1≤x.2.1∧p+1+x.2.1≤l.length∧1≤x.1∧x.1≤p+x.2.1∧x.2.2.length=l.length∧x.2.2.drop (p+x.2.1)=l.drop (p+x.2.1)∧x.2.2.take x.1++(cO (l.drop (p+x.2.1))).tail=cO l) (fun x=>l.length - x.2.1) (p+1,1,l) ⟨by simp,by simp only; omega,by simp,by simp,rfl,rfl,hinit⟩
     (aE _ [(1000000,1000000,_)] ⟨by simp,by simp,by simp [aB,Blk.live],bT⟩ (by simp [aB])) ?_
    rintro ⟨k,k2,A⟩ ⟨i1,i2,i3,i4,i5,i6,i7⟩
    simp only at i1 i2 i3 i4 i5 i6 i7
    obtain ⟨j,rfl⟩:∃ j,k2=j+1:=⟨k2 - 1,by omega⟩
    have hAg:∀ i,p+(j+1)≤i→A[i]?=l[i]?:=fun i hi=>by
     have:=congrArg (·[i - (p+(j+1))]?) i6
     simp only [List.getElem?_drop] at this
     rwa [show p+(j+1)+(i - (p+(j+1)))=i from by omega] at this
    have hsub:(l.length - (p+1):Nat)=l.length - (p+1):=rfl
    by_cases hj:j+1<l.length - (p+1)
    ·have hj':(j:Int)+1<((l.length - (p+1):Nat):Int):=by omega
     have hq1:p+(j+1)+1<l.length:=by omega
     obtain ⟨b,hbq⟩:∃ b,b=l[p+(j+1)]:=⟨_,rfl⟩
     obtain ⟨a,haq⟩:∃ a,a=l[p+(j+1)+1]:=⟨_,rfl⟩
     have htl:=LK hq1
     rw [← hbq,← haq] at htl
     have c1:A[p+1+(j+1)]?=some a:=by rw [hAg _ (by omega),List.getElem?_eq_getElem (by omega),haq]; congr 2; omega
     have c2:A[p+1+j]?=some b:=by rw [hAg _ (by omega),List.getElem?_eq_getElem (by omega),hbq]; congr 2; omega
     have hl1:p+1+(j+1)<A.length:=by omega
     have hl2:p+1+j<A.length:=by omega
     have d1:∀ h,A[p+1+(j+1)]'h=a:=fun h=>by rw [List.getElem?_eq_getElem h] at c1; exact Option.some.inj c1
     have d2:∀ h,A[p+1+j]'h=b:=fun h=>by rw [List.getElem?_eq_getElem h] at c2; exact Option.some.inj c2
     have hj0:(0:Int)≤(j:Int)+1:=by omega
     have hjl:j<l.length - (p+1):=by omega
     have hwj:IntKind.i64.wrap (j:Int)=j:=aH (by omega) (by omega)
     have hwj2:IntKind.i64.wrap ((j:Int)+1+1)=j+1+1:=aH (by omega) (by omega)
     have hkl:k<l.length:=by omega
     have hkA:k<A.length:=by omega
     have hwk:IntKind.i64.wrap ((k:Int)+1)=k+1:=aH (by omega) (by omega)
     cases hbe:At.beq a b with
     | true =>
       have hab:=(At.beq_iff _ _).1 hbe
       subst hab
       rw [if_pos ((At.beq_iff _ _).2 rfl)] at htl
       simp [aCL,hj,hj',hj0,hjl,hwj,c1,c2,hl1,hl2,d1,d2,At.c]
       (repeat' first|contradiction|exact .ok|apply And.intro|intro _|(apply gc<;>simp+contextual))
       refine ⟨(k,j+1+1,A),⟨by simp,by simp only; omega,i3,by simp only; omega,i5,?_,?_⟩,?_,by simp only; omega⟩
       ·have:=congrArg (List.drop 1) i6
        simpa only [List.drop_drop,Nat.add_assoc] using this
       ·have e:p+(j+1+1)=p+(j+1)+1:=by omega
        simp only [e]; rw [← htl]; exact i7
       ·exact aE _ [(1000000,1000000,_)] ⟨by simp,by simp,by simp [aB,Blk.live],bT⟩ (by simp [aB,hwj2])
     | false =>
       have hf:=At.beq_f hbe
       have hbe2:At.beq b a=false:=by
        cases e:At.beq b a with
        | false=>rfl
        | true =>
          have:=(At.beq_iff _ _).1 e
          subst this
          rw [(At.beq_iff _ _).2 rfl] at hbe; cases hbe
       rw [if_neg (by rw [hbe2]; decide)] at htl
       simp [aCL,hj,hj',hj0,hjl,hwj,c1,c2,hl1,hl2,d1,d2,At.c,hf,hkl,hkA]
       (repeat' first|contradiction|exact .ok|apply And.intro|intro _|(apply gc<;>simp+contextual[hf]))
       refine ⟨(k+1,j+1+1,A.set k a),⟨by simp,by simp only; omega,by simp,by simp only; omega,by simpa using i5,?_,?_⟩,?_,by simp only; omega⟩
       ·have:=congrArg (List.drop 1) i6
        simp only [List.drop_drop,Nat.add_assoc] at this
        simp only
        rw [List.drop_set_of_lt (by omega)]
        exact this
       ·have e:p+(j+1+1)=p+(j+1)+1:=by omega
        simp only [e]
        have e2:(A.set k a).take (k+1)=A.take k++[a]:=by
         rw [bV (by simpa using hkA),List.take_set_of_le (Nat.le_refl k),List.getElem_set_self]
        rw [e2,List.append_assoc,← i7,htl]
        rfl
       ·exact aE _ [(1000000,1000000,_)] ⟨by simp,by simp,by simp [aB,Blk.live,List.map_set,At.c],bT⟩ (by simp [aB,hwj2,hwk])
    ·have hjn:¬ (j:Int)+1<((l.length - (p+1):Nat):Int):=by omega
     have hq:p+(j+1)=l.length - 1:=by omega
     have htl:(cO (l.drop (p+(j+1)))).tail=[]:=by
      rw [List.drop_eq_getElem_cons (by omega),List.drop_of_length_le (by omega),cO]; rfl
     rw [htl,List.append_nil] at i7
     have hkC:(cO l).length=k:=by rw [← i7]; simp; omega
     have hk1:k<l.length:=by omega
     have hk1':(k:Int)≤l.length:=by omega
     have hk2:k+(l.length - k)=l.length:=by omega
     have hk3:0<l.length - k:=by omega
     have hdl:List.drop l.length (A.map At.c)=[]:=List.drop_of_length_le (by simp; omega)
     have hk4:k≤A.length:=by omega
     have hk5:k≤l.length:=by omega
     have hfin:List.take k (A.map At.c)=(cO l).map At.c:=by rw [← List.map_take,i7]
     rw [hkC]
     simp [aCL,hj,hjn,hk1,hk1',hk2,hk3,i5,hdl,hk4,hk5,hfin,At.c,aDg]
     all_goals exact gz
 have hpe:p+1=l.length:=by omega
 have hcl:cO l=l:=by
  rw [hC,List.drop_eq_getElem_cons (by omega),List.drop_of_length_le (by omega),cO]
  conv=>rhs; rw [← List.take_length (l:=l),← hpe,bV (by omega)]
 have hpe':(p:Int)+1=l.length:=by omega
 simp [hpe',hcl]
 all_goals exact gz
end Go.Proofs.Tryz
