import Derived.Test.YtklnfckiabhceaaGreatDoorKIto
set_option linter.all false
namespace Go.Proofs.Tryz
open Go.Ab
set_option maxRecDepth 100000
set_option maxHeartbeats 1000000
theorem r13_number (n:Int):Cf En 58 [.d (.int .i64 n)] [] (V.a ⟨1,n,[]⟩) []:=by
 refine cf_intro mix (fn:=Tryz.f58) (by kernel_rfl) rfl (by kernel_rfl) (by decide) (by simp) ?_
 simp [V.a]
 all_goals exact gz
theorem goI_drop {l:List V} {i:Nat} (h:i<l.length):goI (l.drop i)=(if l[i].n+1≤maxI∧(match l[i+1]? with | none=>true | some u=>u.n != l[i].n+1)=true then [l[i],⟨1,l[i].n+1,[]⟩] else [l[i]])++goI (l.drop (i+1)):=by
 have:l[i+1]?=(l.drop (i+1))[0]?:=by simp
 rw [List.drop_eq_getElem_cons h,this]
 cases l.drop (i+1) <;> simp [goI]
def intF (l:List V) (x:Nat×List V):St :=
 { s:=mkS [(0,.d (.sl (l.map V.c))),(3,.ref 900 0 x.2.length 3),(4,.d (.int .i64 x.1))],b:=mkB [(900,900,.arr 79 3 (x.2.map V.c) false)] }
theorem r13_ints (l:List V) (hl:l.length≤1000) (hb:∀ v∈l,-maxI≤v.n∧v.n≤maxI):Cf En 101 [.d (.sl (l.map V.c))] [] (.ref 1000000 0 (genI l).length 3) [.arr 79 3 ((genI l).map V.c) false]:=by
 refine cf_intro mix (fn:=Tryz.f101) (by kernel_rfl) rfl (by kernel_rfl) (by decide) (by simp) ?_
 obtain ⟨O0,hO⟩:∃ O0:List V,O0=match l[0]? with | none=>[⟨1,-maxI,[]⟩] | some v=>if v.n>-maxI then [⟨1,-maxI,[]⟩] else []:=⟨_,rfl⟩
 refine' (fun (key:LoopKey En 64 0 (intF l (0,O0)) _ _)=>?main) ?keyg
 case main =>
  by_cases h0:l.length=0
  ·have e0:l=[]:=List.eq_nil_of_length_eq_zero h0
   have hO':O0=[⟨1,-maxI,[]⟩]:=by rw [hO,e0]; rfl
   simp [h0]
   (repeat' (first|contradiction|exact .ok|apply And.intro|intro _|(refine gc (fun h=>?_) (fun h=>?_)<;>(have h':=h;(try simp at h');first|done|simp[h,h']|simp))))
   refine acallT_plain (r13_number (-1000000000000)) (by simp [V.a]) ?_
   simp [V.a]
   (repeat' (first|contradiction|exact .ok|apply And.intro|intro _|(refine gc (fun h=>?_) (fun h=>?_)<;>(have h':=h;(try simp at h');first|done|simp[h,h']|simp))))
   refine key _ ?_
   exact sub_mk _ [(900,19,_)] ⟨by simp,by simp,by simp [renOf,Blk.live,hO',V.c,maxI],by simp⟩ (by simp [renOf,hO'])
  ·have hlt:0<l.length:=by omega
   have h0':¬ (l.length:Int)=0:=by omega
   obtain ⟨v,hv0⟩:∃ v,v=l[0]:=⟨_,rfl⟩
   have hgi:∀ h,l[0]'h=v:=fun _=>hv0.symm
   have e1:l[0]?=some v:=by rw [List.getElem?_eq_getElem hlt,hv0]
   rw [e1] at hO
   dsimp only at hO
   by_cases hv:v.n>-maxI
   ·have hv':-1000000000000<v.n:=hv
    have hO':O0=[⟨1,-maxI,[]⟩]:=by rw [hO,if_pos hv]
    simp [h0,h0',hlt,e1,hgi,V.c,hv']
    (repeat' (first|contradiction|exact .ok|apply And.intro|intro _|(refine gc (fun h=>?_) (fun h=>?_)<;>(have h':=h;(try simp at h');first|done|simp[h,h']|simp))))
    refine acallT_plain (r13_number (-1000000000000)) (by simp [V.a]) ?_
    simp [V.a]
    (repeat' (first|contradiction|exact .ok|apply And.intro|intro _|(refine gc (fun h=>?_) (fun h=>?_)<;>(have h':=h;(try simp at h');first|done|simp[h,h']|simp))))
    refine key _ ?_
    exact sub_mk _ [(900,19,_)] ⟨by simp,by simp,by simp [renOf,Blk.live,hO',V.c,maxI],by simp⟩ (by simp [renOf,hO'])
   ·have hv':¬ -1000000000000<v.n:=hv
    have hO':O0=[]:=by rw [hO,if_neg hv]
    simp [h0,h0',hlt,e1,hgi,V.c,hv']
    (repeat' (first|contradiction|exact .ok|apply And.intro|intro _|(refine gc (fun h=>?_) (fun h=>?_)<;>(have h':=h;(try simp at h');first|done|simp[h,h']|simp))))
    refine key _ ?_
    exact sub_mkn 3 900 79 3 (by simp) (by simp) (by decide) (by decide) _ [(900,900,_)] ⟨by simp,by simp,by simp [renOf,Blk.live,hO'],by simp⟩ (by simp [renOf,hO'])
 intro st hst
 have hO1:O0.length≤1:=by
  rw [hO]
  split
  ·simp
  ·split <;> simp
 have hG:O0++goI l=genI l:=by rw [hO]; unfold genI; cases l <;> simp
 refine aloopT mix (by decide) (intF l) (fun x=>x.1≤l.length∧x.2++goI (l.drop x.1)=genI l∧x.2.length≤2*x.1+1) (fun x=>l.length - x.1) (0,O0) ⟨by simp,by simpa using hG,by simpa using hO1⟩ hst ?_
 rintro ⟨i,O⟩ ⟨hi,hG,hOl⟩
 simp only at hi hG hOl
 by_cases hlt:i<l.length
 ·have hd:=goI_drop hlt
  rw [hd] at hG
  obtain ⟨u,hu⟩:∃ u,u=l[i]:=⟨_,rfl⟩
  have hgi:∀ h,l[i]'h=u:=fun _=>hu.symm
  rw [← hu] at hG
  have hub:=hb u (by rw [hu]; exact List.getElem_mem hlt)
  have hw:=wrap_in (n:=(i:Int)+1) (by omega) (by omega)
  have hwn:=wrap_in (n:=u.n+1) (by simp [maxI] at hub; omega) (by simp [maxI] at hub; omega)
  have hfin:∀ (O':List V) st',O'++goI (l.drop (i+1))=genI l→O'.length≤2*(i+1)+1→Sub En 64 0 st' (intF l (i+1,O'))→ANext En 64 0 (intF l) (fun x=>x.1≤l.length∧x.2++goI (l.drop x.1)=genI l∧x.2.length≤2*x.1+1) (fun x=>l.length - x.1) (i,O) st' ⟨⟩:=fun O' st' h1 h2 h3=>⟨(i+1,O'),⟨by simp only; omega,h1,h2⟩,h3,by simp only; omega⟩
  by_cases hm:u.n+1≤1000000000000
  ·by_cases hlast:i+1=l.length
   ·have hlast':((i:Int)+1==l.length)=true:=by simp; omega
    have hn:l[i+1]?=none:=List.getElem?_eq_none (by omega)
    rw [hn,if_pos ⟨hm,rfl⟩] at hG
    simp [intF,hlt,hgi,V.c,hwn,hw,hm,hlast',szs (O.length+1) (by omega) 32 (by decide),szs O.length (by omega) 32 (by decide)]
    (repeat' (first|contradiction|exact .ok|apply And.intro|intro _|(refine gc (fun h=>?_) (fun h=>?_)<;>(have h':=h;(try simp at h');first|done|simp[h,h',hm,hlast']|simp[hm,hlast']))))
    refine acallT_plain (r13_number (u.n+1)) (by simp [V.a]) ?_
    simp [V.a,hlast',szs (O.length+1+1) (by omega) 32 (by decide),szs O.length (by omega) 32 (by decide)]
    (repeat' (first|contradiction|exact .ok|apply And.intro|intro _|(refine gc (fun h=>?_) (fun h=>?_)<;>(have h':=h;(try simp at h');first|done|simp[h,h']|simp))))
    refine hfin (O++[u,⟨1,u.n+1,[]⟩]) _ (by rw [List.append_assoc]; exact hG) (by simp; omega) ?_
    refine sub_mk _ [(900,62,_)] ⟨by simp,by simp,by simp [renOf,Blk.live,V.c],by simp⟩ (by simp [renOf,hw])
   ·have hlast':¬ (i:Int)+1=l.length:=by omega
    have hlt1:i+1<l.length:=by omega
    have hlt1':(i:Int)+1<l.length:=by omega
    have hi0:(0:Int)≤(i:Int)+1:=by omega
    obtain ⟨z,hz⟩:∃ z,z=l[i+1]:=⟨_,rfl⟩
    have hgz:∀ h,l[i+1]'h=z:=fun _=>hz.symm
    have hn:l[i+1]?=some z:=by rw [List.getElem?_eq_getElem hlt1,hz]
    rw [hn] at hG
    by_cases hne:z.n=u.n+1
    ·rw [if_neg (by simp [hne])] at hG
     simp [intF,hlt,hgi,V.c,hwn,hw,hm,hlast',hi0,hlt1,hgz,hne,szs (O.length+1) (by omega) 32 (by decide),szs O.length (by omega) 32 (by decide)]
     (repeat' (first|contradiction|exact .ok|apply And.intro|intro _|(refine gc (fun h=>?_) (fun h=>?_)<;>(have h':=h;(try simp at h');first|done|simp[h,h',hm,hlast',hne]|simp[hm,hlast',hne]))))
     refine hfin (O++[u]) _ (by rw [List.append_assoc]; exact hG) (by simp; omega) ?_
     refine sub_mk _ [(900,32,_)] ⟨by simp,by simp,by simp [renOf,Blk.live,V.c],by simp⟩ (by simp [renOf,hw])
    ·rw [if_pos ⟨hm,by simpa using hne⟩] at hG
     simp [intF,hlt,hgi,V.c,hwn,hw,hm,hlast',hi0,hlt1,hgz,hne,szs (O.length+1) (by omega) 32 (by decide),szs O.length (by omega) 32 (by decide)]
     (repeat' (first|contradiction|exact .ok|apply And.intro|intro _|(refine gc (fun h=>?_) (fun h=>?_)<;>(have h':=h;(try simp at h');first|done|simp[h,h',hm,hlast',hne]|simp[hm,hlast',hne]))))
     refine acallT_plain (r13_number (u.n+1)) (by simp [V.a]) ?_
     simp [V.a,szs (O.length+1+1) (by omega) 32 (by decide),szs O.length (by omega) 32 (by decide)]
     (repeat' (first|contradiction|exact .ok|apply And.intro|intro _|(refine gc (fun h=>?_) (fun h=>?_)<;>(have h':=h;(try simp at h');first|done|simp[h,h']|simp))))
     refine hfin (O++[u,⟨1,u.n+1,[]⟩]) _ (by rw [List.append_assoc]; exact hG) (by simp; omega) ?_
     refine sub_mk _ [(900,62,_)] ⟨by simp,by simp,by simp [renOf,Blk.live,V.c],by simp⟩ (by simp [renOf,hw])
  ·have hm':¬ u.n+1≤maxI:=hm
   rw [if_neg (fun h=>hm' h.1)] at hG
   simp [intF,hlt,hgi,V.c,hwn,hw,hm,szs (O.length+1) (by omega) 32 (by decide),szs O.length (by omega) 32 (by decide)]
   (repeat' (first|contradiction|exact .ok|apply And.intro|intro _|(refine gc (fun h=>?_) (fun h=>?_)<;>(have h':=h;(try simp at h');first|done|simp[h,h',hm]|simp[hm]))))
   refine hfin (O++[u]) _ (by rw [List.append_assoc]; exact hG) (by simp; omega) ?_
   refine sub_mk _ [(900,32,_)] ⟨by simp,by simp,by simp [renOf,Blk.live,V.c],by simp⟩ (by simp [renOf,hw])
 have hie:i=l.length:=by omega
 subst hie
 rw [List.drop_length,goI,List.append_nil] at hG
 rw [← hG]
 simp [intF]
 (repeat' (first|contradiction|exact .ok|apply And.intro|intro _|(refine gc (fun h=>?_) (fun h=>?_)<;>(have h':=h;(try simp at h');first|done|simp[h,h']|simp))))
 refine ⟨_,[(1000000,900,.arr 79 3 (O.map V.c) false)],by simp; rfl,⟨by simp,by simp,by simp [renOf,Blk.live],by simp⟩,by simp [List.zipIdx,firstName_eq],by simp [renOf]⟩
theorem r13_texts (l:List V) (hl:l.length≤12):Cf En 103 [.d (.sl (l.map V.c))] [] (.ref 1000000 0 (l.length+1) 3) [.arr 79 3 ((l++[txV (frN l)]).map V.c) false]:=by
 refine cf_intro mix (fn:=Tryz.f103) (by kernel_rfl) rfl (by kernel_rfl) (by decide) (by simp) ?_
 obtain ⟨F,hF⟩:∃ F,F=frN l:=⟨_,rfl⟩
 rw [← hF]
 simp [szs l.length (by omega) 32 (by decide)]
 (repeat' (first|contradiction|exact .ok|apply And.intro|intro _|(refine gc (fun h=>?_) (fun h=>?_)<;>(have h':=h;(try simp at h');first|done|simp[h,h']|simp))))
 refine aloopT mix (by decide) (fun n:Nat=>{ s:=mkS [(0,.d (.sl (l.map V.c))),(3,.ref 900 0 l.length 3),(4,.d (.int .i64 n))],b:=mkB [(900,900,.arr 79 3 (l.map V.c) false)] }) (fun n=>frG l (l.length+1 - n) n=F∧∀ j,j<n→hasV l j=true) (fun n=>l.length+1 - n) 0 ⟨by simp [hF,frN],by simp⟩ (sub_mk _ [(900,10,_)] ⟨by simp,by simp,by simp [renOf,Blk.live],by simp⟩ (by simp [renOf])) ?_
 clear hF
 rintro n ⟨hf,hall⟩
 have hnl:=has_le2 hl hall
 obtain ⟨m,hm⟩:∃ m,l.length+1 - n=m+1:=⟨l.length - n,by omega⟩
 have hm2:l.length+1 - (n+1)=m:=by omega
 rw [hm,frG] at hf
 have hit:=itoa_n n (by omega)
 have hwn:=wrap_in (n:=(n:Int)+1) (by omega) (by omega)
 simp
 (repeat' (first|contradiction|exact .ok|apply And.intro|intro _|(refine gc (fun h=>?_) (fun h=>?_)<;>(have h':=h;(try simp at h');first|done|simp[h,h']|simp))))
 refine acallT_plain hit (by simp) ?_
 simp
 (repeat' (first|contradiction|exact .ok|apply And.intro|intro _|(refine gc (fun h=>?_) (fun h=>?_)<;>(have h':=h;(try simp at h');first|done|simp[h,h']|simp))))
 refine aloopT mix (by decide) (fun i:Nat=>{ s:=mkS [(0,.d (.sl (l.map V.c))),(3,.ref 900 0 l.length 3),(4,.d (.int .i64 n)),(5,.ptr 5 0 0),(6,.d (.bool ((l.take i).any fun u=>V.beq u (txV n)))),(7,.d (.int .i64 i))],b:=mkB [(900,900,.arr 79 3 (l.map V.c) false),(5,5,.var [.d (.int .i64 3),.d (.int .i64 0),.d (.str (itoaG n))])] }) (fun i=>i≤l.length) (fun i=>l.length - i) 0 (by simp) (sub_mk _ [(900,900,_),(5,5,_)] ⟨by simp,by simp,by simp [renOf,Blk.live],by simp⟩ (by simp [renOf])) ?_
 intro i hi
 by_cases hlt:i<l.length
 ·obtain ⟨u,hu⟩:∃ u,u=l[i]:=⟨_,rfl⟩
  have hgi:∀ h,l[i]'h=u:=fun _=>hu.symm
  have hw:=wrap_in (n:=(i:Int)+1) (by omega) (by omega)
  have hat:=any_take (p:=fun u=>V.beq u (txV n)) hlt
  rw [← hu] at hat
  have hcb:(u.cmp (txV n)==0)=V.beq u (txV n):=by
   rw [Bool.eq_iff_iff,V.beq_iff,beq_iff_eq]
   exact ⟨V.cmp_eq,fun h=>by rw [h]; exact V.cmp_self _⟩
  have hrs:=r_same u (txV n)
  rw [hcb] at hrs
  generalize V.beq u (txV n)=Q at *
  cases hB:(l.take i).any fun u=>V.beq u (txV n) with
  | true =>
    rw [hB,Bool.true_or] at hat
    simp [hlt]
    (repeat' (first|contradiction|exact .ok|apply And.intro|intro _|(refine gc (fun h=>?_) (fun h=>?_)<;>(have h':=h;(try simp at h');first|done|simp[h,h']|simp))))
    refine ⟨i+1,by omega,?_,by simp; omega⟩
    refine sub_mk _ [(900,900,_),(5,5,_)] ⟨by simp,by simp,by simp [renOf,Blk.live],by simp⟩ (by simp only [hat]; simp [renOf,hw])
  | false =>
    rw [hB,Bool.false_or] at hat
    simp [hlt,hgi,V.c]
    (repeat' (first|contradiction|exact .ok|apply And.intro|intro _|(refine gc (fun h=>?_) (fun h=>?_)<;>(have h':=h;(try simp at h');first|done|simp[h,h']|simp))))
    refine acallT_plain hrs (by simp [V.a,txV]) ?_
    simp
    (repeat' (first|contradiction|exact .ok|apply And.intro|intro _|(refine gc (fun h=>?_) (fun h=>?_)<;>(have h':=h;(try simp at h');first|done|simp[h,h']|simp))))
    refine ⟨i+1,by omega,?_,by simp; omega⟩
    refine sub_mk _ [(900,900,_),(5,5,_)] ⟨by simp,by simp,by simp [renOf,Blk.live],by simp⟩ (by simp only [hat]; simp [renOf,hw])
 have hie:i=l.length:=by omega
 subst hie
 rw [List.take_length,show (l.any fun u=>V.beq u (txV n))=hasV l n from rfl]
 cases hH:hasV l n with
 | true =>
   rw [hH,if_pos rfl] at hf
   simp
   (repeat' (first|contradiction|exact .ok|apply And.intro|intro _|(refine gc (fun h=>?_) (fun h=>?_)<;>(have h':=h;(try simp at h');first|done|simp[h,h']|simp))))
   refine ⟨n+1,⟨by rw [hm2]; exact hf,fun j hj=>?_⟩,?_,by simp; omega⟩
   ·by_cases hjn:j=n
    ·subst hjn; exact hH
    ·exact hall j (by omega)
   ·exact sub_mk _ [(900,900,_)] ⟨by simp,by simp,by simp [renOf,Blk.live],by simp⟩ (by simp [renOf,hwn])
 | false =>
   rw [hH,if_neg (by simp)] at hf
   subst hf
   simp [szs (l.length+1) (by omega) 32 (by decide),szs l.length (by omega) 32 (by decide)]
   (repeat' (first|contradiction|exact .ok|apply And.intro|intro _|(refine gc (fun h=>?_) (fun h=>?_)<;>(have h':=h;(try simp at h');first|done|simp[h,h']|simp))))
   refine ⟨_,[(1000000,36,.arr 79 3 ((l++[txV n]).map V.c) false)],by simp; rfl,⟨by simp,by simp,by simp [renOf,Blk.live,V.c,txV],by simp⟩,by simp [List.zipIdx,firstName_eq],by simp [renOf]⟩
end Go.Proofs.Tryz
namespace Go.Proofs.Tryz
open Go.Ab
set_option maxRecDepth 100000
set_option maxHeartbeats 2000000
theorem consts_mem {l:List At} {v:V} (h:v∈constsG l):∃ a∈l,a.v=v:=by
 unfold constsG at h
 rw [sortD_mem,List.mem_map] at h
 obtain ⟨a,ha,rfl⟩:=h
 exact ⟨a,(List.mem_filter.1 ha).1,rfl⟩
theorem about_mem {c:Int} {l:List At} {a:At} (h:a∈aboutG c l):a∈l∧a.col=c:=by
 unfold aboutG at h
 obtain ⟨h1,h2⟩:=List.mem_filter.1 h
 exact ⟨h1,by simpa using h2⟩
theorem trsG_eq (A:List At) (u v:V):(trsG A u==trsG A v)=A.all fun a=>a.tr u==a.tr v:=by
 unfold trsG
 induction A with
 | nil=>rfl
 | cons a A ih=>rw [List.map_cons,List.map_cons,List.all_cons,← ih]; rfl
theorem all_take {α:Type} {l:List α} {p:α→Bool} {i:Nat} (h:i<l.length):(l.take (i+1)).all p=((l.take i).all p&&p l[i]):=by
 rw [take_snoc h,List.all_append]
 simp only [List.all_cons,List.all_nil,Bool.and_true]
theorem genI_len (l:List V):(genI l).length≤2*l.length+1:=by
 have h:∀ l:List V,(goI l).length≤2*l.length:=by
  intro l
  induction l with
  | nil=>simp [goI]
  | cons v r ih =>
    have e:=goI_drop (l:=v::r) (i:=0) (by simp)
    simp only [List.drop_zero,List.drop_succ_cons] at e
    rw [e,List.length_append,List.length_cons]
    have h2:∀ (p:Prop) [Decidable p] (a b:V),(if p then [a,b] else [a]).length≤2:=fun p _ a b=>by split <;> simp
    refine Nat.le_trans (Nat.add_le_add_right (h2 _ _ _) _) ?_
    omega
 have:=h l
 unfold genI
 rw [List.length_append]
 have h4:∀ x y:List V,x.length≤1→(x++y).length≤1+y.length:=fun x y hx=>by rw [List.length_append]; omega
 rw [← List.length_append]
 refine Nat.le_trans (h4 _ _ ?_) (by omega)
 split
 ·simp
 ·split <;> simp
theorem genC_len (k:Int) (nb:Bool) (l:List V):(genC k nb l).length≤2*l.length+4:=by
 have:=genI_len l
 unfold genC
 rw [List.length_append]
 have h2:(if nb=true then [nulV] else ([]:List V)).length≤1:=by split <;> simp
 split
 ·omega
 split
 ·simp at *; omega
 split
 ·simp at *; omega
 ·simp at *; omega
theorem distG_drop {f:V→List Int} {l:List V} {i:Nat} {O:List V} (h:i<l.length):distG f O (l.drop i)=distG f (if (O.any fun u=>f u==f l[i])=true then O else O++[l[i]]) (l.drop (i+1)):=by
 rw [List.drop_eq_getElem_cons h,distG]
def clF (A:List At) (ALL:List V) (x:Nat×List V):St :=
 { s:=mkS [(7,.d (.sl (A.map At.c))),(9,.d (.sl (ALL.map V.c))),(10,.ref 900 0 x.2.length 3),(11,.d (.int .i64 x.1))],b:=mkB [(900,900,.arr 79 3 (x.2.map V.c) false)] }
theorem r13_classes (x:Col) (c:Int) (l:List At) (hl:l.length≤12) (hk:x.t=1∨x.t=2∨x.t=3) (ht:∀ a∈l,a.v.t.length≤200) (hn:∀ a∈l,-maxI≤a.v.n∧a.v.n≤maxI) :
  Cf En 59 [x.a,.d (.int .i64 c),.d (.sl (l.map At.c))] [] (.d (.sl ((classesG c x.t x.b l).map V.c))) []:=by
 refine cf_intro mix (fn:=Tryz.f59) (by kernel_rfl) rfl (by kernel_rfl) (by decide) (by simp) ?_
 have hab:=r13_about l (by omega) c
 have hAm:∀ a∈aboutG c l,a∈l:=fun a h=>(about_mem h).1
 have hAl:(aboutG c l).length≤12:=Nat.le_trans (List.length_filter_le _ _) hl
 have hcl:=constsG_len (aboutG c l)
 have hgl:=genC_len x.t x.b (constsG (aboutG c l))
 have hin:=r13_ints (constsG (aboutG c l)) (by omega) fun v hv=>by
  obtain ⟨a,ha,rfl⟩:=consts_mem hv
  exact hn a (hAm a ha)
 have htx:=r13_texts (constsG (aboutG c l)) (by omega)
 unfold classesG
 obtain ⟨ALL,hALL⟩:∃ ALL,ALL=genC x.t x.b (constsG (aboutG c l)):=⟨_,rfl⟩
 rw [← hALL] at hgl ⊢
 generalize constsG (aboutG c l)=C at *
 obtain ⟨A,hA⟩:∃ A,A=aboutG c l:=⟨_,rfl⟩
 rw [← hA] at hab hAm hAl hcl ⊢
 have hAt:∀ a∈A,a.v.t.length≤200:=fun a h=>ht a (hAm a h)
 clear hA hAm hn ht
 refine' (fun (key:LoopKey En 97 0 (clF A ALL (0,[])) _ _)=>?main) ?keyg
 case main =>
  simp [Col.a,Col.c]
  (repeat' (first|contradiction|exact .ok|apply And.intro|intro _|(refine gc (fun h=>?_) (fun h=>?_)<;>(have h':=h;(try simp at h');first|done|simp[h,h']|simp))))
  refine acallT_plain hab (by simp) ?_
  rcases hk with hk | hk | hk
  ·simp [hk]
   (repeat' (first|contradiction|exact .ok|apply And.intro|intro _|(refine gc (fun h=>?_) (fun h=>?_)<;>(have h':=h;(try simp at h');first|done|simp[h,h',hk]|simp[hk]))))
   refine acallT_new [] hin (by simp) (by simp) (by simp) (by simp) (by simp) (by simp) (by simp) ?_
   have e0:=genI_len C
   cases hb:x.b
   ·simp [hb]
    (repeat' (first|contradiction|exact .ok|apply And.intro|intro _|(refine gc (fun h=>?_) (fun h=>?_)<;>(have h':=h;(try simp at h');first|done|simp[h,h',hb]|simp[hb]))))
    refine key _ ?_
    exact sub_mkn 10 900 79 3 (by simp) (by simp) (by decide) (by decide) _ [(900,900,_)] ⟨by simp,by simp,by simp [renOf,Blk.live],by simp⟩ (by simp [renOf,hALL,genC,hk,hb]; try exact List.take_of_length_le (by simp))
   ·simp [hb,szs (genI C).length (by omega) 32 (by decide),szs ((genI C).length+1) (by omega) 32 (by decide)]
    (repeat' (first|contradiction|exact .ok|apply And.intro|intro _|(refine gc (fun h=>?_) (fun h=>?_)<;>(have h':=h;(try simp at h');first|done|simp[h,h',hb]|simp[hb]))))
    refine key _ ?_
    exact sub_mkn 10 900 79 3 (by simp) (by simp) (by decide) (by decide) _ [(900,900,_)] ⟨by simp,by simp,by simp [renOf,Blk.live],by simp⟩ (by simp [renOf,hALL,genC,hk,hb,V.c,nulV]; try exact List.take_of_length_le (by simp))
  ·simp [hk]
   (repeat' (first|contradiction|exact .ok|apply And.intro|intro _|(refine gc (fun h=>?_) (fun h=>?_)<;>(have h':=h;(try simp at h');first|done|simp[h,h',hk]|simp[hk]))))
   refine acallT_plain (r_bool 0) (by simp [V.a]) ?_
   simp [V.a,boolV0]
   refine acallT_plain (r_bool 1) (by simp [V.a]) ?_
   simp [V.a,boolV1]
   cases hb:x.b
   ·simp [hb]
    (repeat' (first|contradiction|exact .ok|apply And.intro|intro _|(refine gc (fun h=>?_) (fun h=>?_)<;>(have h':=h;(try simp at h');first|done|simp[h,h',hb]|simp[hb]))))
    refine key _ ?_
    exact sub_mkn 10 900 79 3 (by simp) (by simp) (by decide) (by decide) _ [(900,900,_)] ⟨by simp,by simp,by simp [renOf,Blk.live],by simp⟩ (by simp [renOf,hALL,genC,hk,hb,V.c])
   ·simp [hb]
    (repeat' (first|contradiction|exact .ok|apply And.intro|intro _|(refine gc (fun h=>?_) (fun h=>?_)<;>(have h':=h;(try simp at h');first|done|simp[h,h',hb]|simp[hb]))))
    refine key _ ?_
    exact sub_mkn 10 900 79 3 (by simp) (by simp) (by decide) (by decide) _ [(900,900,_)] ⟨by simp,by simp,by simp [renOf,Blk.live],by simp⟩ (by simp [renOf,hALL,genC,hk,hb,V.c,nulV]; try exact List.take_of_length_le (by simp))
  ·simp [hk]
   (repeat' (first|contradiction|exact .ok|apply And.intro|intro _|(refine gc (fun h=>?_) (fun h=>?_)<;>(have h':=h;(try simp at h');first|done|simp[h,h',hk]|simp[hk]))))
   refine acallT_new [] htx (by simp) (by simp) (by simp) (by simp) (by simp) (by simp) (by simp) ?_
   cases hb:x.b
   ·simp [hb]
    (repeat' (first|contradiction|exact .ok|apply And.intro|intro _|(refine gc (fun h=>?_) (fun h=>?_)<;>(have h':=h;(try simp at h');first|done|simp[h,h',hb]|simp[hb]))))
    refine key _ ?_
    exact sub_mkn 10 900 79 3 (by simp) (by simp) (by decide) (by decide) _ [(900,900,_)] ⟨by simp,by simp,by simp [renOf,Blk.live],by simp⟩ (by simp [renOf,hALL,genC,hk,hb]; try exact List.take_of_length_le (by simp))
   ·simp [hb,szs (C.length+1) (by omega) 32 (by decide),szs (C.length+1+1) (by omega) 32 (by decide),szs C.length (by omega) 32 (by decide)]
    (repeat' (first|contradiction|exact .ok|apply And.intro|intro _|(refine gc (fun h=>?_) (fun h=>?_)<;>(have h':=h;(try simp at h');first|done|simp[h,h',hb]|simp[hb]))))
    refine key _ ?_
    exact sub_mkn 10 900 79 3 (by simp) (by simp) (by decide) (by decide) _ [(900,900,_)] ⟨by simp,by simp,by simp [renOf,Blk.live],by simp⟩ (by simp [renOf,hALL,genC,hk,hb,V.c,nulV]; try exact List.take_of_length_le (by simp))
 intro st hst
 refine aloopT mix (by decide) (clF A ALL) (fun y=>y.1≤ALL.length∧distG (trsG A) y.2 (ALL.drop y.1)=distG (trsG A) [] ALL∧y.2.length≤y.1) (fun y=>ALL.length - y.1) (0,[]) ⟨by simp,by simp,by simp⟩ hst ?_
 rintro ⟨i,O⟩ ⟨hi,hD,hOl⟩
 simp only at hi hD hOl
 by_cases hlt:i<ALL.length
 ·rw [distG_drop hlt] at hD
  obtain ⟨v,hv⟩:∃ v,v=ALL[i]:=⟨_,rfl⟩
  have hgi:∀ h,ALL[i]'h=v:=fun _=>hv.symm
  rw [← hv] at hD
  have hw:=wrap_in (n:=(i:Int)+1) (by omega) (by omega)
  simp [clF,hlt]
  (repeat' (first|contradiction|exact .ok|apply And.intro|intro _|(refine gc (fun h=>?_) (fun h=>?_)<;>(have h':=h;(try simp at h');first|done|simp[h,h']|simp))))
  refine aloopT mix (by decide) (fun k:Nat=>{ s:=mkS [(7,.d (.sl (A.map At.c))),(9,.d (.sl (ALL.map V.c))),(10,.ref 900 0 O.length 3),(11,.d (.int .i64 i)),(12,.d (.bool (!(O.take k).any fun u=>trsG A u==trsG A v))),(13,.d (.int .i64 k))],b:=mkB [(900,900,.arr 79 3 (O.map V.c) false)] }) (fun k=>k≤O.length) (fun k=>O.length - k) 0 (by simp) (sub_mk _ [(900,900,_)] ⟨by simp,by simp,by simp [renOf,Blk.live],by simp⟩ (by simp [renOf])) ?_
  intro k hk
  by_cases hkt:k<O.length
  ·obtain ⟨u,hu⟩:∃ u,u=O[k]:=⟨_,rfl⟩
   have hgu:∀ h,O[k]'h=u:=fun _=>hu.symm
   have hat:=any_take (p:=fun u=>trsG A u==trsG A v) hkt
   rw [← hu] at hat
   have hwk:=wrap_in (n:=(k:Int)+1) (by omega) (by omega)
   generalize hfr:(O.take k).any (fun u=>trsG A u==trsG A v)=fr at *
   simp [hkt]
   (repeat' (first|contradiction|exact .ok|apply And.intro|intro _|(refine gc (fun h=>?_) (fun h=>?_)<;>(have h':=h;(try simp at h');first|done|simp[h,h']|simp))))
   refine aloopT mix (by decide) (fun j:Nat=>{ s:=mkS [(7,.d (.sl (A.map At.c))),(9,.d (.sl (ALL.map V.c))),(10,.ref 900 0 O.length 3),(11,.d (.int .i64 i)),(12,.d (.bool !fr)),(13,.d (.int .i64 k)),(14,.d (.bool ((A.take j).all fun a=>a.tr u==a.tr v))),(15,.d (.int .i64 j))],b:=mkB [(900,900,.arr 79 3 (O.map V.c) false)] }) (fun j=>j≤A.length) (fun j=>A.length - j) 0 (by simp) (sub_mk _ [(900,900,_)] ⟨by simp,by simp,by simp [renOf,Blk.live],by simp⟩ (by simp [renOf,hfr])) ?_
   intro j hj
   by_cases hjt:j<A.length
   ·obtain ⟨a,ha⟩:∃ a,a=A[j]:=⟨_,rfl⟩
    have hga:∀ h,A[j]'h=a:=fun _=>ha.symm
    have hal:=all_take (p:=fun a=>a.tr u==a.tr v) hjt
    rw [← ha] at hal
    have htl:=hAt a (by rw [ha]; exact List.getElem_mem hjt)
    have hwj:=wrap_in (n:=(j:Int)+1) (by omega) (by omega)
    cases hsm:(A.take j).all fun a=>a.tr u==a.tr v
    ·rw [hsm] at hal
     simp [hjt]
     (repeat' (first|contradiction|exact .ok|apply And.intro|intro _|(refine gc (fun h=>?_) (fun h=>?_)<;>(have h':=h;(try simp at h');first|done|simp[h,h']|simp))))
     refine ⟨j+1,by omega,?_,by simp; omega⟩
     refine sub_mk _ [(900,900,_)] ⟨by simp,by simp,by simp [renOf,Blk.live],by simp⟩ (by simp [renOf,hwj,hal])
    ·rw [hsm] at hal
     simp [hjt,hga,hkt,hgu,hlt,hgi,At.c,V.c]
     (repeat' (first|contradiction|exact .ok|apply And.intro|intro _|(refine gc (fun h=>?_) (fun h=>?_)<;>(have h':=h;(try simp at h');first|done|simp[h,h']|simp))))
     refine acallT_plain (r13_truth a htl u) (by simp [At.a,At.c,V.a]) ?_
     simp [hjt,hga,hkt,hgu,hlt,hgi,At.c,V.c]
     refine acallT_plain (r13_truth a htl v) (by simp [At.a,At.c,V.a]) ?_
     simp
     (repeat' (first|contradiction|exact .ok|apply And.intro|intro _|(refine gc (fun h=>?_) (fun h=>?_)<;>(have h':=h;(try simp at h');first|done|simp[h,h']|simp))))
     refine ⟨j+1,by omega,?_,by simp; omega⟩
     refine sub_mk _ [(900,900,_)] ⟨by simp,by simp,by simp [renOf,Blk.live],by simp⟩ (by simp [renOf,hwj,hal])
   have hje:j=A.length:=by omega
   subst hje
   rw [List.take_length,← trsG_eq]
   simp
   cases fr
   ·simp
    (repeat' (first|contradiction|exact .ok|apply And.intro|intro _|(refine gc (fun h=>?_) (fun h=>?_)<;>(have h':=h;(try simp at h');first|done|simp[h,h']|simp))))
    refine ⟨k+1,by omega,?_,by simp; omega⟩
    refine sub_mk _ [(900,900,_)] ⟨by simp,by simp,by simp [renOf,Blk.live],by simp⟩ (by simp [renOf,hwk,hat])
   ·simp
    (repeat' (first|contradiction|exact .ok|apply And.intro|intro _|(refine gc (fun h=>?_) (fun h=>?_)<;>(have h':=h;(try simp at h');first|done|simp[h,h']|simp))))
    refine ⟨k+1,by omega,?_,by simp; omega⟩
    refine sub_mk _ [(900,900,_)] ⟨by simp,by simp,by simp [renOf,Blk.live],by simp⟩ (by simp [renOf,hwk,hat])
  have hke:k=O.length:=by omega
  subst hke
  rw [List.take_length]
  cases hfr:O.any fun u=>trsG A u==trsG A v
  ·rw [hfr] at hD
   simp [hlt,hgi,V.c,szs O.length (by omega) 32 (by decide),szs (O.length+1) (by omega) 32 (by decide)]
   (repeat' (first|contradiction|exact .ok|apply And.intro|intro _|(refine gc (fun h=>?_) (fun h=>?_)<;>(have h':=h;(try simp at h');first|done|simp[h,h']|simp))))
   refine ⟨(i+1,O++[v]),⟨by simp only; omega,by simpa using hD,by simp; omega⟩,?_,by simp; omega⟩
   refine sub_mk _ [(900,95,_)] ⟨by simp,by simp,by simp [renOf,Blk.live,V.c],by simp⟩ (by simp [renOf,hw])
  ·rw [hfr] at hD
   simp
   (repeat' (first|contradiction|exact .ok|apply And.intro|intro _|(refine gc (fun h=>?_) (fun h=>?_)<;>(have h':=h;(try simp at h');first|done|simp[h,h']|simp))))
   refine ⟨(i+1,O),⟨by simp only; omega,by simpa using hD,by simp only; omega⟩,?_,by simp; omega⟩
   refine sub_mk _ [(900,900,_)] ⟨by simp,by simp,by simp [renOf,Blk.live],by simp⟩ (by simp [renOf,hw])
 have hie:i=ALL.length:=by omega
 subst hie
 rw [List.drop_length,distG] at hD
 rw [← hD]
 simp [clF]
 all_goals exact gz
end Go.Proofs.Tryz
