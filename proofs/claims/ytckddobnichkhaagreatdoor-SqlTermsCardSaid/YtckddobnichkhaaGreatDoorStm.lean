/- Terms and statements of the query language: their cells, when two are equal, how deep they are. -/
import Derived.Test.YtckddobnichkhaaGreatDoorTy
set_option linter.all false
namespace Go.Proofs.Tryz
open Go.Ab
inductive Tm where
 | mk (o y n:Int) (t q:List UInt8) (kids:List Tm)
mutual
def Tm.c:Tm→List D
 | .mk o y n t q ks=>[.int .i64 o,.int .i64 y,.int .i64 n,.str t,.str q,.sl (tmsC ks)]
def tmsC:List Tm→List (List D)
 | []=>[]
 | e::es=>e.c::tmsC es
end
theorem tmsC_map:∀ l:List Tm,tmsC l=l.map Tm.c
 | []=>rfl
 | e::es=>by rw [tmsC,tmsC_map es]; rfl
def Tm.a (e:Tm):AV:=.agg (e.c.map AV.d)
def Tm.kids:Tm→List Tm | .mk _ _ _ _ _ ks=>ks
theorem Tm.kid_lt {e k:Tm} (h:k∈e.kids):SizeOf.sizeOf k<SizeOf.sizeOf e:=by
 cases e
 have:=List.sizeOf_lt_of_mem h
 simp only [Tm.kids] at this
 simp only [Tm.mk.sizeOf_spec]
 omega
theorem Tm.clen (e:Tm):e.c.length=6:=by cases e; rfl
theorem Tm.ctake (e:Tm):List.take 6 (e.c.map AV.d)=e.c.map AV.d:=List.take_of_length_le (by simp [Tm.clen])
theorem Tm.ctake' (e:Tm):List.take 6 e.c=e.c:=List.take_of_length_le (by simp [Tm.clen])
/-- A column of a result: a term and its name. -/
structure It where
 t:Tm
 n:List UInt8
def It.c (i:It):List D:=i.t.c++[.str i.n]
def It.a (e:It):AV:=.agg (e.c.map AV.d)
theorem It.clen (e:It):e.c.length=7:=by simp [It.c,Tm.clen]
theorem It.ctake (e:It):List.take 7 (e.c.map AV.d)=e.c.map AV.d:=List.take_of_length_le (by simp [It.clen])
mutual
inductive Sm where
 | mk (f:Int) (a d s:Bool) (is:List It) (ft:List UInt8) (fq:List Sm) (fn:List UInt8) (js:List Jo) (w g h:List Tm) (ks:List Sm)
inductive Jo where
 | mk (k:Int) (t:List UInt8) (q:List Sm) (n:List UInt8) (o:List Tm)
end
mutual
def Sm.c:Sm→List D
 | .mk f a d s is ft fq fn js w g h ks=>[.int .i64 f,.bool a,.bool d,.bool s,.sl (is.map It.c),.str ft,.sl (smsC fq),.str fn,.sl (josC js),.sl (w.map Tm.c),.sl (g.map Tm.c),.sl (h.map Tm.c),.sl (smsC ks)]
def Jo.c:Jo→List D
 | .mk k t q n o=>[.int .i64 k,.str t,.sl (smsC q),.str n,.sl (o.map Tm.c)]
def smsC:List Sm→List (List D)
 | []=>[]
 | e::es=>e.c::smsC es
def josC:List Jo→List (List D)
 | []=>[]
 | e::es=>e.c::josC es
end
theorem smsC_map:∀ l:List Sm,smsC l=l.map Sm.c
 | []=>rfl
 | e::es=>by rw [smsC,smsC_map es]; rfl
theorem josC_map:∀ l:List Jo,josC l=l.map Jo.c
 | []=>rfl
 | e::es=>by rw [josC,josC_map es]; rfl
def Sm.a (e:Sm):AV:=.agg (e.c.map AV.d)
def Jo.a (e:Jo):AV:=.agg (e.c.map AV.d)
theorem Sm.clen (e:Sm):e.c.length=13:=by cases e; rfl
theorem Sm.ctake (e:Sm):List.take 13 (e.c.map AV.d)=e.c.map AV.d:=List.take_of_length_le (by simp [Sm.clen])
theorem Jo.clen (e:Jo):e.c.length=5:=by cases e; rfl
theorem Jo.ctake (e:Jo):List.take 5 (e.c.map AV.d)=e.c.map AV.d:=List.take_of_length_le (by simp [Jo.clen])
/-- A source: a table or a query, and its name. -/
def soC (t:List UInt8) (q:List Sm) (n:List UInt8):List D:=[.str t,.sl (smsC q),.str n]
def soA (t:List UInt8) (q:List Sm) (n:List UInt8):AV:=.agg ((soC t q n).map AV.d)
def Sm.kids:Sm→List Sm | .mk _ _ _ _ _ _ _ _ _ _ _ _ ks=>ks
def Sm.qs:Sm→List Sm | .mk _ _ _ _ _ _ q _ _ _ _ _ _=>q
def Sm.js:Sm→List Jo | .mk _ _ _ _ _ _ _ _ js _ _ _ _=>js
def Jo.qs:Jo→List Sm | .mk _ _ q _ _=>q
theorem Sm.kid_lt {e k:Sm} (h:k∈e.kids):SizeOf.sizeOf k<SizeOf.sizeOf e:=by
 cases e
 have:=List.sizeOf_lt_of_mem h
 simp only [Sm.kids] at this
 simp only [Sm.mk.sizeOf_spec]
 omega
theorem Sm.q_lt {e k:Sm} (h:k∈e.qs):SizeOf.sizeOf k<SizeOf.sizeOf e:=by
 cases e
 have:=List.sizeOf_lt_of_mem h
 simp only [Sm.qs] at this
 simp only [Sm.mk.sizeOf_spec]
 omega
theorem Sm.j_lt {e:Sm} {j:Jo} (h:j∈e.js):SizeOf.sizeOf j<SizeOf.sizeOf e:=by
 cases e
 have:=List.sizeOf_lt_of_mem h
 simp only [Sm.js] at this
 simp only [Sm.mk.sizeOf_spec]
 omega
theorem Jo.q_lt {j:Jo} {k:Sm} (h:k∈j.qs):SizeOf.sizeOf k<SizeOf.sizeOf j:=by
 cases j
 have:=List.sizeOf_lt_of_mem h
 simp only [Jo.qs] at this
 simp only [Jo.mk.sizeOf_spec]
 omega
/-! Two lists that agree, element by element. -/
def agree {α:Type} (f:α→α→Bool):List α→List α→Bool
 | [],[]=>true
 | x::xs,y::ys=>f x y&&agree f xs ys
 | [],_::_=>false
 | _::_,[]=>false
theorem agree_len {α:Type} {f:α→α→Bool}:∀ (a b:List α),a.length ≠ b.length→agree f a b=false
 | [],[],h=>absurd rfl h
 | [],_::_,_=>rfl
 | _::_,[],_=>rfl
 | e::es,f'::fs,h=>by rw [agree,agree_len es fs (by simpa using h)]; simp
theorem agree_drop {α:Type} {f:α→α→Bool} {a b:List α} {i:Nat} {x y:α} (h1:a[i]?=some x) (h2:b[i]?=some y):agree f (a.drop i) (b.drop i)=(f x y&&agree f (a.drop (i+1)) (b.drop (i+1))):=by
 obtain ⟨hi,rfl⟩:=List.getElem?_eq_some_iff.1 h1
 obtain ⟨hj,rfl⟩:=List.getElem?_eq_some_iff.1 h2
 rw [List.drop_eq_getElem_cons hi,List.drop_eq_getElem_cons hj,agree]
theorem agree_end {α:Type} {f:α→α→Bool} {a b:List α} {i:Nat} (h1:a.length≤i) (h2:b.length≤i):agree f (a.drop i) (b.drop i)=true:=by
 rw [List.drop_eq_nil_of_le h1,List.drop_eq_nil_of_le h2,agree]
theorem agree_self {α:Type} {f:α→α→Bool}:∀ (l:List α),(∀ x∈l,f x x=true)→agree f l l=true
 | [],_=>rfl
 | x::xs,h=>by rw [agree,h x List.mem_cons_self,agree_self xs fun y hy=>h y (List.mem_cons_of_mem _ hy)]; rfl
mutual
def Tm.eq:Tm→Tm→Bool
 | .mk o y n t q ks,.mk o' y' n' t' q' ks'=>o==o'&&(y==y'&&(n==n'&&(t==t'&&(q==q'&&tmsEq ks ks'))))
def tmsEq:List Tm→List Tm→Bool
 | [],[]=>true
 | e::es,f::fs=>e.eq f&&tmsEq es fs
 | [],_::_=>false
 | _::_,[]=>false
end
theorem tmsEq_agree:∀ a b:List Tm,tmsEq a b=agree Tm.eq a b
 | [],[]=>by rw [tmsEq,agree]
 | e::es,f::fs=>by rw [tmsEq,agree,tmsEq_agree es fs]
 | [],_::_=>by rw [tmsEq,agree]
 | _::_,[]=>by rw [tmsEq,agree]
def It.eq (a b:It):Bool:=a.n==b.n&&a.t.eq b.t
mutual
def Sm.eq:Sm→Sm→Bool
 | .mk f a d s is ft fq fn js w g h ks,.mk f' a' d' s' is' ft' fq' fn' js' w' g' h' ks'=>f==f'&&(a==a'&&(d==d'&&(s==s'&&((ft==ft'&&(fn==fn'&&smsEq fq fq'))&&(agree It.eq is is'&&(josEq js js'&&(agree Tm.eq w w'&&(agree Tm.eq g g'&&(agree Tm.eq h h'&&smsEq ks ks')))))))))
def Jo.eq:Jo→Jo→Bool
 | .mk k t q n o,.mk k' t' q' n' o'=>k==k'&&((t==t'&&(n==n'&&smsEq q q'))&&agree Tm.eq o o')
def smsEq:List Sm→List Sm→Bool
 | [],[]=>true
 | e::es,f::fs=>e.eq f&&smsEq es fs
 | [],_::_=>false
 | _::_,[]=>false
def josEq:List Jo→List Jo→Bool
 | [],[]=>true
 | e::es,f::fs=>e.eq f&&josEq es fs
 | [],_::_=>false
 | _::_,[]=>false
end
theorem smsEq_agree:∀ a b:List Sm,smsEq a b=agree Sm.eq a b
 | [],[]=>by rw [smsEq,agree]
 | e::es,f::fs=>by rw [smsEq,agree,smsEq_agree es fs]
 | [],_::_=>by rw [smsEq,agree]
 | _::_,[]=>by rw [smsEq,agree]
theorem josEq_agree:∀ a b:List Jo,josEq a b=agree Jo.eq a b
 | [],[]=>by rw [josEq,agree]
 | e::es,f::fs=>by rw [josEq,agree,josEq_agree es fs]
 | [],_::_=>by rw [josEq,agree]
 | _::_,[]=>by rw [josEq,agree]
def soEq (t:List UInt8) (q:List Sm) (n:List UInt8) (t':List UInt8) (q':List Sm) (n':List UInt8):Bool:=t==t'&&(n==n'&&smsEq q q')
mutual
theorem Tm.eq_self:∀ e:Tm,e.eq e=true
 | .mk o y n t q ks=>by rw [Tm.eq,tmsEq_self ks]; simp
theorem tmsEq_self:∀ l:List Tm,tmsEq l l=true
 | []=>by rw [tmsEq]
 | e::es=>by rw [tmsEq,e.eq_self,tmsEq_self es]; rfl
end
mutual
theorem Sm.eq_self:∀ e:Sm,e.eq e=true
 | .mk f a d s is ft fq fn js w g h ks=>by
   rw [Sm.eq,smsEq_self fq,smsEq_self ks,josEq_self js,agree_self is fun x _=>by rw [It.eq,Tm.eq_self]; simp,agree_self w fun x _=>x.eq_self,agree_self g fun x _=>x.eq_self,agree_self h fun x _=>x.eq_self]
   simp
theorem Jo.eq_self:∀ e:Jo,e.eq e=true
 | .mk k t q n o=>by rw [Jo.eq,smsEq_self q,agree_self o fun x _=>x.eq_self]; simp
theorem smsEq_self:∀ l:List Sm,smsEq l l=true
 | []=>by rw [smsEq]
 | e::es=>by rw [smsEq,e.eq_self,smsEq_self es]; rfl
theorem josEq_self:∀ l:List Jo,josEq l l=true
 | []=>by rw [josEq]
 | e::es=>by rw [josEq,e.eq_self,josEq_self es]; rfl
end
/-! Depths. -/
def up1 (n:Int):Int:=IntKind.i64.wrap (n+1)
def mx (a b:Int):Int:=if b>a then b else a
theorem mx_eq (a b:Int):mx a b=max a b:=by unfold mx; split <;> omega
mutual
def Tm.dep:Tm→Int
 | .mk _ _ _ _ _ ks=>up1 (tmsDep ks)
def tmsDep:List Tm→Int
 | []=>0
 | e::es=>max e.dep (tmsDep es)
end
def itsDep (l:List It):Int:=tmsDep (l.map It.t)
mutual
def Sm.dep:Sm→Int
 | .mk _ _ _ _ is _ fq _ js w g h ks=>up1 (max (smsDep ks) (max (smsDep fq) (max (tmsDep w) (max (tmsDep g) (max (tmsDep h) (max (itsDep is) (josDep js)))))))
def josDep:List Jo→Int
 | []=>0
 | e::es=>max (e.dep) (josDep es)
def Jo.dep:Jo→Int
 | .mk _ _ q _ o=>max (smsDep q) (tmsDep o)
def smsDep:List Sm→Int
 | []=>0
 | e::es=>max e.dep (smsDep es)
end
/-- The greatest of some numbers, and 0. -/
def most:List Int→Int
 | []=>0
 | x::xs=>max x (most xs)
theorem tmsDep_most:∀ l:List Tm,tmsDep l=most (l.map Tm.dep)
 | []=>by rw [tmsDep]; rfl
 | e::es=>by rw [tmsDep,tmsDep_most es]; rfl
theorem smsDep_most:∀ l:List Sm,smsDep l=most (l.map Sm.dep)
 | []=>by rw [smsDep]; rfl
 | e::es=>by rw [smsDep,smsDep_most es]; rfl
theorem josDep_most:∀ l:List Jo,josDep l=most (l.map Jo.dep)
 | []=>by rw [josDep]; rfl
 | e::es=>by rw [josDep,josDep_most es]; rfl
theorem most_nonneg:∀ l:List Int,0≤most l
 | []=>by simp [most]
 | x::xs=>by have:=most_nonneg xs; rw [most]; omega
theorem most_append:∀ a b:List Int,most (a++b)=max (most a) (most b)
 | [],b=>by have:=most_nonneg b; simp only [List.nil_append,most]; omega
 | x::xs,b=>by rw [List.cons_append,most,most_append xs b,most]; omega
theorem most_take {l:List Int} {i:Nat} {x:Int} (h:l[i]?=some x):most (l.take (i+1))=max (most (l.take i)) x:=by
 rw [List.take_add_one,h,most_append]
 simp only [Option.toList_some,most]
 have:=most_nonneg (l.take i)
 omega
end Go.Proofs.Tryz
