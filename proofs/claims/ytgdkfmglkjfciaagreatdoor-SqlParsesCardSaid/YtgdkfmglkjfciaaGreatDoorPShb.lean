import Derived.Test.YtgdkfmglkjfciaaGreatDoorTy
import Derived.Lib.IndexMore
import Derived.Shelf.Strconv.Itoa3
import Derived.Test.YtgdkfmglkjfciaaGreatDoorProg
import Derived.Shelf.Small.Strs
set_option linter.all false
namespace Go.Proofs.Tryz
open Go.Ab
inductive Tm where
 | mk (o y n:Int) (t q:List UInt8) (kids:List Tm)
mutual
def Tm.c:Tm→List D
 | .mk o y n t q ks=>[.int .i64 o,.int .i64 y,.int .i64 n,.str t,.str q,.sl (tmsC ks)]
def tmsC:List Tm→List (List D)
 | []=>[]
 | e::es=>e.c::tmsC es
end
theorem tmsC_map:∀ l:List Tm,tmsC l=l.map Tm.c
 | []=>rfl
 | e::es=>by rw [tmsC,tmsC_map es]; rfl
def Tm.a (e:Tm):AV:=.agg (e.c.map AV.d)
def Tm.kids:Tm→List Tm | .mk _ _ _ _ _ ks=>ks
theorem Tm.kid_lt {e k:Tm} (h:k∈e.kids):SizeOf.sizeOf k<SizeOf.sizeOf e:=by
 cases e
 have:=List.sizeOf_lt_of_mem h
 simp only [Tm.kids] at this
 simp only [Tm.mk.sizeOf_spec]
 omega
theorem Tm.clen (e:Tm):e.c.length=6:=by cases e; rfl
theorem Tm.ctake (e:Tm):List.take 6 (e.c.map AV.d)=e.c.map AV.d:=List.take_of_length_le (by simp [Tm.clen])
theorem Tm.ctake' (e:Tm):List.take 6 e.c=e.c:=List.take_of_length_le (by simp [Tm.clen])
structure It where
 t:Tm
 n:List UInt8
def It.c (i:It):List D:=i.t.c++[.str i.n]
def It.a (e:It):AV:=.agg (e.c.map AV.d)
theorem It.clen (e:It):e.c.length=7:=by simp [It.c,Tm.clen]
theorem It.ctake (e:It):List.take 7 (e.c.map AV.d)=e.c.map AV.d:=List.take_of_length_le (by simp [It.clen])
mutual
inductive Sm where
 | mk (f:Int) (a d s:Bool) (is:List It) (ft:List UInt8) (fq:List Sm) (fn:List UInt8) (js:List Jo) (w g h:List Tm) (ks:List Sm)
inductive Jo where
 | mk (k:Int) (t:List UInt8) (q:List Sm) (n:List UInt8) (o:List Tm)
end
mutual
def Sm.c:Sm→List D
 | .mk f a d s is ft fq fn js w g h ks=>[.int .i64 f,.bool a,.bool d,.bool s,.sl (is.map It.c),.str ft,.sl (smsC fq),.str fn,.sl (josC js),.sl (w.map Tm.c),.sl (g.map Tm.c),.sl (h.map Tm.c),.sl (smsC ks)]
def Jo.c:Jo→List D
 | .mk k t q n o=>[.int .i64 k,.str t,.sl (smsC q),.str n,.sl (o.map Tm.c)]
def smsC:List Sm→List (List D)
 | []=>[]
 | e::es=>e.c::smsC es
def josC:List Jo→List (List D)
 | []=>[]
 | e::es=>e.c::josC es
end
theorem smsC_map:∀ l:List Sm,smsC l=l.map Sm.c
 | []=>rfl
 | e::es=>by rw [smsC,smsC_map es]; rfl
theorem josC_map:∀ l:List Jo,josC l=l.map Jo.c
 | []=>rfl
 | e::es=>by rw [josC,josC_map es]; rfl
def Sm.a (e:Sm):AV:=.agg (e.c.map AV.d)
def Jo.a (e:Jo):AV:=.agg (e.c.map AV.d)
theorem Sm.clen (e:Sm):e.c.length=13:=by cases e; rfl
theorem Sm.ctake (e:Sm):List.take 13 (e.c.map AV.d)=e.c.map AV.d:=List.take_of_length_le (by simp [Sm.clen])
theorem Jo.clen (e:Jo):e.c.length=5:=by cases e; rfl
theorem Jo.ctake (e:Jo):List.take 5 (e.c.map AV.d)=e.c.map AV.d:=List.take_of_length_le (by simp [Jo.clen])
def soC (t:List UInt8) (q:List Sm) (n:List UInt8):List D:=[.str t,.sl (smsC q),.str n]
def soA (t:List UInt8) (q:List Sm) (n:List UInt8):AV:=.agg ((soC t q n).map AV.d)
def Sm.kids:Sm→List Sm | .mk _ _ _ _ _ _ _ _ _ _ _ _ ks=>ks
def Sm.qs:Sm→List Sm | .mk _ _ _ _ _ _ q _ _ _ _ _ _=>q
def Sm.js:Sm→List Jo | .mk _ _ _ _ _ _ _ _ js _ _ _ _=>js
def Jo.qs:Jo→List Sm | .mk _ _ q _ _=>q
theorem Sm.kid_lt {e k:Sm} (h:k∈e.kids):SizeOf.sizeOf k<SizeOf.sizeOf e:=by
 cases e
 have:=List.sizeOf_lt_of_mem h
 simp only [Sm.kids] at this
 simp only [Sm.mk.sizeOf_spec]
 omega
theorem Sm.q_lt {e k:Sm} (h:k∈e.qs):SizeOf.sizeOf k<SizeOf.sizeOf e:=by
 cases e
 have:=List.sizeOf_lt_of_mem h
 simp only [Sm.qs] at this
 simp only [Sm.mk.sizeOf_spec]
 omega
theorem Sm.j_lt {e:Sm} {j:Jo} (h:j∈e.js):SizeOf.sizeOf j<SizeOf.sizeOf e:=by
 cases e
 have:=List.sizeOf_lt_of_mem h
 simp only [Sm.js] at this
 simp only [Sm.mk.sizeOf_spec]
 omega
theorem Jo.q_lt {j:Jo} {k:Sm} (h:k∈j.qs):SizeOf.sizeOf k<SizeOf.sizeOf j:=by
 cases j
 have:=List.sizeOf_lt_of_mem h
 simp only [Jo.qs] at this
 simp only [Jo.mk.sizeOf_spec]
 omega
def agree {α:Type} (f:α→α→Bool):List α→List α→Bool
 | [],[]=>true
 | x::xs,y::ys=>f x y&&agree f xs ys
 | [],_::_=>false
 | _::_,[]=>false
theorem agree_len {α:Type} {f:α→α→Bool}:∀ (a b:List α),a.length ≠ b.length→agree f a b=false
 | [],[],h=>absurd rfl h
 | [],_::_,_=>rfl
 | _::_,[],_=>rfl
 | e::es,f'::fs,h=>by rw [agree,agree_len es fs (by simpa using h)]; simp
theorem agree_drop {α:Type} {f:α→α→Bool} {a b:List α} {i:Nat} {x y:α} (h1:a[i]?=some x) (h2:b[i]?=some y):agree f (a.drop i) (b.drop i)=(f x y&&agree f (a.drop (i+1)) (b.drop (i+1))):=by
 obtain ⟨hi,rfl⟩:=List.getElem?_eq_some_iff.1 h1
 obtain ⟨hj,rfl⟩:=List.getElem?_eq_some_iff.1 h2
 rw [List.drop_eq_getElem_cons hi,List.drop_eq_getElem_cons hj,agree]
theorem agree_end {α:Type} {f:α→α→Bool} {a b:List α} {i:Nat} (h1:a.length≤i) (h2:b.length≤i):agree f (a.drop i) (b.drop i)=true:=by
 rw [List.drop_eq_nil_of_le h1,List.drop_eq_nil_of_le h2,agree]
theorem agree_self {α:Type} {f:α→α→Bool}:∀ (l:List α),(∀ x∈l,f x x=true)→agree f l l=true
 | [],_=>rfl
 | x::xs,h=>by rw [agree,h x List.mem_cons_self,agree_self xs fun y hy=>h y (List.mem_cons_of_mem _ hy)]; rfl
mutual
def Tm.eq:Tm→Tm→Bool
 | .mk o y n t q ks,.mk o' y' n' t' q' ks'=>o==o'&&(y==y'&&(n==n'&&(t==t'&&(q==q'&&tmsEq ks ks'))))
def tmsEq:List Tm→List Tm→Bool
 | [],[]=>true
 | e::es,f::fs=>e.eq f&&tmsEq es fs
 | [],_::_=>false
 | _::_,[]=>false
end
theorem tmsEq_agree:∀ a b:List Tm,tmsEq a b=agree Tm.eq a b
 | [],[]=>by rw [tmsEq,agree]
 | e::es,f::fs=>by rw [tmsEq,agree,tmsEq_agree es fs]
 | [],_::_=>by rw [tmsEq,agree]
 | _::_,[]=>by rw [tmsEq,agree]
def It.eq (a b:It):Bool:=a.n==b.n&&a.t.eq b.t
mutual
def Sm.eq:Sm→Sm→Bool
 | .mk f a d s is ft fq fn js w g h ks,.mk f' a' d' s' is' ft' fq' fn' js' w' g' h' ks'=>f==f'&&(a==a'&&(d==d'&&(s==s'&&((ft==ft'&&(fn==fn'&&smsEq fq fq'))&&(agree It.eq is is'&&(josEq js js'&&(agree Tm.eq w w'&&(agree Tm.eq g g'&&(agree Tm.eq h h'&&smsEq ks ks')))))))))
def Jo.eq:Jo→Jo→Bool
 | .mk k t q n o,.mk k' t' q' n' o'=>k==k'&&((t==t'&&(n==n'&&smsEq q q'))&&agree Tm.eq o o')
def smsEq:List Sm→List Sm→Bool
 | [],[]=>true
 | e::es,f::fs=>e.eq f&&smsEq es fs
 | [],_::_=>false
 | _::_,[]=>false
def josEq:List Jo→List Jo→Bool
 | [],[]=>true
 | e::es,f::fs=>e.eq f&&josEq es fs
 | [],_::_=>false
 | _::_,[]=>false
end
theorem smsEq_agree:∀ a b:List Sm,smsEq a b=agree Sm.eq a b
 | [],[]=>by rw [smsEq,agree]
 | e::es,f::fs=>by rw [smsEq,agree,smsEq_agree es fs]
 | [],_::_=>by rw [smsEq,agree]
 | _::_,[]=>by rw [smsEq,agree]
theorem josEq_agree:∀ a b:List Jo,josEq a b=agree Jo.eq a b
 | [],[]=>by rw [josEq,agree]
 | e::es,f::fs=>by rw [josEq,agree,josEq_agree es fs]
 | [],_::_=>by rw [josEq,agree]
 | _::_,[]=>by rw [josEq,agree]
def soEq (t:List UInt8) (q:List Sm) (n:List UInt8) (t':List UInt8) (q':List Sm) (n':List UInt8):Bool:=t==t'&&(n==n'&&smsEq q q')
mutual
theorem Tm.eq_self:∀ e:Tm,e.eq e=true
 | .mk o y n t q ks=>by rw [Tm.eq,tmsEq_self ks]; simp
theorem tmsEq_self:∀ l:List Tm,tmsEq l l=true
 | []=>by rw [tmsEq]
 | e::es=>by rw [tmsEq,e.eq_self,tmsEq_self es]; rfl
end
mutual
theorem Sm.eq_self:∀ e:Sm,e.eq e=true
 | .mk f a d s is ft fq fn js w g h ks=>by
   rw [Sm.eq,smsEq_self fq,smsEq_self ks,josEq_self js,agree_self is fun x _=>by rw [It.eq,Tm.eq_self]; simp,agree_self w fun x _=>x.eq_self,agree_self g fun x _=>x.eq_self,agree_self h fun x _=>x.eq_self]
   simp
theorem Jo.eq_self:∀ e:Jo,e.eq e=true
 | .mk k t q n o=>by rw [Jo.eq,smsEq_self q,agree_self o fun x _=>x.eq_self]; simp
theorem smsEq_self:∀ l:List Sm,smsEq l l=true
 | []=>by rw [smsEq]
 | e::es=>by rw [smsEq,e.eq_self,smsEq_self es]; rfl
theorem josEq_self:∀ l:List Jo,josEq l l=true
 | []=>by rw [josEq]
 | e::es=>by rw [josEq,e.eq_self,josEq_self es]; rfl
end
def up1 (n:Int):Int:=IntKind.i64.wrap (n+1)
def mx (a b:Int):Int:=if b>a then b else a
mutual
def Tm.dep:Tm→Int
 | .mk _ _ _ _ _ ks=>up1 (tmsDep ks)
def tmsDep:List Tm→Int
 | []=>0
 | e::es=>max e.dep (tmsDep es)
end
def itsDep (l:List It):Int:=tmsDep (l.map It.t)
mutual
def Sm.dep:Sm→Int
 | .mk _ _ _ _ is _ fq _ js w g h ks=>up1 (max (smsDep ks) (max (smsDep fq) (max (tmsDep w) (max (tmsDep g) (max (tmsDep h) (max (itsDep is) (josDep js)))))))
def josDep:List Jo→Int
 | []=>0
 | e::es=>max (e.dep) (josDep es)
def Jo.dep:Jo→Int
 | .mk _ _ q _ o=>max (smsDep q) (tmsDep o)
def smsDep:List Sm→Int
 | []=>0
 | e::es=>max e.dep (smsDep es)
end
def most:List Int→Int
 | []=>0
 | x::xs=>max x (most xs)
theorem tmsDep_most:∀ l:List Tm,tmsDep l=most (l.map Tm.dep)
 | []=>by rw [tmsDep]; rfl
 | e::es=>by rw [tmsDep,tmsDep_most es]; rfl
theorem smsDep_most:∀ l:List Sm,smsDep l=most (l.map Sm.dep)
 | []=>by rw [smsDep]; rfl
 | e::es=>by rw [smsDep,smsDep_most es]; rfl
theorem josDep_most:∀ l:List Jo,josDep l=most (l.map Jo.dep)
 | []=>by rw [josDep]; rfl
 | e::es=>by rw [josDep,josDep_most es]; rfl
theorem most_nonneg:∀ l:List Int,0≤most l
 | []=>by simp [most]
 | x::xs=>by have:=most_nonneg xs; rw [most]; omega
theorem most_append:∀ a b:List Int,most (a++b)=max (most a) (most b)
 | [],b=>by have:=most_nonneg b; simp only [List.nil_append,most]; omega
 | x::xs,b=>by rw [List.cons_append,most,most_append xs b,most]; omega
theorem most_take {l:List Int} {i:Nat} {x:Int} (h:l[i]?=some x):most (l.take (i+1))=max (most (l.take i)) x:=by
 rw [List.take_add_one,h,most_append]
 simp only [Option.toList_some,most]
 have:=most_nonneg (l.take i)
 omega
def spaced:List (List UInt8)→List UInt8
 | []=>[32]
 | w::ws=>32::(w++spaced ws)
def within (sub:List UInt8):List UInt8→Bool
 | []=>sub.isEmpty
 | b::l=>sub.isPrefixOf (b::l)||within sub l
theorem within_index (sub:List UInt8):∀ l:List UInt8,decide (0≤Lib.index l sub)=within sub l
 | []=>by unfold Lib.index within; cases sub <;> simp
 | b::l=>by
   have ih:=within_index sub l
   have hge:=Lib.index_ge l sub
   unfold Lib.index within
   cases h:sub.isPrefixOf (b::l) with
   | true=>simp
   | false =>
     rw [← ih]
     simp only [Bool.false_or,Bool.false_eq_true,if_false]
     by_cases h1:Lib.index l sub=-1
     ·simp [h1]
     ·have:(Lib.index l sub==-1)=false:=by simpa using h1
      rw [this]
      simp
      omega
def plainW (w:List UInt8):Bool:=w.all (· != 32)
theorem within_skip (s:List UInt8):∀ (w l:List UInt8),plainW w=true→within (32::(s++[32])) (w++l)=within (32::(s++[32])) l
 | [],l,_=>rfl
 | b::w,l,h=>by
   simp only [plainW,List.all_cons,Bool.and_eq_true,bne_iff_ne,ne_eq] at h
   have h2:plainW w=true:=h.2
   rw [List.cons_append,within,within_skip s w l h2]
   have:((32:UInt8)==b)=false:=by simpa using fun e=>h.1 e.symm
   simp [List.isPrefixOf,this]
theorem spaced_head (ws:List (List UInt8)):∃ l,spaced ws=32::l:=by cases ws <;> exact ⟨_,rfl⟩
theorem prefix_word:∀ (s w l:List UInt8),plainW s=true→plainW w=true→(s++[32]).isPrefixOf (w++32::l)=(s==w)
 | [],[],l,_,_=>by simp [List.isPrefixOf]
 | [],b::w,l,_,h=>by
   simp only [plainW,List.all_cons,Bool.and_eq_true,bne_iff_ne,ne_eq] at h
   have:((32:UInt8)==b)=false:=by simpa using fun e=>h.1 e.symm
   simp [List.isPrefixOf,this]
 | a::s,[],l,h,_=>by
   simp only [plainW,List.all_cons,Bool.and_eq_true,bne_iff_ne,ne_eq] at h
   have:(a==(32:UInt8))=false:=by simpa using h.1
   simp [List.isPrefixOf,this]
 | a::s,b::w,l,h1,h2=>by
   simp only [plainW,List.all_cons,Bool.and_eq_true] at h1 h2
   have ih:=prefix_word s w l h1.2 h2.2
   simp only [List.cons_append,List.isPrefixOf]
   rw [ih]
   rfl
theorem within_spaced (s:List UInt8) (hs:plainW s=true):∀ ws:List (List UInt8),ws.all plainW=true→within (32::(s++[32])) (spaced ws)=ws.contains s
 | [],_=>by cases s <;> simp [spaced,within,List.isPrefixOf]
 | w::ws,h=>by
   simp only [List.all_cons,Bool.and_eq_true] at h
   rw [spaced,within,within_skip s w _ h.1,within_spaced s hs ws h.2]
   obtain ⟨l,hl⟩:=spaced_head ws
   simp only [List.isPrefixOf,BEq.rfl,Bool.true_and]
   rw [hl,prefix_word s w l hs h.1,Bool.eq_iff_iff]
   simp
def lowr (c:UInt8):Bool:=decide (97≤c.toNat)&&decide (c.toNat≤122)
def nameB (c:UInt8):Bool:=lowr c||(decide (48≤c.toNat)&&decide (c.toNat≤57)||c.toNat==95)
theorem nameB_plain {c:UInt8} (h:nameB c=true):(c != 32)=true:=by
 have:c ≠ 32:=by rintro rfl; revert h; decide
 simpa using this
theorem plain_of_name {s:List UInt8} (h:s.all nameB=true):plainW s=true:=by
 rw [List.all_eq_true] at h
 exact List.all_eq_true.2 fun x hx=>nameB_plain (h x hx)
def headLow:List UInt8→Bool
 | []=>false
 | c::_=>lowr c
def nameOk (ws:List (List UInt8)) (s:List UInt8):Bool:=decide (s.length≤16)&&(headLow s&&(s.all nameB&&!ws.contains s))
end Go.Proofs.Tryz
namespace Go.Proofs
open Go.Shelf
def Tryz.laysM246_ren:Go.Shelf.Ren:=⟨fun | 246=>96 | 283=>110 | 284=>111 | 285=>112 | 286=>113 | 129=>125 | 317=>124 | 318=>126 | 319=>127 | 320=>128 | 337=>135 | 338=>136 | n=>n,fun | 2=>2 | 3=>3 | 9=>9 | 4=>4 | 171=>134 | 0=>0 | 53=>123 | 37=>137 | 5=>5 | 173=>138 | 212=>147 | 51=>148 | 20=>20 | 213=>149 | 46=>126 | 232=>159 | 233=>160 | n=>n,fun | 17=>4 | 18=>5 | 19=>6 | n=>n⟩
theorem Tryz.laysM246:Go.Proofs.LaysM.n246 Tryz.prog Tryz.laysM246_ren:={
 mixed:=by kernel_rfl
 f129:=Tryz.func125.trans (congrArg some (by kernel_rfl))
 f246:=Tryz.func96.trans (congrArg some (by kernel_rfl))
 f283:=Tryz.func110.trans (congrArg some (by kernel_rfl))
 f284:=Tryz.func111.trans (congrArg some (by kernel_rfl))
 f285:=Tryz.func112.trans (congrArg some (by kernel_rfl))
 f286:=Tryz.func113.trans (congrArg some (by kernel_rfl))
 f317:=Tryz.func124.trans (congrArg some (by kernel_rfl))
 f318:=Tryz.func126.trans (congrArg some (by kernel_rfl))
 f319:=Tryz.func127.trans (congrArg some (by kernel_rfl))
 f320:=Tryz.func128.trans (congrArg some (by kernel_rfl))
 f337:=Tryz.func135.trans (congrArg some (by kernel_rfl))
 f338:=Tryz.func136.trans (congrArg some (by kernel_rfl))
 t0:=Tryz.underlying0
 a0:=Tryz.isAgg0
 z0:=Tryz.sizeOf0
 v0:=Tryz.zeroValue0
 t2:=Tryz.underlying2
 a2:=Tryz.isAgg2
 z2:=Tryz.sizeOf2
 v2:=Tryz.zeroValue2
 t3:=Tryz.underlying3
 a3:=Tryz.isAgg3
 z3:=Tryz.sizeOf3
 v3:=Tryz.zeroValue3
 t4:=Tryz.underlying4
 a4:=Tryz.isAgg4
 z4:=Tryz.sizeOf4
 v4:=Tryz.zeroValue4
 t5:=Tryz.underlying5
 a5:=Tryz.isAgg5
 z5:=Tryz.sizeOf5
 v5:=Tryz.zeroValue5
 t9:=Tryz.underlying9
 a9:=Tryz.isAgg9
 z9:=Tryz.sizeOf9
 v9:=Tryz.zeroValue9
 t20:=Tryz.underlying20
 a20:=Tryz.isAgg20
 z20:=Tryz.sizeOf20
 v20:=Tryz.zeroValue20
 t37:=Tryz.underlying137
 a37:=Tryz.isAgg137
 z37:=Tryz.sizeOf137
 v37:=Tryz.zeroValue137
 t46:=Tryz.underlying126
 a46:=Tryz.isAgg126
 z46:=Tryz.sizeOf126
 v46:=Tryz.zeroValue126
 t51:=Tryz.underlying148
 a51:=Tryz.isAgg148
 z51:=Tryz.sizeOf148
 v51:=Tryz.zeroValue148
 t53:=Tryz.underlying123
 a53:=Tryz.isAgg123
 z53:=Tryz.sizeOf123
 v53:=Tryz.zeroValue123
 t171:=Tryz.underlying134
 a171:=Tryz.isAgg134
 z171:=Tryz.sizeOf134
 v171:=Tryz.zeroValue134
 t173:=Tryz.underlying138
 a173:=Tryz.isAgg138
 z173:=Tryz.sizeOf138
 v173:=Tryz.zeroValue138
 t212:=Tryz.underlying147
 a212:=Tryz.isAgg147
 z212:=Tryz.sizeOf147
 v212:=Tryz.zeroValue147
 t213:=Tryz.underlying149
 a213:=Tryz.isAgg149
 z213:=Tryz.sizeOf149
 t232:=Tryz.underlying159
 a232:=Tryz.isAgg159
 z232:=Tryz.sizeOf159
 v232:=Tryz.zeroValue159
 t233:=Tryz.underlying160
 a233:=Tryz.isAgg160
 z233:=Tryz.sizeOf160
 v233:=Tryz.zeroValue160
 g17:=by kernel_rfl
 g18:=by kernel_rfl
 g19:=by kernel_rfl
 i0:=by kernel_rfl
 i2:=by kernel_rfl
 i3:=by kernel_rfl
 i4:=by kernel_rfl
 i5:=by kernel_rfl
 i9:=by kernel_rfl
 i20:=by kernel_rfl
 i37:=by kernel_rfl
 i46:=by kernel_rfl
 i51:=by kernel_rfl
 i53:=by kernel_rfl
 i171:=by kernel_rfl
 i173:=by kernel_rfl
 i212:=by kernel_rfl
 i232:=by kernel_rfl
 i233:=by kernel_rfl
 m17:=by kernel_rfl
 m18:=by kernel_rfl
 m19:=by kernel_rfl }
open Go.RowKit Go.Sort Go.Lib in
theorem Tryz.internal_strconv_FormatInt_10 (n : Int) (h0 : -9223372036854775808 ≤ n) (h1 : n ≤ 9223372036854775807) (w : World) (htab : Lib.TabIs Tryz.prog w "internal/strconv.uint64pow10" .u64 Lib.pow10Tab) :
  Calls Tryz.prog 96 #[.int .i64 n,.int .i64 10] w fun e w'=>e=.returned (.string ⟨(Lib.itoa n).toArray⟩)∧∃ k os,w'=grow (w.drewN k) os:=Any.internal_strconv_FormatInt_10 Tryz.laysM246 n h0 h1 w htab
def Tryz.lays137_ren:Go.Shelf.Ren:=⟨fun | 137=>60 | 217=>77 | 266=>91 | n=>n,fun | 9=>9 | 5=>5 | 3=>3 | n=>n,fun | n=>n⟩
theorem Tryz.lays137:Go.Proofs.Lays.n137 Tryz.prog Tryz.lays137_ren:={
 mixed:=by kernel_rfl
 f137:=Tryz.func60.trans (congrArg some (by kernel_rfl))
 f217:=Tryz.func77.trans (congrArg some (by kernel_rfl))
 f266:=Tryz.func91.trans (congrArg some (by kernel_rfl))
 t3:=Tryz.underlying3
 a3:=Tryz.isAgg3
 z3:=Tryz.sizeOf3
 v3:=Tryz.zeroValue3
 t5:=Tryz.underlying5
 a5:=Tryz.isAgg5
 z5:=Tryz.sizeOf5
 v5:=Tryz.zeroValue5
 t9:=Tryz.underlying9
 a9:=Tryz.isAgg9
 z9:=Tryz.sizeOf9
 v9:=Tryz.zeroValue9 }
open Go.RowKit in
theorem Tryz.strings_IndexByte (s:ByteArray) (c:Int) (w:World) :
  Calls Tryz.prog 60 #[.string s,.int .u8 c] w fun e w'=>e=.returned (.int .i64 (Lib.indexByte s.data.toList c.toNat.toUInt8))∧w'=w:=Any.strings_IndexByte Tryz.lays137 s c w
end Go.Proofs
