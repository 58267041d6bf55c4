import Derived.Test.YthpmjipkofbeiaaGreatDoorTTxt
import Derived.Lib.IndexMore
import Derived.Shelf.Strings.OnBuilder
import Derived.Test.YthpmjipkofbeiaaGreatDoorProg
import Derived.Shelf.Strings.Search3
set_option linter.all false
namespace Go.Proofs.Tryz
open Go.Ab
inductive Tm where
 | mk (o y n:Int) (t q:List UInt8) (kids:List Tm)
mutual
def Tm.c:Tm→List D
 | .mk o y n t q ks=>[.int .i64 o,.int .i64 y,.int .i64 n,.str t,.str q,.sl (tmsC ks)]
def tmsC:List Tm→List (List D)
 | []=>[]
 | e::es=>e.c::tmsC es
end
theorem tmsC_map:∀ l:List Tm,tmsC l=l.map Tm.c
 | []=>rfl
 | e::es=>by rw [tmsC,tmsC_map es]; rfl
def Tm.a (e:Tm):AV:=.agg (e.c.map AV.d)
def Tm.kids:Tm→List Tm | .mk _ _ _ _ _ ks=>ks
theorem Tm.kid_lt {e k:Tm} (h:k∈e.kids):SizeOf.sizeOf k<SizeOf.sizeOf e:=by
 cases e
 have:=List.sizeOf_lt_of_mem h
 simp only [Tm.kids] at this
 simp only [Tm.mk.sizeOf_spec]
 omega
theorem Tm.clen (e:Tm):e.c.length=6:=by cases e; rfl
theorem Tm.ctake (e:Tm):List.take 6 (e.c.map AV.d)=e.c.map AV.d:=List.take_of_length_le (by simp [Tm.clen])
theorem Tm.ctake' (e:Tm):List.take 6 e.c=e.c:=List.take_of_length_le (by simp [Tm.clen])
structure It where
 t:Tm
 n:List UInt8
def It.c (i:It):List D:=i.t.c++[.str i.n]
def It.a (e:It):AV:=.agg (e.c.map AV.d)
theorem It.clen (e:It):e.c.length=7:=by simp [It.c,Tm.clen]
theorem It.ctake (e:It):List.take 7 (e.c.map AV.d)=e.c.map AV.d:=List.take_of_length_le (by simp [It.clen])
mutual
inductive Sm where
 | mk (f:Int) (a d s:Bool) (is:List It) (ft:List UInt8) (fq:List Sm) (fn:List UInt8) (js:List Jo) (w g h:List Tm) (ks:List Sm)
inductive Jo where
 | mk (k:Int) (t:List UInt8) (q:List Sm) (n:List UInt8) (o:List Tm)
end
mutual
def Sm.c:Sm→List D
 | .mk f a d s is ft fq fn js w g h ks=>[.int .i64 f,.bool a,.bool d,.bool s,.sl (is.map It.c),.str ft,.sl (smsC fq),.str fn,.sl (josC js),.sl (w.map Tm.c),.sl (g.map Tm.c),.sl (h.map Tm.c),.sl (smsC ks)]
def Jo.c:Jo→List D
 | .mk k t q n o=>[.int .i64 k,.str t,.sl (smsC q),.str n,.sl (o.map Tm.c)]
def smsC:List Sm→List (List D)
 | []=>[]
 | e::es=>e.c::smsC es
def josC:List Jo→List (List D)
 | []=>[]
 | e::es=>e.c::josC es
end
def Sm.a (e:Sm):AV:=.agg (e.c.map AV.d)
def Jo.a (e:Jo):AV:=.agg (e.c.map AV.d)
theorem Sm.clen (e:Sm):e.c.length=13:=by cases e; rfl
theorem Sm.ctake (e:Sm):List.take 13 (e.c.map AV.d)=e.c.map AV.d:=List.take_of_length_le (by simp [Sm.clen])
theorem Jo.clen (e:Jo):e.c.length=5:=by cases e; rfl
theorem Jo.ctake (e:Jo):List.take 5 (e.c.map AV.d)=e.c.map AV.d:=List.take_of_length_le (by simp [Jo.clen])
def soC (t:List UInt8) (q:List Sm) (n:List UInt8):List D:=[.str t,.sl (smsC q),.str n]
def Sm.kids:Sm→List Sm | .mk _ _ _ _ _ _ _ _ _ _ _ _ ks=>ks
theorem Sm.kid_lt {e k:Sm} (h:k∈e.kids):SizeOf.sizeOf k<SizeOf.sizeOf e:=by
 cases e
 have:=List.sizeOf_lt_of_mem h
 simp only [Sm.kids] at this
 simp only [Sm.mk.sizeOf_spec]
 omega
def agree {α:Type} (f:α→α→Bool):List α→List α→Bool
 | [],[]=>true
 | x::xs,y::ys=>f x y&&agree f xs ys
 | [],_::_=>false
 | _::_,[]=>false
theorem agree_len {α:Type} {f:α→α→Bool}:∀ (a b:List α),a.length ≠ b.length→agree f a b=false
 | [],[],h=>absurd rfl h
 | [],_::_,_=>rfl
 | _::_,[],_=>rfl
 | e::es,f'::fs,h=>by rw [agree,agree_len es fs (by simpa using h)]; simp
theorem agree_drop {α:Type} {f:α→α→Bool} {a b:List α} {i:Nat} {x y:α} (h1:a[i]?=some x) (h2:b[i]?=some y):agree f (a.drop i) (b.drop i)=(f x y&&agree f (a.drop (i+1)) (b.drop (i+1))):=by
 obtain ⟨hi,rfl⟩:=List.getElem?_eq_some_iff.1 h1
 obtain ⟨hj,rfl⟩:=List.getElem?_eq_some_iff.1 h2
 rw [List.drop_eq_getElem_cons hi,List.drop_eq_getElem_cons hj,agree]
theorem agree_end {α:Type} {f:α→α→Bool} {a b:List α} {i:Nat} (h1:a.length≤i) (h2:b.length≤i):agree f (a.drop i) (b.drop i)=true:=by
 rw [List.drop_eq_nil_of_le h1,List.drop_eq_nil_of_le h2,agree]
theorem agree_self {α:Type} {f:α→α→Bool}:∀ (l:List α),(∀ x∈l,f x x=true)→agree f l l=true
 | [],_=>rfl
 | x::xs,h=>by rw [agree,h x List.mem_cons_self,agree_self xs fun y hy=>h y (List.mem_cons_of_mem _ hy)]; rfl
mutual
def Tm.eq:Tm→Tm→Bool
 | .mk o y n t q ks,.mk o' y' n' t' q' ks'=>o==o'&&(y==y'&&(n==n'&&(t==t'&&(q==q'&&tmsEq ks ks'))))
def tmsEq:List Tm→List Tm→Bool
 | [],[]=>true
 | e::es,f::fs=>e.eq f&&tmsEq es fs
 | [],_::_=>false
 | _::_,[]=>false
end
theorem tmsEq_agree:∀ a b:List Tm,tmsEq a b=agree Tm.eq a b
 | [],[]=>by rw [tmsEq,agree]
 | e::es,f::fs=>by rw [tmsEq,agree,tmsEq_agree es fs]
 | [],_::_=>by rw [tmsEq,agree]
 | _::_,[]=>by rw [tmsEq,agree]
def It.eq (a b:It):Bool:=a.n==b.n&&a.t.eq b.t
mutual
def Sm.eq:Sm→Sm→Bool
 | .mk f a d s is ft fq fn js w g h ks,.mk f' a' d' s' is' ft' fq' fn' js' w' g' h' ks'=>f==f'&&(a==a'&&(d==d'&&(s==s'&&((ft==ft'&&(fn==fn'&&smsEq fq fq'))&&(agree It.eq is is'&&(josEq js js'&&(agree Tm.eq w w'&&(agree Tm.eq g g'&&(agree Tm.eq h h'&&smsEq ks ks')))))))))
def Jo.eq:Jo→Jo→Bool
 | .mk k t q n o,.mk k' t' q' n' o'=>k==k'&&((t==t'&&(n==n'&&smsEq q q'))&&agree Tm.eq o o')
def smsEq:List Sm→List Sm→Bool
 | [],[]=>true
 | e::es,f::fs=>e.eq f&&smsEq es fs
 | [],_::_=>false
 | _::_,[]=>false
def josEq:List Jo→List Jo→Bool
 | [],[]=>true
 | e::es,f::fs=>e.eq f&&josEq es fs
 | [],_::_=>false
 | _::_,[]=>false
end
mutual
theorem Tm.eq_self:∀ e:Tm,e.eq e=true
 | .mk o y n t q ks=>by rw [Tm.eq,tmsEq_self ks]; simp
theorem tmsEq_self:∀ l:List Tm,tmsEq l l=true
 | []=>by rw [tmsEq]
 | e::es=>by rw [tmsEq,e.eq_self,tmsEq_self es]; rfl
end
mutual
theorem Sm.eq_self:∀ e:Sm,e.eq e=true
 | .mk f a d s is ft fq fn js w g h ks=>by
   rw [Sm.eq,smsEq_self fq,smsEq_self ks,josEq_self js,agree_self is fun x _=>by rw [It.eq,Tm.eq_self]; simp,agree_self w fun x _=>x.eq_self,agree_self g fun x _=>x.eq_self,agree_self h fun x _=>x.eq_self]
   simp
theorem Jo.eq_self:∀ e:Jo,e.eq e=true
 | .mk k t q n o=>by rw [Jo.eq,smsEq_self q,agree_self o fun x _=>x.eq_self]; simp
theorem smsEq_self:∀ l:List Sm,smsEq l l=true
 | []=>by rw [smsEq]
 | e::es=>by rw [smsEq,e.eq_self,smsEq_self es]; rfl
theorem josEq_self:∀ l:List Jo,josEq l l=true
 | []=>by rw [josEq]
 | e::es=>by rw [josEq,e.eq_self,josEq_self es]; rfl
end
def up1 (n:Int):Int:=IntKind.i64.wrap (n+1)
def mx (a b:Int):Int:=if b>a then b else a
mutual
def Tm.dep:Tm→Int
 | .mk _ _ _ _ _ ks=>up1 (tmsDep ks)
def tmsDep:List Tm→Int
 | []=>0
 | e::es=>max e.dep (tmsDep es)
end
def itsDep (l:List It):Int:=tmsDep (l.map It.t)
mutual
def Sm.dep:Sm→Int
 | .mk _ _ _ _ is _ fq _ js w g h ks=>up1 (max (smsDep ks) (max (smsDep fq) (max (tmsDep w) (max (tmsDep g) (max (tmsDep h) (max (itsDep is) (josDep js)))))))
def josDep:List Jo→Int
 | []=>0
 | e::es=>max (e.dep) (josDep es)
def Jo.dep:Jo→Int
 | .mk _ _ q _ o=>max (smsDep q) (tmsDep o)
def smsDep:List Sm→Int
 | []=>0
 | e::es=>max e.dep (smsDep es)
end
def most:List Int→Int
 | []=>0
 | x::xs=>max x (most xs)
theorem tmsDep_most:∀ l:List Tm,tmsDep l=most (l.map Tm.dep)
 | []=>by rw [tmsDep]; rfl
 | e::es=>by rw [tmsDep,tmsDep_most es]; rfl
theorem most_nonneg:∀ l:List Int,0≤most l
 | []=>by simp [most]
 | x::xs=>by have:=most_nonneg xs; rw [most]; omega
theorem most_append:∀ a b:List Int,most (a++b)=max (most a) (most b)
 | [],b=>by have:=most_nonneg b; simp only [List.nil_append,most]; omega
 | x::xs,b=>by rw [List.cons_append,most,most_append xs b,most]; omega
theorem most_take {l:List Int} {i:Nat} {x:Int} (h:l[i]?=some x):most (l.take (i+1))=max (most (l.take i)) x:=by
 rw [List.take_add_one,h,most_append]
 simp only [Option.toList_some,most]
 have:=most_nonneg (l.take i)
 omega
def spaced:List (List UInt8)→List UInt8
 | []=>[32]
 | w::ws=>32::(w++spaced ws)
def within (sub:List UInt8):List UInt8→Bool
 | []=>sub.isEmpty
 | b::l=>sub.isPrefixOf (b::l)||within sub l
theorem within_index (sub:List UInt8):∀ l:List UInt8,decide (0≤Lib.index l sub)=within sub l
 | []=>by unfold Lib.index within; cases sub <;> simp
 | b::l=>by
   have ih:=within_index sub l
   have hge:=Lib.index_ge l sub
   unfold Lib.index within
   cases h:sub.isPrefixOf (b::l) with
   | true=>simp
   | false =>
     rw [← ih]
     simp only [Bool.false_or,Bool.false_eq_true,if_false]
     by_cases h1:Lib.index l sub=-1
     ·simp [h1]
     ·have:(Lib.index l sub==-1)=false:=by simpa using h1
      rw [this]
      simp
      omega
def plainW (w:List UInt8):Bool:=w.all (· != 32)
theorem within_skip (s:List UInt8):∀ (w l:List UInt8),plainW w=true→within (32::(s++[32])) (w++l)=within (32::(s++[32])) l
 | [],l,_=>rfl
 | b::w,l,h=>by
   simp only [plainW,List.all_cons,Bool.and_eq_true,bne_iff_ne,ne_eq] at h
   have h2:plainW w=true:=h.2
   rw [List.cons_append,within,within_skip s w l h2]
   have:((32:UInt8)==b)=false:=by simpa using fun e=>h.1 e.symm
   simp [List.isPrefixOf,this]
theorem spaced_head (ws:List (List UInt8)):∃ l,spaced ws=32::l:=by cases ws <;> exact ⟨_,rfl⟩
theorem prefix_word:∀ (s w l:List UInt8),plainW s=true→plainW w=true→(s++[32]).isPrefixOf (w++32::l)=(s==w)
 | [],[],l,_,_=>by simp [List.isPrefixOf]
 | [],b::w,l,_,h=>by
   simp only [plainW,List.all_cons,Bool.and_eq_true,bne_iff_ne,ne_eq] at h
   have:((32:UInt8)==b)=false:=by simpa using fun e=>h.1 e.symm
   simp [List.isPrefixOf,this]
 | a::s,[],l,h,_=>by
   simp only [plainW,List.all_cons,Bool.and_eq_true,bne_iff_ne,ne_eq] at h
   have:(a==(32:UInt8))=false:=by simpa using h.1
   simp [List.isPrefixOf,this]
 | a::s,b::w,l,h1,h2=>by
   simp only [plainW,List.all_cons,Bool.and_eq_true] at h1 h2
   have ih:=prefix_word s w l h1.2 h2.2
   simp only [List.cons_append,List.isPrefixOf]
   rw [ih]
   rfl
theorem within_spaced (s:List UInt8) (hs:plainW s=true):∀ ws:List (List UInt8),ws.all plainW=true→within (32::(s++[32])) (spaced ws)=ws.contains s
 | [],_=>by cases s <;> simp [spaced,within,List.isPrefixOf]
 | w::ws,h=>by
   simp only [List.all_cons,Bool.and_eq_true] at h
   rw [spaced,within,within_skip s w _ h.1,within_spaced s hs ws h.2]
   obtain ⟨l,hl⟩:=spaced_head ws
   simp only [List.isPrefixOf,BEq.rfl,Bool.true_and]
   rw [hl,prefix_word s w l hs h.1,Bool.eq_iff_iff]
   simp
def lowr (c:UInt8):Bool:=decide (97≤c.toNat)&&decide (c.toNat≤122)
def nameB (c:UInt8):Bool:=lowr c||(decide (48≤c.toNat)&&decide (c.toNat≤57)||c.toNat==95)
theorem nameB_plain {c:UInt8} (h:nameB c=true):(c != 32)=true:=by
 have:c ≠ 32:=by rintro rfl; revert h; decide
 simpa using this
theorem plain_of_name {s:List UInt8} (h:s.all nameB=true):plainW s=true:=by
 rw [List.all_eq_true] at h
 exact List.all_eq_true.2 fun x hx=>nameB_plain (h x hx)
def headLow:List UInt8→Bool
 | []=>false
 | c::_=>lowr c
def nameOk (ws:List (List UInt8)) (s:List UInt8):Bool:=decide (s.length≤16)&&(headLow s&&(s.all nameB&&!ws.contains s))
end Go.Proofs.Tryz
namespace Go.Proofs
open Go.Shelf
def Tryz.lays156_ren:Go.Shelf.Ren:=⟨fun | 156=>89 | 165=>131 | 166=>132 | 169=>133 | 240=>168 | 241=>169 | 276=>187 | 277=>188 | n=>n,fun | 31=>52 | 9=>9 | 3=>3 | 4=>4 | 0=>0 | 20=>20 | 72=>160 | 76=>164 | 70=>158 | 37=>155 | 75=>163 | 127=>187 | 164=>197 | 5=>5 | 80=>166 | n=>n,fun | n=>n⟩
theorem Tryz.lays156:Go.Proofs.Lays.n156 Tryz.prog Tryz.lays156_ren:={
 mixed:=by kernel_rfl
 f156:=Tryz.func89.trans (congrArg some (by kernel_rfl))
 f165:=Tryz.func131.trans (congrArg some (by kernel_rfl))
 f166:=Tryz.func132.trans (congrArg some (by kernel_rfl))
 f169:=Tryz.func133.trans (congrArg some (by kernel_rfl))
 f240:=Tryz.func168.trans (congrArg some (by kernel_rfl))
 f241:=Tryz.func169.trans (congrArg some (by kernel_rfl))
 f276:=Tryz.func187.trans (congrArg some (by kernel_rfl))
 f277:=Tryz.func188.trans (congrArg some (by kernel_rfl))
 t0:=Tryz.underlying0
 a0:=Tryz.isAgg0
 z0:=Tryz.sizeOf0
 v0:=Tryz.zeroValue0
 t3:=Tryz.underlying3
 a3:=Tryz.isAgg3
 z3:=Tryz.sizeOf3
 v3:=Tryz.zeroValue3
 t4:=Tryz.underlying4
 a4:=Tryz.isAgg4
 z4:=Tryz.sizeOf4
 v4:=Tryz.zeroValue4
 t9:=Tryz.underlying9
 a9:=Tryz.isAgg9
 z9:=Tryz.sizeOf9
 v9:=Tryz.zeroValue9
 t20:=Tryz.underlying20
 a20:=Tryz.isAgg20
 z20:=Tryz.sizeOf20
 v20:=Tryz.zeroValue20
 t31:=Tryz.underlying52
 a31:=Tryz.isAgg52
 z31:=Tryz.sizeOf52
 v31:=Tryz.zeroValue52
 t37:=Tryz.underlying155
 a37:=Tryz.isAgg155
 z37:=Tryz.sizeOf155
 v37:=Tryz.zeroValue155
 t70:=Tryz.underlying158
 a70:=Tryz.isAgg158
 z70:=Tryz.sizeOf158
 v70:=Tryz.zeroValue158
 t72:=Tryz.underlying160
 a72:=Tryz.isAgg160
 z72:=Tryz.sizeOf160
 v72:=Tryz.zeroValue160
 t75:=Tryz.underlying163
 a75:=Tryz.isAgg163
 z75:=Tryz.sizeOf163
 v75:=Tryz.zeroValue163
 t76:=Tryz.underlying164
 a76:=Tryz.isAgg164
 z76:=Tryz.sizeOf164
 v76:=Tryz.zeroValue164
 t127:=Tryz.underlying187
 a127:=Tryz.isAgg187
 z127:=Tryz.sizeOf187
 v127:=Tryz.zeroValue187
 t164:=Tryz.underlying197
 a164:=Tryz.isAgg197
 z164:=Tryz.sizeOf197
 v164:=Tryz.zeroValue197 }
theorem Tryz.Builder_Extra_156:Builder.Extra Tryz.prog Tryz.lays156_ren:={
 sizeBuilder:=by kernel_rfl
 liesBuilder:=by kernel_rfl
 t5:=Tryz.underlying5
 a5:=Tryz.isAgg5
 z5:=Tryz.sizeOf5
 v5:=Tryz.zeroValue5
 infoByte:=by kernel_rfl
 cellsByte:=by kernel_rfl
 sizeByte:=by kernel_rfl
 neB5:=by decide }
open Go.RowKit in
theorem Tryz.strings_Join_none (a:Option Addr) (c:Nat) (sep:ByteArray) (w:World) :
  Calls Tryz.prog 89 #[.slice a 0 c,.string sep] w fun e w'=>e=.returned (.string ⟨#[]⟩)∧w'=w:=Any.strings_Join_none Tryz.lays156 Tryz.Builder_Extra_156 a c sep w
open Go.RowKit in
theorem Tryz.strings_Join (bk o c:Nat) (xs:List ByteArray) (sep:ByteArray) (w:World) (hcells:∀ (j:Nat) x,xs[j]?=some x→w.cell? ⟨bk,o+j,none⟩=some (.string x)) (hbk:bk<w.heap.size) (hN:xs.length≤140737488355328) (hcap:xs.length≤c) (hlen:(Lib.join (xs.map (·.data.toList)) sep.data.toList).length≤140737488355328) :
  Calls Tryz.prog 89 #[.slice (some ⟨bk,o,none⟩) xs.length c,.string sep] w fun e w'=>e=.returned (.string ⟨(Lib.join (xs.map (·.data.toList)) sep.data.toList).toArray⟩)∧Below w.heap.size w w':=Any.strings_Join Tryz.lays156 Tryz.Builder_Extra_156 bk o c xs sep w hcells hbk hN hcap hlen
end Go.Proofs
namespace Go.Proofs.Tryz
open Go.Ab
theorem badB_def (b:UInt8):badB b=(decide ((b.toNat:Int)<32)||(decide (126<(b.toNat:Int))||decide ((b.toNat:Int)=39))):=by
 unfold badB badN
 rw [Bool.eq_iff_iff]
 simp
 omega
theorem r_valid (v:V):Cf En 90 [v.a] [] (.d (.bool v.valid)) []:=by
 refine cf_intro mix (fn:=Tryz.f90) (by kernel_rfl) rfl (by kernel_rfl) (by decide) (by simp) ?_
 obtain ⟨k,n,t⟩:=v
 unfold V.valid V.a
 simp
 repeat' (first | exact .of (by kernel_rfl) | refine And.intro ?_ ?_ | intro _)
 all_goals try (refine agrd_cases (fun h=>?_) (fun h=>?_) <;> (have h':=h; (try simp at h'); simp [h,h']))
 repeat' (first | exact .of (by kernel_rfl) | refine And.intro ?_ ?_ | intro _)
 all_goals try (refine agrd_cases (fun h=>?_) (fun h=>?_) <;> (have h':=h; (try simp at h'); simp [h,h']))
 repeat' (first | exact .of (by kernel_rfl) | refine And.intro ?_ ?_ | intro _)
 all_goals try (refine agrd_cases (fun h=>?_) (fun h=>?_) <;> (have h':=h; (try simp at h'); simp [h,h']))
 repeat' (first | exact .of (by kernel_rfl) | refine And.intro ?_ ?_ | intro _)
 all_goals try (simp_all; done)
 ·simp_all [textOk]; omega
 ·have hl:t.length≤24:=by omega
  refine aloopT mix (by decide) (fun i:Nat=>{ s:=mkS [(1,.ptr 1 0 0),(3,.d (.int .i64 i))],b:=mkB [(1,1,.var [.d (.int .i64 k),.d (.int .i64 0),.d (.str t)])] }) (fun i:Nat=>i≤t.length∧∀ j (h:j<t.length),j<i→badB t[j]=false) (fun i=>t.length - i) 0 (by simp) (sub_mk _ _ ⟨by simp,by simp,by simp [renOf,Blk.live],by simp⟩ (by simp [renOf])) ?_
  rintro i ⟨hi,ho⟩
  by_cases hlt:i<t.length
  ·have hg:t[i]?=some t[i]:=List.getElem?_eq_getElem hlt
   have hbd:=badB_def t[i]
   simp [hlt,hg]
   have hbad:badB t[i]=true→textOk t=false:=fun h=>by
    unfold textOk
    rw [List.any_eq_true.2 ⟨_,List.getElem_mem hlt,h⟩]
    simp
   refine ⟨.of (by kernel_rfl),?_⟩
   refine agrd_cases (fun h=>?_) (fun h=>?_) <;> (have h':=h; (try simp at h'); simp [h,h',hg])
   ·refine agrd_cases (fun h=>?_) (fun h=>?_) <;> (have h':=h; (try simp at h'); simp [h,h',hg])
    ·refine ⟨.of (by kernel_rfl),fun h3=>⟨.of (by kernel_rfl),?_⟩,fun h3=>⟨.of (by kernel_rfl),i+1,⟨hlt,?_⟩,?_,?_⟩⟩
     ·simp_all
     ·intro j hj hji
      rcases Nat.lt_or_ge j i with c | c
      ·exact ho j hj c
      ·have:j=i:=by omega
       subst this
       rw [hbd]; simp; omega
     ·refine sub_mk _ [(1,1,_)] ⟨by simp,by simp,by simp [renOf,Blk.live],by simp⟩ ?_
      simp [renOf]
      exact wrap_in (by omega) (by omega)
     ·simp; omega
    ·refine ⟨.of (by kernel_rfl),.of (by kernel_rfl),?_⟩
     simp_all
   ·refine ⟨.of (by kernel_rfl),.of (by kernel_rfl),?_⟩
    simp_all
  ·simp [hlt]
   refine ⟨.of (by kernel_rfl),.of (by kernel_rfl),?_⟩
   have:textOk t=true:=by
    unfold textOk
    simp [hl]
    intro x hx
    obtain ⟨j,hj,rfl⟩:=List.getElem_of_mem hx
    exact ho j hj (by omega)
   simp_all
end Go.Proofs.Tryz
namespace Go.Proofs
open Go.Shelf
def Tryz.lays144_ren:Go.Shelf.Ren:=⟨fun | 144=>125 | 143=>162 | 219=>184 | 217=>176 | 225=>196 | 224=>197 | 267=>198 | 266=>194 | 314=>206 | n=>n,fun | 9=>9 | 4=>4 | 3=>3 | 5=>5 | 46=>185 | 146=>209 | 51=>182 | n=>n,fun | 1=>6 | n=>n⟩
theorem Tryz.lays144:Go.Proofs.Lays.n144 Tryz.prog Tryz.lays144_ren:={
 mixed:=by kernel_rfl
 f143:=Tryz.func162.trans (congrArg some (by kernel_rfl))
 f144:=Tryz.func125.trans (congrArg some (by kernel_rfl))
 f217:=Tryz.func176.trans (congrArg some (by kernel_rfl))
 f219:=Tryz.func184.trans (congrArg some (by kernel_rfl))
 f224:=Tryz.func197.trans (congrArg some (by kernel_rfl))
 f225:=Tryz.func196.trans (congrArg some (by kernel_rfl))
 f266:=Tryz.func194.trans (congrArg some (by kernel_rfl))
 f267:=Tryz.func198.trans (congrArg some (by kernel_rfl))
 f314:=Tryz.func206.trans (congrArg some (by kernel_rfl))
 t3:=Tryz.underlying3
 a3:=Tryz.isAgg3
 z3:=Tryz.sizeOf3
 v3:=Tryz.zeroValue3
 t4:=Tryz.underlying4
 a4:=Tryz.isAgg4
 z4:=Tryz.sizeOf4
 v4:=Tryz.zeroValue4
 t5:=Tryz.underlying5
 a5:=Tryz.isAgg5
 z5:=Tryz.sizeOf5
 v5:=Tryz.zeroValue5
 t9:=Tryz.underlying9
 a9:=Tryz.isAgg9
 z9:=Tryz.sizeOf9
 v9:=Tryz.zeroValue9
 t46:=Tryz.underlying185
 a46:=Tryz.isAgg185
 z46:=Tryz.sizeOf185
 v46:=Tryz.zeroValue185
 t51:=Tryz.underlying182
 a51:=Tryz.isAgg182
 z51:=Tryz.sizeOf182
 v51:=Tryz.zeroValue182
 t146:=Tryz.underlying209
 a146:=Tryz.isAgg209
 z146:=Tryz.sizeOf209
 v146:=Tryz.zeroValue209
 g1:=by kernel_rfl }
open Go.RowKit Go.Lib in
theorem Tryz.strings_Contains (s sub:ByteArray) (m:Int) (w:World) (hs:s.size<4294967281) (hm:w.cell? ⟨6,0,none⟩=some (.int .i64 m)) :
  Calls Tryz.prog 125 #[.string s,.string sub] w fun e w'=>e=.returned (.bool (Lib.contains s.data.toList sub.data.toList))∧w'=w:=Any.strings_Contains Tryz.lays144 s sub m w hs hm
end Go.Proofs
