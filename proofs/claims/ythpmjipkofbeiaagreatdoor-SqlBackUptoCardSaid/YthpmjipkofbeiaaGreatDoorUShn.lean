import Derived.Test.YthpmjipkofbeiaaGreatDoorUFdx
import Derived.Shelf.Strconv.ParseIntPublic10
set_option linter.all false
namespace Go.Proofs.Tryz
open Go.Ab
inductive Tm where
 | mk (o y n:Int) (t q:List UInt8) (kids:List Tm)
mutual
def Tm.c:Tm→List D
 | .mk o y n t q ks=>[.int .i64 o,.int .i64 y,.int .i64 n,.str t,.str q,.sl (dC ks)]
def dC:List Tm→List (List D)
 | []=>[]
 | e::es=>e.c::dC es
end
theorem aS:∀ l:List Tm,dC l=l.map Tm.c
 | []=>rfl
 | e::es=>by rw [dC,aS es]; rfl
def Tm.a (e:Tm):AV:=.agg (e.c.map AV.d)
def Tm.kids:Tm→List Tm | .mk _ _ _ _ _ ks=>ks
theorem Tm.kid_lt {e k:Tm} (h:k∈e.kids):SizeOf.sizeOf k<SizeOf.sizeOf e:=by
 cases e
 have:=List.sizeOf_lt_of_mem h
 simp only [Tm.kids] at this
 simp only [Tm.mk.sizeOf_spec]
 omega
theorem Tm.clen (e:Tm):e.c.length=6:=by cases e; rfl
theorem Tm.ctake (e:Tm):List.take 6 (e.c.map AV.d)=e.c.map AV.d:=List.take_of_length_le (by simp [Tm.clen])
theorem Tm.ctake' (e:Tm):List.take 6 e.c=e.c:=List.take_of_length_le (by simp [Tm.clen])
structure It where
 t:Tm
 n:List UInt8
def It.c (i:It):List D:=i.t.c++[.str i.n]
def It.a (e:It):AV:=.agg (e.c.map AV.d)
theorem It.clen (e:It):e.c.length=7:=by simp [It.c,Tm.clen]
theorem It.ctake (e:It):List.take 7 (e.c.map AV.d)=e.c.map AV.d:=List.take_of_length_le (by simp [It.clen])
mutual
inductive Sm where
 | mk (f:Int) (a d s:Bool) (is:List It) (ft:List UInt8) (fq:List Sm) (fn:List UInt8) (js:List Jo) (w g h:List Tm) (ks:List Sm)
inductive Jo where
 | mk (k:Int) (t:List UInt8) (q:List Sm) (n:List UInt8) (o:List Tm)
end
mutual
def Sm.c:Sm→List D
 | .mk f a d s is ft fq fn js w g h ks=>[.int .i64 f,.bool a,.bool d,.bool s,.sl (is.map It.c),.str ft,.sl (oJ fq),.str fn,.sl (aIY js),.sl (w.map Tm.c),.sl (g.map Tm.c),.sl (h.map Tm.c),.sl (oJ ks)]
def Jo.c:Jo→List D
 | .mk k t q n o=>[.int .i64 k,.str t,.sl (oJ q),.str n,.sl (o.map Tm.c)]
def oJ:List Sm→List (List D)
 | []=>[]
 | e::es=>e.c::oJ es
def aIY:List Jo→List (List D)
 | []=>[]
 | e::es=>e.c::aIY es
end
theorem aE:∀ l:List Sm,oJ l=l.map Sm.c
 | []=>rfl
 | e::es=>by rw [oJ,aE es]; rfl
theorem aF:∀ l:List Jo,aIY l=l.map Jo.c
 | []=>rfl
 | e::es=>by rw [aIY,aF es]; rfl
def Sm.a (e:Sm):AV:=.agg (e.c.map AV.d)
def Jo.a (e:Jo):AV:=.agg (e.c.map AV.d)
theorem Sm.clen (e:Sm):e.c.length=13:=by cases e; rfl
theorem Sm.ctake (e:Sm):List.take 13 (e.c.map AV.d)=e.c.map AV.d:=List.take_of_length_le (by simp [Sm.clen])
theorem Jo.clen (e:Jo):e.c.length=5:=by cases e; rfl
theorem Jo.ctake (e:Jo):List.take 5 (e.c.map AV.d)=e.c.map AV.d:=List.take_of_length_le (by simp [Jo.clen])
def kK (t:List UInt8) (q:List Sm) (n:List UInt8):List D:=[.str t,.sl (oJ q),.str n]
def jJ (t:List UInt8) (q:List Sm) (n:List UInt8):AV:=.agg ((kK t q n).map AV.d)
def Sm.kids:Sm→List Sm | .mk _ _ _ _ _ _ _ _ _ _ _ _ ks=>ks
def Sm.qs:Sm→List Sm | .mk _ _ _ _ _ _ q _ _ _ _ _ _=>q
def Sm.js:Sm→List Jo | .mk _ _ _ _ _ _ _ _ js _ _ _ _=>js
def Jo.qs:Jo→List Sm | .mk _ _ q _ _=>q
theorem Sm.kid_lt {e k:Sm} (h:k∈e.kids):SizeOf.sizeOf k<SizeOf.sizeOf e:=by
 cases e
 have:=List.sizeOf_lt_of_mem h
 simp only [Sm.kids] at this
 simp only [Sm.mk.sizeOf_spec]
 omega
theorem Sm.q_lt {e k:Sm} (h:k∈e.qs):SizeOf.sizeOf k<SizeOf.sizeOf e:=by
 cases e
 have:=List.sizeOf_lt_of_mem h
 simp only [Sm.qs] at this
 simp only [Sm.mk.sizeOf_spec]
 omega
theorem Sm.j_lt {e:Sm} {j:Jo} (h:j∈e.js):SizeOf.sizeOf j<SizeOf.sizeOf e:=by
 cases e
 have:=List.sizeOf_lt_of_mem h
 simp only [Sm.js] at this
 simp only [Sm.mk.sizeOf_spec]
 omega
theorem Jo.q_lt {j:Jo} {k:Sm} (h:k∈j.qs):SizeOf.sizeOf k<SizeOf.sizeOf j:=by
 cases j
 have:=List.sizeOf_lt_of_mem h
 simp only [Jo.qs] at this
 simp only [Jo.mk.sizeOf_spec]
 omega
def cE {α:Type} (f:α→α→Bool):List α→List α→Bool
 | [],[]=>true
 | x::xs,y::ys=>f x y&&cE f xs ys
 | [],_::_=>false
 | _::_,[]=>false
theorem kT {α:Type} {f:α→α→Bool}:∀ (a b:List α),a.length ≠ b.length→cE f a b=false
 | [],[],h=>absurd rfl h
 | [],_::_,_=>rfl
 | _::_,[],_=>rfl
 | e::es,f'::fs,h=>by rw [cE,kT es fs (by simpa using h)]; simp
theorem kL {α:Type} {f:α→α→Bool} {a b:List α} {i:Nat} {x y:α} (h1:a[i]?=some x) (h2:b[i]?=some y):cE f (a.drop i) (b.drop i)=(f x y&&cE f (a.drop (i+1)) (b.drop (i+1))):=by
 obtain ⟨hi,rfl⟩:=List.getElem?_eq_some_iff.1 h1
 obtain ⟨hj,rfl⟩:=List.getElem?_eq_some_iff.1 h2
 rw [List.drop_eq_getElem_cons hi,List.drop_eq_getElem_cons hj,cE]
theorem lY {α:Type} {f:α→α→Bool} {a b:List α} {i:Nat} (h1:a.length≤i) (h2:b.length≤i):cE f (a.drop i) (b.drop i)=true:=by
 rw [List.drop_eq_nil_of_le h1,List.drop_eq_nil_of_le h2,cE]
theorem nF {α:Type} {f:α→α→Bool}:∀ (l:List α),(∀ x∈l,f x x=true)→cE f l l=true
 | [],_=>rfl
 | x::xs,h=>by rw [cE,h x List.mem_cons_self,nF xs fun y hy=>h y (List.mem_cons_of_mem _ hy)]; rfl
mutual
def Tm.eq:Tm→Tm→Bool
 | .mk o y n t q ks,.mk o' y' n' t' q' ks'=>o==o'&&(y==y'&&(n==n'&&(t==t'&&(q==q'&&vX ks ks'))))
def vX:List Tm→List Tm→Bool
 | [],[]=>true
 | e::es,f::fs=>e.eq f&&vX es fs
 | [],_::_=>false
 | _::_,[]=>false
end
theorem vY:∀ a b:List Tm,vX a b=cE Tm.eq a b
 | [],[]=>by rw [vX,cE]
 | e::es,f::fs=>by rw [vX,cE,vY es fs]
 | [],_::_=>by rw [vX,cE]
 | _::_,[]=>by rw [vX,cE]
def It.eq (a b:It):Bool:=a.n==b.n&&a.t.eq b.t
mutual
def Sm.eq:Sm→Sm→Bool
 | .mk f a d s is ft fq fn js w g h ks,.mk f' a' d' s' is' ft' fq' fn' js' w' g' h' ks'=>f==f'&&(a==a'&&(d==d'&&(s==s'&&((ft==ft'&&(fn==fn'&&sV fq fq'))&&(cE It.eq is is'&&(xN js js'&&(cE Tm.eq w w'&&(cE Tm.eq g g'&&(cE Tm.eq h h'&&sV ks ks')))))))))
def Jo.eq:Jo→Jo→Bool
 | .mk k t q n o,.mk k' t' q' n' o'=>k==k'&&((t==t'&&(n==n'&&sV q q'))&&cE Tm.eq o o')
def sV:List Sm→List Sm→Bool
 | [],[]=>true
 | e::es,f::fs=>e.eq f&&sV es fs
 | [],_::_=>false
 | _::_,[]=>false
def xN:List Jo→List Jo→Bool
 | [],[]=>true
 | e::es,f::fs=>e.eq f&&xN es fs
 | [],_::_=>false
 | _::_,[]=>false
end
theorem kM:∀ a b:List Sm,sV a b=cE Sm.eq a b
 | [],[]=>by rw [sV,cE]
 | e::es,f::fs=>by rw [sV,cE,kM es fs]
 | [],_::_=>by rw [sV,cE]
 | _::_,[]=>by rw [sV,cE]
theorem lZ:∀ a b:List Jo,xN a b=cE Jo.eq a b
 | [],[]=>by rw [xN,cE]
 | e::es,f::fs=>by rw [xN,cE,lZ es fs]
 | [],_::_=>by rw [xN,cE]
 | _::_,[]=>by rw [xN,cE]
def JY (t:List UInt8) (q:List Sm) (n:List UInt8) (t':List UInt8) (q':List Sm) (n':List UInt8):Bool:=t==t'&&(n==n'&&sV q q')
mutual
theorem Tm.eq_self:∀ e:Tm,e.eq e=true
 | .mk o y n t q ks=>by rw [Tm.eq,JZ ks]; simp
theorem JZ:∀ l:List Tm,vX l l=true
 | []=>by rw [vX]
 | e::es=>by rw [vX,e.eq_self,JZ es]; rfl
end
mutual
theorem Sm.eq_self:∀ e:Sm,e.eq e=true
 | .mk f a d s is ft fq fn js w g h ks=>by
   rw [Sm.eq,nG fq,nG ks,KA js,nF is fun x _=>by rw [It.eq,Tm.eq_self]; simp,nF w fun x _=>x.eq_self,nF g fun x _=>x.eq_self,nF h fun x _=>x.eq_self]
   simp
theorem Jo.eq_self:∀ e:Jo,e.eq e=true
 | .mk k t q n o=>by rw [Jo.eq,nG q,nF o fun x _=>x.eq_self]; simp
theorem nG:∀ l:List Sm,sV l l=true
 | []=>by rw [sV]
 | e::es=>by rw [sV,e.eq_self,nG es]; rfl
theorem KA:∀ l:List Jo,xN l l=true
 | []=>by rw [xN]
 | e::es=>by rw [xN,e.eq_self,KA es]; rfl
end
def yO (n:Int):Int:=IntKind.i64.wrap (n+1)
def mx (a b:Int):Int:=if b>a then b else a
mutual
def Tm.dep:Tm→Int
 | .mk _ _ _ _ _ ks=>yO (aAF ks)
def aAF:List Tm→Int
 | []=>0
 | e::es=>max e.dep (aAF es)
end
def KB (l:List It):Int:=aAF (l.map It.t)
mutual
def Sm.dep:Sm→Int
 | .mk _ _ _ _ is _ fq _ js w g h ks=>yO (max (kN ks) (max (kN fq) (max (aAF w) (max (aAF g) (max (aAF h) (max (KB is) (tU js)))))))
def tU:List Jo→Int
 | []=>0
 | e::es=>max (e.dep) (tU es)
def Jo.dep:Jo→Int
 | .mk _ _ q _ o=>max (kN q) (aAF o)
def kN:List Sm→Int
 | []=>0
 | e::es=>max e.dep (kN es)
end
def fY:List Int→Int
 | []=>0
 | x::xs=>max x (fY xs)
theorem dZ:∀ l:List Tm,aAF l=fY (l.map Tm.dep)
 | []=>by rw [aAF]; rfl
 | e::es=>by rw [aAF,dZ es]; rfl
theorem mA:∀ l:List Sm,kN l=fY (l.map Sm.dep)
 | []=>by rw [kN]; rfl
 | e::es=>by rw [kN,mA es]; rfl
theorem EI:∀ l:List Jo,tU l=fY (l.map Jo.dep)
 | []=>by rw [tU]; rfl
 | e::es=>by rw [tU,EI es]; rfl
theorem mB:∀ l:List Int,0≤fY l
 | []=>by simp [fY]
 | x::xs=>by have:=mB xs; rw [fY]; omega
theorem rG:∀ a b:List Int,fY (a++b)=max (fY a) (fY b)
 | [],b=>by have:=mB b; simp only [List.nil_append,fY]; omega
 | x::xs,b=>by rw [List.cons_append,fY,rG xs b,fY]; omega
theorem pH {l:List Int} {i:Nat} {x:Int} (h:l[i]?=some x):fY (l.take (i+1))=max (fY (l.take i)) x:=by
 rw [List.take_add_one,h,rG]
 simp only [Option.toList_some,fY]
 have:=mB (l.take i)
 omega
end Go.Proofs.Tryz
namespace Go.Proofs
open Go.Shelf
def Tryz.laysC174_ren:Go.Shelf.Ren:=⟨fun | 174=>174 | 247=>192 | 245=>193 | 287=>200 | 279=>201 | 280=>202 | 281=>203 | 282=>204 | 321=>208 | 322=>209 | 316=>210 | 171=>212 | 205=>211 | 243=>217 | 246=>87 | 283=>127 | 284=>128 | 285=>129 | 286=>130 | 129=>164 | 317=>163 | 318=>165 | 319=>166 | 320=>167 | 337=>185 | 338=>186 | n=>n,fun | 9=>9 | 3=>3 | 2=>2 | 75=>163 | 85=>188 | 4=>4 | 167=>203 | 5=>5 | 53=>152 | 175=>204 | 46=>185 | 168=>206 | 37=>155 | 0=>0 | 210=>214 | 21=>21 | 127=>187 | 145=>218 | 143=>216 | 171=>151 | 173=>156 | 212=>181 | 51=>182 | 20=>20 | 213=>183 | 232=>201 | 233=>202 | 80=>166 | n=>n,fun | 15=>9 | 16=>10 | 17=>4 | 18=>7 | 19=>8 | n=>n⟩
theorem Tryz.laysC174:Go.Proofs.LaysC.n174 Tryz.prog Tryz.laysC174_ren:={
 mixed:=by kernel_rfl
 f129:=Tryz.func164.trans (congrArg some (by kernel_rfl))
 f171:=Tryz.func212.trans (congrArg some (by kernel_rfl))
 f174:=Tryz.func174.trans (congrArg some (by kernel_rfl))
 f205:=Tryz.func211.trans (congrArg some (by kernel_rfl))
 f243:=Tryz.func217.trans (congrArg some (by kernel_rfl))
 f245:=Tryz.func193.trans (congrArg some (by kernel_rfl))
 f246:=Tryz.func87.trans (congrArg some (by kernel_rfl))
 f247:=Tryz.func192.trans (congrArg some (by kernel_rfl))
 f279:=Tryz.func201.trans (congrArg some (by kernel_rfl))
 f280:=Tryz.func202.trans (congrArg some (by kernel_rfl))
 f281:=Tryz.func203.trans (congrArg some (by kernel_rfl))
 f282:=Tryz.func204.trans (congrArg some (by kernel_rfl))
 f283:=Tryz.func127.trans (congrArg some (by kernel_rfl))
 f284:=Tryz.func128.trans (congrArg some (by kernel_rfl))
 f285:=Tryz.func129.trans (congrArg some (by kernel_rfl))
 f286:=Tryz.func130.trans (congrArg some (by kernel_rfl))
 f287:=Tryz.func200.trans (congrArg some (by kernel_rfl))
 f316:=Tryz.func210.trans (congrArg some (by kernel_rfl))
 f317:=Tryz.func163.trans (congrArg some (by kernel_rfl))
 f318:=Tryz.func165.trans (congrArg some (by kernel_rfl))
 f319:=Tryz.func166.trans (congrArg some (by kernel_rfl))
 f320:=Tryz.func167.trans (congrArg some (by kernel_rfl))
 f321:=Tryz.func208.trans (congrArg some (by kernel_rfl))
 f322:=Tryz.func209.trans (congrArg some (by kernel_rfl))
 f337:=Tryz.func185.trans (congrArg some (by kernel_rfl))
 f338:=Tryz.func186.trans (congrArg some (by kernel_rfl))
 t0:=Tryz.underlying0
 a0:=Tryz.isAgg0
 z0:=Tryz.sizeOf0
 v0:=Tryz.zeroValue0
 t2:=Tryz.underlying2
 a2:=Tryz.isAgg2
 z2:=Tryz.sizeOf2
 v2:=Tryz.zeroValue2
 t3:=Tryz.underlying3
 a3:=Tryz.isAgg3
 z3:=Tryz.sizeOf3
 v3:=Tryz.zeroValue3
 t4:=Tryz.underlying4
 a4:=Tryz.isAgg4
 z4:=Tryz.sizeOf4
 v4:=Tryz.zeroValue4
 t5:=Tryz.underlying5
 a5:=Tryz.isAgg5
 z5:=Tryz.sizeOf5
 v5:=Tryz.zeroValue5
 t9:=Tryz.underlying9
 a9:=Tryz.isAgg9
 z9:=Tryz.sizeOf9
 v9:=Tryz.zeroValue9
 t20:=Tryz.underlying20
 a20:=Tryz.isAgg20
 z20:=Tryz.sizeOf20
 v20:=Tryz.zeroValue20
 t21:=Tryz.underlying21
 a21:=Tryz.isAgg21
 z21:=Tryz.sizeOf21
 v21:=Tryz.zeroValue21
 t37:=Tryz.underlying155
 a37:=Tryz.isAgg155
 z37:=Tryz.sizeOf155
 v37:=Tryz.zeroValue155
 t46:=Tryz.underlying185
 a46:=Tryz.isAgg185
 z46:=Tryz.sizeOf185
 v46:=Tryz.zeroValue185
 t51:=Tryz.underlying182
 a51:=Tryz.isAgg182
 z51:=Tryz.sizeOf182
 v51:=Tryz.zeroValue182
 t53:=Tryz.underlying152
 a53:=Tryz.isAgg152
 z53:=Tryz.sizeOf152
 v53:=Tryz.zeroValue152
 t75:=Tryz.underlying163
 a75:=Tryz.isAgg163
 z75:=Tryz.sizeOf163
 v75:=Tryz.zeroValue163
 t85:=Tryz.underlying188
 a85:=Tryz.isAgg188
 z85:=Tryz.sizeOf188
 v85:=Tryz.zeroValue188
 t127:=Tryz.underlying187
 a127:=Tryz.isAgg187
 z127:=Tryz.sizeOf187
 v127:=Tryz.zeroValue187
 t143:=Tryz.underlying216
 a143:=Tryz.isAgg216
 z143:=Tryz.sizeOf216
 v143:=Tryz.zeroValue216
 t145:=Tryz.underlying218
 a145:=Tryz.isAgg218
 z145:=Tryz.sizeOf218
 v145:=Tryz.zeroValue218
 t167:=Tryz.underlying203
 a167:=Tryz.isAgg203
 z167:=Tryz.sizeOf203
 v167:=Tryz.zeroValue203
 t168:=Tryz.underlying206
 a168:=Tryz.isAgg206
 z168:=Tryz.sizeOf206
 v168:=Tryz.zeroValue206
 t171:=Tryz.underlying151
 a171:=Tryz.isAgg151
 z171:=Tryz.sizeOf151
 v171:=Tryz.zeroValue151
 t173:=Tryz.underlying156
 a173:=Tryz.isAgg156
 z173:=Tryz.sizeOf156
 v173:=Tryz.zeroValue156
 t175:=Tryz.underlying204
 a175:=Tryz.isAgg204
 z175:=Tryz.sizeOf204
 v175:=Tryz.zeroValue204
 t210:=Tryz.underlying214
 a210:=Tryz.isAgg214
 z210:=Tryz.sizeOf214
 v210:=Tryz.zeroValue214
 t212:=Tryz.underlying181
 a212:=Tryz.isAgg181
 z212:=Tryz.sizeOf181
 v212:=Tryz.zeroValue181
 t213:=Tryz.underlying183
 a213:=Tryz.isAgg183
 z213:=Tryz.sizeOf183
 t232:=Tryz.underlying201
 a232:=Tryz.isAgg201
 z232:=Tryz.sizeOf201
 v232:=Tryz.zeroValue201
 t233:=Tryz.underlying202
 a233:=Tryz.isAgg202
 z233:=Tryz.sizeOf202
 v233:=Tryz.zeroValue202
 g15:=by kernel_rfl
 g16:=by kernel_rfl
 g17:=by kernel_rfl
 g18:=by kernel_rfl
 g19:=by kernel_rfl
 t80:=Tryz.underlying166
 a80:=Tryz.isAgg166
 z80:=Tryz.sizeOf166
 v80:=Tryz.zeroValue166
 i0:=by kernel_rfl
 i2:=by kernel_rfl
 i3:=by kernel_rfl
 i4:=by kernel_rfl
 i5:=by kernel_rfl
 i9:=by kernel_rfl
 i20:=by kernel_rfl
 i21:=by kernel_rfl
 i37:=by kernel_rfl
 i46:=by kernel_rfl
 i51:=by kernel_rfl
 i53:=by kernel_rfl
 i75:=by kernel_rfl
 i80:=by kernel_rfl
 i85:=by kernel_rfl
 i127:=by kernel_rfl
 i143:=by kernel_rfl
 i145:=by kernel_rfl
 i167:=by kernel_rfl
 i168:=by kernel_rfl
 i171:=by kernel_rfl
 i173:=by kernel_rfl
 i175:=by kernel_rfl
 i210:=by kernel_rfl
 i212:=by kernel_rfl
 i232:=by kernel_rfl
 i233:=by kernel_rfl
 m15:=by kernel_rfl
 m16:=by kernel_rfl
 m17:=by kernel_rfl
 m18:=by kernel_rfl
 m19:=by kernel_rfl
 c0:=by kernel_rfl
 c2:=by kernel_rfl
 c3:=by kernel_rfl
 c4:=by kernel_rfl
 c5:=by kernel_rfl
 c9:=by kernel_rfl
 c20:=by kernel_rfl
 c21:=by kernel_rfl
 c37:=by kernel_rfl
 c46:=by kernel_rfl
 c51:=by kernel_rfl
 c53:=by kernel_rfl
 c75:=by kernel_rfl
 c80:=by kernel_rfl
 c85:=by kernel_rfl
 c127:=by kernel_rfl
 c143:=by kernel_rfl
 c145:=by kernel_rfl
 c167:=by kernel_rfl
 c168:=by kernel_rfl
 c171:=by kernel_rfl
 c173:=by kernel_rfl
 c175:=by kernel_rfl
 c210:=by kernel_rfl
 c212:=by kernel_rfl
 c213:=by kernel_rfl
 c232:=by kernel_rfl
 c233:=by kernel_rfl }
open Go.RowKit in
theorem Tryz.strconv_ParseInt_10_at64_ok (s:ByteArray) (hmax:s.size≤9223372036854775806) (v:Int) (h:Lib.parseIntB 64 s.data.toList=.ok v) (w:World) :
  Calls Tryz.prog 174 #[.string s,.int .i64 10,.int .i64 64] w fun e w'=>e=.returned (.tuple #[.int .i64 v,.nilIface])∧(w'=w∨∃ t,w'=Lib.bytesWorld w 5 t):=Any.strconv_ParseInt_10_at64_ok Tryz.laysC174 s hmax v h w
open Go.RowKit in
theorem Tryz.strconv_ParseInt_10_at64_syntax (s:ByteArray) (hlim:s.size≤281474976710656) (h:Lib.parseIntB 64 s.data.toList=.«syntax») (ev:Value) (w:World) (hv:w.cell? ⟨9,0,none⟩=some ev) (hev:ev=.nilIface∨∃ te pe,ev=.iface te pe) :
  Calls Tryz.prog 174 #[.string s,.int .i64 10,.int .i64 64] w fun e w'=>∃ N,e=.returned (.tuple #[.int .i64 (0),.iface 206 (.pointer (some ⟨N,0,none⟩))])∧w.heap.size≤N∧w'.heap[N]?=some (.cells #[.string ⟨#[80,97,114,115,101,73,110,116]⟩,.string s,ev] 214 (0,0))∧Below w.heap.size w w':=Any.strconv_ParseInt_10_at64_syntax Tryz.laysC174 s hlim h ev w hv hev
open Go.RowKit in
theorem Tryz.strconv_ParseInt_10_at64_range (s:ByteArray) (hlim:s.size≤281474976710656) (h:Lib.parseIntB 64 s.data.toList=.range) (ev:Value) (w:World) (hv:w.cell? ⟨10,0,none⟩=some ev) (hev:ev=.nilIface∨∃ te pe,ev=.iface te pe) :
  Calls Tryz.prog 174 #[.string s,.int .i64 10,.int .i64 64] w fun e w'=>∃ N,e=.returned (.tuple #[.int .i64 (Lib.intSat 64 s.data.toList),.iface 206 (.pointer (some ⟨N,0,none⟩))])∧w.heap.size≤N∧w'.heap[N]?=some (.cells #[.string ⟨#[80,97,114,115,101,73,110,116]⟩,.string s,ev] 214 (0,0))∧Below w.heap.size w w':=Any.strconv_ParseInt_10_at64_range Tryz.laysC174 s hlim h ev w hv hev
end Go.Proofs
