import Derived.Shelf.Strconv.Itoa3
import Derived.Test.YthpmjipkofbeiaaGreatDoorPtx
import Derived.Test.YthpmjipkofbeiaaGreatDoorUShn
import Derived.Shelf.Small.Strs
set_option linter.all false
namespace Go.Proofs.Tryz
open Go.Ab
set_option maxRecDepth 100000
abbrev Sop:=List UInt8×Int×Int×Int
def sops:List Sop:=[([],0,0,0),([],0,0,0),([],0,0,0),([],0,0,0),([],0,0,0),([],0,0,0),([43],4,4,5),([45],4,4,5),([42],5,5,6),([47],5,5,6),([109,111,100],5,5,6),([],0,0,0),([124,124],4,4,5),([],0,0,0),([61],3,4,4),([60,62],3,4,4),([60],3,4,4),([60,61],3,4,4),([62],3,4,4),([62,61],3,4,4),([115,97,109,101],3,4,4),([],0,0,0),([97,110,100],1,1,2),([111,114],0,0,1)]
def aDl (o:Sop):List D:=[.str o.1,.int .i64 o.2.1,.int .i64 o.2.2.1,.int .i64 o.2.2.2]
def sopsC:List D:=sops.flatMap aDl
def typL:List (List UInt8):=[[],[105,110,116],[98,111,111,108],[116,101,120,116]]
def aggL:List (List UInt8):=[[],[],[99,111,117,110,116,40],[99,111,117,110,116,40,100,105,115,116,105,110,99,116,32],[115,117,109,40],[109,105,110,40],[109,97,120,40]]
def aHT:List D:=typL.map .str
def aggC:List D:=aggL.map .str
def aFh (v:Value):Prop:=∃ m,v=.int .i64 m
def ZO (v:Value):Prop:=∃ t x,v=.iface t x
def esG (g:Nat):Option (List D):=if g=5 then some [.int .i64 0,.int .i64 0,.str []] else if g=9∨g=10 then some [.any ZO] else if g=4 then some (Lib.pow10Tab.map fun z=>D.int .u64 z) else if g=6 then some [.any aFh] else if g=3 then some sopsC else if g=0 then some aHT else if g=1 then some aggC else none
noncomputable def Es:dA:=⟨Tryz.prog,esG⟩
@[simp] theorem aPz:Es.P=Tryz.prog:=id rfl
@[simp] theorem aMI (g:Nat):Es.G g=esG g:=rfl
@[simp] theorem aNV:esG 3=some sopsC:=id rfl
@[simp] theorem aNW:esG 0=some aHT:=id rfl
@[simp] theorem aNX:esG 1=some aggC:=id rfl
theorem bI:Es.P.follows .mixedOrders=true:=by kernel_rfl
theorem aFi (g:Nat) (cs:List D) (e:En.G g=some cs):Es.G g=some cs:=by rw [aNx] at e; cases e
theorem iQ {f:FuncId} {xs:List AV} {B:List Blk} {y:AV} {B':List Blk} (h:Cf En f xs B y B'):Cf Es f xs B y B':=Cf.more (E:=En) (E':=Es) rfl aFi h
theorem aFS (b:UInt8):uK b=(decide ((b.toNat:Int)<32)||(decide (126<(b.toNat:Int))||decide ((b.toNat:Int)=39))):=by
 unfold uK KH
 rw [Bool.eq_iff_iff]
 simp
 omega
theorem oY (v:V):Cf En 90 [v.a] [] (.d (.bool v.valid)) []:=by
 refine cI fQ (fn:=Tryz.f90) rfl ?_
 obtain ⟨k,n,t⟩:=v
 unfold V.valid V.a
 simp
 repeat' (first | exact .of (by kernel_rfl) | refine And.intro ?_ ?_ | intro _)
 all_goals try (refine aI (fun h=>?_) (fun h=>?_) <;> (have h':=h; (try simp at h'); simp [h,h']))
 repeat' (first | exact .of (by kernel_rfl) | refine And.intro ?_ ?_ | intro _)
 all_goals try (refine aI (fun h=>?_) (fun h=>?_) <;> (have h':=h; (try simp at h'); simp [h,h']))
 repeat' (first | exact .of (by kernel_rfl) | refine And.intro ?_ ?_ | intro _)
 all_goals try (refine aI (fun h=>?_) (fun h=>?_) <;> (have h':=h; (try simp at h'); simp [h,h']))
 repeat' (first | exact .of (by kernel_rfl) | refine And.intro ?_ ?_ | intro _)
 all_goals try (simp_all; done)
 ·simp_all [oK]; omega
 ·have hl:t.length≤24:=by omega
  refine aL fQ (fun i:Nat=>{ s:=eP [(1,.ptr 1 0 0),(3,.d (.int .i64 i))],b:=eG [(1,1,.var [.d (.int .i64 k),.d (.int .i64 0),.d (.str t)])] }) (fun i:Nat=>i≤t.length∧∀ j (h:j<t.length),j<i→uK t[j]=false) (fun i=>t.length - i) 0 (by simp) (aJ _ _ ⟨by simp,by simp,by simp [aD,Blk.live],by simp⟩ (by simp [aD])) ?_
  rintro i ⟨hi,ho⟩
  by_cases hlt:i<t.length
  ·have hg:t[i]?=some t[i]:=gE hlt
   have hbd:=aFS t[i]
   simp [hlt]
   have hbad:uK t[i]=true→oK t=false:=fun h=>by
    unfold oK
    rw [List.any_eq_true.2 ⟨_,List.getElem_mem hlt,h⟩]
    simp
   refine ⟨.ok,?_⟩
   refine aI (fun h=>?_) (fun h=>?_) <;> (have h':=h; (try simp at h'); simp [h,h',hg])
   ·refine aI (fun h=>?_) (fun h=>?_) <;> (have h':=h; (try simp at h'); simp [h,h',hg])
    ·refine ⟨.ok,fun h3=>⟨.ok,?_⟩,fun h3=>⟨.ok,i+1,⟨hlt,?_⟩,?_,?_⟩⟩
     ·simp_all
     ·intro j hj hji
      rcases Nat.lt_or_ge j i with c | c
      ·exact ho j hj c
      ·have:j=i:=by omega
       subst this
       rw [hbd]; simp; omega
     ·refine sM _ [(1,1,_)] (by simp [aD,Blk.live]) ?_
      simp [aD]
      exact aZ (by omega) (by omega)
     ·simp; omega
    ·refine ⟨.ok,.ok,?_⟩
     simp_all
   ·refine ⟨.ok,.ok,?_⟩
    simp_all
  ·simp [hlt]
   refine ⟨.ok,.ok,?_⟩
   have:oK t=true:=by
    unfold oK
    simp [hl]
    intro x hx
    obtain ⟨j,hj,rfl⟩:=List.getElem_of_mem hx
    exact ho j hj (by omega)
   simp_all
end Go.Proofs.Tryz
namespace Go.Proofs
open Go.Shelf
def Tryz.laysM246_ren:Go.Shelf.Ren:=⟨fun | 246=>87 | 283=>127 | 284=>128 | 285=>129 | 286=>130 | 129=>164 | 317=>163 | 318=>165 | 319=>166 | 320=>167 | 337=>185 | 338=>186 | n=>n,fun | 2=>2 | 3=>3 | 9=>9 | 4=>4 | 171=>151 | 0=>0 | 53=>152 | 37=>155 | 5=>5 | 173=>156 | 212=>181 | 51=>182 | 20=>20 | 213=>183 | 46=>185 | 232=>201 | 233=>202 | n=>n,fun | 17=>4 | 18=>7 | 19=>8 | n=>n⟩
theorem Tryz.laysM246:Go.Proofs.LaysM.n246 Tryz.prog Tryz.laysM246_ren:={
 mixed:=by kernel_rfl
 f129:=Tryz.func164.trans (congrArg some (by kernel_rfl))
 f246:=Tryz.func87.trans (congrArg some (by kernel_rfl))
 f283:=Tryz.func127.trans (congrArg some (by kernel_rfl))
 f284:=Tryz.func128.trans (congrArg some (by kernel_rfl))
 f285:=Tryz.func129.trans (congrArg some (by kernel_rfl))
 f286:=Tryz.func130.trans (congrArg some (by kernel_rfl))
 f317:=Tryz.func163.trans (congrArg some (by kernel_rfl))
 f318:=Tryz.func165.trans (congrArg some (by kernel_rfl))
 f319:=Tryz.func166.trans (congrArg some (by kernel_rfl))
 f320:=Tryz.func167.trans (congrArg some (by kernel_rfl))
 f337:=Tryz.func185.trans (congrArg some (by kernel_rfl))
 f338:=Tryz.func186.trans (congrArg some (by kernel_rfl))
 t0:=Tryz.underlying0
 a0:=Tryz.isAgg0
 z0:=Tryz.sizeOf0
 v0:=Tryz.zeroValue0
 t2:=Tryz.underlying2
 a2:=Tryz.isAgg2
 z2:=Tryz.sizeOf2
 v2:=Tryz.zeroValue2
 t3:=Tryz.underlying3
 a3:=Tryz.isAgg3
 z3:=Tryz.sizeOf3
 v3:=Tryz.zeroValue3
 t4:=Tryz.underlying4
 a4:=Tryz.isAgg4
 z4:=Tryz.sizeOf4
 v4:=Tryz.zeroValue4
 t5:=Tryz.underlying5
 a5:=Tryz.isAgg5
 z5:=Tryz.sizeOf5
 v5:=Tryz.zeroValue5
 t9:=Tryz.underlying9
 a9:=Tryz.isAgg9
 z9:=Tryz.sizeOf9
 v9:=Tryz.zeroValue9
 t20:=Tryz.underlying20
 a20:=Tryz.isAgg20
 z20:=Tryz.sizeOf20
 v20:=Tryz.zeroValue20
 t37:=Tryz.underlying155
 a37:=Tryz.isAgg155
 z37:=Tryz.sizeOf155
 v37:=Tryz.zeroValue155
 t46:=Tryz.underlying185
 a46:=Tryz.isAgg185
 z46:=Tryz.sizeOf185
 v46:=Tryz.zeroValue185
 t51:=Tryz.underlying182
 a51:=Tryz.isAgg182
 z51:=Tryz.sizeOf182
 v51:=Tryz.zeroValue182
 t53:=Tryz.underlying152
 a53:=Tryz.isAgg152
 z53:=Tryz.sizeOf152
 v53:=Tryz.zeroValue152
 t171:=Tryz.underlying151
 a171:=Tryz.isAgg151
 z171:=Tryz.sizeOf151
 v171:=Tryz.zeroValue151
 t173:=Tryz.underlying156
 a173:=Tryz.isAgg156
 z173:=Tryz.sizeOf156
 v173:=Tryz.zeroValue156
 t212:=Tryz.underlying181
 a212:=Tryz.isAgg181
 z212:=Tryz.sizeOf181
 v212:=Tryz.zeroValue181
 t213:=Tryz.underlying183
 a213:=Tryz.isAgg183
 z213:=Tryz.sizeOf183
 t232:=Tryz.underlying201
 a232:=Tryz.isAgg201
 z232:=Tryz.sizeOf201
 v232:=Tryz.zeroValue201
 t233:=Tryz.underlying202
 a233:=Tryz.isAgg202
 z233:=Tryz.sizeOf202
 v233:=Tryz.zeroValue202
 g17:=by kernel_rfl
 g18:=by kernel_rfl
 g19:=by kernel_rfl
 i0:=by kernel_rfl
 i2:=by kernel_rfl
 i3:=by kernel_rfl
 i4:=by kernel_rfl
 i5:=by kernel_rfl
 i9:=by kernel_rfl
 i20:=by kernel_rfl
 i37:=by kernel_rfl
 i46:=by kernel_rfl
 i51:=by kernel_rfl
 i53:=by kernel_rfl
 i171:=by kernel_rfl
 i173:=by kernel_rfl
 i212:=by kernel_rfl
 i232:=by kernel_rfl
 i233:=by kernel_rfl
 m17:=by kernel_rfl
 m18:=by kernel_rfl
 m19:=by kernel_rfl }
open Go.RowKit Go.Sort Go.Lib in
theorem Tryz.internal_strconv_FormatInt_10 (n : Int) (h0 : -9223372036854775808 ≤ n) (h1 : n ≤ 9223372036854775807) (w : World) (htab : Lib.TabIs Tryz.prog w "internal/strconv.uint64pow10" .u64 Lib.pow10Tab) :
  Calls Tryz.prog 87 #[.int .i64 n,.int .i64 10] w fun e w'=>e=.returned (.string ⟨(Lib.itoa n).toArray⟩)∧∃ k os,w'=grow (w.drewN k) os:=Any.internal_strconv_FormatInt_10 Tryz.laysM246 n h0 h1 w htab
end Go.Proofs
namespace Go.Proofs.Tryz
open Go.Ab Go.RowKit Go.Sort
set_option maxRecDepth 100000
set_option maxHeartbeats 1000000
def aGV (v:Value):Prop:=∃ t x,v=.iface t x
noncomputable def Ev:dA:=⟨Tryz.prog,fun g=>if g=5 then some [.int .i64 0,.int .i64 0,.str []] else if g=9∨g=10 then some [.any aGV] else if g=4 then some (Lib.pow10Tab.map fun z=>D.int .u64 z) else none⟩
@[simp] theorem aPI:Ev.P=Tryz.prog:=id rfl
@[simp] theorem aPe (g:Nat):Ev.G g=if g=5 then some [.int .i64 0,.int .i64 0,.str []] else if g=9∨g=10 then some [.any aGV] else if g=4 then some (Lib.pow10Tab.map fun z=>D.int .u64 z) else none:=rfl
theorem mS:Ev.P.follows .mixedOrders=true:=by kernel_rfl
theorem upv {f:FuncId} {xs:List AV} {B:List Blk} {y:AV} {B':List Blk} (h:Cf En f xs B y B'):Cf Ev f xs B y B' :=
 Cf.more (E:=En) (E':=Ev) rfl (fun g cs e=>by rw [aNx] at e; cases e) h
theorem aJp : Tryz.prog.globalNamed "internal/strconv.uint64pow10" = some 4 := by kernel_rfl
theorem aAG {w:World} {k:Nat} {os:Array Obj}:Below w.heap.size w (grow (w.drewN k) os) :=
 ⟨rfl,rfl,rfl,by simp [grow,World.drewN],fun i hi=>by rw [heap_grow_old _ _ (by simpa [World.drewN] using hi)]; rfl⟩
theorem RC (n:Int) (h0:-9223372036854775808≤n) (h1:n≤9223372036854775807):Cf Ev 87 [.d (.int .i64 n),.d (.int .i64 10)] [] (.d (.str (Lib.itoa n))) []:=by
 refine nZ (by kernel_rfl) fun w g vs hr m=>?_
 simp only [bB,aG,aU] at hr
 obtain ⟨u,us,rfl,rfl,u2,us2,rfl,rfl,rfl⟩:=hr
 refine (Tryz.internal_strconv_FormatInt_10 n h0 h1 w (ZF m aJp rfl)).mono ?_
 rintro e w' ⟨rfl,k,os,rfl⟩
 exact ⟨_,rfl,by simp only [aG,aU],aAG⟩
theorem wB (n:Int) (h0:-9223372036854775808≤n) (h1:n≤9223372036854775807):Cf Ev 50 [.d (.int .i64 n),.d (.int .i64 10)] [] (.d (.str (Lib.itoa n))) []:=by
 refine cI mS (fn:=Tryz.f50) rfl ?_
 simp
 refine gr ?_
 refine aP (RC n h0 h1) ?_
 simp
 all_goals exact gz
theorem BG (b:Bool):Cf Ev 51 [.d (.bool b)] [] (.d (.str (if b=true then tru else fls))) []:=by
 refine cI mS (fn:=Tryz.f51) rfl ?_
 have h:Cf Ev 88 [.d (.bool b)] [] (.d (.str (if b=true then tru else fls))) []:=by
  refine cI mS (fn:=Tryz.f88) rfl ?_
  cases b <;> simp [tru,fls] <;> ((repeat' (first|contradiction|exact .ok|apply And.intro|intro _|(refine gc (fun h=>?_) (fun h=>?_)<;>(have h':=h;(try simp at h');first|done|simp[h,h']|simp)))))
 simp
 refine gr ?_
 refine aP h ?_
 simp
 all_goals exact gz
theorem tX (v:V):Cf Ev 175 [v.a] [] (.d (.str (gC v))) []:=by
 refine cI mS (fn:=Tryz.f175) rfl ?_
 have hv:=upv (nR v)
 have hc:=@jE v
 have hs:=@EG v
 unfold gC
 cases hV:v.valid with
 | false =>
   rw [hV] at hv
   simp [V.a]
   refine gr ?_
   refine aA hv (by simp [V.a]) ?_
   simp
   all_goals exact gz
 | true =>
   rw [hV] at hv
   have hs:=hs hV
   have hi:=fun h0 h1=>wB v.n h0 h1
   have hb:=BG (v.n==1)
   rcases hc hV with rfl | ⟨hk,_,h0,h1⟩ | rfl | rfl | ⟨hk,hn⟩
   ·simp [V.a,cF]
    refine gr ?_
    refine aA hv (by simp [V.a,cF]) ?_
    simp [nul]
    all_goals exact gz
   ·have hi2:=hi (by omega) (by omega)
    clear hi hc
    obtain ⟨k,n,t⟩:=v
    simp only at hk hi2
    subst hk
    simp [V.a]
    refine gr ?_
    refine aA hv (by simp [V.a]) ?_
    simp
    refine gr ?_
    refine aP hi2 ?_
    simp
    all_goals exact gz
   ·simp [V.a]
    refine gr ?_
    refine aA hv (by simp [V.a]) ?_
    simp
    refine gr ?_
    refine aP hb ?_
    simp
    all_goals exact gz
   ·simp [V.a]
    refine gr ?_
    refine aA hv (by simp [V.a]) ?_
    simp
    refine gr ?_
    refine aP hb ?_
    simp
    all_goals exact gz
   ·obtain ⟨k,n,t⟩:=v
    simp only at hk hn hs
    subst hk hn
    have b1:1+t.length≤9223372036854775807:=by omega
    have b2:t.length+1≤9223372036854775807:=by omega
    have b3:t.length+1+1≤9223372036854775807:=by omega
    have b4:1+t.length+1≤9223372036854775807:=by omega
    simp [V.a]
    refine gr ?_
    refine aA hv (by simp [V.a]) ?_
    simp [b1,b3] <;> exact gz
theorem xB (v:V):Cf Ev 134 [v.a] [] (.d (.str (gC v))) []:=by
 refine cI mS (fn:=Tryz.f134) rfl ?_
 have hv:=upv (oY v)
 have hc:=@jE v
 have hs:=@EG v
 unfold gC
 cases hV:v.valid with
 | false =>
   rw [hV] at hv
   simp [V.a]
   refine gr ?_
   refine aA hv (by simp [V.a]) ?_
   simp
   all_goals exact gz
 | true =>
   rw [hV] at hv
   have hs:=hs hV
   have hi:=fun h0 h1=>wB v.n h0 h1
   rcases hc hV with rfl | ⟨hk,_,h0,h1⟩ | rfl | rfl | ⟨hk,hn⟩
   ·simp [V.a,cF]
    refine gr ?_
    refine aA hv (by simp [V.a,cF]) ?_
    simp [nul]
    all_goals exact gz
   ·have hi2:=hi (by omega) (by omega)
    clear hi hc
    obtain ⟨k,n,t⟩:=v
    simp only at hk hi2
    subst hk
    simp [V.a]
    refine gr ?_
    refine aA hv (by simp [V.a]) ?_
    simp
    refine gr ?_
    refine aP hi2 ?_
    simp
    all_goals exact gz
   ·simp [V.a]
    refine gr ?_
    refine aA hv (by simp [V.a]) ?_
    simp [fls]
    all_goals exact gz
   ·simp [V.a]
    refine gr ?_
    refine aA hv (by simp [V.a]) ?_
    simp [tru]
    all_goals exact gz
   ·obtain ⟨k,n,t⟩:=v
    simp only at hk hn hs
    subst hk hn
    have b1:1+t.length≤9223372036854775807:=by omega
    have b2:t.length+1≤9223372036854775807:=by omega
    have b3:t.length+1+1≤9223372036854775807:=by omega
    have b4:1+t.length+1≤9223372036854775807:=by omega
    simp [V.a]
    refine gr ?_
    refine aA hv (by simp [V.a]) ?_
    simp [b1,b3] <;> exact gz
end Go.Proofs.Tryz
namespace Go.Proofs.Tryz
open Go.Ab Go.RowKit
set_option maxRecDepth 100000
set_option maxHeartbeats 1000000
@[simp] theorem aHy:EW Tryz.prog 163=true:=by kernel_rfl
theorem WM {w:World} {g:Gh} {B:List Blk} {bl:Nat→Blk} (m:Mem (cK Ev w g B) bl w g) {i:Nat} (hi:i=9∨i=10):∃ v t x,w.cell? ⟨i,0,none⟩=some v∧v=.iface t x:=by
 have hc:=m.glob i [.any aGV] (by rcases hi with rfl | rfl <;> simp [cK])
 simp only [dT,aU] at hc
 obtain ⟨⟨v,hv,⟨t,x,rfl⟩,_⟩,_⟩:=hc
 exact ⟨_,t,x,m.con _ _ _ hv,rfl⟩
def nI (s:List UInt8):Int×Go.Ab.D:=match Lib.parseIntB 64 s with
 | .ok v=>(v,.val .nilIface)
 | .«syntax»=>(0,.ifn)
 | .range=>(Lib.intSat 64 s,.ifn)
theorem lP (s:List UInt8) (hs:s.length≤1000000):Cf Ev 174 [.d (.str s),.d (.int .i64 10),.d (.int .i64 64)] [] (.tup [.d (.int .i64 (nI s).1),.d (nI s).2]) []:=by
 refine nZ (by kernel_rfl) fun w g vs hr m=>?_
 simp only [bB,aG,aU] at hr
 obtain ⟨u,us,rfl,rfl,u2,us2,rfl,rfl,u3,us3,rfl,rfl,rfl⟩:=hr
 unfold nI
 cases hp:Lib.parseIntB 64 s with
 | ok v =>
   refine (Tryz.strconv_ParseInt_10_at64_ok ⟨s.toArray⟩ (by simp [ByteArray.size_mk']; omega) v hp w).mono ?_
   rintro e w' ⟨rfl,hw⟩
   refine ⟨_,rfl,?_,?_⟩
   ·simp only [aG,bB,aU]
    exact ⟨[.int .i64 v,.nilIface],rfl,.int .i64 v,[.nilIface],rfl,rfl,.nilIface,[],rfl,⟨rfl,rfl⟩,rfl⟩
   ·rcases hw with rfl | ⟨t,rfl⟩
    ·exact Below.refl _ _
    ·exact Lib.bytesWorld_below _ _ _
 | «syntax» =>
   obtain ⟨ev,t,x,h1,h2⟩:=WM m (i:=9) (.inl rfl)
   refine (Tryz.strconv_ParseInt_10_at64_syntax ⟨s.toArray⟩ (by simp [ByteArray.size_mk']; omega) hp ev w h1 (.inr ⟨t,x,h2⟩)).mono ?_
   rintro e w' ⟨N,rfl,_,_,hb⟩
   refine ⟨_,rfl,?_,hb⟩
   simp only [aG,bB,aU]
   exact ⟨[_,_],rfl,_,[_],rfl,rfl,_,[],rfl,⟨_,_,rfl⟩,rfl⟩
 | range =>
   obtain ⟨ev,t,x,h1,h2⟩:=WM m (i:=10) (.inr rfl)
   refine (Tryz.strconv_ParseInt_10_at64_range ⟨s.toArray⟩ (by simp [ByteArray.size_mk']; omega) hp ev w h1 (.inr ⟨t,x,h2⟩)).mono ?_
   rintro e w' ⟨N,rfl,_,_,hb⟩
   refine ⟨_,rfl,?_,hb⟩
   simp only [aG,bB,aU]
   exact ⟨[_,_],rfl,_,[_],rfl,rfl,_,[],rfl,⟨_,_,rfl⟩,rfl⟩
theorem DI (n:Int) (h:n=0∨n=1):Cf Ev 171 [.d (.int .i64 n)] [] (V.mk 2 n []).a []:=by
 refine cI mS (fn:=Tryz.f171) rfl ?_
 rcases h with rfl | rfl <;> simp [V.a] <;> ((repeat' (first|contradiction|exact .ok|apply And.intro|intro _|(refine gc (fun h=>?_) (fun h=>?_)<;>(have h':=h;(try simp at h');first|done|simp[h,h']|simp)))))
theorem QY (n:Int) (h:n=0∨n=1):Cf Ev 80 [.d (.int .i64 n)] [] (V.mk 2 n []).a []:=by
 refine cI mS (fn:=Tryz.f80) rfl ?_
 rcases h with rfl | rfl <;> simp [V.a] <;> ((repeat' (first|contradiction|exact .ok|apply And.intro|intro _|(refine gc (fun h=>?_) (fun h=>?_)<;>(have h':=h;(try simp at h');first|done|simp[h,h']|simp)))))
theorem aDS (s:List UInt8) (h:1≤s.length):(s.take 1==[39])=decide (s.head?=some 39):=by
 cases s with
 | nil=>simp at h
 | cons c s=>simp; rw [Bool.eq_iff_iff]; simp
theorem aBs (s:List UInt8) (hs:s.length≤1000000):Cf Ev 172 [.d (.str s),.d (.str [39])] [] (.d (.bool (decide (s.head?=some 39)))) []:=by
 have h0:Cf Ev 190 [.d (.str s),.d (.str [39])] [] (.d (.bool (decide (s.head?=some 39)))) []:=by
  refine cI mS (fn:=Tryz.f190) rfl ?_
  by_cases h:1≤s.length
  ·have h':(1:Int)≤s.length:=by omega
   have ht:=aDS s h
   simp [h',ht] <;> exact gz
  ·have:s=[]:=List.eq_nil_of_length_eq_zero (by omega)
   subst this
   simp
   all_goals exact gz
 refine cI mS (fn:=Tryz.f172) rfl ?_
 simp
 refine gr ?_
 refine aP h0 ?_
 simp
 all_goals exact gz
theorem aDT (s:List UInt8) (h:1≤s.length):(s.drop (s.length - 1)==[39])=decide (s.getLast?=some 39):=by
 obtain ⟨c,t,rfl⟩:∃ c t,s=t++[c]:=by
  have hne:s ≠ []:=fun e=>by rw [e] at h; simp at h
  exact ⟨s.getLast hne,s.dropLast,(List.dropLast_concat_getLast hne).symm⟩
 rw [List.getLast?_append]
 simp
 rw [Bool.eq_iff_iff]; simp
theorem qA (s:List UInt8) (hs:s.length≤1000000):Cf Ev 173 [.d (.str s),.d (.str [39])] [] (.d (.bool (decide (s.getLast?=some 39)))) []:=by
 have h0:Cf Ev 191 [.d (.str s),.d (.str [39])] [] (.d (.bool (decide (s.getLast?=some 39)))) []:=by
  refine cI mS (fn:=Tryz.f191) rfl ?_
  by_cases h:1≤s.length
  ·have h':(1:Int)≤s.length:=by omega
   have hw:IntKind.i64.wrap ((s.length:Int) - 1)=(s.length:Int) - 1:=aZ (by omega) (by omega)
   have h2:(0:Int)≤(s.length:Int) - 1:=by omega
   have h3:(s.length:Int) - 1≤s.length:=by omega
   have ht:=aDT s h
   have hn:((s.length:Int) - 1).toNat=s.length - 1:=by omega
   simp [h',hw,h3,hn,ht] <;> exact gz
  ·have:s=[]:=List.eq_nil_of_length_eq_zero (by omega)
   subst this
   simp
   all_goals exact gz
 refine cI mS (fn:=Tryz.f173) rfl ?_
 simp
 refine gr ?_
 refine aP h0 ?_
 simp
 all_goals exact gz
end Go.Proofs.Tryz
namespace Go.Proofs.Tryz
open Go.Ab
set_option maxRecDepth 100000
theorem aMH (g:Nat) (cs:List D) (e:Ev.G g=some cs):Es.G g=some cs:=by
 rw [aPe] at e
 rw [aMI,esG]
 split at e
 ·rename_i h; rw [if_pos h]; exact e
 ·rename_i h0
  rw [if_neg h0]
  split at e
  ·rename_i h; rw [if_pos h]; exact e
  ·rename_i h1
   rw [if_neg h1]
   split at e
   ·rename_i h; rw [if_pos h]; exact e
   ·cases e
theorem upw {f:FuncId} {xs:List AV} {B:List Blk} {y:AV} {B':List Blk} (h:Cf Ev f xs B y B'):Cf Es f xs B y B':=Cf.more (E:=Ev) (E':=Es) rfl aMH h
def words:List (List UInt8):=[[115,101,108,101,99,116],[100,105,115,116,105,110,99,116],[97,108,108],[102,114,111,109],[119,104,101,114,101],[103,114,111,117,112],[98,121],[104,97,118,105,110,103],[97,115],[111,110],[117,110,105,111,110],[101,120,99,101,112,116],[105,110,116,101,114,115,101,99,116],[106,111,105,110],[105,110,110,101,114],[108,101,102,116],[114,105,103,104,116],[102,117,108,108],[99,114,111,115,115],[115,101,109,105],[97,110,116,105],[97,110,100],[111,114],[110,111,116],[105,115],[110,117,108,108],[116,114,117,101],[102,97,108,115,101],[105,110],[99,97,115,101],[119,104,101,110],[116,104,101,110],[101,108,115,101],[101,110,100],[118,97,108,117,101,115],[116,97,98,108,101],[112,114,105,109,97,114,121],[117,110,105,113,117,101],[102,111,114,101,105,103,110],[114,101,102,101,114,101,110,99,101,115],[99,104,101,99,107],[105,110,116],[98,111,111,108],[116,101,120,116],[99,111,117,110,116],[115,117,109],[109,105,110],[109,97,120],[99,111,97,108,101,115,99,101],[108,101,110,103,116,104],[115,97,109,101],[109,111,100]]
theorem aDk {w:World} {g:Gh} {B:List Blk} {bl:Nat→Blk} (m:Mem (cK Es w g B) bl w g):∃ n,w.cell? ⟨6,0,none⟩=some (.int .i64 n):=by
 have hc:=m.glob 6 [.any aFh] (by simp [cK,esG])
 simp only [dT,aU] at hc
 obtain ⟨⟨v,hv,⟨n,rfl⟩,_⟩,_⟩:=hc
 exact ⟨n,m.con _ _ _ hv⟩
theorem ZN (s sub:List UInt8) (hs:s.length<4294967281):Cf Es 125 [.d (.str s),.d (.str sub)] [] (.d (.bool (nA sub s))) []:=by
 refine nZ (by kernel_rfl) fun w g vs hr m=>?_
 obtain ⟨_,_,rfl,r1,_,_,rfl,r2,r3⟩:=hr
 simp only [bB] at r3
 subst r3
 simp only [aG,aU] at r1 r2
 subst r1 r2
 obtain ⟨n,hn⟩:=aDk m
 refine (Tryz.strings_Contains _ _ n w (by simpa [ByteArray.size_mk'] using hs) hn).mono ?_
 rintro e w' ⟨rfl,rfl⟩
 refine ⟨_,rfl,?_,.refl _ _⟩
 simp only [aG,aU,Lib.contains,AE]
theorem aBH (F:FuncId) (a b:List Tm) (hn:a.length≤9223372036854775807) (h:∀ x∈a,∀ y∈b,Cf En F [x.a,y.a] [] (.d (.bool (x.eq y))) []) :
  Cf En 126 [.d (.sl (a.map Tm.c)),.d (.sl (b.map Tm.c)),.clo F []] [] (.d (.bool (cE Tm.eq a b))) []:=by
 refine cI fQ (fn:=Tryz.f126) rfl ?_
 by_cases hl:a.length=b.length
 ·have hl':(a.length:Int)=b.length:=by omega
  generalize hres:cE Tm.eq a b=res
  simp [hl]
  refine ⟨.ok,.ok,.ok,?_⟩
  refine aL fQ (fun i:Nat=>{ s:=eP [(1,.d (.sl (b.map Tm.c))),(2,.clo F []),(15,.d (.sl (a.map Tm.c))),(16,.d (.int .i64 b.length)),(17,.d (.int .i64 i))],b:=eG [] }) (fun i:Nat=>i≤b.length∧cE Tm.eq (a.drop i) (b.drop i)=res) (fun i=>b.length - i) 0 (by simp [hres]) (aJ _ [] .nil (by simp)) ?_
  rintro i ⟨hi,ho⟩
  by_cases hlt:i<b.length
  ·have hlt':(i:Int)<b.length:=by omega
   have hla:i<a.length:=by omega
   have hg:a[i]?=some a[i]:=gE hla
   have hg2:b[i]?=some b[i]:=gE hlt
   have hd:=kL (f:=Tm.eq) hg hg2
   have c1:=Tm.clen a[i]
   have c2:=Tm.clen b[i]
   have k1:=Tm.ctake a[i]
   have k2:=Tm.ctake b[i]
   simp [hlt,hlt',hla,c1,c2,k1,k2]
   refine ⟨.ok,.ok,.ok,?_⟩
   refine aA (h a[i] (List.getElem_mem hla) b[i] (List.getElem_mem hlt)) (by simp [Tm.a]) ?_
   simp
   refine ⟨.ok,fun h=>⟨.ok,?_⟩,fun h=>⟨.ok,i+1,⟨hlt,?_⟩,?_,?_⟩⟩
   ·rw [← ho,hd,h]; rfl
   ·rw [← ho,hd,h]; rfl
   ·refine aJ _ [] .nil ?_
    simp
    exact aZ (by omega) (by omega)
   ·simp; omega
  ·have hlt':¬ (i:Int)<b.length:=by omega
   simp [hlt']
   refine ⟨.ok,.ok,?_⟩
   rw [← ho,lY (by omega) (by omega)]
 ·have hl':¬ (a.length:Int)=b.length:=by omega
  rw [kT a b hl]
  simp [hl']
  exact ⟨.ok,.ok,.of (by kernel_rfl)⟩
theorem aIS (F:FuncId) (a b:List It) (hn:a.length≤9223372036854775807) (h:∀ x∈a,∀ y∈b,Cf En F [x.a,y.a] [] (.d (.bool (x.eq y))) []) :
  Cf En 153 [.d (.sl (a.map It.c)),.d (.sl (b.map It.c)),.clo F []] [] (.d (.bool (cE It.eq a b))) []:=by
 refine cI fQ (fn:=Tryz.f153) rfl ?_
 by_cases hl:a.length=b.length
 ·have hl':(a.length:Int)=b.length:=by omega
  generalize hres:cE It.eq a b=res
  simp [hl]
  refine ⟨.ok,.ok,.ok,?_⟩
  refine aL fQ (fun i:Nat=>{ s:=eP [(1,.d (.sl (b.map It.c))),(2,.clo F []),(15,.d (.sl (a.map It.c))),(16,.d (.int .i64 b.length)),(17,.d (.int .i64 i))],b:=eG [] }) (fun i:Nat=>i≤b.length∧cE It.eq (a.drop i) (b.drop i)=res) (fun i=>b.length - i) 0 (by simp [hres]) (aJ _ [] .nil (by simp)) ?_
  rintro i ⟨hi,ho⟩
  by_cases hlt:i<b.length
  ·have hlt':(i:Int)<b.length:=by omega
   have hla:i<a.length:=by omega
   have hg:a[i]?=some a[i]:=gE hla
   have hg2:b[i]?=some b[i]:=gE hlt
   have hd:=kL (f:=It.eq) hg hg2
   have c1:=It.clen a[i]
   have c2:=It.clen b[i]
   have k1:=It.ctake a[i]
   have k2:=It.ctake b[i]
   simp [hlt,hlt',hla,c1,c2,k1,k2]
   refine ⟨.ok,.ok,.ok,?_⟩
   refine aA (h a[i] (List.getElem_mem hla) b[i] (List.getElem_mem hlt)) (by simp [It.a]) ?_
   simp
   refine ⟨.ok,fun h=>⟨.ok,?_⟩,fun h=>⟨.ok,i+1,⟨hlt,?_⟩,?_,?_⟩⟩
   ·rw [← ho,hd,h]; rfl
   ·rw [← ho,hd,h]; rfl
   ·refine aJ _ [] .nil ?_
    simp
    exact aZ (by omega) (by omega)
   ·simp; omega
  ·have hlt':¬ (i:Int)<b.length:=by omega
   simp [hlt']
   refine ⟨.ok,.ok,?_⟩
   rw [← ho,lY (by omega) (by omega)]
 ·have hl':¬ (a.length:Int)=b.length:=by omega
  rw [kT a b hl]
  simp [hl']
  exact ⟨.ok,.ok,.of (by kernel_rfl)⟩
theorem aIT (F:FuncId) (a b:List Jo) (hn:a.length≤9223372036854775807) (h:∀ x∈a,∀ y∈b,Cf En F [x.a,y.a] [] (.d (.bool (x.eq y))) []) :
  Cf En 154 [.d (.sl (a.map Jo.c)),.d (.sl (b.map Jo.c)),.clo F []] [] (.d (.bool (cE Jo.eq a b))) []:=by
 refine cI fQ (fn:=Tryz.f154) rfl ?_
 by_cases hl:a.length=b.length
 ·have hl':(a.length:Int)=b.length:=by omega
  generalize hres:cE Jo.eq a b=res
  simp [hl]
  refine ⟨.ok,.ok,.ok,?_⟩
  refine aL fQ (fun i:Nat=>{ s:=eP [(1,.d (.sl (b.map Jo.c))),(2,.clo F []),(15,.d (.sl (a.map Jo.c))),(16,.d (.int .i64 b.length)),(17,.d (.int .i64 i))],b:=eG [] }) (fun i:Nat=>i≤b.length∧cE Jo.eq (a.drop i) (b.drop i)=res) (fun i=>b.length - i) 0 (by simp [hres]) (aJ _ [] .nil (by simp)) ?_
  rintro i ⟨hi,ho⟩
  by_cases hlt:i<b.length
  ·have hlt':(i:Int)<b.length:=by omega
   have hla:i<a.length:=by omega
   have hg:a[i]?=some a[i]:=gE hla
   have hg2:b[i]?=some b[i]:=gE hlt
   have hd:=kL (f:=Jo.eq) hg hg2
   have c1:=Jo.clen a[i]
   have c2:=Jo.clen b[i]
   have k1:=Jo.ctake a[i]
   have k2:=Jo.ctake b[i]
   simp [hlt,hlt',hla,c1,c2,k1,k2]
   refine ⟨.ok,.ok,.ok,?_⟩
   refine aA (h a[i] (List.getElem_mem hla) b[i] (List.getElem_mem hlt)) (by simp [Jo.a]) ?_
   simp
   refine ⟨.ok,fun h=>⟨.ok,?_⟩,fun h=>⟨.ok,i+1,⟨hlt,?_⟩,?_,?_⟩⟩
   ·rw [← ho,hd,h]; rfl
   ·rw [← ho,hd,h]; rfl
   ·refine aJ _ [] .nil ?_
    simp
    exact aZ (by omega) (by omega)
   ·simp; omega
  ·have hlt':¬ (i:Int)<b.length:=by omega
   simp [hlt']
   refine ⟨.ok,.ok,?_⟩
   rw [← ho,lY (by omega) (by omega)]
 ·have hl':¬ (a.length:Int)=b.length:=by omega
  rw [kT a b hl]
  simp [hl']
  exact ⟨.ok,.ok,.of (by kernel_rfl)⟩
theorem aBI (F:FuncId) (a b:List Sm) (hn:a.length≤9223372036854775807) (h:∀ x∈a,∀ y∈b,Cf En F [x.a,y.a] [] (.d (.bool (x.eq y))) []) :
  Cf En 155 [.d (.sl (a.map Sm.c)),.d (.sl (b.map Sm.c)),.clo F []] [] (.d (.bool (cE Sm.eq a b))) []:=by
 refine cI fQ (fn:=Tryz.f155) rfl ?_
 by_cases hl:a.length=b.length
 ·have hl':(a.length:Int)=b.length:=by omega
  generalize hres:cE Sm.eq a b=res
  simp [hl]
  refine ⟨.ok,.ok,.ok,?_⟩
  refine aL fQ (fun i:Nat=>{ s:=eP [(1,.d (.sl (b.map Sm.c))),(2,.clo F []),(15,.d (.sl (a.map Sm.c))),(16,.d (.int .i64 b.length)),(17,.d (.int .i64 i))],b:=eG [] }) (fun i:Nat=>i≤b.length∧cE Sm.eq (a.drop i) (b.drop i)=res) (fun i=>b.length - i) 0 (by simp [hres]) (aJ _ [] .nil (by simp)) ?_
  rintro i ⟨hi,ho⟩
  by_cases hlt:i<b.length
  ·have hlt':(i:Int)<b.length:=by omega
   have hla:i<a.length:=by omega
   have hg:a[i]?=some a[i]:=gE hla
   have hg2:b[i]?=some b[i]:=gE hlt
   have hd:=kL (f:=Sm.eq) hg hg2
   have c1:=Sm.clen a[i]
   have c2:=Sm.clen b[i]
   have k1:=Sm.ctake a[i]
   have k2:=Sm.ctake b[i]
   simp [hlt,hlt',hla,c1,c2,k1,k2]
   refine ⟨.ok,.ok,.ok,?_⟩
   refine aA (h a[i] (List.getElem_mem hla) b[i] (List.getElem_mem hlt)) (by simp [Sm.a]) ?_
   simp
   refine ⟨.ok,fun h=>⟨.ok,?_⟩,fun h=>⟨.ok,i+1,⟨hlt,?_⟩,?_,?_⟩⟩
   ·rw [← ho,hd,h]; rfl
   ·rw [← ho,hd,h]; rfl
   ·refine aJ _ [] .nil ?_
    simp
    exact aZ (by omega) (by omega)
   ·simp; omega
  ·have hlt':¬ (i:Int)<b.length:=by omega
   simp [hlt']
   refine ⟨.ok,.ok,?_⟩
   rw [← ho,lY (by omega) (by omega)]
 ·have hl':¬ (a.length:Int)=b.length:=by omega
  rw [kT a b hl]
  simp [hl']
  exact ⟨.ok,.ok,.of (by kernel_rfl)⟩
mutual
/-- Lists that a program can hold. -/
def Tm.fits:Tm→Prop
 | .mk _ _ _ _ _ ks=>ks.length≤9223372036854775807∧cC ks
def cC:List Tm→Prop
 | []=>True
 | e::es=>e.fits∧cC es
end
theorem dL:∀ l:List Tm,cC l→∀ e∈l,e.fits
 | x::xs,h,e,he=>by
   rw [cC] at h
   rcases List.mem_cons.1 he with rfl | he
   ·exact h.1
   ·exact dL xs h.2 e he
mutual
def Sm.fits:Sm→Prop
 | .mk _ _ _ _ is _ fq _ js w g h ks=>(is.length≤9223372036854775807∧cC (is.map It.t))∧(fq.length≤9223372036854775807∧mJ fq)∧(js.length≤9223372036854775807∧iI js)∧(w.length≤9223372036854775807∧cC w)∧(g.length≤9223372036854775807∧cC g)∧(h.length≤9223372036854775807∧cC h)∧(ks.length≤9223372036854775807∧mJ ks)
def Jo.fits:Jo→Prop
 | .mk _ _ q _ o=>(q.length≤9223372036854775807∧mJ q)∧(o.length≤9223372036854775807∧cC o)
def mJ:List Sm→Prop
 | []=>True
 | e::es=>e.fits∧mJ es
def iI:List Jo→Prop
 | []=>True
 | e::es=>e.fits∧iI es
end
theorem dB:∀ l:List Sm,mJ l→∀ e∈l,e.fits
 | x::xs,h,e,he=>by
   rw [mJ] at h
   rcases List.mem_cons.1 he with rfl | he
   ·exact h.1
   ·exact dB xs h.2 e he
theorem jB:∀ l:List Jo,iI l→∀ e∈l,e.fits
 | x::xs,h,e,he=>by
   rw [iI] at h
   rcases List.mem_cons.1 he with rfl | he
   ·exact h.1
   ·exact jB xs h.2 e he
theorem pT {l:List It} (h:cC (l.map It.t)) {i:It} (hi:i∈l):i.t.fits:=dL _ h _ (List.mem_map_of_mem hi)
mutual
/-- Lists of at fY 10000 elements. -/
def Sm.small:Sm→Prop
 | .mk _ _ _ _ is _ fq _ js w g h ks=>is.length≤10000∧js.length≤10000∧w.length≤10000∧g.length≤10000∧h.length≤10000∧lB fq∧gX js∧lB ks
def Jo.small:Jo→Prop
 | .mk _ _ q _ o=>o.length≤10000∧lB q
def lB:List Sm→Prop
 | []=>True
 | e::es=>e.small∧lB es
def gX:List Jo→Prop
 | []=>True
 | e::es=>e.small∧gX es
end
theorem oW:∀ l:List Sm,lB l→∀ e∈l,e.small
 | x::xs,h,e,he=>by
   rw [lB] at h
   rcases List.mem_cons.1 he with rfl | he
   ·exact h.1
   ·exact oW xs h.2 e he
theorem tM:∀ l:List Jo,gX l→∀ e∈l,e.small
 | x::xs,h,e,he=>by
   rw [gX] at h
   rcases List.mem_cons.1 he with rfl | he
   ·exact h.1
   ·exact tM xs h.2 e he
theorem eT:∀ a b:List Tm,cC a→cC b→cC (a++b)
 | [],b,_,h=>h
 | x::xs,b,h,h'=>by
   rw [cC] at h
   rw [List.cons_append,cC]
   exact ⟨h.1,eT xs b h.2 h'⟩
theorem tT:∀ (m:Nat) (x y:Tm),SizeOf.sizeOf x<m→x.fits→Cf En 85 [x.a,y.a] [] (.d (.bool (x.eq y))) []
 | 0,_,_,h,_=>absurd h (by omega)
 | m+1,.mk o y n t q ks,.mk o' y' n' t' q' ks',hm,hfit=>by
   refine cI fQ (fn:=Tryz.f85) rfl ?_
   rw [Tm.fits] at hfit
   have hq:=aBH 85 ks ks' hfit.1 fun x hx z _=>tT m x z (by
    have:=Tm.kid_lt (e:=.mk o y n t q ks) (k:=x) hx
    omega) (dL ks hfit.2 x hx)
   rw [Tm.eq,vY]
   simp [Tm.a,Tm.c,aS]<;>(repeat' first|contradiction|exact .ok|apply And.intro|intro _|(apply gc<;>simp+contextual))
   all_goals first | (refine aP hq ?_; simp; (repeat' (first | contradiction | exact .of (by kernel_rfl) | refine And.intro ?_ ?_ | intro _ | (refine aI (fun h=>?_) (fun h=>?_) <;> (have h':=h; (try simp at h'); first | done | simp [h,h'] | simp))))) | skip
   all_goals simp_all
theorem rF (a b:List Tm) (hn:a.length≤9223372036854775807) (h:cC a):Cf En 126 [.d (.sl (a.map Tm.c)),.d (.sl (b.map Tm.c)),.clo 85 []] [] (.d (.bool (cE Tm.eq a b))) [] :=
 aBH _ a b hn fun x hx y _=>tT _ x y (Nat.lt_succ_self _) (dL a h x hx)
theorem aAu (x y:It) (hx:x.t.fits):Cf En 150 [x.a,y.a] [] (.d (.bool (x.eq y))) []:=by
 refine cI fQ (fn:=Tryz.f150) rfl ?_
 have hq:=tT _ x.t y.t (Nat.lt_succ_self _) hx
 obtain ⟨t,n⟩:=x
 obtain ⟨t',n'⟩:=y
 have c1:=Tm.clen t
 have c2:=Tm.clen t'
 have k1:=Tm.ctake' t
 have k2:=Tm.ctake' t'
 have g1:(t.c++[D.str n])[6]?=some (.str n):=by rw [List.getElem?_append_right (by omega),c1]; rfl
 have g2:(t'.c++[D.str n'])[6]?=some (.str n'):=by rw [List.getElem?_append_right (by omega),c2]; rfl
 unfold It.eq
 simp [It.a,It.c,c1,c2]<;>(repeat' first|contradiction|exact .ok|apply And.intro|intro _|(apply gc<;>simp+contextual[c1,c2]))
 all_goals first | (refine aA hq (by simp [Tm.a]) ?_; simp; (repeat' (first | contradiction | exact .of (by kernel_rfl) | refine And.intro ?_ ?_ | intro _ | (refine aI (fun h=>?_) (fun h=>?_) <;> (have h':=h; (try simp at h'); first | done | simp [h,h'] | simp))))) | skip
 all_goals simp_all
theorem BB (t:List UInt8) (q:List Sm) (n:List UInt8) (t':List UInt8) (q':List Sm) (n':List UInt8) (hn:q.length≤9223372036854775807) (h:∀ x∈q,∀ y∈q',Cf En 109 [x.a,y.a] [] (.d (.bool (x.eq y))) []) :
  Cf En 152 [jJ t q n,jJ t' q' n'] [] (.d (.bool (JY t q n t' q' n'))) []:=by
 refine cI fQ (fn:=Tryz.f152) rfl ?_
 have hq:=aBI 109 q q' hn h
 unfold JY
 rw [kM]
 simp [jJ,kK,aE]<;>(repeat' first|contradiction|exact .ok|apply And.intro|intro _|(apply gc<;>simp+contextual))
 all_goals first | (refine aP hq ?_; simp; (repeat' (first | contradiction | exact .of (by kernel_rfl) | refine And.intro ?_ ?_ | intro _ | (refine aI (fun h=>?_) (fun h=>?_) <;> (have h':=h; (try simp at h'); first | done | simp [h,h'] | simp))))) | skip
 all_goals simp_all
theorem aAv (x y:Jo) (hx:x.fits) (h:∀ a∈x.qs,∀ b∈y.qs,Cf En 109 [a.a,b.a] [] (.d (.bool (a.eq b))) []):Cf En 151 [x.a,y.a] [] (.d (.bool (x.eq y))) []:=by
 refine cI fQ (fn:=Tryz.f151) rfl ?_
 obtain ⟨k,t,q,n,o⟩:=x
 obtain ⟨k',t',q',n',o'⟩:=y
 rw [Jo.fits] at hx
 have hq:=BB t q n t' q' n' hx.1.1 h
 have ho:=rF o o' hx.2.1 hx.2.2
 rw [Jo.eq]
 simp [Jo.a,Jo.c]<;>(repeat' first|contradiction|exact .ok|apply And.intro|intro _|(apply gc<;>simp+contextual))
 all_goals first | (refine aA hq (by simp [jJ,kK]) ?_; simp; (repeat' (first | contradiction | exact .of (by kernel_rfl) | refine And.intro ?_ ?_ | intro _ | (refine aI (fun h=>?_) (fun h=>?_) <;> (have h':=h; (try simp at h'); first | done | simp [h] | simp))))) | skip
 all_goals first | (refine aP ho ?_; simp; (repeat' (first | contradiction | exact .of (by kernel_rfl) | refine And.intro ?_ ?_ | intro _ | (refine aI (fun h=>?_) (fun h=>?_) <;> (have h':=h; (try simp at h'); first | done | simp [h,h'] | simp))))) | skip
 all_goals simp_all [JY]
theorem sT {l:List Int} {i:Nat} {x:Int} (h:l[i]?=some x):(if fY (l.take i)<x then x else fY (l.take i))=fY (l.take (i+1)):=by
 rw [pH h]
 split <;> omega
theorem lG {l:List Int} {i:Nat} (h:l.length≤i):fY (l.take i)=fY l:=by rw [List.take_of_length_le h]
theorem vS:∀ (m:Nat) (x:Tm),SizeOf.sizeOf x<m→x.fits→Cf En 32 [x.a] [] (.d (.int .i64 x.dep)) []
 | 0,_,h,_=>absurd h (by omega)
 | m+1,.mk o y n t q ks,hm,hfit=>by
   refine cI fQ (fn:=Tryz.f32) rfl ?_
   rw [Tm.fits] at hfit
   have hq:=fun (x:Tm) (hx:x∈ks)=>vS m x (by
    have:=Tm.kid_lt (e:=.mk o y n t q ks) (k:=x) hx
    omega) (dL ks hfit.2 x hx)
   have hl:=hfit.1
   rw [Tm.dep,dZ]
   simp [Tm.a,Tm.c,aS]
   refine ⟨.ok,.ok,.ok,?_⟩
   refine aL fQ (fun i:Nat=>{ s:=eP [(1,.ptr 1 0 0),(3,.d (.int .i64 (fY ((ks.map Tm.dep).take i)))),(7,.d (.sl (ks.map Tm.c))),(8,.d (.int .i64 ks.length)),(9,.d (.int .i64 i))],b:=eG [(1,1,.var (Tm.a (.mk o y n t q ks)).cells)] }) (fun i:Nat=>i≤ks.length) (fun i=>ks.length - i) 0 (by simp) (aJ _ _ ⟨by simp,by simp,by simp [aD,Blk.live,Tm.a,Tm.c,aS],by simp⟩ (by simp [aD,fY])) ?_
   rintro i hi
   by_cases hlt:i<ks.length
   ·have hlt':(i:Int)<ks.length:=by omega
    have hg:ks[i]?=some ks[i]:=gE hlt
    have hk:=sT (l:=ks.map Tm.dep) (i:=i) (x:=ks[i].dep) (by rw [List.getElem?_map,hg]; rfl)
    have c1:=Tm.clen ks[i]
    have k1:=Tm.ctake ks[i]
    simp [Tm.a,Tm.c,aS,hlt,hlt',c1,k1]
    refine ⟨.ok,.ok,?_⟩
    refine aA (hq ks[i] (List.getElem_mem hlt)) (by simp [Tm.a]) ?_
    simp
    refine ⟨.ok,.ok,i+1,hlt,?_,?_⟩
    ·refine sM _ [(1,1,_)] (by simp [aD,Blk.live,aS]) ?_
     simp [aD]
     exact ⟨hk,aZ (by omega) (by omega)⟩
    ·simp; omega
   ·have hlt':¬ (i:Int)<ks.length:=by omega
    have hall:=lG (l:=ks.map Tm.dep) (i:=i) (by simp; omega)
    simp [Tm.a,Tm.c,aS,hlt,hlt',yO,hall]
    exact ⟨.ok,.of (by kernel_rfl)⟩
theorem vT:∀ (m:Nat) (x:Tm),SizeOf.sizeOf x<m→x.fits→Cf En 25 [x.a] [] (.d (.int .i64 x.dep)) []
 | 0,_,h,_=>absurd h (by omega)
 | m+1,.mk o y n t q ks,hm,hfit=>by
   refine cI fQ (fn:=Tryz.f25) rfl ?_
   rw [Tm.fits] at hfit
   have hq:=fun (x:Tm) (hx:x∈ks)=>vT m x (by
    have:=Tm.kid_lt (e:=.mk o y n t q ks) (k:=x) hx
    omega) (dL ks hfit.2 x hx)
   have hl:=hfit.1
   rw [Tm.dep,dZ]
   simp [Tm.a,Tm.c,aS]
   refine ⟨.ok,.ok,.ok,?_⟩
   refine aL fQ (fun i:Nat=>{ s:=eP [(1,.ptr 1 0 0),(3,.d (.int .i64 (fY ((ks.map Tm.dep).take i)))),(4,.d (.int .i64 i))],b:=eG [(1,1,.var (Tm.a (.mk o y n t q ks)).cells)] }) (fun i:Nat=>i≤ks.length) (fun i=>ks.length - i) 0 (by simp) (aJ _ _ ⟨by simp,by simp,by simp [aD,Blk.live,Tm.a,Tm.c,aS],by simp⟩ (by simp [aD,fY])) ?_
   rintro i hi
   by_cases hlt:i<ks.length
   ·have hlt':(i:Int)<ks.length:=by omega
    have hg:ks[i]?=some ks[i]:=gE hlt
    have hk:=sT (l:=ks.map Tm.dep) (i:=i) (x:=ks[i].dep) (by rw [List.getElem?_map,hg]; rfl)
    have c1:=Tm.clen ks[i]
    have k1:=Tm.ctake ks[i]
    simp [Tm.a,Tm.c,aS,hlt,hlt',c1,k1]
    refine ⟨.ok,?_⟩
    refine aA (hq ks[i] (List.getElem_mem hlt)) (by simp [Tm.a]) ?_
    simp
    refine ⟨.ok,.ok,i+1,hlt,?_,?_⟩
    ·refine sM _ [(1,1,_)] (by simp [aD,Blk.live,aS]) ?_
     simp [aD]
     exact ⟨hk,aZ (by omega) (by omega)⟩
    ·simp; omega
   ·have hlt':¬ (i:Int)<ks.length:=by omega
    have hall:=lG (l:=ks.map Tm.dep) (i:=i) (by simp; omega)
    simp [Tm.a,Tm.c,aS,hlt,hlt',yO,hall]
    exact ⟨.ok,.of (by kernel_rfl)⟩
theorem wZ (l:List Tm) (hl:l.length≤9223372036854775807) (hf:cC l):Cf En 74 [.d (.sl (l.map Tm.c))] [] (.d (.int .i64 (aAF l))) []:=by
 refine cI fQ (fn:=Tryz.f74) rfl ?_
 rw [dZ]
 simp
 refine ⟨.ok,.ok,.ok,?_⟩
 refine aL fQ (fun i:Nat=>{ s:=eP [(0,.d (.sl (l.map Tm.c))),(3,.d (.int .i64 (fY ((l.map Tm.dep).take i)))),(4,.d (.int .i64 i))],b:=eG [] }) (fun i:Nat=>i≤l.length) (fun i=>l.length - i) 0 (by simp) (aJ _ [] .nil (by simp [fY])) ?_
 rintro i hi
 by_cases hlt:i<l.length
 ·have hlt':(i:Int)<l.length:=by omega
  have hg:l[i]?=some l[i]:=gE hlt
  have hk:=sT (l:=l.map Tm.dep) (i:=i) (x:=l[i].dep) (by rw [List.getElem?_map,hg]; rfl)
  have c1:=Tm.clen l[i]
  have k1:=Tm.ctake l[i]
  simp [hlt,hlt',c1,k1]
  refine ⟨.ok,?_⟩
  refine aA (vT _ l[i] (Nat.lt_succ_self _) (dL l hf _ (List.getElem_mem hlt))) (by simp [Tm.a]) ?_
  simp
  refine ⟨.ok,.ok,i+1,hlt,?_,?_⟩
  ·refine aJ _ [] .nil ?_
   simp
   exact ⟨hk,aZ (by omega) (by omega)⟩
  ·simp; omega
 ·have hlt':¬ (i:Int)<l.length:=by omega
  have hall:=lG (l:=l.map Tm.dep) (i:=i) (by simp; omega)
  simp [hlt,hlt',hall]
  exact ⟨.ok,.of (by kernel_rfl)⟩
theorem JP (l:List Sm) (hl:l.length≤9223372036854775807) (h:∀ x∈l,Cf En 39 [x.a] [] (.d (.int .i64 x.dep)) []):Cf En 73 [.d (.sl (l.map Sm.c))] [] (.d (.int .i64 (kN l))) []:=by
 refine cI fQ (fn:=Tryz.f73) rfl ?_
 rw [mA]
 simp
 refine ⟨.ok,.ok,.ok,?_⟩
 refine aL fQ (fun i:Nat=>{ s:=eP [(0,.d (.sl (l.map Sm.c))),(3,.d (.int .i64 (fY ((l.map Sm.dep).take i)))),(4,.d (.int .i64 i))],b:=eG [] }) (fun i:Nat=>i≤l.length) (fun i=>l.length - i) 0 (by simp) (aJ _ [] .nil (by simp [fY])) ?_
 rintro i hi
 by_cases hlt:i<l.length
 ·have hlt':(i:Int)<l.length:=by omega
  have hg:l[i]?=some l[i]:=gE hlt
  have hk:=sT (l:=l.map Sm.dep) (i:=i) (x:=l[i].dep) (by rw [List.getElem?_map,hg]; rfl)
  have c1:=Sm.clen l[i]
  have k1:=Sm.ctake l[i]
  simp [hlt,hlt',c1,k1]
  refine ⟨.ok,?_⟩
  refine aA (h l[i] (List.getElem_mem hlt)) (by simp [Sm.a]) ?_
  simp
  refine ⟨.ok,.ok,i+1,hlt,?_,?_⟩
  ·refine aJ _ [] .nil ?_
   simp
   exact ⟨hk,aZ (by omega) (by omega)⟩
  ·simp; omega
 ·have hlt':¬ (i:Int)<l.length:=by omega
  have hall:=lG (l:=l.map Sm.dep) (i:=i) (by simp; omega)
  simp [hlt,hlt',hall]
  exact ⟨.ok,.of (by kernel_rfl)⟩
theorem EH (a b:List Tm) (hn:a.length≤9223372036854775807) (h:∀ x∈a,∀ y∈b,Cf En 11 [x.a,y.a] [] (.d (.bool (x.eq y))) []) :
  Cf En 33 [.d (.sl (a.map Tm.c)),.d (.sl (b.map Tm.c))] [] (.d (.bool (cE Tm.eq a b))) []:=by
 refine cI fQ (fn:=Tryz.f33) rfl ?_
 by_cases hl:a.length=b.length
 ·have hl':(a.length:Int)=b.length:=by omega
  generalize hres:cE Tm.eq a b=res
  simp [hl]
  refine ⟨.of (by kernel_rfl),.of (by kernel_rfl),.of (by kernel_rfl),?_⟩
  refine aL fQ (fun i:Nat=>{ s:=eP [(0,.d (.sl (a.map Tm.c))),(1,.d (.sl (b.map Tm.c))),(5,.d (.int .i64 i))],b:=eG [] }) (fun i:Nat=>i≤b.length∧cE Tm.eq (a.drop i) (b.drop i)=res) (fun i=>b.length - i) 0 (by simp [hres]) (aJ _ [] .nil (by simp)) ?_
  rintro i ⟨hi,ho⟩
  by_cases hlt:i<b.length
  ·have hlt':(i:Int)<b.length:=by omega
   have hla:i<a.length:=by omega
   have hg:a[i]?=some a[i]:=gE hla
   have hg2:b[i]?=some b[i]:=gE hlt
   have hd:=kL (f:=Tm.eq) hg hg2
   have c1:=Tm.clen a[i]
   have c2:=Tm.clen b[i]
   have k1:=Tm.ctake a[i]
   have k2:=Tm.ctake b[i]
   simp [hl,hlt,hlt',c1,c2,k1,k2]
   refine ⟨.of (by kernel_rfl),?_⟩
   refine aA (h a[i] (List.getElem_mem hla) b[i] (List.getElem_mem hlt)) (by simp [Tm.a]) ?_
   simp
   refine ⟨.of (by kernel_rfl),fun h=>⟨.of (by kernel_rfl),?_⟩,fun h=>⟨.of (by kernel_rfl),i+1,⟨hlt,?_⟩,?_,?_⟩⟩
   ·rw [← ho,hd,h]; rfl
   ·rw [← ho,hd,h]; rfl
   ·refine aJ _ [] .nil ?_
    simp
    exact aZ (by omega) (by omega)
   ·simp; omega
  ·have hlt':¬ (i:Int)<b.length:=by omega
   simp [hl,hlt,hlt']
   refine ⟨.of (by kernel_rfl),.of (by kernel_rfl),?_⟩
   rw [← ho,lY (by omega) (by omega)]
 ·have hl':¬ (a.length:Int)=b.length:=by omega
  rw [kT a b hl]
  simp [hl']
  exact ⟨.of (by kernel_rfl),.of (by kernel_rfl),.of (by kernel_rfl)⟩
theorem yK:∀ (m:Nat) (x y:Tm),SizeOf.sizeOf x<m→x.fits→Cf En 11 [x.a,y.a] [] (.d (.bool (x.eq y))) []
 | 0,_,_,h,_=>absurd h (by omega)
 | m+1,.mk o y n t q ks,.mk o' y' n' t' q' ks',hm,hfit=>by
   refine cI fQ (fn:=Tryz.f11) rfl ?_
   rw [Tm.fits] at hfit
   have hq:=EH ks ks' hfit.1 fun x hx z _=>yK m x z (by
    have:=Tm.kid_lt (e:=.mk o y n t q ks) (k:=x) hx
    omega) (dL ks hfit.2 x hx)
   rw [Tm.eq,vY]
   simp [Tm.a,Tm.c,aS]<;>(repeat' first|contradiction|exact .ok|apply And.intro|intro _|(apply gc<;>simp+contextual))
   all_goals first | (refine aP hq ?_; simp; (repeat' (first | contradiction | exact .of (by kernel_rfl) | refine And.intro ?_ ?_ | intro _ | (refine aI (fun h=>?_) (fun h=>?_) <;> (have h':=h; (try simp at h'); first | done | simp [h,h'] | simp))))) | skip
   all_goals simp_all
theorem AS (a b:List Tm) (hn:a.length≤9223372036854775807) (h:cC a):Cf En 33 [.d (.sl (a.map Tm.c)),.d (.sl (b.map Tm.c))] [] (.d (.bool (cE Tm.eq a b))) [] :=
 EH a b hn fun x hx y _=>yK _ x y (Nat.lt_succ_self _) (dL a h x hx)
theorem sQ (a b:List Sm) (hn:a.length≤9223372036854775807) (h:∀ x∈a,∀ y∈b,Cf En 17 [x.a,y.a] [] (.d (.bool (x.eq y))) []) :
  Cf En 42 [.d (.sl (a.map Sm.c)),.d (.sl (b.map Sm.c))] [] (.d (.bool (cE Sm.eq a b))) []:=by
 refine cI fQ (fn:=Tryz.f42) rfl ?_
 by_cases hl:a.length=b.length
 ·have hl':(a.length:Int)=b.length:=by omega
  generalize hres:cE Sm.eq a b=res
  simp [hl]
  refine ⟨.of (by kernel_rfl),.of (by kernel_rfl),.of (by kernel_rfl),?_⟩
  refine aL fQ (fun i:Nat=>{ s:=eP [(0,.d (.sl (a.map Sm.c))),(1,.d (.sl (b.map Sm.c))),(5,.d (.int .i64 i))],b:=eG [] }) (fun i:Nat=>i≤b.length∧cE Sm.eq (a.drop i) (b.drop i)=res) (fun i=>b.length - i) 0 (by simp [hres]) (aJ _ [] .nil (by simp)) ?_
  rintro i ⟨hi,ho⟩
  by_cases hlt:i<b.length
  ·have hlt':(i:Int)<b.length:=by omega
   have hla:i<a.length:=by omega
   have hg:a[i]?=some a[i]:=gE hla
   have hg2:b[i]?=some b[i]:=gE hlt
   have hd:=kL (f:=Sm.eq) hg hg2
   have c1:=Sm.clen a[i]
   have c2:=Sm.clen b[i]
   have k1:=Sm.ctake a[i]
   have k2:=Sm.ctake b[i]
   simp [hl,hlt,hlt',c1,c2,k1,k2]
   refine ⟨.of (by kernel_rfl),?_⟩
   refine aA (h a[i] (List.getElem_mem hla) b[i] (List.getElem_mem hlt)) (by simp [Sm.a]) ?_
   simp
   refine ⟨.of (by kernel_rfl),fun h=>⟨.of (by kernel_rfl),?_⟩,fun h=>⟨.of (by kernel_rfl),i+1,⟨hlt,?_⟩,?_,?_⟩⟩
   ·rw [← ho,hd,h]; rfl
   ·rw [← ho,hd,h]; rfl
   ·refine aJ _ [] .nil ?_
    simp
    exact aZ (by omega) (by omega)
   ·simp; omega
  ·have hlt':¬ (i:Int)<b.length:=by omega
   simp [hl,hlt,hlt']
   refine ⟨.of (by kernel_rfl),.of (by kernel_rfl),?_⟩
   rw [← ho,lY (by omega) (by omega)]
 ·have hl':¬ (a.length:Int)=b.length:=by omega
  rw [kT a b hl]
  simp [hl']
  exact ⟨.of (by kernel_rfl),.of (by kernel_rfl),.of (by kernel_rfl)⟩
theorem AR (t:List UInt8) (q:List Sm) (n:List UInt8) (t':List UInt8) (q':List Sm) (n':List UInt8) (hn:q.length≤9223372036854775807) (h:∀ x∈q,∀ y∈q',Cf En 17 [x.a,y.a] [] (.d (.bool (x.eq y))) []) :
  Cf En 41 [jJ t q n,jJ t' q' n'] [] (.d (.bool (JY t q n t' q' n'))) []:=by
 refine cI fQ (fn:=Tryz.f41) rfl ?_
 have hq:=sQ q q' hn h
 unfold JY
 rw [kM]
 simp [jJ,kK,aE]<;>(repeat' first|contradiction|exact .ok|apply And.intro|intro _|(apply gc<;>simp+contextual))
 all_goals first | (refine aP hq ?_; simp; (repeat' (first | contradiction | exact .of (by kernel_rfl) | refine And.intro ?_ ?_ | intro _ | (refine aI (fun h=>?_) (fun h=>?_) <;> (have h':=h; (try simp at h'); first | done | simp [h,h'] | simp))))) | skip
 all_goals simp_all
def DZ (n:Int):V:=if n ≠ 0∧n ≠ 1 then cF else ⟨2,n,[]⟩
theorem aKx:DZ 0=⟨2,0,[]⟩:=by simp [DZ]
theorem aKy:DZ 1=⟨2,1,[]⟩:=by simp [DZ]
theorem aAX (n:Int):Cf En 80 [.d (.int .i64 n)] [] (DZ n).a []:=by
 refine cI fQ (fn:=Tryz.f80) rfl ?_
 by_cases h0:n=0
 ·subst h0
  simp [V.a,DZ]
  repeat' (first | exact .of (by kernel_rfl) | refine And.intro ?_ ?_)
 by_cases h1:n=1
 ·subst h1
  simp [V.a,DZ]
  repeat' (first | exact .of (by kernel_rfl) | refine And.intro ?_ ?_)
 simp [V.a,DZ,h0,h1,cF]
 repeat' (first | exact .of (by kernel_rfl) | refine And.intro ?_ ?_)
 (repeat' (first|contradiction|exact .ok|apply And.intro|intro _|(refine gc (fun h=>?_) (fun h=>?_)<;>(have h':=h;(try simp at h');first|done|simp[h,h',h1]|simp[h0,h1]))))
end Go.Proofs.Tryz
namespace Go.Proofs
open Go.Shelf
def Tryz.lays137_ren:Go.Shelf.Ren:=⟨fun | 137=>141 | 217=>176 | 266=>194 | n=>n,fun | 9=>9 | 5=>5 | 3=>3 | n=>n,fun | n=>n⟩
theorem Tryz.lays137:Go.Proofs.Lays.n137 Tryz.prog Tryz.lays137_ren:={
 mixed:=by kernel_rfl
 f137:=Tryz.func141.trans (congrArg some (by kernel_rfl))
 f217:=Tryz.func176.trans (congrArg some (by kernel_rfl))
 f266:=Tryz.func194.trans (congrArg some (by kernel_rfl))
 t3:=Tryz.underlying3
 a3:=Tryz.isAgg3
 z3:=Tryz.sizeOf3
 v3:=Tryz.zeroValue3
 t5:=Tryz.underlying5
 a5:=Tryz.isAgg5
 z5:=Tryz.sizeOf5
 v5:=Tryz.zeroValue5
 t9:=Tryz.underlying9
 a9:=Tryz.isAgg9
 z9:=Tryz.sizeOf9
 v9:=Tryz.zeroValue9 }
open Go.RowKit in
theorem Tryz.strings_IndexByte (s:ByteArray) (c:Int) (w:World) :
  Calls Tryz.prog 141 #[.string s,.int .u8 c] w fun e w'=>e=.returned (.int .i64 (Lib.indexByte s.data.toList c.toNat.toUInt8))∧w'=w:=Any.strings_IndexByte Tryz.lays137 s c w
end Go.Proofs
