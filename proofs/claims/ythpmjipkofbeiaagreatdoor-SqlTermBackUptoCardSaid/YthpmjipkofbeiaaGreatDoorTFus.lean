import Derived.Test.YthpmjipkofbeiaaGreatDoorTTxt
import Derived.Test.YthpmjipkofbeiaaGreatDoorAbB
import Derived.Lib.ItoaNum
import Derived.Shelf.Strconv.Itoa3
import Derived.Test.YthpmjipkofbeiaaGreatDoorProg
import Derived.Test.YthpmjipkofbeiaaGreatDoorTShy
import Derived.Test.YthpmjipkofbeiaaGreatDoorPtx
import Derived.Shelf.Strconv.ParseIntPublic10
import Derived.Test.YthpmjipkofbeiaaGreatDoorTPru
set_option linter.all false
namespace Go.Proofs.Tryz
open Go.Ab
set_option maxRecDepth 100000
abbrev Sop:=List UInt8×Int×Int×Int
def sops:List Sop:=[([],0,0,0),([],0,0,0),([],0,0,0),([],0,0,0),([],0,0,0),([],0,0,0),([43],4,4,5),([45],4,4,5),([42],5,5,6),([47],5,5,6),([109,111,100],5,5,6),([],0,0,0),([124,124],4,4,5),([],0,0,0),([61],3,4,4),([60,62],3,4,4),([60],3,4,4),([60,61],3,4,4),([62],3,4,4),([62,61],3,4,4),([115,97,109,101],3,4,4),([],0,0,0),([97,110,100],1,1,2),([111,114],0,0,1)]
def sopC (o:Sop):List D:=[.str o.1,.int .i64 o.2.1,.int .i64 o.2.2.1,.int .i64 o.2.2.2]
def sopsC:List D:=sops.flatMap sopC
def typL:List (List UInt8):=[[],[105,110,116],[98,111,111,108],[116,101,120,116]]
def aggL:List (List UInt8):=[[],[],[99,111,117,110,116,40],[99,111,117,110,116,40,100,105,115,116,105,110,99,116,32],[115,117,109,40],[109,105,110,40],[109,97,120,40]]
def typC:List D:=typL.map .str
def aggC:List D:=aggL.map .str
def isI64 (v:Value):Prop:=∃ m,v=.int .i64 m
def isErrS (v:Value):Prop:=∃ t x,v=.iface t x
def esG (g:Nat):Option (List D):=if g=5 then some [.int .i64 0,.int .i64 0,.str []] else if g=9∨g=10 then some [.any isErrS] else if g=4 then some (Lib.pow10Tab.map fun z=>D.int .u64 z) else if g=6 then some [.any isI64] else if g=3 then some sopsC else if g=0 then some typC else if g=1 then some aggC else none
noncomputable def Es:Env:=⟨Tryz.prog,esG⟩
@[simp] theorem Es_P:Es.P=Tryz.prog:=id rfl
@[simp] theorem Es_G (g:Nat):Es.G g=esG g:=rfl
@[simp] theorem esG_ops:esG 3=some sopsC:=id rfl
@[simp] theorem esG_typ:esG 0=some typC:=id rfl
@[simp] theorem esG_agg:esG 1=some aggC:=id rfl
theorem mixs:Es.P.follows .mixedOrders=true:=by kernel_rfl
theorem ups_g (g:Nat) (cs:List D) (e:En.G g=some cs):Es.G g=some cs:=by rw [En_G] at e; cases e
theorem ups {f:FuncId} {xs:List AV} {B:List Blk} {y:AV} {B':List Blk} (h:Cf En f xs B y B'):Cf Es f xs B y B':=Cf.more (E:=En) (E':=Es) rfl ups_g h
end Go.Proofs.Tryz
namespace Go.Proofs
open Go.Shelf
def Tryz.laysM246_ren:Go.Shelf.Ren:=⟨fun | 246=>87 | 283=>127 | 284=>128 | 285=>129 | 286=>130 | 129=>164 | 317=>163 | 318=>165 | 319=>166 | 320=>167 | 337=>185 | 338=>186 | n=>n,fun | 2=>2 | 3=>3 | 9=>9 | 4=>4 | 171=>151 | 0=>0 | 53=>152 | 37=>155 | 5=>5 | 173=>156 | 212=>181 | 51=>182 | 20=>20 | 213=>183 | 46=>185 | 232=>201 | 233=>202 | n=>n,fun | 17=>4 | 18=>7 | 19=>8 | n=>n⟩
theorem Tryz.laysM246:Go.Proofs.LaysM.n246 Tryz.prog Tryz.laysM246_ren:={
 mixed:=by kernel_rfl
 f129:=Tryz.func164.trans (congrArg some (by kernel_rfl))
 f246:=Tryz.func87.trans (congrArg some (by kernel_rfl))
 f283:=Tryz.func127.trans (congrArg some (by kernel_rfl))
 f284:=Tryz.func128.trans (congrArg some (by kernel_rfl))
 f285:=Tryz.func129.trans (congrArg some (by kernel_rfl))
 f286:=Tryz.func130.trans (congrArg some (by kernel_rfl))
 f317:=Tryz.func163.trans (congrArg some (by kernel_rfl))
 f318:=Tryz.func165.trans (congrArg some (by kernel_rfl))
 f319:=Tryz.func166.trans (congrArg some (by kernel_rfl))
 f320:=Tryz.func167.trans (congrArg some (by kernel_rfl))
 f337:=Tryz.func185.trans (congrArg some (by kernel_rfl))
 f338:=Tryz.func186.trans (congrArg some (by kernel_rfl))
 t0:=Tryz.underlying0
 a0:=Tryz.isAgg0
 z0:=Tryz.sizeOf0
 v0:=Tryz.zeroValue0
 t2:=Tryz.underlying2
 a2:=Tryz.isAgg2
 z2:=Tryz.sizeOf2
 v2:=Tryz.zeroValue2
 t3:=Tryz.underlying3
 a3:=Tryz.isAgg3
 z3:=Tryz.sizeOf3
 v3:=Tryz.zeroValue3
 t4:=Tryz.underlying4
 a4:=Tryz.isAgg4
 z4:=Tryz.sizeOf4
 v4:=Tryz.zeroValue4
 t5:=Tryz.underlying5
 a5:=Tryz.isAgg5
 z5:=Tryz.sizeOf5
 v5:=Tryz.zeroValue5
 t9:=Tryz.underlying9
 a9:=Tryz.isAgg9
 z9:=Tryz.sizeOf9
 v9:=Tryz.zeroValue9
 t20:=Tryz.underlying20
 a20:=Tryz.isAgg20
 z20:=Tryz.sizeOf20
 v20:=Tryz.zeroValue20
 t37:=Tryz.underlying155
 a37:=Tryz.isAgg155
 z37:=Tryz.sizeOf155
 v37:=Tryz.zeroValue155
 t46:=Tryz.underlying185
 a46:=Tryz.isAgg185
 z46:=Tryz.sizeOf185
 v46:=Tryz.zeroValue185
 t51:=Tryz.underlying182
 a51:=Tryz.isAgg182
 z51:=Tryz.sizeOf182
 v51:=Tryz.zeroValue182
 t53:=Tryz.underlying152
 a53:=Tryz.isAgg152
 z53:=Tryz.sizeOf152
 v53:=Tryz.zeroValue152
 t171:=Tryz.underlying151
 a171:=Tryz.isAgg151
 z171:=Tryz.sizeOf151
 v171:=Tryz.zeroValue151
 t173:=Tryz.underlying156
 a173:=Tryz.isAgg156
 z173:=Tryz.sizeOf156
 v173:=Tryz.zeroValue156
 t212:=Tryz.underlying181
 a212:=Tryz.isAgg181
 z212:=Tryz.sizeOf181
 v212:=Tryz.zeroValue181
 t213:=Tryz.underlying183
 a213:=Tryz.isAgg183
 z213:=Tryz.sizeOf183
 t232:=Tryz.underlying201
 a232:=Tryz.isAgg201
 z232:=Tryz.sizeOf201
 v232:=Tryz.zeroValue201
 t233:=Tryz.underlying202
 a233:=Tryz.isAgg202
 z233:=Tryz.sizeOf202
 v233:=Tryz.zeroValue202
 g17:=by kernel_rfl
 g18:=by kernel_rfl
 g19:=by kernel_rfl
 i0:=by kernel_rfl
 i2:=by kernel_rfl
 i3:=by kernel_rfl
 i4:=by kernel_rfl
 i5:=by kernel_rfl
 i9:=by kernel_rfl
 i20:=by kernel_rfl
 i37:=by kernel_rfl
 i46:=by kernel_rfl
 i51:=by kernel_rfl
 i53:=by kernel_rfl
 i171:=by kernel_rfl
 i173:=by kernel_rfl
 i212:=by kernel_rfl
 i232:=by kernel_rfl
 i233:=by kernel_rfl
 m17:=by kernel_rfl
 m18:=by kernel_rfl
 m19:=by kernel_rfl }
open Go.RowKit Go.Sort Go.Lib in
theorem Tryz.internal_strconv_FormatInt_10 (n : Int) (h0 : -9223372036854775808 ≤ n) (h1 : n ≤ 9223372036854775807) (w : World) (htab : Lib.TabIs Tryz.prog w "internal/strconv.uint64pow10" .u64 Lib.pow10Tab) :
  Calls Tryz.prog 87 #[.int .i64 n,.int .i64 10] w fun e w'=>e=.returned (.string ⟨(Lib.itoa n).toArray⟩)∧∃ k os,w'=grow (w.drewN k) os:=Any.internal_strconv_FormatInt_10 Tryz.laysM246 n h0 h1 w htab
end Go.Proofs
namespace Go.Proofs.Tryz
open Go.Ab Go.RowKit Go.Sort
set_option maxRecDepth 100000
set_option maxHeartbeats 1000000
def isErr (v:Value):Prop:=∃ t x,v=.iface t x
noncomputable def Ev:Env:=⟨Tryz.prog,fun g=>if g=5 then some [.int .i64 0,.int .i64 0,.str []] else if g=9∨g=10 then some [.any isErr] else if g=4 then some (Lib.pow10Tab.map fun z=>D.int .u64 z) else none⟩
@[simp] theorem Ev_P:Ev.P=Tryz.prog:=id rfl
@[simp] theorem Ev_G (g:Nat):Ev.G g=if g=5 then some [.int .i64 0,.int .i64 0,.str []] else if g=9∨g=10 then some [.any isErr] else if g=4 then some (Lib.pow10Tab.map fun z=>D.int .u64 z) else none:=rfl
theorem mixv:Ev.P.follows .mixedOrders=true:=by kernel_rfl
theorem upv {f:FuncId} {xs:List AV} {B:List Blk} {y:AV} {B':List Blk} (h:Cf En f xs B y B'):Cf Ev f xs B y B' :=
 Cf.more (E:=En) (E':=Ev) rfl (fun g cs e=>by rw [En_G] at e; cases e) h
theorem gPow : Tryz.prog.globalNamed "internal/strconv.uint64pow10" = some 4 := by kernel_rfl
theorem grow_below {w:World} {k:Nat} {os:Array Obj}:Below w.heap.size w (grow (w.drewN k) os) :=
 ⟨rfl,rfl,rfl,by simp [grow,World.drewN],fun i hi=>by rw [heap_grow_old _ _ (by simpa [World.drewN] using hi)]; rfl⟩
theorem f_formatInt0 (n:Int) (h0:-9223372036854775808≤n) (h1:n≤9223372036854775807):Cf Ev 87 [.d (.int .i64 n),.d (.int .i64 10)] [] (.d (.str (Lib.itoa n))) []:=by
 refine cf_of_calls (by kernel_rfl) fun w g vs hr m=>?_
 simp only [RepAs,RepA,RepD] at hr
 obtain ⟨u,us,rfl,rfl,u2,us2,rfl,rfl,rfl⟩:=hr
 refine (Tryz.internal_strconv_FormatInt_10 n h0 h1 w (tab_of_mem m gPow rfl)).mono ?_
 rintro e w' ⟨rfl,k,os,rfl⟩
 exact ⟨_,rfl,by simp only [RepA,RepD],grow_below⟩
theorem f_formatInt (n:Int) (h0:-9223372036854775808≤n) (h1:n≤9223372036854775807):Cf Ev 50 [.d (.int .i64 n),.d (.int .i64 10)] [] (.d (.str (Lib.itoa n))) []:=by
 refine cf_intro mixv (fn:=Tryz.f50) (by kernel_rfl) rfl (by kernel_rfl) (by decide) (by simp) ?_
 simp
 (repeat refine ⟨.of (by kernel_rfl),?_⟩)
 refine acallT_plain (f_formatInt0 n h0 h1) (by simp) ?_
 simp
 all_goals exact gz
theorem f_formatBool (b:Bool):Cf Ev 51 [.d (.bool b)] [] (.d (.str (if b=true then tru else fls))) []:=by
 refine cf_intro mixv (fn:=Tryz.f51) (by kernel_rfl) rfl (by kernel_rfl) (by decide) (by simp) ?_
 have h:Cf Ev 88 [.d (.bool b)] [] (.d (.str (if b=true then tru else fls))) []:=by
  refine cf_intro mixv (fn:=Tryz.f88) (by kernel_rfl) rfl (by kernel_rfl) (by decide) (by simp) ?_
  cases b <;> simp [tru,fls] <;> ((repeat' (first | contradiction | exact .of (by kernel_rfl) | refine And.intro ?_ ?_ | intro _ | (refine agrd_cases (fun h=>?_) (fun h=>?_) <;> (have h':=h; (try simp at h'); first | done | simp [h,h'] | simp)))))
 simp
 (repeat refine ⟨.of (by kernel_rfl),?_⟩)
 refine acallT_plain h (by simp) ?_
 simp
 all_goals exact gz
theorem v_text5 (v:V):Cf Ev 175 [v.a] [] (.d (.str (vText v))) []:=by
 refine cf_intro mixv (fn:=Tryz.f175) (by kernel_rfl) rfl (by kernel_rfl) (by decide) (by simp) ?_
 have hv:=upv (v_valid v)
 have hc:=@valid_cases v
 have hs:=@valid_short v
 unfold vText
 cases hV:v.valid with
 | false =>
   rw [hV] at hv
   simp [V.a]
   (repeat refine ⟨.of (by kernel_rfl),?_⟩)
   refine acallT_plain hv (by simp [V.a]) ?_
   simp
   all_goals exact gz
 | true =>
   rw [hV] at hv
   have hs:=hs hV
   have hi:=fun h0 h1=>f_formatInt v.n h0 h1
   have hb:=f_formatBool (v.n==1)
   rcases hc hV with rfl | ⟨hk,_,h0,h1⟩ | rfl | rfl | ⟨hk,hn⟩
   ·simp [V.a,nulV]
    (repeat refine ⟨.of (by kernel_rfl),?_⟩)
    refine acallT_plain hv (by simp [V.a,nulV]) ?_
    simp [nul]
    all_goals exact gz
   ·have hi2:=hi (by omega) (by omega)
    clear hi hc
    obtain ⟨k,n,t⟩:=v
    simp only at hk hi2
    subst hk
    simp [V.a]
    (repeat refine ⟨.of (by kernel_rfl),?_⟩)
    refine acallT_plain hv (by simp [V.a]) ?_
    simp
    (repeat refine ⟨.of (by kernel_rfl),?_⟩)
    refine acallT_plain hi2 (by simp) ?_
    simp
    all_goals exact gz
   ·simp [V.a]
    (repeat refine ⟨.of (by kernel_rfl),?_⟩)
    refine acallT_plain hv (by simp [V.a]) ?_
    simp
    (repeat refine ⟨.of (by kernel_rfl),?_⟩)
    refine acallT_plain hb (by simp) ?_
    simp
    all_goals exact gz
   ·simp [V.a]
    (repeat refine ⟨.of (by kernel_rfl),?_⟩)
    refine acallT_plain hv (by simp [V.a]) ?_
    simp
    (repeat refine ⟨.of (by kernel_rfl),?_⟩)
    refine acallT_plain hb (by simp) ?_
    simp
    all_goals exact gz
   ·obtain ⟨k,n,t⟩:=v
    simp only at hk hn hs
    subst hk hn
    have b1:1+t.length≤9223372036854775807:=by omega
    have b2:t.length+1≤9223372036854775807:=by omega
    have b3:t.length+1+1≤9223372036854775807:=by omega
    have b4:1+t.length+1≤9223372036854775807:=by omega
    simp [V.a]
    (repeat refine ⟨.of (by kernel_rfl),?_⟩)
    refine acallT_plain hv (by simp [V.a]) ?_
    simp [b1,b2,b3,b4]
    (repeat' (first|contradiction|exact .ok|apply And.intro|intro _|(refine gc (fun h=>?_) (fun h=>?_)<;>(have h':=h;(try simp at h');first|done|simp[h,h',b1,b2,b3,b4]|simp[b1,b2,b3,b4]))))
theorem r_text5 (v:V):Cf Ev 134 [v.a] [] (.d (.str (vText v))) []:=by
 refine cf_intro mixv (fn:=Tryz.f134) (by kernel_rfl) rfl (by kernel_rfl) (by decide) (by simp) ?_
 have hv:=upv (r_valid v)
 have hc:=@valid_cases v
 have hs:=@valid_short v
 unfold vText
 cases hV:v.valid with
 | false =>
   rw [hV] at hv
   simp [V.a]
   (repeat refine ⟨.of (by kernel_rfl),?_⟩)
   refine acallT_plain hv (by simp [V.a]) ?_
   simp
   all_goals exact gz
 | true =>
   rw [hV] at hv
   have hs:=hs hV
   have hi:=fun h0 h1=>f_formatInt v.n h0 h1
   rcases hc hV with rfl | ⟨hk,_,h0,h1⟩ | rfl | rfl | ⟨hk,hn⟩
   ·simp [V.a,nulV]
    (repeat refine ⟨.of (by kernel_rfl),?_⟩)
    refine acallT_plain hv (by simp [V.a,nulV]) ?_
    simp [nul]
    all_goals exact gz
   ·have hi2:=hi (by omega) (by omega)
    clear hi hc
    obtain ⟨k,n,t⟩:=v
    simp only at hk hi2
    subst hk
    simp [V.a]
    (repeat refine ⟨.of (by kernel_rfl),?_⟩)
    refine acallT_plain hv (by simp [V.a]) ?_
    simp
    (repeat refine ⟨.of (by kernel_rfl),?_⟩)
    refine acallT_plain hi2 (by simp) ?_
    simp
    all_goals exact gz
   ·simp [V.a]
    (repeat refine ⟨.of (by kernel_rfl),?_⟩)
    refine acallT_plain hv (by simp [V.a]) ?_
    simp [fls]
    all_goals exact gz
   ·simp [V.a]
    (repeat refine ⟨.of (by kernel_rfl),?_⟩)
    refine acallT_plain hv (by simp [V.a]) ?_
    simp [tru]
    all_goals exact gz
   ·obtain ⟨k,n,t⟩:=v
    simp only at hk hn hs
    subst hk hn
    have b1:1+t.length≤9223372036854775807:=by omega
    have b2:t.length+1≤9223372036854775807:=by omega
    have b3:t.length+1+1≤9223372036854775807:=by omega
    have b4:1+t.length+1≤9223372036854775807:=by omega
    simp [V.a]
    (repeat refine ⟨.of (by kernel_rfl),?_⟩)
    refine acallT_plain hv (by simp [V.a]) ?_
    simp [b1,b2,b3,b4]
    (repeat' (first|contradiction|exact .ok|apply And.intro|intro _|(refine gc (fun h=>?_) (fun h=>?_)<;>(have h':=h;(try simp at h');first|done|simp[h,h',b1,b2,b3,b4]|simp[b1,b2,b3,b4]))))
end Go.Proofs.Tryz
namespace Go.Proofs
open Go.Shelf
def Tryz.laysC174_ren:Go.Shelf.Ren:=⟨fun | 174=>174 | 247=>192 | 245=>193 | 287=>200 | 279=>201 | 280=>202 | 281=>203 | 282=>204 | 321=>208 | 322=>209 | 316=>210 | 171=>212 | 205=>211 | 243=>217 | 246=>87 | 283=>127 | 284=>128 | 285=>129 | 286=>130 | 129=>164 | 317=>163 | 318=>165 | 319=>166 | 320=>167 | 337=>185 | 338=>186 | n=>n,fun | 9=>9 | 3=>3 | 2=>2 | 75=>163 | 85=>188 | 4=>4 | 167=>203 | 5=>5 | 53=>152 | 175=>204 | 46=>185 | 168=>206 | 37=>155 | 0=>0 | 210=>214 | 21=>21 | 127=>187 | 145=>218 | 143=>216 | 171=>151 | 173=>156 | 212=>181 | 51=>182 | 20=>20 | 213=>183 | 232=>201 | 233=>202 | 80=>166 | n=>n,fun | 15=>9 | 16=>10 | 17=>4 | 18=>7 | 19=>8 | n=>n⟩
theorem Tryz.laysC174:Go.Proofs.LaysC.n174 Tryz.prog Tryz.laysC174_ren:={
 mixed:=by kernel_rfl
 f129:=Tryz.func164.trans (congrArg some (by kernel_rfl))
 f171:=Tryz.func212.trans (congrArg some (by kernel_rfl))
 f174:=Tryz.func174.trans (congrArg some (by kernel_rfl))
 f205:=Tryz.func211.trans (congrArg some (by kernel_rfl))
 f243:=Tryz.func217.trans (congrArg some (by kernel_rfl))
 f245:=Tryz.func193.trans (congrArg some (by kernel_rfl))
 f246:=Tryz.func87.trans (congrArg some (by kernel_rfl))
 f247:=Tryz.func192.trans (congrArg some (by kernel_rfl))
 f279:=Tryz.func201.trans (congrArg some (by kernel_rfl))
 f280:=Tryz.func202.trans (congrArg some (by kernel_rfl))
 f281:=Tryz.func203.trans (congrArg some (by kernel_rfl))
 f282:=Tryz.func204.trans (congrArg some (by kernel_rfl))
 f283:=Tryz.func127.trans (congrArg some (by kernel_rfl))
 f284:=Tryz.func128.trans (congrArg some (by kernel_rfl))
 f285:=Tryz.func129.trans (congrArg some (by kernel_rfl))
 f286:=Tryz.func130.trans (congrArg some (by kernel_rfl))
 f287:=Tryz.func200.trans (congrArg some (by kernel_rfl))
 f316:=Tryz.func210.trans (congrArg some (by kernel_rfl))
 f317:=Tryz.func163.trans (congrArg some (by kernel_rfl))
 f318:=Tryz.func165.trans (congrArg some (by kernel_rfl))
 f319:=Tryz.func166.trans (congrArg some (by kernel_rfl))
 f320:=Tryz.func167.trans (congrArg some (by kernel_rfl))
 f321:=Tryz.func208.trans (congrArg some (by kernel_rfl))
 f322:=Tryz.func209.trans (congrArg some (by kernel_rfl))
 f337:=Tryz.func185.trans (congrArg some (by kernel_rfl))
 f338:=Tryz.func186.trans (congrArg some (by kernel_rfl))
 t0:=Tryz.underlying0
 a0:=Tryz.isAgg0
 z0:=Tryz.sizeOf0
 v0:=Tryz.zeroValue0
 t2:=Tryz.underlying2
 a2:=Tryz.isAgg2
 z2:=Tryz.sizeOf2
 v2:=Tryz.zeroValue2
 t3:=Tryz.underlying3
 a3:=Tryz.isAgg3
 z3:=Tryz.sizeOf3
 v3:=Tryz.zeroValue3
 t4:=Tryz.underlying4
 a4:=Tryz.isAgg4
 z4:=Tryz.sizeOf4
 v4:=Tryz.zeroValue4
 t5:=Tryz.underlying5
 a5:=Tryz.isAgg5
 z5:=Tryz.sizeOf5
 v5:=Tryz.zeroValue5
 t9:=Tryz.underlying9
 a9:=Tryz.isAgg9
 z9:=Tryz.sizeOf9
 v9:=Tryz.zeroValue9
 t20:=Tryz.underlying20
 a20:=Tryz.isAgg20
 z20:=Tryz.sizeOf20
 v20:=Tryz.zeroValue20
 t21:=Tryz.underlying21
 a21:=Tryz.isAgg21
 z21:=Tryz.sizeOf21
 v21:=Tryz.zeroValue21
 t37:=Tryz.underlying155
 a37:=Tryz.isAgg155
 z37:=Tryz.sizeOf155
 v37:=Tryz.zeroValue155
 t46:=Tryz.underlying185
 a46:=Tryz.isAgg185
 z46:=Tryz.sizeOf185
 v46:=Tryz.zeroValue185
 t51:=Tryz.underlying182
 a51:=Tryz.isAgg182
 z51:=Tryz.sizeOf182
 v51:=Tryz.zeroValue182
 t53:=Tryz.underlying152
 a53:=Tryz.isAgg152
 z53:=Tryz.sizeOf152
 v53:=Tryz.zeroValue152
 t75:=Tryz.underlying163
 a75:=Tryz.isAgg163
 z75:=Tryz.sizeOf163
 v75:=Tryz.zeroValue163
 t85:=Tryz.underlying188
 a85:=Tryz.isAgg188
 z85:=Tryz.sizeOf188
 v85:=Tryz.zeroValue188
 t127:=Tryz.underlying187
 a127:=Tryz.isAgg187
 z127:=Tryz.sizeOf187
 v127:=Tryz.zeroValue187
 t143:=Tryz.underlying216
 a143:=Tryz.isAgg216
 z143:=Tryz.sizeOf216
 v143:=Tryz.zeroValue216
 t145:=Tryz.underlying218
 a145:=Tryz.isAgg218
 z145:=Tryz.sizeOf218
 v145:=Tryz.zeroValue218
 t167:=Tryz.underlying203
 a167:=Tryz.isAgg203
 z167:=Tryz.sizeOf203
 v167:=Tryz.zeroValue203
 t168:=Tryz.underlying206
 a168:=Tryz.isAgg206
 z168:=Tryz.sizeOf206
 v168:=Tryz.zeroValue206
 t171:=Tryz.underlying151
 a171:=Tryz.isAgg151
 z171:=Tryz.sizeOf151
 v171:=Tryz.zeroValue151
 t173:=Tryz.underlying156
 a173:=Tryz.isAgg156
 z173:=Tryz.sizeOf156
 v173:=Tryz.zeroValue156
 t175:=Tryz.underlying204
 a175:=Tryz.isAgg204
 z175:=Tryz.sizeOf204
 v175:=Tryz.zeroValue204
 t210:=Tryz.underlying214
 a210:=Tryz.isAgg214
 z210:=Tryz.sizeOf214
 v210:=Tryz.zeroValue214
 t212:=Tryz.underlying181
 a212:=Tryz.isAgg181
 z212:=Tryz.sizeOf181
 v212:=Tryz.zeroValue181
 t213:=Tryz.underlying183
 a213:=Tryz.isAgg183
 z213:=Tryz.sizeOf183
 t232:=Tryz.underlying201
 a232:=Tryz.isAgg201
 z232:=Tryz.sizeOf201
 v232:=Tryz.zeroValue201
 t233:=Tryz.underlying202
 a233:=Tryz.isAgg202
 z233:=Tryz.sizeOf202
 v233:=Tryz.zeroValue202
 g15:=by kernel_rfl
 g16:=by kernel_rfl
 g17:=by kernel_rfl
 g18:=by kernel_rfl
 g19:=by kernel_rfl
 t80:=Tryz.underlying166
 a80:=Tryz.isAgg166
 z80:=Tryz.sizeOf166
 v80:=Tryz.zeroValue166
 i0:=by kernel_rfl
 i2:=by kernel_rfl
 i3:=by kernel_rfl
 i4:=by kernel_rfl
 i5:=by kernel_rfl
 i9:=by kernel_rfl
 i20:=by kernel_rfl
 i21:=by kernel_rfl
 i37:=by kernel_rfl
 i46:=by kernel_rfl
 i51:=by kernel_rfl
 i53:=by kernel_rfl
 i75:=by kernel_rfl
 i80:=by kernel_rfl
 i85:=by kernel_rfl
 i127:=by kernel_rfl
 i143:=by kernel_rfl
 i145:=by kernel_rfl
 i167:=by kernel_rfl
 i168:=by kernel_rfl
 i171:=by kernel_rfl
 i173:=by kernel_rfl
 i175:=by kernel_rfl
 i210:=by kernel_rfl
 i212:=by kernel_rfl
 i232:=by kernel_rfl
 i233:=by kernel_rfl
 m15:=by kernel_rfl
 m16:=by kernel_rfl
 m17:=by kernel_rfl
 m18:=by kernel_rfl
 m19:=by kernel_rfl
 c0:=by kernel_rfl
 c2:=by kernel_rfl
 c3:=by kernel_rfl
 c4:=by kernel_rfl
 c5:=by kernel_rfl
 c9:=by kernel_rfl
 c20:=by kernel_rfl
 c21:=by kernel_rfl
 c37:=by kernel_rfl
 c46:=by kernel_rfl
 c51:=by kernel_rfl
 c53:=by kernel_rfl
 c75:=by kernel_rfl
 c80:=by kernel_rfl
 c85:=by kernel_rfl
 c127:=by kernel_rfl
 c143:=by kernel_rfl
 c145:=by kernel_rfl
 c167:=by kernel_rfl
 c168:=by kernel_rfl
 c171:=by kernel_rfl
 c173:=by kernel_rfl
 c175:=by kernel_rfl
 c210:=by kernel_rfl
 c212:=by kernel_rfl
 c213:=by kernel_rfl
 c232:=by kernel_rfl
 c233:=by kernel_rfl }
open Go.RowKit in
theorem Tryz.strconv_ParseInt_10_at64_ok (s:ByteArray) (hmax:s.size≤9223372036854775806) (v:Int) (h:Lib.parseIntB 64 s.data.toList=.ok v) (w:World) :
  Calls Tryz.prog 174 #[.string s,.int .i64 10,.int .i64 64] w fun e w'=>e=.returned (.tuple #[.int .i64 v,.nilIface])∧(w'=w∨∃ t,w'=Lib.bytesWorld w 5 t):=Any.strconv_ParseInt_10_at64_ok Tryz.laysC174 s hmax v h w
open Go.RowKit in
theorem Tryz.strconv_ParseInt_10_at64_syntax (s:ByteArray) (hlim:s.size≤281474976710656) (h:Lib.parseIntB 64 s.data.toList=.«syntax») (ev:Value) (w:World) (hv:w.cell? ⟨9,0,none⟩=some ev) (hev:ev=.nilIface∨∃ te pe,ev=.iface te pe) :
  Calls Tryz.prog 174 #[.string s,.int .i64 10,.int .i64 64] w fun e w'=>∃ N,e=.returned (.tuple #[.int .i64 (0),.iface 206 (.pointer (some ⟨N,0,none⟩))])∧w.heap.size≤N∧w'.heap[N]?=some (.cells #[.string ⟨#[80,97,114,115,101,73,110,116]⟩,.string s,ev] 214 (0,0))∧Below w.heap.size w w':=Any.strconv_ParseInt_10_at64_syntax Tryz.laysC174 s hlim h ev w hv hev
open Go.RowKit in
theorem Tryz.strconv_ParseInt_10_at64_range (s:ByteArray) (hlim:s.size≤281474976710656) (h:Lib.parseIntB 64 s.data.toList=.range) (ev:Value) (w:World) (hv:w.cell? ⟨10,0,none⟩=some ev) (hev:ev=.nilIface∨∃ te pe,ev=.iface te pe) :
  Calls Tryz.prog 174 #[.string s,.int .i64 10,.int .i64 64] w fun e w'=>∃ N,e=.returned (.tuple #[.int .i64 (Lib.intSat 64 s.data.toList),.iface 206 (.pointer (some ⟨N,0,none⟩))])∧w.heap.size≤N∧w'.heap[N]?=some (.cells #[.string ⟨#[80,97,114,115,101,73,110,116]⟩,.string s,ev] 214 (0,0))∧Below w.heap.size w w':=Any.strconv_ParseInt_10_at64_range Tryz.laysC174 s hlim h ev w hv hev
end Go.Proofs
namespace Go.Proofs.Tryz
open Go.Ab
set_option maxRecDepth 100000
set_option maxHeartbeats 4000000
section
variable {L:Nat} {tm tm2:List Tk→Res Tm} {st st2:List Tk→Res Sm}
variable (hA:∀ l,l.length≤L→tm l=tm2 l) (hT:∀ l,SfxOk (tm l) l) (hB:∀ l:List Tk,l.length+1≤L→st l=st2 l) (hS:∀ l,SfxOk (st l) l)
include hA hT in
end
end Go.Proofs.Tryz
