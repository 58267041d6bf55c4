import Derived.Test.YtgdkfmglkjfciaaGreatDoorPPtx
import Derived.Test.YtgdkfmglkjfciaaGreatDoorPShb
import Derived.Test.YtgdkfmglkjfciaaGreatDoorAbB
import Derived.Shelf.Strconv.ParseIntPublic10
import Derived.Test.YtgdkfmglkjfciaaGreatDoorProg
set_option linter.all false
namespace Go.Proofs.Tryz
open Go.Ab
theorem badB_def (b:UInt8):badB b=(decide ((b.toNat:Int)<32)||(decide (126<(b.toNat:Int))||decide ((b.toNat:Int)=39))):=by
 unfold badB badN
 rw [Bool.eq_iff_iff]
 simp
 omega
theorem r_valid (v:V):Cf En 66 [v.a] [] (.d (.bool v.valid)) []:=by
 refine cf_intro mix (fn:=Tryz.f66) (by kernel_rfl) rfl (by kernel_rfl) (by decide) (by simp) ?_
 obtain ⟨k,n,t⟩:=v
 unfold V.valid V.a
 simp
 repeat' (first | exact .of (by kernel_rfl) | refine And.intro ?_ ?_ | intro _)
 all_goals try (refine agrd_cases (fun h=>?_) (fun h=>?_) <;> (have h':=h; (try simp at h'); simp [h,h']))
 repeat' (first | exact .of (by kernel_rfl) | refine And.intro ?_ ?_ | intro _)
 all_goals try (refine agrd_cases (fun h=>?_) (fun h=>?_) <;> (have h':=h; (try simp at h'); simp [h,h']))
 repeat' (first | exact .of (by kernel_rfl) | refine And.intro ?_ ?_ | intro _)
 all_goals try (refine agrd_cases (fun h=>?_) (fun h=>?_) <;> (have h':=h; (try simp at h'); simp [h,h']))
 repeat' (first | exact .of (by kernel_rfl) | refine And.intro ?_ ?_ | intro _)
 all_goals try (simp_all; done)
 ·simp_all [textOk]; omega
 ·have hl:t.length≤24:=by omega
  refine aloopT mix (by decide) (fun i:Nat=>{ s:=mkS [(1,.ptr 1 0 0),(3,.d (.int .i64 i))],b:=mkB [(1,1,.var [.d (.int .i64 k),.d (.int .i64 0),.d (.str t)])] }) (fun i:Nat=>i≤t.length∧∀ j (h:j<t.length),j<i→badB t[j]=false) (fun i=>t.length - i) 0 (by simp) (sub_mk _ _ ⟨by simp,by simp,by simp [renOf,Blk.live],by simp⟩ (by simp [renOf])) ?_
  rintro i ⟨hi,ho⟩
  by_cases hlt:i<t.length
  ·have hg:t[i]?=some t[i]:=List.getElem?_eq_getElem hlt
   have hbd:=badB_def t[i]
   simp [hlt,hg]
   have hbad:badB t[i]=true→textOk t=false:=fun h=>by
    unfold textOk
    rw [List.any_eq_true.2 ⟨_,List.getElem_mem hlt,h⟩]
    simp
   refine ⟨.of (by kernel_rfl),?_⟩
   refine agrd_cases (fun h=>?_) (fun h=>?_) <;> (have h':=h; (try simp at h'); simp [h,h',hg])
   ·refine agrd_cases (fun h=>?_) (fun h=>?_) <;> (have h':=h; (try simp at h'); simp [h,h',hg])
    ·refine ⟨.of (by kernel_rfl),fun h3=>⟨.of (by kernel_rfl),?_⟩,fun h3=>⟨.of (by kernel_rfl),i+1,⟨hlt,?_⟩,?_,?_⟩⟩
     ·simp_all
     ·intro j hj hji
      rcases Nat.lt_or_ge j i with c | c
      ·exact ho j hj c
      ·have:j=i:=by omega
       subst this
       rw [hbd]; simp; omega
     ·refine sub_mk _ [(1,1,_)] ⟨by simp,by simp,by simp [renOf,Blk.live],by simp⟩ ?_
      simp [renOf]
      exact wrap_in (by omega) (by omega)
     ·simp; omega
    ·refine ⟨.of (by kernel_rfl),.of (by kernel_rfl),?_⟩
     simp_all
   ·refine ⟨.of (by kernel_rfl),.of (by kernel_rfl),?_⟩
    simp_all
  ·simp [hlt]
   refine ⟨.of (by kernel_rfl),.of (by kernel_rfl),?_⟩
   have:textOk t=true:=by
    unfold textOk
    simp [hl]
    intro x hx
    obtain ⟨j,hj,rfl⟩:=List.getElem_of_mem hx
    exact ho j hj (by omega)
   simp_all
end Go.Proofs.Tryz
namespace Go.Proofs.Tryz
open Go.Ab Go.RowKit Go.Sort
set_option maxRecDepth 100000
set_option maxHeartbeats 1000000
def isErr (v:Value):Prop:=∃ t x,v=.iface t x
noncomputable def Ev:Env:=⟨Tryz.prog,fun g=>if g=0 then some [.int .i64 0,.int .i64 0,.str []] else if g=2∨g=3 then some [.any isErr] else if g=4 then some (Lib.pow10Tab.map fun z=>D.int .u64 z) else none⟩
@[simp] theorem Ev_P:Ev.P=Tryz.prog:=id rfl
@[simp] theorem Ev_G (g:Nat):Ev.G g=if g=0 then some [.int .i64 0,.int .i64 0,.str []] else if g=2∨g=3 then some [.any isErr] else if g=4 then some (Lib.pow10Tab.map fun z=>D.int .u64 z) else none:=rfl
theorem mixv:Ev.P.follows .mixedOrders=true:=by kernel_rfl
theorem upv {f:FuncId} {xs:List AV} {B:List Blk} {y:AV} {B':List Blk} (h:Cf En f xs B y B'):Cf Ev f xs B y B' :=
 Cf.more (E:=En) (E':=Ev) rfl (fun g cs e=>by rw [En_G] at e; cases e) h
theorem gPow : Tryz.prog.globalNamed "internal/strconv.uint64pow10" = some 4 := by kernel_rfl
theorem grow_below {w:World} {k:Nat} {os:Array Obj}:Below w.heap.size w (grow (w.drewN k) os) :=
 ⟨rfl,rfl,rfl,by simp [grow,World.drewN],fun i hi=>by rw [heap_grow_old _ _ (by simpa [World.drewN] using hi)]; rfl⟩
theorem f_formatInt0 (n:Int) (h0:-9223372036854775808≤n) (h1:n≤9223372036854775807):Cf Ev 96 [.d (.int .i64 n),.d (.int .i64 10)] [] (.d (.str (Lib.itoa n))) []:=by
 refine cf_of_calls (by kernel_rfl) fun w g vs hr m=>?_
 simp only [RepAs,RepA,RepD] at hr
 obtain ⟨u,us,rfl,rfl,u2,us2,rfl,rfl,rfl⟩:=hr
 refine (Tryz.internal_strconv_FormatInt_10 n h0 h1 w (tab_of_mem m gPow rfl)).mono ?_
 rintro e w' ⟨rfl,k,os,rfl⟩
 exact ⟨_,rfl,by simp only [RepA,RepD],grow_below⟩
theorem f_formatInt (n:Int) (h0:-9223372036854775808≤n) (h1:n≤9223372036854775807):Cf Ev 82 [.d (.int .i64 n),.d (.int .i64 10)] [] (.d (.str (Lib.itoa n))) []:=by
 refine cf_intro mixv (fn:=Tryz.f82) (by kernel_rfl) rfl (by kernel_rfl) (by decide) (by simp) ?_
 simp
 (repeat refine ⟨.of (by kernel_rfl),?_⟩)
 refine acallT_plain (f_formatInt0 n h0 h1) (by simp) ?_
 simp
 all_goals exact gz
theorem f_formatBool (b:Bool):Cf Ev 90 [.d (.bool b)] [] (.d (.str (if b=true then tru else fls))) []:=by
 refine cf_intro mixv (fn:=Tryz.f90) (by kernel_rfl) rfl (by kernel_rfl) (by decide) (by simp) ?_
 have h:Cf Ev 107 [.d (.bool b)] [] (.d (.str (if b=true then tru else fls))) []:=by
  refine cf_intro mixv (fn:=Tryz.f107) (by kernel_rfl) rfl (by kernel_rfl) (by decide) (by simp) ?_
  cases b <;> simp [tru,fls] <;> ((repeat' (first | contradiction | exact .of (by kernel_rfl) | refine And.intro ?_ ?_ | intro _ | (refine agrd_cases (fun h=>?_) (fun h=>?_) <;> (have h':=h; (try simp at h'); first | done | simp [h,h'] | simp)))))
 simp
 (repeat refine ⟨.of (by kernel_rfl),?_⟩)
 refine acallT_plain h (by simp) ?_
 simp
 all_goals exact gz
theorem v_text5 (v:V):Cf Ev 76 [v.a] [] (.d (.str (vText v))) []:=by
 refine cf_intro mixv (fn:=Tryz.f76) (by kernel_rfl) rfl (by kernel_rfl) (by decide) (by simp) ?_
 have hv:=upv (v_valid v)
 have hc:=@valid_cases v
 have hs:=@valid_short v
 unfold vText
 cases hV:v.valid with
 | false =>
   rw [hV] at hv
   simp [V.a]
   (repeat refine ⟨.of (by kernel_rfl),?_⟩)
   refine acallT_plain hv (by simp [V.a]) ?_
   simp
   all_goals exact gz
 | true =>
   rw [hV] at hv
   have hs:=hs hV
   have hi:=fun h0 h1=>f_formatInt v.n h0 h1
   have hb:=f_formatBool (v.n==1)
   rcases hc hV with rfl | ⟨hk,_,h0,h1⟩ | rfl | rfl | ⟨hk,hn⟩
   ·simp [V.a,nulV]
    (repeat refine ⟨.of (by kernel_rfl),?_⟩)
    refine acallT_plain hv (by simp [V.a,nulV]) ?_
    simp [nul]
    all_goals exact gz
   ·have hi2:=hi (by omega) (by omega)
    clear hi hc
    obtain ⟨k,n,t⟩:=v
    simp only at hk hi2
    subst hk
    simp [V.a]
    (repeat refine ⟨.of (by kernel_rfl),?_⟩)
    refine acallT_plain hv (by simp [V.a]) ?_
    simp
    (repeat refine ⟨.of (by kernel_rfl),?_⟩)
    refine acallT_plain hi2 (by simp) ?_
    simp
    all_goals exact gz
   ·simp [V.a]
    (repeat refine ⟨.of (by kernel_rfl),?_⟩)
    refine acallT_plain hv (by simp [V.a]) ?_
    simp
    (repeat refine ⟨.of (by kernel_rfl),?_⟩)
    refine acallT_plain hb (by simp) ?_
    simp
    all_goals exact gz
   ·simp [V.a]
    (repeat refine ⟨.of (by kernel_rfl),?_⟩)
    refine acallT_plain hv (by simp [V.a]) ?_
    simp
    (repeat refine ⟨.of (by kernel_rfl),?_⟩)
    refine acallT_plain hb (by simp) ?_
    simp
    all_goals exact gz
   ·obtain ⟨k,n,t⟩:=v
    simp only at hk hn hs
    subst hk hn
    have b1:1+t.length≤9223372036854775807:=by omega
    have b2:t.length+1≤9223372036854775807:=by omega
    have b3:t.length+1+1≤9223372036854775807:=by omega
    have b4:1+t.length+1≤9223372036854775807:=by omega
    simp [V.a]
    (repeat refine ⟨.of (by kernel_rfl),?_⟩)
    refine acallT_plain hv (by simp [V.a]) ?_
    simp [b1,b2,b3,b4]
    (repeat' (first|contradiction|exact .ok|apply And.intro|intro _|(refine gc (fun h=>?_) (fun h=>?_)<;>(have h':=h;(try simp at h');first|done|simp[h,h',b1,b2,b3,b4]|simp[b1,b2,b3,b4]))))
theorem r_text5 (v:V):Cf Ev 67 [v.a] [] (.d (.str (vText v))) []:=by
 refine cf_intro mixv (fn:=Tryz.f67) (by kernel_rfl) rfl (by kernel_rfl) (by decide) (by simp) ?_
 have hv:=upv (r_valid v)
 have hc:=@valid_cases v
 have hs:=@valid_short v
 unfold vText
 cases hV:v.valid with
 | false =>
   rw [hV] at hv
   simp [V.a]
   (repeat refine ⟨.of (by kernel_rfl),?_⟩)
   refine acallT_plain hv (by simp [V.a]) ?_
   simp
   all_goals exact gz
 | true =>
   rw [hV] at hv
   have hs:=hs hV
   have hi:=fun h0 h1=>f_formatInt v.n h0 h1
   rcases hc hV with rfl | ⟨hk,_,h0,h1⟩ | rfl | rfl | ⟨hk,hn⟩
   ·simp [V.a,nulV]
    (repeat refine ⟨.of (by kernel_rfl),?_⟩)
    refine acallT_plain hv (by simp [V.a,nulV]) ?_
    simp [nul]
    all_goals exact gz
   ·have hi2:=hi (by omega) (by omega)
    clear hi hc
    obtain ⟨k,n,t⟩:=v
    simp only at hk hi2
    subst hk
    simp [V.a]
    (repeat refine ⟨.of (by kernel_rfl),?_⟩)
    refine acallT_plain hv (by simp [V.a]) ?_
    simp
    (repeat refine ⟨.of (by kernel_rfl),?_⟩)
    refine acallT_plain hi2 (by simp) ?_
    simp
    all_goals exact gz
   ·simp [V.a]
    (repeat refine ⟨.of (by kernel_rfl),?_⟩)
    refine acallT_plain hv (by simp [V.a]) ?_
    simp [fls]
    all_goals exact gz
   ·simp [V.a]
    (repeat refine ⟨.of (by kernel_rfl),?_⟩)
    refine acallT_plain hv (by simp [V.a]) ?_
    simp [tru]
    all_goals exact gz
   ·obtain ⟨k,n,t⟩:=v
    simp only at hk hn hs
    subst hk hn
    have b1:1+t.length≤9223372036854775807:=by omega
    have b2:t.length+1≤9223372036854775807:=by omega
    have b3:t.length+1+1≤9223372036854775807:=by omega
    have b4:1+t.length+1≤9223372036854775807:=by omega
    simp [V.a]
    (repeat refine ⟨.of (by kernel_rfl),?_⟩)
    refine acallT_plain hv (by simp [V.a]) ?_
    simp [b1,b2,b3,b4]
    (repeat' (first|contradiction|exact .ok|apply And.intro|intro _|(refine gc (fun h=>?_) (fun h=>?_)<;>(have h':=h;(try simp at h');first|done|simp[h,h',b1,b2,b3,b4]|simp[b1,b2,b3,b4]))))
end Go.Proofs.Tryz
namespace Go.Proofs
open Go.Shelf
def Tryz.laysC174_ren:Go.Shelf.Ren:=⟨fun | 174=>74 | 247=>87 | 245=>88 | 287=>100 | 279=>101 | 280=>102 | 281=>103 | 282=>104 | 321=>116 | 322=>117 | 316=>118 | 171=>120 | 205=>119 | 243=>130 | 246=>96 | 283=>110 | 284=>111 | 285=>112 | 286=>113 | 129=>125 | 317=>124 | 318=>126 | 319=>127 | 320=>128 | 337=>135 | 338=>136 | n=>n,fun | 9=>9 | 3=>3 | 2=>2 | 75=>111 | 85=>112 | 4=>4 | 167=>122 | 5=>5 | 53=>123 | 175=>124 | 46=>126 | 168=>127 | 37=>137 | 0=>0 | 210=>143 | 21=>21 | 127=>152 | 145=>155 | 143=>153 | 171=>134 | 173=>138 | 212=>147 | 51=>148 | 20=>20 | 213=>149 | 232=>159 | 233=>160 | 80=>103 | n=>n,fun | 15=>2 | 16=>3 | 17=>4 | 18=>5 | 19=>6 | n=>n⟩
theorem Tryz.laysC174:Go.Proofs.LaysC.n174 Tryz.prog Tryz.laysC174_ren:={
 mixed:=by kernel_rfl
 f129:=Tryz.func125.trans (congrArg some (by kernel_rfl))
 f171:=Tryz.func120.trans (congrArg some (by kernel_rfl))
 f174:=Tryz.func74.trans (congrArg some (by kernel_rfl))
 f205:=Tryz.func119.trans (congrArg some (by kernel_rfl))
 f243:=Tryz.func130.trans (congrArg some (by kernel_rfl))
 f245:=Tryz.func88.trans (congrArg some (by kernel_rfl))
 f246:=Tryz.func96.trans (congrArg some (by kernel_rfl))
 f247:=Tryz.func87.trans (congrArg some (by kernel_rfl))
 f279:=Tryz.func101.trans (congrArg some (by kernel_rfl))
 f280:=Tryz.func102.trans (congrArg some (by kernel_rfl))
 f281:=Tryz.func103.trans (congrArg some (by kernel_rfl))
 f282:=Tryz.func104.trans (congrArg some (by kernel_rfl))
 f283:=Tryz.func110.trans (congrArg some (by kernel_rfl))
 f284:=Tryz.func111.trans (congrArg some (by kernel_rfl))
 f285:=Tryz.func112.trans (congrArg some (by kernel_rfl))
 f286:=Tryz.func113.trans (congrArg some (by kernel_rfl))
 f287:=Tryz.func100.trans (congrArg some (by kernel_rfl))
 f316:=Tryz.func118.trans (congrArg some (by kernel_rfl))
 f317:=Tryz.func124.trans (congrArg some (by kernel_rfl))
 f318:=Tryz.func126.trans (congrArg some (by kernel_rfl))
 f319:=Tryz.func127.trans (congrArg some (by kernel_rfl))
 f320:=Tryz.func128.trans (congrArg some (by kernel_rfl))
 f321:=Tryz.func116.trans (congrArg some (by kernel_rfl))
 f322:=Tryz.func117.trans (congrArg some (by kernel_rfl))
 f337:=Tryz.func135.trans (congrArg some (by kernel_rfl))
 f338:=Tryz.func136.trans (congrArg some (by kernel_rfl))
 t0:=Tryz.underlying0
 a0:=Tryz.isAgg0
 z0:=Tryz.sizeOf0
 v0:=Tryz.zeroValue0
 t2:=Tryz.underlying2
 a2:=Tryz.isAgg2
 z2:=Tryz.sizeOf2
 v2:=Tryz.zeroValue2
 t3:=Tryz.underlying3
 a3:=Tryz.isAgg3
 z3:=Tryz.sizeOf3
 v3:=Tryz.zeroValue3
 t4:=Tryz.underlying4
 a4:=Tryz.isAgg4
 z4:=Tryz.sizeOf4
 v4:=Tryz.zeroValue4
 t5:=Tryz.underlying5
 a5:=Tryz.isAgg5
 z5:=Tryz.sizeOf5
 v5:=Tryz.zeroValue5
 t9:=Tryz.underlying9
 a9:=Tryz.isAgg9
 z9:=Tryz.sizeOf9
 v9:=Tryz.zeroValue9
 t20:=Tryz.underlying20
 a20:=Tryz.isAgg20
 z20:=Tryz.sizeOf20
 v20:=Tryz.zeroValue20
 t21:=Tryz.underlying21
 a21:=Tryz.isAgg21
 z21:=Tryz.sizeOf21
 v21:=Tryz.zeroValue21
 t37:=Tryz.underlying137
 a37:=Tryz.isAgg137
 z37:=Tryz.sizeOf137
 v37:=Tryz.zeroValue137
 t46:=Tryz.underlying126
 a46:=Tryz.isAgg126
 z46:=Tryz.sizeOf126
 v46:=Tryz.zeroValue126
 t51:=Tryz.underlying148
 a51:=Tryz.isAgg148
 z51:=Tryz.sizeOf148
 v51:=Tryz.zeroValue148
 t53:=Tryz.underlying123
 a53:=Tryz.isAgg123
 z53:=Tryz.sizeOf123
 v53:=Tryz.zeroValue123
 t75:=Tryz.underlying111
 a75:=Tryz.isAgg111
 z75:=Tryz.sizeOf111
 v75:=Tryz.zeroValue111
 t85:=Tryz.underlying112
 a85:=Tryz.isAgg112
 z85:=Tryz.sizeOf112
 v85:=Tryz.zeroValue112
 t127:=Tryz.underlying152
 a127:=Tryz.isAgg152
 z127:=Tryz.sizeOf152
 v127:=Tryz.zeroValue152
 t143:=Tryz.underlying153
 a143:=Tryz.isAgg153
 z143:=Tryz.sizeOf153
 v143:=Tryz.zeroValue153
 t145:=Tryz.underlying155
 a145:=Tryz.isAgg155
 z145:=Tryz.sizeOf155
 v145:=Tryz.zeroValue155
 t167:=Tryz.underlying122
 a167:=Tryz.isAgg122
 z167:=Tryz.sizeOf122
 v167:=Tryz.zeroValue122
 t168:=Tryz.underlying127
 a168:=Tryz.isAgg127
 z168:=Tryz.sizeOf127
 v168:=Tryz.zeroValue127
 t171:=Tryz.underlying134
 a171:=Tryz.isAgg134
 z171:=Tryz.sizeOf134
 v171:=Tryz.zeroValue134
 t173:=Tryz.underlying138
 a173:=Tryz.isAgg138
 z173:=Tryz.sizeOf138
 v173:=Tryz.zeroValue138
 t175:=Tryz.underlying124
 a175:=Tryz.isAgg124
 z175:=Tryz.sizeOf124
 v175:=Tryz.zeroValue124
 t210:=Tryz.underlying143
 a210:=Tryz.isAgg143
 z210:=Tryz.sizeOf143
 v210:=Tryz.zeroValue143
 t212:=Tryz.underlying147
 a212:=Tryz.isAgg147
 z212:=Tryz.sizeOf147
 v212:=Tryz.zeroValue147
 t213:=Tryz.underlying149
 a213:=Tryz.isAgg149
 z213:=Tryz.sizeOf149
 t232:=Tryz.underlying159
 a232:=Tryz.isAgg159
 z232:=Tryz.sizeOf159
 v232:=Tryz.zeroValue159
 t233:=Tryz.underlying160
 a233:=Tryz.isAgg160
 z233:=Tryz.sizeOf160
 v233:=Tryz.zeroValue160
 g15:=by kernel_rfl
 g16:=by kernel_rfl
 g17:=by kernel_rfl
 g18:=by kernel_rfl
 g19:=by kernel_rfl
 t80:=Tryz.underlying103
 a80:=Tryz.isAgg103
 z80:=Tryz.sizeOf103
 v80:=Tryz.zeroValue103
 i0:=by kernel_rfl
 i2:=by kernel_rfl
 i3:=by kernel_rfl
 i4:=by kernel_rfl
 i5:=by kernel_rfl
 i9:=by kernel_rfl
 i20:=by kernel_rfl
 i21:=by kernel_rfl
 i37:=by kernel_rfl
 i46:=by kernel_rfl
 i51:=by kernel_rfl
 i53:=by kernel_rfl
 i75:=by kernel_rfl
 i80:=by kernel_rfl
 i85:=by kernel_rfl
 i127:=by kernel_rfl
 i143:=by kernel_rfl
 i145:=by kernel_rfl
 i167:=by kernel_rfl
 i168:=by kernel_rfl
 i171:=by kernel_rfl
 i173:=by kernel_rfl
 i175:=by kernel_rfl
 i210:=by kernel_rfl
 i212:=by kernel_rfl
 i232:=by kernel_rfl
 i233:=by kernel_rfl
 m15:=by kernel_rfl
 m16:=by kernel_rfl
 m17:=by kernel_rfl
 m18:=by kernel_rfl
 m19:=by kernel_rfl
 c0:=by kernel_rfl
 c2:=by kernel_rfl
 c3:=by kernel_rfl
 c4:=by kernel_rfl
 c5:=by kernel_rfl
 c9:=by kernel_rfl
 c20:=by kernel_rfl
 c21:=by kernel_rfl
 c37:=by kernel_rfl
 c46:=by kernel_rfl
 c51:=by kernel_rfl
 c53:=by kernel_rfl
 c75:=by kernel_rfl
 c80:=by kernel_rfl
 c85:=by kernel_rfl
 c127:=by kernel_rfl
 c143:=by kernel_rfl
 c145:=by kernel_rfl
 c167:=by kernel_rfl
 c168:=by kernel_rfl
 c171:=by kernel_rfl
 c173:=by kernel_rfl
 c175:=by kernel_rfl
 c210:=by kernel_rfl
 c212:=by kernel_rfl
 c213:=by kernel_rfl
 c232:=by kernel_rfl
 c233:=by kernel_rfl }
open Go.RowKit in
theorem Tryz.strconv_ParseInt_10_at64_ok (s:ByteArray) (hmax:s.size≤9223372036854775806) (v:Int) (h:Lib.parseIntB 64 s.data.toList=.ok v) (w:World) :
  Calls Tryz.prog 74 #[.string s,.int .i64 10,.int .i64 64] w fun e w'=>e=.returned (.tuple #[.int .i64 v,.nilIface])∧(w'=w∨∃ t,w'=Lib.bytesWorld w 5 t):=Any.strconv_ParseInt_10_at64_ok Tryz.laysC174 s hmax v h w
open Go.RowKit in
theorem Tryz.strconv_ParseInt_10_at64_syntax (s:ByteArray) (hlim:s.size≤281474976710656) (h:Lib.parseIntB 64 s.data.toList=.«syntax») (ev:Value) (w:World) (hv:w.cell? ⟨2,0,none⟩=some ev) (hev:ev=.nilIface∨∃ te pe,ev=.iface te pe) :
  Calls Tryz.prog 74 #[.string s,.int .i64 10,.int .i64 64] w fun e w'=>∃ N,e=.returned (.tuple #[.int .i64 (0),.iface 127 (.pointer (some ⟨N,0,none⟩))])∧w.heap.size≤N∧w'.heap[N]?=some (.cells #[.string ⟨#[80,97,114,115,101,73,110,116]⟩,.string s,ev] 143 (0,0))∧Below w.heap.size w w':=Any.strconv_ParseInt_10_at64_syntax Tryz.laysC174 s hlim h ev w hv hev
open Go.RowKit in
theorem Tryz.strconv_ParseInt_10_at64_range (s:ByteArray) (hlim:s.size≤281474976710656) (h:Lib.parseIntB 64 s.data.toList=.range) (ev:Value) (w:World) (hv:w.cell? ⟨3,0,none⟩=some ev) (hev:ev=.nilIface∨∃ te pe,ev=.iface te pe) :
  Calls Tryz.prog 74 #[.string s,.int .i64 10,.int .i64 64] w fun e w'=>∃ N,e=.returned (.tuple #[.int .i64 (Lib.intSat 64 s.data.toList),.iface 127 (.pointer (some ⟨N,0,none⟩))])∧w.heap.size≤N∧w'.heap[N]?=some (.cells #[.string ⟨#[80,97,114,115,101,73,110,116]⟩,.string s,ev] 143 (0,0))∧Below w.heap.size w w':=Any.strconv_ParseInt_10_at64_range Tryz.laysC174 s hlim h ev w hv hev
end Go.Proofs
namespace Go.Proofs.Tryz
open Go.Ab Go.RowKit
set_option maxRecDepth 100000
set_option maxHeartbeats 1000000
@[simp] theorem isIface_error:isIface Tryz.prog 111=true:=by kernel_rfl
theorem err_cell {w:World} {g:Gh} {B:List Blk} {bl:Nat→Blk} (m:Mem (ctxOf Ev w g B) bl w g) {i:Nat} (hi:i=2∨i=3):∃ v t x,w.cell? ⟨i,0,none⟩=some v∧v=.iface t x:=by
 have hc:=m.glob i [.any isErr] (by rcases hi with rfl | rfl <;> simp [ctxOf])
 simp only [RepCells,RepD] at hc
 obtain ⟨⟨v,hv,⟨t,x,rfl⟩,_⟩,_⟩:=hc
 exact ⟨_,t,x,m.con _ _ _ hv,rfl⟩
def numE (s:List UInt8):Int×Go.Ab.D:=match Lib.parseIntB 64 s with
 | .ok v=>(v,.val .nilIface)
 | .«syntax»=>(0,.ifn)
 | .range=>(Lib.intSat 64 s,.ifn)
theorem f_parseInt (s:List UInt8) (hs:s.length≤1000000):Cf Ev 74 [.d (.str s),.d (.int .i64 10),.d (.int .i64 64)] [] (.tup [.d (.int .i64 (numE s).1),.d (numE s).2]) []:=by
 refine cf_of_calls (by kernel_rfl) fun w g vs hr m=>?_
 simp only [RepAs,RepA,RepD] at hr
 obtain ⟨u,us,rfl,rfl,u2,us2,rfl,rfl,u3,us3,rfl,rfl,rfl⟩:=hr
 unfold numE
 cases hp:Lib.parseIntB 64 s with
 | ok v =>
   refine (Tryz.strconv_ParseInt_10_at64_ok ⟨s.toArray⟩ (by simp [ByteArray.size_mk']; omega) v hp w).mono ?_
   rintro e w' ⟨rfl,hw⟩
   refine ⟨_,rfl,?_,?_⟩
   ·simp only [RepA,RepAs,RepD]
    exact ⟨[.int .i64 v,.nilIface],rfl,.int .i64 v,[.nilIface],rfl,rfl,.nilIface,[],rfl,⟨rfl,rfl⟩,rfl⟩
   ·rcases hw with rfl | ⟨t,rfl⟩
    ·exact Below.refl _ _
    ·exact Lib.bytesWorld_below _ _ _
 | «syntax» =>
   obtain ⟨ev,t,x,h1,h2⟩:=err_cell m (i:=2) (.inl rfl)
   refine (Tryz.strconv_ParseInt_10_at64_syntax ⟨s.toArray⟩ (by simp [ByteArray.size_mk']; omega) hp ev w h1 (.inr ⟨t,x,h2⟩)).mono ?_
   rintro e w' ⟨N,rfl,_,_,hb⟩
   refine ⟨_,rfl,?_,hb⟩
   simp only [RepA,RepAs,RepD]
   exact ⟨[_,_],rfl,_,[_],rfl,rfl,_,[],rfl,⟨_,_,rfl⟩,rfl⟩
 | range =>
   obtain ⟨ev,t,x,h1,h2⟩:=err_cell m (i:=3) (.inr rfl)
   refine (Tryz.strconv_ParseInt_10_at64_range ⟨s.toArray⟩ (by simp [ByteArray.size_mk']; omega) hp ev w h1 (.inr ⟨t,x,h2⟩)).mono ?_
   rintro e w' ⟨N,rfl,_,_,hb⟩
   refine ⟨_,rfl,?_,hb⟩
   simp only [RepA,RepAs,RepD]
   exact ⟨[_,_],rfl,_,[_],rfl,rfl,_,[],rfl,⟨_,_,rfl⟩,rfl⟩
theorem v_bool (n:Int) (h:n=0∨n=1):Cf Ev 71 [.d (.int .i64 n)] [] (V.mk 2 n []).a []:=by
 refine cf_intro mixv (fn:=Tryz.f71) (by kernel_rfl) rfl (by kernel_rfl) (by decide) (by simp) ?_
 rcases h with rfl | rfl <;> simp [V.a] <;> ((repeat' (first | contradiction | exact .of (by kernel_rfl) | refine And.intro ?_ ?_ | intro _ | (refine agrd_cases (fun h=>?_) (fun h=>?_) <;> (have h':=h; (try simp at h'); first | done | simp [h,h'] | simp)))))
theorem r_bool (n:Int) (h:n=0∨n=1):Cf Ev 65 [.d (.int .i64 n)] [] (V.mk 2 n []).a []:=by
 refine cf_intro mixv (fn:=Tryz.f65) (by kernel_rfl) rfl (by kernel_rfl) (by decide) (by simp) ?_
 rcases h with rfl | rfl <;> simp [V.a] <;> ((repeat' (first | contradiction | exact .of (by kernel_rfl) | refine And.intro ?_ ?_ | intro _ | (refine agrd_cases (fun h=>?_) (fun h=>?_) <;> (have h':=h; (try simp at h'); first | done | simp [h,h'] | simp)))))
theorem take_head (s:List UInt8) (h:1≤s.length):(s.take 1==[39])=decide (s.head?=some 39):=by
 cases s with
 | nil=>simp at h
 | cons c s=>simp; rw [Bool.eq_iff_iff]; simp
theorem f_prefix (s:List UInt8) (hs:s.length≤1000000):Cf Ev 72 [.d (.str s),.d (.str [39])] [] (.d (.bool (decide (s.head?=some 39)))) []:=by
 have h0:Cf Ev 85 [.d (.str s),.d (.str [39])] [] (.d (.bool (decide (s.head?=some 39)))) []:=by
  refine cf_intro mixv (fn:=Tryz.f85) (by kernel_rfl) rfl (by kernel_rfl) (by decide) (by simp) ?_
  by_cases h:1≤s.length
  ·have h':(1:Int)≤s.length:=by omega
   have ht:=take_head s h
   simp [h,h',ht]
   (repeat' (first|contradiction|exact .ok|apply And.intro|intro _|(refine gc (fun h=>?_) (fun h=>?_)<;>(have h':=h;(try simp at h');first|done|simp[h,h',h,h',ht]|simp[h,h',ht]))))
  ·have:s=[]:=List.eq_nil_of_length_eq_zero (by omega)
   subst this
   simp
   all_goals exact gz
 refine cf_intro mixv (fn:=Tryz.f72) (by kernel_rfl) rfl (by kernel_rfl) (by decide) (by simp) ?_
 simp
 (repeat refine ⟨.of (by kernel_rfl),?_⟩)
 refine acallT_plain h0 (by simp) ?_
 simp
 all_goals exact gz
theorem drop_last (s:List UInt8) (h:1≤s.length):(s.drop (s.length - 1)==[39])=decide (s.getLast?=some 39):=by
 obtain ⟨c,t,rfl⟩:∃ c t,s=t++[c]:=by
  have hne:s ≠ []:=fun e=>by rw [e] at h; simp at h
  exact ⟨s.getLast hne,s.dropLast,(List.dropLast_concat_getLast hne).symm⟩
 rw [List.getLast?_append]
 simp
 rw [Bool.eq_iff_iff]; simp
theorem f_suffix (s:List UInt8) (hs:s.length≤1000000):Cf Ev 73 [.d (.str s),.d (.str [39])] [] (.d (.bool (decide (s.getLast?=some 39)))) []:=by
 have h0:Cf Ev 86 [.d (.str s),.d (.str [39])] [] (.d (.bool (decide (s.getLast?=some 39)))) []:=by
  refine cf_intro mixv (fn:=Tryz.f86) (by kernel_rfl) rfl (by kernel_rfl) (by decide) (by simp) ?_
  by_cases h:1≤s.length
  ·have h':(1:Int)≤s.length:=by omega
   have hw:IntKind.i64.wrap ((s.length:Int) - 1)=(s.length:Int) - 1:=wrap_in (by omega) (by omega)
   have h2:(0:Int)≤(s.length:Int) - 1:=by omega
   have h3:(s.length:Int) - 1≤s.length:=by omega
   have ht:=drop_last s h
   have hn:((s.length:Int) - 1).toNat=s.length - 1:=by omega
   simp [h,h',hw,h2,h3,hn,ht]
   (repeat' (first|contradiction|exact .ok|apply And.intro|intro _|(refine gc (fun h=>?_) (fun h=>?_)<;>(have h':=h;(try simp at h');first|done|simp[h,h',h,h',hw,h2,h3,hn,ht]|simp[h,h',hw,h2,h3,hn,ht]))))
  ·have:s=[]:=List.eq_nil_of_length_eq_zero (by omega)
   subst this
   simp
   all_goals exact gz
 refine cf_intro mixv (fn:=Tryz.f73) (by kernel_rfl) rfl (by kernel_rfl) (by decide) (by simp) ?_
 simp
 (repeat refine ⟨.of (by kernel_rfl),?_⟩)
 refine acallT_plain h0 (by simp) ?_
 simp
 all_goals exact gz
end Go.Proofs.Tryz
