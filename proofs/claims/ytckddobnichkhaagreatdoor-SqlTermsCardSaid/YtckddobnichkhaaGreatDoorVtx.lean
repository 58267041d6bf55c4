/- Texts of values: the program's functions and the reference's. -/
import Derived.Test.YtckddobnichkhaaGreatDoorQExc0
import Derived.Test.YtckddobnichkhaaGreatDoorPtx
import Derived.Test.YtckddobnichkhaaGreatDoorAbB
set_option linter.all false
namespace Go.Proofs.Tryz
open Go.Ab Go.RowKit Go.Sort
set_option maxRecDepth 100000
set_option maxHeartbeats 1000000
def isErr (v:Value):Prop:=∃ t x,v=.iface t x
noncomputable def Ev:Env:=⟨Tryz.prog,fun g=>if g=0 then some [.int .i64 0,.int .i64 0,.str []] else if g=2∨g=3 then some [.any isErr] else if g=4 then some (Lib.pow10Tab.map fun z=>D.int .u64 z) else none⟩
@[simp] theorem Ev_P:Ev.P=Tryz.prog:=id rfl
@[simp] theorem Ev_G (g:Nat):Ev.G g=if g=0 then some [.int .i64 0,.int .i64 0,.str []] else if g=2∨g=3 then some [.any isErr] else if g=4 then some (Lib.pow10Tab.map fun z=>D.int .u64 z) else none:=rfl
theorem mixv:Ev.P.follows .mixedOrders=true:=by kernel_rfl
theorem upv {f:FuncId} {xs:List AV} {B:List Blk} {y:AV} {B':List Blk} (h:Cf En f xs B y B'):Cf Ev f xs B y B' :=
 Cf.more (E:=En) (E':=Ev) rfl (fun g cs e=>by rw [En_G] at e; cases e) h
theorem gPow : Tryz.prog.globalNamed "internal/strconv.uint64pow10" = some 4 := by kernel_rfl
theorem grow_below {w:World} {k:Nat} {os:Array Obj}:Below w.heap.size w (grow (w.drewN k) os) :=
 ⟨rfl,rfl,rfl,by simp [grow,World.drewN],fun i hi=>by rw [heap_grow_old _ _ (by simpa [World.drewN] using hi)]; rfl⟩
theorem f_formatInt0 (n:Int) (h0:-9223372036854775808≤n) (h1:n≤9223372036854775807):Cf Ev 77 [.d (.int .i64 n),.d (.int .i64 10)] [] (.d (.str (Lib.itoa n))) []:=by
 refine cf_of_calls (by kernel_rfl) fun w g vs hr m=>?_
 simp only [RepAs,RepA,RepD] at hr
 obtain ⟨u,us,rfl,rfl,u2,us2,rfl,rfl,rfl⟩:=hr
 refine (Tryz.internal_strconv_FormatInt_10 n h0 h1 w (tab_of_mem m gPow rfl)).mono ?_
 rintro e w' ⟨rfl,k,os,rfl⟩
 exact ⟨_,rfl,by simp only [RepA,RepD],grow_below⟩
theorem f_formatInt (n:Int) (h0:-9223372036854775808≤n) (h1:n≤9223372036854775807):Cf Ev 66 [.d (.int .i64 n),.d (.int .i64 10)] [] (.d (.str (Lib.itoa n))) []:=by
 refine cf_intro mixv (fn:=Tryz.f66) (by kernel_rfl) rfl (by kernel_rfl) (by decide) (by simp) ?_
 simp
 (repeat refine ⟨.of (by kernel_rfl),?_⟩)
 refine acallT_plain (f_formatInt0 n h0 h1) (by simp) ?_
 simp
 (repeat' (first | contradiction | exact .of (by kernel_rfl) | refine And.intro ?_ ?_ | intro _ | (refine agrd_cases (fun h=>?_) (fun h=>?_) <;> (have h':=h; (try simp at h'); first | done | simp [h,h'] | simp))))
theorem f_formatBool (b:Bool):Cf Ev 74 [.d (.bool b)] [] (.d (.str (if b=true then tru else fls))) []:=by
 refine cf_intro mixv (fn:=Tryz.f74) (by kernel_rfl) rfl (by kernel_rfl) (by decide) (by simp) ?_
 have h:Cf Ev 86 [.d (.bool b)] [] (.d (.str (if b=true then tru else fls))) []:=by
  refine cf_intro mixv (fn:=Tryz.f86) (by kernel_rfl) rfl (by kernel_rfl) (by decide) (by simp) ?_
  cases b <;> simp [tru,fls] <;> ((repeat' (first | contradiction | exact .of (by kernel_rfl) | refine And.intro ?_ ?_ | intro _ | (refine agrd_cases (fun h=>?_) (fun h=>?_) <;> (have h':=h; (try simp at h'); first | done | simp [h,h'] | simp)))))
 simp
 (repeat refine ⟨.of (by kernel_rfl),?_⟩)
 refine acallT_plain h (by simp) ?_
 simp
 (repeat' (first | contradiction | exact .of (by kernel_rfl) | refine And.intro ?_ ?_ | intro _ | (refine agrd_cases (fun h=>?_) (fun h=>?_) <;> (have h':=h; (try simp at h'); first | done | simp [h,h'] | simp))))
theorem v_text5 (v:V):Cf Ev 60 [v.a] [] (.d (.str (vText v))) []:=by
 refine cf_intro mixv (fn:=Tryz.f60) (by kernel_rfl) rfl (by kernel_rfl) (by decide) (by simp) ?_
 have hv:=upv (v_valid v)
 have hc:=@valid_cases v
 have hs:=@valid_short v
 unfold vText
 cases hV:v.valid with
 | false =>
   rw [hV] at hv
   simp [V.a]
   (repeat refine ⟨.of (by kernel_rfl),?_⟩)
   refine acallT_plain hv (by simp [V.a]) ?_
   simp
   (repeat' (first | contradiction | exact .of (by kernel_rfl) | refine And.intro ?_ ?_ | intro _ | (refine agrd_cases (fun h=>?_) (fun h=>?_) <;> (have h':=h; (try simp at h'); first | done | simp [h,h'] | simp))))
 | true =>
   rw [hV] at hv
   have hs:=hs hV
   have hi:=fun h0 h1=>f_formatInt v.n h0 h1
   have hb:=f_formatBool (v.n==1)
   rcases hc hV with rfl | ⟨hk,_,h0,h1⟩ | rfl | rfl | ⟨hk,hn⟩
   ·simp [V.a,nulV]
    (repeat refine ⟨.of (by kernel_rfl),?_⟩)
    refine acallT_plain hv (by simp [V.a,nulV]) ?_
    simp [nul]
    (repeat' (first | contradiction | exact .of (by kernel_rfl) | refine And.intro ?_ ?_ | intro _ | (refine agrd_cases (fun h=>?_) (fun h=>?_) <;> (have h':=h; (try simp at h'); first | done | simp [h,h'] | simp))))
   ·have hi2:=hi (by omega) (by omega)
    clear hi hc
    obtain ⟨k,n,t⟩:=v
    simp only at hk hi2
    subst hk
    simp [V.a]
    (repeat refine ⟨.of (by kernel_rfl),?_⟩)
    refine acallT_plain hv (by simp [V.a]) ?_
    simp
    (repeat refine ⟨.of (by kernel_rfl),?_⟩)
    refine acallT_plain hi2 (by simp) ?_
    simp
    (repeat' (first | contradiction | exact .of (by kernel_rfl) | refine And.intro ?_ ?_ | intro _ | (refine agrd_cases (fun h=>?_) (fun h=>?_) <;> (have h':=h; (try simp at h'); first | done | simp [h,h'] | simp))))
   ·simp [V.a]
    (repeat refine ⟨.of (by kernel_rfl),?_⟩)
    refine acallT_plain hv (by simp [V.a]) ?_
    simp
    (repeat refine ⟨.of (by kernel_rfl),?_⟩)
    refine acallT_plain hb (by simp) ?_
    simp
    (repeat' (first | contradiction | exact .of (by kernel_rfl) | refine And.intro ?_ ?_ | intro _ | (refine agrd_cases (fun h=>?_) (fun h=>?_) <;> (have h':=h; (try simp at h'); first | done | simp [h,h'] | simp))))
   ·simp [V.a]
    (repeat refine ⟨.of (by kernel_rfl),?_⟩)
    refine acallT_plain hv (by simp [V.a]) ?_
    simp
    (repeat refine ⟨.of (by kernel_rfl),?_⟩)
    refine acallT_plain hb (by simp) ?_
    simp
    (repeat' (first | contradiction | exact .of (by kernel_rfl) | refine And.intro ?_ ?_ | intro _ | (refine agrd_cases (fun h=>?_) (fun h=>?_) <;> (have h':=h; (try simp at h'); first | done | simp [h,h'] | simp))))
   ·obtain ⟨k,n,t⟩:=v
    simp only at hk hn hs
    subst hk hn
    have b1:1+t.length≤9223372036854775807:=by omega
    have b2:t.length+1≤9223372036854775807:=by omega
    have b3:t.length+1+1≤9223372036854775807:=by omega
    have b4:1+t.length+1≤9223372036854775807:=by omega
    simp [V.a]
    (repeat refine ⟨.of (by kernel_rfl),?_⟩)
    refine acallT_plain hv (by simp [V.a]) ?_
    simp [b1,b2,b3,b4]
    (repeat' (first | contradiction | exact .of (by kernel_rfl) | refine And.intro ?_ ?_ | intro _ | (refine agrd_cases (fun h=>?_) (fun h=>?_) <;> (have h':=h; (try simp at h'); first | done | simp [h,h',b1,b2,b3,b4] | simp [b1,b2,b3,b4]))))
theorem r_text5 (v:V):Cf Ev 52 [v.a] [] (.d (.str (vText v))) []:=by
 refine cf_intro mixv (fn:=Tryz.f52) (by kernel_rfl) rfl (by kernel_rfl) (by decide) (by simp) ?_
 have hv:=upv (r_valid v)
 have hc:=@valid_cases v
 have hs:=@valid_short v
 unfold vText
 cases hV:v.valid with
 | false =>
   rw [hV] at hv
   simp [V.a]
   (repeat refine ⟨.of (by kernel_rfl),?_⟩)
   refine acallT_plain hv (by simp [V.a]) ?_
   simp
   (repeat' (first | contradiction | exact .of (by kernel_rfl) | refine And.intro ?_ ?_ | intro _ | (refine agrd_cases (fun h=>?_) (fun h=>?_) <;> (have h':=h; (try simp at h'); first | done | simp [h,h'] | simp))))
 | true =>
   rw [hV] at hv
   have hs:=hs hV
   have hi:=fun h0 h1=>f_formatInt v.n h0 h1
   rcases hc hV with rfl | ⟨hk,_,h0,h1⟩ | rfl | rfl | ⟨hk,hn⟩
   ·simp [V.a,nulV]
    (repeat refine ⟨.of (by kernel_rfl),?_⟩)
    refine acallT_plain hv (by simp [V.a,nulV]) ?_
    simp [nul]
    (repeat' (first | contradiction | exact .of (by kernel_rfl) | refine And.intro ?_ ?_ | intro _ | (refine agrd_cases (fun h=>?_) (fun h=>?_) <;> (have h':=h; (try simp at h'); first | done | simp [h,h'] | simp))))
   ·have hi2:=hi (by omega) (by omega)
    clear hi hc
    obtain ⟨k,n,t⟩:=v
    simp only at hk hi2
    subst hk
    simp [V.a]
    (repeat refine ⟨.of (by kernel_rfl),?_⟩)
    refine acallT_plain hv (by simp [V.a]) ?_
    simp
    (repeat refine ⟨.of (by kernel_rfl),?_⟩)
    refine acallT_plain hi2 (by simp) ?_
    simp
    (repeat' (first | contradiction | exact .of (by kernel_rfl) | refine And.intro ?_ ?_ | intro _ | (refine agrd_cases (fun h=>?_) (fun h=>?_) <;> (have h':=h; (try simp at h'); first | done | simp [h,h'] | simp))))
   ·simp [V.a]
    (repeat refine ⟨.of (by kernel_rfl),?_⟩)
    refine acallT_plain hv (by simp [V.a]) ?_
    simp [fls]
    (repeat' (first | contradiction | exact .of (by kernel_rfl) | refine And.intro ?_ ?_ | intro _ | (refine agrd_cases (fun h=>?_) (fun h=>?_) <;> (have h':=h; (try simp at h'); first | done | simp [h,h'] | simp))))
   ·simp [V.a]
    (repeat refine ⟨.of (by kernel_rfl),?_⟩)
    refine acallT_plain hv (by simp [V.a]) ?_
    simp [tru]
    (repeat' (first | contradiction | exact .of (by kernel_rfl) | refine And.intro ?_ ?_ | intro _ | (refine agrd_cases (fun h=>?_) (fun h=>?_) <;> (have h':=h; (try simp at h'); first | done | simp [h,h'] | simp))))
   ·obtain ⟨k,n,t⟩:=v
    simp only at hk hn hs
    subst hk hn
    have b1:1+t.length≤9223372036854775807:=by omega
    have b2:t.length+1≤9223372036854775807:=by omega
    have b3:t.length+1+1≤9223372036854775807:=by omega
    have b4:1+t.length+1≤9223372036854775807:=by omega
    simp [V.a]
    (repeat refine ⟨.of (by kernel_rfl),?_⟩)
    refine acallT_plain hv (by simp [V.a]) ?_
    simp [b1,b2,b3,b4]
    (repeat' (first | contradiction | exact .of (by kernel_rfl) | refine And.intro ?_ ?_ | intro _ | (refine agrd_cases (fun h=>?_) (fun h=>?_) <;> (have h':=h; (try simp at h'); first | done | simp [h,h',b1,b2,b3,b4] | simp [b1,b2,b3,b4]))))
end Go.Proofs.Tryz
