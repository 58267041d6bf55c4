/- Terms behind a sign. -/
import Derived.Test.YtckddobnichkhaaGreatDoorLvl
set_option linter.all false
namespace Go.Proofs.Tryz
open Go.Ab
set_option maxRecDepth 100000
set_option maxHeartbeats 4000000
section
variable {fD:Nat→D} {T l:List Tk} {L:Nat} {p q:List Tk→Res Tm}
theorem isNum_hd {l:List Tk} (hn:l ≠ []):isNum l=((hdT l).kd==2&&(hdT l).rw != [48]):=by
 cases l with
 | nil=>exact absurd rfl hn
 | cons t r=>rfl
theorem p_unary (hp:Rule Es fD T L 87 p) (hq:Rule Es fD T (L+1) 99 q) (hqn:∀ l,At T l→l.length≤L→isNum l=true→q l=.ok (.mk 2 0 (hdT l).n [] [] [],l.tail)) (hT:T.length≤10000) (ha:At T l) (hl:l.length≤L+1) :
  CfO Es 87 [.ptr 1000000 0 0] [rdB T l] (outS fD T (if isW wMinus l=true then (if isNum l.tail=true then .ok (.mk 2 0 (IntKind.i64.wrap (-(hdT l.tail).n)) [] [] [],l.tail.tail) else mapT (fun t=>mkT 11 [t]) (p l.tail)) else q l)):=by
 generalize ho:outS fD T (if isW wMinus l=true then (if isNum l.tail=true then .ok (.mk 2 0 (IntKind.i64.wrap (-(hdT l.tail).n)) [] [] [],l.tail.tail) else mapT (fun t=>mkT 11 [t]) (p l.tail)) else q l)=o
 refine cfO_intro mixs (fn:=Tryz.f87) (by kernel_rfl) rfl (by kernel_rfl) (by decide) o (by simp) (by simp [rdB]) ?_
 cases hw:isW wMinus l with
 | true =>
   rw [hw,if_pos rfl] at ho
   have hlen:=isW_len hw
   have h1:=ha.tl hw
   have hk:=ups (p_peek h1.sfx h1.ne hT)
   have hnm:=isNum_hd h1.ne
   have hq1:=hqn l.tail h1 (by omega)
   have ht:=take_yes ha hT hw
   obtain ⟨l1,hl1⟩:∃ l1,l1=l.tail:=⟨_,rfl⟩
   rw [← hl1] at ho h1 hk hnm hq1 hlen ht
   simp <;> (repeat' (first | contradiction | exact .of (by kernel_rfl) | refine And.intro ?_ ?_ | intro _ | (refine agrd_cases (fun h=>?_) (fun h=>?_) <;> (have h':=h; (try simp at h'); first | done | simp [h,h'] | simp))))
   refine acallP_of (acallT_hand [1000000] (ht) (by simp) (by simp) (by simp) (by simp) (by simp) ?_)
   simp [tkA,tokC] <;> (repeat' (first | contradiction | exact .of (by kernel_rfl) | refine And.intro ?_ ?_ | intro _ | (refine agrd_cases (fun h=>?_) (fun h=>?_) <;> (have h':=h; (try simp at h'); first | done | simp [h,h',tkA,tokC] | simp [tkA,tokC]))))
   refine acallP_of (acallT_hand [1000000] (hk) (by simp) (by simp) (by simp) (by simp) (by simp) ?_)
   cases hb:isNum l1 with
   | true =>
     rw [hb,if_pos rfl] at ho
     rw [hb] at hnm
     subst ho
     have hk2:(hdT l1).kd=2∧((hdT l1).rw != [48])=true:=by simpa using hnm.symm
     rcases hq.step h1 (by omega) with ⟨e,he,hc⟩ | ⟨t,m,he,hm,hlm,hc⟩
     ·rw [hq1 hb] at he; cases he
     rw [hq1 hb] at he
     simp only [Except.ok.injEq,Prod.mk.injEq] at he
     obtain ⟨rfl,rfl⟩:=he
     generalize hdT l1=tk at *
     have hk3:¬ tk.rw=[48]:=by simpa using hk2.2
     simp [tkA,tokC,hk2.1,hk3] <;> (repeat' (first | contradiction | exact .of (by kernel_rfl) | refine And.intro ?_ ?_ | intro _ | (refine agrd_cases (fun h=>?_) (fun h=>?_) <;> (have h':=h; (try simp at h'); first | done | simp [h,h',tkA,tokC,hk2.1,hk3] | simp [tkA,tokC,hk2.1,hk3]))))
     refine acallP_of (acallT_hand [1000000] (hc) (by simp) (by simp) (by simp) (by simp) (by simp) ?_)
     simp only [outS]
     simp [Tm.c,tmsC] <;> (repeat' (first | contradiction | exact .of (by kernel_rfl) | refine And.intro ?_ ?_ | intro _ | (refine agrd_cases (fun h=>?_) (fun h=>?_) <;> (have h':=h; (try simp at h'); first | done | simp [h,h',Tm.c,tmsC] | simp [Tm.c,tmsC]))))
   | false =>
     rw [hb,if_neg (by simp)] at ho
     rw [hb] at hnm
     have hstep:=hp.step h1 (by omega)
     generalize hdT l1=tk at *
     have hk2:tk.kd=2→tk.rw=[48]:=fun h=>by simpa [h] using hnm.symm
     by_cases k2:tk.kd=2
     ·have hk3:=hk2 k2
      simp [tkA,tokC,k2,hk3] <;> (repeat' (first | contradiction | exact .of (by kernel_rfl) | refine And.intro ?_ ?_ | intro _ | (refine agrd_cases (fun h=>?_) (fun h=>?_) <;> (have h':=h; (try simp at h'); first | done | simp [h,h',tkA,tokC,k2,hk3] | simp [tkA,tokC,k2,hk3]))))
      rcases hstep with ⟨e,he,hc⟩ | ⟨t,m,he,hm,hlm,hc⟩
      ·rw [he] at ho
       subst ho
       exact acallP_pan [1000000] (hc) (by simp) (by simp) (by simp) (by simp) (by kernel_rfl)
      rw [he] at ho
      subst ho
      refine acallP_of (acallT_hand [1000000] (hc) (by simp) (by simp) (by simp) (by simp) (by simp) ?_)
      simp <;> (repeat' (first | contradiction | exact .of (by kernel_rfl) | refine And.intro ?_ ?_ | intro _ | (refine agrd_cases (fun h=>?_) (fun h=>?_) <;> (have h':=h; (try simp at h'); first | done | simp [h,h'] | simp))))
      refine acallP_of (acallT_plain (ups (p_made 11 [t])) (by simp) ?_)
      simp only [mapT,bind2,outS]
      simp <;> (repeat' (first | contradiction | exact .of (by kernel_rfl) | refine And.intro ?_ ?_ | intro _ | (refine agrd_cases (fun h=>?_) (fun h=>?_) <;> (have h':=h; (try simp at h'); first | done | simp [h,h'] | simp))))
     ·by_cases k5:tk.kd=5
      ·simp [tkA,tokC,k5] <;> (repeat' (first | contradiction | exact .of (by kernel_rfl) | refine And.intro ?_ ?_ | intro _ | (refine agrd_cases (fun h=>?_) (fun h=>?_) <;> (have h':=h; (try simp at h'); first | done | simp [h,h',tkA,tokC,k5] | simp [tkA,tokC,k5]))))
       rcases hstep with ⟨e,he,hc⟩ | ⟨t,m,he,hm,hlm,hc⟩
       ·rw [he] at ho
        subst ho
        exact acallP_pan [1000000] (hc) (by simp) (by simp) (by simp) (by simp) (by kernel_rfl)
       rw [he] at ho
       subst ho
       refine acallP_of (acallT_hand [1000000] (hc) (by simp) (by simp) (by simp) (by simp) (by simp) ?_)
       simp <;> (repeat' (first | contradiction | exact .of (by kernel_rfl) | refine And.intro ?_ ?_ | intro _ | (refine agrd_cases (fun h=>?_) (fun h=>?_) <;> (have h':=h; (try simp at h'); first | done | simp [h,h'] | simp))))
       refine acallP_of (acallT_plain (ups (p_made 11 [t])) (by simp) ?_)
       simp only [mapT,bind2,outS]
       simp <;> (repeat' (first | contradiction | exact .of (by kernel_rfl) | refine And.intro ?_ ?_ | intro _ | (refine agrd_cases (fun h=>?_) (fun h=>?_) <;> (have h':=h; (try simp at h'); first | done | simp [h,h'] | simp))))
      ·simp [tkA,tokC,k2,k5] <;> (repeat' (first | contradiction | exact .of (by kernel_rfl) | refine And.intro ?_ ?_ | intro _ | (refine agrd_cases (fun h=>?_) (fun h=>?_) <;> (have h':=h; (try simp at h'); first | done | simp [h,h',tkA,tokC,k2,k5] | simp [tkA,tokC,k2,k5]))))
       rcases hstep with ⟨e,he,hc⟩ | ⟨t,m,he,hm,hlm,hc⟩
       ·rw [he] at ho
        subst ho
        exact acallP_pan [1000000] (hc) (by simp) (by simp) (by simp) (by simp) (by kernel_rfl)
       rw [he] at ho
       subst ho
       refine acallP_of (acallT_hand [1000000] (hc) (by simp) (by simp) (by simp) (by simp) (by simp) ?_)
       simp <;> (repeat' (first | contradiction | exact .of (by kernel_rfl) | refine And.intro ?_ ?_ | intro _ | (refine agrd_cases (fun h=>?_) (fun h=>?_) <;> (have h':=h; (try simp at h'); first | done | simp [h,h'] | simp))))
       refine acallP_of (acallT_plain (ups (p_made 11 [t])) (by simp) ?_)
       simp only [mapT,bind2,outS]
       simp <;> (repeat' (first | contradiction | exact .of (by kernel_rfl) | refine And.intro ?_ ?_ | intro _ | (refine agrd_cases (fun h=>?_) (fun h=>?_) <;> (have h':=h; (try simp at h'); first | done | simp [h,h'] | simp))))
 | false =>
   rw [hw,if_neg (by simp)] at ho
   simp <;> (repeat' (first | contradiction | exact .of (by kernel_rfl) | refine And.intro ?_ ?_ | intro _ | (refine agrd_cases (fun h=>?_) (fun h=>?_) <;> (have h':=h; (try simp at h'); first | done | simp [h,h'] | simp))))
   refine acallP_of (acallT_hand [1000000] (take_no ha hT hw) (by simp) (by simp) (by simp) (by simp) (by simp) ?_)
   simp <;> (repeat' (first | contradiction | exact .of (by kernel_rfl) | refine And.intro ?_ ?_ | intro _ | (refine agrd_cases (fun h=>?_) (fun h=>?_) <;> (have h':=h; (try simp at h'); first | done | simp [h,h'] | simp))))
   rcases hq.step ha hl with ⟨e,he,hc⟩ | ⟨t,m,he,hm,hlm,hc⟩
   ·rw [he] at ho
    subst ho
    exact acallP_pan [1000000] (hc) (by simp) (by simp) (by simp) (by simp) (by kernel_rfl)
   rw [he] at ho
   subst ho
   refine acallP_of (acallT_hand [1000000] (hc) (by simp) (by simp) (by simp) (by simp) (by simp) ?_)
   simp only [outS]
   simp <;> (repeat' (first | contradiction | exact .of (by kernel_rfl) | refine And.intro ?_ ?_ | intro _ | (refine agrd_cases (fun h=>?_) (fun h=>?_) <;> (have h':=h; (try simp at h'); first | done | simp [h,h'] | simp))))
end
end Go.Proofs.Tryz
