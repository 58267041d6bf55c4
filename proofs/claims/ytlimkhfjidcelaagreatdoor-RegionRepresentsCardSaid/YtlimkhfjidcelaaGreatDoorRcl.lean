/- RegionClasses: the law. -/
import Derived.Test.YtlimkhfjidcelaaGreatDoorAts
import Derived.Test.YtlimkhfjidcelaaGreatDoorClq
set_option linter.all false
namespace Go.Proofs.Tryz
open Go.Ab
set_option maxRecDepth 100000
set_option maxHeartbeats 2000000

theorem classes_len (c k : Int) (nb : Bool) (l : List At) (hl : l.length ≤ 12) : (classesG c k nb l).length ≤ 1000 := by
  have h : ∀ (f : V → List Int) (m O : List V), (distG f O m).length ≤ O.length + m.length := by
    intro f m
    induction m with
    | nil => intro O; simp [distG]
    | cons v m ih =>
      intro O
      rw [distG]
      split
      · have := ih O; simp; omega
      · have := ih (O ++ [v]); simp at *; omega
  have h1 := h (trsG (aboutG c l)) (genC k nb (constsG (aboutG c l))) []
  have h2 := genC_len k nb (constsG (aboutG c l))
  have h3 := constsG_len (aboutG c l)
  have h4 : (aboutG c l).length ≤ l.length := List.length_filter_le _ _
  unfold classesG
  simp at h1
  omega
theorem typT_at {x : Tb} {c : Nat} (h : c < x.cols.length) : typT x c = x.cols[c].t := by unfold typT; simp [h]
theorem region_classes (L : List Int) (nm : List UInt8) : Cf Eo 4 [.d (.sl (ints L)), .d (.str nm)] [] (.d (.bool true)) [] := by
  refine cf_intro mixo (fn := Tryz.f4) (by kernel_rfl) rfl (by kernel_rfl) (by decide) (by simp) ?_
  have hpl := up (t_plain L 0 (by omega))
  have hn := nextV_in L 0 (n := 3) (by omega)
  have hle := tabsP_le L 1 (1 + nextV L 0 3).toNat
  have hln := tabsP_len L 1 (1 + nextV L 0 3).toNat
  have hmem : ∀ x ∈ (tabsP L 1 (1 + nextV L 0 3).toNat).1, Made x := fun x h => tabs_made h
  have h0 : (0 : Nat) + 1 = 1 := rfl
  rw [h0] at hpl
  have hN : 1 ≤ (1 + nextV L 0 3).toNat ∧ (1 + nextV L 0 3).toNat ≤ 3 := by omega
  generalize (1 + nextV L 0 3).toNat = N at *
  generalize tabsP L 1 N = S at *
  obtain ⟨tabs, i1⟩ := S
  simp only at *
  have hu := nextV_in L i1 (n := tabs.length) (by omega)
  have hnx := up (t_next1 L i1 (by omega) tabs.length (by omega) (by omega))
  generalize nextV L i1 tabs.length = u at *
  have hult : u.toNat < tabs.length := by omega
  obtain ⟨x, hx⟩ : ∃ x, x = tabs[u.toNat] := ⟨_, rfl⟩
  have hgi : ∀ h, tabs[u.toNat]'h = x := fun _ => hx.symm
  have hmd := hmem x (by rw [hx]; exact List.getElem_mem hult)
  have hats := up (t_atoms L (i1 + 1) (by omega) x hmd 6 (by omega))
  have hok := atsG_ok L hmd (nextV L (i1 + 1) ((6 : Nat) + 1)).toNat (i1 + 1 + 1)
  have hal := atsG_len L x (nextV L (i1 + 1) ((6 : Nat) + 1)).toNat (i1 + 1 + 1)
  have h7 := nextV_in L (i1 + 1) (n := (6 : Nat) + 1) (by omega)
  have hal2 : (atsG L x (nextV L (i1 + 1) ((6 : Nat) + 1)).toNat (i1 + 1 + 1)).1.length ≤ 6 := by omega
  clear hal h7 hmem
  generalize atsG L x (nextV L (i1 + 1) ((6 : Nat) + 1)).toNat (i1 + 1 + 1) = q at *
  obtain ⟨A, i2⟩ := q
  simp only at *
  have hu0 := hu.1
  have hcl := hmd.ok.cols
  simp [ints]
  (repeat' (first | contradiction | exact .of (by kernel_rfl) | refine And.intro ?_ ?_ | intro _ | (refine agrd_cases (fun h => ?_) (fun h => ?_) <;> (have h' := h; (try simp at h'); first | done | simp [h, h'] | simp))))
  refine acallT_hand [13] hpl (by simp) (by simp) (by simp) (by simp [tapB]) (by simp) ?_
  simp [tapB]
  (repeat' (first | contradiction | exact .of (by kernel_rfl) | refine And.intro ?_ ?_ | intro _ | (refine agrd_cases (fun h => ?_) (fun h => ?_) <;> (have h' := h; (try simp at h'); first | done | simp [h, h'] | simp))))
  refine acallT_hand [13] hnx (by simp) (by simp) (by simp) (by simp [tapB]) (by simp) ?_
  simp [tapB, hu0, hult, hgi, Tb.c]
  (repeat' (first | contradiction | exact .of (by kernel_rfl) | refine And.intro ?_ ?_ | intro _ | (refine agrd_cases (fun h => ?_) (fun h => ?_) <;> (have h' := h; (try simp at h'); first | done | simp [h, h'] | simp))))
  refine acallT_hand [13] hats (by simp) (by simp) (by simp) (by simp [tapB]; try omega) (by simp [Tb.a, Tb.c]) ?_
  simp [tapB]
  (repeat' (first | contradiction | exact .of (by kernel_rfl) | refine And.intro ?_ ?_ | intro _ | (refine agrd_cases (fun h => ?_) (fun h => ?_) <;> (have h' := h; (try simp at h'); first | done | simp [h, h'] | simp))))
  refine aloopT mixo (by decide) (fun c : Nat => { s := mkS [(1, .d (.str nm)), (7, .ptr 7 0 0), (8, .d (.sl (A.map At.c))), (9, .d (.int .i64 c))], b := mkB [(7, 7, .var (x.c.map AV.d))] }) (fun c => c ≤ x.cols.length) (fun c => x.cols.length - c) 0 (by simp) (sub_mk _ [(7, 7, _)] ⟨by simp, by simp, by simp [renOf, Blk.live, Tb.c], by simp⟩ (by simp [renOf])) ?_
  intro c hc
  by_cases hlt : c < x.cols.length
  · obtain ⟨y, hy⟩ : ∃ y, y = x.cols[c] := ⟨_, rfl⟩
    have hgy : ∀ h, x.cols[c]'h = y := fun _ => hy.symm
    have hw := wrap_in (n := (c : Int) + 1) (by omega) (by omega)
    have hyt := hmd.ty y (by rw [hy]; exact List.getElem_mem hlt)
    have hty : typT x c = y.t := by rw [typT_at hlt, hy]
    have hA1 : ∀ a ∈ A, a.col = c → a.v.k = 0 ∨ a.v.k = y.t := fun a ha he => by
      have h := hok a ha
      have htc : typT x a.col = y.t := by rw [he, hty]
      rcases h.kind with k | k | k | k | k
      · exact .inl (by rw [k.2]; rfl)
      · exact .inr (by omega)
      · exact .inl (by rw [k.2.2]; rfl)
      · exact .inr (by omega)
      · exact .inr (by omega)
    have hA2 : ∀ a ∈ A, a.v.t.length ≤ 200 := fun a ha => Nat.le_trans (hok a ha).len (by omega)
    have hA3 : ∀ a ∈ A, -maxI ≤ a.v.n ∧ a.v.n ≤ maxI := fun a ha => by have := (hok a ha).num; simp only [maxI]; omega
    have hA4 : ∀ a ∈ A, a.v.t ≠ [48] := fun a ha => (hok a ha).no0
    have hpc := p13_classes ⟨nm, y.t, y.b⟩ c A (by omega) hyt hA1 hA2 hA3 hA4
    have hrc := up (r13_classes ⟨nm, y.t, y.b⟩ c A (by omega) hyt hA2 hA3 hA4)
    have hvs := up (values_same (classesG c y.t y.b A) (Nat.le_trans (classes_len c y.t y.b A (by omega)) (by omega)))
    simp only at hpc hrc
    simp [Tb.c, hlt, hgy, Col.c]
    (repeat' (first | contradiction | exact .of (by kernel_rfl) | refine And.intro ?_ ?_ | intro _ | (refine agrd_cases (fun h => ?_) (fun h => ?_) <;> (have h' := h; (try simp at h'); first | done | simp [h, h'] | simp))))
    refine acallT_plain (up (r_key x hmd.ok c)) (by simp [Tb.a, Tb.c]) ?_
    cases hk : keyT x c
    · simp
      (repeat' (first | contradiction | exact .of (by kernel_rfl) | refine And.intro ?_ ?_ | intro _ | (refine agrd_cases (fun h => ?_) (fun h => ?_) <;> (have h' := h; (try simp at h'); first | done | simp [h, h'] | simp))))
      refine acallT_plain hpc (by simp [Col.a, Col.c]) ?_
      simp
      refine acallT_plain hrc (by simp [Col.a, Col.c]) ?_
      simp
      refine acallT_plain hvs (by simp) ?_
      simp
      (repeat' (first | contradiction | exact .of (by kernel_rfl) | refine And.intro ?_ ?_ | intro _ | (refine agrd_cases (fun h => ?_) (fun h => ?_) <;> (have h' := h; (try simp at h'); first | done | simp [h, h'] | simp))))
      refine ⟨c + 1, by omega, ?_, by simp; omega⟩
      exact sub_mk _ [(7, 7, _)] ⟨by simp, by simp, by simp [renOf, Blk.live, Tb.c], by simp⟩ (by simp [renOf, hw])
    · simp
      (repeat' (first | contradiction | exact .of (by kernel_rfl) | refine And.intro ?_ ?_ | intro _ | (refine agrd_cases (fun h => ?_) (fun h => ?_) <;> (have h' := h; (try simp at h'); first | done | simp [h, h'] | simp))))
      refine ⟨c + 1, by omega, ?_, by simp; omega⟩
      exact sub_mk _ [(7, 7, _)] ⟨by simp, by simp, by simp [renOf, Blk.live, Tb.c], by simp⟩ (by simp [renOf, hw])
  have hce : c = x.cols.length := by omega
  subst hce
  simp [Tb.c]
  (repeat' (first | contradiction | exact .of (by kernel_rfl) | refine And.intro ?_ ?_ | intro _ | (refine agrd_cases (fun h => ?_) (fun h => ?_) <;> (have h' := h; (try simp at h'); first | done | simp [h, h'] | simp))))
end Go.Proofs.Tryz
