/- The reference's Valid. -/
import Derived.Test.YtlimkhfjidcelaaGreatDoorTxt
set_option linter.all false
namespace Go.Proofs.Tryz
open Go.Ab

theorem badB_def (b : UInt8) : badB b = (decide ((b.toNat : Int) < 32) || (decide (126 < (b.toNat : Int)) || decide ((b.toNat : Int) = 39))) := by
  unfold badB badN
  rw [Bool.eq_iff_iff]
  simp
  omega

theorem r_valid (v : V) : Cf En 17 [v.a] [] (.d (.bool v.valid)) [] := by
  refine cf_intro mix (fn := Tryz.f17) (by kernel_rfl) rfl (by kernel_rfl) (by decide) (by simp) ?_
  obtain ⟨k, n, t⟩ := v
  unfold V.valid V.a
  simp
  repeat' (first | exact .of (by kernel_rfl) | refine And.intro ?_ ?_ | intro _)
  all_goals try (refine agrd_cases (fun h => ?_) (fun h => ?_) <;> (have h' := h; (try simp at h'); simp [h, h']))
  repeat' (first | exact .of (by kernel_rfl) | refine And.intro ?_ ?_ | intro _)
  all_goals try (refine agrd_cases (fun h => ?_) (fun h => ?_) <;> (have h' := h; (try simp at h'); simp [h, h']))
  repeat' (first | exact .of (by kernel_rfl) | refine And.intro ?_ ?_ | intro _)
  all_goals try (refine agrd_cases (fun h => ?_) (fun h => ?_) <;> (have h' := h; (try simp at h'); simp [h, h']))
  repeat' (first | exact .of (by kernel_rfl) | refine And.intro ?_ ?_ | intro _)
  all_goals try (simp_all; done)
  · simp_all [textOk]; omega
  · have hl : t.length ≤ 24 := by omega
    refine aloopT mix (by decide) (fun i : Nat => { s := mkS [(1, .ptr 1 0 0), (3, .d (.int .i64 i))], b := mkB [(1, 1, .var [.d (.int .i64 k), .d (.int .i64 0), .d (.str t)])] }) (fun i : Nat => i ≤ t.length ∧ ∀ j (h : j < t.length), j < i → badB t[j] = false) (fun i => t.length - i) 0 (by simp) (sub_mk _ _ ⟨by simp, by simp, by simp [renOf, Blk.live], by simp⟩ (by simp [renOf])) ?_
    rintro i ⟨hi, ho⟩
    by_cases hlt : i < t.length
    · have hg : t[i]? = some t[i] := List.getElem?_eq_getElem hlt
      have hbd := badB_def t[i]
      simp [hlt, hg]
      have hbad : badB t[i] = true → textOk t = false := fun h => by
        unfold textOk
        rw [List.any_eq_true.2 ⟨_, List.getElem_mem hlt, h⟩]
        simp
      refine ⟨.of (by kernel_rfl), ?_⟩
      refine agrd_cases (fun h => ?_) (fun h => ?_) <;> (have h' := h; (try simp at h'); simp [h, h', hg])
      · refine agrd_cases (fun h => ?_) (fun h => ?_) <;> (have h' := h; (try simp at h'); simp [h, h', hg])
        · refine ⟨.of (by kernel_rfl), fun h3 => ⟨.of (by kernel_rfl), ?_⟩, fun h3 => ⟨.of (by kernel_rfl), i + 1, ⟨hlt, ?_⟩, ?_, ?_⟩⟩
          · simp_all
          · intro j hj hji
            rcases Nat.lt_or_ge j i with c | c
            · exact ho j hj c
            · have : j = i := by omega
              subst this
              rw [hbd]; simp; omega
          · refine sub_mk _ [(1, 1, _)] ⟨by simp, by simp, by simp [renOf, Blk.live], by simp⟩ ?_
            simp [renOf]
            exact wrap_in (by omega) (by omega)
          · simp; omega
        · refine ⟨.of (by kernel_rfl), .of (by kernel_rfl), ?_⟩
          simp_all
      · refine ⟨.of (by kernel_rfl), .of (by kernel_rfl), ?_⟩
        simp_all
    · simp [hlt]
      refine ⟨.of (by kernel_rfl), .of (by kernel_rfl), ?_⟩
      have : textOk t = true := by
        unfold textOk
        simp [hl]
        intro x hx
        obtain ⟨j, hj, rfl⟩ := List.getElem_of_mem hx
        exact ho j hj (by omega)
      simp_all
end Go.Proofs.Tryz
