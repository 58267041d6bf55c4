/- The reference's texts of expressions. -/
import Derived.Test.YtnbbnkmaoaogeaaDoorTxe
set_option linter.all false
namespace Go.Proofs.Tryd
open Go.Ab
set_option maxRecDepth 100000
set_option maxHeartbeats 16000000

theorem r_word (o : Int) (ho : ¬(1 ≤ o ∧ o ≤ 5)) : Cf En 77 [.d (.int .i64 o)] [] (.d (.str (wordOf o))) [] := by
  refine cf_intro mix (fn := Tryd.f77) (by kernel_rfl) rfl (by kernel_rfl) (by decide) (by simp) ?_
  cases hop : isOp o
  · have h2 : ¬(1 ≤ o ∧ o ≤ 28) := by
      intro h
      simp [isOp] at hop
      omega
    rw [show wordOf o = [63] from by simp [wordOf, hop]]
    by_cases h6 : o < 6
    · simp [h6]
      (repeat' (first | contradiction | exact .of (by kernel_rfl) | refine And.intro ?_ ?_ | intro _ | (refine agrd_cases (fun h => ?_) (fun h => ?_) <;> (have h' := h; (try simp at h'); first | done | simp [h, h', h6] | simp [h6]))))
    · have h28 : 28 < o := by omega
      simp [h6, h28]
      (repeat' (first | contradiction | exact .of (by kernel_rfl) | refine And.intro ?_ ?_ | intro _ | (refine agrd_cases (fun h => ?_) (fun h => ?_) <;> (have h' := h; (try simp at h'); first | done | simp [h, h', h6, h28] | simp [h6, h28]))))
  · have h2 : 1 ≤ o ∧ o ≤ 28 := by simpa [isOp] using hop
    have h3 : o = 6 ∨ o = 7 ∨ o = 8 ∨ o = 9 ∨ o = 10 ∨ o = 11 ∨ o = 12 ∨ o = 13 ∨ o = 14 ∨ o = 15 ∨ o = 16 ∨ o = 17 ∨ o = 18 ∨ o = 19 ∨ o = 20 ∨ o = 21 ∨ o = 22 ∨ o = 23 ∨ o = 24 ∨ o = 25 ∨ o = 26 ∨ o = 27 ∨ o = 28 := by omega
    clear hop ho h2
    rcases h3 with rfl | rfl | rfl | rfl | rfl | rfl | rfl | rfl | rfl | rfl | rfl | rfl | rfl | rfl | rfl | rfl | rfl | rfl | rfl | rfl | rfl | rfl | rfl
    all_goals
      simp [wordOf, isOp, opOf, ops, wrap_in]
      (repeat' (first | contradiction | (refine agrd_cases (fun h => ?_) (fun h => ?_) <;> first | (simp at h; done) | simp [wrap_in]) | exact .of (by kernel_rfl) | refine And.intro ?_ ?_ | intro _))
theorem join_take_le (l : List (List UInt8)) (sep : List UInt8) (i : Nat) : (Lib.join (l.take i) sep).length ≤ (Lib.join l sep).length := by
  cases l with
  | nil => simp
  | cons x r =>
    cases i with
    | zero => simp [Lib.join_nil]
    | succ i =>
      have := Lib.joinTail_take_le sep r i
      rw [List.take_succ_cons, Lib.join_cons, Lib.join_cons, List.length_append, List.length_append]
      omega
theorem join_take_succ (l : List (List UInt8)) (sep : List UInt8) (i : Nat) (y : List UInt8) (h : l[i + 1]? = some y) : Lib.join (l.take (i + 2)) sep = Lib.join (l.take (i + 1)) sep ++ sep ++ y := by
  cases l with
  | nil => simp at h
  | cons x r =>
    rw [List.take_succ_cons, List.take_succ_cons, Lib.join_cons, Lib.join_cons, Lib.joinTail_take_succ sep r i y (by simpa using h)]
    simp [List.append_assoc]
theorem join_take_one (l : List (List UInt8)) (sep : List UInt8) (y : List UInt8) (h : l[0]? = some y) : Lib.join (l.take 1) sep = y := by
  cases l with
  | nil => simp at h
  | cons x r =>
    simp at h
    simp [Lib.join_one, h]
def rxF (w : List UInt8) (o c n g : Int) (t : List UInt8) (ks : List Ex) (i : Nat) : St :=
  { s := mkS [(1, .ptr 1 0 0), (3, .d (.str (w ++ (40 :: Lib.join ((textAll ks).take i) [44, 32])))), (4, .d (.int .i64 i))], b := mkB [(1, 1, .var [.d (.int .i64 o), .d (.int .i64 c), .d (.int .i64 n), .d (.str t), .d (.int .i64 g), .d (.sl (ks.map Ex.c))])] }
theorem r_text_step (o c n g : Int) (t : List UInt8) (ks : List Ex) (hk : ks.length ≤ 12) (hg : -9223372036854775808 ≤ g ∧ g ≤ 9223372036854775807)
    (he : Cf Eo 36 [(Ex.mk o c n t g ks).a, .d (.sl (([] : List V).map V.c))] [] (evalV (.mk o c n t g ks) []).a [])
    (hrec : ∀ e ∈ ks, Cf Et 47 [e.a] [] (.d (.str e.text)) []) (hb : (Lib.join (textAll ks) [44, 32]).length ≤ 1099511627776) :
    Cf Et 47 [(Ex.mk o c n t g ks).a] [] (.d (.str (Ex.text (.mk o c n t g ks)))) [] := by
  refine cf_intro mixt (fn := Tryd.f47) (by kernel_rfl) rfl (by kernel_rfl) (by decide) (by simp) ?_
  have he := upT he
  by_cases hc : o = 1 ∨ o = 2 ∨ o = 3 ∨ o = 4
  · rw [show Ex.text (.mk o c n t g ks) = textV (evalV (.mk o c n t g ks) []) from by rw [Ex.text, if_pos hc]]
    have hto := r_textOf (evalV (.mk o c n t g ks) [])
    generalize evalV (.mk o c n t g ks) [] = v at *
    rw [Ex.a] at he
    simp [Ex.c, kidsC_map] at he
    rcases hc with rfl | rfl | rfl | rfl
    all_goals
      simp [Ex.a, Ex.c, kidsC_map]
      (repeat' (first | contradiction | exact .of (by kernel_rfl) | refine And.intro ?_ ?_ | intro _ | (refine agrd_cases (fun h => ?_) (fun h => ?_) <;> (have h' := h; (try simp at h'); first | done | simp [h, h'] | simp))))
      refine acallT_plain he (by simp) ?_
      simp [V.a]
      refine acallT_plain hto (by simp [V.a]) ?_
      simp
      (repeat' (first | contradiction | exact .of (by kernel_rfl) | refine And.intro ?_ ?_ | intro _ | (refine agrd_cases (fun h => ?_) (fun h => ?_) <;> (have h' := h; (try simp at h'); first | done | simp [h, h'] | simp))))
  have n1 : o ≠ 1 := fun h => hc (.inl h)
  have n2 : o ≠ 2 := fun h => hc (.inr (.inl h))
  have n3 : o ≠ 3 := fun h => hc (.inr (.inr (.inl h)))
  have n4 : o ≠ 4 := fun h => hc (.inr (.inr (.inr h)))
  by_cases h5 : o = 5
  · subst h5
    have hl := itoa_len hg.1 hg.2
    have l1 : 1 + (Lib.itoa g).length ≤ 9223372036854775807 := by omega
    have l2 : (Lib.itoa g).length + 1 ≤ 9223372036854775807 := by omega
    have l3 : (Lib.itoa g).length ≤ 9223372036854775806 := by omega
    rw [show Ex.text (.mk 5 c n t g ks) = 36 :: Lib.itoa g from by rw [Ex.text]; simp]
    simp [Ex.a, Ex.c, kidsC_map]
    (repeat' (first | contradiction | exact .of (by kernel_rfl) | refine And.intro ?_ ?_ | intro _ | (refine agrd_cases (fun h => ?_) (fun h => ?_) <;> (have h' := h; (try simp at h'); first | done | simp [h, h'] | simp))))
    refine acallT_plain (f_itoa g hg.1 hg.2) (by simp) ?_
    simp [l1, l2, l3]
    (repeat' (first | contradiction | exact .of (by kernel_rfl) | refine And.intro ?_ ?_ | intro _ | (refine agrd_cases (fun h => ?_) (fun h => ?_) <;> (have h' := h; (try simp at h'); first | done | simp [h, h'] | simp))))
  have ht : Ex.text (.mk o c n t g ks) = wordOf o ++ (40 :: (Lib.join (textAll ks) [44, 32] ++ [41])) := by rw [Ex.text, if_neg hc, if_neg h5]
  rw [ht]
  have hwl := word_len o
  have hwo := up2 (r_word o (by omega))
  generalize wordOf o = w at *
  have w0 : w.length ≤ 9223372036854775806 := by omega
  have w1 : w.length + 1 ≤ 9223372036854775807 := by omega
  simp [Ex.a, Ex.c, kidsC_map, n1, n2, n3, n4, h5]
  (repeat' (first | contradiction | exact .of (by kernel_rfl) | refine And.intro ?_ ?_ | intro _ | (refine agrd_cases (fun h => ?_) (fun h => ?_) <;> (have h' := h; (try simp at h'); first | done | simp [h, h', n1, n2, n3, n4, h5] | simp [n1, n2, n3, n4, h5]))))
  refine acallT_plain hwo (by simp) ?_
  simp [w0, w1]
  (repeat' (first | contradiction | exact .of (by kernel_rfl) | refine And.intro ?_ ?_ | intro _ | (refine agrd_cases (fun h => ?_) (fun h => ?_) <;> (have h' := h; (try simp at h'); first | done | simp [h, h'] | simp))))
  refine aloopT mixt (by decide) (rxF w o c n g t ks) (fun i : Nat => i ≤ ks.length) (fun i => ks.length - i) 0 (by simp) (sub_mk [(1, _), (3, _), (4, _)] [(1, 1, _)] ⟨by simp, by simp, by simp [renOf, Blk.live], by simp⟩ (by simp [renOf, Lib.join_nil])) ?_
  intro i hi
  by_cases hlt : i < ks.length
  · have hgi : ks[i]? = some ks[i] := List.getElem?_eq_getElem hlt
    have c1 := Ex.clen ks[i]
    have k1 := Ex.ctake ks[i]
    have hr := hrec ks[i] (List.getElem_mem hlt)
    have hti : (textAll ks)[i]? = some ks[i].text := by rw [textAll_map, List.getElem?_map, hgi]; rfl
    have hb0 := join_take_le (textAll ks) [44, 32] i
    have hb1 := join_take_le (textAll ks) [44, 32] (i + 1)
    cases i with
    | zero =>
      have hlt2 : (0 : Int) < ks.length := by omega
      rw [join_take_one _ _ _ hti] at hb1
      have e1 := join_take_one (textAll ks) [44, 32] _ hti
      have x1 : w.length + 1 + ks[0].text.length ≤ 9223372036854775807 := by omega
      have x2 : w.length + (ks[0].text.length + 1) ≤ 9223372036854775807 := by omega
      simp [rxF, hlt, hlt2, hgi, c1, k1, Lib.join_nil]
      (repeat' (first | contradiction | exact .of (by kernel_rfl) | refine And.intro ?_ ?_ | intro _ | (refine agrd_cases (fun h => ?_) (fun h => ?_) <;> (have h' := h; (try simp at h'); first | done | simp [h, h'] | simp))))
      refine acallT_plain hr (by simp [Ex.a]) ?_
      simp [x1, x2]
      (repeat' (first | contradiction | exact .of (by kernel_rfl) | refine And.intro ?_ ?_ | intro _ | (refine agrd_cases (fun h => ?_) (fun h => ?_) <;> (have h' := h; (try simp at h'); first | done | simp [h, h'] | simp))))
      refine ⟨1, hlt, ?_, ?_⟩
      · refine sub_mk [(1, _), (3, _), (4, _)] [(1, 1, _)] ⟨by simp, by simp, by simp [renOf, Blk.live], by simp⟩ ?_
        simp [renOf, rxF, e1]
        exact wrap_in (by omega) (by omega)
      · simp; omega
    | succ i =>
      have hlt2 : ((i + 1 : Nat) : Int) < ks.length := by omega
      have hlt3 : (i : Int) + 1 < ks.length := by omega
      have hp : (0 : Int) ≤ (i : Int) + 1 := by omega
      have hp2 : (0 : Int) < (i : Int) + 1 := by omega
      have e1 := join_take_succ (textAll ks) [44, 32] i _ hti
      rw [e1] at hb1
      simp only [rxF]
      generalize Lib.join ((textAll ks).take (i + 1)) [44, 32] = j at *
      simp at hb1
      have x1 : w.length + (j.length + 1) + 2 ≤ 9223372036854775807 := by omega
      have x2 : w.length + (j.length + 2 + 1) ≤ 9223372036854775807 := by omega
      simp [hlt, hlt2, hlt3, hp, hp2, hgi, c1, k1, x1, x2]
      (repeat' (first | contradiction | exact .of (by kernel_rfl) | refine And.intro ?_ ?_ | intro _ | (refine agrd_cases (fun h => ?_) (fun h => ?_) <;> (have h' := h; (try simp at h'); first | done | simp [h, h'] | simp))))
      refine acallT_plain hr (by simp [Ex.a]) ?_
      have x3 : w.length + (j.length + 2 + 1) + ks[i + 1].text.length ≤ 9223372036854775807 := by omega
      simp [x1, x2, x3]
      (repeat' (first | contradiction | exact .of (by kernel_rfl) | refine And.intro ?_ ?_ | intro _ | (refine agrd_cases (fun h => ?_) (fun h => ?_) <;> (have h' := h; (try simp at h'); first | done | simp [h, h'] | simp))))
      refine ⟨i + 2, by omega, ?_, ?_⟩
      · refine sub_mk [(1, _), (3, _), (4, _)] [(1, 1, _)] ⟨by simp, by simp, by simp [renOf, Blk.live], by simp⟩ ?_
        simp [renOf, rxF, e1]
        rw [wrap_in (by omega) (by omega)]
        omega
      · simp; omega
  · have hie : i = ks.length := by omega
    subst hie
    have e1 : (textAll ks).take ks.length = textAll ks := List.take_of_length_le (by rw [textAll_map, List.length_map]; omega)
    simp only [rxF]
    rw [e1]
    generalize Lib.join (textAll ks) [44, 32] = j at *
    have x1 : w.length + (j.length + 1) + 1 ≤ 9223372036854775807 := by omega
    have x2 : w.length + (j.length + 1 + 1) ≤ 9223372036854775807 := by omega
    simp [x1, x2]
    (repeat' (first | contradiction | exact .of (by kernel_rfl) | refine And.intro ?_ ?_ | intro _ | (refine agrd_cases (fun h => ?_) (fun h => ?_) <;> (have h' := h; (try simp at h'); first | done | simp [h, h'] | simp))))
end Go.Proofs.Tryd
