/- The texts of expressions. -/
import Derived.Test.YtnbbnkmaoaogeaaDoorTxs
import Derived.Test.YtnbbnkmaoaogeaaDoorRev
import Derived.Lib.Join
import Derived.Lib.ItoaNum
set_option linter.all false
namespace Go.Proofs.Tryd
open Go.Ab
set_option maxRecDepth 100000
set_option maxHeartbeats 16000000

def wordOf (o : Int) : List UInt8 := if isOp o = true then (opOf o).1 else [63]
mutual
def Ex.text : Ex → List UInt8
  | .mk o c n t g ks => if o = 1 ∨ o = 2 ∨ o = 3 ∨ o = 4 then textV (evalV (.mk o c n t g ks) []) else if o = 5 then 36 :: Lib.itoa g
      else wordOf o ++ (40 :: (Lib.join (textAll ks) [44, 32] ++ [41]))
def textAll : List Ex → List (List UInt8)
  | [] => []
  | e :: es => e.text :: textAll es
end
theorem textAll_map : ∀ l : List Ex, textAll l = l.map Ex.text
  | [] => rfl
  | e :: es => by rw [textAll, textAll_map es]; rfl
mutual
def Ex.nodes : Ex → Nat
  | .mk _ _ _ _ _ ks => nodesAll ks + 1
def nodesAll : List Ex → Nat
  | [] => 0
  | e :: es => e.nodes + nodesAll es
end
mutual
def Ex.fine : Ex → Prop
  | .mk _ _ _ _ g ks => (-9223372036854775808 ≤ g ∧ g ≤ 9223372036854775807) ∧ fineAll ks
def fineAll : List Ex → Prop
  | [] => True
  | e :: es => e.fine ∧ fineAll es
end
theorem fineAll_get : ∀ (l : List Ex), fineAll l → ∀ e ∈ l, e.fine
  | e :: es, h, x, hx => by
    rcases List.mem_cons.1 hx with rfl | hx
    · exact h.1
    · exact fineAll_get es h.2 x hx
theorem nodesAll_get : ∀ (l : List Ex), ∀ e ∈ l, e.nodes ≤ nodesAll l
  | e :: es, x, hx => by
    rw [nodesAll]
    rcases List.mem_cons.1 hx with rfl | hx
    · omega
    · have := nodesAll_get es x hx; omega
theorem itoa_len {n : Int} (h0 : -9223372036854775808 ≤ n) (h1 : n ≤ 9223372036854775807) : (Lib.itoa n).length ≤ 21 := by
  have key : ∀ u : Nat, u ≤ 9223372036854775808 → Lib.nDigits u ≤ 20 := fun u hu => by
    rcases Nat.eq_zero_or_pos u with h | h
    · subst h; rw [Lib.nDigits_small (by decide)]; decide
    · have := Lib.numDigits_eq u h (by omega)
      split at this <;> omega
  unfold Lib.itoa
  split
  · have := key n.natAbs (by omega)
    rw [List.length_cons, Lib.decDigits_length]; omega
  · have := key n.toNat (by omega)
    rw [Lib.decDigits_length]; omega
theorem textV_len (v : V) : (textV v).length ≤ 30 := by
  unfold textV
  split
  · rename_i hv
    split
    · rename_i h1
      have := (num_valid hv h1).1
      have := itoa_len (n := v.n) (by omega) (by omega)
      omega
    · split
      · split <;> decide
      · split
        · rename_i h3
          have := (text_valid hv h3).2
          simp; omega
        · decide
  · decide
theorem word_len (o : Int) : (wordOf o).length ≤ 8 := by
  unfold wordOf
  split
  · rename_i h
    have h2 : 1 ≤ o ∧ o ≤ 28 := by simpa [isOp] using h
    obtain ⟨n, rfl⟩ : ∃ n : Nat, o = n := ⟨o.toNat, by omega⟩
    have : ∀ n : Nat, n < 29 → (opOf n).1.length ≤ 8 := by decide
    exact this n (by omega)
  · decide
theorem join_len : ∀ (l : List Ex), (∀ e ∈ l, e.text.length + 2 ≤ 64 * e.nodes) → (Lib.join (textAll l) [44, 32]).length ≤ 64 * nodesAll l
  | [], _ => by simp [textAll, Lib.join, List.intercalate]
  | e :: es, h => by
    have hl : ∀ (es : List Ex), (∀ e ∈ es, e.text.length + 2 ≤ 64 * e.nodes) → 2 * (textAll es).length + Lib.lens (textAll es) ≤ 64 * nodesAll es := by
      intro es
      induction es with
      | nil => intro _; simp [textAll, nodesAll, Lib.lens]
      | cons x xs ih =>
        intro h
        have h1 := h x List.mem_cons_self
        have h2 := ih fun y hy => h y (List.mem_cons_of_mem _ hy)
        simp [textAll, nodesAll, Lib.lens] at h2 ⊢
        omega
    have := hl (e :: es) h
    rw [textAll, Lib.join_length]
    rw [textAll] at this
    simp at this ⊢
    omega
theorem text_len : ∀ (m : Nat) (e : Ex), SizeOf.sizeOf e < m → e.fine → e.text.length + 2 ≤ 64 * e.nodes
  | 0, _, h, _ => absurd h (by omega)
  | m + 1, .mk o c n t g ks, hm, hf => by
    rw [Ex.fine] at hf
    have hj := join_len ks fun e he => text_len m e (by have := Ex.kid_lt (e := .mk o c n t g ks) (k := e) he; omega) (fineAll_get ks hf.2 e he)
    have hw := word_len o
    have hi := itoa_len hf.1.1 hf.1.2
    have hv := textV_len (evalV (.mk o c n t g ks) [])
    rw [Ex.text, Ex.nodes]
    split
    · omega
    · split
      · simp; omega
      · simp; omega
def txF (w : List UInt8) (o c n g : Int) (t : List UInt8) (ks : List Ex) : Nat → St
  | 0 => { s := mkS [(1, .ptr 1 0 0), (3, .d (.str w)), (6, .nils), (35, .d (.sl (ks.map Ex.c))), (36, .d (.int .i64 ks.length)), (37, .d (.int .i64 0))], b := mkB [(1, 1, .var [.d (.int .i64 o), .d (.int .i64 c), .d (.int .i64 n), .d (.str t), .d (.int .i64 g), .d (.sl (ks.map Ex.c))])] }
  | i + 1 => { s := mkS [(1, .ptr 1 0 0), (3, .d (.str w)), (6, .ref 900 0 (i + 1) 1), (35, .d (.sl (ks.map Ex.c))), (36, .d (.int .i64 ks.length)), (37, .d (.int .i64 (i + 1 : Nat)))], b := mkB [(1, 1, .var [.d (.int .i64 o), .d (.int .i64 c), .d (.int .i64 n), .d (.str t), .d (.int .i64 g), .d (.sl (ks.map Ex.c))]), (900, 900, .arr 9 1 ((ks.take (i + 1)).map fun e => [.str e.text]) false)] }

theorem e_text_step (o c n g : Int) (t : List UInt8) (ks : List Ex) (hk : ks.length ≤ 12) (hg : -9223372036854775808 ≤ g ∧ g ≤ 9223372036854775807)
    (he : Cf Eo 33 [(Ex.mk o c n t g ks).a, .d (.sl (([] : List V).map V.c))] [] (evalV (.mk o c n t g ks) []).a [])
    (hrec : ∀ e ∈ ks, Cf Et 46 [e.a] [] (.d (.str e.text)) []) (hb : (Lib.join (textAll ks) [44, 32]).length ≤ 1099511627776) :
    Cf Et 46 [(Ex.mk o c n t g ks).a] [] (.d (.str (Ex.text (.mk o c n t g ks)))) [] := by
  refine cf_intro mixt (fn := Tryd.f46) (by kernel_rfl) rfl (by kernel_rfl) (by decide) (by simp) ?_
  have he := upT he
  by_cases hc : o = 1 ∨ o = 2 ∨ o = 3 ∨ o = 4
  · rw [show Ex.text (.mk o c n t g ks) = textV (evalV (.mk o c n t g ks) []) from by rw [Ex.text, if_pos hc]]
    have hto := v_textOf (evalV (.mk o c n t g ks) [])
    generalize evalV (.mk o c n t g ks) [] = v at *
    rw [Ex.a] at he
    simp [Ex.c, kidsC_map] at he
    rcases hc with rfl | rfl | rfl | rfl
    all_goals
      simp [Ex.a, Ex.c, kidsC_map]
      (repeat' (first | contradiction | exact .of (by kernel_rfl) | refine And.intro ?_ ?_ | intro _ | (refine agrd_cases (fun h => ?_) (fun h => ?_) <;> (have h' := h; (try simp at h'); simp [h, h']))))
      refine acallT_plain he (by simp) ?_
      simp [V.a]
      refine acallT_plain hto (by simp [V.a]) ?_
      simp
      (repeat' (first | contradiction | exact .of (by kernel_rfl) | refine And.intro ?_ ?_ | intro _ | (refine agrd_cases (fun h => ?_) (fun h => ?_) <;> (have h' := h; (try simp at h'); simp [h, h']))))
  have n1 : o ≠ 1 := fun h => hc (.inl h)
  have n2 : o ≠ 2 := fun h => hc (.inr (.inl h))
  have n3 : o ≠ 3 := fun h => hc (.inr (.inr (.inl h)))
  have n4 : o ≠ 4 := fun h => hc (.inr (.inr (.inr h)))
  by_cases h5 : o = 5
  · subst h5
    have hl := itoa_len hg.1 hg.2
    have l1 : 1 + (Lib.itoa g).length ≤ 9223372036854775807 := by omega
    have l2 : (Lib.itoa g).length + 1 ≤ 9223372036854775807 := by omega
    have l3 : (Lib.itoa g).length ≤ 9223372036854775806 := by omega
    rw [show Ex.text (.mk 5 c n t g ks) = 36 :: Lib.itoa g from by rw [Ex.text]; simp]
    simp [Ex.a, Ex.c, kidsC_map]
    (repeat' (first | contradiction | exact .of (by kernel_rfl) | refine And.intro ?_ ?_ | intro _ | (refine agrd_cases (fun h => ?_) (fun h => ?_) <;> (have h' := h; (try simp at h'); simp [h, h']))))
    refine acallT_plain (f_itoa g hg.1 hg.2) (by simp) ?_
    simp [l1, l2, l3]
    (repeat' (first | contradiction | exact .of (by kernel_rfl) | refine And.intro ?_ ?_ | intro _ | (refine agrd_cases (fun h => ?_) (fun h => ?_) <;> (have h' := h; (try simp at h'); simp [h, h']))))
  have ht : Ex.text (.mk o c n t g ks) = wordOf o ++ (40 :: (Lib.join (textAll ks) [44, 32] ++ [41])) := by rw [Ex.text, if_neg hc, if_neg h5]
  rw [ht]
  have hwl := word_len o
  have hfi := upT (e_find o)
  have hjoin := f_join (textAll ks) [44, 32] (by rw [textAll_map, List.length_map]; omega) (by omega)
  generalize Lib.join (textAll ks) [44, 32] = j at *
  have j1 : j.length ≤ 1099511627776 := hb
  have j2 : 2 + j.length ≤ 9223372036854775807 := by omega
  have j3 : j.length + 1 + 1 + 1 ≤ 9223372036854775807 := by omega
  have j4 : 2 + (j.length + 1) ≤ 9223372036854775807 := by omega
  have j5 : 2 + j.length + 1 ≤ 9223372036854775807 := by omega
  have j6 : j.length + 1 + 1 ≤ 9223372036854775807 := by omega
  have j7 : j.length ≤ 9223372036854775804 := by omega
  have j8 : j.length ≤ 9223372036854775805 := by omega
  simp [Ex.a, Ex.c, kidsC_map, n1, n2, n3, n4, h5]
  (repeat' (first | contradiction | exact .of (by kernel_rfl) | refine And.intro ?_ ?_ | intro _ | (refine agrd_cases (fun h => ?_) (fun h => ?_) <;> (have h' := h; (try simp at h'); simp [h, h', n1, n2, n3, n4, h5]))))
  refine acallT_plain hfi (by simp) ?_
  simp [opA]
  cases hop : isOp o
  · have hw : wordOf o = [63] := by simp [wordOf, hop]
    rw [hw]
    (repeat' (first | contradiction | exact .of (by kernel_rfl) | refine And.intro ?_ ?_ | intro _ | (refine agrd_cases (fun h => ?_) (fun h => ?_) <;> (have h' := h; (try simp at h'); simp [h, h', hop]))))
    refine aloopT mixt (by decide) (txF [63] o c n g t ks) (fun i : Nat => i ≤ ks.length) (fun i => ks.length - i) 0 (by simp) (sub_mk [(1, _), (3, _), (6, _), (35, _), (36, _), (37, _)] [(1, 1, _)] ⟨by simp, by simp, by simp [renOf, Blk.live], by simp⟩ (by simp [renOf])) ?_
    intro i hi
    by_cases hlt : i < ks.length
    · have hgi : ks[i]? = some ks[i] := List.getElem?_eq_getElem hlt
      have c1 := Ex.clen ks[i]
      have k1 := Ex.ctake ks[i]
      have hr := hrec ks[i] (List.getElem_mem hlt)
      have htk : List.take (i + 1) (List.map (fun e => [D.str e.text]) ks) = List.take i (List.map (fun e => [D.str e.text]) ks) ++ [[D.str ks[i].text]] := by
        rw [List.take_add_one, List.getElem?_map, hgi]; rfl
      cases i with
      | zero =>
        have hlt2 : (0 : Int) < ks.length := by omega
        simp [txF, hlt, hlt2, hgi, c1, k1]
        (repeat' (first | contradiction | exact .of (by kernel_rfl) | refine And.intro ?_ ?_ | intro _ | (refine agrd_cases (fun h => ?_) (fun h => ?_) <;> (have h' := h; (try simp at h'); simp [h, h']))))
        refine acallT_plain hr (by simp [Ex.a]) ?_
        simp
        (repeat' (first | contradiction | exact .of (by kernel_rfl) | refine And.intro ?_ ?_ | intro _ | (refine agrd_cases (fun h => ?_) (fun h => ?_) <;> (have h' := h; (try simp at h'); simp [h, h']))))
        refine ⟨1, hlt, ?_, ?_⟩
        · refine sub_mk [(1, _), (3, _), (6, _), (35, _), (36, _), (37, _)] [(1, 1, _), (900, 45, _)] ⟨by simp, by simp, ?_, by simp⟩ ?_
          · simp only [Nat.zero_add, List.take_zero, List.nil_append] at htk
            simp [renOf, Blk.live, htk]
          · simp [renOf]
            exact wrap_in (by omega) (by omega)
        · simp; omega
      | succ i =>
        have hlt2 : ((i + 1 : Nat) : Int) < ks.length := by omega
        have hlt3 : (i : Int) + 1 < ks.length := by omega
        have hp : (0 : Int) ≤ (i : Int) + 1 := by omega
        have hmin : min (i + 1) ks.length = i + 1 := by omega
        have s1 : (i + 1 + 1) * 16 ≤ 140737488355328 := by omega
        have s2 : i ≤ 9223372036854775805 := by omega
        simp [txF, hlt, hlt2, hlt3, hp, hgi, c1, k1]
        (repeat' (first | contradiction | exact .of (by kernel_rfl) | refine And.intro ?_ ?_ | intro _ | (refine agrd_cases (fun h => ?_) (fun h => ?_) <;> (have h' := h; (try simp at h'); simp [h, h']))))
        refine acallT_plain hr (by simp [Ex.a]) ?_
        simp [hmin, s1, s2]
        (repeat' (first | contradiction | exact .of (by kernel_rfl) | refine And.intro ?_ ?_ | intro _ | (refine agrd_cases (fun h => ?_) (fun h => ?_) <;> (have h' := h; (try simp at h'); simp [h, h']))))
        refine ⟨i + 2, by omega, ?_, ?_⟩
        · refine sub_mk [(1, _), (3, _), (6, _), (35, _), (36, _), (37, _)] [(1, 1, _), (900, 45, _)] ⟨by simp, by simp, ?_, by simp⟩ ?_
          · simp [renOf, Blk.live, htk]
          · simp [renOf]
            rw [wrap_in (by omega) (by omega)]
        · simp; omega
    · have hie : i = ks.length := by omega
      subst hie
      cases hkl : ks.length with
      | zero =>
        have : ks = [] := List.eq_nil_of_length_eq_zero hkl
        subst this
        simp [txF]
        (repeat' (first | contradiction | exact .of (by kernel_rfl) | refine And.intro ?_ ?_ | intro _ | (refine agrd_cases (fun h => ?_) (fun h => ?_) <;> (have h' := h; (try simp at h'); simp [h, h']))))
        refine acallT_plain hjoin (by simp [textAll]) ?_
        simp [j1, j2, j3, j4, j5, j6, j7, j8]
        (repeat' (first | contradiction | exact .of (by kernel_rfl) | refine And.intro ?_ ?_ | intro _ | (refine agrd_cases (fun h => ?_) (fun h => ?_) <;> (have h' := h; (try simp at h'); simp [h, h']))))
      | succ i =>
        simp [txF, hkl]
        (repeat' (first | contradiction | exact .of (by kernel_rfl) | refine And.intro ?_ ?_ | intro _ | (refine agrd_cases (fun h => ?_) (fun h => ?_) <;> (have h' := h; (try simp at h'); simp [h, h']))))
        have htk : List.take (i + 1) (List.map (fun e => [D.str e.text]) ks) = List.map (fun e => [D.str e.text]) ks := List.take_of_length_le (by simp [hkl])
        have hle : i + 1 ≤ ks.length := by omega
        refine acallT_plain hjoin (by simp [textAll_map, Function.comp_def, htk, hle]) ?_
        simp [htk, hle, j1, j2, j3, j4, j5, j6, j7, j8]
        (repeat' (first | contradiction | exact .of (by kernel_rfl) | refine And.intro ?_ ?_ | intro _ | (refine agrd_cases (fun h => ?_) (fun h => ?_) <;> (have h' := h; (try simp at h'); simp [h, h']))))
  · have hw : wordOf o = (findO o).1 := by simp [wordOf, findO, hop]
    rw [hw] at hwl ⊢
    generalize (findO o).1 = w at *
    have w1 : w.length + 1 ≤ 9223372036854775807 := by omega
    have w0 : w.length ≤ 9223372036854775806 := by omega
    have w2 : w.length + 1 + j.length ≤ 9223372036854775807 := by omega
    have w3 : w.length + (j.length + 1) ≤ 9223372036854775807 := by omega
    have w4 : w.length + (j.length + 1) + 1 ≤ 9223372036854775807 := by omega
    have w5 : w.length + (j.length + 1 + 1) ≤ 9223372036854775807 := by omega
    have w6 : w.length + (j.length + 1) ≤ 9223372036854775806 := by omega
    (repeat' (first | contradiction | exact .of (by kernel_rfl) | refine And.intro ?_ ?_ | intro _ | (refine agrd_cases (fun h => ?_) (fun h => ?_) <;> (have h' := h; (try simp at h'); simp [h, h', hop]))))
    refine aloopT mixt (by decide) (txF w o c n g t ks) (fun i : Nat => i ≤ ks.length) (fun i => ks.length - i) 0 (by simp) (sub_mk [(1, _), (3, _), (6, _), (35, _), (36, _), (37, _)] [(1, 1, _)] ⟨by simp, by simp, by simp [renOf, Blk.live], by simp⟩ (by simp [renOf])) ?_
    intro i hi
    by_cases hlt : i < ks.length
    · have hgi : ks[i]? = some ks[i] := List.getElem?_eq_getElem hlt
      have c1 := Ex.clen ks[i]
      have k1 := Ex.ctake ks[i]
      have hr := hrec ks[i] (List.getElem_mem hlt)
      have htk : List.take (i + 1) (List.map (fun e => [D.str e.text]) ks) = List.take i (List.map (fun e => [D.str e.text]) ks) ++ [[D.str ks[i].text]] := by
        rw [List.take_add_one, List.getElem?_map, hgi]; rfl
      cases i with
      | zero =>
        have hlt2 : (0 : Int) < ks.length := by omega
        simp [txF, hlt, hlt2, hgi, c1, k1]
        (repeat' (first | contradiction | exact .of (by kernel_rfl) | refine And.intro ?_ ?_ | intro _ | (refine agrd_cases (fun h => ?_) (fun h => ?_) <;> (have h' := h; (try simp at h'); simp [h, h']))))
        refine acallT_plain hr (by simp [Ex.a]) ?_
        simp
        (repeat' (first | contradiction | exact .of (by kernel_rfl) | refine And.intro ?_ ?_ | intro _ | (refine agrd_cases (fun h => ?_) (fun h => ?_) <;> (have h' := h; (try simp at h'); simp [h, h']))))
        refine ⟨1, hlt, ?_, ?_⟩
        · refine sub_mk [(1, _), (3, _), (6, _), (35, _), (36, _), (37, _)] [(1, 1, _), (900, 45, _)] ⟨by simp, by simp, ?_, by simp⟩ ?_
          · simp only [Nat.zero_add, List.take_zero, List.nil_append] at htk
            simp [renOf, Blk.live, htk]
          · simp [renOf]
            exact wrap_in (by omega) (by omega)
        · simp; omega
      | succ i =>
        have hlt2 : ((i + 1 : Nat) : Int) < ks.length := by omega
        have hlt3 : (i : Int) + 1 < ks.length := by omega
        have hp : (0 : Int) ≤ (i : Int) + 1 := by omega
        have hmin : min (i + 1) ks.length = i + 1 := by omega
        have s1 : (i + 1 + 1) * 16 ≤ 140737488355328 := by omega
        have s2 : i ≤ 9223372036854775805 := by omega
        simp [txF, hlt, hlt2, hlt3, hp, hgi, c1, k1]
        (repeat' (first | contradiction | exact .of (by kernel_rfl) | refine And.intro ?_ ?_ | intro _ | (refine agrd_cases (fun h => ?_) (fun h => ?_) <;> (have h' := h; (try simp at h'); simp [h, h']))))
        refine acallT_plain hr (by simp [Ex.a]) ?_
        simp [hmin, s1, s2]
        (repeat' (first | contradiction | exact .of (by kernel_rfl) | refine And.intro ?_ ?_ | intro _ | (refine agrd_cases (fun h => ?_) (fun h => ?_) <;> (have h' := h; (try simp at h'); simp [h, h']))))
        refine ⟨i + 2, by omega, ?_, ?_⟩
        · refine sub_mk [(1, _), (3, _), (6, _), (35, _), (36, _), (37, _)] [(1, 1, _), (900, 45, _)] ⟨by simp, by simp, ?_, by simp⟩ ?_
          · simp [renOf, Blk.live, htk]
          · simp [renOf]
            rw [wrap_in (by omega) (by omega)]
        · simp; omega
    · have hie : i = ks.length := by omega
      subst hie
      cases hkl : ks.length with
      | zero =>
        have : ks = [] := List.eq_nil_of_length_eq_zero hkl
        subst this
        simp [txF, w0, w1]
        (repeat' (first | contradiction | exact .of (by kernel_rfl) | refine And.intro ?_ ?_ | intro _ | (refine agrd_cases (fun h => ?_) (fun h => ?_) <;> (have h' := h; (try simp at h'); simp [h, h']))))
        refine acallT_plain hjoin (by simp [textAll]) ?_
        simp [j1, j2, j3, j4, j5, j6, w0, w1, w2, w3, w4, w5, w6]
        (repeat' (first | contradiction | exact .of (by kernel_rfl) | refine And.intro ?_ ?_ | intro _ | (refine agrd_cases (fun h => ?_) (fun h => ?_) <;> (have h' := h; (try simp at h'); simp [h, h']))))
      | succ i =>
        simp [txF, hkl, w0, w1]
        (repeat' (first | contradiction | exact .of (by kernel_rfl) | refine And.intro ?_ ?_ | intro _ | (refine agrd_cases (fun h => ?_) (fun h => ?_) <;> (have h' := h; (try simp at h'); simp [h, h']))))
        have htk : List.take (i + 1) (List.map (fun e => [D.str e.text]) ks) = List.map (fun e => [D.str e.text]) ks := List.take_of_length_le (by simp [hkl])
        have hle : i + 1 ≤ ks.length := by omega
        refine acallT_plain hjoin (by simp [textAll_map, Function.comp_def, htk, hle]) ?_
        simp [htk, hle, j1, j2, j3, j4, j5, j6, w0, w1, w2, w3, w4, w5, w6]
        (repeat' (first | contradiction | exact .of (by kernel_rfl) | refine And.intro ?_ ?_ | intro _ | (refine agrd_cases (fun h => ?_) (fun h => ?_) <;> (have h' := h; (try simp at h'); simp [h, h']))))
end Go.Proofs.Tryd
