/- Functions to which blocks are handed. -/
import Derived.Test.YtnbbnkmaoaogeaaDoorAbSimp
set_option linter.all false
namespace Go.Ab

theorem acallT_hand {E : Env} {f : FuncId} {args xs : List AV} {B B' : List Blk} {dst : Option Tmp} {st : St} {K : St → List Nat → List Nat → Prop} {t : Tok K} {y : AV} (ks : List Nat) (h : Cf E f xs B y B') (hlen : B'.length = ks.length) (nd : ks.Nodup)
    (hlive : ∀ n ∈ ks, (st.b n).live = true) (hb : (callBlks ks st.b).map (·.1) = B) (hx : (callArgs ks st.b args).1 = xs)
    (hK : K (st.put dst (callRes ks 0 y) (frzW st.b (callFrz ks st.b args) ++ callOut ks 0 B')) (callFrz ks st.b args ++ ks ++ (callOut ks 0 B').map (·.1)) (callFrz ks st.b args ++ (callOut ks 0 B').map (·.1))) : acallT E f args dst st K t := by
  unfold acallT
  refine ⟨ks, 0, y, B', .inr hlen, ⟨nd, hlive, by omega, fun j hj => by omega, ?_, ?_⟩, hK⟩
  · rw [hlen, Nat.sub_self]; decide
  · rw [hx, hb]; exact h

def idKF : Nat → List Blk → Kept
  | _, [] => []
  | i, b :: B => (firstName + i, firstName + i, b) :: idKF (i + 1) B
def idK (B : List Blk) : Kept := idKF 0 B
theorem idKF_map : ∀ (B : List Blk) (i : Nat), ((idKF i B).map fun p => (p.1, p.2.2)) = ((B.zipIdx i).map fun p => (firstName + p.2, p.1))
  | [], _ => rfl
  | b :: B, i => by simp [idKF, idKF_map B (i + 1)]
theorem idKF_get : ∀ (B : List Blk) (i j : Nat), (idKF i B)[j]? = (B[j]?).map fun b => (firstName + (i + j), firstName + (i + j), b)
  | [], _, _ => rfl
  | b :: B, i, 0 => by simp [idKF]
  | b :: B, i, j + 1 => by simp [idKF, idKF_get B (i + 1) j]; rw [show i + 1 + j = i + (j + 1) from by omega]
def aendH (nb : Nat) (r : Option AV) (bl : Nat → Blk) (y : AV) (B' : List Blk) : Prop := match r with
  | some v => KeptOk nb bl (idK B') ∧ (cvA (renOf (idK B')) bl false v).1 = y
  | none => False
theorem ends_hand {E : Env} {fn : Func} {y : AV} {st : St} {B' : List Blk} : Ends E fn B'.length y B' st = aendH B'.length (resV E fn st) st.b y B' := by
  apply propext
  unfold aendH
  constructor
  · rintro ⟨v, l, hv, ok, hm, hy⟩
    have hl : l = idK B' := by
      apply List.ext_getElem?
      intro i
      unfold idK
      rw [idKF_get, Nat.zero_add]
      have hi := congrArg (·[i]?) hm
      simp only [List.getElem?_map, List.getElem?_zipIdx, Nat.zero_add, Option.map_map] at hi
      cases hb : B'[i]? with
      | none =>
        rw [hb] at hi
        cases hli : l[i]? with
        | none => rfl
        | some p => rw [hli] at hi; cases hi
      | some b =>
        rw [hb] at hi
        cases hli : l[i]? with
        | none => rw [hli] at hi; cases hi
        | some p =>
          rw [hli] at hi
          obtain ⟨a, n, c⟩ := p
          simp only [Option.map_some, Function.comp_apply, Option.some.injEq, Prod.mk.injEq] at hi
          obtain ⟨rfl, rfl⟩ := hi
          obtain ⟨hil, _⟩ := List.getElem?_eq_some_iff.1 hb
          obtain ⟨p, hp, e1, e2⟩ := ok.base i hil
          obtain ⟨k, hk⟩ := List.mem_iff_getElem?.1 hp
          have hn := ok.new
          obtain ⟨hk1, hk2⟩ := List.getElem?_eq_some_iff.1 hk
          obtain ⟨hi1, hi2⟩ := List.getElem?_eq_some_iff.1 hli
          have hki : k = i := by
            have hkm : (l.map fun p => p.1)[k]? = some (firstName + i) := by rw [List.getElem?_map, hk]; exact congrArg some e1
            have him : (l.map fun p => p.1)[i]? = some (firstName + i) := by rw [List.getElem?_map, hli]; rfl
            have hpw := List.pairwise_iff_getElem.1 hn
            have hk3 : k < (l.map fun p => p.1).length := by simpa using hk1
            have hi3 : i < (l.map fun p => p.1).length := by simpa using hi1
            rw [List.getElem?_eq_getElem hk3, Option.some.injEq] at hkm
            rw [List.getElem?_eq_getElem hi3, Option.some.injEq] at him
            rcases Nat.lt_trichotomy k i with c | c | c
            · exact absurd (hkm.trans him.symm) (hpw k i hk3 hi3 c)
            · exact c
            · exact absurd (him.trans hkm.symm) (hpw i k hi3 hk3 c)
          subst hki
          rw [hk] at hli
          simp only [Option.some.injEq] at hli
          subst hli
          simp only at e2
          subst e2
          rfl
    subst hl
    rw [hv]
    exact ⟨ok, hy⟩
  · intro h
    cases hr : resV E fn st with
    | none => rw [hr] at h; exact h.elim
    | some v =>
      rw [hr] at h
      exact ⟨v, idK B', hr, h.1, idKF_map B' 0, h.2⟩
theorem ends_hand1 {E : Env} {fn : Func} {y : AV} {st : St} {b : Blk} : Ends E fn 1 y [b] st = aendH 1 (resV E fn st) st.b y [b] := ends_hand (B' := [b])
theorem ends_hand4 {E : Env} {fn : Func} {y : AV} {st : St} {b1 b2 b3 b4 : Blk} : Ends E fn 4 y [b1, b2, b3, b4] st = aendH 4 (resV E fn st) st.b y [b1, b2, b3, b4] := ends_hand (B' := [b1, b2, b3, b4])
theorem aendH_some {nb : Nat} {v y : AV} {bl : Nat → Blk} {B : List Blk} : aendH nb (some v) bl y B = (KeptOk nb bl (idK B) ∧ (cvA (renOf (idK B)) bl false v).1 = y) := rfl
theorem firstName_eq : firstName = 1000000 := rfl
theorem kept_iff {nb : Nat} {bl : Nat → Blk} {l : Kept} : KeptOk nb bl l ↔ (l.map fun p => p.1).Nodup ∧ (l.map fun p => p.2.1).Nodup ∧ (∀ p ∈ l, ((bl p.2.1).live = true ∨ bl p.2.1 = .dead) ∧ (cvB (renOf l) bl true (bl p.2.1)).1 = p.2.2) ∧ ∀ j, j < nb → ∃ p ∈ l, p.1 = firstName + j ∧ p.2.1 = firstName + j :=
  ⟨fun h => ⟨h.1, h.2, h.3, h.4⟩, fun h => ⟨h.1, h.2.1, h.2.2.1, h.2.2.2⟩⟩
theorem keptH {B : List Blk} {nb : Nat} {bl : Nat → Blk} (hn : nb = B.length) (h : ∀ i b, B[i]? = some b → ((bl (firstName + i)).live = true ∨ bl (firstName + i) = .dead) ∧ (cvB (renOf (idK B)) bl true (bl (firstName + i))).1 = b) : KeptOk nb bl (idK B) := by
  have inj : ∀ (g : Nat × Nat × Blk → Nat), (∀ i b, g (firstName + i, firstName + i, b) = firstName + i) → ∀ (B : List Blk) (k : Nat), ((idKF k B).map g).Nodup ∧ ∀ x ∈ (idKF k B).map g, firstName + k ≤ x := by
    intro g hg B
    induction B with
    | nil => intro k; exact ⟨List.nodup_nil, fun x hx => by cases hx⟩
    | cons b B ih =>
      intro k
      obtain ⟨h1, h2⟩ := ih (k + 1)
      simp only [idKF, List.map_cons, hg, List.nodup_cons]
      refine ⟨⟨fun hm => ?_, h1⟩, fun x hx => ?_⟩
      · have := h2 _ hm; omega
      · rcases List.mem_cons.1 hx with rfl | hx
        · exact Nat.le_refl _
        · have := h2 x hx; omega
  refine ⟨(inj _ (fun _ _ => rfl) B 0).1, (inj _ (fun _ _ => rfl) B 0).1, fun p hp => ?_, fun j hj => ?_⟩
  · obtain ⟨i, hi⟩ := List.mem_iff_getElem?.1 hp
    unfold idK at hi
    rw [idKF_get] at hi
    cases hb : B[i]? with
    | none => rw [hb] at hi; cases hi
    | some b =>
      rw [hb] at hi
      simp only [Nat.zero_add, Option.map_some, Option.some.injEq] at hi
      subst hi
      exact h i b hb
  · have hj' : j < B.length := by omega
    refine ⟨(firstName + j, firstName + j, B[j]), ?_, rfl, rfl⟩
    refine List.mem_iff_getElem?.2 ⟨j, ?_⟩
    unfold idK
    rw [idKF_get, List.getElem?_eq_getElem hj']
    simp
attribute [simp ↓] ends_hand1 ends_hand4
attribute [simp] firstName_eq aendH_some
theorem fwdR_cons (k : Nat) (ks : List Nat) (n : Nat) : fwdR (k :: ks) n = if n = k then some 1000000 else (fwdR ks n).map (· + 1) := by
  unfold fwdR
  rw [List.idxOf?_cons]
  by_cases h : n = k
  · subst h; simp
  · have : (k == n) = false := by simpa using fun e => h e.symm
    rw [this, if_neg h]
    cases List.idxOf? n ks <;> rfl
theorem renOf_idK {B : List Blk} {n : Nat} : renOf (idK B) n = if firstName ≤ n ∧ n < firstName + B.length then some n else none := by
  have key : ∀ (B : List Blk) (i : Nat), renOf (idKF i B) n = if firstName + i ≤ n ∧ n < firstName + i + B.length then some n else none := by
    intro B
    induction B with
    | nil => intro i; simp only [idKF, renOf]; rw [if_neg (by simp only [List.length_nil]; omega)]
    | cons b B ih =>
      intro i
      simp only [idKF, renOf, ih]
      by_cases h : n = firstName + i
      · subst h; simp
      · simp only [h, if_false, List.length_cons]
        by_cases h2 : firstName + (i + 1) ≤ n ∧ n < firstName + (i + 1) + B.length
        · rw [if_pos h2, if_pos (by omega)]
        · rw [if_neg h2, if_neg (by omega)]
  exact key B 0
theorem kept_idK {B : List Blk} {bl : Nat → Blk} : KeptOk B.length bl (idK B) = ∀ i b, B[i]? = some b → ((bl (firstName + i)).live = true ∨ bl (firstName + i) = .dead) ∧ (cvB (renOf (idK B)) bl true (bl (firstName + i))).1 = b := by
  apply propext
  constructor
  · intro h i b hb
    exact h.cont (firstName + i, firstName + i, b) (List.mem_iff_getElem?.2 ⟨i, by unfold idK; rw [idKF_get, hb]; simp⟩)
  · exact keptH rfl
theorem kept1 {b : Blk} {bl : Nat → Blk} : KeptOk 1 bl (idK [b]) = (((bl 1000000).live = true ∨ bl 1000000 = .dead) ∧ (cvB (renOf (idK [b])) bl true (bl 1000000)).1 = b) := by
  have := @kept_idK [b] bl
  simp only [List.length_cons, List.length_nil, Nat.zero_add] at this
  rw [this]
  apply propext
  constructor
  · intro h; exact h 0 b rfl
  · rintro h i c hc
    cases i with
    | zero => cases hc; exact h
    | succ i => cases hc
theorem kept4 {b0 b1 b2 b3 : Blk} {bl : Nat → Blk} : KeptOk 4 bl (idK [b0, b1, b2, b3]) =
    ((((bl 1000000).live = true ∨ bl 1000000 = .dead) ∧ (cvB (renOf (idK [b0, b1, b2, b3])) bl true (bl 1000000)).1 = b0) ∧
    (((bl 1000001).live = true ∨ bl 1000001 = .dead) ∧ (cvB (renOf (idK [b0, b1, b2, b3])) bl true (bl 1000001)).1 = b1) ∧
    (((bl 1000002).live = true ∨ bl 1000002 = .dead) ∧ (cvB (renOf (idK [b0, b1, b2, b3])) bl true (bl 1000002)).1 = b2) ∧
    (((bl 1000003).live = true ∨ bl 1000003 = .dead) ∧ (cvB (renOf (idK [b0, b1, b2, b3])) bl true (bl 1000003)).1 = b3)) := by
  have := @kept_idK [b0, b1, b2, b3] bl
  simp only [List.length_cons, List.length_nil, Nat.zero_add, Nat.reduceAdd] at this
  rw [this]
  apply propext
  constructor
  · intro h; exact ⟨h 0 b0 rfl, h 1 b1 rfl, h 2 b2 rfl, h 3 b3 rfl⟩
  · rintro ⟨h0, h1, h2, h3⟩ i c hc
    match i, hc with
    | 0, hc => cases hc; exact h0
    | 1, hc => cases hc; exact h1
    | 2, hc => cases hc; exact h2
    | 3, hc => cases hc; exact h3
theorem blkOf_cons {b : Blk} {B : List Blk} {n : Nat} : blkOf (b :: B) n = if 1000000 ≤ n then ((b :: B)[n - 1000000]?).getD .free else .free := rfl
theorem renOf_idK' {B : List Blk} {n : Nat} : renOf (idK B) n = if 1000000 ≤ n ∧ n < 1000000 + B.length then some n else none := renOf_idK
attribute [simp] kept1 kept4 blkOf_cons renOf_idK' fwdR_cons
attribute [simp] callOut nameBack backR callBlks Blk.live
/-- How kept blocks are told in a loop that keeps one that was handed over. -/
theorem base1 {l : Kept} {b : Blk} : ∀ j, j < 1 → ∃ p ∈ ((1000000, 1000000, b) :: l), p.1 = firstName + j ∧ p.2.1 = firstName + j := fun j hj => by
  obtain rfl : j = 0 := by omega
  exact ⟨_, List.mem_cons_self, rfl, rfl⟩
theorem base4 {l : Kept} {b0 b1 b2 b3 : Blk} : ∀ j, j < 4 → ∃ p ∈ ((1000000, 1000000, b0) :: (1000001, 1000001, b1) :: (1000002, 1000002, b2) :: (1000003, 1000003, b3) :: l), p.1 = firstName + j ∧ p.2.1 = firstName + j := fun j hj => by
  match j, hj with
  | 0, _ => exact ⟨(1000000, 1000000, b0), by simp, rfl, rfl⟩
  | 1, _ => exact ⟨(1000001, 1000001, b1), by simp, rfl, rfl⟩
  | 2, _ => exact ⟨(1000002, 1000002, b2), by simp, rfl, rfl⟩
  | 3, _ => exact ⟨(1000003, 1000003, b3), by simp, rfl, rfl⟩
/-- A call that hands one new block over. -/
theorem acallT_new {E : Env} {f : FuncId} {args xs : List AV} {B B' : List Blk} {d : Nat} {st : St} {K : St → List Nat → List Nat → Prop} {t : Tok K} {y : AV} (ks : List Nat) (h : Cf E f xs B y B') (hlen : B'.length = ks.length + 1) (nd : ks.Nodup)
    (hlive : ∀ n ∈ ks, (st.b n).live = true) (hd : d ≤ 900) (hfree : st.b (1000 * (d + 1)) = .free) (hb : (callBlks ks st.b).map (·.1) = B) (hx : (callArgs ks st.b args).1 = xs)
    (hK : K (st.put (some d) (callRes ks d y) (frzW st.b (callFrz ks st.b args) ++ callOut ks d B')) (callFrz ks st.b args ++ ks ++ (callOut ks d B').map (·.1)) (callFrz ks st.b args ++ (callOut ks d B').map (·.1))) : acallT E f args (some d) st K t := by
  unfold acallT
  refine ⟨ks, d, y, B', .inl rfl, ⟨nd, hlive, by omega, fun j hj => ?_, ?_, ?_⟩, hK⟩
  · obtain rfl : j = 0 := by omega
    exact hfree
  · rw [hlen, Nat.add_sub_cancel_left]
    unfold newName
    rw [firstName_eq]
    omega
  · rw [hx, hb]; exact h
attribute [simp] newName
end Go.Ab
