/- Values of texts: the program's Parse. -/
import Derived.Test.YtlimkhfjidcelaaDoorVtx
import Derived.Test.YtlimkhfjidcelaaDoorShn
set_option linter.all false
namespace Go.Proofs.Tryd
open Go.Ab Go.RowKit
set_option maxRecDepth 100000
set_option maxHeartbeats 1000000

@[simp] theorem isIface_error : isIface Tryd.prog 112 = true := by kernel_rfl
theorem err_cell {w : World} {g : Gh} {B : List Blk} {bl : Nat → Blk} (m : Mem (ctxOf Ev w g B) bl w g) {i : Nat} (hi : i = 2 ∨ i = 3) : ∃ v t x, w.cell? ⟨i, 0, none⟩ = some v ∧ v = .iface t x := by
  have hc := m.glob i [.any isErr] (by rcases hi with rfl | rfl <;> simp [ctxOf])
  simp only [RepCells, RepD] at hc
  obtain ⟨⟨v, hv, ⟨t, x, rfl⟩, _⟩, _⟩ := hc
  exact ⟨_, t, x, m.con _ _ _ hv, rfl⟩
/-- What parsing a number says. -/
def numE (s : List UInt8) : Int × Go.Ab.D := match Lib.parseIntB 64 s with
  | .ok v => (v, .val .nilIface)
  | .«syntax» => (0, .ifn)
  | .range => (Lib.intSat 64 s, .ifn)
theorem f_parseInt (s : List UInt8) (hs : s.length ≤ 1000000) : Cf Ev 64 [.d (.str s), .d (.int .i64 10), .d (.int .i64 64)] [] (.tup [.d (.int .i64 (numE s).1), .d (numE s).2]) [] := by
  refine cf_of_calls (by kernel_rfl) fun w g vs hr m => ?_
  simp only [RepAs, RepA, RepD] at hr
  obtain ⟨u, us, rfl, rfl, u2, us2, rfl, rfl, u3, us3, rfl, rfl, rfl⟩ := hr
  unfold numE
  cases hp : Lib.parseIntB 64 s with
  | ok v =>
    refine (Tryd.strconv_ParseInt_10_at64_ok ⟨s.toArray⟩ (by simp [ByteArray.size_mk']; omega) v hp w).mono ?_
    rintro e w' ⟨rfl, hw⟩
    refine ⟨_, rfl, ?_, ?_⟩
    · simp only [RepA, RepAs, RepD]
      exact ⟨[.int .i64 v, .nilIface], rfl, .int .i64 v, [.nilIface], rfl, rfl, .nilIface, [], rfl, ⟨rfl, rfl⟩, rfl⟩
    · rcases hw with rfl | ⟨t, rfl⟩
      · exact Below.refl _ _
      · exact Lib.bytesWorld_below _ _ _
  | «syntax» =>
    obtain ⟨ev, t, x, h1, h2⟩ := err_cell m (i := 2) (.inl rfl)
    refine (Tryd.strconv_ParseInt_10_at64_syntax ⟨s.toArray⟩ (by simp [ByteArray.size_mk']; omega) hp ev w h1 (.inr ⟨t, x, h2⟩)).mono ?_
    rintro e w' ⟨N, rfl, _, _, hb⟩
    refine ⟨_, rfl, ?_, hb⟩
    simp only [RepA, RepAs, RepD]
    exact ⟨[_, _], rfl, _, [_], rfl, rfl, _, [], rfl, ⟨_, _, rfl⟩, rfl⟩
  | range =>
    obtain ⟨ev, t, x, h1, h2⟩ := err_cell m (i := 3) (.inr rfl)
    refine (Tryd.strconv_ParseInt_10_at64_range ⟨s.toArray⟩ (by simp [ByteArray.size_mk']; omega) hp ev w h1 (.inr ⟨t, x, h2⟩)).mono ?_
    rintro e w' ⟨N, rfl, _, _, hb⟩
    refine ⟨_, rfl, ?_, hb⟩
    simp only [RepA, RepAs, RepD]
    exact ⟨[_, _], rfl, _, [_], rfl, rfl, _, [], rfl, ⟨_, _, rfl⟩, rfl⟩

theorem v_bool (n : Int) (h : n = 0 ∨ n = 1) : Cf Ev 61 [.d (.int .i64 n)] [] (V.mk 2 n []).a [] := by
  refine cf_intro mixv (fn := Tryd.f61) (by kernel_rfl) rfl (by kernel_rfl) (by decide) (by simp) ?_
  rcases h with rfl | rfl <;> simp [V.a] <;> ((repeat' (first | contradiction | exact .of (by kernel_rfl) | refine And.intro ?_ ?_ | intro _ | (refine agrd_cases (fun h => ?_) (fun h => ?_) <;> (have h' := h; (try simp at h'); first | done | simp [h, h'] | simp)))))
theorem r_bool (n : Int) (h : n = 0 ∨ n = 1) : Cf Ev 66 [.d (.int .i64 n)] [] (V.mk 2 n []).a [] := by
  refine cf_intro mixv (fn := Tryd.f66) (by kernel_rfl) rfl (by kernel_rfl) (by decide) (by simp) ?_
  rcases h with rfl | rfl <;> simp [V.a] <;> ((repeat' (first | contradiction | exact .of (by kernel_rfl) | refine And.intro ?_ ?_ | intro _ | (refine agrd_cases (fun h => ?_) (fun h => ?_) <;> (have h' := h; (try simp at h'); first | done | simp [h, h'] | simp)))))
theorem take_head (s : List UInt8) (h : 1 ≤ s.length) : (s.take 1 == [39]) = decide (s.head? = some 39) := by
  cases s with
  | nil => simp at h
  | cons c s => simp; rw [Bool.eq_iff_iff]; simp
theorem f_prefix (s : List UInt8) (hs : s.length ≤ 1000000) : Cf Ev 62 [.d (.str s), .d (.str [39])] [] (.d (.bool (decide (s.head? = some 39)))) [] := by
  have h0 : Cf Ev 98 [.d (.str s), .d (.str [39])] [] (.d (.bool (decide (s.head? = some 39)))) [] := by
    refine cf_intro mixv (fn := Tryd.f98) (by kernel_rfl) rfl (by kernel_rfl) (by decide) (by simp) ?_
    by_cases h : 1 ≤ s.length
    · have h' : (1 : Int) ≤ s.length := by omega
      have ht := take_head s h
      simp [h, h', ht]
      (repeat' (first | contradiction | exact .of (by kernel_rfl) | refine And.intro ?_ ?_ | intro _ | (refine agrd_cases (fun h => ?_) (fun h => ?_) <;> (have h' := h; (try simp at h'); first | done | simp [h, h', h, h', ht] | simp [h, h', ht]))))
    · have : s = [] := List.eq_nil_of_length_eq_zero (by omega)
      subst this
      simp
      (repeat' (first | contradiction | exact .of (by kernel_rfl) | refine And.intro ?_ ?_ | intro _ | (refine agrd_cases (fun h => ?_) (fun h => ?_) <;> (have h' := h; (try simp at h'); first | done | simp [h, h'] | simp))))
  refine cf_intro mixv (fn := Tryd.f62) (by kernel_rfl) rfl (by kernel_rfl) (by decide) (by simp) ?_
  simp
  (repeat refine ⟨.of (by kernel_rfl), ?_⟩)
  refine acallT_plain h0 (by simp) ?_
  simp
  (repeat' (first | contradiction | exact .of (by kernel_rfl) | refine And.intro ?_ ?_ | intro _ | (refine agrd_cases (fun h => ?_) (fun h => ?_) <;> (have h' := h; (try simp at h'); first | done | simp [h, h'] | simp))))
theorem drop_last (s : List UInt8) (h : 1 ≤ s.length) : (s.drop (s.length - 1) == [39]) = decide (s.getLast? = some 39) := by
  obtain ⟨c, t, rfl⟩ : ∃ c t, s = t ++ [c] := by
    have hne : s ≠ [] := fun e => by rw [e] at h; simp at h
    exact ⟨s.getLast hne, s.dropLast, (List.dropLast_concat_getLast hne).symm⟩
  rw [List.getLast?_append]
  simp
  rw [Bool.eq_iff_iff]; simp
theorem f_suffix (s : List UInt8) (hs : s.length ≤ 1000000) : Cf Ev 63 [.d (.str s), .d (.str [39])] [] (.d (.bool (decide (s.getLast? = some 39)))) [] := by
  have h0 : Cf Ev 99 [.d (.str s), .d (.str [39])] [] (.d (.bool (decide (s.getLast? = some 39)))) [] := by
    refine cf_intro mixv (fn := Tryd.f99) (by kernel_rfl) rfl (by kernel_rfl) (by decide) (by simp) ?_
    by_cases h : 1 ≤ s.length
    · have h' : (1 : Int) ≤ s.length := by omega
      have hw : IntKind.i64.wrap ((s.length : Int) - 1) = (s.length : Int) - 1 := wrap_in (by omega) (by omega)
      have h2 : (0 : Int) ≤ (s.length : Int) - 1 := by omega
      have h3 : (s.length : Int) - 1 ≤ s.length := by omega
      have ht := drop_last s h
      have hn : ((s.length : Int) - 1).toNat = s.length - 1 := by omega
      simp [h, h', hw, h2, h3, hn, ht]
      (repeat' (first | contradiction | exact .of (by kernel_rfl) | refine And.intro ?_ ?_ | intro _ | (refine agrd_cases (fun h => ?_) (fun h => ?_) <;> (have h' := h; (try simp at h'); first | done | simp [h, h', h, h', hw, h2, h3, hn, ht] | simp [h, h', hw, h2, h3, hn, ht]))))
    · have : s = [] := List.eq_nil_of_length_eq_zero (by omega)
      subst this
      simp
      (repeat' (first | contradiction | exact .of (by kernel_rfl) | refine And.intro ?_ ?_ | intro _ | (refine agrd_cases (fun h => ?_) (fun h => ?_) <;> (have h' := h; (try simp at h'); first | done | simp [h, h'] | simp))))
  refine cf_intro mixv (fn := Tryd.f63) (by kernel_rfl) rfl (by kernel_rfl) (by decide) (by simp) ?_
  simp
  (repeat refine ⟨.of (by kernel_rfl), ?_⟩)
  refine acallT_plain h0 (by simp) ?_
  simp
  (repeat' (first | contradiction | exact .of (by kernel_rfl) | refine And.intro ?_ ?_ | intro _ | (refine agrd_cases (fun h => ?_) (fun h => ?_) <;> (have h' := h; (try simp at h'); first | done | simp [h, h'] | simp))))
end Go.Proofs.Tryd
