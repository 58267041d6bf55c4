/- Expressions: Shift. -/
import Derived.Test.YtnbbnkmaoaogeaaCst
import Derived.Test.YtnbbnkmaoaogeaaExp
set_option linter.all false
namespace Go.Proofs.Try
open Go.Ab

mutual
def Ex.shift : Ex → Int → Ex
  | .mk o c n t g ks, d => .mk o c n t (if o = 5 then IntKind.i64.wrap (g + d) else g) (shiftAll ks d)
def shiftAll : List Ex → Int → List Ex
  | [], _ => []
  | e :: es, d => e.shift d :: shiftAll es d
end
theorem shiftAll_map : ∀ (l : List Ex) (d : Int), shiftAll l d = l.map fun e => e.shift d
  | [], _ => rfl
  | e :: es, d => by rw [shiftAll, shiftAll_map es d]; rfl
/-- The state at the head of round i: before the first round the list of parts is nil. -/
def shF (o c n g : Int) (t : List UInt8) (ks : List Ex) (d : Int) : Nat → St
  | 0 => { s := mkS [(1, .d (.int .i64 d)), (2, .ptr 2 0 0), (4, .ptr 4 0 0), (19, .d (.sl (ks.map Ex.c))), (20, .d (.int .i64 ks.length)), (21, .d (.int .i64 0))], b := mkB [(2, 2, .var [.d (.int .i64 o), .d (.int .i64 c), .d (.int .i64 n), .d (.str t), .d (.int .i64 g), .nils]), (4, 4, .var [.d (.int .i64 0), .d (.int .i64 0), .d (.int .i64 0), .d (.str []), .d (.int .i64 0), .nils])] }
  | i + 1 => { s := mkS [(1, .d (.int .i64 d)), (2, .ptr 2 0 0), (4, .ptr 4 0 0), (19, .d (.sl (ks.map Ex.c))), (20, .d (.int .i64 ks.length)), (21, .d (.int .i64 (i + 1 : Nat)))], b := mkB [(2, 2, .var [.d (.int .i64 o), .d (.int .i64 c), .d (.int .i64 n), .d (.str t), .d (.int .i64 g), .ref 900 0 (i + 1) 6]), (4, 4, .var [.d (.int .i64 0), .d (.int .i64 0), .d (.int .i64 0), .d (.str []), .d (.int .i64 0), .nils]), (900, 31, .arr 24 6 ((ks.take (i + 1)).map fun e => (e.shift d).c) false)] }

theorem shift_cf : ∀ (m : Nat) (e : Ex), SizeOf.sizeOf e < m → ∀ q : Nat, e.few q = true → ∀ d : Int, Cf En 10 [e.a, .d (.int .i64 d)] [] (e.shift d).a []
  | 0, _, h, _, _, _ => absurd h (by omega)
  | m + 1, .mk o c n t g ks, hm, q, hq, d => by
    refine cf_intro mix (fn := Try.f10) (by kernel_rfl) rfl (by kernel_rfl) (by decide) (by simp) ?_
    have hks : ks.length ≤ 12 ∧ fewAll ks (q + 1) = true := by
      rw [Ex.few] at hq
      by_cases h1 : 60 < q
      · simp [h1] at hq
      by_cases h2 : 12 < ks.length
      · simp [h1, h2] at hq
      by_cases h3 : 200 < t.length
      · simp [h1, h2, h3] at hq
      · simp [h1, h2, h3] at hq
        exact ⟨by omega, hq⟩
    have hs : (Ex.mk o c n t g ks).shift d = .mk o c n t (if o = 5 then IntKind.i64.wrap (g + d) else g) (ks.map fun e => e.shift d) := by rw [Ex.shift, shiftAll_map]
    rw [hs]
    generalize hg : (if o = 5 then IntKind.i64.wrap (g + d) else g) = g'
    have hgo : (o = 5 ∧ IntKind.i64.wrap (g + d) = g') ∨ (o ≠ 5 ∧ g = g') := by
      by_cases h5 : o = 5
      · exact .inl ⟨h5, by simpa [h5] using hg⟩
      · exact .inr ⟨h5, by simpa [h5] using hg⟩
    rcases hgo with ⟨h5, hg'⟩ | ⟨h5, hg'⟩ <;> simp [Ex.a, Ex.c, kidsC_map, hg', h5] <;> repeat' (first | exact .of (by kernel_rfl) | refine And.intro ?_ ?_)
    all_goals
      refine aloopT mix (by decide) (shF o c n g' t ks d) (fun i : Nat => i ≤ ks.length) (fun i => ks.length - i) 0 (by simp) (sub_mk [(1, _), (2, _), (4, _), (19, _), (20, _), (21, _)] [(2, 2, _), (4, 4, _)] ⟨by simp, by simp, by simp [renOf, Blk.live, h5], by simp⟩ (by simp [renOf])) ?_
      intro i hi
      have hfew := hks.2
      rw [fewAll_all, List.all_eq_true] at hfew
      by_cases hlt : i < ks.length
      · have hgi : ks[i]? = some ks[i] := List.getElem?_eq_getElem hlt
        have c1 := Ex.clen ks[i]
        have k1 := Ex.ctake ks[i]
        have c2 := Ex.clen (ks[i].shift d)
        have hkid : SizeOf.sizeOf ks[i] < m := by
          have := Ex.kid_lt (e := .mk o c n t g ks) (k := ks[i]) (List.getElem_mem hlt)
          omega
        have hrec := shift_cf m ks[i] hkid (q + 1) (hfew _ (List.getElem_mem hlt)) d
        have htk : List.take (i + 1) (List.map (fun e => (Ex.shift e d).c) ks) = List.take i (List.map (fun e => (Ex.shift e d).c) ks) ++ [(ks[i].shift d).c] := by
          rw [List.take_succ, List.getElem?_map, hgi]; rfl
        cases i with
        | zero =>
          have hlt' : 0 < ks.length := hlt
          have hlt2 : (0 : Int) < ks.length := by omega
          simp [shF, hlt', hlt2, hgi, c1, k1]
          refine ⟨.of (by kernel_rfl), .of (by kernel_rfl), acallT_plain hrec (by simp [Ex.a]) ?_⟩
          simp [Ex.a, c2, Ex.ctake']
          refine ⟨.of (by kernel_rfl), .of (by kernel_rfl), 1, hlt', ?_, ?_⟩
          · refine sub_mk [(1, _), (2, _), (4, _), (19, _), (20, _), (21, _)] [(2, 2, _), (4, 4, _), (900, 31, _)] ⟨by simp, by simp, ?_, by simp⟩ ?_
            · simp only [Nat.zero_add, List.take_zero, List.nil_append] at htk
              simp [renOf, Blk.live, htk]
            · simp [renOf]
              exact wrap_in (by omega) (by omega)
          · simp; omega
        | succ i =>
          have hlt2 : ((i + 1 : Nat) : Int) < ks.length := by omega
          have hlt3 : (i : Int) + 1 < ks.length := by omega
          have hi1 : i + 1 ≤ ks.length := hi
          have hp : (0 : Int) ≤ (i : Int) + 1 := by omega
          have hmin : min (i + 1) ks.length = i + 1 := by omega
          have hb := hks.1
          simp [shF, hlt, hlt2, hlt3, hp, hgi, c1, k1]
          refine ⟨.of (by kernel_rfl), .of (by kernel_rfl), acallT_plain hrec (by simp [Ex.a]) ?_⟩
          have s1 : (i + 1 + 1) * 72 ≤ 140737488355328 := by omega
          have s2 : i ≤ 9223372036854775805 := by omega
          simp [Ex.a, c2, Ex.ctake', hmin, s1, s2]
          refine ⟨.of (by kernel_rfl), .of (by kernel_rfl), i + 2, by omega, ?_, ?_⟩
          · refine sub_mk [(1, _), (2, _), (4, _), (19, _), (20, _), (21, _)] [(2, 2, _), (4, 4, _), (900, 31, _)] ⟨by simp, by simp, ?_, by simp⟩ ?_
            · simp [renOf, Blk.live, htk]
            · simp [renOf]
              rw [wrap_in (by omega) (by omega)]
          · simp; omega
      · have hie : i = ks.length := by omega
        subst hie
        cases hk : ks.length with
        | zero =>
          simp [shF, hk]
          refine ⟨.of (by kernel_rfl), .of (by kernel_rfl), ?_⟩
          have : ks = [] := List.eq_nil_of_length_eq_zero hk
          rw [this]; rfl
        | succ i =>
          simp [shF, hk]
          refine ⟨.of (by kernel_rfl), .of (by kernel_rfl), ?_⟩
          rw [List.take_of_length_le (by simp [hk]), List.take_of_length_le (by simp [hk]), kidsC_map, List.map_map]; rfl
end Go.Proofs.Try
