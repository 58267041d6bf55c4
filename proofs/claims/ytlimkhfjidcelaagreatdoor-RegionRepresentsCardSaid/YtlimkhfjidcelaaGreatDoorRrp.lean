/- RegionRepresents: the walk. -/
import Derived.Test.YtlimkhfjidcelaaGreatDoorRpl
import Derived.Test.YtlimkhfjidcelaaGreatDoorShr
import Derived.Test.YtlimkhfjidcelaaGreatDoorRcl
set_option linter.all false
namespace Go.Proofs.Tryz
open Go.Ab
set_option maxRecDepth 100000
set_option maxHeartbeats 4000000

def valB (L : List Int) (i : Nat) (k : Int) (b : Bool) : V := if b = true then valV L i k else ((valuesOf k)[(1 + nextV L i ((valuesOf k).length - 1 : Nat)).toNat]?).getD nulV
theorem t_valB (L : List Int) (i : Nat) (hi : i ≤ 1000000) (k : Int) (hk : k = 1 ∨ k = 2 ∨ k = 3) (b : Bool) :
    Cf En 16 [.ptr 1000000 0 0, .d (.int .i64 k), .d (.bool b)] [tapB L i] (valB L i k b).a [tapB L (i + 1)] := by
  cases b with
  | true => exact t_value L i (by omega) k
  | false =>
    have hl : (valuesOf k).length = 13 ∨ (valuesOf k).length = 3 ∨ (valuesOf k).length = 8 := by
      rcases hk with rfl | rfl | rfl <;> decide
    obtain ⟨m, hm⟩ : ∃ m : Nat, m = (valuesOf k).length := ⟨_, rfl⟩
    have hm4 : 3 ≤ m ∧ m ≤ 13 := by omega
    have hn := nextV_in L i (n := ((m - 1 : Nat) : Int)) (by omega)
    have hlt : (1 + nextV L i (m - 1 : Nat)).toNat < (valuesOf k).length := by omega
    have hg : (valuesOf k)[(1 + nextV L i (m - 1 : Nat)).toNat]? = some (valuesOf k)[(1 + nextV L i (m - 1 : Nat)).toNat] := List.getElem?_eq_getElem hlt
    have ht := t_next1 L i (by omega) (m - 1 : Nat) (by omega) (by omega)
    have hc : ((m - 1 : Nat) : Int) = (m : Int) - 1 := by omega
    have hw1 := wrap_in (n := (m : Int) - 1) (by omega) (by omega)
    rw [hc] at ht hn
    have e1 : valB L i k false = (valuesOf k)[(1 + nextV L i (m - 1 : Nat)).toNat] := by
      unfold valB
      rw [if_neg (by decide), ← hm, hg]; rfl
    simp only [hc] at e1 hlt
    have hw2 := wrap_in (n := 1 + nextV L i ((m : Int) - 1)) (by omega) (by omega)
    have h0 : 0 ≤ 1 + nextV L i ((m : Int) - 1) := by omega
    rw [e1]
    refine cf_intro mix (fn := Tryz.f16) (by kernel_rfl) rfl (by kernel_rfl) (by decide) (by simp) ?_
    simp [tapB]
    (repeat' (first | contradiction | exact .of (by kernel_rfl) | refine And.intro ?_ ?_ | intro _ | (refine agrd_cases (fun h => ?_) (fun h => ?_) <;> (have h' := h; (try simp at h'); first | done | simp [h, h'] | simp))))
    refine acallT_plain (t_values k) (by simp [V.a]) ?_
    simp [← hm, hw1]
    (repeat' (first | contradiction | exact .of (by kernel_rfl) | refine And.intro ?_ ?_ | intro _ | (refine agrd_cases (fun h => ?_) (fun h => ?_) <;> (have h' := h; (try simp at h'); first | done | simp [h, h'] | simp))))
    refine acallT_hand [1000000] ht (by simp) (by simp) (by simp) (by simp [tapB]) (by simp [hw1]) ?_
    simp [tapB, hw2, h0, hlt, V.c]
    (repeat' (first | contradiction | exact .of (by kernel_rfl) | refine And.intro ?_ ?_ | intro _ | (refine agrd_cases (fun h => ?_) (fun h => ?_) <;> (have h' := h; (try simp at h'); first | done | simp [h, h'] | simp))))
    all_goals simp [V.a]
theorem valB_ok (L : List Int) (i : Nat) (k : Int) (hk : k = 1 ∨ k = 2 ∨ k = 3) (b : Bool) : (valB L i k b).valid = true ∧ ((valB L i k b).k = k ∨ (b = true ∧ valB L i k b = nulV)) := by
  have all : ∀ v ∈ valuesOf k, v.valid = true ∧ (v.k = k ∨ v = nulV) := by
    rcases hk with rfl | rfl | rfl <;> decide
  have tl : ∀ v ∈ (valuesOf k).drop 1, v.k = k := by
    rcases hk with rfl | rfl | rfl <;> decide
  have hl := values_len k
  unfold valB
  cases b with
  | true =>
    rw [if_pos rfl]
    have hn := nextV_in L i (n := (valuesOf k).length) (by omega)
    have hlt : (nextV L i (valuesOf k).length).toNat < (valuesOf k).length := by omega
    unfold valV
    rw [List.getElem?_eq_getElem hlt, Option.getD_some]
    obtain ⟨h1, h2⟩ := all _ (List.getElem_mem hlt)
    exact ⟨h1, h2.imp id fun h => ⟨rfl, h⟩⟩
  | false =>
    rw [if_neg (by decide)]
    have hl3 : 3 ≤ (valuesOf k).length := by rcases hk with rfl | rfl | rfl <;> decide
    have hn := nextV_in L i (n := ((valuesOf k).length - 1 : Nat)) (by omega)
    obtain ⟨p, hp⟩ : ∃ p, (1 + nextV L i ((valuesOf k).length - 1 : Nat)).toNat = p + 1 := ⟨(nextV L i ((valuesOf k).length - 1 : Nat)).toNat, by omega⟩
    have hlt : p + 1 < (valuesOf k).length := by omega
    rw [hp, List.getElem?_eq_getElem hlt, Option.getD_some]
    refine ⟨(all _ (List.getElem_mem hlt)).1, .inl (tl _ ?_)⟩
    rw [List.mem_iff_getElem?]
    exact ⟨p, by rw [List.getElem?_drop, Nat.add_comm 1 p, List.getElem?_eq_getElem hlt]⟩
theorem ex_shift {a : At} {c : Int} (h : a.col = c) : a.ex.shift (-c) = a.zero.ex := by
  have e1 : (colX a.col).shift (-c) = colX 0 := by
    unfold colX
    rw [Ex.shift, shiftAll, if_pos rfl, h, show c + -c = 0 from by omega, show IntKind.i64.wrap 0 = 0 from by decide]
  have e2 : (constOf a.v 0).shift (-c) = constOf a.v 0 := by
    unfold constOf
    repeat' split
    all_goals (rw [Ex.shift, shiftAll, if_neg (by decide)])
  unfold At.zero At.ex
  simp only
  split
  · exact e1
  split
  · rw [Ex.shift, if_neg (by decide), shiftAll, shiftAll, e1]
  · rename_i h5 _
    rw [Ex.shift, if_neg h5, shiftAll, shiftAll, shiftAll, e1, e2]
def smG (A : List At) (c : Int) (w u : V) : Bool := A.all fun a => !(a.col == c) || (a.tr w == a.tr u)
theorem smG_eq (A : List At) (c : Int) (w u : V) : smG A c w u = (trsG (aboutG c A) w == trsG (aboutG c A) u) := by
  rw [trsG_eq]
  unfold smG aboutG
  induction A with
  | nil => rfl
  | cons a A ih =>
    rw [List.all_cons, ih, List.filter_cons]
    by_cases h : (a.col == c) = true
    · rw [if_pos h, List.all_cons, h]; rfl
    · rw [if_neg h]
      simp only [Bool.not_eq_true] at h
      rw [h]; rfl
theorem smG_take {A : List At} {c : Int} {w u : V} {j : Nat} (h : j < A.length) : smG (A.take (j + 1)) c w u = (smG (A.take j) c w u && (!(A[j].col == c) || (A[j].tr w == A[j].tr u))) := all_take h
theorem countP_take {l : List V} {p : V → Bool} {k : Nat} (h : k < l.length) : (l.take (k + 1)).countP p = (l.take k).countP p + (if p l[k] = true then 1 else 0) := by
  rw [take_snoc h, List.countP_append, List.countP_cons, List.countP_nil, Nat.zero_add]
def rrF (L : List Int) (v : V) (x : Tb) (A : List At) (y : Nat × Nat) : St :=
  { s := mkS [(3, .ptr 3 0 0), (5, .ptr 19 0 0), (7, .ptr 7 0 0), (8, .d (.sl (A.map At.c))), (9, .d (.int .i64 y.1))], b := mkB [(19, 19, tapB L y.2), (3, 3, .var (v.c.map AV.d)), (7, 7, .var (x.c.map AV.d))] }
end Go.Proofs.Tryz
