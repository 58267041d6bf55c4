/- Atoms put into an ascending list. -/
import Derived.Test.YtlimkhfjidcelaaGreatDoorAtm
set_option linter.all false
namespace Go.Proofs.Tryz
open Go.Ab
set_option maxRecDepth 100000
set_option maxHeartbeats 1000000

def posA (a : At) : List At → Nat
  | [] => 0
  | x :: xs => if x.cmp a < 0 then posA a xs + 1 else 0
def hitA (a : At) (l : List At) : Bool := match l[posA a l]? with
  | some x => x.cmp a == 0
  | none => false
def insA (l : List At) (a : At) : List At := if hitA a l = true then l else l.take (posA a l) ++ a :: l.drop (posA a l)
theorem posA_le (a : At) : ∀ l : List At, posA a l ≤ l.length
  | [] => by simp [posA]
  | u :: us => by have := posA_le a us; simp only [posA, List.length_cons]; split <;> omega
theorem posA_drop {a : At} {l : List At} {i : Nat} (h : i < l.length) : posA a (l.drop i) = if l[i].cmp a < 0 then posA a (l.drop (i + 1)) + 1 else 0 := by
  rw [List.drop_eq_getElem_cons h, posA]
theorem insA_mem {l : List At} {a x : At} (h : x ∈ insA l a) : x = a ∨ x ∈ l := by
  unfold insA at h
  split at h
  · exact .inr h
  · rcases List.mem_append.1 h with h | h
    · exact .inr (List.mem_of_mem_take h)
    · rcases List.mem_cons.1 h with h | h
      · exact .inl h
      · exact .inr (List.mem_of_mem_drop h)
theorem insA_len (l : List At) (a : At) : (insA l a).length ≤ l.length + 1 := by
  have := posA_le a l
  unfold insA
  split
  · omega
  · simp; omega
@[simp] theorem all_atc (l : List At) : ((l.map At.c).all fun x => x.length == 5) = true := by simp [At.clen]
@[simp] theorem at_take (l : List At) (n : Nat) : (∀ x, x ∈ List.take n (l.map At.c) → x.length = 5) = True := eq_true fun x hx => by
  obtain ⟨a, _, rfl⟩ := List.mem_map.1 (List.mem_of_mem_take hx)
  rfl
@[simp] theorem at_drop (l : List At) (n : Nat) : (∀ x, x ∈ List.drop n (l.map At.c) → x.length = 5) = True := eq_true fun x hx => by
  obtain ⟨a, _, rfl⟩ := List.mem_map.1 (List.mem_of_mem_drop hx)
  rfl
@[simp] theorem at_all (l : List At) : (∀ x, x ∈ l.map At.c → x.length = 5) = True := eq_true fun x hx => by
  obtain ⟨a, _, rfl⟩ := List.mem_map.1 hx
  rfl
theorem at_get {l : List At} {i : Nat} (h : i < l.length) : (l.map At.c)[i]? = some l[i].c := by simp [h]
theorem r13_insert (l : List At) (hl : l.length ≤ 1000) (a : At) : Cf En 31 [.d (.sl (l.map At.c)), a.a] [] (.d (.sl ((insA l a).map At.c))) [] := by
  refine cf_intro mix (fn := Tryz.f31) (by kernel_rfl) rfl (by kernel_rfl) (by decide) (by simp) ?_
  simp [At.a]
  (repeat' (first | contradiction | exact .of (by kernel_rfl) | refine And.intro ?_ ?_ | intro _ | (refine agrd_cases (fun h => ?_) (fun h => ?_) <;> (have h' := h; (try simp at h'); first | done | simp [h, h'] | simp))))
  refine aloopT mix (by decide) (fun i : Nat => { s := mkS [(0, .d (.sl (l.map At.c))), (3, .ptr 3 0 0), (5, .d (.int .i64 i))], b := mkB [(3, 3, .var (a.c.map AV.d))] }) (fun i => i ≤ l.length ∧ posA a (l.drop i) + i = posA a l) (fun i => l.length - i) 0 (by simp) (sub_mk _ [(3, 3, _)] ⟨by simp, by simp, by simp [renOf, Blk.live], by simp⟩ (by simp [renOf])) ?_
  rintro i ⟨hi, hp⟩
  by_cases hlt : i < l.length
  · have hd := posA_drop (a := a) hlt
    rw [hd] at hp
    have hw := wrap_in (n := (i : Int) + 1) (by omega) (by omega)
    simp [hlt, At.c]
    (repeat' (first | contradiction | exact .of (by kernel_rfl) | refine And.intro ?_ ?_ | intro _ | (refine agrd_cases (fun h => ?_) (fun h => ?_) <;> (have h' := h; (try simp at h'); first | done | simp [h, h'] | simp))))
    refine acallT_plain (r13_cmp l[i] a) (by simp [At.a, At.c]) ?_
    by_cases hc : l[i].cmp a < 0
    · rw [if_pos hc] at hp
      simp [hc]
      (repeat' (first | contradiction | exact .of (by kernel_rfl) | refine And.intro ?_ ?_ | intro _ | (refine agrd_cases (fun h => ?_) (fun h => ?_) <;> (have h' := h; (try simp at h'); first | done | simp [h, h'] | simp))))
      refine ⟨i + 1, ⟨by omega, by omega⟩, ?_, by simp; omega⟩
      refine sub_mk _ [(3, 3, _)] ⟨by simp, by simp, by simp [renOf, Blk.live, At.c], by simp⟩ (by simp [renOf, hw])
    · rw [if_neg hc] at hp
      have hpi : posA a l = i := by omega
      simp [hc, hlt]
      (repeat' (first | contradiction | exact .of (by kernel_rfl) | refine And.intro ?_ ?_ | intro _ | (refine agrd_cases (fun h => ?_) (fun h => ?_) <;> (have h' := h; (try simp at h'); first | done | simp [h, h'] | simp))))
      refine acallT_plain (r13_cmp l[i] a) (by simp [At.a, At.c]) ?_
      by_cases h0 : l[i].cmp a = 0
      · have hh : hitA a l = true := by unfold hitA; rw [hpi, List.getElem?_eq_getElem hlt]; simp [h0]
        simp [h0, insA, hh]
        (repeat' (first | contradiction | exact .of (by kernel_rfl) | refine And.intro ?_ ?_ | intro _ | (refine agrd_cases (fun h => ?_) (fun h => ?_) <;> (have h' := h; (try simp at h'); first | done | simp [h, h'] | simp))))
      · have hh : hitA a l = false := by unfold hitA; rw [hpi, List.getElem?_eq_getElem hlt]; simp [h0]
        have e1 : insA l a = l.take i ++ a :: l.drop i := by simp [insA, hh, hpi]
        have hm : min i l.length = i := by omega
        simp [h0, e1, hm, hi, At.c, szs i (by omega) 48 (by decide), szs (i + 1) (by omega) 48 (by decide), szs (i + 1 + (l.length - i)) (by omega) 48 (by decide)]
        (repeat' (first | contradiction | exact .of (by kernel_rfl) | refine And.intro ?_ ?_ | intro _ | (refine agrd_cases (fun h => ?_) (fun h => ?_) <;> (have h' := h; (try simp at h'); first | done | simp [h, h'] | simp))))
        all_goals (rw [if_pos (by omega), List.take_of_length_le (by simp; omega)])
  · have hie : i = l.length := by omega
    subst hie
    rw [List.drop_length, posA] at hp
    have hh : hitA a l = false := by unfold hitA; rw [← hp]; simp
    have e1 : insA l a = l ++ [a] := by simp [insA, hh, ← hp]
    simp [e1, At.c, szs l.length (by omega) 48 (by decide), szs (l.length + 1) (by omega) 48 (by decide)]
    (repeat' (first | contradiction | exact .of (by kernel_rfl) | refine And.intro ?_ ?_ | intro _ | (refine agrd_cases (fun h => ?_) (fun h => ?_) <;> (have h' := h; (try simp at h'); first | done | simp [h, h'] | simp))))
    all_goals exact List.take_of_length_le (by simp <;> omega)
end Go.Proofs.Tryz
