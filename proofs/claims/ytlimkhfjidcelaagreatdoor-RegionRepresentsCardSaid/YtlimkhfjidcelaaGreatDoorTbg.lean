/- Tables in general: their cells; the columns that are in keys. -/
import Derived.Test.YtlimkhfjidcelaaGreatDoorInt0
import Derived.Test.YtlimkhfjidcelaaGreatDoorCst
import Derived.Test.YtlimkhfjidcelaaGreatDoorAbB
set_option linter.all false
namespace Go.Proofs.Tryz
open Go.Ab
set_option maxRecDepth 100000
set_option maxHeartbeats 1000000

/-- Sizes of what is made. -/
theorem szs (n : Nat) (h : n ≤ 100000) (c : Nat) (hc : c ≤ 1000) : n * c ≤ 140737488355328 ∧ n ≤ 9223372036854775807 ∧ n ≤ 9223372036854775806 ∧ n ≤ 9223372036854775805 ∧ n ≤ 9223372036854775804 :=
  ⟨Nat.le_trans (Nat.mul_le_mul h hc) (by decide), by omega, by omega, by omega, by omega⟩
@[simp] theorem take_len_map {α β : Type} (f : α → β) (l : List α) : List.take l.length (l.map f) = l.map f := List.take_of_length_le (by simp)
@[simp] theorem drop_len_map {α β : Type} (f : α → β) (l : List α) : List.drop l.length (l.map f) = [] := List.drop_of_length_le (by simp)
@[simp] theorem int_beq_f {a b : Int} (h : ¬ a = b) : (a == b) = false := by simpa using h
@[simp] theorem int_bne_t {a b : Int} (h : ¬ a = b) : (a != b) = true := by simpa using h
@[simp] theorem str_beq_f {a b : List UInt8} (h : ¬ a = b) : (a == b) = false := by simpa using h
@[simp] theorem str_bne_t {a b : List UInt8} (h : ¬ a = b) : (a != b) = true := by simpa using h
/-- A loop to which several ways lead. -/
def LoopKey (E : Env) (N nb : Nat) (F0 : St) (c : Code) (Q : AExit → St → Prop) : Prop := ∀ st, Sub E N nb st F0 → ALoopT E N nb c st Q ⟨⟩
structure Col where
  n : List UInt8
  t : Int
  b : Bool
def Col.c (x : Col) : List D := [.str x.n, .int .i64 x.t, .bool x.b]
def Col.a (x : Col) : AV := .agg (x.c.map AV.d)
structure Fk where
  cols : List Int
  t : List UInt8
def Fk.c (x : Fk) : List D := [.sl (ints x.cols), .str x.t]
def Fk.a (x : Fk) : AV := .agg (x.c.map AV.d)
def intsD (l : List Int) : List D := [.sl (ints l)]
structure Tb where
  n : List UInt8
  cols : List Col
  pr : List Int
  un : List (List Int)
  fk : List Fk
  ch : List Ex
def Tb.c (x : Tb) : List D := [.str x.n, .sl (x.cols.map Col.c), .sl (ints x.pr), .sl (x.un.map intsD), .sl (x.fk.map Fk.c), .sl (x.ch.map Ex.c)]
def Tb.a (x : Tb) : AV := .agg (x.c.map AV.d)
/-- Sizes that are no hindrance. -/
structure Tb.ok (x : Tb) : Prop where
  cols : x.cols.length ≤ 1000
  pr : x.pr.length ≤ 1000
  un : x.un.length ≤ 1000
  fk : x.fk.length ≤ 1000
  ch : x.ch.length ≤ 1000
  fkc : ∀ f ∈ x.fk, f.cols.length ≤ 1000
def keyT (x : Tb) (c : Int) : Bool := x.pr.contains c || x.fk.any fun f => f.cols.contains c

theorem take_snoc {α : Type} {l : List α} {i : Nat} (h : i < l.length) : l.take (i + 1) = l.take i ++ [l[i]] := by
  rw [List.take_add_one, List.getElem?_eq_getElem h]; rfl
theorem contains_take {l : List Int} {i : Nat} {c : Int} (h : i < l.length) : (l.take (i + 1)).contains c = ((l.take i).contains c || c == l[i]) := by
  rw [take_snoc h, Bool.eq_iff_iff, Bool.or_eq_true, List.contains_iff_mem, List.contains_iff_mem, List.mem_append, List.mem_singleton, beq_iff_eq]
theorem any_take {α : Type} {l : List α} {p : α → Bool} {i : Nat} (h : i < l.length) : (l.take (i + 1)).any p = ((l.take i).any p || p l[i]) := by
  rw [take_snoc h, List.any_append]
  simp only [List.any_cons, List.any_nil, Bool.or_false]
theorem contains_of_take {l : List Int} {i : Nat} {c : Int} (h : (l.take i).contains c = true) : l.contains c = true := by
  rw [List.contains_iff_mem] at *
  exact List.mem_of_mem_take h
theorem any_of_get {α : Type} {l : List α} {p : α → Bool} {i : Nat} (hi : i < l.length) (h : p l[i] = true) : l.any p = true := List.any_eq_true.2 ⟨_, List.getElem_mem hi, h⟩
@[simp] theorem ints_at {l : List Int} {i : Nat} (h : i < (ints l).length) : (ints l)[i]'h = [.int .i64 (l[i]'(by simpa [ints] using h))] := by simp [ints]
@[simp] theorem ints_len (l : List Int) : (ints l).length = l.length := List.length_map _
theorem ints_get {l : List Int} {i : Nat} (h : i < l.length) : (ints l)[i]? = some [.int .i64 l[i]] := by simp [ints, h]

theorem r_key (x : Tb) (hx : x.ok) (c : Int) : Cf En 12 [x.a, .d (.int .i64 c)] [] (.d (.bool (keyT x c))) [] := by
  refine cf_intro mix (fn := Tryz.f12) (by kernel_rfl) rfl (by kernel_rfl) (by decide) (by simp) ?_
  have l1 := hx.pr
  have l2 := hx.fk
  simp [Tb.a, Tb.c]
  (repeat' (first | contradiction | exact .of (by kernel_rfl) | refine And.intro ?_ ?_ | intro _ | (refine agrd_cases (fun h => ?_) (fun h => ?_) <;> (have h' := h; (try simp at h'); first | done | simp [h, h'] | simp))))
  refine aloopT mix (by decide) (fun i : Nat => { s := mkS [(1, .d (.int .i64 c)), (2, .ptr 2 0 0), (5, .d (.int .i64 i))], b := mkB [(2, 2, .var (x.c.map AV.d))] }) (fun i => i ≤ x.pr.length ∧ (x.pr.take i).contains c = false) (fun i => x.pr.length - i) 0 (by simp) (sub_mk _ [(2, 2, _)] ⟨by simp, by simp, by simp [renOf, Blk.live, Tb.c], by simp⟩ (by simp [renOf])) ?_
  rintro i ⟨hi, hc⟩
  by_cases hlt : i < x.pr.length
  · have hg := ints_get hlt
    have hct := contains_take (c := c) hlt
    have hw := wrap_in (n := (i : Int) + 1) (by omega) (by omega)
    by_cases he : x.pr[i] = c
    · have hk : keyT x c = true := by
        unfold keyT
        rw [contains_of_take (i := i + 1) (by rw [hct]; simp [he])]; rfl
      simp [Tb.c, ints_len, hlt, hg, he, hk]
      (repeat' (first | contradiction | exact .of (by kernel_rfl) | refine And.intro ?_ ?_ | intro _ | (refine agrd_cases (fun h => ?_) (fun h => ?_) <;> (have h' := h; (try simp at h'); first | done | simp [h, h'] | simp))))
    · have he' : ¬ c = x.pr[i] := fun e => he e.symm
      simp [Tb.c, ints_len, hlt, hg, he]
      (repeat' (first | contradiction | exact .of (by kernel_rfl) | refine And.intro ?_ ?_ | intro _ | (refine agrd_cases (fun h => ?_) (fun h => ?_) <;> (have h' := h; (try simp at h'); first | done | simp [h, h'] | simp))))
      refine ⟨i + 1, ⟨by omega, by rw [hct, hc]; simpa using he'⟩, ?_, by simp; omega⟩
      refine sub_mk _ [(2, 2, _)] ⟨by simp, by simp, by simp [renOf, Blk.live, Tb.c], by simp⟩ (by simp [renOf, hw])
  have hie : i = x.pr.length := by omega
  subst hie
  rw [List.take_length] at hc
  simp [Tb.c, ints_len]
  (repeat' (first | contradiction | exact .of (by kernel_rfl) | refine And.intro ?_ ?_ | intro _ | (refine agrd_cases (fun h => ?_) (fun h => ?_) <;> (have h' := h; (try simp at h'); first | done | simp [h, h'] | simp))))
  refine aloopT mix (by decide) (fun i : Nat => { s := mkS [(1, .d (.int .i64 c)), (2, .ptr 2 0 0), (6, .d (.int .i64 i))], b := mkB [(2, 2, .var (x.c.map AV.d))] }) (fun i => i ≤ x.fk.length ∧ (x.fk.take i).any (fun f => f.cols.contains c) = false) (fun i => x.fk.length - i) 0 (by simp) (sub_mk _ [(2, 2, _)] ⟨by simp, by simp, by simp [renOf, Blk.live, Tb.c], by simp⟩ (by simp [renOf])) ?_
  rintro i ⟨hi, ha⟩
  by_cases hlt : i < x.fk.length
  · obtain ⟨f, hf⟩ : ∃ f, f = x.fk[i] := ⟨_, rfl⟩
    have hgi : ∀ h, x.fk[i]'h = f := fun _ => hf.symm
    have hfl := hx.fkc f (by rw [hf]; exact List.getElem_mem hlt)
    have hat := any_take (p := fun f => f.cols.contains c) hlt
    have hag := any_of_get (p := fun f => f.cols.contains c) hlt
    rw [← hf] at hat hag
    have hw := wrap_in (n := (i : Int) + 1) (by omega) (by omega)
    simp [Tb.c, hlt]
    (repeat' (first | contradiction | exact .of (by kernel_rfl) | refine And.intro ?_ ?_ | intro _ | (refine agrd_cases (fun h => ?_) (fun h => ?_) <;> (have h' := h; (try simp at h'); first | done | simp [h, h'] | simp))))
    refine aloopT mix (by decide) (fun j : Nat => { s := mkS [(1, .d (.int .i64 c)), (2, .ptr 2 0 0), (6, .d (.int .i64 i)), (7, .d (.int .i64 j))], b := mkB [(2, 2, .var (x.c.map AV.d))] }) (fun j => j ≤ f.cols.length ∧ (f.cols.take j).contains c = false) (fun j => f.cols.length - j) 0 (by simp) (sub_mk _ [(2, 2, _)] ⟨by simp, by simp, by simp [renOf, Blk.live, Tb.c], by simp⟩ (by simp [renOf])) ?_
    rintro j ⟨hj, hcj⟩
    by_cases hjt : j < f.cols.length
    · have hgj := ints_get hjt
      have hct := contains_take (c := c) hjt
      have hwj := wrap_in (n := (j : Int) + 1) (by omega) (by omega)
      by_cases he : f.cols[j] = c
      · have hk : keyT x c = true := by
          unfold keyT
          rw [hag (contains_of_take (i := j + 1) (by rw [hct]; simp [he]))]; simp
        simp [Tb.c, hlt, hgi, Fk.c, ints_len, hjt, hgj, he, hk]
        (repeat' (first | contradiction | exact .of (by kernel_rfl) | refine And.intro ?_ ?_ | intro _ | (refine agrd_cases (fun h => ?_) (fun h => ?_) <;> (have h' := h; (try simp at h'); first | done | simp [h, h'] | simp))))
      · have he' : ¬ c = f.cols[j] := fun e => he e.symm
        simp [Tb.c, hlt, hgi, Fk.c, ints_len, hjt, hgj, he]
        (repeat' (first | contradiction | exact .of (by kernel_rfl) | refine And.intro ?_ ?_ | intro _ | (refine agrd_cases (fun h => ?_) (fun h => ?_) <;> (have h' := h; (try simp at h'); first | done | simp [h, h'] | simp))))
        refine ⟨j + 1, ⟨by omega, by rw [hct, hcj]; simpa using he'⟩, ?_, by simp; omega⟩
        refine sub_mk _ [(2, 2, _)] ⟨by simp, by simp, by simp [renOf, Blk.live, Tb.c], by simp⟩ (by simp [renOf, hwj])
    have hje : j = f.cols.length := by omega
    subst hje
    rw [List.take_length] at hcj
    simp [Tb.c, hlt, hgi, Fk.c, ints_len]
    (repeat' (first | contradiction | exact .of (by kernel_rfl) | refine And.intro ?_ ?_ | intro _ | (refine agrd_cases (fun h => ?_) (fun h => ?_) <;> (have h' := h; (try simp at h'); first | done | simp [h, h'] | simp))))
    refine ⟨i + 1, ⟨by omega, by rw [hat, ha, hcj]; rfl⟩, ?_, by simp; omega⟩
    refine sub_mk _ [(2, 2, _)] ⟨by simp, by simp, by simp [renOf, Blk.live, Tb.c], by simp⟩ (by simp [renOf, hw])
  have hie : i = x.fk.length := by omega
  subst hie
  rw [List.take_length] at ha
  have hk : keyT x c = false := by unfold keyT; rw [hc, ha]; rfl
  simp [Tb.c, hk]
  (repeat' (first | contradiction | exact .of (by kernel_rfl) | refine And.intro ?_ ?_ | intro _ | (refine agrd_cases (fun h => ?_) (fun h => ?_) <;> (have h' := h; (try simp at h'); first | done | simp [h, h'] | simp))))
end Go.Proofs.Tryz
