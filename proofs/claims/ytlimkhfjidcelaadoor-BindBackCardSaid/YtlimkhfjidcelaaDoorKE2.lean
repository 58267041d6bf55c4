import Derived.Test.YtlimkhfjidcelaaDoorKE1
import Derived.Test.YtlimkhfjidcelaaDoorKE0
import Derived.Test.YtlimkhfjidcelaaDoorAbB
set_option linter.all false
/- Expressions: Few, sizes, depths. Printed by genx.py. -/
namespace Go.Proofs.Tryd
open Go.Ab
set_option maxRecDepth 100000
set_option maxHeartbeats 2000000

mutual
def Ex.few : Ex → Nat → Bool
  | .mk _ _ _ t _ ks, d => if 60 < d then false else if 12 < ks.length then false else if 200 < t.length then false else fewAll ks (d + 1)
def fewAll : List Ex → Nat → Bool
  | [], _ => true
  | e :: es, d => e.few d && fewAll es d
end
theorem fewAll_all : ∀ (l : List Ex) (d : Nat), fewAll l d = l.all fun e => e.few d
  | [], _ => rfl
  | e :: es, d => by rw [fewAll, fewAll_all es d]; rfl
theorem few_kids {o c n : Int} {t : List UInt8} {g : Int} {ks : List Ex} {q : Nat} (hq : (Ex.mk o c n t g ks).few q = true) : ks.length ≤ 12 ∧ t.length ≤ 200 ∧ ∀ e ∈ ks, e.few (q + 1) = true := by
  rw [Ex.few] at hq
  by_cases h1 : 60 < q
  · simp [h1] at hq
  by_cases h2 : 12 < ks.length
  · simp [h1, h2] at hq
  by_cases h3 : 200 < t.length
  · simp [h1, h2, h3] at hq
  · simp [h1, h2, h3] at hq
    rw [fewAll_all, List.all_eq_true] at hq
    exact ⟨by omega, by omega, hq⟩
mutual
def Ex.size : Ex → Int
  | .mk _ _ _ _ _ ks => sizeAll 1 ks
def sizeAll : Int → List Ex → Int
  | a, [] => a
  | a, e :: es => sizeAll (IntKind.i64.wrap (a + e.size)) es
end
theorem sizeAll_drop {l : List Ex} {i : Nat} {x : Ex} (a : Int) (h : l[i]? = some x) : sizeAll a (l.drop i) = sizeAll (IntKind.i64.wrap (a + x.size)) (l.drop (i + 1)) := by
  obtain ⟨hi, rfl⟩ := List.getElem?_eq_some_iff.1 h
  rw [List.drop_eq_getElem_cons hi, sizeAll]

mutual
def Ex.fits : Ex → Prop
  | .mk _ _ _ _ _ ks => ks.length ≤ 9223372036854775807 ∧ fitsAll ks
def fitsAll : List Ex → Prop
  | [] => True
  | e :: es => e.fits ∧ fitsAll es
end
theorem fitsAll_get : ∀ (l : List Ex), fitsAll l → ∀ e ∈ l, e.fits
  | e :: es, h, x, hx => by
    rcases List.mem_cons.1 hx with rfl | hx
    · exact h.1
    · exact fitsAll_get es h.2 x hx

theorem size_cf : ∀ (m : Nat) (e : Ex), SizeOf.sizeOf e < m → e.fits → Cf En 26 [e.a] [] (.d (.int .i64 e.size)) []
  | 0, _, h, _ => absurd h (by omega)
  | m + 1, .mk o c n t g ks, hm, hfit => by
    refine cf_intro mix (fn := Tryd.f26) (by kernel_rfl) rfl (by kernel_rfl) (by decide) (by simp) ?_
    have hf : Ex.size (.mk o c n t g ks) = sizeAll 1 ks := by rw [Ex.size]
    rw [hf]
    rw [Ex.fits] at hfit
    generalize hres : sizeAll 1 ks = res
    simp [Ex.a, Ex.c, kidsC_map]
    refine ⟨.of (by kernel_rfl), .of (by kernel_rfl), .of (by kernel_rfl), ?_⟩
    refine aloopT mix (by decide) (fun p : Nat × Int => { s := mkS [(1, .ptr 1 0 0), (3, .d (.int .i64 p.2)), (4, .d (.int .i64 p.1))], b := mkB [(1, 1, .var (Ex.a (.mk o c n t g ks)).cells)] }) (fun p => p.1 ≤ ks.length ∧ sizeAll p.2 (ks.drop p.1) = res) (fun p => ks.length - p.1) (0, 1) (by simp [hres]) (sub_mk _ _ ⟨by simp, by simp, by simp [renOf, Blk.live, Ex.a, Ex.c, kidsC_map], by simp⟩ (by simp [renOf])) ?_
    rintro ⟨i, acc⟩ ⟨hi, ho⟩
    simp only at hi ho
    by_cases hlt : i < ks.length
    · have hlt' : (i : Int) < ks.length := by omega
      have hg : ks[i]? = some ks[i] := List.getElem?_eq_getElem hlt
      have hdr := sizeAll_drop acc hg
      have hlen : ks[i].c.length = 6 := by cases ks[i]; rfl
      have htk : List.take 6 (List.map AV.d ks[i].c) = List.map AV.d ks[i].c := List.take_of_length_le (by simp [hlen])
      simp [Ex.a, Ex.c, kidsC_map, hlt, hlt', hg, hlen, htk]
      have hkid : SizeOf.sizeOf ks[i] < m := by
        have := Ex.kid_lt (e := .mk o c n t g ks) (k := ks[i]) (List.getElem_mem hlt)
        omega
      refine ⟨.of (by kernel_rfl), acallT_plain (size_cf m ks[i] hkid (fitsAll_get ks hfit.2 _ (List.getElem_mem hlt))) (by simp [Ex.a]) ?_⟩
      simp
      refine ⟨.of (by kernel_rfl), .of (by kernel_rfl), (i + 1, IntKind.i64.wrap (acc + ks[i].size)), ⟨hlt, ?_⟩, ?_, ?_⟩
      · rw [← ho, hdr]
      · refine sub_mk _ [(1, 1, _)] ⟨by simp, by simp, by simp [renOf, Blk.live, Ex.a, Ex.c, kidsC_map], by simp⟩ ?_
        simp [renOf]
        exact wrap_in (by omega) (by omega)
      · simp; omega
    · have hlt' : ¬ (i : Int) < ks.length := by omega
      simp [Ex.a, Ex.c, kidsC_map, hlt, hlt']
      refine ⟨.of (by kernel_rfl), .of (by kernel_rfl), ?_⟩
      rw [← ho, List.drop_eq_nil_of_le (by omega)]; rfl

theorem fits_few : ∀ (m : Nat) (e : Ex), SizeOf.sizeOf e < m → ∀ q, e.few q = true → e.fits
  | 0, _, h, _, _ => absurd h (by omega)
  | m + 1, .mk o c n t g ks, hm, q, hq => by
    obtain ⟨hk, ht, hfew⟩ := few_kids hq
    rw [Ex.fits]
    refine ⟨by omega, ?_⟩
    have : ∀ l : List Ex, (∀ e ∈ l, e.fits) → fitsAll l := by
      intro l
      induction l with
      | nil => intro _; trivial
      | cons e es ih => intro h; exact ⟨h e List.mem_cons_self, ih fun x hx => h x (List.mem_cons_of_mem _ hx)⟩
    exact this ks fun e he => fits_few m e (by have := Ex.kid_lt (e := .mk o c n t g ks) (k := e) he; omega) (q + 1) (hfew e he)

theorem e_size : ∀ (m : Nat) (e : Ex), SizeOf.sizeOf e < m → ∀ q, e.few q = true → Cf En 91 [e.a] [] (.d (.int .i64 e.size)) []
  | 0, _, h, _, _ => absurd h (by omega)
  | m + 1, .mk o c n t g ks, hm, q, hq => by
    obtain ⟨hk, ht, hfew⟩ := few_kids hq
    refine cf_intro mix (fn := Tryd.f91) (by kernel_rfl) rfl (by kernel_rfl) (by decide) (by simp) ?_
    have hf : Ex.size (.mk o c n t g ks) = sizeAll 1 ks := by rw [Ex.size]
    rw [hf]
    generalize hres : sizeAll 1 ks = res
    simp [Ex.a, Ex.c, kidsC_map]
    (repeat' (first | contradiction | exact .of (by kernel_rfl) | refine And.intro ?_ ?_ | intro _ | (refine agrd_cases (fun h => ?_) (fun h => ?_) <;> (have h' := h; (try simp at h'); first | done | simp [h, h'] | simp))))
    refine aloopT mix (by decide) (fun p : Nat × Int => { s := mkS [(1, .ptr 1 0 0), (3, .d (.int .i64 p.2)), (7, .d (.sl (ks.map Ex.c))), (8, .d (.int .i64 ks.length)), (9, .d (.int .i64 p.1))], b := mkB [(1, 1, .var (Ex.a (.mk o c n t g ks)).cells)] }) (fun p => p.1 ≤ ks.length ∧ sizeAll p.2 (ks.drop p.1) = res) (fun p => ks.length - p.1) (0, 1) (by simp [hres]) (sub_mk _ _ ⟨by simp, by simp, by simp [renOf, Blk.live, Ex.a, Ex.c, kidsC_map], by simp⟩ (by simp [renOf])) ?_
    rintro ⟨i, acc⟩ ⟨hi, ho⟩
    simp only at hi ho
    by_cases hlt : i < ks.length
    · have hlt' : (i : Int) < ks.length := by omega
      have hg : ks[i]? = some ks[i] := List.getElem?_eq_getElem hlt
      have hdr := sizeAll_drop acc hg
      have hkid : SizeOf.sizeOf ks[i] < m := by
        have := Ex.kid_lt (e := .mk o c n t g ks) (k := ks[i]) (List.getElem_mem hlt)
        omega
      simp [Ex.a, Ex.c, kidsC_map, hlt, hlt', hg, Ex.clen, Ex.ctake]
      (repeat' (first | contradiction | exact .of (by kernel_rfl) | refine And.intro ?_ ?_ | intro _ | (refine agrd_cases (fun h => ?_) (fun h => ?_) <;> (have h' := h; (try simp at h'); first | done | simp [h, h'] | simp))))
      refine acallT_plain (e_size m ks[i] hkid (q + 1) (hfew _ (List.getElem_mem hlt))) (by simp [Ex.a]) ?_
      simp
      (repeat' (first | contradiction | exact .of (by kernel_rfl) | refine And.intro ?_ ?_ | intro _ | (refine agrd_cases (fun h => ?_) (fun h => ?_) <;> (have h' := h; (try simp at h'); first | done | simp [h, h'] | simp))))
      refine ⟨(i + 1, IntKind.i64.wrap (acc + ks[i].size)), ⟨hlt, ?_⟩, ?_, ?_⟩
      · rw [← ho, hdr]
      · refine sub_mk _ [(1, 1, _)] ⟨by simp, by simp, by simp [renOf, Blk.live, Ex.a, Ex.c, kidsC_map], by simp⟩ ?_
        simp [renOf]
        exact wrap_in (by omega) (by omega)
      · simp; omega
    · have hlt' : ¬ (i : Int) < ks.length := by omega
      simp [Ex.a, Ex.c, kidsC_map, hlt, hlt']
      (repeat' (first | contradiction | exact .of (by kernel_rfl) | refine And.intro ?_ ?_ | intro _ | (refine agrd_cases (fun h => ?_) (fun h => ?_) <;> (have h' := h; (try simp at h'); first | done | simp [h, h'] | simp))))
      rw [← ho, List.drop_eq_nil_of_le (by omega)]; rfl

mutual
def Ex.dep : Ex → Nat
  | .mk _ _ _ _ _ ks => depAll 0 ks + 1
def depAll : Nat → List Ex → Nat
  | a, [] => a
  | a, e :: es => depAll (max a e.dep) es
end
theorem depAll_drop {l : List Ex} {i : Nat} {x : Ex} (a : Nat) (h : l[i]? = some x) : depAll a (l.drop i) = depAll (max a x.dep) (l.drop (i + 1)) := by
  obtain ⟨hi, rfl⟩ := List.getElem?_eq_some_iff.1 h
  rw [List.drop_eq_getElem_cons hi, depAll]
theorem depAll_le (b : Nat) : ∀ (l : List Ex) (a : Nat), a ≤ b → (∀ e ∈ l, e.dep ≤ b) → depAll a l ≤ b
  | [], a, h, _ => h
  | e :: es, a, h, hl => by
    rw [depAll]
    exact depAll_le b es _ (by have := hl e List.mem_cons_self; omega) (fun x hx => hl x (List.mem_cons_of_mem _ hx))
theorem dep_few : ∀ (m : Nat) (e : Ex), SizeOf.sizeOf e < m → ∀ q, e.few q = true → e.dep + q ≤ 61
  | 0, _, h, _, _ => absurd h (by omega)
  | m + 1, .mk o c n t g ks, hm, q, hq => by
    obtain ⟨hk, ht, hfew⟩ := few_kids hq
    have hq60 : q ≤ 60 := by
      rw [Ex.few] at hq
      by_cases h : 60 < q
      · simp [h] at hq
      · omega
    have := depAll_le (60 - q) ks 0 (by omega) (fun e he => by
      have := dep_few m e (by have := Ex.kid_lt (e := .mk o c n t g ks) (k := e) he; omega) (q + 1) (hfew e he)
      omega)
    rw [Ex.dep]
    omega
theorem e_depth : ∀ (m : Nat) (e : Ex), SizeOf.sizeOf e < m → ∀ q, e.few q = true → Cf En 92 [e.a] [] (.d (.int .i64 e.dep)) []
  | 0, _, h, _, _ => absurd h (by omega)
  | m + 1, .mk o c n t g ks, hm, q, hq => by
    obtain ⟨hk, ht, hfew⟩ := few_kids hq
    have hdep := dep_few _ _ (Nat.lt_succ_self _) q hq
    refine cf_intro mix (fn := Tryd.f92) (by kernel_rfl) rfl (by kernel_rfl) (by decide) (by simp) ?_
    rw [Ex.dep] at hdep ⊢
    generalize hres : depAll 0 ks = res at *
    simp [Ex.a, Ex.c, kidsC_map]
    (repeat' (first | contradiction | exact .of (by kernel_rfl) | refine And.intro ?_ ?_ | intro _ | (refine agrd_cases (fun h => ?_) (fun h => ?_) <;> (have h' := h; (try simp at h'); first | done | simp [h, h'] | simp))))
    refine aloopT mix (by decide) (fun p : Nat × Nat => { s := mkS [(1, .ptr 1 0 0), (3, .d (.int .i64 p.2)), (7, .d (.sl (ks.map Ex.c))), (8, .d (.int .i64 ks.length)), (9, .d (.int .i64 p.1))], b := mkB [(1, 1, .var (Ex.a (.mk o c n t g ks)).cells)] }) (fun p => p.1 ≤ ks.length ∧ depAll p.2 (ks.drop p.1) = res) (fun p => ks.length - p.1) (0, 0) (by simp [hres]) (sub_mk _ _ ⟨by simp, by simp, by simp [renOf, Blk.live, Ex.a, Ex.c, kidsC_map], by simp⟩ (by simp [renOf])) ?_
    rintro ⟨i, acc⟩ ⟨hi, ho⟩
    simp only at hi ho
    by_cases hlt : i < ks.length
    · have hlt' : (i : Int) < ks.length := by omega
      have hg : ks[i]? = some ks[i] := List.getElem?_eq_getElem hlt
      have hdr := depAll_drop acc hg
      have hkid : SizeOf.sizeOf ks[i] < m := by
        have := Ex.kid_lt (e := .mk o c n t g ks) (k := ks[i]) (List.getElem_mem hlt)
        omega
      have hmax : (if (acc : Int) < ks[i].dep then (ks[i].dep : Int) else acc) = ((max acc ks[i].dep : Nat) : Int) := by split <;> omega
      simp [Ex.a, Ex.c, kidsC_map, hlt, hlt', hg, Ex.clen, Ex.ctake]
      (repeat' (first | contradiction | exact .of (by kernel_rfl) | refine And.intro ?_ ?_ | intro _ | (refine agrd_cases (fun h => ?_) (fun h => ?_) <;> (have h' := h; (try simp at h'); first | done | simp [h, h'] | simp))))
      refine acallT_plain (e_depth m ks[i] hkid (q + 1) (hfew _ (List.getElem_mem hlt))) (by simp [Ex.a]) ?_
      simp
      (repeat' (first | contradiction | exact .of (by kernel_rfl) | refine And.intro ?_ ?_ | intro _ | (refine agrd_cases (fun h => ?_) (fun h => ?_) <;> (have h' := h; (try simp at h'); first | done | simp [h, h'] | simp))))
      refine ⟨(i + 1, max acc ks[i].dep), ⟨hlt, ?_⟩, ?_, ?_⟩
      · rw [← ho, hdr]
      · refine sub_mk _ [(1, 1, _)] ⟨by simp, by simp, by simp [renOf, Blk.live, Ex.a, Ex.c, kidsC_map], by simp⟩ ?_
        simp [renOf]
        refine ⟨?_, wrap_in (by omega) (by omega)⟩
        split <;> omega
      · simp; omega
    · have hlt' : ¬ (i : Int) < ks.length := by omega
      have hacc : acc = res := by
        rw [← ho, List.drop_eq_nil_of_le (by omega)]; rfl
      have hw := wrap_in (n := (acc : Int) + 1) (by omega) (by omega)
      simp [Ex.a, Ex.c, kidsC_map, hlt, hlt', hw]
      (repeat' (first | contradiction | exact .of (by kernel_rfl) | refine And.intro ?_ ?_ | intro _ | (refine agrd_cases (fun h => ?_) (fun h => ?_) <;> (have h' := h; (try simp at h'); first | done | simp [h, h'] | simp))))
      all_goals omega
theorem rx_depth : ∀ (m : Nat) (e : Ex), SizeOf.sizeOf e < m → ∀ q, e.few q = true → Cf En 95 [e.a] [] (.d (.int .i64 e.dep)) []
  | 0, _, h, _, _ => absurd h (by omega)
  | m + 1, .mk o c n t g ks, hm, q, hq => by
    obtain ⟨hk, ht, hfew⟩ := few_kids hq
    have hdep := dep_few _ _ (Nat.lt_succ_self _) q hq
    refine cf_intro mix (fn := Tryd.f95) (by kernel_rfl) rfl (by kernel_rfl) (by decide) (by simp) ?_
    rw [Ex.dep] at hdep ⊢
    generalize hres : depAll 0 ks = res at *
    simp [Ex.a, Ex.c, kidsC_map]
    (repeat' (first | contradiction | exact .of (by kernel_rfl) | refine And.intro ?_ ?_ | intro _ | (refine agrd_cases (fun h => ?_) (fun h => ?_) <;> (have h' := h; (try simp at h'); first | done | simp [h, h'] | simp))))
    refine aloopT mix (by decide) (fun p : Nat × Nat => { s := mkS [(1, .ptr 1 0 0), (3, .d (.int .i64 p.2)), (4, .d (.int .i64 p.1))], b := mkB [(1, 1, .var (Ex.a (.mk o c n t g ks)).cells)] }) (fun p => p.1 ≤ ks.length ∧ depAll p.2 (ks.drop p.1) = res) (fun p => ks.length - p.1) (0, 0) (by simp [hres]) (sub_mk _ _ ⟨by simp, by simp, by simp [renOf, Blk.live, Ex.a, Ex.c, kidsC_map], by simp⟩ (by simp [renOf])) ?_
    rintro ⟨i, acc⟩ ⟨hi, ho⟩
    simp only at hi ho
    by_cases hlt : i < ks.length
    · have hlt' : (i : Int) < ks.length := by omega
      have hg : ks[i]? = some ks[i] := List.getElem?_eq_getElem hlt
      have hdr := depAll_drop acc hg
      have hkid : SizeOf.sizeOf ks[i] < m := by
        have := Ex.kid_lt (e := .mk o c n t g ks) (k := ks[i]) (List.getElem_mem hlt)
        omega
      have hmax : (if (acc : Int) < ks[i].dep then (ks[i].dep : Int) else acc) = ((max acc ks[i].dep : Nat) : Int) := by split <;> omega
      simp [Ex.a, Ex.c, kidsC_map, hlt, hlt', hg, Ex.clen, Ex.ctake]
      (repeat' (first | contradiction | exact .of (by kernel_rfl) | refine And.intro ?_ ?_ | intro _ | (refine agrd_cases (fun h => ?_) (fun h => ?_) <;> (have h' := h; (try simp at h'); first | done | simp [h, h'] | simp))))
      refine acallT_plain (rx_depth m ks[i] hkid (q + 1) (hfew _ (List.getElem_mem hlt))) (by simp [Ex.a]) ?_
      simp
      (repeat' (first | contradiction | exact .of (by kernel_rfl) | refine And.intro ?_ ?_ | intro _ | (refine agrd_cases (fun h => ?_) (fun h => ?_) <;> (have h' := h; (try simp at h'); first | done | simp [h, h'] | simp))))
      refine ⟨(i + 1, max acc ks[i].dep), ⟨hlt, ?_⟩, ?_, ?_⟩
      · rw [← ho, hdr]
      · refine sub_mk _ [(1, 1, _)] ⟨by simp, by simp, by simp [renOf, Blk.live, Ex.a, Ex.c, kidsC_map], by simp⟩ ?_
        simp [renOf]
        refine ⟨?_, wrap_in (by omega) (by omega)⟩
        split <;> omega
      · simp; omega
    · have hlt' : ¬ (i : Int) < ks.length := by omega
      have hacc : acc = res := by
        rw [← ho, List.drop_eq_nil_of_le (by omega)]; rfl
      have hw := wrap_in (n := (acc : Int) + 1) (by omega) (by omega)
      simp [Ex.a, Ex.c, kidsC_map, hlt, hlt', hw]
      (repeat' (first | contradiction | exact .of (by kernel_rfl) | refine And.intro ?_ ?_ | intro _ | (refine agrd_cases (fun h => ?_) (fun h => ?_) <;> (have h' := h; (try simp at h'); first | done | simp [h, h'] | simp))))
      all_goals omega
end Go.Proofs.Tryd
/- What expressions are: the table of operations; known. Printed by genx.py. -/
namespace Go.Proofs.Tryd
open Go.Ab
set_option maxRecDepth 100000
set_option maxHeartbeats 2000000

abbrev Opn := List UInt8 × Int × Int × Int
def ops : List Opn := [([], 0, 0, 0), ([110, 117, 108, 108], 0, 0, 0), ([105, 110, 116], 0, 0, 1), ([98, 111, 111, 108], 0, 0, 2), ([116, 101, 120, 116], 0, 0, 3), ([99, 111, 108, 117, 109, 110], 0, 0, 0), ([97, 100, 100], 2, 1, 1), ([115, 117, 98], 2, 1, 1), ([109, 117, 108], 2, 1, 1), ([100, 105, 118], 2, 1, 1), ([109, 111, 100], 2, 1, 1), ([110, 101, 103], 1, 1, 1), ([99, 111, 110, 99, 97, 116], 2, 2, 3), ([108, 101, 110, 103, 116, 104], 1, 2, 1), ([101, 113], 2, 4, 2), ([110, 101], 2, 4, 2), ([108, 116], 2, 4, 2), ([108, 101], 2, 4, 2), ([103, 116], 2, 4, 2), ([103, 101], 2, 4, 2), ([115, 97, 109, 101], 2, 4, 2), ([105, 115, 110, 117, 108, 108], 1, 5, 2), ([97, 110, 100], 2, 3, 2), ([111, 114], 2, 3, 2), ([110, 111, 116], 1, 3, 2), ([105, 115, 116, 114, 117, 101], 1, 3, 2), ([99, 97, 115, 101], 3, 6, 0), ([99, 111, 97, 108, 101, 115, 99, 101], 2, 4, 0), ([105, 110], 2, 4, 2)]
def rowC (o : Opn) : List D := [.str o.1, .int .i64 o.2.1, .int .i64 o.2.2.1, .int .i64 o.2.2.2]
def opsC : List D := ops.flatMap rowC
noncomputable def Et : Env := ⟨Tryd.prog, fun g => if g = 1 then some sopsC else if g = 5 then some opsC else if g = 6 then some [.any isI64] else none⟩
@[simp] theorem Et_P : Et.P = Tryd.prog := id rfl
@[simp] theorem Et_G (g : Nat) : Et.G g = if g = 1 then some sopsC else if g = 5 then some opsC else if g = 6 then some [.any isI64] else none := rfl
theorem mixt : Et.P.follows .mixedOrders = true := by kernel_rfl
theorem upn {f : FuncId} {xs : List AV} {B : List Blk} {y : AV} {B' : List Blk} (h : Cf En f xs B y B') : Cf Et f xs B y B' :=
  Cf.more (E := En) (E' := Et) rfl (fun g cs e => by rw [En_G] at e; cases e) h
theorem upst {f : FuncId} {xs : List AV} {B : List Blk} {y : AV} {B' : List Blk} (h : Cf Es f xs B y B') : Cf Et f xs B y B' :=
  Cf.more (E := Es) (E' := Et) rfl (fun g cs e => by
    rw [Es_G] at e
    rw [Et_G]
    split at e
    · rename_i h0; rw [if_pos h0]; exact e
    · split at e
      · rename_i h0 h1
        subst h1
        exact e
      · cases e) h
theorem ops_len : ops.length = 29 := rfl
theorem opsC_len : opsC.length = 116 := by decide
theorem drop_rows : ∀ (l : List Opn) (o : Nat), (l.flatMap rowC).drop (o * 4) = (l.drop o).flatMap rowC
  | [], o => by simp
  | x :: l, 0 => by simp
  | x :: l, o + 1 => by
    rw [List.flatMap_cons, show (o + 1) * 4 = (rowC x).length + o * 4 from by simp [rowC]; omega, ← List.drop_drop, List.drop_left, drop_rows l o, List.drop_succ_cons]
def zop : Opn := ([], 0, 0, 0)
def opOf (o : Int) : Opn := (ops[o.toNat]?).getD zop
theorem ops_row {o : Nat} (h : o < 29) : ∃ rest, opsC.drop (o * 4) = .str (opOf o).1 :: .int .i64 (opOf o).2.1 :: .int .i64 (opOf o).2.2.1 :: .int .i64 (opOf o).2.2.2 :: rest := by
  have hl : o < ops.length := h
  refine ⟨(ops.drop (o + 1)).flatMap rowC, ?_⟩
  unfold opsC
  rw [drop_rows, List.drop_eq_getElem_cons hl, List.flatMap_cons]
  unfold opOf
  rw [Int.toNat_natCast, List.getElem?_eq_getElem hl]
  rfl
theorem ops_word : ∀ o : Nat, o < 29 → 1 ≤ o → (opOf o).1 ≠ [] := by decide
def isOp (o : Int) : Bool := decide (1 ≤ o) && decide (o ≤ 28)
def findO (o : Int) : Opn := if isOp o = true then opOf o else zop
def opA (o : Opn) : AV := .agg [.d (.str o.1), .d (.int .i64 o.2.1), .d (.int .i64 o.2.2.1), .d (.int .i64 o.2.2.2)]

set_option maxRecDepth 100000 in
theorem e_find (o : Int) : Cf Et 142 [.d (.int .i64 o)] [] (.tup [opA (findO o), .d (.bool (isOp o))]) [] := by
  refine cf_intro mixt (fn := Tryd.f142) (by kernel_rfl) rfl (by kernel_rfl) (by decide) (by simp) ?_
  by_cases h1 : o < 0
  · have hi : isOp o = false := by unfold isOp; simp; omega
    simp [findO, hi, opA, zop, h1]
    (repeat' (first | contradiction | exact .of (by kernel_rfl) | refine And.intro ?_ ?_ | intro _ | (refine agrd_cases (fun h => ?_) (fun h => ?_) <;> (have h' := h; (try simp at h'); first | done | simp [h, h', h1] | simp [h1]))))
  by_cases h2 : 29 ≤ o
  · have hi : isOp o = false := by unfold isOp; simp; omega
    simp [findO, hi, opA, zop, h1, h2]
    (repeat' (first | contradiction | exact .of (by kernel_rfl) | refine And.intro ?_ ?_ | intro _ | (refine agrd_cases (fun h => ?_) (fun h => ?_) <;> (have h' := h; (try simp at h'); first | done | simp [h, h', h1, h2] | simp [h1, h2]))))
    all_goals omega
  obtain ⟨n, rfl⟩ : ∃ n : Nat, o = n := ⟨o.toNat, by omega⟩
  have hn : n < 29 := by omega
  obtain ⟨rest, hr⟩ := ops_row hn
  have hb : n * 4 ≤ 116 := by omega
  have hlt : (n : Int) < 29 := by omega
  have hnl : ¬ 29 ≤ n := by omega
  have h4 : n * 4 ≤ opsC.length := by rw [opsC_len]; omega
  by_cases h0 : n = 0
  · subst h0
    have h00 : opsC.head? = some (.str []) := rfl
    simp [findO, isOp, opA, zop, opsC_len, h00]
    (repeat' (first | contradiction | exact .of (by kernel_rfl) | refine And.intro ?_ ?_ | intro _ | (refine agrd_cases (fun h => ?_) (fun h => ?_) <;> (have h' := h; (try simp at h'); first | done | simp [h, h', h00] | simp [h00]))))
  · have hi : isOp n = true := by unfold isOp; simp; omega
    have hw := ops_word n hn (by omega)
    simp [findO, hi, opA, opsC_len, h1, hlt, hb, hr, hnl]
    (repeat' (first | contradiction | exact .of (by kernel_rfl) | refine And.intro ?_ ?_ | intro _ | (refine agrd_cases (fun h => ?_) (fun h => ?_) <;> (have h' := h; (try simp at h'); first | done | simp [h, h', hr, h1, hlt, hb, opsC_len, hnl, hw] | simp [hr, h1, hlt, hb, opsC_len, hnl, hw]))))
    all_goals simp [findO, hi]
def cntd (o : Int) (n : Nat) : Bool := isOp o && ((n : Int) == (opOf o).2.1 || (o == 28 && decide ((n : Int) > (opOf o).2.1)))
set_option maxRecDepth 100000 in
theorem e_known (o c n : Int) (t : List UInt8) (g : Int) (ks : List Ex) : Cf Et 119 [(Ex.mk o c n t g ks).a] [] (.tup [opA (findO o), .d (.bool (isOp o)), .d (.bool (cntd o ks.length))]) [] := by
  refine cf_intro mixt (fn := Tryd.f119) (by kernel_rfl) rfl (by kernel_rfl) (by decide) (by simp) ?_
  simp [Ex.a, Ex.c, kidsC_map]
  (repeat' (first | contradiction | exact .of (by kernel_rfl) | refine And.intro ?_ ?_ | intro _ | (refine agrd_cases (fun h => ?_) (fun h => ?_) <;> (have h' := h; (try simp at h'); first | done | simp [h, h'] | simp))))
  refine acallT_plain (e_find o) (by simp [V.a]) ?_
  simp [opA]
  (repeat' (first | contradiction | exact .of (by kernel_rfl) | refine And.intro ?_ ?_ | intro _ | (refine agrd_cases (fun h => ?_) (fun h => ?_) <;> (have h' := h; (try simp at h'); first | done | simp [h, h'] | simp))))
  all_goals simp_all [cntd, findO]
end Go.Proofs.Tryd
/- The Bools of the reference. -/
namespace Go.Proofs.Tryd
open Go.Ab
def nulV : V := ⟨0, 0, []⟩
def boolV (n : Int) : V := if n ≠ 0 ∧ n ≠ 1 then nulV else ⟨2, n, []⟩
theorem boolV0 : boolV 0 = ⟨2, 0, []⟩ := by simp [boolV]
theorem boolV1 : boolV 1 = ⟨2, 1, []⟩ := by simp [boolV]
theorem r_bool (n : Int) : Cf En 66 [.d (.int .i64 n)] [] (boolV n).a [] := by
  refine cf_intro mix (fn := Tryd.f66) (by kernel_rfl) rfl (by kernel_rfl) (by decide) (by simp) ?_
  by_cases h0 : n = 0
  · subst h0
    simp [V.a, boolV, IntKind.wrap_i64]
    repeat' (first | exact .of (by kernel_rfl) | refine And.intro ?_ ?_)
  by_cases h1 : n = 1
  · subst h1
    simp [V.a, boolV, IntKind.wrap_i64]
    repeat' (first | exact .of (by kernel_rfl) | refine And.intro ?_ ?_)
  simp [V.a, boolV, h0, h1, nulV]
  repeat' (first | exact .of (by kernel_rfl) | refine And.intro ?_ ?_)
  (repeat' (first | contradiction | exact .of (by kernel_rfl) | refine And.intro ?_ ?_ | intro _ | (refine agrd_cases (fun h => ?_) (fun h => ?_) <;> (have h' := h; (try simp at h'); first | done | simp [h, h', h0, h1] | simp [h0, h1]))))
end Go.Proofs.Tryd
/- The tape of numbers. -/
namespace Go.Proofs.Tryd
open Go.Ab

/-- The tape as a block. -/
def tapB (L : List Int) (i : Int) : Blk := .var [.d (.sl (L.map fun n => [.int .i64 n])), .d (.int .i64 i)]
def nextV (L : List Int) (i : Nat) (n : Int) : Int :=
  if n < 1 then 0 else
    let x := match L[i]? with
      | some z => z.tmod n
      | none => 0
    if x < 0 then x + n else x
def nextI (i : Nat) (n : Int) : Nat := if n < 1 then i else i + 1
theorem nextV_in (L : List Int) (i : Nat) {n : Int} (h : 1 ≤ n) : 0 ≤ nextV L i n ∧ nextV L i n < n := by
  unfold nextV
  rw [if_neg (by omega)]
  cases L[i]? with
  | none => simp; omega
  | some z =>
    have h1 := Int.natAbs_tmod z n
    have h2 := Nat.mod_lt z.natAbs (show 0 < n.natAbs by omega)
    simp only
    split <;> omega

theorem t_next (L : List Int) (i : Nat) (hi : i ≤ 1000000000) (n : Int) (hn : n ≤ 1000000) :
    Cf En 22 [.ptr 1000000 0 0, .d (.int .i64 n)] [tapB L i] (.d (.int .i64 (nextV L i n))) [tapB L (nextI i n)] := by
  refine cf_intro mix (fn := Tryd.f22) (by kernel_rfl) rfl (by kernel_rfl) (by decide) (by simp) ?_
  simp [tapB]
  (repeat' (first | contradiction | exact .of (by kernel_rfl) | refine And.intro ?_ ?_ | intro _ | (refine agrd_cases (fun h => ?_) (fun h => ?_) <;> (have h' := h; (try simp at h'); first | done | simp [h, h'] | simp))))
  · rename_i h
    simp [nextI, h]
  · rename_i h
    simp [nextV, h]
  · rename_i h1 h2
    have hg : L[i]? = some L[i] := List.getElem?_eq_getElem h2
    have hn0 : ¬ n < 1 := by omega
    have hz : ¬ n = 0 := by omega
    have hw := wrap_in (n := (i : Int) + 1) (by omega) (by omega)
    have e1 := Int.natAbs_tmod L[i] n
    have e2 := Nat.mod_lt L[i].natAbs (show 0 < n.natAbs by omega)
    have hw2 := wrap_in (n := L[i].tmod n + n) (by omega) (by omega)
    have hV : nextV L i n = if L[i].tmod n < 0 then L[i].tmod n + n else L[i].tmod n := by simp [nextV, hn0, hg]
    have hI : nextI i n = i + 1 := by simp [nextI, hn0]
    rw [hV, hI]
    clear hV hI
    by_cases hneg : L[i].tmod n < 0
    · simp [hg, hz, hneg, hw, hw2]
      (repeat' (first | contradiction | exact .of (by kernel_rfl) | refine And.intro ?_ ?_ | intro _ | (refine agrd_cases (fun h => ?_) (fun h => ?_) <;> (have h' := h; (try simp at h'); first | done | simp [h, h'] | simp))))
    · simp [hg, hz, hneg, hw]
      (repeat' (first | contradiction | exact .of (by kernel_rfl) | refine And.intro ?_ ?_ | intro _ | (refine agrd_cases (fun h => ?_) (fun h => ?_) <;> (have h' := h; (try simp at h'); first | done | simp [h, h'] | simp))))
  · rename_i h1 h2
    simp [nextI, show ¬ n < 1 by omega]
    exact wrap_in (by omega) (by omega)
  · rename_i h1 h2
    simp [nextV, show ¬ n < 1 by omega, List.getElem?_eq_none h2]

def intsL : List Int := [0, 1, 2, -1, 5, 7, -7, 100, 1000000000000, -1000000000000, 999999999999, 1000000]
def textsL : List (List UInt8) := [[], [97], [98], [97, 98], [48], [32], [97, 98, 99, 100, 101, 102, 103, 104, 105, 106, 107, 108, 109, 110, 111, 112, 113, 114, 115, 116, 117, 118, 119, 120]]
def valuesOf (k : Int) : List V :=
  if k = 1 then nulV :: intsL.map fun n => ⟨1, n, []⟩ else if k = 2 then [nulV, ⟨2, 0, []⟩, ⟨2, 1, []⟩] else if k = 3 then nulV :: textsL.map fun t => ⟨3, 0, t⟩ else [nulV]

theorem t_values (k : Int) : Cf En 88 [.d (.int .i64 k)] [] (.d (.sl ((valuesOf k).map V.c))) [] := by
  refine cf_intro mix (fn := Tryd.f88) (by kernel_rfl) rfl (by kernel_rfl) (by decide) (by simp) ?_
  by_cases h1 : k = 1
  · subst h1
    simp
    (repeat' (first | contradiction | exact .of (by kernel_rfl) | refine And.intro ?_ ?_ | intro _ | (refine agrd_cases (fun h => ?_) (fun h => ?_) <;> (have h' := h; (try simp at h'); first | done | simp [h, h'] | simp))))
    have hlen : intsL.length = 12 := by decide
    refine aloopT mix (by decide) (fun i : Nat => { s := mkS [(3, .ref 900 0 (i + 1) 3), (4, .d (.sl (intsL.map fun n => [.int .i64 n]))), (5, .d (.int .i64 i))], b := mkB [(900, 900, .arr 69 3 ((nulV :: (intsL.take i).map fun n => ⟨1, n, []⟩).map V.c) false)] }) (fun i : Nat => i ≤ 12) (fun i => 12 - i) 0 (by simp) (sub_mk _ [(900, 9, _)] ⟨by simp, by simp, by simp [renOf, Blk.live, nulV, V.c], by simp⟩ (by simp [renOf, intsL])) ?_
    intro i hi
    by_cases hlt : i < 12
    · have hlt' : (i : Int) < 12 := by omega
      have hg : intsL[i]? = some intsL[i] := List.getElem?_eq_getElem (by omega)
      have htk : intsL.take (i + 1) = intsL.take i ++ [intsL[i]] := by rw [List.take_add_one, hg]; rfl
      have hmin : min i 12 = i := by omega
      have s1 : (i + 1 + 1) * 32 ≤ 140737488355328 := by omega
      have s2 : i + 1 + 1 ≤ 9223372036854775807 := by omega
      have s3 : i ≤ 9223372036854775805 := by omega
      simp [hlt, hlt', hlen, hg, hmin, s1, s2, s3]
      (repeat' (first | contradiction | exact .of (by kernel_rfl) | refine And.intro ?_ ?_ | intro _ | (refine agrd_cases (fun h => ?_) (fun h => ?_) <;> (have h' := h; (try simp at h'); first | done | simp [h, h'] | simp))))
      refine ⟨i + 1, by omega, ?_, ?_⟩
      · refine sub_mk _ [(900, 27, _)] ⟨by simp, by simp, ?_, by simp⟩ ?_
        · simp [renOf, Blk.live, htk, V.c, hmin, hlen]
          try rfl
        · simp [renOf]
          exact wrap_in (by omega) (by omega)
      · simp; omega
    · have hlt' : ¬ (i : Int) < 12 := by omega
      have hi12 : i = 12 := by omega
      subst hi12
      have htk : intsL.take 12 = intsL := List.take_of_length_le (by omega)
      simp [hlen, htk]
      (repeat' (first | contradiction | exact .of (by kernel_rfl) | refine And.intro ?_ ?_ | intro _ | (refine agrd_cases (fun h => ?_) (fun h => ?_) <;> (have h' := h; (try simp at h'); first | done | simp [h, h'] | simp))))
      all_goals (simp [valuesOf, hlen]; rw [← List.map_take, htk])
  by_cases h2 : k = 2
  · subst h2
    simp
    (repeat' (first | contradiction | exact .of (by kernel_rfl) | refine And.intro ?_ ?_ | intro _ | (refine agrd_cases (fun h => ?_) (fun h => ?_) <;> (have h' := h; (try simp at h'); first | done | simp [h, h'] | simp))))
    refine acallT_plain (r_bool 0) (by simp [V.a]) ?_
    simp [V.a, boolV0]
    refine acallT_plain (r_bool 1) (by simp [V.a]) ?_
    simp [V.a, boolV1]
    (repeat' (first | contradiction | exact .of (by kernel_rfl) | refine And.intro ?_ ?_ | intro _ | (refine agrd_cases (fun h => ?_) (fun h => ?_) <;> (have h' := h; (try simp at h'); first | done | simp [h, h'] | simp))))
    all_goals simp [valuesOf, V.c, nulV]
  by_cases h3 : k = 3
  · subst h3
    simp
    (repeat' (first | contradiction | exact .of (by kernel_rfl) | refine And.intro ?_ ?_ | intro _ | (refine agrd_cases (fun h => ?_) (fun h => ?_) <;> (have h' := h; (try simp at h'); first | done | simp [h, h'] | simp))))
    have hlen : textsL.length = 7 := by decide
    refine aloopT mix (by decide) (fun i : Nat => { s := mkS [(3, .ref 900 0 (i + 1) 3), (6, .d (.sl (textsL.map fun n => [.str n]))), (7, .d (.int .i64 i))], b := mkB [(900, 900, .arr 69 3 ((nulV :: (textsL.take i).map fun n => ⟨3, 0, n⟩).map V.c) false)] }) (fun i : Nat => i ≤ 7) (fun i => 7 - i) 0 (by simp) (sub_mk _ [(900, 9, _)] ⟨by simp, by simp, by simp [renOf, Blk.live, nulV, V.c], by simp⟩ (by simp [renOf, textsL])) ?_
    intro i hi
    by_cases hlt : i < 7
    · have hlt' : (i : Int) < 7 := by omega
      have hg : textsL[i]? = some textsL[i] := List.getElem?_eq_getElem (by omega)
      have htk : textsL.take (i + 1) = textsL.take i ++ [textsL[i]] := by rw [List.take_add_one, hg]; rfl
      have hmin : min i 7 = i := by omega
      have s1 : (i + 1 + 1) * 32 ≤ 140737488355328 := by omega
      have s2 : i + 1 + 1 ≤ 9223372036854775807 := by omega
      have s3 : i ≤ 9223372036854775805 := by omega
      simp [hlt, hlt', hlen, hg, hmin, s1, s2, s3]
      (repeat' (first | contradiction | exact .of (by kernel_rfl) | refine And.intro ?_ ?_ | intro _ | (refine agrd_cases (fun h => ?_) (fun h => ?_) <;> (have h' := h; (try simp at h'); first | done | simp [h, h'] | simp))))
      refine ⟨i + 1, by omega, ?_, ?_⟩
      · refine sub_mk _ [(900, 51, _)] ⟨by simp, by simp, ?_, by simp⟩ ?_
        · simp [renOf, Blk.live, htk, V.c, hmin, hlen]
          try rfl
        · simp [renOf]
          exact wrap_in (by omega) (by omega)
      · simp; omega
    · have hlt' : ¬ (i : Int) < 7 := by omega
      have hi12 : i = 7 := by omega
      subst hi12
      have htk : textsL.take 7 = textsL := List.take_of_length_le (by omega)
      simp [hlen, htk]
      (repeat' (first | contradiction | exact .of (by kernel_rfl) | refine And.intro ?_ ?_ | intro _ | (refine agrd_cases (fun h => ?_) (fun h => ?_) <;> (have h' := h; (try simp at h'); first | done | simp [h, h'] | simp))))
      all_goals (simp [valuesOf, hlen]; rw [← List.map_take, htk])
  simp [h1, h2, h3]
  (repeat' (first | contradiction | exact .of (by kernel_rfl) | refine And.intro ?_ ?_ | intro _ | (refine agrd_cases (fun h => ?_) (fun h => ?_) <;> (have h' := h; (try simp at h'); first | done | simp [h, h'] | simp))))
  all_goals simp [valuesOf, h1, h2, h3, V.c, nulV]
theorem values_len (k : Int) : 1 ≤ (valuesOf k).length ∧ (valuesOf k).length ≤ 13 := by
  unfold valuesOf
  repeat' split
  all_goals decide
def valV (L : List Int) (i : Nat) (k : Int) : V := ((valuesOf k)[(nextV L i (valuesOf k).length).toNat]?).getD nulV
theorem t_value (L : List Int) (i : Nat) (hi : i ≤ 1000000000) (k : Int) :
    Cf En 53 [.ptr 1000000 0 0, .d (.int .i64 k), .d (.bool true)] [tapB L i] (valV L i k).a [tapB L (i + 1)] := by
  refine cf_intro mix (fn := Tryd.f53) (by kernel_rfl) rfl (by kernel_rfl) (by decide) (by simp) ?_
  have hl := values_len k
  have hn := nextV_in L i (n := (valuesOf k).length) (by omega)
  have hI : nextI i (valuesOf k).length = i + 1 := by simp [nextI]; omega
  have ht := t_next L i hi (valuesOf k).length (by omega)
  rw [hI] at ht
  have hlt : (nextV L i (valuesOf k).length).toNat < (valuesOf k).length := by omega
  have hg : (valuesOf k)[(nextV L i (valuesOf k).length).toNat]? = some (valuesOf k)[(nextV L i (valuesOf k).length).toNat] := List.getElem?_eq_getElem hlt
  simp [tapB]
  (repeat' (first | contradiction | exact .of (by kernel_rfl) | refine And.intro ?_ ?_ | intro _ | (refine agrd_cases (fun h => ?_) (fun h => ?_) <;> (have h' := h; (try simp at h'); first | done | simp [h, h'] | simp))))
  refine acallT_plain (t_values k) (by simp [V.a]) ?_
  simp
  (repeat' (first | contradiction | exact .of (by kernel_rfl) | refine And.intro ?_ ?_ | intro _ | (refine agrd_cases (fun h => ?_) (fun h => ?_) <;> (have h' := h; (try simp at h'); first | done | simp [h, h'] | simp))))
  refine acallT_hand [1000000] ht (by simp) (by simp) (by simp) (by simp [tapB]) (by simp) ?_
  simp [tapB, hg, hn.1, V.c]
  (repeat' (first | contradiction | exact .of (by kernel_rfl) | refine And.intro ?_ ?_ | intro _ | (refine agrd_cases (fun h => ?_) (fun h => ?_) <;> (have h' := h; (try simp at h'); first | done | simp [h, h'] | simp))))
  all_goals simp [valV, hg, V.a]
end Go.Proofs.Tryd
/- Types, rows and leaves that are made. -/
namespace Go.Proofs.Tryd
open Go.Ab

def ints (l : List Int) : List (List D) := l.map fun n => [.int .i64 n]
def idxG (k : Int) : Nat → List Int → List Int
  | _, [] => []
  | i, t :: ts => if t = k then (i : Int) :: idxG k (i + 1) ts else idxG k (i + 1) ts
theorem idxG_app (k : Int) : ∀ (i : Nat) (a b : List Int), idxG k i (a ++ b) = idxG k i a ++ idxG k (i + a.length) b
  | i, [], b => by simp [idxG]
  | i, t :: a, b => by
    simp only [List.cons_append, idxG, idxG_app k (i + 1) a b, List.length_cons]
    rw [show i + 1 + a.length = i + (a.length + 1) from by omega]
    split <;> rfl
theorem idxG_len (k : Int) : ∀ (i : Nat) (ts : List Int), (idxG k i ts).length ≤ ts.length
  | _, [] => Nat.le_refl _
  | i, t :: ts => by
    have := idxG_len k (i + 1) ts
    simp only [idxG]
    split <;> simp <;> omega
def pkF (L : List Int) (i : Nat) (k : Int) (ts : List Int) : Nat × List Int → St
  | (j, []) => { s := mkS [(0, .ptr 1000000 0 0), (1, .d (.sl (ints ts))), (2, .d (.int .i64 k)), (6, .ptr 6 0 0), (7, .nils), (8, .d (.int .i64 j))], b := mkB [(1000000, 1000000, tapB L i), (6, 6, .var [.d (.int .i64 0), .d (.int .i64 0), .d (.int .i64 0), .d (.str []), .d (.int .i64 0), .nils])] }
  | (j, x :: xs) => { s := mkS [(0, .ptr 1000000 0 0), (1, .d (.sl (ints ts))), (2, .d (.int .i64 k)), (6, .ptr 6 0 0), (7, .ref 900 0 (xs.length + 1) 1), (8, .d (.int .i64 j))], b := mkB [(1000000, 1000000, tapB L i), (6, 6, .var [.d (.int .i64 0), .d (.int .i64 0), .d (.int .i64 0), .d (.str []), .d (.int .i64 0), .nils]), (900, 900, .arr 3 1 (ints (x :: xs)) false)] }
def pickG (L : List Int) (ts : List Int) (k : Int) (i : Nat) : Ex × Nat :=
  let l := idxG k 0 ts
  let n := nextV L i (l.length + 2)
  if n < l.length then (.mk 5 0 0 [] ((l[n.toNat]?).getD 0) [], i + 1) else (constOf (valV L (i + 1) k) k, i + 2)
theorem t_pick (L : List Int) (i : Nat) (hi : i ≤ 1000000) (ts : List Int) (hts : ts.length ≤ 1000) (k : Int) :
    Cf En 59 [.ptr 1000000 0 0, .d (.sl (ints ts)), .d (.int .i64 k)] [tapB L i] (pickG L ts k i).1.a [tapB L (pickG L ts k i).2] := by
  refine cf_intro mix (fn := Tryd.f59) (by kernel_rfl) rfl (by kernel_rfl) (by decide) (by simp) ?_
  simp [tapB, ints]
  (repeat' (first | contradiction | exact .of (by kernel_rfl) | refine And.intro ?_ ?_ | intro _ | (refine agrd_cases (fun h => ?_) (fun h => ?_) <;> (have h' := h; (try simp at h'); first | done | simp [h, h'] | simp))))
  refine aloopT mix (by decide) (pkF L i k ts) (fun p => p.1 ≤ ts.length ∧ p.2 = idxG k 0 (ts.take p.1)) (fun p => ts.length - p.1) (0, []) (by simp [idxG]) (sub_mk [(0, _), (1, _), (2, _), (6, _), (7, _), (8, _)] [(1000000, 1000000, _), (6, 6, _)] ⟨by simp, by simp, by simp [renOf, Blk.live, tapB], base1⟩ (by simp [renOf, ints])) ?_
  rintro ⟨j, acc⟩ ⟨hj, hacc⟩
  simp only at hj hacc
  by_cases hlt : j < ts.length
  · have hg : ts[j]? = some ts[j] := List.getElem?_eq_getElem hlt
    have htk : ts.take (j + 1) = ts.take j ++ [ts[j]] := by rw [List.take_add_one, hg]; rfl
    have hr : idxG k 0 (ts.take (j + 1)) = acc ++ if ts[j] = k then [(j : Int)] else [] := by
      rw [htk, idxG_app, ← hacc]
      simp only [idxG, List.length_take, Nat.zero_add, show min j ts.length = j from by omega]
    have hlen : acc.length ≤ 1000 := by
      rw [hacc]
      have := idxG_len k 0 (ts.take j)
      have := List.length_take (i := j) (l := ts)
      omega
    have hlt' : (j : Int) < ts.length := by omega
    cases acc with
    | nil =>
      by_cases hk : ts[j] = k
      · simp [pkF, tapB, hlt', hlt, ints, hg, hk]
        (repeat' (first | contradiction | exact .of (by kernel_rfl) | refine And.intro ?_ ?_ | intro _ | (refine agrd_cases (fun h => ?_) (fun h => ?_) <;> (have h' := h; (try simp at h'); first | done | simp [h, h'] | simp))))
        refine ⟨(j + 1, [(j : Int)]), ⟨by simp; omega, by simp [hr, hk]⟩, ?_, ?_⟩
        · refine sub_mk [(0, _), (1, _), (2, _), (6, _), (7, _), (8, _)] [(1000000, 1000000, _), (6, 6, _), (900, 25, _)] ⟨by simp, by simp, ?_, base1⟩ ?_
          · simp [renOf, Blk.live, tapB, ints]
          · simp [renOf, ints]
            exact wrap_in (by omega) (by omega)
        · simp; omega
      · simp [pkF, tapB, hlt', hlt, ints, hg, hk]
        (repeat' (first | contradiction | exact .of (by kernel_rfl) | refine And.intro ?_ ?_ | intro _ | (refine agrd_cases (fun h => ?_) (fun h => ?_) <;> (have h' := h; (try simp at h'); first | done | simp [h, h'] | simp))))
        refine ⟨(j + 1, []), ⟨by simp; omega, by simp [hr, hk]⟩, ?_, ?_⟩
        · refine sub_mk [(0, _), (1, _), (2, _), (6, _), (7, _), (8, _)] [(1000000, 1000000, _), (6, 6, _)] ⟨by simp, by simp, ?_, base1⟩ ?_
          · simp [renOf, Blk.live, tapB, ints]
          · simp [renOf, ints]
            exact wrap_in (by omega) (by omega)
        · simp; omega
    | cons x xs =>
      have hl2 : xs.length ≤ 1000 := by simp at hlen; omega
      have s1 : (xs.length + 1 + 1) * 8 ≤ 140737488355328 := by omega
      have s2 : xs.length ≤ 9223372036854775805 := by omega
      by_cases hk : ts[j] = k
      · simp [pkF, tapB, hlt', hlt, ints, hg, hk, s1, s2]
        (repeat' (first | contradiction | exact .of (by kernel_rfl) | refine And.intro ?_ ?_ | intro _ | (refine agrd_cases (fun h => ?_) (fun h => ?_) <;> (have h' := h; (try simp at h'); first | done | simp [h, h'] | simp))))
        refine ⟨(j + 1, x :: xs ++ [(j : Int)]), ⟨by simp; omega, by simp [hr, hk]⟩, ?_, ?_⟩
        · refine sub_mk [(0, _), (1, _), (2, _), (6, _), (7, _), (8, _)] [(1000000, 1000000, _), (6, 6, _), (900, 25, _)] ⟨by simp, by simp, ?_, base1⟩ ?_
          · simp [renOf, Blk.live, tapB, ints]
          · simp [renOf, ints]
            exact wrap_in (by omega) (by omega)
        · simp; omega
      · simp [pkF, tapB, hlt', hlt, ints, hg, hk]
        (repeat' (first | contradiction | exact .of (by kernel_rfl) | refine And.intro ?_ ?_ | intro _ | (refine agrd_cases (fun h => ?_) (fun h => ?_) <;> (have h' := h; (try simp at h'); first | done | simp [h, h'] | simp))))
        refine ⟨(j + 1, x :: xs), ⟨by simp; omega, by simp [hr, hk]⟩, ?_, ?_⟩
        · refine sub_mk [(0, _), (1, _), (2, _), (6, _), (7, _), (8, _)] [(1000000, 1000000, _), (6, 6, _), (900, 900, _)] ⟨by simp, by simp, ?_, base1⟩ ?_
          · simp [renOf, Blk.live, tapB, ints]
          · simp [renOf, ints]
            exact wrap_in (by omega) (by omega)
        · simp; omega
  · have hjm : j = ts.length := by omega
    subst hjm
    rw [List.take_length] at hacc
    have hge : ¬ (ts.length : Int) < ts.length := by omega
    have hal := idxG_len k 0 ts
    rw [← hacc] at hal
    have hpk : pickG L ts k i = if nextV L i (acc.length + 2) < acc.length then (.mk 5 0 0 [] ((acc[(nextV L i (acc.length + 2)).toNat]?).getD 0) [], i + 1) else (constOf (valV L (i + 1) k) k, i + 2) := by unfold pickG; rw [← hacc]
    have hn := nextV_in L i (n := acc.length + 2) (by omega)
    have ht := t_next L i (by omega) (acc.length + 2) (by omega)
    rw [show nextI i (acc.length + 2) = i + 1 from by simp [nextI]; omega] at ht
    have hv := t_value L (i + 1) (by omega) k
    have hw := wrap_in (n := (acc.length : Int) + 2) (by omega) (by omega)
    rw [hpk]
    generalize hnn : nextV L i (acc.length + 2) = n at *
    cases acc with
    | nil =>
      simp at ht hw
      have h0 : ¬ n < 0 := by omega
      rw [if_neg (by simpa using h0)]
      simp [pkF, tapB, ints, hw]
      (repeat' (first | contradiction | exact .of (by kernel_rfl) | refine And.intro ?_ ?_ | intro _ | (refine agrd_cases (fun h => ?_) (fun h => ?_) <;> (have h' := h; (try simp at h'); first | done | simp [h, h'] | simp))))
      refine acallT_hand [1000000] ht (by simp) (by simp) (by simp) (by simp [tapB]) (by simp) ?_
      simp [tapB, h0]
      (repeat' (first | contradiction | exact .of (by kernel_rfl) | refine And.intro ?_ ?_ | intro _ | (refine agrd_cases (fun h => ?_) (fun h => ?_) <;> (have h' := h; (try simp at h'); first | done | simp [h, h'] | simp))))
      refine acallT_hand [1000000] hv (by simp) (by simp) (by simp) (by simp [tapB]) (by simp) ?_
      simp [tapB, V.a]
      refine acallT_plain (r_const (valV L (i + 1) k) k) (by simp [V.a]) ?_
      simp [Ex.a, Ex.ctake, Ex.clen]
      (repeat' (first | contradiction | exact .of (by kernel_rfl) | refine And.intro ?_ ?_ | intro _ | (refine agrd_cases (fun h => ?_) (fun h => ?_) <;> (have h' := h; (try simp at h'); first | done | simp [h, h'] | simp))))
      all_goals omega
    | cons x xs =>
      simp at ht hw
      by_cases hc : n < (xs.length : Int) + 1
      · have hgn : (x :: xs)[n.toNat]? = some ((x :: xs)[n.toNat]'(by simp only [List.length_cons]; omega)) := List.getElem?_eq_getElem _
        have h0 : 0 ≤ n := by omega
        have h1 : n.toNat < xs.length + 1 := by omega
        rw [if_pos (by simpa using hc)]
        simp [pkF, tapB, ints, hw]
        (repeat' (first | contradiction | exact .of (by kernel_rfl) | refine And.intro ?_ ?_ | intro _ | (refine agrd_cases (fun h => ?_) (fun h => ?_) <;> (have h' := h; (try simp at h'); first | done | simp [h, h'] | simp))))
        refine acallT_hand [1000000] ht (by simp) (by simp) (by simp) (by simp [tapB]) (by simp) ?_
        simp [tapB, h0, hc]
        (repeat' (first | contradiction | exact .of (by kernel_rfl) | refine And.intro ?_ ?_ | intro _ | (refine agrd_cases (fun h => ?_) (fun h => ?_) <;> (have h' := h; (try simp at h'); first | done | simp [h, h'] | simp))))
        have hgm : ([D.int .i64 x] :: List.map (fun n => [D.int .i64 n]) xs)[n.toNat]'(by simp; omega) = [D.int .i64 (((x :: xs)[n.toNat]?).getD 0)] := by
          have := List.getElem_map (f := fun n => [D.int .i64 n]) (l := x :: xs) (i := n.toNat) (h := by simp; omega)
          rw [hgn, Option.getD_some]
          exact this
        simp [hgm]
        (repeat' (first | contradiction | exact .of (by kernel_rfl) | refine And.intro ?_ ?_ | intro _ | (refine agrd_cases (fun h => ?_) (fun h => ?_) <;> (have h' := h; (try simp at h'); first | done | simp [h, h'] | simp))))
        all_goals rfl
      · rw [if_neg (by simpa using hc)]
        simp [pkF, tapB, ints, hw]
        (repeat' (first | contradiction | exact .of (by kernel_rfl) | refine And.intro ?_ ?_ | intro _ | (refine agrd_cases (fun h => ?_) (fun h => ?_) <;> (have h' := h; (try simp at h'); first | done | simp [h, h'] | simp))))
        refine acallT_hand [1000000] ht (by simp) (by simp) (by simp) (by simp [tapB]) (by simp) ?_
        simp [tapB, hc]
        (repeat' (first | contradiction | exact .of (by kernel_rfl) | refine And.intro ?_ ?_ | intro _ | (refine agrd_cases (fun h => ?_) (fun h => ?_) <;> (have h' := h; (try simp at h'); first | done | simp [h, h'] | simp))))
        refine acallT_hand [1000000] hv (by simp) (by simp) (by simp) (by simp [tapB]) (by simp) ?_
        simp [tapB, V.a]
        refine acallT_plain (r_const (valV L (i + 1) k) k) (by simp [V.a]) ?_
        simp [Ex.a, Ex.ctake, Ex.clen]
        (repeat' (first | contradiction | exact .of (by kernel_rfl) | refine And.intro ?_ ?_ | intro _ | (refine agrd_cases (fun h => ?_) (fun h => ?_) <;> (have h' := h; (try simp at h'); first | done | simp [h, h'] | simp))))
        all_goals omega
end Go.Proofs.Tryd
/- Which types fit; which fields are clean. Printed by genx.py. -/
namespace Go.Proofs.Tryd
open Go.Ab
set_option maxRecDepth 100000
set_option maxHeartbeats 2000000

theorem e_isType (t : Int) : Cf En 121 [.d (.int .i64 t)] [] (.d (.bool (t == 1 || (t == 2 || t == 3)))) [] := by
  refine cf_intro mix (fn := Tryd.f121) (by kernel_rfl) rfl (by kernel_rfl) (by decide) (by simp) ?_
  simp
  (repeat' (first | contradiction | exact .of (by kernel_rfl) | refine And.intro ?_ ?_ | intro _ | (refine agrd_cases (fun h => ?_) (fun h => ?_) <;> (have h' := h; (try simp at h'); first | done | simp [h, h'] | simp))))
  all_goals simp_all

/-! fit -/
theorem f_one (x t : Int) : Cf En 145 [.d (.int .i64 x), .ptr 1000000 0 0] [.var [.d (.int .i64 t)]] (.d (.bool (x != t))) [.var [.d (.int .i64 t)]] := by
  refine cf_intro mix (fn := Tryd.f145) (by kernel_rfl) rfl (by kernel_rfl) (by decide) (by simp) ?_
  simp
  (repeat' (first | contradiction | exact .of (by kernel_rfl) | refine And.intro ?_ ?_ | intro _ | (refine agrd_cases (fun h => ?_) (fun h => ?_) <;> (have h' := h; (try simp at h'); first | done | simp [h, h'] | simp))))
def idxNe (t : Int) (l : List Int) : Int := match l.findIdx? (fun x => x != t) with
  | some i => i
  | none => -1
theorem f_index (l : List Int) (hl : l.length ≤ 1000) (t : Int) : Cf En 159 [.d (.sl (ints l)), .clo 145 [.ptr 1000000 0 0]] [.var [.d (.int .i64 t)]] (.d (.int .i64 (idxNe t l))) [.var [.d (.int .i64 t)]] := by
  refine cf_intro mix (fn := Tryd.f159) (by kernel_rfl) rfl (by kernel_rfl) (by decide) (by simp) ?_
  simp [ints]
  (repeat' (first | contradiction | exact .of (by kernel_rfl) | refine And.intro ?_ ?_ | intro _ | (refine agrd_cases (fun h => ?_) (fun h => ?_) <;> (have h' := h; (try simp at h'); first | done | simp [h, h'] | simp))))
  refine aloopT mix (by decide) (fun i : Nat => { s := mkS [(0, .d (.sl (ints l))), (1, .clo 145 [.ptr 1000000 0 0]), (7, .d (.int .i64 l.length)), (8, .d (.int .i64 i))], b := mkB [(1000000, 1000000, .var [.d (.int .i64 t)])] }) (fun i : Nat => i ≤ l.length ∧ ∀ j (h : j < l.length), j < i → l[j] = t) (fun i => l.length - i) 0 (by simp) (sub_mk _ [(1000000, 1000000, _)] ⟨by simp, by simp, by simp [renOf, Blk.live], base1⟩ (by simp [renOf, ints])) ?_
  rintro i ⟨hi, ho⟩
  by_cases hlt : i < l.length
  · have hlt' : (i : Int) < l.length := by omega
    have hg : l[i]? = some l[i] := List.getElem?_eq_getElem hlt
    simp [hlt, hlt', ints, hg]
    (repeat' (first | contradiction | exact .of (by kernel_rfl) | refine And.intro ?_ ?_ | intro _ | (refine agrd_cases (fun h => ?_) (fun h => ?_) <;> (have h' := h; (try simp at h'); first | done | simp [h, h'] | simp))))
    refine acallT_hand [1000000] (f_one l[i] t) (by simp) (by simp) (by simp) (by simp) (by simp) ?_
    by_cases hx : l[i] = t
    · simp [hx]
      (repeat' (first | contradiction | exact .of (by kernel_rfl) | refine And.intro ?_ ?_ | intro _ | (refine agrd_cases (fun h => ?_) (fun h => ?_) <;> (have h' := h; (try simp at h'); first | done | simp [h, h'] | simp))))
      refine ⟨i + 1, ⟨hlt, ?_⟩, ?_, ?_⟩
      · intro j hj hji
        rcases Nat.lt_or_ge j i with c | c
        · exact ho j hj c
        · have : j = i := by omega
          subst this; exact hx
      · refine sub_mk _ [(1000000, 1000000, _)] ⟨by simp, by simp, by simp [renOf, Blk.live], base1⟩ ?_
        simp [renOf, ints]
        exact wrap_in (by omega) (by omega)
      · simp; omega
    · have hf : idxNe t l = i := by
        unfold idxNe
        have : l.findIdx? (fun x => x != t) = some i := by
          rw [List.findIdx?_eq_some_iff_getElem]
          exact ⟨hlt, by simp [hx], fun j hj => by simp [ho j (by omega) hj]⟩
        rw [this]
      simp [hx, hf]
      (repeat' (first | contradiction | exact .of (by kernel_rfl) | refine And.intro ?_ ?_ | intro _ | (refine agrd_cases (fun h => ?_) (fun h => ?_) <;> (have h' := h; (try simp at h'); first | done | simp [h, h'] | simp))))
  · have hf : idxNe t l = -1 := by
      unfold idxNe
      have : l.findIdx? (fun x => x != t) = none := by
        rw [List.findIdx?_eq_none_iff]
        intro x hx
        obtain ⟨j, hj, rfl⟩ := List.getElem_of_mem hx
        simp [ho j hj (by omega)]
      rw [this]
    simp [hlt, hf]
    (repeat' (first | contradiction | exact .of (by kernel_rfl) | refine And.intro ?_ ?_ | intro _ | (refine agrd_cases (fun h => ?_) (fun h => ?_) <;> (have h' := h; (try simp at h'); first | done | simp [h, h'] | simp))))
theorem idxNe_all (t : Int) (l : List Int) : decide (idxNe t l ≥ 0) = !l.all (· == t) := by
  unfold idxNe
  cases h : l.findIdx? (fun x => x != t) with
  | none =>
    rw [List.findIdx?_eq_none_iff] at h
    have : l.all (· == t) = true := by rw [List.all_eq_true]; intro x hx; have := h x hx; simpa using this
    simp [this]
  | some i =>
    rw [List.findIdx?_eq_some_iff_getElem] at h
    obtain ⟨hi, h, _⟩ := h
    have : l.all (· == t) = false := by
      rw [List.all_eq_false]
      exact ⟨l[i], List.getElem_mem hi, by simpa using h⟩
    simp [this]
theorem f_contains (l : List Int) (hl : l.length ≤ 1000) (t : Int) : Cf En 144 [.d (.sl (ints l)), .clo 145 [.ptr 1000000 0 0]] [.var [.d (.int .i64 t)]] (.d (.bool (!l.all (· == t)))) [.var [.d (.int .i64 t)]] := by
  refine cf_intro mix (fn := Tryd.f144) (by kernel_rfl) rfl (by kernel_rfl) (by decide) (by simp) ?_
  simp
  (repeat' (first | contradiction | exact .of (by kernel_rfl) | refine And.intro ?_ ?_ | intro _ | (refine agrd_cases (fun h => ?_) (fun h => ?_) <;> (have h' := h; (try simp at h'); first | done | simp [h, h'] | simp))))
  refine acallT_hand [1000000] (f_index l hl t) (by simp) (by simp) (by simp) (by simp) (by simp) ?_
  have := idxNe_all t l
  simp at this
  simp
  (repeat' (first | contradiction | exact .of (by kernel_rfl) | refine And.intro ?_ ?_ | intro _ | (refine agrd_cases (fun h => ?_) (fun h => ?_) <;> (have h' := h; (try simp at h'); first | done | simp [h, h'] | simp))))
  all_goals simpa using this
theorem f_every (l : List Int) (hl : l.length ≤ 1000) (t : Int) : Cf En 143 [.d (.int .i64 t), .d (.sl (ints l))] [] (.d (.bool (l.all (· == t)))) [] := by
  refine cf_intro mix (fn := Tryd.f143) (by kernel_rfl) rfl (by kernel_rfl) (by decide) (by simp) ?_
  simp
  (repeat' (first | contradiction | exact .of (by kernel_rfl) | refine And.intro ?_ ?_ | intro _ | (refine agrd_cases (fun h => ?_) (fun h => ?_) <;> (have h' := h; (try simp at h'); first | done | simp [h, h'] | simp))))
  refine acallT_hand [2] (f_contains l hl t) (by simp) (by simp) (by simp) (by simp) (by simp) ?_
  simp
  (repeat' (first | contradiction | exact .of (by kernel_rfl) | refine And.intro ?_ ?_ | intro _ | (refine agrd_cases (fun h => ?_) (fun h => ?_) <;> (have h' := h; (try simp at h'); first | done | simp [h, h'] | simp))))
def fitOk (ty : Int) (l : List Int) : Bool :=
  if ty = 1 then l.all (· == 1) else if ty = 2 then l.all (· == 3) else if ty = 3 then l.all (· == 2)
  else if ty = 4 then l.all (· == (l[0]?).getD 0) else if ty = 6 then (l[0]?).getD 0 == 2 && (l[1]?).getD 0 == (l[2]?).getD 0 else true
theorem e_fit (w : List UInt8) (k ty own : Int) (l : List Int) (hl : l.length ≤ 1000) (h4 : ty = 4 → 1 ≤ l.length) (h6 : ty = 6 → l.length = 3) :
    Cf En 122 [.agg [.d (.str w), .d (.int .i64 k), .d (.int .i64 ty), .d (.int .i64 own)], .d (.sl (ints l))] [] (.d (.bool (fitOk ty l))) [] := by
  refine cf_intro mix (fn := Tryd.f122) (by kernel_rfl) rfl (by kernel_rfl) (by decide) (by simp) ?_
  by_cases t1 : ty = 1
  · subst t1
    simp [fitOk]
    (repeat' (first | contradiction | exact .of (by kernel_rfl) | refine And.intro ?_ ?_ | intro _ | (refine agrd_cases (fun h => ?_) (fun h => ?_) <;> (have h' := h; (try simp at h'); first | done | simp [h, h'] | simp))))
    refine acallT_plain (f_every l hl 1) (by simp [V.a]) ?_
    simp
    (repeat' (first | contradiction | exact .of (by kernel_rfl) | refine And.intro ?_ ?_ | intro _ | (refine agrd_cases (fun h => ?_) (fun h => ?_) <;> (have h' := h; (try simp at h'); first | done | simp [h, h'] | simp))))
  by_cases t2 : ty = 2
  · subst t2
    simp [fitOk]
    (repeat' (first | contradiction | exact .of (by kernel_rfl) | refine And.intro ?_ ?_ | intro _ | (refine agrd_cases (fun h => ?_) (fun h => ?_) <;> (have h' := h; (try simp at h'); first | done | simp [h, h'] | simp))))
    refine acallT_plain (f_every l hl 3) (by simp [V.a]) ?_
    simp
    (repeat' (first | contradiction | exact .of (by kernel_rfl) | refine And.intro ?_ ?_ | intro _ | (refine agrd_cases (fun h => ?_) (fun h => ?_) <;> (have h' := h; (try simp at h'); first | done | simp [h, h'] | simp))))
  by_cases t3 : ty = 3
  · subst t3
    simp [fitOk]
    (repeat' (first | contradiction | exact .of (by kernel_rfl) | refine And.intro ?_ ?_ | intro _ | (refine agrd_cases (fun h => ?_) (fun h => ?_) <;> (have h' := h; (try simp at h'); first | done | simp [h, h'] | simp))))
    refine acallT_plain (f_every l hl 2) (by simp [V.a]) ?_
    simp
    (repeat' (first | contradiction | exact .of (by kernel_rfl) | refine And.intro ?_ ?_ | intro _ | (refine agrd_cases (fun h => ?_) (fun h => ?_) <;> (have h' := h; (try simp at h'); first | done | simp [h, h'] | simp))))
  by_cases t4 : ty = 4
  · subst t4
    have hg : l[0]? = some (l[0]'(by have := h4 rfl; omega)) := List.getElem?_eq_getElem _
    simp [fitOk, ints, hg]
    (repeat' (first | contradiction | exact .of (by kernel_rfl) | refine And.intro ?_ ?_ | intro _ | (refine agrd_cases (fun h => ?_) (fun h => ?_) <;> (have h' := h; (try simp at h'); first | done | simp [h, h'] | simp))))
    refine acallT_plain (f_every l hl ((l[0]?).getD 0)) (by simp [ints, hg]) ?_
    simp [hg]
    (repeat' (first | contradiction | exact .of (by kernel_rfl) | refine And.intro ?_ ?_ | intro _ | (refine agrd_cases (fun h => ?_) (fun h => ?_) <;> (have h' := h; (try simp at h'); first | done | simp [h, h'] | simp))))
  by_cases t6 : ty = 6
  · subst t6
    obtain ⟨a, b, c, rfl⟩ : ∃ a b c, l = [a, b, c] := by
      match l, h6 rfl with
      | [a, b, c], _ => exact ⟨a, b, c, rfl⟩
    simp [fitOk, ints]
    (repeat' (first | contradiction | exact .of (by kernel_rfl) | refine And.intro ?_ ?_ | intro _ | (refine agrd_cases (fun h => ?_) (fun h => ?_) <;> (have h' := h; (try simp at h'); first | done | simp [h, h'] | simp))))
    all_goals simp_all
  simp [fitOk, t1, t2, t3, t4, t6]
  (repeat' (first | contradiction | exact .of (by kernel_rfl) | refine And.intro ?_ ?_ | intro _ | (refine agrd_cases (fun h => ?_) (fun h => ?_) <;> (have h' := h; (try simp at h'); first | done | simp [h, h', t1, t2, t3, t4, t6] | simp [t1, t2, t3, t4, t6]))))
/-! clean -/
theorem cl_node (o : Int) (ks : List Ex) (h1 : o ≠ 1) (h2 : o ≠ 2) (h3 : o ≠ 3) (h4 : o ≠ 4) (h5 : o ≠ 5) : Cf En 120 [(Ex.mk o 0 0 [] 0 ks).a] [] (.d (.bool true)) [] := by
  refine cf_intro mix (fn := Tryd.f120) (by kernel_rfl) rfl (by kernel_rfl) (by decide) (by simp) ?_
  simp [Ex.a, Ex.c, kidsC_map, h1, h2, h3, h4, h5]
  (repeat' (first | contradiction | exact .of (by kernel_rfl) | refine And.intro ?_ ?_ | intro _ | (refine agrd_cases (fun h => ?_) (fun h => ?_) <;> (have h' := h; (try simp at h'); first | done | simp [h, h'] | simp))))
theorem cl_col (g : Int) : Cf En 120 [(Ex.mk 5 0 0 [] g []).a] [] (.d (.bool true)) [] := by
  refine cf_intro mix (fn := Tryd.f120) (by kernel_rfl) rfl (by kernel_rfl) (by decide) (by simp) ?_
  simp [Ex.a, Ex.c, kidsC_map]
  (repeat' (first | contradiction | exact .of (by kernel_rfl) | refine And.intro ?_ ?_ | intro _ | (refine agrd_cases (fun h => ?_) (fun h => ?_) <;> (have h' := h; (try simp at h'); first | done | simp [h, h'] | simp))))
theorem cl_null (c : Int) (h : 1 ≤ c ∧ c ≤ 3) : Cf En 120 [(Ex.mk 1 c 0 [] 0 []).a] [] (.d (.bool true)) [] := by
  refine cf_intro mix (fn := Tryd.f120) (by kernel_rfl) rfl (by kernel_rfl) (by decide) (by simp) ?_
  simp [Ex.a, Ex.c, kidsC_map]
  (repeat' (first | contradiction | exact .of (by kernel_rfl) | refine And.intro ?_ ?_ | intro _ | (refine agrd_cases (fun h => ?_) (fun h => ?_) <;> (have h' := h; (try simp at h'); first | done | simp [h, h'] | simp))))
  refine acallT_plain (e_isType c) (by simp [V.a]) ?_
  have hc : (c == 1 || (c == 2 || c == 3)) = true := by simp; omega
  simp [hc]
  (repeat' (first | contradiction | exact .of (by kernel_rfl) | refine And.intro ?_ ?_ | intro _ | (refine agrd_cases (fun h => ?_) (fun h => ?_) <;> (have h' := h; (try simp at h'); first | done | simp [h, h'] | simp))))
theorem cl_int (n : Int) (h : V.valid ⟨1, n, []⟩ = true) : Cf En 120 [(Ex.mk 2 0 n [] 0 []).a] [] (.d (.bool true)) [] := by
  refine cf_intro mix (fn := Tryd.f120) (by kernel_rfl) rfl (by kernel_rfl) (by decide) (by simp) ?_
  simp [Ex.a, Ex.c, kidsC_map]
  (repeat' (first | contradiction | exact .of (by kernel_rfl) | refine And.intro ?_ ?_ | intro _ | (refine agrd_cases (fun h => ?_) (fun h => ?_) <;> (have h' := h; (try simp at h'); first | done | simp [h, h'] | simp))))
  refine acallT_plain (v_valid ⟨1, n, []⟩) (by simp [V.a]) ?_
  simp [h]
  (repeat' (first | contradiction | exact .of (by kernel_rfl) | refine And.intro ?_ ?_ | intro _ | (refine agrd_cases (fun h => ?_) (fun h => ?_) <;> (have h' := h; (try simp at h'); first | done | simp [h, h'] | simp))))
theorem cl_bool (n : Int) (h : V.valid ⟨2, n, []⟩ = true) : Cf En 120 [(Ex.mk 3 0 n [] 0 []).a] [] (.d (.bool true)) [] := by
  refine cf_intro mix (fn := Tryd.f120) (by kernel_rfl) rfl (by kernel_rfl) (by decide) (by simp) ?_
  simp [Ex.a, Ex.c, kidsC_map]
  (repeat' (first | contradiction | exact .of (by kernel_rfl) | refine And.intro ?_ ?_ | intro _ | (refine agrd_cases (fun h => ?_) (fun h => ?_) <;> (have h' := h; (try simp at h'); first | done | simp [h, h'] | simp))))
  refine acallT_plain (v_valid ⟨2, n, []⟩) (by simp [V.a]) ?_
  simp [h]
  (repeat' (first | contradiction | exact .of (by kernel_rfl) | refine And.intro ?_ ?_ | intro _ | (refine agrd_cases (fun h => ?_) (fun h => ?_) <;> (have h' := h; (try simp at h'); first | done | simp [h, h'] | simp))))
theorem cl_text (t : List UInt8) (h : V.valid ⟨3, 0, t⟩ = true) : Cf En 120 [(Ex.mk 4 0 0 t 0 []).a] [] (.d (.bool true)) [] := by
  refine cf_intro mix (fn := Tryd.f120) (by kernel_rfl) rfl (by kernel_rfl) (by decide) (by simp) ?_
  simp [Ex.a, Ex.c, kidsC_map]
  (repeat' (first | contradiction | exact .of (by kernel_rfl) | refine And.intro ?_ ?_ | intro _ | (refine agrd_cases (fun h => ?_) (fun h => ?_) <;> (have h' := h; (try simp at h'); first | done | simp [h, h'] | simp))))
  refine acallT_plain (v_valid ⟨3, 0, t⟩) (by simp [V.a]) ?_
  simp [h]
  (repeat' (first | contradiction | exact .of (by kernel_rfl) | refine And.intro ?_ ?_ | intro _ | (refine agrd_cases (fun h => ?_) (fun h => ?_) <;> (have h' := h; (try simp at h'); first | done | simp [h, h'] | simp))))

end Go.Proofs.Tryd
/- How many operands a term has to have. -/
namespace Go.Proofs.Tryd
open Go.Ab
set_option maxRecDepth 100000
set_option maxHeartbeats 1000000

def cntOk (o n : Int) (k : Nat) : Bool :=
  if isSop o = true then k == 2
  else if o = 28 then decide (1 < k)
  else if o = 41 ∧ n = 1 then k == 0
  else if o = 41 then k == 1
  else (kidsN o).2 && (k : Int) == (kidsN o).1
theorem s_counted (o y n : Int) (t q : List UInt8) (ks : List Tm) : Cf Es 85 [(Tm.mk o y n t q ks).a] [] (.d (.bool (cntOk o n ks.length))) [] := by
  refine cf_intro mixs (fn := Tryd.f85) (by kernel_rfl) rfl (by kernel_rfl) (by decide) (by simp) ?_
  unfold cntOk
  generalize hk : ks.length = k
  simp [Tm.a, Tm.c, tmsC_map]
  refine ⟨.of (by kernel_rfl), ?_⟩
  refine acallT_plain (s_operatorOf o) (by simp) ?_
  simp [sopA, hk]
  (repeat' (first | contradiction | exact .of (by kernel_rfl) | refine And.intro ?_ ?_ | intro _ | (refine agrd_cases (fun h => ?_) (fun h => ?_) <;> (have h' := h; (try simp at h'); first | done | simp [h, h', hk] | simp [hk]))))
  all_goals first | (refine acallT_plain (s_kids o) (by simp) ?_; simp [hk]; (repeat' (first | contradiction | exact .of (by kernel_rfl) | refine And.intro ?_ ?_ | intro _ | (refine agrd_cases (fun h => ?_) (fun h => ?_) <;> (have h' := h; (try simp at h'); first | done | simp [h, h', hk] | simp [hk]))))) | skip
  all_goals simp_all
  all_goals first | (rw [Bool.eq_iff_iff]; simp only [beq_iff_eq]; omega) | omega
/-- The program's conditions, together. -/
def okS (o y n : Int) (t q : List UInt8) : Bool :=
  if o = 1 then (decide (1 ≤ y) && decide (y ≤ 3)) && (n == 0 && (t == [] && q == []))
  else if o = 2 then (V.mk 1 n []).valid && (y == 0 && (t == [] && q == []))
  else if o = 3 then (n == 0 || n == 1) && (y == 0 && (t == [] && q == []))
  else if o = 4 then (V.mk 3 0 t).valid && (y == 0 && (n == 0 && q == []))
  else if o = 40 then (nameOk words t && (q == [] || nameOk words q)) && (y == 0 && n == 0)
  else if o = 41 then (decide (1 ≤ n) && decide (n ≤ 6)) && (y == 0 && (t == [] && q == []))
  else y == 0 && (n == 0 && (t == [] && q == []))
theorem isSop_eq (o : Int) : isSop o = (decide (6 ≤ o) && (decide (o < 24) && !(o == 11 || (o == 13 || o == 21)))) := by
  by_cases h1 : o < 0
  · unfold isSop
    rw [Bool.eq_iff_iff]; simp; omega
  by_cases h2 : 24 ≤ o
  · unfold isSop
    rw [Bool.eq_iff_iff]; simp; omega
  obtain ⟨n, rfl⟩ : ∃ n : Nat, o = n := ⟨o.toNat, by omega⟩
  rw [isSop_iff n (by omega), Bool.eq_iff_iff]
  simp
  omega
theorem cnt_arity (o n : Int) (k : Nat) (h1 : o ≠ 1) (h2 : o ≠ 2) (h3 : o ≠ 3) (h4 : o ≠ 4) (h5 : o ≠ 40) (h6 : o ≠ 41) : cntOk o n k = arity o k := by
  unfold cntOk
  rw [isSop_eq]
  have e1 : ((k : Int) == 1) = (k == 1) := by rw [Bool.eq_iff_iff]; simp only [beq_iff_eq]; omega
  have e2 : ((k : Int) == 2) = (k == 2) := by rw [Bool.eq_iff_iff]; simp only [beq_iff_eq]; omega
  have e3 : ((k : Int) == 3) = (k == 3) := by rw [Bool.eq_iff_iff]; simp only [beq_iff_eq]; omega
  unfold arity kidsN
  simp only [h1, h2, h3, h4, h5, h6, false_or, false_and, if_false, Bool.and_eq_true, decide_eq_true_eq, Bool.not_eq_true', Bool.or_eq_false_iff, beq_eq_false_iff_ne, ne_eq]
  by_cases c11 : o = 11
  · subst c11; simp [e1]
  by_cases c13 : o = 13
  · subst c13; simp [e1]
  by_cases c21 : o = 21
  · subst c21; simp [e1]
  by_cases c24 : o = 24
  · subst c24; simp [e1]
  by_cases c25 : o = 25
  · subst c25; simp [e1]
  by_cases c26 : o = 26
  · subst c26; simp [e3]
  by_cases c27 : o = 27
  · subst c27; simp [e2]
  by_cases c28 : o = 28
  · subst c28
    simp
    omega
  by_cases c6 : 6 ≤ o
  · by_cases c24' : o < 24
    · have : o ≤ 28 := by omega
      simp [c11, c13, c21, c24, c25, c26, c27, c28, c6, c24', this]
    · have : ¬ o ≤ 28 := by omega
      simp [c11, c13, c21, c24, c25, c26, c27, c28, c6, c24', this]
  · simp [c11, c13, c21, c24, c25, c26, c27, c28, c6]
theorem okK_eq (o y n : Int) (t q : List UInt8) (k : Nat) : okK o y n t q k = (cntOk o n k && okS o y n t q) := by
  by_cases h1 : o = 1
  · subst h1
    unfold okK okS cntOk
    rw [isSop_eq]
    simp [kidsN]
    rw [Bool.eq_iff_iff]; simp; grind
  by_cases h2 : o = 2
  · subst h2
    unfold okK okS cntOk
    rw [isSop_eq]
    simp [kidsN]
    rw [Bool.eq_iff_iff]; simp; grind
  by_cases h3 : o = 3
  · subst h3
    unfold okK okS cntOk
    rw [isSop_eq]
    simp [kidsN]
    rw [Bool.eq_iff_iff]; simp; grind
  by_cases h4 : o = 4
  · subst h4
    unfold okK okS cntOk
    rw [isSop_eq]
    simp [kidsN]
    rw [Bool.eq_iff_iff]; simp; grind
  by_cases h5 : o = 40
  · subst h5
    unfold okK okS cntOk
    rw [isSop_eq]
    simp [kidsN]
    rw [Bool.eq_iff_iff]; simp; grind
  by_cases h6 : o = 41
  · subst h6
    unfold okK okS cntOk
    rw [isSop_eq]
    simp
    rw [Bool.eq_iff_iff]
    split <;> simp <;> grind
  rw [cnt_arity o n k h1 h2 h3 h4 h5 h6]
  unfold okK okS
  rw [if_neg h1, if_neg h2, if_neg h3, if_neg h4, if_neg h5, if_neg h6, if_neg h1, if_neg h2, if_neg h3, if_neg h4, if_neg h5, if_neg h6]
end Go.Proofs.Tryd
