import Derived.Test.YtlimkhfjidcelaaDoorKE4
set_option linter.all false
/- Names of a scope: where they stand. -/
namespace Go.Proofs.Tryd
open Go.Ab
set_option maxRecDepth 100000
set_option maxHeartbeats 2000000

def scC (n : List UInt8) : List D := [.str [], .str n]
def kF : List Nat → Int
  | [] => -1
  | k :: _ => k
def atF : List Nat → Int
  | [] => 0
  | k :: _ => k
theorem hits_succ {t : List UInt8} {ns : List (List UInt8)} {i : Nat} {n : List UInt8} (h : ns[i]? = some n) : hitsG t 0 (ns.take (i + 1)) = hitsG t 0 (ns.take i) ++ if n = t then [i] else [] := by
  have hi := (List.getElem?_eq_some_iff.1 h).1
  rw [List.take_add_one, h, hitsG_app]
  simp only [Option.toList, hitsG, List.length_take, Nat.zero_add, show min i ns.length = i from by omega]
theorem hits_two {t : List UInt8} {ns : List (List UInt8)} {i k : Nat} (h : ns[i]? = some t) (hk : hitsG t 0 (ns.take i) = [k]) : placeG (hitsG t 0 ns) = (0, 5) := by
  have hi := (List.getElem?_eq_some_iff.1 h).1
  have h1 := hits_succ (t := t) h
  rw [if_pos rfl, hk] at h1
  have h2 : ns = ns.take (i + 1) ++ ns.drop (i + 1) := (List.take_append_drop _ _).symm
  rw [h2, hitsG_app, h1]
  rfl
theorem b_find (ns : List (List UInt8)) (hl : ns.length ≤ 1000) (q t : List UInt8) (ht : t ≠ []) :
    Cf En 90 [.d (.sl (ns.map scC)), .d (.str q), .d (.str t)] [] (.tup [.d (.int .i64 (lookG ns q t).1), .d (.int .i64 (lookG ns q t).2)]) [] := by
  refine cf_intro mix (fn := Tryd.f90) (by kernel_rfl) rfl (by kernel_rfl) (by decide) (by simp) ?_
  simp
  (repeat' (first | contradiction | exact .of (by kernel_rfl) | refine And.intro ?_ ?_ | intro _ | (refine agrd_cases (fun h => ?_) (fun h => ?_) <;> (have h' := h; (try simp at h'); first | done | simp [h, h'] | simp))))
  by_cases hq : q = []
  · subst hq
    refine aloopT mix (by decide) (fun i : Nat => { s := mkS [(1, .d (.str [])), (2, .d (.str t)), (6, .d (.int .i64 0)), (7, .d (.int .i64 0)), (8, .d (.int .i64 (kF (hitsG t 0 (ns.take i))))), (11, .d (.sl (ns.map scC))), (12, .d (.int .i64 ns.length)), (13, .d (.int .i64 i))], b := mkB [] }) (fun i : Nat => i ≤ ns.length ∧ (hitsG t 0 (ns.take i)).length ≤ 1) (fun i => ns.length - i) 0 (by simp [hitsG]) (sub_mk _ [] .nil (by simp [hitsG, kF])) ?_
    rintro i ⟨hi, ho⟩
    by_cases hlt : i < ns.length
    · have hlt' : (i : Int) < ns.length := by omega
      have hg : ns[i]? = some ns[i] := List.getElem?_eq_getElem hlt
      have hs := hits_succ (t := t) hg
      by_cases hn : ns[i] = t
      · rw [if_pos hn] at hs
        rw [hn] at hg
        match hh : hitsG t 0 (ns.take i), ho with
        | [], _ =>
          rw [hh] at hs
          simp [hlt, hlt', hg, hn, ht, scC, kF]
          (repeat' (first | contradiction | exact .of (by kernel_rfl) | refine And.intro ?_ ?_ | intro _ | (refine agrd_cases (fun h => ?_) (fun h => ?_) <;> (have h' := h; (try simp at h'); first | done | simp [h, h', hlt, hlt', hg, hn, ht, scC, kF] | simp [hlt, hlt', hg, hn, ht, scC, kF]))))
          refine ⟨i + 1, ⟨hlt, by rw [hs]; simp⟩, ?_, ?_⟩
          · refine sub_mk _ [] .nil ?_
            simp [hs, kF]
            exact wrap_in (by omega) (by omega)
          · simp; omega
        | [k], _ =>
          have hk0 : (0 : Int) ≤ (k : Int) := by omega
          have hlk : lookG ns [] t = (0, 5) := by unfold lookG hitQ; rw [if_pos rfl]; exact hits_two hg hh
          simp [hlt, hlt', hg, hn, ht, scC, kF, hk0, hlk]
          (repeat' (first | contradiction | exact .of (by kernel_rfl) | refine And.intro ?_ ?_ | intro _ | (refine agrd_cases (fun h => ?_) (fun h => ?_) <;> (have h' := h; (try simp at h'); first | done | simp [h, h', hlt, hlt', hg, hn, ht, scC, kF, hk0, hlk] | simp [hlt, hlt', hg, hn, ht, scC, kF, hk0, hlk]))))
      · rw [if_neg hn, List.append_nil] at hs
        simp [hlt, hlt', hg, hn, ht, scC]
        (repeat' (first | contradiction | exact .of (by kernel_rfl) | refine And.intro ?_ ?_ | intro _ | (refine agrd_cases (fun h => ?_) (fun h => ?_) <;> (have h' := h; (try simp at h'); first | done | simp [h, h', hlt, hlt', hg, hn, ht, scC] | simp [hlt, hlt', hg, hn, ht, scC]))))
        refine ⟨i + 1, ⟨hlt, by rw [hs]; exact ho⟩, ?_, ?_⟩
        · refine sub_mk _ [] .nil ?_
          simp [hs]
          exact wrap_in (by omega) (by omega)
        · simp; omega
    · have hie : i = ns.length := by omega
      subst hie
      rw [List.take_length] at ho ⊢
      match hh : hitsG t 0 ns, ho with
      | [], _ =>
        have hlk : lookG ns [] t = (0, 3) := by unfold lookG hitQ; rw [if_pos rfl, hh]; rfl
        simp [kF, hlk]
        (repeat' (first | contradiction | exact .of (by kernel_rfl) | refine And.intro ?_ ?_ | intro _ | (refine agrd_cases (fun h => ?_) (fun h => ?_) <;> (have h' := h; (try simp at h'); first | done | simp [h, h'] | simp))))
      | [k], _ =>
        have hk0 : ¬ (k : Int) < 0 := by omega
        have hlk : lookG ns [] t = ((k : Int), 0) := by unfold lookG hitQ; rw [if_pos rfl, hh]; rfl
        simp [kF, hlk, hk0]
        (repeat' (first | contradiction | exact .of (by kernel_rfl) | refine And.intro ?_ ?_ | intro _ | (refine agrd_cases (fun h => ?_) (fun h => ?_) <;> (have h' := h; (try simp at h'); first | done | simp [h, h', hk0] | simp [hk0]))))
  · have hlk : lookG ns q t = (0, 3) := by unfold lookG hitQ; rw [if_neg hq]; rfl
    have hq' : ¬ [] = q := fun h => hq h.symm
    rw [hlk]
    refine aloopT mix (by decide) (fun i : Nat => { s := mkS [(1, .d (.str q)), (2, .d (.str t)), (6, .d (.int .i64 0)), (7, .d (.int .i64 0)), (8, .d (.int .i64 (-1))), (11, .d (.sl (ns.map scC))), (12, .d (.int .i64 ns.length)), (13, .d (.int .i64 i))], b := mkB [] }) (fun i : Nat => i ≤ ns.length) (fun i => ns.length - i) 0 (by simp) (sub_mk _ [] .nil (by simp)) ?_
    intro i hi
    by_cases hlt : i < ns.length
    · have hlt' : (i : Int) < ns.length := by omega
      have hg : ns[i]? = some ns[i] := List.getElem?_eq_getElem hlt
      by_cases hn : ns[i] = t
      · rw [hn] at hg
        simp [hlt, hlt', hg, hn, ht, scC, hq, hq']
        (repeat' (first | contradiction | exact .of (by kernel_rfl) | refine And.intro ?_ ?_ | intro _ | (refine agrd_cases (fun h => ?_) (fun h => ?_) <;> (have h' := h; (try simp at h'); first | done | simp [h, h', hlt, hlt', hg, hn, ht, scC, hq, hq'] | simp [hlt, hlt', hg, hn, ht, scC, hq, hq']))))
        refine ⟨i + 1, hlt, ?_, ?_⟩
        · refine sub_mk _ [] .nil ?_
          simp
          exact wrap_in (by omega) (by omega)
        · simp; omega
      · simp [hlt, hlt', hg, hn, ht, scC]
        (repeat' (first | contradiction | exact .of (by kernel_rfl) | refine And.intro ?_ ?_ | intro _ | (refine agrd_cases (fun h => ?_) (fun h => ?_) <;> (have h' := h; (try simp at h'); first | done | simp [h, h', hlt, hlt', hg, hn, ht, scC] | simp [hlt, hlt', hg, hn, ht, scC]))))
        refine ⟨i + 1, hlt, ?_, ?_⟩
        · refine sub_mk _ [] .nil ?_
          simp
          exact wrap_in (by omega) (by omega)
        · simp; omega
    · have hie : i = ns.length := by omega
      subst hie
      simp
      (repeat' (first | contradiction | exact .of (by kernel_rfl) | refine And.intro ?_ ?_ | intro _ | (refine agrd_cases (fun h => ?_) (fun h => ?_) <;> (have h' := h; (try simp at h'); first | done | simp [h, h'] | simp))))

theorem r_look (ns : List (List UInt8)) (hl : ns.length ≤ 1000) (o y n : Int) (t q : List UInt8) (ks : List Tm) :
    Cf En 94 [.d (.sl (ns.map scC)), (Tm.mk o y n t q ks).a] [] (.tup [.d (.int .i64 (lookG ns q t).1), .d (.int .i64 (lookG ns q t).2)]) [] := by
  refine cf_intro mix (fn := Tryd.f94) (by kernel_rfl) rfl (by kernel_rfl) (by decide) (by simp) ?_
  simp [Tm.a, Tm.c, tmsC_map]
  (repeat' (first | contradiction | exact .of (by kernel_rfl) | refine And.intro ?_ ?_ | intro _ | (refine agrd_cases (fun h => ?_) (fun h => ?_) <;> (have h' := h; (try simp at h'); first | done | simp [h, h'] | simp))))
  by_cases hq : q = []
  · subst hq
    refine aloopT mix (by decide) (fun i : Nat => { s := mkS [(0, .d (.sl (ns.map scC))), (3, .ptr 3 0 0), (4, .d (.int .i64 0)), (5, .d (.int .i64 0)), (6, .d (.int .i64 (atF (hitsG t 0 (ns.take i))))), (7, .d (.int .i64 (hitsG t 0 (ns.take i)).length)), (8, .d (.int .i64 i))], b := mkB [(3, 3, .var [.d (.int .i64 o), .d (.int .i64 y), .d (.int .i64 n), .d (.str t), .d (.str []), .d (.sl (ks.map Tm.c))])] }) (fun i : Nat => i ≤ ns.length) (fun i => ns.length - i) 0 (by simp) (sub_mk _ [(3, 3, _)] ⟨by simp, by simp, by simp [renOf, Blk.live], by simp⟩ (by simp [renOf, hitsG, atF])) ?_
    intro i hi
    have hcl := hitsG_len t 0 (ns.take i)
    rw [List.length_take] at hcl
    by_cases hlt : i < ns.length
    · have hlt' : (i : Int) < ns.length := by omega
      have hg : ns[i]? = some ns[i] := List.getElem?_eq_getElem hlt
      have hs := hits_succ (t := t) hg
      by_cases hn : ns[i] = t
      · rw [if_pos hn] at hs
        rw [hn] at hg
        cases hh : hitsG t 0 (ns.take i) with
        | nil =>
          rw [hh] at hs
          simp [hlt, hlt', hg, hn, scC, atF]
          (repeat' (first | contradiction | exact .of (by kernel_rfl) | refine And.intro ?_ ?_ | intro _ | (refine agrd_cases (fun h => ?_) (fun h => ?_) <;> (have h' := h; (try simp at h'); first | done | simp [h, h', hlt, hlt', hg, hn, scC, atF] | simp [hlt, hlt', hg, hn, scC, atF]))))
          refine ⟨i + 1, hlt, ?_, ?_⟩
          · refine sub_mk _ [(3, 3, _)] ⟨by simp, by simp, by simp [renOf, Blk.live], by simp⟩ ?_
            simp [renOf, hs, atF]
            exact ⟨by decide, wrap_in (by omega) (by omega)⟩
          · simp; omega
        | cons k l =>
          rw [hh] at hs hcl
          simp only [List.length_cons] at hcl
          have hz : ¬ (l.length : Int) + 1 = 0 := by omega
          have hw := wrap_in (n := (l.length : Int) + 1 + 1) (by omega) (by omega)
          simp [hlt, hlt', hg, hn, scC, atF, hz, hw]
          (repeat' (first | contradiction | exact .of (by kernel_rfl) | refine And.intro ?_ ?_ | intro _ | (refine agrd_cases (fun h => ?_) (fun h => ?_) <;> (have h' := h; (try simp at h'); first | done | simp [h, h', hlt, hlt', hg, hn, scC, atF, hz, hw] | simp [hlt, hlt', hg, hn, scC, atF, hz, hw]))))
          refine ⟨i + 1, hlt, ?_, ?_⟩
          · refine sub_mk _ [(3, 3, _)] ⟨by simp, by simp, by simp [renOf, Blk.live], by simp⟩ ?_
            simp [renOf, hs, atF]
            exact wrap_in (by omega) (by omega)
          · simp; omega
      · rw [if_neg hn, List.append_nil] at hs
        simp [hlt, hlt', hg, hn, scC]
        (repeat' (first | contradiction | exact .of (by kernel_rfl) | refine And.intro ?_ ?_ | intro _ | (refine agrd_cases (fun h => ?_) (fun h => ?_) <;> (have h' := h; (try simp at h'); first | done | simp [h, h', hlt, hlt', hg, hn, scC] | simp [hlt, hlt', hg, hn, scC]))))
        refine ⟨i + 1, hlt, ?_, ?_⟩
        · refine sub_mk _ [(3, 3, _)] ⟨by simp, by simp, by simp [renOf, Blk.live], by simp⟩ ?_
          simp [renOf, hs]
          exact wrap_in (by omega) (by omega)
        · simp; omega
    · have hie : i = ns.length := by omega
      subst hie
      rw [List.take_length] at hcl ⊢
      match hh : hitsG t 0 ns with
      | [] =>
        have hlk : lookG ns [] t = (0, 3) := by unfold lookG hitQ; rw [if_pos rfl, hh]; rfl
        simp [atF, hlk]
        (repeat' (first | contradiction | exact .of (by kernel_rfl) | refine And.intro ?_ ?_ | intro _ | (refine agrd_cases (fun h => ?_) (fun h => ?_) <;> (have h' := h; (try simp at h'); first | done | simp [h, h'] | simp))))
      | [k] =>
        have hlk : lookG ns [] t = ((k : Int), 0) := by unfold lookG hitQ; rw [if_pos rfl, hh]; rfl
        simp [atF, hlk]
        (repeat' (first | contradiction | exact .of (by kernel_rfl) | refine And.intro ?_ ?_ | intro _ | (refine agrd_cases (fun h => ?_) (fun h => ?_) <;> (have h' := h; (try simp at h'); first | done | simp [h, h'] | simp))))
      | a :: b :: l =>
        have hlk : lookG ns [] t = (0, 5) := by unfold lookG hitQ; rw [if_pos rfl, hh]; rfl
        have h1 : ¬ (l.length : Int) + 1 + 1 = 0 := by omega
        have h2 : (1 : Int) < (l.length : Int) + 1 + 1 := by omega
        simp [atF, hlk, h1, h2]
        (repeat' (first | contradiction | exact .of (by kernel_rfl) | refine And.intro ?_ ?_ | intro _ | (refine agrd_cases (fun h => ?_) (fun h => ?_) <;> (have h' := h; (try simp at h'); first | done | simp [h, h', h1, h2] | simp [h1, h2]))))
  · have hlk : lookG ns q t = (0, 3) := by unfold lookG hitQ; rw [if_neg hq]; rfl
    have hq' : ¬ [] = q := fun h => hq h.symm
    rw [hlk]
    refine aloopT mix (by decide) (fun i : Nat => { s := mkS [(0, .d (.sl (ns.map scC))), (3, .ptr 3 0 0), (4, .d (.int .i64 0)), (5, .d (.int .i64 0)), (6, .d (.int .i64 0)), (7, .d (.int .i64 0)), (8, .d (.int .i64 i))], b := mkB [(3, 3, .var [.d (.int .i64 o), .d (.int .i64 y), .d (.int .i64 n), .d (.str t), .d (.str q), .d (.sl (ks.map Tm.c))])] }) (fun i : Nat => i ≤ ns.length) (fun i => ns.length - i) 0 (by simp) (sub_mk _ [(3, 3, _)] ⟨by simp, by simp, by simp [renOf, Blk.live], by simp⟩ (by simp [renOf])) ?_
    intro i hi
    by_cases hlt : i < ns.length
    · have hlt' : (i : Int) < ns.length := by omega
      have hg : ns[i]? = some ns[i] := List.getElem?_eq_getElem hlt
      by_cases hn : ns[i] = t
      · rw [hn] at hg
        simp [hlt, hlt', hg, hn, scC, hq, hq']
        (repeat' (first | contradiction | exact .of (by kernel_rfl) | refine And.intro ?_ ?_ | intro _ | (refine agrd_cases (fun h => ?_) (fun h => ?_) <;> (have h' := h; (try simp at h'); first | done | simp [h, h', hlt, hlt', hg, hn, scC, hq, hq'] | simp [hlt, hlt', hg, hn, scC, hq, hq']))))
        refine ⟨i + 1, hlt, ?_, ?_⟩
        · refine sub_mk _ [(3, 3, _)] ⟨by simp, by simp, by simp [renOf, Blk.live], by simp⟩ ?_
          simp [renOf]
          exact wrap_in (by omega) (by omega)
        · simp; omega
      · simp [hlt, hlt', hg, hn, scC]
        (repeat' (first | contradiction | exact .of (by kernel_rfl) | refine And.intro ?_ ?_ | intro _ | (refine agrd_cases (fun h => ?_) (fun h => ?_) <;> (have h' := h; (try simp at h'); first | done | simp [h, h', hlt, hlt', hg, hn, scC] | simp [hlt, hlt', hg, hn, scC]))))
        refine ⟨i + 1, hlt, ?_, ?_⟩
        · refine sub_mk _ [(3, 3, _)] ⟨by simp, by simp, by simp [renOf, Blk.live], by simp⟩ ?_
          simp [renOf]
          exact wrap_in (by omega) (by omega)
        · simp; omega
    · have hie : i = ns.length := by omega
      subst hie
      simp
      (repeat' (first | contradiction | exact .of (by kernel_rfl) | refine And.intro ?_ ?_ | intro _ | (refine agrd_cases (fun h => ?_) (fun h => ?_) <;> (have h' := h; (try simp at h'); first | done | simp [h, h'] | simp))))
end Go.Proofs.Tryd
/- Terms bound over a scope: the program's form and the reference's. -/
namespace Go.Proofs.Tryd
open Go.Ab
set_option maxRecDepth 100000
set_option maxHeartbeats 4000000

theorem ok_name {o y n : Int} {t q : List UInt8} {ks : List Tm} (h : (Tm.mk o y n t q ks).right = true) (ho : o = 40) : t ≠ [] := by
  rw [Tm.right, Bool.and_eq_true] at h
  subst ho
  have := h.1
  rintro rfl
  have h0 : nameOk words [] = false := by decide
  simp [okK, h0] at this
theorem right_kids {o y n : Int} {t q : List UInt8} {ks : List Tm} (h : (Tm.mk o y n t q ks).right = true) : ∀ x ∈ ks, x.right = true := by
  rw [Tm.right, Bool.and_eq_true, tmsRight_all, List.all_eq_true] at h
  exact h.2
def zC : List AV := [.d (.int .i64 0), .d (.int .i64 0), .d (.int .i64 0), .d (.str []), .d (.int .i64 0), .nils]
def teF (ns : List (List UInt8)) (o y n : Int) (t : List UInt8) (ks : List Tm) : Nat → St
  | 0 => { s := mkS [(1, .bnd 90 [.d (.sl (ns.map scC))]), (4, .ptr 4 0 0), (5, .d (.int .i64 0)), (8, .ptr 8 0 0), (45, .d (.sl (ks.map Tm.c))), (46, .d (.int .i64 ks.length)), (47, .d (.int .i64 0))], b := mkB [(4, 4, .var zC), (8, 8, .var [.d (.int .i64 o), .d (.int .i64 y), .d (.int .i64 n), .d (.str t), .d (.int .i64 0), .nils])] }
  | i + 1 => { s := mkS [(1, .bnd 90 [.d (.sl (ns.map scC))]), (4, .ptr 4 0 0), (5, .d (.int .i64 0)), (8, .ptr 8 0 0), (45, .d (.sl (ks.map Tm.c))), (46, .d (.int .i64 ks.length)), (47, .d (.int .i64 (i + 1 : Nat)))], b := mkB [(4, 4, .var zC), (8, 8, .var [.d (.int .i64 o), .d (.int .i64 y), .d (.int .i64 n), .d (.str t), .d (.int .i64 0), .ref 900 0 (i + 1) 6]), (900, 900, .arr 49 6 ((ks.take (i + 1)).map fun x => (bndG ns x).1.c) false)] }
theorem s_toExpr (ns : List (List UInt8)) (hns : ns.length ≤ 1000) : ∀ (m : Nat) (x : Tm), SizeOf.sizeOf x < m → ∀ d : Nat, x.few d = true → x.right = true →
    Cf En 89 [x.a, .bnd 90 [.d (.sl (ns.map scC))]] [] (.tup [(bndG ns x).1.a, .d (.int .i64 (bndG ns x).2)]) []
  | 0, _, h, _, _, _ => absurd h (by omega)
  | m + 1, .mk o y n t q ks, hm, d, hq, hr => by
    obtain ⟨hd, hk, ht, hl⟩ := tm_few hq
    have hrk := right_kids hr
    have hnm := ok_name hr
    refine cf_intro mix (fn := Tryd.f89) (by kernel_rfl) rfl (by kernel_rfl) (by decide) (by simp) ?_
    by_cases h40 : o = 40
    · subst h40
      have hf := b_find ns hns q t (hnm rfl)
      rw [bndG, if_pos rfl]
      by_cases he : (lookG ns q t).2 = 0
      · rw [if_pos he]
        rw [he] at hf
        simp [Tm.a, Tm.c, tmsC_map]
        (repeat' (first | contradiction | exact .of (by kernel_rfl) | refine And.intro ?_ ?_ | intro _ | (refine agrd_cases (fun h => ?_) (fun h => ?_) <;> (have h' := h; (try simp at h'); first | done | simp [h, h'] | simp))))
        refine acallT_plain hf (by simp) ?_
        simp
        (repeat' (first | contradiction | exact .of (by kernel_rfl) | refine And.intro ?_ ?_ | intro _ | (refine agrd_cases (fun h => ?_) (fun h => ?_) <;> (have h' := h; (try simp at h'); first | done | simp [h, h'] | simp))))
        all_goals simp [Ex.a, Ex.c, kidsC]
      · rw [if_neg he]
        simp [Tm.a, Tm.c, tmsC_map]
        (repeat' (first | contradiction | exact .of (by kernel_rfl) | refine And.intro ?_ ?_ | intro _ | (refine agrd_cases (fun h => ?_) (fun h => ?_) <;> (have h' := h; (try simp at h'); first | done | simp [h, h'] | simp))))
        refine acallT_plain hf (by simp) ?_
        simp [he]
        (repeat' (first | contradiction | exact .of (by kernel_rfl) | refine And.intro ?_ ?_ | intro _ | (refine agrd_cases (fun h => ?_) (fun h => ?_) <;> (have h' := h; (try simp at h'); first | done | simp [h, h', he] | simp [he]))))
        all_goals simp [zEx, Ex.a, Ex.c, kidsC]
    by_cases h41 : o = 41
    · subst h41
      rw [bndG, if_neg (by decide), if_pos rfl]
      simp [Tm.a, Tm.c, tmsC_map]
      (repeat' (first | contradiction | exact .of (by kernel_rfl) | refine And.intro ?_ ?_ | intro _ | (refine agrd_cases (fun h => ?_) (fun h => ?_) <;> (have h' := h; (try simp at h'); first | done | simp [h, h'] | simp))))
      all_goals simp [zEx, Ex.a, Ex.c, kidsC]
    rw [bndG, if_neg h40, if_neg h41, bndAll_each]
    simp [Tm.a, Tm.c, tmsC_map, h40, h41]
    (repeat' (first | contradiction | exact .of (by kernel_rfl) | refine And.intro ?_ ?_ | intro _ | (refine agrd_cases (fun h => ?_) (fun h => ?_) <;> (have h' := h; (try simp at h'); first | done | simp [h, h', h40, h41] | simp [h40, h41]))))
    refine aloopT mix (by decide) (teF ns o y n t ks) (fun i : Nat => i ≤ ks.length ∧ ∀ j z, j < i → ks[j]? = some z → (bndG ns z).2 = 0) (fun i => ks.length - i) 0 (by simp) (sub_mk [(1, _), (4, _), (5, _), (8, _), (45, _), (46, _), (47, _)] [(4, 4, _), (8, 8, _)] ⟨by simp, by simp, by simp [renOf, Blk.live, zC], by simp⟩ (by simp [renOf])) ?_
    rintro i ⟨hi, ho⟩
    by_cases hlt : i < ks.length
    · have hg : ks[i]? = some ks[i] := List.getElem?_eq_getElem hlt
      have hlt' : (i : Int) < ks.length := by omega
      obtain ⟨z, hz⟩ : ∃ z, z = ks[i] := ⟨_, rfl⟩
      have hzm : z ∈ ks := by rw [hz]; exact List.getElem_mem hlt
      have hrec := s_toExpr ns hns m z (by have := Tm.kid_lt (e := .mk o y n t q ks) (k := z) hzm; omega) (d + 1) (hl z hzm) (hrk z hzm)
      have hgi : ∀ h, ks[i]'h = z := fun _ => hz.symm
      rw [← hz] at hg
      have htk : (ks.take (i + 1)).map (fun x => (bndG ns x).1.c) = (ks.take i).map (fun x => (bndG ns x).1.c) ++ [(bndG ns z).1.c] := by rw [List.take_add_one, hg]; simp
      have c1 := Tm.clen z
      have k1 := Tm.ctake z
      have k1' := Tm.ctake' z
      have c2 := Ex.clen (bndG ns z).1
      by_cases he : (bndG ns z).2 = 0
      · have hok : ∀ j w, j < i + 1 → ks[j]? = some w → (bndG ns w).2 = 0 := fun j w hj hw => by
          rcases Nat.lt_or_ge j i with c | c
          · exact ho j w c hw
          · have : j = i := by omega
            subst this
            rw [hg] at hw
            cases hw
            exact he
        rw [he] at hrec
        cases i with
        | zero =>
          have hlt2 : (0 : Int) < ks.length := by omega
          simp [teF, hlt, hlt2, hg, hgi, c1, k1, k1']
          (repeat' (first | contradiction | exact .of (by kernel_rfl) | refine And.intro ?_ ?_ | intro _ | (refine agrd_cases (fun h => ?_) (fun h => ?_) <;> (have h' := h; (try simp at h'); first | done | simp [h, h'] | simp))))
          refine acallT_plain hrec (by simp [Tm.a]) ?_
          simp [Ex.a, c2, Ex.ctake', Ex.ctake]
          (repeat' (first | contradiction | exact .of (by kernel_rfl) | refine And.intro ?_ ?_ | intro _ | (refine agrd_cases (fun h => ?_) (fun h => ?_) <;> (have h' := h; (try simp at h'); first | done | simp [h, h'] | simp))))
          refine ⟨1, ⟨hlt, hok⟩, ?_, ?_⟩
          · refine sub_mk [(1, _), (4, _), (5, _), (8, _), (45, _), (46, _), (47, _)] [(4, 4, _), (8, 8, _), (900, 65, _)] ⟨by simp, by simp, ?_, by simp⟩ ?_
            · simp only [Nat.zero_add, List.take_zero, List.nil_append, List.map_nil] at htk
              simp [renOf, Blk.live, htk, zC]
            · simp [renOf]
              exact wrap_in (by omega) (by omega)
          · simp; omega
        | succ i =>
          have hlt2 : (i : Int) + 1 < ks.length := by omega
          have hp : (0 : Int) ≤ (i : Int) + 1 := by omega
          have hmin : min (i + 1) ks.length = i + 1 := by omega
          have s1 : (i + 1 + 1) * 72 ≤ 140737488355328 := by omega
          have s2 : i ≤ 9223372036854775805 := by omega
          simp [teF, hlt, hlt2, hp, hg, hgi, c1, k1, k1']
          (repeat' (first | contradiction | exact .of (by kernel_rfl) | refine And.intro ?_ ?_ | intro _ | (refine agrd_cases (fun h => ?_) (fun h => ?_) <;> (have h' := h; (try simp at h'); first | done | simp [h, h'] | simp))))
          refine acallT_plain hrec (by simp [Tm.a]) ?_
          simp [Ex.a, c2, Ex.ctake', Ex.ctake, hmin, s1, s2]
          (repeat' (first | contradiction | exact .of (by kernel_rfl) | refine And.intro ?_ ?_ | intro _ | (refine agrd_cases (fun h => ?_) (fun h => ?_) <;> (have h' := h; (try simp at h'); first | done | simp [h, h'] | simp))))
          refine ⟨i + 2, ⟨by omega, hok⟩, ?_, ?_⟩
          · refine sub_mk [(1, _), (4, _), (5, _), (8, _), (45, _), (46, _), (47, _)] [(4, 4, _), (8, 8, _), (900, 65, _)] ⟨by simp, by simp, ?_, by simp⟩ ?_
            · simp [renOf, Blk.live, htk, zC]
            · simp [renOf]
              rw [wrap_in (by omega) (by omega)]
          · simp; omega
      · have hb := eachG_bad (f := bndG ns) ho hg he
        rw [hb, if_neg he]
        cases i with
        | zero =>
          have hlt2 : (0 : Int) < ks.length := by omega
          simp [teF, hlt, hlt2, hg, hgi, c1, k1, k1']
          (repeat' (first | contradiction | exact .of (by kernel_rfl) | refine And.intro ?_ ?_ | intro _ | (refine agrd_cases (fun h => ?_) (fun h => ?_) <;> (have h' := h; (try simp at h'); first | done | simp [h, h'] | simp))))
          refine acallT_plain hrec (by simp [Tm.a]) ?_
          simp [Ex.a, c2, Ex.ctake', Ex.ctake, he]
          (repeat' (first | contradiction | exact .of (by kernel_rfl) | refine And.intro ?_ ?_ | intro _ | (refine agrd_cases (fun h => ?_) (fun h => ?_) <;> (have h' := h; (try simp at h'); first | done | simp [h, h', he] | simp [he]))))
          all_goals simp [zEx, Ex.c, kidsC, zC]
        | succ i =>
          have hlt2 : (i : Int) + 1 < ks.length := by omega
          have hp : (0 : Int) ≤ (i : Int) + 1 := by omega
          simp [teF, hlt, hlt2, hp, hg, hgi, c1, k1, k1']
          (repeat' (first | contradiction | exact .of (by kernel_rfl) | refine And.intro ?_ ?_ | intro _ | (refine agrd_cases (fun h => ?_) (fun h => ?_) <;> (have h' := h; (try simp at h'); first | done | simp [h, h'] | simp))))
          refine acallT_plain hrec (by simp [Tm.a]) ?_
          simp [Ex.a, c2, Ex.ctake', Ex.ctake, he]
          (repeat' (first | contradiction | exact .of (by kernel_rfl) | refine And.intro ?_ ?_ | intro _ | (refine agrd_cases (fun h => ?_) (fun h => ?_) <;> (have h' := h; (try simp at h'); first | done | simp [h, h', he] | simp [he]))))
          all_goals simp [zEx, Ex.c, kidsC, zC]
    · have hie : i = ks.length := by omega
      subst hie
      have hall := eachG_ok (f := bndG ns) (l := ks) fun x hx => by
        obtain ⟨j, hj, rfl⟩ := List.getElem_of_mem hx
        exact ho j _ hj (List.getElem?_eq_getElem hj)
      rw [hall, if_pos rfl]
      cases hkl : ks.length with
      | zero =>
        have : ks = [] := List.eq_nil_of_length_eq_zero hkl
        subst this
        simp [teF]
        (repeat' (first | contradiction | exact .of (by kernel_rfl) | refine And.intro ?_ ?_ | intro _ | (refine agrd_cases (fun h => ?_) (fun h => ?_) <;> (have h' := h; (try simp at h'); first | done | simp [h, h'] | simp))))
        all_goals simp [Ex.a, Ex.c, kidsC, zC]
      | succ i =>
        have htl : ks.take (i + 1) = ks := List.take_of_length_le (by omega)
        simp [teF, hkl, htl]
        (repeat' (first | contradiction | exact .of (by kernel_rfl) | refine And.intro ?_ ?_ | intro _ | (refine agrd_cases (fun h => ?_) (fun h => ?_) <;> (have h' := h; (try simp at h'); first | done | simp [h, h'] | simp))))
        all_goals (simp [Ex.a, Ex.c, kidsC_map, zC, htl, hkl])
        all_goals (rw [List.take_of_length_le (by simp [hkl])]; rfl)
def rteF (ns : List (List UInt8)) (o y n : Int) (t q : List UInt8) (ks : List Tm) : Nat → St
  | 0 => { s := mkS [(0, .d (.sl (ns.map scC))), (3, .ptr 3 0 0), (4, .ptr 4 0 0), (5, .d (.int .i64 0)), (8, .ptr 8 0 0), (9, .d (.int .i64 0))], b := mkB [(3, 3, .var [.d (.int .i64 o), .d (.int .i64 y), .d (.int .i64 n), .d (.str t), .d (.str q), .d (.sl (ks.map Tm.c))]), (4, 4, .var zC), (8, 8, .var [.d (.int .i64 o), .d (.int .i64 y), .d (.int .i64 n), .d (.str t), .d (.int .i64 0), .nils])] }
  | i + 1 => { s := mkS [(0, .d (.sl (ns.map scC))), (3, .ptr 3 0 0), (4, .ptr 4 0 0), (5, .d (.int .i64 0)), (8, .ptr 8 0 0), (9, .d (.int .i64 (i + 1 : Nat)))], b := mkB [(3, 3, .var [.d (.int .i64 o), .d (.int .i64 y), .d (.int .i64 n), .d (.str t), .d (.str q), .d (.sl (ks.map Tm.c))]), (4, 4, .var zC), (8, 8, .var [.d (.int .i64 o), .d (.int .i64 y), .d (.int .i64 n), .d (.str t), .d (.int .i64 0), .ref 900 0 (i + 1) 6]), (900, 900, .arr 49 6 ((ks.take (i + 1)).map fun x => (bndG ns x).1.c) false)] }
/-- What the reference's term answers: for a name that is not found it is a column. -/
def bndR (ns : List (List UInt8)) : Tm → Ex
  | .mk o y n t q ks => if o = 40 then .mk 5 0 0 [] (lookG ns q t).1 [] else (bndG ns (.mk o y n t q ks)).1
theorem bndR_ok (ns : List (List UInt8)) (x : Tm) (h : (bndG ns x).2 = 0) : bndR ns x = (bndG ns x).1 := by
  cases x with
  | mk o y n t q ks =>
    rw [bndR]
    split
    · rename_i h40
      rw [bndG, if_pos h40] at h ⊢
      split
      · rfl
      · rename_i hh
        rw [if_neg hh] at h
        exact absurd h hh
    · rfl
theorem Tm.split_clen (e : Ex) : List.length e.c = 6 := Ex.clen e
theorem r_term (ns : List (List UInt8)) (hns : ns.length ≤ 1000) : ∀ (m : Nat) (x : Tm), SizeOf.sizeOf x < m → ∀ d : Nat, x.few d = true →
    Cf En 57 [.d (.sl (ns.map scC)), x.a] [] (.tup [(bndR ns x).a, .d (.int .i64 (bndG ns x).2)]) []
  | 0, _, h, _, _ => absurd h (by omega)
  | m + 1, .mk o y n t q ks, hm, d, hq => by
    obtain ⟨hd, hk, ht, hl⟩ := tm_few hq
    refine cf_intro mix (fn := Tryd.f57) (by kernel_rfl) rfl (by kernel_rfl) (by decide) (by simp) ?_
    by_cases h40 : o = 40
    · subst h40
      have hf := r_look ns hns 40 y n t q ks
      have h2 : (bndG ns (.mk 40 y n t q ks)).2 = (lookG ns q t).2 := by
        rw [bndG, if_pos rfl]
        split
        · rename_i h; exact h.symm
        · rfl
      rw [bndR, if_pos rfl, h2]
      simp [Tm.a, Tm.c, tmsC_map] at hf ⊢
      (repeat' (first | contradiction | exact .of (by kernel_rfl) | refine And.intro ?_ ?_ | intro _ | (refine agrd_cases (fun h => ?_) (fun h => ?_) <;> (have h' := h; (try simp at h'); first | done | simp [h, h'] | simp))))
      refine acallT_plain hf (by simp) ?_
      simp
      (repeat' (first | contradiction | exact .of (by kernel_rfl) | refine And.intro ?_ ?_ | intro _ | (refine agrd_cases (fun h => ?_) (fun h => ?_) <;> (have h' := h; (try simp at h'); first | done | simp [h, h'] | simp))))
      all_goals simp [Ex.a, Ex.c, kidsC]
    by_cases h41 : o = 41
    · subst h41
      rw [bndR, if_neg (by decide), bndG, if_neg (by decide), if_pos rfl]
      simp [Tm.a, Tm.c, tmsC_map]
      (repeat' (first | contradiction | exact .of (by kernel_rfl) | refine And.intro ?_ ?_ | intro _ | (refine agrd_cases (fun h => ?_) (fun h => ?_) <;> (have h' := h; (try simp at h'); first | done | simp [h, h'] | simp))))
      all_goals simp [zEx, Ex.a, Ex.c, kidsC]
    rw [bndR, if_neg h40, bndG, if_neg h40, if_neg h41, bndAll_each]
    simp [Tm.a, Tm.c, tmsC_map, h40, h41]
    (repeat' (first | contradiction | exact .of (by kernel_rfl) | refine And.intro ?_ ?_ | intro _ | (refine agrd_cases (fun h => ?_) (fun h => ?_) <;> (have h' := h; (try simp at h'); first | done | simp [h, h', h40, h41] | simp [h40, h41]))))
    refine aloopT mix (by decide) (rteF ns o y n t q ks) (fun i : Nat => i ≤ ks.length ∧ ∀ j z, j < i → ks[j]? = some z → (bndG ns z).2 = 0) (fun i => ks.length - i) 0 (by simp) (sub_mk [(0, _), (3, _), (4, _), (5, _), (8, _), (9, _)] [(3, 3, _), (4, 4, _), (8, 8, _)] ⟨by simp, by simp, by simp [renOf, Blk.live, zC], by simp⟩ (by simp [renOf])) ?_
    rintro i ⟨hi, ho⟩
    by_cases hlt : i < ks.length
    · have hg : ks[i]? = some ks[i] := List.getElem?_eq_getElem hlt
      have hlt' : (i : Int) < ks.length := by omega
      obtain ⟨z, hz⟩ : ∃ z, z = ks[i] := ⟨_, rfl⟩
      have hzm : z ∈ ks := by rw [hz]; exact List.getElem_mem hlt
      have hrec := r_term ns hns m z (by have := Tm.kid_lt (e := .mk o y n t q ks) (k := z) hzm; omega) (d + 1) (hl z hzm)
      have hgi : ∀ h, ks[i]'h = z := fun _ => hz.symm
      rw [← hz] at hg
      have htk : (ks.take (i + 1)).map (fun x => (bndG ns x).1.c) = (ks.take i).map (fun x => (bndG ns x).1.c) ++ [(bndG ns z).1.c] := by rw [List.take_add_one, hg]; simp
      have c1 := Tm.clen z
      have k1 := Tm.ctake z
      have k1' := Tm.ctake' z
      have c2 := Ex.clen (bndG ns z).1
      have c3 := Ex.clen (bndR ns z)
      by_cases he : (bndG ns z).2 = 0
      · have hok : ∀ j w, j < i + 1 → ks[j]? = some w → (bndG ns w).2 = 0 := fun j w hj hw => by
          rcases Nat.lt_or_ge j i with c | c
          · exact ho j w c hw
          · have : j = i := by omega
            subst this
            rw [hg] at hw
            cases hw
            exact he
        rw [he, bndR_ok ns z he] at hrec
        cases i with
        | zero =>
          have hlt2 : (0 : Int) < ks.length := by omega
          simp [rteF, hlt, hlt2, hg, hgi, c1, k1, k1']
          (repeat' (first | contradiction | exact .of (by kernel_rfl) | refine And.intro ?_ ?_ | intro _ | (refine agrd_cases (fun h => ?_) (fun h => ?_) <;> (have h' := h; (try simp at h'); first | done | simp [h, h'] | simp))))
          refine acallT_plain hrec (by simp [Tm.a]) ?_
          simp [Ex.a, c2, Ex.ctake', Ex.ctake]
          (repeat' (first | contradiction | exact .of (by kernel_rfl) | refine And.intro ?_ ?_ | intro _ | (refine agrd_cases (fun h => ?_) (fun h => ?_) <;> (have h' := h; (try simp at h'); first | done | simp [h, h'] | simp))))
          refine ⟨1, ⟨hlt, hok⟩, ?_, ?_⟩
          · refine sub_mk [(0, _), (3, _), (4, _), (5, _), (8, _), (9, _)] [(3, 3, _), (4, 4, _), (8, 8, _), (900, 62, _)] ⟨by simp, by simp, ?_, by simp⟩ ?_
            · simp only [Nat.zero_add, List.take_zero, List.nil_append, List.map_nil] at htk
              simp [renOf, Blk.live, htk, zC]
            · simp [renOf]
              exact wrap_in (by omega) (by omega)
          · simp; omega
        | succ i =>
          have hlt2 : (i : Int) + 1 < ks.length := by omega
          have hp : (0 : Int) ≤ (i : Int) + 1 := by omega
          have hmin : min (i + 1) ks.length = i + 1 := by omega
          have s1 : (i + 1 + 1) * 72 ≤ 140737488355328 := by omega
          have s2 : i ≤ 9223372036854775805 := by omega
          simp [rteF, hlt, hlt2, hp, hg, hgi, c1, k1, k1']
          (repeat' (first | contradiction | exact .of (by kernel_rfl) | refine And.intro ?_ ?_ | intro _ | (refine agrd_cases (fun h => ?_) (fun h => ?_) <;> (have h' := h; (try simp at h'); first | done | simp [h, h'] | simp))))
          refine acallT_plain hrec (by simp [Tm.a]) ?_
          simp [Ex.a, c2, Ex.ctake', Ex.ctake, hmin, s1, s2]
          (repeat' (first | contradiction | exact .of (by kernel_rfl) | refine And.intro ?_ ?_ | intro _ | (refine agrd_cases (fun h => ?_) (fun h => ?_) <;> (have h' := h; (try simp at h'); first | done | simp [h, h'] | simp))))
          refine ⟨i + 2, ⟨by omega, hok⟩, ?_, ?_⟩
          · refine sub_mk [(0, _), (3, _), (4, _), (5, _), (8, _), (9, _)] [(3, 3, _), (4, 4, _), (8, 8, _), (900, 62, _)] ⟨by simp, by simp, ?_, by simp⟩ ?_
            · simp [renOf, Blk.live, htk, zC]
            · simp [renOf]
              rw [wrap_in (by omega) (by omega)]
          · simp; omega
      · have hb := eachG_bad (f := bndG ns) ho hg he
        rw [hb, if_neg he]
        cases i with
        | zero =>
          have hlt2 : (0 : Int) < ks.length := by omega
          simp [rteF, hlt, hlt2, hg, hgi, c1, k1, k1']
          (repeat' (first | contradiction | exact .of (by kernel_rfl) | refine And.intro ?_ ?_ | intro _ | (refine agrd_cases (fun h => ?_) (fun h => ?_) <;> (have h' := h; (try simp at h'); first | done | simp [h, h'] | simp))))
          refine acallT_plain hrec (by simp [Tm.a]) ?_
          simp [Ex.a, c3, Ex.ctake', Ex.ctake, he]
          (repeat' (first | contradiction | exact .of (by kernel_rfl) | refine And.intro ?_ ?_ | intro _ | (refine agrd_cases (fun h => ?_) (fun h => ?_) <;> (have h' := h; (try simp at h'); first | done | simp [h, h', he] | simp [he]))))
          all_goals simp [zEx, Ex.c, kidsC, zC]
        | succ i =>
          have hlt2 : (i : Int) + 1 < ks.length := by omega
          have hp : (0 : Int) ≤ (i : Int) + 1 := by omega
          simp [rteF, hlt, hlt2, hp, hg, hgi, c1, k1, k1']
          (repeat' (first | contradiction | exact .of (by kernel_rfl) | refine And.intro ?_ ?_ | intro _ | (refine agrd_cases (fun h => ?_) (fun h => ?_) <;> (have h' := h; (try simp at h'); first | done | simp [h, h'] | simp))))
          refine acallT_plain hrec (by simp [Tm.a]) ?_
          simp [Ex.a, c3, Ex.ctake', Ex.ctake, he]
          (repeat' (first | contradiction | exact .of (by kernel_rfl) | refine And.intro ?_ ?_ | intro _ | (refine agrd_cases (fun h => ?_) (fun h => ?_) <;> (have h' := h; (try simp at h'); first | done | simp [h, h', he] | simp [he]))))
          all_goals simp [zEx, Ex.c, kidsC, zC]
    · have hie : i = ks.length := by omega
      subst hie
      have hall := eachG_ok (f := bndG ns) (l := ks) fun x hx => by
        obtain ⟨j, hj, rfl⟩ := List.getElem_of_mem hx
        exact ho j _ hj (List.getElem?_eq_getElem hj)
      rw [hall, if_pos rfl]
      cases hkl : ks.length with
      | zero =>
        have : ks = [] := List.eq_nil_of_length_eq_zero hkl
        subst this
        simp [rteF]
        (repeat' (first | contradiction | exact .of (by kernel_rfl) | refine And.intro ?_ ?_ | intro _ | (refine agrd_cases (fun h => ?_) (fun h => ?_) <;> (have h' := h; (try simp at h'); first | done | simp [h, h'] | simp))))
        all_goals simp [Ex.a, Ex.c, kidsC, zC]
      | succ i =>
        have htl : ks.take (i + 1) = ks := List.take_of_length_le (by omega)
        simp [rteF, hkl, htl]
        (repeat' (first | contradiction | exact .of (by kernel_rfl) | refine And.intro ?_ ?_ | intro _ | (refine agrd_cases (fun h => ?_) (fun h => ?_) <;> (have h' := h; (try simp at h'); first | done | simp [h, h'] | simp))))
        all_goals (simp [Ex.a, Ex.c, kidsC_map, zC, htl, hkl])
        all_goals (rw [List.take_of_length_le (by simp [hkl])]; rfl)
end Go.Proofs.Tryd
/- Types of expressions over columns: the program's form. -/
namespace Go.Proofs.Tryd
open Go.Ab
set_option maxRecDepth 100000
set_option maxHeartbeats 16000000

def tyF2 (ts : List Int) (o c n g : Int) (t : List UInt8) (ks : List Ex) (kts : List Int) : Nat → St
  | 0 => { s := mkS [(0, .d (.sl (ints ts))), (3, .ptr 3 0 0), (4, .d (.int .i64 0)), (5, .d (.int .i64 0)), (6, .nils), (15, .d (.sl (ks.map Ex.c))), (16, .d (.int .i64 ks.length)), (17, .d (.int .i64 0))], b := mkB [(3, 3, .var [.d (.int .i64 o), .d (.int .i64 c), .d (.int .i64 n), .d (.str t), .d (.int .i64 g), .d (.sl (ks.map Ex.c))])] }
  | i + 1 => { s := mkS [(0, .d (.sl (ints ts))), (3, .ptr 3 0 0), (4, .d (.int .i64 0)), (5, .d (.int .i64 0)), (6, .ref 900 0 (i + 1) 1), (15, .d (.sl (ks.map Ex.c))), (16, .d (.int .i64 ks.length)), (17, .d (.int .i64 (i + 1 : Nat)))], b := mkB [(3, 3, .var [.d (.int .i64 o), .d (.int .i64 c), .d (.int .i64 n), .d (.str t), .d (.int .i64 g), .d (.sl (ks.map Ex.c))]), (900, 900, .arr 3 1 (ints (kts.take (i + 1))) false)] }

theorem x_node (ts : List Int) (hts : ts.length ≤ 1000) (o c n g : Int) (t : List UInt8) (ks : List Ex) (hk : ks.length ≤ 12)
    (hrec : ∀ z ∈ ks, Cf Et 93 [.d (.sl (ints ts)), z.a] [] (.tup [.d (.int .i64 (tyG ts z).1), .d (.int .i64 (tyG ts z).2)]) [])
    (hcn : cntd o ks.length = true) (hcl : Cf En 120 [(Ex.mk o c n t g ks).a] [] (.d (.bool true)) [])
    (h5 : o = 5 → 0 ≤ g ∧ g < ts.length) (f4 : (opOf o).2.2.1 = 4 → 1 ≤ ks.length) (f6 : (opOf o).2.2.1 = 6 → ks.length = 3) (hown : o ≠ 5 → o ≠ 1 → (opOf o).2.2.2 = 0 → 1 ≤ ks.length) :
    Cf Et 93 [.d (.sl (ints ts)), (Ex.mk o c n t g ks).a] [] (.tup [.d (.int .i64 (tyG ts (.mk o c n t g ks)).1), .d (.int .i64 (tyG ts (.mk o c n t g ks)).2)]) [] := by
  refine cf_intro mixt (fn := Tryd.f93) (by kernel_rfl) rfl (by kernel_rfl) (by decide) (by simp) ?_
  have hio : isOp o = true := by
    unfold cntd at hcn
    simp only [Bool.and_eq_true] at hcn
    exact hcn.1
  have hkn := e_known o c n t g ks
  obtain ⟨kts, hkts⟩ : ∃ kts, kts = ks.map fun z => (tyG ts z).1 := ⟨_, rfl⟩
  have hlen : kts.length = ks.length := by rw [hkts, List.length_map]
  have hft := upn (e_fit (opOf o).1 (opOf o).2.1 (opOf o).2.2.1 (opOf o).2.2.2 kts (by omega) (by rw [hlen]; exact f4) (by rw [hlen]; exact f6))
  have hcl := upn hcl
  rw [tyG, tysG_each]
  rw [hio, hcn, show findO o = opOf o from by simp [findO, hio]] at hkn
  rw [Ex.a] at hkn hcl
  simp [Ex.a, Ex.c, kidsC_map] at hkn hcl ⊢
  (repeat' (first | contradiction | exact .of (by kernel_rfl) | refine And.intro ?_ ?_ | intro _ | (refine agrd_cases (fun h => ?_) (fun h => ?_) <;> (have h' := h; (try simp at h'); first | done | simp [h, h'] | simp))))
  refine aloopT mixt (by decide) (tyF2 ts o c n g t ks kts) (fun i : Nat => i ≤ ks.length ∧ ∀ j z, j < i → ks[j]? = some z → (tyG ts z).2 = 0) (fun i => ks.length - i) 0 (by simp) (sub_mk [(0, _), (3, _), (4, _), (5, _), (6, _), (15, _), (16, _), (17, _)] [(3, 3, _)] ⟨by simp, by simp, by simp [renOf, Blk.live], by simp⟩ (by simp [renOf])) ?_
  rintro i ⟨hi, ho⟩
  by_cases hlt : i < ks.length
  · have hg : ks[i]? = some ks[i] := List.getElem?_eq_getElem hlt
    obtain ⟨z, hz⟩ : ∃ z, z = ks[i] := ⟨_, rfl⟩
    have hzm : z ∈ ks := by rw [hz]; exact List.getElem_mem hlt
    have hr := hrec z hzm
    have hgi : ∀ h, ks[i]'h = z := fun _ => hz.symm
    rw [← hz] at hg
    have htk : kts.take (i + 1) = kts.take i ++ [(tyG ts z).1] := by
      rw [hkts, List.take_add_one, List.getElem?_map, hg]; rfl
    have c1 := Ex.clen z
    have k1 := Ex.ctake z
    have k1' := Ex.ctake' z
    by_cases he : (tyG ts z).2 = 0
    · have hok : ∀ j w, j < i + 1 → ks[j]? = some w → (tyG ts w).2 = 0 := fun j w hj hw => by
        rcases Nat.lt_or_ge j i with c | c
        · exact ho j w c hw
        · have : j = i := by omega
          subst this
          rw [hg] at hw
          cases hw
          exact he
      rw [he] at hr
      generalize (tyG ts z).1 = kk at hr htk
      clear hkn hcl hft
      cases i with
      | zero =>
        have hlt2 : (0 : Int) < ks.length := by omega
        simp [tyF2, hlt, hlt2, hg, hgi, c1, k1, k1']
        (repeat' (first | contradiction | exact .of (by kernel_rfl) | refine And.intro ?_ ?_ | intro _ | (refine agrd_cases (fun h => ?_) (fun h => ?_) <;> (have h' := h; (try simp at h'); first | done | simp [h, h'] | simp))))
        refine acallT_plain hr (by simp [Ex.a]) ?_
        simp
        (repeat' (first | contradiction | exact .of (by kernel_rfl) | refine And.intro ?_ ?_ | intro _ | (refine agrd_cases (fun h => ?_) (fun h => ?_) <;> (have h' := h; (try simp at h'); first | done | simp [h, h'] | simp))))
        refine ⟨1, ⟨hlt, hok⟩, ?_, ?_⟩
        · refine sub_mk [(0, _), (3, _), (4, _), (5, _), (6, _), (15, _), (16, _), (17, _)] [(3, 3, _), (900, 33, _)] ⟨by simp, by simp, ?_, by simp⟩ ?_
          · simp only [Nat.zero_add, List.take_zero, List.nil_append] at htk
            simp [renOf, Blk.live, htk, ints]
          · simp [renOf]
            exact wrap_in (by omega) (by omega)
        · simp; omega
      | succ i =>
        have hlt2 : (i : Int) + 1 < ks.length := by omega
        have hp : (0 : Int) ≤ (i : Int) + 1 := by omega
        have hmin : min (i + 1) kts.length = i + 1 := by omega
        have s1 : (i + 1 + 1) * 8 ≤ 140737488355328 := by omega
        have s2 : i ≤ 9223372036854775805 := by omega
        simp [tyF2, hlt, hlt2, hp, hg, hgi, c1, k1, k1']
        (repeat' (first | contradiction | exact .of (by kernel_rfl) | refine And.intro ?_ ?_ | intro _ | (refine agrd_cases (fun h => ?_) (fun h => ?_) <;> (have h' := h; (try simp at h'); first | done | simp [h, h'] | simp))))
        refine acallT_plain hr (by simp [Ex.a]) ?_
        simp [ints, hmin, s1, s2]
        (repeat' (first | contradiction | exact .of (by kernel_rfl) | refine And.intro ?_ ?_ | intro _ | (refine agrd_cases (fun h => ?_) (fun h => ?_) <;> (have h' := h; (try simp at h'); first | done | simp [h, h'] | simp))))
        refine ⟨i + 2, ⟨by omega, hok⟩, ?_, ?_⟩
        · refine sub_mk [(0, _), (3, _), (4, _), (5, _), (6, _), (15, _), (16, _), (17, _)] [(3, 3, _), (900, 33, _)] ⟨by simp, by simp, ?_, by simp⟩ ?_
          · simp [renOf, Blk.live, htk, ints]
          · simp [renOf, ints]
            rw [wrap_in (by omega) (by omega)]
        · simp; omega
    · have hb := eachG_bad (f := tyG ts) ho hg he
      rw [hb, if_neg he]
      clear hkn hcl hft
      cases i with
      | zero =>
        have hlt2 : (0 : Int) < ks.length := by omega
        simp [tyF2, hlt, hlt2, hg, hgi, c1, k1, k1']
        (repeat' (first | contradiction | exact .of (by kernel_rfl) | refine And.intro ?_ ?_ | intro _ | (refine agrd_cases (fun h => ?_) (fun h => ?_) <;> (have h' := h; (try simp at h'); first | done | simp [h, h'] | simp))))
        refine acallT_plain hr (by simp [Ex.a]) ?_
        simp [he]
        (repeat' (first | contradiction | exact .of (by kernel_rfl) | refine And.intro ?_ ?_ | intro _ | (refine agrd_cases (fun h => ?_) (fun h => ?_) <;> (have h' := h; (try simp at h'); first | done | simp [h, h', he] | simp [he]))))
      | succ i =>
        have hlt2 : (i : Int) + 1 < ks.length := by omega
        have hp : (0 : Int) ≤ (i : Int) + 1 := by omega
        simp [tyF2, hlt, hlt2, hp, hg, hgi, c1, k1, k1']
        (repeat' (first | contradiction | exact .of (by kernel_rfl) | refine And.intro ?_ ?_ | intro _ | (refine agrd_cases (fun h => ?_) (fun h => ?_) <;> (have h' := h; (try simp at h'); first | done | simp [h, h'] | simp))))
        refine acallT_plain hr (by simp [Ex.a]) ?_
        simp [he]
        (repeat' (first | contradiction | exact .of (by kernel_rfl) | refine And.intro ?_ ?_ | intro _ | (refine agrd_cases (fun h => ?_) (fun h => ?_) <;> (have h' := h; (try simp at h'); first | done | simp [h, h', he] | simp [he]))))
  have hie : i = ks.length := by omega
  subst hie
  have hall := eachG_ok (f := tyG ts) (l := ks) fun x hx => by
    obtain ⟨j, hj, rfl⟩ := List.getElem_of_mem hx
    exact ho j _ hj (List.getElem?_eq_getElem hj)
  rw [hall, if_pos rfl, ← hkts]
  clear hrec hi hlt ho hall
  cases hkl : ks.length with
  | zero =>
    have hks : ks = [] := List.eq_nil_of_length_eq_zero hkl
    subst hks
    have hk0 : kts = [] := List.eq_nil_of_length_eq_zero (by simpa using hlen)
    subst hk0
    by_cases ho : o = 5
    · subst ho
      obtain ⟨g0, g1⟩ := h5 rfl
      have hgk : ts[g.toNat]? = some (ts[g.toNat]'(by omega)) := List.getElem?_eq_getElem _
      generalize ts[g.toNat]'(by omega) = k at hgk
      have hn0 : ¬ g < 0 := by omega
      have hn1 : ¬ (ts.length : Int) ≤ g := by omega
      rw [show fitOk (opOf 5).2.2.1 [] = true from by decide] at hft
      by_cases hk3 : 1 ≤ k ∧ k ≤ 3
      · have hty : (k == 1 || (k == 2 || k == 3)) = true := by simp; omega
        rw [show nodeTy ts 5 c g [] = (k, 0) from by simp [nodeTy, hgk]; omega]
        simp [tyF2]
        (repeat' (first | contradiction | exact .of (by kernel_rfl) | refine And.intro ?_ ?_ | intro _ | (refine agrd_cases (fun h => ?_) (fun h => ?_) <;> (have h' := h; (try simp at h'); first | done | simp [h, h'] | simp))))
        refine acallT_plain hkn (by simp) ?_
        simp [opA]
        (repeat' (first | contradiction | exact .of (by kernel_rfl) | refine And.intro ?_ ?_ | intro _ | (refine agrd_cases (fun h => ?_) (fun h => ?_) <;> (have h' := h; (try simp at h'); first | done | simp [h, h'] | simp))))
        refine acallT_plain hcl (by simp) ?_
        simp [hn0, hn1, g0, ints, hgk]
        (repeat' (first | contradiction | exact .of (by kernel_rfl) | refine And.intro ?_ ?_ | intro _ | (refine agrd_cases (fun h => ?_) (fun h => ?_) <;> (have h' := h; (try simp at h'); first | done | simp [h, h', hn0, hn1, g0, hgk] | simp [hn0, hn1, g0, hgk]))))
        refine acallT_plain (upn (e_isType k)) (by simp) ?_
        simp [hty]
        (repeat' (first | contradiction | exact .of (by kernel_rfl) | refine And.intro ?_ ?_ | intro _ | (refine agrd_cases (fun h => ?_) (fun h => ?_) <;> (have h' := h; (try simp at h'); first | done | simp [h, h'] | simp))))
        refine acallT_plain hft (by simp [ints]) ?_
        simp [g0, hgk, ints]
        (repeat' (first | contradiction | exact .of (by kernel_rfl) | refine And.intro ?_ ?_ | intro _ | (refine agrd_cases (fun h => ?_) (fun h => ?_) <;> (have h' := h; (try simp at h'); first | done | simp [h, h'] | simp))))
      · have hty : (k == 1 || (k == 2 || k == 3)) = false := by
          rw [Bool.eq_false_iff]
          intro h
          simp at h
          omega
        rw [show nodeTy ts 5 c g [] = (0, 4) from by simp [nodeTy, hgk]; omega]
        simp [tyF2]
        (repeat' (first | contradiction | exact .of (by kernel_rfl) | refine And.intro ?_ ?_ | intro _ | (refine agrd_cases (fun h => ?_) (fun h => ?_) <;> (have h' := h; (try simp at h'); first | done | simp [h, h'] | simp))))
        refine acallT_plain hkn (by simp) ?_
        simp [opA]
        (repeat' (first | contradiction | exact .of (by kernel_rfl) | refine And.intro ?_ ?_ | intro _ | (refine agrd_cases (fun h => ?_) (fun h => ?_) <;> (have h' := h; (try simp at h'); first | done | simp [h, h'] | simp))))
        refine acallT_plain hcl (by simp) ?_
        simp [hn0, hn1, g0, ints, hgk]
        (repeat' (first | contradiction | exact .of (by kernel_rfl) | refine And.intro ?_ ?_ | intro _ | (refine agrd_cases (fun h => ?_) (fun h => ?_) <;> (have h' := h; (try simp at h'); first | done | simp [h, h', hn0, hn1, g0, hgk] | simp [hn0, hn1, g0, hgk]))))
        refine acallT_plain (upn (e_isType k)) (by simp) ?_
        simp [hty]
        (repeat' (first | contradiction | exact .of (by kernel_rfl) | refine And.intro ?_ ?_ | intro _ | (refine agrd_cases (fun h => ?_) (fun h => ?_) <;> (have h' := h; (try simp at h'); first | done | simp [h, h'] | simp))))
    · have hfo : fitOk (opOf o).2.2.1 [] = true := by
        unfold fitOk
        repeat' split
        all_goals first | rfl | skip
        all_goals first | (have := f6 (by assumption); simp at this) | skip
      rw [hfo] at hft
      by_cases ho1 : o = 1
      · subst ho1
        rw [show nodeTy ts 1 c g [] = (c, 0) from by simp [nodeTy, tyRes, hfo]]
        simp [tyF2]
        (repeat' (first | contradiction | exact .of (by kernel_rfl) | refine And.intro ?_ ?_ | intro _ | (refine agrd_cases (fun h => ?_) (fun h => ?_) <;> (have h' := h; (try simp at h'); first | done | simp [h, h'] | simp))))
        refine acallT_plain hkn (by simp) ?_
        simp [opA]
        (repeat' (first | contradiction | exact .of (by kernel_rfl) | refine And.intro ?_ ?_ | intro _ | (refine agrd_cases (fun h => ?_) (fun h => ?_) <;> (have h' := h; (try simp at h'); first | done | simp [h, h'] | simp))))
        refine acallT_plain hcl (by simp) ?_
        simp
        (repeat' (first | contradiction | exact .of (by kernel_rfl) | refine And.intro ?_ ?_ | intro _ | (refine agrd_cases (fun h => ?_) (fun h => ?_) <;> (have h' := h; (try simp at h'); first | done | simp [h, h'] | simp))))
        refine acallT_plain hft (by simp [ints]) ?_
        simp
        (repeat' (first | contradiction | exact .of (by kernel_rfl) | refine And.intro ?_ ?_ | intro _ | (refine agrd_cases (fun h => ?_) (fun h => ?_) <;> (have h' := h; (try simp at h'); first | done | simp [h, h'] | simp))))
      · have hw0 : ¬ (opOf o).2.2.2 = 0 := fun h => by have := hown ho ho1 h; simp at this
        rw [show nodeTy ts o c g [] = ((opOf o).2.2.2, 0) from by simp [nodeTy, tyRes, ho, ho1, hw0, hfo]]
        simp [tyF2]
        (repeat' (first | contradiction | exact .of (by kernel_rfl) | refine And.intro ?_ ?_ | intro _ | (refine agrd_cases (fun h => ?_) (fun h => ?_) <;> (have h' := h; (try simp at h'); first | done | simp [h, h'] | simp))))
        refine acallT_plain hkn (by simp) ?_
        simp [opA]
        (repeat' (first | contradiction | exact .of (by kernel_rfl) | refine And.intro ?_ ?_ | intro _ | (refine agrd_cases (fun h => ?_) (fun h => ?_) <;> (have h' := h; (try simp at h'); first | done | simp [h, h'] | simp))))
        refine acallT_plain hcl (by simp) ?_
        simp [ho]
        (repeat' (first | contradiction | exact .of (by kernel_rfl) | refine And.intro ?_ ?_ | intro _ | (refine agrd_cases (fun h => ?_) (fun h => ?_) <;> (have h' := h; (try simp at h'); first | done | simp [h, h', ho] | simp [ho]))))
        refine acallT_plain hft (by simp [ints]) ?_
        simp [ho, ho1, hw0]
        (repeat' (first | contradiction | exact .of (by kernel_rfl) | refine And.intro ?_ ?_ | intro _ | (refine agrd_cases (fun h => ?_) (fun h => ?_) <;> (have h' := h; (try simp at h'); first | done | simp [h, h', ho, ho1, hw0] | simp [ho, ho1, hw0]))))
  | succ i =>
    have ho : o ≠ 5 := by
      rintro rfl
      rw [hkl] at hcn
      simp [cntd, isOp, opOf, ops] at hcn
      omega
    have ho1 : o ≠ 1 := by
      rintro rfl
      rw [hkl] at hcn
      simp [cntd, isOp, opOf, ops] at hcn
      omega
    have hkt : kts.length = i + 1 := by omega
    have htk : kts.take (i + 1) = kts := List.take_of_length_le (by omega)
    have htk2 : List.take (i + 1) (List.map (fun n => [D.int .i64 n]) kts) = List.map (fun n => [D.int .i64 n]) kts := List.take_of_length_le (by simp; omega)
    clear hkts
    cases hfit : fitOk (opOf o).2.2.1 kts with
    | false =>
      rw [hfit] at hft
      rw [show nodeTy ts o c g kts = (0, 4) from by simp [nodeTy, ho, hfit]]
      simp [tyF2, htk, hkl]
      (repeat' (first | contradiction | exact .of (by kernel_rfl) | refine And.intro ?_ ?_ | intro _ | (refine agrd_cases (fun h => ?_) (fun h => ?_) <;> (have h' := h; (try simp at h'); first | done | simp [h, h'] | simp))))
      refine acallT_plain hkn (by simp) ?_
      simp [opA]
      (repeat' (first | contradiction | exact .of (by kernel_rfl) | refine And.intro ?_ ?_ | intro _ | (refine agrd_cases (fun h => ?_) (fun h => ?_) <;> (have h' := h; (try simp at h'); first | done | simp [h, h'] | simp))))
      refine acallT_plain hcl (by simp) ?_
      simp [ho]
      (repeat' (first | contradiction | exact .of (by kernel_rfl) | refine And.intro ?_ ?_ | intro _ | (refine agrd_cases (fun h => ?_) (fun h => ?_) <;> (have h' := h; (try simp at h'); first | done | simp [h, h', ho] | simp [ho]))))
      refine acallT_plain hft (by simp [ints, hkt, htk2]) ?_
      simp
      (repeat' (first | contradiction | exact .of (by kernel_rfl) | refine And.intro ?_ ?_ | intro _ | (refine agrd_cases (fun h => ?_) (fun h => ?_) <;> (have h' := h; (try simp at h'); first | done | simp [h, h'] | simp))))
    | true =>
      rw [hfit] at hft
      by_cases hw0 : (opOf o).2.2.2 = 0
      · have hgk : kts[i]? = some (kts[i]'(by omega)) := List.getElem?_eq_getElem _
        have hwi := wrap_in (n := (i : Int)) (by omega) (by omega)
        have hp : (0 : Int) ≤ i := by omega
        rw [show nodeTy ts o c g kts = (kts[i]'(by omega), 0) from by simp [nodeTy, tyRes, ho, ho1, hw0, hkt, hgk, hfit]]
        simp [tyF2, htk, hkl]
        (repeat' (first | contradiction | exact .of (by kernel_rfl) | refine And.intro ?_ ?_ | intro _ | (refine agrd_cases (fun h => ?_) (fun h => ?_) <;> (have h' := h; (try simp at h'); first | done | simp [h, h'] | simp))))
        refine acallT_plain hkn (by simp) ?_
        simp [opA]
        (repeat' (first | contradiction | exact .of (by kernel_rfl) | refine And.intro ?_ ?_ | intro _ | (refine agrd_cases (fun h => ?_) (fun h => ?_) <;> (have h' := h; (try simp at h'); first | done | simp [h, h'] | simp))))
        refine acallT_plain hcl (by simp) ?_
        simp [ho]
        (repeat' (first | contradiction | exact .of (by kernel_rfl) | refine And.intro ?_ ?_ | intro _ | (refine agrd_cases (fun h => ?_) (fun h => ?_) <;> (have h' := h; (try simp at h'); first | done | simp [h, h', ho] | simp [ho]))))
        refine acallT_plain hft (by simp [ints, hkt, htk2]) ?_
        simp [ho, ho1, hw0, hwi, ints, hkt, htk2, hgk]
        (repeat' (first | contradiction | exact .of (by kernel_rfl) | refine And.intro ?_ ?_ | intro _ | (refine agrd_cases (fun h => ?_) (fun h => ?_) <;> (have h' := h; (try simp at h'); first | done | simp [h, h', ho, ho1, hw0, hwi] | simp [ho, ho1, hw0, hwi]))))
      · rw [show nodeTy ts o c g kts = ((opOf o).2.2.2, 0) from by simp [nodeTy, tyRes, ho, ho1, hw0, hfit]]
        simp [tyF2, htk, hkl]
        (repeat' (first | contradiction | exact .of (by kernel_rfl) | refine And.intro ?_ ?_ | intro _ | (refine agrd_cases (fun h => ?_) (fun h => ?_) <;> (have h' := h; (try simp at h'); first | done | simp [h, h'] | simp))))
        refine acallT_plain hkn (by simp) ?_
        simp [opA]
        (repeat' (first | contradiction | exact .of (by kernel_rfl) | refine And.intro ?_ ?_ | intro _ | (refine agrd_cases (fun h => ?_) (fun h => ?_) <;> (have h' := h; (try simp at h'); first | done | simp [h, h'] | simp))))
        refine acallT_plain hcl (by simp) ?_
        simp [ho]
        (repeat' (first | contradiction | exact .of (by kernel_rfl) | refine And.intro ?_ ?_ | intro _ | (refine agrd_cases (fun h => ?_) (fun h => ?_) <;> (have h' := h; (try simp at h'); first | done | simp [h, h', ho] | simp [ho]))))
        refine acallT_plain hft (by simp [ints, hkt, htk2]) ?_
        simp [ho, ho1, hw0, ints, hkt, htk2]
        (repeat' (first | contradiction | exact .of (by kernel_rfl) | refine And.intro ?_ ?_ | intro _ | (refine agrd_cases (fun h => ?_) (fun h => ?_) <;> (have h' := h; (try simp at h'); first | done | simp [h, h', ho, ho1, hw0] | simp [ho, ho1, hw0]))))
theorem fit_cases {o : Int} (h1 : 6 ≤ o) (h2 : o ≤ 28) {k : Nat} (h : cntd o k = true) : 1 ≤ k ∧ ((opOf o).2.2.1 = 6 → k = 3) := by
  rcases op_cases h1 h2 with rfl | rfl | rfl | rfl | rfl | rfl | rfl | rfl | rfl | rfl | rfl | rfl | rfl | rfl | rfl | rfl | rfl | rfl | rfl | rfl | rfl | rfl | rfl <;> simp [cntd, isOp, opOf, ops] at h <;> simp [opOf, ops] <;> omega
theorem x_typ {ts : List Int} (hts : ts.length ≤ 1000) : ∀ {e : Ex}, XOk ts.length e → ∀ q, e.few q = true → Cf Et 93 [.d (.sl (ints ts)), e.a] [] (.tup [.d (.int .i64 (tyG ts e).1), .d (.int .i64 (tyG ts e).2)]) [] := by
  intro e h
  induction h with
  | nul c h1 h2 => intro q hq; exact x_node ts hts 1 c 0 0 [] [] (by simp) (fun z hz => by cases hz) (by decide) (cl_null c ⟨h1, h2⟩) (fun h => absurd h (by decide)) (by decide) (by decide) (by decide)
  | int v hv => intro q hq; exact x_node ts hts 2 0 v 0 [] [] (by simp) (fun z hz => by cases hz) (by decide) (cl_int v hv) (fun h => absurd h (by decide)) (by decide) (by decide) (by decide)
  | bool v hv => intro q hq; exact x_node ts hts 3 0 v 0 [] [] (by simp) (fun z hz => by cases hz) (by decide) (cl_bool v hv) (fun h => absurd h (by decide)) (by decide) (by decide) (by decide)
  | text t hv => intro q hq; exact x_node ts hts 4 0 0 0 t [] (by simp) (fun z hz => by cases hz) (by decide) (cl_text t hv) (fun h => absurd h (by decide)) (by decide) (by decide) (by decide)
  | col g h1 h2 => intro q hq; exact x_node ts hts 5 0 0 g [] [] (by simp) (fun z hz => by cases hz) (by decide) (cl_col g) (fun _ => ⟨h1, h2⟩) (by decide) (by decide) (by decide)
  | node o ks h1 h2 hc hk ih =>
    intro q hq
    obtain ⟨hkl, _, hfew⟩ := few_kids hq
    obtain ⟨a, b⟩ := fit_cases h1 h2 hc
    exact x_node ts hts o 0 0 0 [] ks hkl (fun z hz => ih z hz (q + 1) (hfew z hz)) hc (cl_node o ks (by omega) (by omega) (by omega) (by omega) (by omega)) (fun h => absurd h (by omega)) (fun _ => a) b (fun _ _ _ => a)
theorem x_type {ts : List Int} (hts : ts.length ≤ 1000) {e : Ex} (h : XOk ts.length e) (hq : e.few 0 = true) : Cf Et 55 [.d (.sl (ints ts)), e.a] [] (.tup [.d (.int .i64 (typeG ts e).1), .d (.int .i64 (typeG ts e).2)]) [] := by
  refine cf_intro mixt (fn := Tryd.f55) (by kernel_rfl) rfl (by kernel_rfl) (by decide) (by simp) ?_
  have hs := upn (e_size (SizeOf.sizeOf e + 1) e (by omega) 0 hq)
  have hp := upn (e_depth (SizeOf.sizeOf e + 1) e (by omega) 0 hq)
  have ht := x_typ hts h 0 hq
  unfold typeG
  simp [Ex.a, Ex.clen, Ex.ctake]
  (repeat' (first | contradiction | exact .of (by kernel_rfl) | refine And.intro ?_ ?_ | intro _ | (refine agrd_cases (fun h => ?_) (fun h => ?_) <;> (have h' := h; (try simp at h'); first | done | simp [h, h'] | simp))))
  refine acallT_plain hs (by simp [Ex.a]) ?_
  by_cases h2 : 200 < e.size
  · simp [h2]
    (repeat' (first | contradiction | exact .of (by kernel_rfl) | refine And.intro ?_ ?_ | intro _ | (refine agrd_cases (fun h => ?_) (fun h => ?_) <;> (have h' := h; (try simp at h'); first | done | simp [h, h'] | simp))))
  · by_cases h3 : (24 : Int) < e.dep
    · simp [h2, h3, Ex.clen, Ex.ctake]
      (repeat' (first | contradiction | exact .of (by kernel_rfl) | refine And.intro ?_ ?_ | intro _ | (refine agrd_cases (fun h => ?_) (fun h => ?_) <;> (have h' := h; (try simp at h'); first | done | simp [h, h'] | simp))))
      refine acallT_plain hp (by simp [Ex.a]) ?_
      simp [h3, Ex.clen, Ex.ctake]
      (repeat' (first | contradiction | exact .of (by kernel_rfl) | refine And.intro ?_ ?_ | intro _ | (refine agrd_cases (fun h => ?_) (fun h => ?_) <;> (have h' := h; (try simp at h'); first | done | simp [h, h'] | simp))))
      all_goals simp [h2]
    · simp [h2, h3, Ex.clen, Ex.ctake]
      (repeat' (first | contradiction | exact .of (by kernel_rfl) | refine And.intro ?_ ?_ | intro _ | (refine agrd_cases (fun h => ?_) (fun h => ?_) <;> (have h' := h; (try simp at h'); first | done | simp [h, h'] | simp))))
      refine acallT_plain hp (by simp [Ex.a]) ?_
      simp [h3, Ex.clen, Ex.ctake]
      (repeat' (first | contradiction | exact .of (by kernel_rfl) | refine And.intro ?_ ?_ | intro _ | (refine agrd_cases (fun h => ?_) (fun h => ?_) <;> (have h' := h; (try simp at h'); first | done | simp [h, h'] | simp))))
      refine acallT_plain ht (by simp [Ex.a]) ?_
      simp
      (repeat' (first | contradiction | exact .of (by kernel_rfl) | refine And.intro ?_ ?_ | intro _ | (refine agrd_cases (fun h => ?_) (fun h => ?_) <;> (have h' := h; (try simp at h'); first | done | simp [h, h'] | simp))))
      all_goals simp [h2, h3]
end Go.Proofs.Tryd
