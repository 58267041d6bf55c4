/- The program's candidates of a column's classes. -/
import Derived.Test.YtlimkhfjidcelaaGreatDoorCmp3
import Derived.Test.YtlimkhfjidcelaaGreatDoorClb
set_option linter.all false
namespace Go.Proofs.Tryz
open Go.Ab
set_option maxRecDepth 100000
set_option maxHeartbeats 2000000

theorem p13_num (n : Int) : Cf En 81 [.d (.int .i64 n)] [] (V.a ⟨1, n, []⟩) [] := by
  refine cf_intro mix (fn := Tryz.f81) (by kernel_rfl) rfl (by kernel_rfl) (by decide) (by simp) ?_
  simp [V.a]
  (repeat' (first | contradiction | exact .of (by kernel_rfl) | refine And.intro ?_ ?_ | intro _ | (refine agrd_cases (fun h => ?_) (fun h => ?_) <;> (have h' := h; (try simp at h'); first | done | simp [h, h'] | simp))))
theorem index_no (l : List V) (hl : l.length ≤ 1000) (v : V) (hv : ∀ u ∈ l, u ≠ v) : Cf En 121 [.d (.sl (l.map V.c)), v.a] [] (.d (.int .i64 (-1))) [] := by
  refine cf_intro mix (fn := Tryz.f121) (by kernel_rfl) rfl (by kernel_rfl) (by decide) (by simp) ?_
  simp [V.a]
  (repeat' (first | contradiction | exact .of (by kernel_rfl) | refine And.intro ?_ ?_ | intro _ | (refine agrd_cases (fun h => ?_) (fun h => ?_) <;> (have h' := h; (try simp at h'); first | done | simp [h, h'] | simp))))
  refine aloopT mix (by decide) (fun i : Nat => { s := mkS [(0, .d (.sl (l.map V.c))), (3, .ptr 3 0 0), (7, .d (.int .i64 l.length)), (8, .d (.int .i64 i))], b := mkB [(3, 3, .var (v.c.map AV.d))] }) (fun i => i ≤ l.length) (fun i => l.length - i) 0 (by simp) (sub_mk _ [(3, 3, _)] ⟨by simp, by simp, by simp [renOf, Blk.live, V.c], by simp⟩ (by simp [renOf])) ?_
  intro i hi
  by_cases hlt : i < l.length
  · obtain ⟨u, hu⟩ : ∃ u, u = l[i] := ⟨_, rfl⟩
    have hgi : ∀ h, l[i]'h = u := fun _ => hu.symm
    have hne : V.beq v u = false := by
      cases e : V.beq v u with
      | false => rfl
      | true => exact absurd ((V.beq_iff _ _).1 e).symm (hv u (by rw [hu]; exact List.getElem_mem hlt))
    have hf := V.beq_f hne
    have hw := wrap_in (n := (i : Int) + 1) (by omega) (by omega)
    simp [hlt, hgi, V.c, hf]
    (repeat' (first | contradiction | exact .of (by kernel_rfl) | refine And.intro ?_ ?_ | intro _ | (refine agrd_cases (fun h => ?_) (fun h => ?_) <;> (have h' := h; (try simp at h'); first | done | simp [h, h', hf] | simp [hf]))))
    refine ⟨i + 1, by omega, ?_, by simp; omega⟩
    exact sub_mk _ [(3, 3, _)] ⟨by simp, by simp, by simp [renOf, Blk.live, V.c], by simp⟩ (by simp [renOf, hw])
  have hie : i = l.length := by omega
  subst hie
  simp
  (repeat' (first | contradiction | exact .of (by kernel_rfl) | refine And.intro ?_ ?_ | intro _ | (refine agrd_cases (fun h => ?_) (fun h => ?_) <;> (have h' := h; (try simp at h'); first | done | simp [h, h'] | simp))))
theorem contains_no (l : List V) (hl : l.length ≤ 1000) (v : V) (hv : ∀ u ∈ l, u ≠ v) : Cf En 83 [.d (.sl (l.map V.c)), v.a] [] (.d (.bool false)) [] := by
  refine cf_intro mix (fn := Tryz.f83) (by kernel_rfl) rfl (by kernel_rfl) (by decide) (by simp) ?_
  simp [V.a]
  (repeat' (first | contradiction | exact .of (by kernel_rfl) | refine And.intro ?_ ?_ | intro _ | (refine agrd_cases (fun h => ?_) (fun h => ?_) <;> (have h' := h; (try simp at h'); first | done | simp [h, h'] | simp))))
  refine acallT_plain (index_no l hl v hv) (by simp [V.a]) ?_
  simp
  (repeat' (first | contradiction | exact .of (by kernel_rfl) | refine And.intro ?_ ?_ | intro _ | (refine agrd_cases (fun h => ?_) (fun h => ?_) <;> (have h' := h; (try simp at h'); first | done | simp [h, h'] | simp))))

def kindsG (k : Int) (l : List At) : List V := (l.filter fun a => a.v.k == k).map At.v
theorem kindsG_take {k : Int} {l : List At} {i : Nat} (h : i < l.length) : kindsG k (l.take (i + 1)) = if l[i].v.k = k then kindsG k (l.take i) ++ [l[i].v] else kindsG k (l.take i) := by
  unfold kindsG
  rw [take_snoc h, List.filter_append, List.map_append]
  by_cases e : l[i].v.k = k <;> simp [e]
theorem kindsG_consts {k : Int} {l : List At} (hk : k ≠ 0) (h : ∀ a ∈ l, a.v.k = 0 ∨ a.v.k = k) : sortD (kindsG k l) = constsG l := by
  unfold kindsG constsG
  congr 2
  apply List.filter_congr
  intro a ha
  rcases h a ha with e | e <;> simp [e, hk]
  exact fun e => hk e.symm
def caF (x : Col) (C : List V) (y : Nat × List V) : St :=
  { s := mkS [(2, .ptr 2 0 0), (5, .d (.sl (C.map V.c))), (6, .ref 900 0 y.2.length 3), (9, .clo 81 []), (55, .d (.sl (C.map V.c))), (56, .d (.int .i64 C.length)), (57, .d (.int .i64 y.1))], b := mkB [(2, 2, .var (x.c.map AV.d)), (900, 900, .arr 54 3 (y.2.map V.c) false)] }
def cbF (x : Col) (C : List V) (_ : Unit) : St :=
  { s := mkS [(2, .ptr 2 0 0), (5, .d (.sl (C.map V.c))), (6, .ref 900 0 C.length 3), (13, .d (.int .i64 0))], b := mkB [(2, 2, .var (x.c.map AV.d)), (900, 900, .arr 54 3 (C.map V.c) false)] }
theorem p13_cands (x : Col) (l : List At) (hl : l.length ≤ 12) (hk : x.t = 1 ∨ x.t = 2 ∨ x.t = 3) (hkd : ∀ a ∈ l, a.v.k = 0 ∨ a.v.k = x.t) (hn : ∀ a ∈ l, -maxI ≤ a.v.n ∧ a.v.n ≤ maxI) (h48 : ∀ a ∈ l, a.v.t ≠ [48]) :
    Cf En 33 [x.a, .d (.sl (l.map At.c))] [] (.d (.sl ((genC x.t x.b (constsG l)).map V.c))) [] := by
  refine cf_intro mix (fn := Tryz.f33) (by kernel_rfl) rfl (by kernel_rfl) (by decide) (by simp) ?_
  simp [Col.a, Col.c]
  (repeat' (first | contradiction | exact .of (by kernel_rfl) | refine And.intro ?_ ?_ | intro _ | (refine agrd_cases (fun h => ?_) (fun h => ?_) <;> (have h' := h; (try simp at h'); first | done | simp [h, h'] | simp))))
  refine aloopT mix (by decide) (fun i : Nat => { s := mkS [(2, .ptr 2 0 0), (5, .ref 900 0 (kindsG x.t (l.take i)).length 3), (6, .nils), (14, .d (.sl (l.map At.c))), (15, .d (.int .i64 l.length)), (16, .d (.int .i64 i))], b := mkB [(2, 2, .var (x.c.map AV.d)), (900, 900, .arr 54 3 ((kindsG x.t (l.take i)).map V.c) false)] }) (fun i => i ≤ l.length) (fun i => l.length - i) 0 (by simp)
    (sub_mkn 5 900 54 3 (by simp) (by simp) (by decide) (by decide) _ [(2, 2, _), (900, 900, _)] ⟨by simp, by simp, by simp [renOf, Blk.live, Col.c, kindsG], by simp⟩ (by simp [renOf, kindsG])) ?_
  intro i hi
  by_cases hlt : i < l.length
  · have ht := kindsG_take (k := x.t) hlt
    obtain ⟨a, ha⟩ : ∃ a, a = l[i] := ⟨_, rfl⟩
    have hgi : ∀ h, l[i]'h = a := fun _ => ha.symm
    rw [← ha] at ht
    have hw := wrap_in (n := (i : Int) + 1) (by omega) (by omega)
    have hKl : (kindsG x.t (l.take i)).length ≤ 12 := by
      unfold kindsG; rw [List.length_map]
      exact Nat.le_trans (List.length_filter_le _ _) (by simp; omega)
    generalize kindsG x.t (l.take i) = K at *
    by_cases he : a.v.k = x.t
    · rw [if_pos he] at ht
      simp [hlt, hgi, At.c, Col.c, he, szs K.length (by omega) 32 (by decide), szs (K.length + 1) (by omega) 32 (by decide)]
      (repeat' (first | contradiction | exact .of (by kernel_rfl) | refine And.intro ?_ ?_ | intro _ | (refine agrd_cases (fun h => ?_) (fun h => ?_) <;> (have h' := h; (try simp at h'); first | done | simp [h, h', he] | simp [he]))))
      refine ⟨i + 1, by omega, ?_, by simp; omega⟩
      exact sub_mk _ [(2, 2, _), (900, 30, _)] ⟨by simp, by simp, by simp [renOf, Blk.live, Col.c, ht, V.c, he], by simp⟩ (by simp [renOf, hw, ht])
    · rw [if_neg he] at ht
      simp [hlt, hgi, At.c, Col.c, he]
      (repeat' (first | contradiction | exact .of (by kernel_rfl) | refine And.intro ?_ ?_ | intro _ | (refine agrd_cases (fun h => ?_) (fun h => ?_) <;> (have h' := h; (try simp at h'); first | done | simp [h, h', he] | simp [he]))))
      refine ⟨i + 1, by omega, ?_, by simp; omega⟩
      exact sub_mk _ [(2, 2, _), (900, 900, _)] ⟨by simp, by simp, by simp [renOf, Blk.live, Col.c, ht], by simp⟩ (by simp [renOf, hw, ht])
  have hie : i = l.length := by omega
  subst hie
  rw [List.take_length]
  have hkc := kindsG_consts (k := x.t) (l := l) (by omega) hkd
  have hKl : (kindsG x.t l).length ≤ 12 := by
    unfold kindsG; rw [List.length_map]
    exact Nat.le_trans (List.length_filter_le _ _) hl
  have hcs := comp_sort (kindsG x.t l)
  rw [hkc] at hcs
  have hsf := sort_func (kindsG x.t l) hKl
  have hil := isort_len (kindsG x.t l)
  have hcp := compact (isort (kindsG x.t l)) (by omega)
  rw [hcs, hil] at hcp
  have hCl : (constsG l).length ≤ 12 := Nat.le_trans (constsG_len l) hl
  have hCb : ∀ v ∈ constsG l, -maxI ≤ v.n ∧ v.n ≤ maxI := fun v hv => by
    obtain ⟨a, ha, rfl⟩ := consts_mem hv
    exact hn a ha
  have hC48 : ∀ v ∈ constsG l, v ≠ ⟨3, 0, [48]⟩ := fun v hv e => by
    obtain ⟨a, ha, rfl⟩ := consts_mem hv
    exact h48 a ha (by rw [e])
  clear hkc hcs hkd hn h48
  generalize isort (kindsG x.t l) = I at *
  generalize kindsG x.t l = K at *
  generalize hZ : List.replicate (K.length - (constsG l).length) nulV = Z at *
  generalize constsG l = C at *
  simp [Col.c]
  (repeat' (first | contradiction | exact .of (by kernel_rfl) | refine And.intro ?_ ?_ | intro _ | (refine agrd_cases (fun h => ?_) (fun h => ?_) <;> (have h' := h; (try simp at h'); first | done | simp [h, h'] | simp))))
  refine acallT_hand [900] hsf (by simp) (by simp) (by simp) (by simp) (by simp) ?_
  simp [Col.c]
  (repeat' (first | contradiction | exact .of (by kernel_rfl) | refine And.intro ?_ ?_ | intro _ | (refine agrd_cases (fun h => ?_) (fun h => ?_) <;> (have h' := h; (try simp at h'); first | done | simp [h, h'] | simp))))
  refine acallT_hand [900] hcp (by simp) (by simp) (by simp) (by simp) (by simp [hil]) ?_
  have hgl := genI_len C
  rcases hk with hk | hk | hk
  · obtain ⟨O0, hO⟩ : ∃ O0 : List V, O0 = match C[0]? with | none => [⟨1, -maxI, []⟩] | some v => if v.n > -maxI then [⟨1, -maxI, []⟩] else [] := ⟨_, rfl⟩
    have hO1 : O0.length ≤ 1 := by
      rw [hO]
      split
      · simp
      · split <;> simp
    have hG : O0 ++ goI C = genI C := by rw [hO]; unfold genI; cases C <;> simp
    refine' (fun (key : LoopKey En 127 0 (caF x C (0, O0)) _ _) => ?main) ?keyg
    case main =>
      by_cases h0 : C.length = 0
      · have hO' : O0 = [⟨1, -maxI, []⟩] := by rw [hO, List.eq_nil_of_length_eq_zero h0]; rfl
        simp [Col.c, hk, h0]
        (repeat' (first | contradiction | exact .of (by kernel_rfl) | refine And.intro ?_ ?_ | intro _ | (refine agrd_cases (fun h => ?_) (fun h => ?_) <;> (have h' := h; (try simp at h'); first | done | simp [h, h', hk, h0] | simp [hk, h0]))))
        refine acallT_plain (p13_num (-1000000000000)) (by simp [V.a]) ?_
        simp [V.a, h0]
        (repeat' (first | contradiction | exact .of (by kernel_rfl) | refine And.intro ?_ ?_ | intro _ | (refine agrd_cases (fun h => ?_) (fun h => ?_) <;> (have h' := h; (try simp at h'); first | done | simp [h, h'] | simp))))
        refine key _ ?_
        exact sub_mk _ [(2, 2, _), (900, 54, _)] ⟨by simp, by simp, by simp [renOf, Blk.live, Col.c, hk, hO', V.c, maxI], by simp⟩ (by simp [renOf, hO', h0, List.eq_nil_of_length_eq_zero h0])
      · have hlt : 0 < C.length := by omega
        have h0' : ¬ (C.length : Int) = 0 := by omega
        obtain ⟨v, hv0⟩ : ∃ v, v = C[0] := ⟨_, rfl⟩
        have e1 : C[0]? = some v := by rw [List.getElem?_eq_getElem hlt, hv0]
        have e2 : (C.map V.c ++ Z.map V.c)[0]? = some v.c := by rw [List.getElem?_append_left (by simpa using hlt), List.getElem?_map, e1]; rfl
        have hgi : ∀ h, (C.map V.c ++ Z.map V.c)[0]'h = v.c := fun h => by rw [List.getElem?_eq_getElem h] at e2; exact Option.some.inj e2
        have hl0 : 0 < C.length + Z.length := by omega
        rw [e1] at hO
        dsimp only at hO
        by_cases hv : v.n > -maxI
        · have hv' : -1000000000000 < v.n := hv
          have hO' : O0 = [⟨1, -maxI, []⟩] := by rw [hO, if_pos hv]
          simp [Col.c, hk, h0, h0', hlt, e2, hgi, hl0, V.c, hv']
          (repeat' (first | contradiction | exact .of (by kernel_rfl) | refine And.intro ?_ ?_ | intro _ | (refine agrd_cases (fun h => ?_) (fun h => ?_) <;> (have h' := h; (try simp at h'); first | done | simp [h, h', hk, h0] | simp [hk, h0]))))
          refine acallT_plain (p13_num (-1000000000000)) (by simp [V.a]) ?_
          simp [V.a]
          (repeat' (first | contradiction | exact .of (by kernel_rfl) | refine And.intro ?_ ?_ | intro _ | (refine agrd_cases (fun h => ?_) (fun h => ?_) <;> (have h' := h; (try simp at h'); first | done | simp [h, h'] | simp))))
          refine key _ ?_
          exact sub_mk _ [(2, 2, _), (900, 54, _)] ⟨by simp, by simp, by simp [renOf, Blk.live, Col.c, hk, hO', V.c, maxI], by simp⟩ (by simp [renOf, hO'])
        · have hv' : ¬ -1000000000000 < v.n := hv
          have hO' : O0 = [] := by rw [hO, if_neg hv]
          simp [Col.c, hk, h0, h0', hlt, e2, hgi, hl0, V.c, hv']
          (repeat' (first | contradiction | exact .of (by kernel_rfl) | refine And.intro ?_ ?_ | intro _ | (refine agrd_cases (fun h => ?_) (fun h => ?_) <;> (have h' := h; (try simp at h'); first | done | simp [h, h', hk, h0] | simp [hk, h0]))))
          refine key _ ?_
          exact sub_mkn 6 901 54 3 (by simp) (by simp) (by decide) (by decide) _ [(2, 2, _), (900, 901, _)] ⟨by simp, by simp, by simp [renOf, Blk.live, hO', hk, Col.c], by simp⟩ (by simp [renOf, hO'])
    intro st hst
    refine aloopT mix (by decide) (caF x C) (fun y => y.1 ≤ C.length ∧ y.2 ++ goI (C.drop y.1) = genI C ∧ y.2.length ≤ 2 * y.1 + 1) (fun y => C.length - y.1) (0, O0) ⟨by simp, by simpa using hG, by simpa using hO1⟩ hst ?_
    rintro ⟨i, O⟩ ⟨hi, hG, hOl⟩
    simp only at hi hG hOl
    by_cases hlt : i < C.length
    · have hd := goI_drop hlt
      rw [hd] at hG
      obtain ⟨u, hu⟩ : ∃ u, u = C[i] := ⟨_, rfl⟩
      have hgi : ∀ h, C[i]'h = u := fun _ => hu.symm
      rw [← hu] at hG
      have hub := hCb u (by rw [hu]; exact List.getElem_mem hlt)
      have hw := wrap_in (n := (i : Int) + 1) (by omega) (by omega)
      have hwn := wrap_in (n := u.n + 1) (by simp [maxI] at hub; omega) (by simp [maxI] at hub; omega)
      have hfin : ∀ (O' : List V) st', O' ++ goI (C.drop (i + 1)) = genI C → O'.length ≤ 2 * (i + 1) + 1 → Sub En 127 0 st' (caF x C (i + 1, O')) → ANext En 127 0 (caF x C) (fun y => y.1 ≤ C.length ∧ y.2 ++ goI (C.drop y.1) = genI C ∧ y.2.length ≤ 2 * y.1 + 1) (fun y => C.length - y.1) (i, O) st' ⟨⟩ := fun O' st' h1 h2 h3 => ⟨(i + 1, O'), ⟨by simp only; omega, h1, h2⟩, h3, by simp only; omega⟩
      by_cases hm : u.n + 1 ≤ 1000000000000
      · by_cases hlast : i + 1 = C.length
        · have hlast' : ((i : Int) + 1 == C.length) = true := by simp; omega
          have hn : C[i + 1]? = none := List.getElem?_eq_none (by omega)
          rw [hn, if_pos ⟨hm, rfl⟩] at hG
          simp [caF, hlt, hgi, V.c, hwn, hw, hm, hlast', szs (O.length + 1) (by omega) 32 (by decide), szs O.length (by omega) 32 (by decide)]
          (repeat' (first | contradiction | exact .of (by kernel_rfl) | refine And.intro ?_ ?_ | intro _ | (refine agrd_cases (fun h => ?_) (fun h => ?_) <;> (have h' := h; (try simp at h'); first | done | simp [h, h', hm, hlast'] | simp [hm, hlast']))))
          refine acallT_plain (p13_num (u.n + 1)) (by simp [V.a]) ?_
          simp [V.a, hlast', szs (O.length + 1 + 1) (by omega) 32 (by decide), szs O.length (by omega) 32 (by decide)]
          (repeat' (first | contradiction | exact .of (by kernel_rfl) | refine And.intro ?_ ?_ | intro _ | (refine agrd_cases (fun h => ?_) (fun h => ?_) <;> (have h' := h; (try simp at h'); first | done | simp [h, h'] | simp))))
          refine hfin (O ++ [u, ⟨1, u.n + 1, []⟩]) _ (by rw [List.append_assoc]; exact hG) (by simp; omega) ?_
          exact sub_mk _ [(2, 2, _), (900, 93, _)] ⟨by simp, by simp, by simp [renOf, Blk.live, V.c, Col.c], by simp⟩ (by simp [renOf, hw])
        · have hlast' : ¬ (i : Int) + 1 = C.length := by omega
          have hlt1 : i + 1 < C.length := by omega
          have hi0 : (0 : Int) ≤ (i : Int) + 1 := by omega
          obtain ⟨z, hz⟩ : ∃ z, z = C[i + 1] := ⟨_, rfl⟩
          have hgz : ∀ h, C[i + 1]'h = z := fun _ => hz.symm
          have hn : C[i + 1]? = some z := by rw [List.getElem?_eq_getElem hlt1, hz]
          rw [hn] at hG
          by_cases hne : z.n = u.n + 1
          · rw [if_neg (by simp [hne])] at hG
            simp [caF, hlt, hgi, V.c, hwn, hw, hm, hlast', hi0, hlt1, hgz, hne, szs (O.length + 1) (by omega) 32 (by decide), szs O.length (by omega) 32 (by decide)]
            (repeat' (first | contradiction | exact .of (by kernel_rfl) | refine And.intro ?_ ?_ | intro _ | (refine agrd_cases (fun h => ?_) (fun h => ?_) <;> (have h' := h; (try simp at h'); first | done | simp [h, h', hm, hlast', hne] | simp [hm, hlast', hne]))))
            refine hfin (O ++ [u]) _ (by rw [List.append_assoc]; exact hG) (by simp; omega) ?_
            exact sub_mk _ [(2, 2, _), (900, 65, _)] ⟨by simp, by simp, by simp [renOf, Blk.live, V.c, Col.c], by simp⟩ (by simp [renOf, hw])
          · rw [if_pos ⟨hm, by simpa using hne⟩] at hG
            simp [caF, hlt, hgi, V.c, hwn, hw, hm, hlast', hi0, hlt1, hgz, hne, szs (O.length + 1) (by omega) 32 (by decide), szs O.length (by omega) 32 (by decide)]
            (repeat' (first | contradiction | exact .of (by kernel_rfl) | refine And.intro ?_ ?_ | intro _ | (refine agrd_cases (fun h => ?_) (fun h => ?_) <;> (have h' := h; (try simp at h'); first | done | simp [h, h', hm, hlast', hne] | simp [hm, hlast', hne]))))
            refine acallT_plain (p13_num (u.n + 1)) (by simp [V.a]) ?_
            simp [V.a, szs (O.length + 1 + 1) (by omega) 32 (by decide), szs O.length (by omega) 32 (by decide)]
            (repeat' (first | contradiction | exact .of (by kernel_rfl) | refine And.intro ?_ ?_ | intro _ | (refine agrd_cases (fun h => ?_) (fun h => ?_) <;> (have h' := h; (try simp at h'); first | done | simp [h, h'] | simp))))
            refine hfin (O ++ [u, ⟨1, u.n + 1, []⟩]) _ (by rw [List.append_assoc]; exact hG) (by simp; omega) ?_
            exact sub_mk _ [(2, 2, _), (900, 93, _)] ⟨by simp, by simp, by simp [renOf, Blk.live, V.c, Col.c], by simp⟩ (by simp [renOf, hw])
      · have hm' : ¬ u.n + 1 ≤ maxI := hm
        rw [if_neg (fun h => hm' h.1)] at hG
        simp [caF, hlt, hgi, V.c, hwn, hw, hm, szs (O.length + 1) (by omega) 32 (by decide), szs O.length (by omega) 32 (by decide)]
        (repeat' (first | contradiction | exact .of (by kernel_rfl) | refine And.intro ?_ ?_ | intro _ | (refine agrd_cases (fun h => ?_) (fun h => ?_) <;> (have h' := h; (try simp at h'); first | done | simp [h, h', hm] | simp [hm]))))
        refine hfin (O ++ [u]) _ (by rw [List.append_assoc]; exact hG) (by simp; omega) ?_
        exact sub_mk _ [(2, 2, _), (900, 65, _)] ⟨by simp, by simp, by simp [renOf, Blk.live, V.c, Col.c], by simp⟩ (by simp [renOf, hw])
    have hie : i = C.length := by omega
    subst hie
    rw [List.drop_length, goI, List.append_nil] at hG
    rw [← hG] at hgl
    have hgc : genC x.t x.b C = O ++ (if x.b = true then [nulV] else []) := by unfold genC; rw [if_pos hk, hG]
    rw [hgc]
    cases hb : x.b
    · simp [caF, Col.c, hb]
      (repeat' (first | contradiction | exact .of (by kernel_rfl) | refine And.intro ?_ ?_ | intro _ | (refine agrd_cases (fun h => ?_) (fun h => ?_) <;> (have h' := h; (try simp at h'); first | done | simp [h, h', hb] | simp [hb]))))
    · simp [caF, Col.c, hb, szs (O.length + 1) (by omega) 32 (by decide), szs O.length (by omega) 32 (by decide), V.c, nulV]
      (repeat' (first | contradiction | exact .of (by kernel_rfl) | refine And.intro ?_ ?_ | intro _ | (refine agrd_cases (fun h => ?_) (fun h => ?_) <;> (have h' := h; (try simp at h'); first | done | simp [h, h', hb] | simp [hb]))))
      all_goals exact List.take_of_length_le (by simp)
  · have hgc : genC x.t x.b C = [⟨2, 0, []⟩, ⟨2, 1, []⟩] ++ (if x.b = true then [nulV] else []) := by unfold genC; rw [if_neg (by omega), if_pos hk]
    rw [hgc]
    simp [Col.c, hk]
    (repeat' (first | contradiction | exact .of (by kernel_rfl) | refine And.intro ?_ ?_ | intro _ | (refine agrd_cases (fun h => ?_) (fun h => ?_) <;> (have h' := h; (try simp at h'); first | done | simp [h, h', hk] | simp [hk]))))
    refine acallT_plain (v_bool 0) (by simp [V.a]) ?_
    simp [V.a, boolV0]
    refine acallT_plain (v_bool 1) (by simp [V.a]) ?_
    simp [V.a, boolV1]
    cases hb : x.b
    · simp [hb]
      (repeat' (first | contradiction | exact .of (by kernel_rfl) | refine And.intro ?_ ?_ | intro _ | (refine agrd_cases (fun h => ?_) (fun h => ?_) <;> (have h' := h; (try simp at h'); first | done | simp [h, h', hb] | simp [hb]))))
      all_goals simp [V.c]
    · simp [hb]
      (repeat' (first | contradiction | exact .of (by kernel_rfl) | refine And.intro ?_ ?_ | intro _ | (refine agrd_cases (fun h => ?_) (fun h => ?_) <;> (have h' := h; (try simp at h'); first | done | simp [h, h', hb] | simp [hb]))))
      all_goals simp [V.c, nulV]
  · have hgc : genC x.t x.b C = C ++ [(⟨3, 0, [48]⟩ : V)] ++ (if x.b = true then [nulV] else []) := by unfold genC; rw [if_neg (by omega), if_neg (by omega), if_pos hk]
    rw [hgc]
    have hcn := contains_no C (by omega) ⟨3, 0, [48]⟩ hC48
    simp [Col.c, hk, szs C.length (by omega) 32 (by decide)]
    (repeat' (first | contradiction | exact .of (by kernel_rfl) | refine And.intro ?_ ?_ | intro _ | (refine agrd_cases (fun h => ?_) (fun h => ?_) <;> (have h' := h; (try simp at h'); first | done | simp [h, h', hk] | simp [hk]))))
    refine aloopT mix (by decide) (cbF x C) (fun _ => True) (fun _ => 0) () trivial (sub_mk _ [(2, 2, _), (900, 106, _)] ⟨by simp, by simp, by simp [renOf, Blk.live, Col.c, hk], by simp⟩ (by simp [renOf])) ?_
    intro _ _
    simp [cbF, Col.c]
    (repeat' (first | contradiction | exact .of (by kernel_rfl) | refine And.intro ?_ ?_ | intro _ | (refine agrd_cases (fun h => ?_) (fun h => ?_) <;> (have h' := h; (try simp at h'); first | done | simp [h, h'] | simp))))
    refine acallT_plain (itoa0) (by simp [V.a]) ?_
    simp
    refine acallT_plain hcn (by simp [V.a]) ?_
    simp
    (repeat' (first | contradiction | exact .of (by kernel_rfl) | refine And.intro ?_ ?_ | intro _ | (refine agrd_cases (fun h => ?_) (fun h => ?_) <;> (have h' := h; (try simp at h'); first | done | simp [h, h'] | simp))))
    refine acallT_plain (itoa0) (by simp [V.a]) ?_
    simp [szs C.length (by omega) 32 (by decide), szs (C.length + 1) (by omega) 32 (by decide), szs (C.length + 1 + 1) (by omega) 32 (by decide)]
    cases hb : x.b
    · simp [hb]
      (repeat' (first | contradiction | exact .of (by kernel_rfl) | refine And.intro ?_ ?_ | intro _ | (refine agrd_cases (fun h => ?_) (fun h => ?_) <;> (have h' := h; (try simp at h'); first | done | simp [h, h', hb] | simp [hb]))))
      all_goals (simp [V.c]; try exact List.take_of_length_le (by simp))
    · simp [hb, szs C.length (by omega) 32 (by decide), szs (C.length + 1) (by omega) 32 (by decide), szs (C.length + 1 + 1) (by omega) 32 (by decide)]
      (repeat' (first | contradiction | exact .of (by kernel_rfl) | refine And.intro ?_ ?_ | intro _ | (refine agrd_cases (fun h => ?_) (fun h => ?_) <;> (have h' := h; (try simp at h'); first | done | simp [h, h', hb] | simp [hb]))))
      all_goals (simp [V.c, nulV]; try exact List.take_of_length_le (by simp))
end Go.Proofs.Tryz
