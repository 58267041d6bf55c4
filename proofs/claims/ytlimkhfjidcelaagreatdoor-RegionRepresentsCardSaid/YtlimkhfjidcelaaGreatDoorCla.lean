/- The reference's classes of a column. -/
import Derived.Test.YtlimkhfjidcelaaGreatDoorBou
set_option linter.all false
namespace Go.Proofs.Tryz
open Go.Ab
set_option maxRecDepth 100000
set_option maxHeartbeats 1000000

theorem itoa_small0 : Cf En 182 [.d (.int .i64 0)] [] (.d (.str [48])) [] := by
  refine cf_intro mix (fn := Tryz.f182) (by kernel_rfl) rfl (by kernel_rfl) (by decide) (by simp) ?_
  simp [show IntKind.i64.wrap 1 = 1 from by decide]
  (repeat' (first | contradiction | exact .of (by kernel_rfl) | refine And.intro ?_ ?_ | intro _ | (refine agrd_cases (fun h => ?_) (fun h => ?_) <;> (have h' := h; (try simp at h'); first | done | simp [h, h'] | simp))))
theorem itoa_fmt0 : Cf En 152 [.d (.int .i64 0), .d (.int .i64 10)] [] (.d (.str [48])) [] := by
  refine cf_intro mix (fn := Tryz.f152) (by kernel_rfl) rfl (by kernel_rfl) (by decide) (by simp) ?_
  simp
  (repeat' (first | contradiction | exact .of (by kernel_rfl) | refine And.intro ?_ ?_ | intro _ | (refine agrd_cases (fun h => ?_) (fun h => ?_) <;> (have h' := h; (try simp at h'); first | done | simp [h, h'] | simp))))
  refine acallT_plain (itoa_small0) (by simp [V.a]) ?_
  simp
  (repeat' (first | contradiction | exact .of (by kernel_rfl) | refine And.intro ?_ ?_ | intro _ | (refine agrd_cases (fun h => ?_) (fun h => ?_) <;> (have h' := h; (try simp at h'); first | done | simp [h, h'] | simp))))
theorem itoa_i0 : Cf En 122 [.d (.int .i64 0)] [] (.d (.str [48])) [] := by
  refine cf_intro mix (fn := Tryz.f122) (by kernel_rfl) rfl (by kernel_rfl) (by decide) (by simp) ?_
  simp
  (repeat' (first | contradiction | exact .of (by kernel_rfl) | refine And.intro ?_ ?_ | intro _ | (refine agrd_cases (fun h => ?_) (fun h => ?_) <;> (have h' := h; (try simp at h'); first | done | simp [h, h'] | simp))))
  refine acallT_plain (itoa_fmt0) (by simp [V.a]) ?_
  simp
  (repeat' (first | contradiction | exact .of (by kernel_rfl) | refine And.intro ?_ ?_ | intro _ | (refine agrd_cases (fun h => ?_) (fun h => ?_) <;> (have h' := h; (try simp at h'); first | done | simp [h, h'] | simp))))
theorem itoa0 : Cf En 84 [.d (.int .i64 0)] [] (.d (.str [48])) [] := by
  refine cf_intro mix (fn := Tryz.f84) (by kernel_rfl) rfl (by kernel_rfl) (by decide) (by simp) ?_
  simp
  (repeat' (first | contradiction | exact .of (by kernel_rfl) | refine And.intro ?_ ?_ | intro _ | (refine agrd_cases (fun h => ?_) (fun h => ?_) <;> (have h' := h; (try simp at h'); first | done | simp [h, h'] | simp))))
  refine acallT_plain (itoa_i0) (by simp [V.a]) ?_
  simp
  (repeat' (first | contradiction | exact .of (by kernel_rfl) | refine And.intro ?_ ?_ | intro _ | (refine agrd_cases (fun h => ?_) (fun h => ?_) <;> (have h' := h; (try simp at h'); first | done | simp [h, h'] | simp))))
theorem r13_number (n : Int) : Cf En 89 [.d (.int .i64 n)] [] (V.a ⟨1, n, []⟩) [] := by
  refine cf_intro mix (fn := Tryz.f89) (by kernel_rfl) rfl (by kernel_rfl) (by decide) (by simp) ?_
  simp [V.a]
  (repeat' (first | contradiction | exact .of (by kernel_rfl) | refine And.intro ?_ ?_ | intro _ | (refine agrd_cases (fun h => ?_) (fun h => ?_) <;> (have h' := h; (try simp at h'); first | done | simp [h, h'] | simp))))
theorem goI_drop {l : List V} {i : Nat} (h : i < l.length) : goI (l.drop i) = (if l[i].n + 1 ≤ maxI ∧ (match l[i + 1]? with | none => true | some u => u.n != l[i].n + 1) = true then [l[i], ⟨1, l[i].n + 1, []⟩] else [l[i]]) ++ goI (l.drop (i + 1)) := by
  have : l[i + 1]? = (l.drop (i + 1))[0]? := by simp
  rw [List.drop_eq_getElem_cons h, this]
  cases l.drop (i + 1) <;> simp [goI]
def intF (l : List V) (x : Nat × List V) : St :=
  { s := mkS [(0, .d (.sl (l.map V.c))), (3, .ref 900 0 x.2.length 3), (4, .d (.int .i64 x.1))], b := mkB [(900, 900, .arr 54 3 (x.2.map V.c) false)] }
theorem r13_ints (l : List V) (hl : l.length ≤ 1000) (hb : ∀ v ∈ l, -maxI ≤ v.n ∧ v.n ≤ maxI) : Cf En 39 [.d (.sl (l.map V.c))] [] (.ref 1000000 0 (genI l).length 3) [.arr 54 3 ((genI l).map V.c) false] := by
  refine cf_intro mix (fn := Tryz.f39) (by kernel_rfl) rfl (by kernel_rfl) (by decide) (by simp) ?_
  obtain ⟨O0, hO⟩ : ∃ O0 : List V, O0 = match l[0]? with | none => [⟨1, -maxI, []⟩] | some v => if v.n > -maxI then [⟨1, -maxI, []⟩] else [] := ⟨_, rfl⟩
  refine' (fun (key : LoopKey En 64 0 (intF l (0, O0)) _ _) => ?main) ?keyg
  case main =>
    by_cases h0 : l.length = 0
    · have e0 : l = [] := List.eq_nil_of_length_eq_zero h0
      have hO' : O0 = [⟨1, -maxI, []⟩] := by rw [hO, e0]; rfl
      simp [h0]
      (repeat' (first | contradiction | exact .of (by kernel_rfl) | refine And.intro ?_ ?_ | intro _ | (refine agrd_cases (fun h => ?_) (fun h => ?_) <;> (have h' := h; (try simp at h'); first | done | simp [h, h'] | simp))))
      refine acallT_plain (r13_number (-1000000000000)) (by simp [V.a]) ?_
      simp [V.a]
      (repeat' (first | contradiction | exact .of (by kernel_rfl) | refine And.intro ?_ ?_ | intro _ | (refine agrd_cases (fun h => ?_) (fun h => ?_) <;> (have h' := h; (try simp at h'); first | done | simp [h, h'] | simp))))
      refine key _ ?_
      exact sub_mk _ [(900, 19, _)] ⟨by simp, by simp, by simp [renOf, Blk.live, hO', V.c, maxI], by simp⟩ (by simp [renOf, hO'])
    · have hlt : 0 < l.length := by omega
      have h0' : ¬ (l.length : Int) = 0 := by omega
      obtain ⟨v, hv0⟩ : ∃ v, v = l[0] := ⟨_, rfl⟩
      have hgi : ∀ h, l[0]'h = v := fun _ => hv0.symm
      have e1 : l[0]? = some v := by rw [List.getElem?_eq_getElem hlt, hv0]
      rw [e1] at hO
      dsimp only at hO
      by_cases hv : v.n > -maxI
      · have hv' : -1000000000000 < v.n := hv
        have hO' : O0 = [⟨1, -maxI, []⟩] := by rw [hO, if_pos hv]
        simp [h0, h0', hlt, e1, hgi, V.c, hv']
        (repeat' (first | contradiction | exact .of (by kernel_rfl) | refine And.intro ?_ ?_ | intro _ | (refine agrd_cases (fun h => ?_) (fun h => ?_) <;> (have h' := h; (try simp at h'); first | done | simp [h, h'] | simp))))
        refine acallT_plain (r13_number (-1000000000000)) (by simp [V.a]) ?_
        simp [V.a]
        (repeat' (first | contradiction | exact .of (by kernel_rfl) | refine And.intro ?_ ?_ | intro _ | (refine agrd_cases (fun h => ?_) (fun h => ?_) <;> (have h' := h; (try simp at h'); first | done | simp [h, h'] | simp))))
        refine key _ ?_
        exact sub_mk _ [(900, 19, _)] ⟨by simp, by simp, by simp [renOf, Blk.live, hO', V.c, maxI], by simp⟩ (by simp [renOf, hO'])
      · have hv' : ¬ -1000000000000 < v.n := hv
        have hO' : O0 = [] := by rw [hO, if_neg hv]
        simp [h0, h0', hlt, e1, hgi, V.c, hv']
        (repeat' (first | contradiction | exact .of (by kernel_rfl) | refine And.intro ?_ ?_ | intro _ | (refine agrd_cases (fun h => ?_) (fun h => ?_) <;> (have h' := h; (try simp at h'); first | done | simp [h, h'] | simp))))
        refine key _ ?_
        exact sub_mkn 3 900 54 3 (by simp) (by simp) (by decide) (by decide) _ [(900, 900, _)] ⟨by simp, by simp, by simp [renOf, Blk.live, hO'], by simp⟩ (by simp [renOf, hO'])
  intro st hst
  have hO1 : O0.length ≤ 1 := by
    rw [hO]
    split
    · simp
    · split <;> simp
  have hG : O0 ++ goI l = genI l := by rw [hO]; unfold genI; cases l <;> simp
  refine aloopT mix (by decide) (intF l) (fun x => x.1 ≤ l.length ∧ x.2 ++ goI (l.drop x.1) = genI l ∧ x.2.length ≤ 2 * x.1 + 1) (fun x => l.length - x.1) (0, O0) ⟨by simp, by simpa using hG, by simpa using hO1⟩ hst ?_
  rintro ⟨i, O⟩ ⟨hi, hG, hOl⟩
  simp only at hi hG hOl
  by_cases hlt : i < l.length
  · have hd := goI_drop hlt
    rw [hd] at hG
    obtain ⟨u, hu⟩ : ∃ u, u = l[i] := ⟨_, rfl⟩
    have hgi : ∀ h, l[i]'h = u := fun _ => hu.symm
    rw [← hu] at hG
    have hub := hb u (by rw [hu]; exact List.getElem_mem hlt)
    have hw := wrap_in (n := (i : Int) + 1) (by omega) (by omega)
    have hwn := wrap_in (n := u.n + 1) (by simp [maxI] at hub; omega) (by simp [maxI] at hub; omega)
    have hfin : ∀ (O' : List V) st', O' ++ goI (l.drop (i + 1)) = genI l → O'.length ≤ 2 * (i + 1) + 1 → Sub En 64 0 st' (intF l (i + 1, O')) → ANext En 64 0 (intF l) (fun x => x.1 ≤ l.length ∧ x.2 ++ goI (l.drop x.1) = genI l ∧ x.2.length ≤ 2 * x.1 + 1) (fun x => l.length - x.1) (i, O) st' ⟨⟩ := fun O' st' h1 h2 h3 => ⟨(i + 1, O'), ⟨by simp only; omega, h1, h2⟩, h3, by simp only; omega⟩
    by_cases hm : u.n + 1 ≤ 1000000000000
    · by_cases hlast : i + 1 = l.length
      · have hlast' : ((i : Int) + 1 == l.length) = true := by simp; omega
        have hn : l[i + 1]? = none := List.getElem?_eq_none (by omega)
        rw [hn, if_pos ⟨hm, rfl⟩] at hG
        simp [intF, hlt, hgi, V.c, hwn, hw, hm, hlast', szs (O.length + 1) (by omega) 32 (by decide), szs O.length (by omega) 32 (by decide)]
        (repeat' (first | contradiction | exact .of (by kernel_rfl) | refine And.intro ?_ ?_ | intro _ | (refine agrd_cases (fun h => ?_) (fun h => ?_) <;> (have h' := h; (try simp at h'); first | done | simp [h, h', hm, hlast'] | simp [hm, hlast']))))
        refine acallT_plain (r13_number (u.n + 1)) (by simp [V.a]) ?_
        simp [V.a, hlast', szs (O.length + 1 + 1) (by omega) 32 (by decide), szs O.length (by omega) 32 (by decide)]
        (repeat' (first | contradiction | exact .of (by kernel_rfl) | refine And.intro ?_ ?_ | intro _ | (refine agrd_cases (fun h => ?_) (fun h => ?_) <;> (have h' := h; (try simp at h'); first | done | simp [h, h'] | simp))))
        refine hfin (O ++ [u, ⟨1, u.n + 1, []⟩]) _ (by rw [List.append_assoc]; exact hG) (by simp; omega) ?_
        refine sub_mk _ [(900, 62, _)] ⟨by simp, by simp, by simp [renOf, Blk.live, V.c], by simp⟩ (by simp [renOf, hw])
      · have hlast' : ¬ (i : Int) + 1 = l.length := by omega
        have hlt1 : i + 1 < l.length := by omega
        have hlt1' : (i : Int) + 1 < l.length := by omega
        have hi0 : (0 : Int) ≤ (i : Int) + 1 := by omega
        obtain ⟨z, hz⟩ : ∃ z, z = l[i + 1] := ⟨_, rfl⟩
        have hgz : ∀ h, l[i + 1]'h = z := fun _ => hz.symm
        have hn : l[i + 1]? = some z := by rw [List.getElem?_eq_getElem hlt1, hz]
        rw [hn] at hG
        by_cases hne : z.n = u.n + 1
        · rw [if_neg (by simp [hne])] at hG
          simp [intF, hlt, hgi, V.c, hwn, hw, hm, hlast', hi0, hlt1, hgz, hne, szs (O.length + 1) (by omega) 32 (by decide), szs O.length (by omega) 32 (by decide)]
          (repeat' (first | contradiction | exact .of (by kernel_rfl) | refine And.intro ?_ ?_ | intro _ | (refine agrd_cases (fun h => ?_) (fun h => ?_) <;> (have h' := h; (try simp at h'); first | done | simp [h, h', hm, hlast', hne] | simp [hm, hlast', hne]))))
          refine hfin (O ++ [u]) _ (by rw [List.append_assoc]; exact hG) (by simp; omega) ?_
          refine sub_mk _ [(900, 32, _)] ⟨by simp, by simp, by simp [renOf, Blk.live, V.c], by simp⟩ (by simp [renOf, hw])
        · rw [if_pos ⟨hm, by simpa using hne⟩] at hG
          simp [intF, hlt, hgi, V.c, hwn, hw, hm, hlast', hi0, hlt1, hgz, hne, szs (O.length + 1) (by omega) 32 (by decide), szs O.length (by omega) 32 (by decide)]
          (repeat' (first | contradiction | exact .of (by kernel_rfl) | refine And.intro ?_ ?_ | intro _ | (refine agrd_cases (fun h => ?_) (fun h => ?_) <;> (have h' := h; (try simp at h'); first | done | simp [h, h', hm, hlast', hne] | simp [hm, hlast', hne]))))
          refine acallT_plain (r13_number (u.n + 1)) (by simp [V.a]) ?_
          simp [V.a, szs (O.length + 1 + 1) (by omega) 32 (by decide), szs O.length (by omega) 32 (by decide)]
          (repeat' (first | contradiction | exact .of (by kernel_rfl) | refine And.intro ?_ ?_ | intro _ | (refine agrd_cases (fun h => ?_) (fun h => ?_) <;> (have h' := h; (try simp at h'); first | done | simp [h, h'] | simp))))
          refine hfin (O ++ [u, ⟨1, u.n + 1, []⟩]) _ (by rw [List.append_assoc]; exact hG) (by simp; omega) ?_
          refine sub_mk _ [(900, 62, _)] ⟨by simp, by simp, by simp [renOf, Blk.live, V.c], by simp⟩ (by simp [renOf, hw])
    · have hm' : ¬ u.n + 1 ≤ maxI := hm
      rw [if_neg (fun h => hm' h.1)] at hG
      simp [intF, hlt, hgi, V.c, hwn, hw, hm, szs (O.length + 1) (by omega) 32 (by decide), szs O.length (by omega) 32 (by decide)]
      (repeat' (first | contradiction | exact .of (by kernel_rfl) | refine And.intro ?_ ?_ | intro _ | (refine agrd_cases (fun h => ?_) (fun h => ?_) <;> (have h' := h; (try simp at h'); first | done | simp [h, h', hm] | simp [hm]))))
      refine hfin (O ++ [u]) _ (by rw [List.append_assoc]; exact hG) (by simp; omega) ?_
      refine sub_mk _ [(900, 32, _)] ⟨by simp, by simp, by simp [renOf, Blk.live, V.c], by simp⟩ (by simp [renOf, hw])
  have hie : i = l.length := by omega
  subst hie
  rw [List.drop_length, goI, List.append_nil] at hG
  rw [← hG]
  simp [intF]
  (repeat' (first | contradiction | exact .of (by kernel_rfl) | refine And.intro ?_ ?_ | intro _ | (refine agrd_cases (fun h => ?_) (fun h => ?_) <;> (have h' := h; (try simp at h'); first | done | simp [h, h'] | simp))))
  refine ⟨_, [(1000000, 900, .arr 54 3 (O.map V.c) false)], by simp; rfl, ⟨by simp, by simp, by simp [renOf, Blk.live], by simp⟩, by simp [List.zipIdx, firstName_eq], by simp [renOf]⟩
theorem r13_texts (l : List V) (hl : l.length ≤ 1000) (hb : ∀ v ∈ l, v.t ≠ [48]) : Cf En 41 [.d (.sl (l.map V.c))] [] (.ref 1000000 0 (l.length + 1) 3) [.arr 54 3 ((l ++ [(⟨3, 0, [48]⟩ : V)]).map V.c) false] := by
  refine cf_intro mix (fn := Tryz.f41) (by kernel_rfl) rfl (by kernel_rfl) (by decide) (by simp) ?_
  simp [szs l.length (by omega) 32 (by decide)]
  (repeat' (first | contradiction | exact .of (by kernel_rfl) | refine And.intro ?_ ?_ | intro _ | (refine agrd_cases (fun h => ?_) (fun h => ?_) <;> (have h' := h; (try simp at h'); first | done | simp [h, h'] | simp))))
  refine aloopT mix (by decide) (fun _ : Unit => { s := mkS [(0, .d (.sl (l.map V.c))), (3, .ref 900 0 l.length 3), (4, .d (.int .i64 0))], b := mkB [(900, 900, .arr 54 3 (l.map V.c) false)] }) (fun _ => True) (fun _ => 0) () trivial (sub_mk _ [(900, 10, _)] ⟨by simp, by simp, by simp [renOf, Blk.live], by simp⟩ (by simp [renOf])) ?_
  intro _ _
  simp
  (repeat' (first | contradiction | exact .of (by kernel_rfl) | refine And.intro ?_ ?_ | intro _ | (refine agrd_cases (fun h => ?_) (fun h => ?_) <;> (have h' := h; (try simp at h'); first | done | simp [h, h'] | simp))))
  refine acallT_plain (itoa0) (by simp [V.a]) ?_
  simp
  (repeat' (first | contradiction | exact .of (by kernel_rfl) | refine And.intro ?_ ?_ | intro _ | (refine agrd_cases (fun h => ?_) (fun h => ?_) <;> (have h' := h; (try simp at h'); first | done | simp [h, h'] | simp))))
  refine aloopT mix (by decide) (fun i : Nat => { s := mkS [(0, .d (.sl (l.map V.c))), (3, .ref 900 0 l.length 3), (4, .d (.int .i64 0)), (5, .ptr 5 0 0), (6, .d (.bool false)), (7, .d (.int .i64 i))], b := mkB [(900, 900, .arr 54 3 (l.map V.c) false), (5, 5, .var [.d (.int .i64 3), .d (.int .i64 0), .d (.str [48])])] }) (fun i => i ≤ l.length) (fun i => l.length - i) 0 (by simp) (sub_mk _ [(900, 900, _), (5, 5, _)] ⟨by simp, by simp, by simp [renOf, Blk.live], by simp⟩ (by simp [renOf])) ?_
  intro i hi
  by_cases hlt : i < l.length
  · obtain ⟨u, hu⟩ : ∃ u, u = l[i] := ⟨_, rfl⟩
    have hgi : ∀ h, l[i]'h = u := fun _ => hu.symm
    have hub := hb u (by rw [hu]; exact List.getElem_mem hlt)
    have hw := wrap_in (n := (i : Int) + 1) (by omega) (by omega)
    have hne : ¬ u.cmp ⟨3, 0, [48]⟩ = 0 := fun e => hub (by rw [V.cmp_eq e])
    simp [hlt, hgi, V.c]
    (repeat' (first | contradiction | exact .of (by kernel_rfl) | refine And.intro ?_ ?_ | intro _ | (refine agrd_cases (fun h => ?_) (fun h => ?_) <;> (have h' := h; (try simp at h'); first | done | simp [h, h'] | simp))))
    refine acallT_plain (r_same u ⟨3, 0, [48]⟩) (by simp [V.a]) ?_
    simp [hne]
    (repeat' (first | contradiction | exact .of (by kernel_rfl) | refine And.intro ?_ ?_ | intro _ | (refine agrd_cases (fun h => ?_) (fun h => ?_) <;> (have h' := h; (try simp at h'); first | done | simp [h, h', hne] | simp [hne]))))
    refine ⟨i + 1, by omega, ?_, by simp; omega⟩
    refine sub_mk _ [(900, 900, _), (5, 5, _)] ⟨by simp, by simp, by simp [renOf, Blk.live], by simp⟩ (by simp [renOf, hw, hne])
  have hie : i = l.length := by omega
  subst hie
  simp [szs (l.length + 1) (by omega) 32 (by decide), szs l.length (by omega) 32 (by decide)]
  (repeat' (first | contradiction | exact .of (by kernel_rfl) | refine And.intro ?_ ?_ | intro _ | (refine agrd_cases (fun h => ?_) (fun h => ?_) <;> (have h' := h; (try simp at h'); first | done | simp [h, h'] | simp))))
  refine ⟨_, [(1000000, 36, .arr 54 3 ((l ++ [(⟨3, 0, [48]⟩ : V)]).map V.c) false)], by simp; rfl, ⟨by simp, by simp, by simp [renOf, Blk.live, V.c], by simp⟩, by simp [List.zipIdx, firstName_eq], by simp [renOf]⟩
end Go.Proofs.Tryz
