/- RegionRepresents: the law. -/
import Derived.Test.YtlimkhfjidcelaaGreatDoorRrp
set_option linter.all false
namespace Go.Proofs.Tryz
open Go.Ab
set_option maxRecDepth 100000
set_option maxHeartbeats 4000000

theorem region_represents (L : List Int) (v : V) : Cf Eo 5 [.d (.sl (ints L)), v.a] [] (.d (.bool true)) [] := by
  refine cf_intro mixo (fn := Tryz.f5) (by kernel_rfl) rfl (by kernel_rfl) (by decide) (by simp) ?_
  have hpl := up (t_plain L 0 (by omega))
  have hn := nextV_in L 0 (n := 3) (by omega)
  have hle := tabsP_le L 1 (1 + nextV L 0 3).toNat
  have hln := tabsP_len L 1 (1 + nextV L 0 3).toNat
  have hmem : ∀ x ∈ (tabsP L 1 (1 + nextV L 0 3).toNat).1, Made x := fun x h => tabs_made h
  have h0 : (0 : Nat) + 1 = 1 := rfl
  rw [h0] at hpl
  have hN : 1 ≤ (1 + nextV L 0 3).toNat ∧ (1 + nextV L 0 3).toNat ≤ 3 := by omega
  generalize (1 + nextV L 0 3).toNat = N at *
  generalize tabsP L 1 N = S at *
  obtain ⟨tabs, i1⟩ := S
  simp only at *
  have hu := nextV_in L i1 (n := tabs.length) (by omega)
  have hnx := up (t_next1 L i1 (by omega) tabs.length (by omega) (by omega))
  generalize nextV L i1 tabs.length = u at *
  have hult : u.toNat < tabs.length := by omega
  obtain ⟨x, hx⟩ : ∃ x, x = tabs[u.toNat] := ⟨_, rfl⟩
  have hgi : ∀ h, tabs[u.toNat]'h = x := fun _ => hx.symm
  have hmd := hmem x (by rw [hx]; exact List.getElem_mem hult)
  have hats := up (t_atoms L (i1 + 1) (by omega) x hmd 5 (by omega))
  have hok := atsG_ok L hmd (nextV L (i1 + 1) ((5 : Nat) + 1)).toNat (i1 + 1 + 1)
  have hal := atsG_len L x (nextV L (i1 + 1) ((5 : Nat) + 1)).toNat (i1 + 1 + 1)
  have hae := atsG_le L x (nextV L (i1 + 1) ((5 : Nat) + 1)).toNat (i1 + 1 + 1)
  have h7 := nextV_in L (i1 + 1) (n := (5 : Nat) + 1) (by omega)
  have hal2 : (atsG L x (nextV L (i1 + 1) ((5 : Nat) + 1)).toNat (i1 + 1 + 1)).1.length ≤ 6 := by omega
  have hi2 : (atsG L x (nextV L (i1 + 1) ((5 : Nat) + 1)).toNat (i1 + 1 + 1)).2 ≤ 1000 := by omega
  clear hal h7 hmem hae
  generalize atsG L x (nextV L (i1 + 1) ((5 : Nat) + 1)).toNat (i1 + 1 + 1) = q at *
  obtain ⟨A, i2⟩ := q
  simp only at *
  have hu0 := hu.1
  have hcl := hmd.ok.cols
  simp [ints, V.a]
  (repeat' (first | contradiction | exact .of (by kernel_rfl) | refine And.intro ?_ ?_ | intro _ | (refine agrd_cases (fun h => ?_) (fun h => ?_) <;> (have h' := h; (try simp at h'); first | done | simp [h, h'] | simp))))
  refine acallT_hand [19] hpl (by simp) (by simp) (by simp) (by simp [tapB]) (by simp) ?_
  simp [tapB]
  (repeat' (first | contradiction | exact .of (by kernel_rfl) | refine And.intro ?_ ?_ | intro _ | (refine agrd_cases (fun h => ?_) (fun h => ?_) <;> (have h' := h; (try simp at h'); first | done | simp [h, h'] | simp))))
  refine acallT_hand [19] hnx (by simp) (by simp) (by simp) (by simp [tapB]) (by simp) ?_
  simp [tapB, hu0, hult, hgi, Tb.c]
  (repeat' (first | contradiction | exact .of (by kernel_rfl) | refine And.intro ?_ ?_ | intro _ | (refine agrd_cases (fun h => ?_) (fun h => ?_) <;> (have h' := h; (try simp at h'); first | done | simp [h, h'] | simp))))
  refine acallT_hand [19] hats (by simp) (by simp) (by simp) (by simp [tapB]; try omega) (by simp [Tb.a, Tb.c]) ?_
  simp [tapB]
  (repeat' (first | contradiction | exact .of (by kernel_rfl) | refine And.intro ?_ ?_ | intro _ | (refine agrd_cases (fun h => ?_) (fun h => ?_) <;> (have h' := h; (try simp at h'); first | done | simp [h, h'] | simp))))
  refine aloopT mixo (by decide) (rrF L v x A) (fun y => y.1 ≤ x.cols.length ∧ y.2 ≤ i2 + y.1) (fun y => x.cols.length - y.1) (0, i2) ⟨by simp, by simp⟩ (sub_mk _ [(19, 19, _), (3, 3, _), (7, 7, _)] ⟨by simp, by simp, by simp [renOf, Blk.live, Tb.c, tapB, V.c], by simp⟩ (by simp [renOf])) ?_
  rintro ⟨c, i⟩ ⟨hc, hi⟩
  simp only at hc hi
  by_cases hlt : c < x.cols.length
  · obtain ⟨y, hy⟩ : ∃ y, y = x.cols[c] := ⟨_, rfl⟩
    have hgy : ∀ h, x.cols[c]'h = y := fun _ => hy.symm
    have hw := wrap_in (n := (c : Int) + 1) (by omega) (by omega)
    have hwn := wrap_in (n := -(c : Int)) (by omega) (by omega)
    have hyt := hmd.ty y (by rw [hy]; exact List.getElem_mem hlt)
    have hty : typT x c = y.t := by rw [typT_at hlt, hy]
    have hA1 : ∀ a ∈ A, a.col = c → a.v.k = 0 ∨ a.v.k = y.t := fun a ha he => by
      have h := hok a ha
      have htc : typT x a.col = y.t := by rw [he, hty]
      rcases h.kind with k | k | k | k | k
      · exact .inl (by rw [k.2]; rfl)
      · exact .inr (by omega)
      · exact .inl (by rw [k.2.2]; rfl)
      · exact .inr (by omega)
      · exact .inr (by omega)
    have hA2 : ∀ a ∈ A, a.v.t.length ≤ 200 := fun a ha => Nat.le_trans (hok a ha).len (by omega)
    have hA3 : ∀ a ∈ A, -maxI ≤ a.v.n ∧ a.v.n ≤ maxI := fun a ha => by have := (hok a ha).num; simp only [maxI]; omega
    have hA4 : ∀ a ∈ A, a.v.t ≠ [48] := fun a ha => (hok a ha).no0
    have hpc := p13_classes y c A (by omega) hyt hA1 hA2 hA3 hA4
    have hlen := classes_len c y.t y.b A (by omega)
    have hvb := up (t_valB L i (by omega) y.t hyt y.b)
    obtain ⟨vb1, vb2⟩ := valB_ok L i y.t hyt y.b
    have hvd := up (r_valid v)
    have hone : ∀ w : V, w.valid = true → (w.k = y.t ∨ (y.b = true ∧ w = nulV)) → (classesG c y.t y.b A).countP (fun u => smG A c w u) = 1 := fun w h1 h2 => by
      have := classes_one hok hty hyt y.b h1 h2
      simpa only [smG_eq] using this
    generalize classesG c y.t y.b A = CL at *
    generalize valB L i y.t y.b = w0 at *
    simp [rrF, tapB, Tb.c, hlt, hgy, Col.c]
    (repeat' (first | contradiction | exact .of (by kernel_rfl) | refine And.intro ?_ ?_ | intro _ | (refine agrd_cases (fun h => ?_) (fun h => ?_) <;> (have h' := h; (try simp at h'); first | done | simp [h, h'] | simp))))
    refine acallT_plain (up (r_key x hmd.ok c)) (by simp [Tb.a, Tb.c]) ?_
    cases hk : keyT x c
    · refine' (fun (key : ∀ w : V, w.valid = true → (w.k = y.t ∨ (y.b = true ∧ w = nulV)) → LoopKey Eo 129 0 { s := mkS [(3, .ptr 3 0 0), (5, .ptr 19 0 0), (7, .ptr 7 0 0), (8, .d (.sl (A.map At.c))), (9, .d (.int .i64 c)), (10, .ptr 10 0 0), (11, .d (.sl (CL.map V.c))), (12, .d (.int .i64 0)), (13, .d (.int .i64 0))], b := mkB [(19, 19, tapB L (i + 1 : Nat)), (3, 3, .var (v.c.map AV.d)), (7, 7, .var (x.c.map AV.d)), (10, 10, .var (w.c.map AV.d))] } _ _) => ?main) ?keyg
      case main =>
        simp
        (repeat' (first | contradiction | exact .of (by kernel_rfl) | refine And.intro ?_ ?_ | intro _ | (refine agrd_cases (fun h => ?_) (fun h => ?_) <;> (have h' := h; (try simp at h'); first | done | simp [h, h'] | simp))))
        simp [tapB, Tb.c, hlt, hgy, Col.c]
        refine acallT_hand [19] hvb (by simp) (by simp) (by simp) (by simp [tapB]) (by simp) ?_
        simp [tapB, V.a, V.c]
        (repeat' (first | contradiction | exact .of (by kernel_rfl) | refine And.intro ?_ ?_ | intro _ | (refine agrd_cases (fun h => ?_) (fun h => ?_) <;> (have h' := h; (try simp at h'); first | done | simp [h, h'] | simp))))
        refine acallT_plain hvd (by simp [V.a]) ?_
        by_cases hcase : v.valid = true ∧ v.k = y.t
        · obtain ⟨hv1, hv2⟩ := hcase
          simp [hv1, hv2, Tb.c, hlt, hgy, Col.c]
          (repeat' (first | contradiction | exact .of (by kernel_rfl) | refine And.intro ?_ ?_ | intro _ | (refine agrd_cases (fun h => ?_) (fun h => ?_) <;> (have h' := h; (try simp at h'); first | done | simp [h, h', hv1, hv2] | simp [hv1, hv2]))))
          refine acallT_plain hpc (by simp [Col.a, Col.c]) ?_
          simp
          (repeat' (first | contradiction | exact .of (by kernel_rfl) | refine And.intro ?_ ?_ | intro _ | (refine agrd_cases (fun h => ?_) (fun h => ?_) <;> (have h' := h; (try simp at h'); first | done | simp [h, h'] | simp))))
          refine key v hv1 (.inl hv2) _ ?_
          exact sub_mk _ [(19, 19, _), (3, 3, _), (7, 7, _), (10, 10, _)] ⟨by simp, by simp, by simp [renOf, Blk.live, Tb.c, tapB, V.c, hv2], by simp⟩ (by simp [renOf])
        · cases hv1 : v.valid
          · simp [Tb.c, hlt, hgy, Col.c]
            (repeat' (first | contradiction | exact .of (by kernel_rfl) | refine And.intro ?_ ?_ | intro _ | (refine agrd_cases (fun h => ?_) (fun h => ?_) <;> (have h' := h; (try simp at h'); first | done | simp [h, h'] | simp))))
            refine acallT_plain hpc (by simp [Col.a, Col.c]) ?_
            simp
            (repeat' (first | contradiction | exact .of (by kernel_rfl) | refine And.intro ?_ ?_ | intro _ | (refine agrd_cases (fun h => ?_) (fun h => ?_) <;> (have h' := h; (try simp at h'); first | done | simp [h, h'] | simp))))
            refine key w0 vb1 vb2 _ ?_
            exact sub_mk _ [(19, 19, _), (3, 3, _), (7, 7, _), (10, 10, _)] ⟨by simp, by simp, by simp [renOf, Blk.live, Tb.c, tapB, V.c], by simp⟩ (by simp [renOf])
          · have hv2 : ¬ v.k = y.t := fun e => hcase ⟨hv1, e⟩
            simp [hv2, Tb.c, hlt, hgy, Col.c]
            (repeat' (first | contradiction | exact .of (by kernel_rfl) | refine And.intro ?_ ?_ | intro _ | (refine agrd_cases (fun h => ?_) (fun h => ?_) <;> (have h' := h; (try simp at h'); first | done | simp [h, h', hv2] | simp [hv2]))))
            refine acallT_plain hpc (by simp [Col.a, Col.c]) ?_
            simp
            (repeat' (first | contradiction | exact .of (by kernel_rfl) | refine And.intro ?_ ?_ | intro _ | (refine agrd_cases (fun h => ?_) (fun h => ?_) <;> (have h' := h; (try simp at h'); first | done | simp [h, h'] | simp))))
            refine key w0 vb1 vb2 _ ?_
            exact sub_mk _ [(19, 19, _), (3, 3, _), (7, 7, _), (10, 10, _)] ⟨by simp, by simp, by simp [renOf, Blk.live, Tb.c, tapB, V.c], by simp⟩ (by simp [renOf])
      intro w hw1 hw2 st hst
      have h1 := hone w hw1 hw2
      refine aloopT mixo (by decide) (fun k : Nat => { s := mkS [(3, .ptr 3 0 0), (5, .ptr 19 0 0), (7, .ptr 7 0 0), (8, .d (.sl (A.map At.c))), (9, .d (.int .i64 c)), (10, .ptr 10 0 0), (11, .d (.sl (CL.map V.c))), (12, .d (.int .i64 ((CL.take k).countP fun u => smG A c w u : Nat))), (13, .d (.int .i64 k))], b := mkB [(19, 19, tapB L (i + 1 : Nat)), (3, 3, .var (v.c.map AV.d)), (7, 7, .var (x.c.map AV.d)), (10, 10, .var (w.c.map AV.d))] }) (fun k => k ≤ CL.length) (fun k => CL.length - k) 0 (by simp)
        (hst.trans (sub_mk _ [(19, 19, _), (3, 3, _), (7, 7, _), (10, 10, _)] ⟨by simp, by simp, by simp [renOf, Blk.live, Tb.c, tapB, V.c], by simp⟩ (by simp [renOf]))) ?_
      intro k hkl
      by_cases hkt : k < CL.length
      · obtain ⟨u, hu⟩ : ∃ u, u = CL[k] := ⟨_, rfl⟩
        have hgu : ∀ h, CL[k]'h = u := fun _ => hu.symm
        have hct := countP_take (p := fun u => smG A c w u) hkt
        rw [← hu] at hct
        have hcle : (CL.take k).countP (fun u => smG A c w u) ≤ k := Nat.le_trans List.countP_le_length (by simp; omega)
        generalize (CL.take k).countP (fun u => smG A c w u) = cnt at *
        have hwk := wrap_in (n := (k : Int) + 1) (by omega) (by omega)
        have hwc := wrap_in (n := (cnt : Int) + 1) (by omega) (by omega)
        simp [hkt]
        (repeat' (first | contradiction | exact .of (by kernel_rfl) | refine And.intro ?_ ?_ | intro _ | (refine agrd_cases (fun h => ?_) (fun h => ?_) <;> (have h' := h; (try simp at h'); first | done | simp [h, h'] | simp))))
        refine aloopT mixo (by decide) (fun j : Nat => { s := mkS [(3, .ptr 3 0 0), (5, .ptr 19 0 0), (7, .ptr 7 0 0), (8, .d (.sl (A.map At.c))), (9, .d (.int .i64 c)), (10, .ptr 10 0 0), (11, .d (.sl (CL.map V.c))), (12, .d (.int .i64 cnt)), (13, .d (.int .i64 k)), (14, .d (.bool (smG (A.take j) c w u))), (15, .d (.int .i64 j))], b := mkB [(19, 19, tapB L (i + 1 : Nat)), (3, 3, .var (v.c.map AV.d)), (7, 7, .var (x.c.map AV.d)), (10, 10, .var (w.c.map AV.d))] }) (fun j => j ≤ A.length) (fun j => A.length - j) 0 (by simp)
          (sub_mk _ [(19, 19, _), (3, 3, _), (7, 7, _), (10, 10, _)] ⟨by simp, by simp, by simp [renOf, Blk.live, Tb.c, tapB, V.c], by simp⟩ (by simp [renOf, smG])) ?_
        intro j hj
        by_cases hjt : j < A.length
        · obtain ⟨a, ha⟩ : ∃ a, a = A[j] := ⟨_, rfl⟩
          have hga : ∀ h, A[j]'h = a := fun _ => ha.symm
          have hst2 := smG_take (c := c) (w := w) (u := u) hjt
          rw [← ha] at hst2
          have hat := hA2 a (by rw [ha]; exact List.getElem_mem hjt)
          have hwj := wrap_in (n := (j : Int) + 1) (by omega) (by omega)
          generalize smG (A.take j) c w u = sm at *
          by_cases hac : a.col = c
          · have hsh := r_shift (SizeOf.sizeOf a.ex + 1) a.ex (by omega) 0 (few_ex hat 0 (by omega)) (-(c : Int))
            rw [ex_shift hac] at hsh
            have hzt : a.zero.v.t.length ≤ 200 := hat
            have he1 := reval_cf [w] (by simp) (SizeOf.sizeOf a.zero.ex + 1) a.zero.ex (by omega) 0 (few_ex hzt 0 (by omega))
            have he2 := reval_cf [u] (by simp) (SizeOf.sizeOf a.zero.ex + 1) a.zero.ex (by omega) 0 (few_ex hzt 0 (by omega))
            have hce := a.zero.ex.clen
            have hct1 := a.zero.ex.ctake
            have hct2 := a.zero.ex.ctake'
            have htw : (evalV a.zero.ex [w]).tr = a.tr w := rfl
            have htu : (evalV a.zero.ex [u]).tr = a.tr u := rfl
            simp [hjt, hga, At.c, hac]
            (repeat' (first | contradiction | exact .of (by kernel_rfl) | refine And.intro ?_ ?_ | intro _ | (refine agrd_cases (fun h => ?_) (fun h => ?_) <;> (have h' := h; (try simp at h'); first | done | simp [h, h', hac] | simp [hac]))))
            refine acallT_plain (up (r13_expr a)) (by simp [At.a, At.c, hac]) ?_
            simp [Ex.a, Ex.ctake, Ex.ctake', Ex.clen, hwn]
            refine acallT_plain (up hsh) (by simp [Ex.a, Ex.ctake, Ex.ctake', Ex.clen, hwn]) ?_
            cases sm
            · simp [Ex.a, hce, hct1, hct2]
              (repeat' (first | contradiction | exact .of (by kernel_rfl) | refine And.intro ?_ ?_ | intro _ | (refine agrd_cases (fun h => ?_) (fun h => ?_) <;> (have h' := h; (try simp at h'); first | done | simp [h, h'] | simp))))
              refine ⟨j + 1, by omega, ?_, by simp; omega⟩
              exact sub_mk _ [(19, 19, _), (3, 3, _), (7, 7, _), (10, 10, _)] ⟨by simp, by simp, by simp [renOf, Blk.live, Tb.c, tapB, V.c], by simp⟩ (by simp [renOf, hwj, hst2])
            · simp [Ex.a, hce, hct1, hct2, V.c]
              (repeat' (first | contradiction | exact .of (by kernel_rfl) | refine And.intro ?_ ?_ | intro _ | (refine agrd_cases (fun h => ?_) (fun h => ?_) <;> (have h' := h; (try simp at h'); first | done | simp [h, h'] | simp))))
              refine acallT_plain (up he1) (by simp [Ex.a, hce, hct1, hct2, V.c]) ?_
              simp [V.a, Ex.a, hce, hct1, hct2, V.c]
              refine acallT_plain (up (r_truth (evalV a.zero.ex [w]))) (by simp [V.a]) ?_
              simp [V.a, Ex.a, hce, hct1, hct2, V.c, hkt, hgu]
              refine acallT_plain (up he2) (by simp [Ex.a, hce, hct1, hct2, V.c]) ?_
              simp [V.a]
              refine acallT_plain (up (r_truth (evalV a.zero.ex [u]))) (by simp [V.a]) ?_
              simp [htw, htu]
              (repeat' (first | contradiction | exact .of (by kernel_rfl) | refine And.intro ?_ ?_ | intro _ | (refine agrd_cases (fun h => ?_) (fun h => ?_) <;> (have h' := h; (try simp at h'); first | done | simp [h, h'] | simp))))
              refine ⟨j + 1, by omega, ?_, by simp; omega⟩
              exact sub_mk _ [(19, 19, _), (3, 3, _), (7, 7, _), (10, 10, _)] ⟨by simp, by simp, by simp [renOf, Blk.live, Tb.c, tapB, V.c], by simp⟩ (by simp [renOf, hwj, hst2, hac, htw, htu])
          · have hst3 : smG (A.take (j + 1)) c w u = sm := by
              rw [hst2, show (a.col == (c : Int)) = false from by simpa using hac]; simp
            simp [hjt, hga, At.c, hac]
            (repeat' (first | contradiction | exact .of (by kernel_rfl) | refine And.intro ?_ ?_ | intro _ | (refine agrd_cases (fun h => ?_) (fun h => ?_) <;> (have h' := h; (try simp at h'); first | done | simp [h, h', hac] | simp [hac]))))
            refine ⟨j + 1, by omega, ?_, by simp; omega⟩
            exact sub_mk _ [(19, 19, _), (3, 3, _), (7, 7, _), (10, 10, _)] ⟨by simp, by simp, by simp [renOf, Blk.live, Tb.c, tapB, V.c], by simp⟩ (by simp [renOf, hwj, hst3])
        have hje : j = A.length := by omega
        subst hje
        rw [List.take_length]
        cases hsm : smG A c w u
        · rw [hsm] at hct
          simp
          (repeat' (first | contradiction | exact .of (by kernel_rfl) | refine And.intro ?_ ?_ | intro _ | (refine agrd_cases (fun h => ?_) (fun h => ?_) <;> (have h' := h; (try simp at h'); first | done | simp [h, h'] | simp))))
          refine ⟨k + 1, by omega, ?_, by simp; omega⟩
          exact sub_mk _ [(19, 19, _), (3, 3, _), (7, 7, _), (10, 10, _)] ⟨by simp, by simp, by simp [renOf, Blk.live, Tb.c, tapB, V.c], by simp⟩ (by simp [renOf, hwk, hct])
        · rw [hsm] at hct
          simp
          (repeat' (first | contradiction | exact .of (by kernel_rfl) | refine And.intro ?_ ?_ | intro _ | (refine agrd_cases (fun h => ?_) (fun h => ?_) <;> (have h' := h; (try simp at h'); first | done | simp [h, h'] | simp))))
          refine ⟨k + 1, by omega, ?_, by simp; omega⟩
          exact sub_mk _ [(19, 19, _), (3, 3, _), (7, 7, _), (10, 10, _)] ⟨by simp, by simp, by simp [renOf, Blk.live, Tb.c, tapB, V.c], by simp⟩ (by simp [renOf, hwk, hwc, hct])
      have hke : k = CL.length := by omega
      subst hke
      rw [List.take_length, h1]
      simp
      (repeat' (first | contradiction | exact .of (by kernel_rfl) | refine And.intro ?_ ?_ | intro _ | (refine agrd_cases (fun h => ?_) (fun h => ?_) <;> (have h' := h; (try simp at h'); first | done | simp [h, h'] | simp))))
      refine ⟨(c + 1, i + 1), ⟨by simp only; omega, by simp only; omega⟩, ?_, by simp; omega⟩
      exact sub_mk _ [(19, 19, _), (3, 3, _), (7, 7, _)] ⟨by simp, by simp, by simp [renOf, Blk.live, Tb.c, tapB, V.c], by simp⟩ (by simp [renOf, hw])
    · simp
      (repeat' (first | contradiction | exact .of (by kernel_rfl) | refine And.intro ?_ ?_ | intro _ | (refine agrd_cases (fun h => ?_) (fun h => ?_) <;> (have h' := h; (try simp at h'); first | done | simp [h, h'] | simp))))
      refine ⟨(c + 1, i), ⟨by simp only; omega, by simp only; omega⟩, ?_, by simp; omega⟩
      exact sub_mk _ [(19, 19, _), (3, 3, _), (7, 7, _)] ⟨by simp, by simp, by simp [renOf, Blk.live, Tb.c, tapB, V.c], by simp⟩ (by simp [renOf, hw])
  have hce : c = x.cols.length := by omega
  subst hce
  simp [rrF, Tb.c]
  (repeat' (first | contradiction | exact .of (by kernel_rfl) | refine And.intro ?_ ?_ | intro _ | (refine agrd_cases (fun h => ?_) (fun h => ?_) <;> (have h' := h; (try simp at h'); first | done | simp [h, h'] | simp))))
end Go.Proofs.Tryz
