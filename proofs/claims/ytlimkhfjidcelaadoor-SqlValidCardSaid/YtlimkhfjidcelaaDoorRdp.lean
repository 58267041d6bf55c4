/- Depths of statements: the reference's. -/
import Derived.Test.YtlimkhfjidcelaaDoorSdp
set_option linter.all false
namespace Go.Proofs.Tryd
open Go.Ab
set_option maxHeartbeats 1000000

theorem itsDep_most (l : List It) : itsDep l = most (l.map fun i => i.t.dep) := by
  rw [itsDep, tmsDep_most, List.map_map]; rfl
theorem mxi (a b : Int) : (if a < b then b else a) = max a b := by split <;> omega
theorem r_depth : ∀ (m : Nat) (x : Sm), SizeOf.sizeOf x < m → x.fits → Cf En 37 [x.a] [] (.d (.int .i64 x.dep)) []
  | 0, _, h, _ => absurd h (by omega)
  | m + 1, x, hm, hfit => by
    refine cf_intro mix (fn := Tryd.f37) (by kernel_rfl) rfl (by kernel_rfl) (by decide) (by simp) ?_
    have hq := fun (a : Sm) (ha : SizeOf.sizeOf a < m) (fa : a.fits) => r_depth m a ha fa
    obtain ⟨f, al, d, s, is, ft, fq, fn, js, w, g, h, ks⟩ := x
    have hfq : ∀ a ∈ fq, SizeOf.sizeOf a < m := fun a ha => by
      have := Sm.q_lt (e := .mk f al d s is ft fq fn js w g h ks) ha
      omega
    have hks : ∀ a ∈ ks, SizeOf.sizeOf a < m := fun a ha => by
      have := Sm.kid_lt (e := .mk f al d s is ft fq fn js w g h ks) ha
      omega
    have hjs : ∀ j ∈ js, ∀ a ∈ j.qs, SizeOf.sizeOf a < m := fun j hj a ha => by
      have := Sm.j_lt (e := .mk f al d s is ft fq fn js w g h ks) hj
      have := Jo.q_lt ha
      omega
    rw [Sm.fits] at hfit
    obtain ⟨⟨fi1, fi2⟩, ⟨fq1, fq2⟩, ⟨fj1, fj2⟩, ⟨fw1, fw2⟩, ⟨fg1, fg2⟩, ⟨fh1, fh2⟩, fk1, fk2⟩ := hfit
    have e1 := r_depths ks fk1 fun a ha => hq a (hks a ha) (smsFits_get _ fk2 a ha)
    have e2 := r_depths fq fq1 fun a ha => hq a (hfq a ha) (smsFits_get _ fq2 a ha)
    have e3 := r_deepest w fw1 fw2
    have e4 := r_deepest g fg1 fg2
    have e5 := r_deepest h fh1 fh2
    rw [Sm.dep, itsDep_most, josDep_most]
    generalize hK : smsDep ks = K at *
    generalize hQ : smsDep fq = Q at *
    generalize hW : tmsDep w = W at *
    generalize hG : tmsDep g = G at *
    generalize hH : tmsDep h = H at *
    simp [Sm.a, Sm.c, smsC_map, josC_map]
    refine ⟨.of (by kernel_rfl), acallT_plain e1 (by simp) ?_⟩
    simp [smsC_map, josC_map]
    refine acallT_plain e2 (by simp) ?_
    simp [smsC_map, josC_map]
    refine acallT_plain e3 (by simp) ?_
    simp [smsC_map, josC_map]
    refine acallT_plain e4 (by simp) ?_
    simp [smsC_map, josC_map]
    refine acallT_plain e5 (by simp) ?_
    have hN0 : 0 ≤ max (max (max (max K Q) W) G) H := by
      have := most_nonneg (ks.map Sm.dep)
      rw [smsDep_most] at hK
      omega
    have hfin : ∀ M J : Int, max K (max Q (max W (max G (max H (max M J))))) = max (max (max (max (max (max K Q) W) G) H) M) J := fun M J => by simp only [Int.max_assoc]
    simp [smsC_map, josC_map, mxi]
    rw [hfin]
    generalize hN : max (max (max (max K Q) W) G) H = N at *
    clear hfin
    refine ⟨.of (by kernel_rfl), .of (by kernel_rfl), ?_⟩
    refine aloopT mix (by decide) (fun i : Nat => { s := mkS [(1, .ptr 1 0 0), (3, .d (.int .i64 (max N (most ((is.map fun i => i.t.dep).take i))))), (4, .d (.int .i64 i))], b := mkB [(1, 1, .var (Sm.a (.mk f al d s is ft fq fn js w g h ks)).cells)] }) (fun i : Nat => i ≤ is.length) (fun i => is.length - i) 0 (by simp) (sub_mk _ _ ⟨by simp, by simp, by simp [renOf, Blk.live, Sm.a, Sm.c, smsC_map, josC_map], by simp⟩ (by
      simp [renOf, most]
      omega)) ?_
    rintro i hi
    by_cases hlt : i < is.length
    · have hlt' : (i : Int) < is.length := by omega
      have hg : is[i]? = some is[i] := List.getElem?_eq_getElem hlt
      have hk := most_take (l := is.map fun i => i.t.dep) (i := i) (x := is[i].t.dep) (by rw [List.getElem?_map, hg]; rfl)
      have hq := s_termDepth
      have c1 := It.clen is[i]
      have c2 := Tm.clen is[i].t
      have k1 := Tm.ctake' is[i].t
      simp [Sm.a, Sm.c, smsC_map, josC_map, hlt, hlt', hg, It.c, c2]
      refine ⟨.of (by kernel_rfl), ?_⟩
      refine acallT_plain (r_termDepth _ is[i].t (Nat.lt_succ_self _) (itFits_get fi2 (List.getElem_mem hlt))) (by simp [Tm.a, c2]) ?_
      simp
      refine ⟨.of (by kernel_rfl), .of (by kernel_rfl), i + 1, hlt, ?_, ?_⟩
      · refine sub_mk _ [(1, 1, _)] ⟨by simp, by simp, by simp [renOf, Blk.live, Sm.a, Sm.c, smsC_map, josC_map], by simp⟩ ?_
        simp [renOf]
        refine ⟨?_, wrap_in (by omega) (by omega)⟩
        try simp at hk
        rw [hk, mxi]
        omega
      · simp; omega
    · have hlt' : ¬ (i : Int) < is.length := by omega
      have hall := most_all (l := is.map fun i => i.t.dep) (i := i) (by simp; omega)
      generalize hM : most (is.map fun i => i.t.dep) = M at *
      simp [Sm.a, Sm.c, smsC_map, josC_map, hlt, hlt', hall]
      refine ⟨.of (by kernel_rfl), .of (by kernel_rfl), ?_⟩
      refine aloopT mix (by decide) (fun i : Nat => { s := mkS [(1, .ptr 1 0 0), (3, .d (.int .i64 (max (max N M) (most ((js.map Jo.dep).take i))))), (5, .d (.int .i64 i))], b := mkB [(1, 1, .var (Sm.a (.mk f al d s is ft fq fn js w g h ks)).cells)] }) (fun i : Nat => i ≤ js.length) (fun i => js.length - i) 0 (by simp) (sub_mk _ [(1, 1, _)] ⟨by simp, by simp, by simp [renOf, Blk.live, Sm.a, Sm.c, smsC_map, josC_map], by simp⟩ (by
        simp [renOf, most]
        have := most_nonneg (is.map fun i => i.t.dep)
        try simp at hall
        omega)) ?_
      clear hi hlt hlt' hall i
      rintro i hi
      by_cases hlt : i < js.length
      · have hlt' : (i : Int) < js.length := by omega
        obtain ⟨x, hg⟩ : ∃ x, js[i]? = some x := ⟨_, List.getElem?_eq_getElem hlt⟩
        have hk := most_take (l := js.map Jo.dep) (i := i) (x := x.dep) (by rw [List.getElem?_map, hg]; rfl)
        have hx := josFits_get _ fj2 x (List.mem_of_getElem? hg)
        have hxq := hjs x (List.mem_of_getElem? hg)
        obtain ⟨k0, t0, q0, n0, o0⟩ := x
        rw [Jo.fits] at hx
        rw [Jo.dep] at hk
        have e1 := r_depths q0 hx.1.1 fun a ha => hq a (hxq a ha) (smsFits_get _ hx.1.2 a ha)
        have e2 := r_deepest o0 hx.2.1 hx.2.2
        have hgi : ∀ h, js[i]'h = _ := fun h => (List.getElem?_eq_some_iff.1 hg).2
        simp [Sm.a, Sm.c, smsC_map, josC_map, hlt, hlt', hg, hgi, Jo.c]
        refine ⟨.of (by kernel_rfl), ?_⟩
        refine acallT_plain e1 (by simp) ?_
        simp [smsC_map, josC_map, hlt, hlt', hg, hgi, Jo.c]
        refine acallT_plain e2 (by simp) ?_
        simp
        refine ⟨.of (by kernel_rfl), .of (by kernel_rfl), i + 1, hlt, ?_, ?_⟩
        · refine sub_mk _ [(1, 1, _)] ⟨by simp, by simp, by simp [renOf, Blk.live, Sm.a, Sm.c, smsC_map, josC_map], by simp⟩ ?_
          simp [renOf]
          refine ⟨?_, wrap_in (by omega) (by omega)⟩
          try simp at hk
          rw [hk]
          simp only [mxi]
          omega
        · simp; omega
      · have hlt' : ¬ (i : Int) < js.length := by omega
        have hall := most_all (l := js.map Jo.dep) (i := i) (by simp; omega)
        simp [Sm.a, Sm.c, smsC_map, josC_map, hlt, hlt', hall, up1]
        exact ⟨.of (by kernel_rfl), .of (by kernel_rfl)⟩
end Go.Proofs.Tryd
