/- PROVED: ValueTexts returns true at every value and text, and its arguments read afterwards as before; the listed package-level variables begin as the program's text lays them (the card ties that). No other condition. -/
import Derived.Test.YtlimkhfjidcelaaDoorVtxL
import Derived.Test.YtlimkhfjidcelaaDoorAbB
import Derived.Lib.SmallJoins
import Derived.LaidMore
import Derived.ChangeMaps5
import Derived.Stop.Joined
import Derived.SevenTiedAt
import Derived.Test.YtlimkhfjidcelaaDoorRows
import Derived.Test.YtlimkhfjidcelaaDoorChecked
import Derived.Test.YtlimkhfjidcelaaDoorTie
import Derived.Test.YtlimkhfjidcelaaDoorCards
set_option linter.all false
namespace Go.Proofs.YtlimkhfjidcelaaDoor
open Go Go.ChangeMaps Go.ChangeShapes Go.WideShapes Go.ChangeAt Go.RowKit Go.Ab Go.Proofs.Tryd
set_option maxRecDepth 100000

theorem trod_iface {H : Type} {enc : TypeId × Value → H} {P : Program} {w : World} {base : Nat} {spare : Nat → Bool} {f : Nat} {t : TypeId} {cs : List Value} {n : String} {d : DataW H} {p : List MemPlace}
    (h : DataW.trod enc P w base spare false f t cs = some (.iface n d, p)) : ∃ u v, cs = [.iface u v] := by
  cases f with
  | zero => simp [DataW.trod] at h
  | succ f =>
    unfold DataW.trod at h
    split at h <;> first
      | exact ⟨_, _, rfl⟩
      | (simp [Option.bind_eq_some_iff, Option.map_eq_some_iff] at h; done)
      | (split at h <;> simp [Option.bind_eq_some_iff, Option.map_eq_some_iff] at h; done)
      | (exfalso; split at h
         · split at h
           · rw [Option.bind_eq_some_iff] at h
             obtain ⟨_, _, h⟩ := h
             simp only at h
             split at h <;> simp at h
           · cases h
         · cases h)
theorem laid_iface {P : Program} {w : World} {name : String} {g f : Nat} {t : TypeId} {cs : Array Value} {d : DataW Unit} {p : List MemPlace} {n : String} {en : TypeId × Value → Unit} {base : Nat} {spare : Nat → Bool}
    (hg : P.globalNamed name = some g) (hv : w.var? P name = some cs) (hd : DataW.trod en P w base spare false f t cs.toList = some (.iface n d, p)) :
    RepCells (memOf w) g 0 [.any isErr] ∧ ∃ a ety z, w.heap[g]? = some (.cells a ety z) ∧ a.size = 1 := by
  obtain ⟨u, v, e⟩ := trod_iface hd
  have hs : cs.size = 1 := by rw [← Array.length_toList, e]; rfl
  refine ⟨RepL_cells (l := [.iface u v]) ⟨?_, trivial⟩ fun i x hi => ?_, ?_⟩
  · simp [RepD, isErr, Value.oneCell']
  · unfold memOf
    rw [World.var?_cell hg hv, Nat.zero_add, ← Array.getElem?_toList, e]
    exact hi
  · simp only [World.var?, hg, Option.bind_some] at hv
    split at hv
    · rename_i a ety z h
      simp only [Option.some.injEq] at hv
      subst hv
      exact ⟨_, _, _, h, by simpa using hs⟩
    · cases hv

theorem own : ownKnob Tryd.prog.godebug = none := by kernel_rfl
theorem laidOut : laidOutB Tryd.prog = true := by kernel_rfl
theorem gNull : Tryd.prog.globalNamed "querylab/value.null" = some 0 := by kernel_rfl
theorem tNull : (Tryd.prog.globals[0]?).map (·.type) = some 69 := by kernel_rfl
theorem gSyn : Tryd.prog.globalNamed "strconv.ErrSyntax" = some 2 := by kernel_rfl
theorem gRan : Tryd.prog.globalNamed "strconv.ErrRange" = some 3 := by kernel_rfl
theorem tPow : (Tryd.prog.globals[4]?).map (·.type) = some 195 := by kernel_rfl
/-- What reads as a value is one. -/
theorem v_open {H : Type} {enc : TypeId × Value → H} {W : World} {base : Nat} {r : Reach} {b0 : Nat} {spare : Nat → Bool} {held : Bool} {v : Value} {d : DataW H} {p : List MemPlace}
    (hv : Value.okWide Tryd.prog W r b0 69 v) (h : DataW.Trod enc Tryd.prog W base spare held 69 v d p) (μ : Nat → Nat → Option Value) :
    ∃ u : V, RepA ⟨μ, fun _ => none⟩ v u.a ∧ (Lit.int .i64 u.k).wf = true ∧ (Lit.int .i64 u.n).wf = true := by
  obtain ⟨v0, v1, v2, y0, y1, y2, n, rfl, _, _, h0, h1, h2⟩ := Go.Joins.open_agg3 Tryd.underlying69 (by kernel_rfl) (by kernel_rfl) hv h
  obtain ⟨k, e0, _, w0⟩ := DataW.trod_int (k := .i64) (by kernel_rfl) h0
  obtain ⟨m, e1, _, w1⟩ := DataW.trod_int (k := .i64) (by kernel_rfl) h1
  obtain ⟨s, e2, _, _⟩ := DataW.trod_string (by kernel_rfl) h2
  simp only [List.cons.injEq, and_true] at e0 e1 e2
  subst e0 e1 e2
  exact ⟨⟨k, m, s.data.toList⟩, by simp [V.a, RepA, RepAs, RepD], w0, w1⟩

def laid6 : List (String × DataW Unit) := [("math/bits.deBruijn32tab", Rows.laid_math_bits_deBruijn32tab), ("math/bits.deBruijn64tab", Rows.laid_math_bits_deBruijn64tab), ("internal/strconv.uint64pow10", Rows.laid_internal_strconv_uint64pow10), ("strconv.ErrRange", Rows.laid_strconv_ErrRange), ("strconv.ErrSyntax", Rows.laid_strconv_ErrSyntax), ("querylab/value.null", Rows.laid_querylab_value_null)]
theorem of_laid6 {W : World} (h : laidMetH Tryd.prog laid6 W) : ∀ g cs, Ev.G g = some cs → RepCells (memOf W) g 0 cs ∧ ∃ a ety z, W.heap[g]? = some (.cells a ety z) ∧ a.size = cs.length := by
  rw [MakeChecks.laidMetH_plain _ _ _ (by kernel_rfl)] at h
  obtain ⟨ps, ⟨_, _, _, _, _, _, _, _, _, _, ⟨_, _, _, _, _, _, _, _, _, _, ⟨g4, t4, cs4, f4, p4, q4, hg4, ht4, hv4, hd4, ⟨g3, t3, cs3, f3, p3, q3, hg3, ht3, hv3, hd3, ⟨g2, t2, cs2, f2, p2, q2, hg2, ht2, hv2, hd2, ⟨g0, t0, cs0, f0, p0, q0, hg0, ht0, hv0, hd0, _, _⟩, _⟩, _⟩, _⟩, _⟩, _⟩, _, _⟩ := h
  obtain rfl := Option.some.inj (gNull.symm.trans hg0)
  obtain rfl := Option.some.inj (tNull.symm.trans ht0)
  obtain rfl := Option.some.inj (gPow.symm.trans hg4)
  obtain rfl := Option.some.inj (tPow.symm.trans ht4)
  obtain rfl := Option.some.inj (gSyn.symm.trans hg2)
  obtain rfl := Option.some.inj (gRan.symm.trans hg3)
  intro g cs hg
  rw [Ev_G] at hg
  split at hg
  · rename_i e
    subst e
    cases hg
    exact ⟨laid_rep (m := 3) gNull hv0 hd0 (by kernel_rfl), laid_size (m := 3) gNull hv0 hd0 (by kernel_rfl)⟩
  · split at hg
    · rename_i e
      cases hg
      rcases e with rfl | rfl
      · exact laid_iface gSyn hv2 hd2
      · exact laid_iface gRan hv3 hd3
    · split at hg
      · rename_i e
        subst e
        cases hg
        exact ⟨laid_rep (m := 3) gPow hv4 hd4 (by kernel_rfl), laid_size (m := 3) gPow hv4 hd4 (by kernel_rfl)⟩
      · cases hg
theorem door6 (os : Os) (args : Array Value) : laidMetH Tryd.prog laid6 ((World.doorLaid Tryd.prog 400 os).forCall (fun _ _ => 0) ⟨#[], args, []⟩).memory :=
  laidMetH_of_parts3 (fuel := 8) (laidMet_of_run' 8 (by kernel_rfl) (by kernel_rfl)) (by kernel_rfl) (by kernel_rfl)

set_option maxRecDepth 100000 in
theorem valueTexts_lifted (os : Os) (started : os.Started) (H : Type) (enc : TypeId × Value → H) :
    ReturnsInHanded {} Tryd.checked os 6 .any (fun w args => (Rows.valueTextsSpec.pre enc Tryd.prog Tryd.f6 [] false w args ∧ laidMetH Tryd.prog laid6 w) ∧ sizedMet enc Tryd.prog Tryd.f6 (OpenSpec.ofChange Rows.valueTextsSpec) false w args)
      (Rows.valueTextsSpec.post enc Tryd.prog Tryd.f6 false true false false) := by
  refine returnsInHanded_of_change_and (C := Tryd.checked) (X := fun w _ => laidMetH Tryd.prog laid6 w) (fun _ _ _ hh h => h.of_heap hh) own started (by kernel_rfl) Tryd.func6
    (ChangeSpec.witness_shaped (enc := enc) (C := Tryd.checked) (os := os) (X := fun w _ => laidMetH Tryd.prog laid6 w) false (World.doorLaid Tryd.prog 400 os) #[.agg #[.int .i64 0, .int .i64 0, .string ⟨#[]⟩], .string ⟨#[]⟩] 8 rfl (World.shaped_of_RefB (by kernel_rfl) (by kernel_rfl)) (by kernel_rfl) (by kernel_rfl) (by kernel_rfl) (door6 os _)) ?_
  intro W base args ds gs before hval0 hW _ _ hL _
  have hval : ∀ (j : Nat) t v, Tryd.f6.params[j]? = some t → args[j]? = some v → Value.okWide Tryd.prog W .any base t v := hval0
  have hW' := hW
  obtain ⟨p, q, hA0, hV, rfl, hfz, hnd⟩ := hW
  have hA : DataW.TrodAll enc Tryd.prog W 0 (fun _ => true) true Tryd.f6.params.toList args.toList ds p := hA0
  rw [Tryd.params6] at hA hval
  obtain ⟨v0, v1, d0, d1, p0, p1, rfl, rfl, rfl, h0, h1⟩ := trodAll_two hA
  have hG := of_laid6 hL
  obtain ⟨x0, r0, w0, n0⟩ := v_open (hval 0 _ v0 rfl rfl) h0 (memOf W)
  obtain ⟨x1, rfl, rfl, rfl, w1⟩ := open_string (by kernel_rfl) (hval 1 _ v1 rfl rfl) h1
  refine (cf_call (value_texts x0 x1.data.toList) (μ := memOf W) (fun _ _ _ e => e) (fun g cs e => (hG g cs e).1) (fun g cs e => (hG g cs e).2) (vs := [v0, .string x1]) ⟨_, _, rfl, r0, _, _, rfl, by simp only [RepA, RepD], rfl⟩).mono fun e W' ⟨v, h', he, rv, hb⟩ => ?_
  subst he
  simp only [RepA, RepD] at rv
  subst rv
  exact ⟨_, rfl, law_post hW' laidOut (by kernel_rfl) hb rfl (by kernel_rfl) Tryd.underlying4 rfl rfl rfl⟩

theorem valueTexts_row : Rows.ValueTextsSaid :=
  OpenClaim.holds_of_wide 6 Tryd.f6 rfl rfl rfl rfl rfl rfl rfl ⟨rfl, rfl, rfl, rfl, rfl⟩ rfl rfl rfl rfl rfl (by kernel_rfl) Tryd.func6 (by kernel_rfl)
    (of_decide_eq_true (by kernel_rfl)) (by unfold Func.isWrapper; first | (rw [if_pos (by decide +kernel)]; kernel_rfl) | (rw [if_neg (by decide +kernel)]; exact ⟨rfl, rfl⟩))
    (fun os started H enc _ => valueTexts_lifted os started H enc)

set_option maxRecDepth 100000 in
theorem valueTexts_holds : Rows.ValueTextsCardSaid :=
  Claim7.holds_tied_plain_at .later [] [.data, .data, .data, .sentinel, .sentinel, .data] true (true, "5a61dc565cbc0e165cae8481711d213f19f4741fb7d88a8fea27eb230b87f60c") true
    valueTexts_row (fun _ h => by cases h) (by kernel_rfl) (fun _ h => by cases h) valueTexts_row_tie rfl ⟨rfl, rfl⟩ (by kernel_rfl) rfl
    (fun f fn hf hfn => by
      obtain rfl : f = 6 := Option.some.inj ((show Tryd.prog.funcNamed "querylab/querylablaw01.ValueTexts" = some 6 by kernel_rfl).symm.trans hf) |>.symm
      obtain rfl : fn = Tryd.f6 := (Option.some.inj (Tryd.func6.symm.trans hfn)).symm
      exact ⟨by kernel_rfl, fun j t ht => by
        have hm : t ∈ Tryd.f6.params.toList := by simpa using Array.mem_of_getElem? ht
        have hall : (Tryd.f6.params.toList.all fun u => !Tryd.prog.wantsStandIn u) = true := by kernel_rfl
        exact (show Tryd.prog.wantsStandIn t = false by simpa using List.all_eq_true.1 hall t hm)⟩)
    (by kernel_rfl)
#print axioms valueTexts_holds
end Go.Proofs.YtlimkhfjidcelaaDoor
