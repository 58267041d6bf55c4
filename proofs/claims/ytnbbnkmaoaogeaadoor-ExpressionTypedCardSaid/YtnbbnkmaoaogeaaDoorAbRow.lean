/- From a function's contract to a row. -/
import Derived.Test.YtnbbnkmaoaogeaaDoorAbFun
import Derived.ProofKit
set_option linter.all false
namespace Go.Ab
open Go.ChangeShapes Go.RowKit

/-- A contract serves where more is known of the variables. -/
theorem Cf.more {E E' : Env} (hP : E'.P = E.P) (hG : ∀ g cs, E.G g = some cs → E'.G g = some cs) {f : FuncId} {xs : List AV} {B : List Blk} {y : AV} {B' : List Blk} (h : Cf E f xs B y B') : Cf E' f xs B y B' := by
  refine ⟨by rw [hP]; exact h.1, fun w g vs hr m => ?_⟩
  rw [hP]
  have m0 : Mem (ctxOf E w g B) (blkOf B) w g :=
    ⟨m.blks, m.con, fun k cs e => m.glob k cs (hG k cs e), m.apart, m.own, m.size, m.frame, m.mext, m.mold, m.lkeep, m.os, m.tape, m.output⟩
  refine (h.2 w g vs hr m0).mono ?_
  rintro e w' ⟨v, h', rfl, ry, m'⟩
  exact ⟨v, h', rfl, ry, ⟨m'.blks, m'.con, fun k cs e => RepCells_mono m'.mext cs k 0 (m.glob k cs e), m'.apart, m'.own, m'.size, m'.frame, m'.mext, m'.mold, m'.lkeep, m'.os, m'.tape, m'.output⟩⟩

/-- Where the contract is used from outside: nothing but what the reading knows; below the heap's old size nothing turns. -/
theorem cf_call {E : Env} {f : FuncId} {xs : List AV} {y : AV} (h : Cf E f xs [] y []) {w : World} {μ : Nat → Nat → Option Value} (hμ : ∀ b o v, μ b o = some v → w.cell? ⟨b, o, none⟩ = some v)
    (hG : ∀ g cs, E.G g = some cs → RepCells μ g 0 cs) {vs : List Value} (hr : RepAs ⟨μ, fun _ => none⟩ vs xs) :
    Calls E.P f ⟨vs⟩ w fun e w' => ∃ v h', e = .returned v ∧ RepA h' v y ∧ Below w.heap.size w w' := by
  have hbase : baseOf ⟨μ, fun _ => none⟩ [] = [] := rfl
  have hbl : ∀ n, blkOf [] n = .free := fun n => by simp [blkOf]
  have m0 : Mem (ctxOf E w ⟨μ, fun _ => none⟩ []) (blkOf []) w ⟨μ, fun _ => none⟩ := by
    refine ⟨?_, hμ, hG, ?_, ?_, Nat.le_refl _, fun _ _ _ => rfl, fun _ _ _ e => e, fun _ _ _ _ _ e => e, ?_, rfl, rfl, rfl⟩
    · intro n; rw [hbl]; rfl
    · intro i j l l' _ _ _ e; cases e
    · intro i l _ e; cases e
    · intro _ _ _ e; cases e
  refine (h.2 w ⟨μ, fun _ => none⟩ vs hr m0).mono ?_
  rintro e w' ⟨v, h', rfl, ry, m⟩
  exact ⟨v, h', rfl, ry, ⟨m.os, m.tape, m.output, m.size, fun k hk => m.frame k hk (by simp [ctxOf, hbase])⟩⟩

/-- All that the world holds. -/
def memOf (w : World) : Nat → Nat → Option Value := fun b o => w.cell? ⟨b, o, none⟩
theorem choose_list {α : Type} {n : Nat} {R : Nat → α → Prop} (h : ∀ i, i < n → ∃ u, R i u) : ∃ l : List α, l.length = n ∧ ∀ (i : Nat) (u : α), l[i]? = some u → R i u := by
  induction n with
  | zero => exact ⟨[], rfl, fun i u e => by simp at e⟩
  | succ n ih =>
    obtain ⟨l, h1, h2⟩ := ih fun i hi => h i (by omega)
    obtain ⟨u, hu⟩ := h n (by omega)
    refine ⟨l ++ [u], by simp [h1], fun i x hx => ?_⟩
    rcases Nat.lt_or_ge i l.length with c | c
    · rw [List.getElem?_append_left c] at hx; exact h2 i x hx
    · rw [List.getElem?_append_right c] at hx
      have : i - l.length = 0 := by
        rcases Nat.eq_zero_or_pos (i - l.length) with e | e
        · exact e
        · rw [List.getElem?_eq_none (by simp; omega)] at hx; cases hx
      rw [this] at hx
      simp at hx
      subst hx
      have : i = n := by omega
      subst this
      exact hu
theorem cell_spot {w : World} {a : Addr} {v : Value} (h : w.cell? a = some v) : a.spot = none := by
  unfold World.cell? at h
  split at h
  · cases hs : a.spot with
    | none => rfl
    | some _ => simp [hs] at h
  · cases h
/-- A slice that is read: as data. -/
theorem sl_rep {w : World} {a : Addr} {len cap sz : Nat} {α : Type} (f : α → List D) (hl : len ≤ cap) (hsz : ∀ u, (f u).length = sz) (hsz0 : 0 < sz)
    (hi : ∀ i, i < len → ∃ u : α, ∀ (j : Nat) (c : D), (f u)[j]? = some c → ∃ v, w.cell? (a.add (i * sz + j)) = some v ∧ RepD (memOf w) v c) :
    ∃ l : List α, l.length = len ∧ RepD (memOf w) (.slice (some a) len cap) (.sl (l.map f)) := by
  obtain ⟨l, h1, h2⟩ := choose_list hi
  refine ⟨l, h1, ?_⟩
  simp only [RepD]
  refine ⟨some a, cap, by simp [h1], by simp [h1]; exact hl, ?_⟩
  by_cases h0 : l = []
  · left; simp [h0]
  · right
    have hpos : 0 < l.length := List.length_pos_iff.2 h0
    have hsp : a.spot = none := by
      have hg : l[0]? = some l[0] := List.getElem?_eq_getElem hpos
      obtain ⟨v, hv, _⟩ := h2 0 _ hg 0 _ (List.getElem?_eq_getElem (by rw [hsz]; exact hsz0))
      have := cell_spot hv
      simpa [Addr.add] using this
    obtain ⟨b, o, sp⟩ := a
    simp only at hsp
    subst hsp
    refine ⟨b, o, sz, rfl, RepEls_iff.2 fun i x hx => ?_⟩
    rw [List.getElem?_map] at hx
    cases hg : l[i]? with
    | none => rw [hg] at hx; cases hx
    | some u =>
      rw [hg] at hx
      simp only [Option.map_some, Option.some.injEq] at hx
      subst hx
      refine ⟨hsz u, RepCells_iff.2 fun j c hc => ?_⟩
      obtain ⟨v, hv, hr⟩ := h2 i u hg j c hc
      refine ⟨v, ?_, hr⟩
      simp only [memOf, Addr.add] at hv ⊢
      rw [Nat.add_assoc]
      split at hv
      · rename_i e0; rw [e0]; exact hv
      · exact hv

theorem kept_below {W W' : World} {may : MemPlace → Prop} (hb : Below W.heap.size W W') : W.keptBut W' may := by
  refine ⟨hb.os, hb.output, fun i hi => ?_⟩
  rw [hb.block i hi]
  cases h : W.heap[i]? with
  | none => rfl
  | some o => cases o <;> simp

section
variable {H : Type} {enc : TypeId × Value → H} {P : Program}
theorem stays_all (hl : laidOutB P = true) {W W' : World} (hb : Below W.heap.size W W') {sp : Nat → Bool} : ∀ (ts : List TypeId) (vs : List Value) (ds : List (DataW H)) (ps : List MemPlace), (∀ t ∈ ts, P.readableRec t = true ∧ t < P.types.size) →
    DataW.TrodAll enc P W 0 (fun _ => true) true ts vs ds ps → (∀ p ∈ ps, p.block < W.heap.size) → (∀ p ∈ ps, sp p.block = true) → DataW.TrodAll enc P W' 0 sp true ts vs ds ps
  | [], vs, ds, ps, _, h, _, _ => by
    obtain ⟨rfl, rfl, rfl⟩ := trodAll_nil h
    exact trodAll_mk0
  | t :: ts, vs, ds, ps, hr, h, hlt, hs => by
    obtain ⟨v, vs1, d, ds1, a, b, rfl, rfl, rfl, h1, h2⟩ := trodAll_cons h
    exact ⟨a, b, WideElems.Trod_stays hl (hr t List.mem_cons_self).1 (hr t List.mem_cons_self).2 h1 (fun p hp => hb.same (hlt p (List.mem_append_left _ hp))) (fun p hp => hs p (List.mem_append_left _ hp)),
      stays_all hl hb ts vs1 ds1 b (fun t ht => hr t (List.mem_cons_of_mem _ ht)) h2 (fun p hp => hlt p (List.mem_append_right _ hp)) (fun p hp => hs p (List.mem_append_right _ hp)), rfl⟩

/-- The post of a law: true; the arguments as they were; below the old heap all as it was. -/
theorem law_post {f : Func} {s : ChangeSpec} {apart fresh handsOn again : Bool} {W W' : World} {args : Array Value} {ds gs : List (DataW H)} {before : List MemPlace} {tb : TypeId}
    (hW : DataW.Whole enc P f.params.toList s.vars apart W args.toList ds gs before) (hl : laidOutB P = true) (hread0 : (f.params.toList.all fun t => P.readableRec t && decide (t < P.types.size)) = true)
    (hb : Below W.heap.size W W') (hvn : s.vars = []) (hrt : f.resultTypes = #[tb]) (ht : P.underlying tb = some .bool)
    (ha : (s.fn H ds).args = ds) (hres : (s.fn H ds).results = [.lit (.bool true)]) (hv : (s.fn H ds).vars = []) :
    s.post enc P f apart fresh handsOn again W args (.bool true) W' := by
  have hread : ∀ t ∈ f.params.toList, P.readableRec t = true ∧ t < P.types.size := fun t ht => by
    rw [List.all_eq_true] at hread0
    simpa using hread0 t ht
  have hlt := hW.lt
  have hW0 := hW
  obtain ⟨p, q, hA, hV, rfl, hz, hn⟩ := hW
  rw [hvn] at hV
  obtain ⟨rfl, rfl⟩ := trodVars_none hV
  simp only [List.append_nil] at *
  have hargs : ∀ sp : Nat → Bool, (∀ x ∈ p, sp x.block = true) → DataW.TrodAll enc P W' 0 sp true f.params.toList args.toList ds p := fun sp hs => stays_all hl hb _ _ _ _ hread hA hlt hs
  have hresults : ∀ (b : Nat) (sp : Nat → Bool) (hd : Bool), DataW.TrodAll enc P W' b sp hd f.resultTypes.toList ((Value.bool true).resultList f.resultTypes.size) [.lit (.bool true)] [] := fun b sp hd => by
    rw [hrt]
    exact trodAll_mk1 (shut_bool ht _)
  have hvars : ∀ sp : Nat → Bool, DataW.TrodVars enc P W' sp s.vars [] [] := fun sp => by rw [hvn]; trivial
  have hold : ∀ x ∈ p, (fun b => decide (b < W.heap.size)) x.block = true := fun x hx => by simpa using hlt x hx
  refine ⟨ds, [], p, [], p, [], hW0, ?_, ?_, ?_, kept_below hb, fun _ => ?_⟩
  · rw [List.append_nil, hres]; exact hresults _ _ _
  · rw [List.append_nil, ha]; exact hargs _ hold
  · rw [List.append_nil, hv]; exact hvars _
  · refine ⟨ok_one hrt rfl (okWide_bool_mk ht _), _, _, ([] ++ p) ++ [], ⟨[] ++ p, [], trodAll_append (hargs _ fun _ _ => rfl) (hresults _ _ _), hvars _, rfl, ?_, ?_⟩, ?_⟩
    · intro b off hp
      have hp' : MemPlace.cell b off ∈ p := by simpa using hp
      rw [hb.frozen (p := ⟨b, off, none⟩) (hlt _ hp')]
      exact hz b off hp'
    · intro h; simpa using hn h
    · intro x hx _; simpa using hx
end
end Go.Ab
