/- A call of a Go function by its contract. -/
import Derived.Test.YtnbbnkmaoaogeaaDoorAbEff
set_option linter.all false
namespace Go.Ab

/-! Values under other names; slices over blocks that are not named turn into data. -/
mutual
def cvA (r : Nat → Option Nat) (bl : Nat → Blk) (kn : Bool) : AV → AV × List Nat
  | .d x => (.d x, [])
  | .un => (.un, [])
  | .sk => (.sk, [])
  | .nils => (if kn then .nils else .d (.sl []), [])
  | .dp cs => (.dp cs, [])
  | .ptr n i j => match r n with
    | some m => (.ptr m i j, [])
    | none => (.un, [])
  | .ref n lo len sz => match r n with
    | some m => (.ref m lo len sz, [])
    | none => match toD bl (.ref n lo len sz) with
      | some (x, l) => (.d x, l)
      | none => (.un, [])
  | .agg cs => (.agg (cvAs r bl kn cs).1, (cvAs r bl kn cs).2)
  | .tup cs => (.tup (cvAs r bl kn cs).1, (cvAs r bl kn cs).2)
  | .clo f caps => (.clo f (cvAs r bl kn caps).1, (cvAs r bl kn caps).2)
def cvAs (r : Nat → Option Nat) (bl : Nat → Blk) (kn : Bool) : List AV → List AV × List Nat
  | [] => ([], [])
  | c :: cs => ((cvA r bl kn c).1 :: (cvAs r bl kn cs).1, (cvA r bl kn c).2 ++ (cvAs r bl kn cs).2)
end
def cvB (r : Nat → Option Nat) (bl : Nat → Blk) (kn : Bool) : Blk → Blk × List Nat
  | .var cells => (.var (cvAs r bl kn cells).1, (cvAs r bl kn cells).2)
  | b => (b, [])

/-- Blocks that are held still, all at once. -/
structure Held (h h1 : Gh) (bl : Nat → Blk) (l : List Nat) : Prop where
  le : MuLe h.μ h1.μ
  L : h1.L = h.L
  els : ∀ n ∈ l, ∀ e s xs f, bl n = .arr e s xs f → ∀ loc, h.L n = some loc → loc.nul = false → RepEls h1.μ loc.blk 0 s xs
  other : ∀ b, (∀ n ∈ l, ∀ loc, h.L n = some loc → loc.nul = false → b ≠ loc.blk) → ∀ o, h1.μ b o = h.μ b o

theorem hold_all {C : Ctx} {w : World} : ∀ (l : List Nat) (bl : Nat → Blk) (h : Gh), Mem C bl w h → (∀ n ∈ l, ∃ e s xs f, bl n = .arr e s xs f) →
    ∃ h1, Held h h1 bl l ∧ Mem C (upds bl (frzW bl l)) w h1
  | [], bl, h, m, _ => ⟨h, ⟨fun _ _ _ e => e, rfl, (fun n hn => by cases hn), fun _ _ _ => rfl⟩, by simpa [frzW, upds] using m⟩
  | n :: l, bl, h, m, ha => by
    obtain ⟨e, s, xs, f, hb⟩ := ha n List.mem_cons_self
    obtain ⟨h', le, hL, m', hels, hoth⟩ := m.freeze hb
    have hb' : (bl n).frzd = .arr e s xs true := by rw [hb]; rfl
    have hup : upd bl n (.arr e s xs true) = upds bl (frzW bl [n]) := by simp [frzW, upds, hb']
    rw [hup] at m'
    obtain ⟨h1, hd, m1⟩ := hold_all l _ h' m' (fun k hk => by
      obtain ⟨e', s', xs', f', hk'⟩ := ha k (List.mem_cons_of_mem _ hk)
      rw [upds_frz]
      split
      · exact ⟨e', s', xs', true, by rw [hk']; rfl⟩
      · exact ⟨e', s', xs', f', hk'⟩)
    rw [upds_frz_twice] at m1
    refine ⟨h1, ⟨fun b o v e0 => hd.le b o v (le.μ b o v e0), hd.L.trans hL, fun k hk e' s' xs' f' hk' loc hloc hnul => ?_, fun b hbn o => ?_⟩, m1⟩
    rotate_left
    · rw [hd.other b (fun k hk loc hloc => hbn k (List.mem_cons_of_mem _ hk) loc (by rw [← hL]; exact hloc)) o]
      exact hoth b (hbn n List.mem_cons_self) o
    rcases List.mem_cons.1 hk with rfl | hk2
    · rw [hb] at hk'; cases hk'
      exact RepEls_mono hd.le _ _ _ _ (hels loc hloc hnul)
    · by_cases hkn : k = n
      · subst hkn
        rw [hb] at hk'; cases hk'
        exact RepEls_mono hd.le _ _ _ _ (hels loc hloc hnul)
      · exact hd.els k hk2 e' s' xs' f' (by rw [upds_frz, if_neg (by simpa using hkn)]; exact hk') loc (by rw [hL]; exact hloc) hnul

/-- What the names of the one reading are in the other. -/
structure Ren (h h' : Gh) (r : Nat → Option Nat) : Prop where
  μ : MuLe h.μ h'.μ
  L : ∀ n m loc, r n = some m → h.L n = some loc → h'.L m = some loc

theorem ref_data {h h' : Gh} {w : World} {bl : Nat → Blk} (hb : ∀ n, (bl n).live = true → RepB h w n (bl n)) {n lo len sz : Nat} {x : D} {l : List Nat} {v : Value} (hr : RepA h v (.ref n lo len sz)) (ht : toD bl (.ref n lo len sz) = some (x, l))
    (hels : ∀ k ∈ l, ∀ e s xs f, bl k = .arr e s xs f → ∀ loc, h.L k = some loc → loc.nul = false → RepEls h'.μ loc.blk 0 s xs) : RepD h'.μ v x := by
  simp only [toD] at ht
  split at ht
  · rename_i e s xs f hbl
    split at ht <;> simp only [Option.some.injEq, Prod.mk.injEq, reduceCtorEq] at ht
    rename_i hle
    obtain ⟨rfl, rfl⟩ := ht
    simp only [RepA] at hr
    obtain ⟨l, hl, hsz, hx⟩ := hr
    have hb := hb n (by rw [hbl]; rfl)
    rw [hbl] at hb
    obtain ⟨l', hl', hs, _, _⟩ := hb
    rw [hl] at hl'; cases hl'
    subst hs
    simp only [RepD]
    have hlen : ((xs.drop lo).take len).length = len := by simp; omega
    split at hx
    · obtain ⟨rfl, rfl, rfl⟩ := hx
      exact ⟨none, 0, by simp, by simp, .inl (by simp)⟩
    · rename_i hn
      obtain ⟨cap, rfl, hc, _, _⟩ := hx
      refine ⟨_, cap, by rw [hlen], by rw [hlen]; exact hc, .inr ⟨l.blk, lo * l.sz, l.sz, rfl, ?_⟩⟩
      have := hels n (by simp) _ _ _ _ hbl l hl (by simpa using hn)
      rw [RepEls_iff] at this ⊢
      intro i y hi
      rw [List.getElem?_take] at hi
      split at hi
      · rw [List.getElem?_drop] at hi
        have := this _ y hi
        rwa [Nat.zero_add, Nat.add_mul] at this
      · cases hi
  · cases ht

mutual
theorem cvA_rep {h h' : Gh} {w : World} {bl : Nat → Blk} {r : Nat → Option Nat} {kn : Bool} (hb : ∀ n, (bl n).live = true → RepB h w n (bl n)) (hren : Ren h h' r) {l : List Nat}
    (hels : ∀ k ∈ l, ∀ e s xs f, bl k = .arr e s xs f → ∀ loc, h.L k = some loc → loc.nul = false → RepEls h'.μ loc.blk 0 s xs) :
    ∀ (c : AV) (v : Value), (∀ k ∈ (cvA r bl kn c).2, k ∈ l) → RepA h v c → RepA h' v (cvA r bl kn c).1
  | .d x, v, _, hr => by simp only [RepA, cvA] at *; exact RepD_mono hren.μ x v hr
  | .un, _, _, _ => by simp [RepA, cvA]
  | .sk, _, _, hr => by simpa [RepA, cvA] using hr
  | .nils, v, _, hr => by
    simp only [RepA, cvA] at *
    subst hr
    cases kn <;> simp [RepA, RepD]
  | .dp cs, v, _, hr => by
    simp only [RepA, cvA] at *
    obtain ⟨b, o, h1, h2⟩ := hr
    exact ⟨b, o, h1, RepCells_mono hren.μ cs b o h2⟩
  | .ptr n i j, v, _, hr => by
    simp only [cvA]
    split
    · rename_i m hm
      simp only [RepA] at *
      obtain ⟨loc, h1, h2⟩ := hr
      exact ⟨loc, hren.L n m loc hm h1, h2⟩
    · simp [RepA]
  | .ref n lo len sz, v, hl, hr => by
    simp only [cvA] at *
    split
    · rename_i m hm
      simp only [RepA] at *
      obtain ⟨loc, h1, h2⟩ := hr
      exact ⟨loc, hren.L n m loc hm h1, h2⟩
    · rename_i hm
      split
      · rename_i x l' ht
        simp only [hm, ht] at hl
        simp only [RepA]
        exact ref_data hb hr ht (fun k hk => hels k (hl k hk))
      · simp [RepA]
  | .agg cs, v, hl, hr => by
    simp only [RepA, cvA] at *
    obtain ⟨arr, h1, h2⟩ := hr
    exact ⟨arr, h1, cvAs_rep hb hren hels cs arr hl h2⟩
  | .tup cs, v, hl, hr => by
    simp only [RepA, cvA] at *
    obtain ⟨arr, h1, h2⟩ := hr
    exact ⟨arr, h1, cvAs_rep hb hren hels cs arr hl h2⟩
  | .clo f caps, v, hl, hr => by
    simp only [RepA, cvA] at *
    obtain ⟨arr, h1, h2⟩ := hr
    exact ⟨arr, h1, cvAs_rep hb hren hels caps arr hl h2⟩
theorem cvAs_rep {h h' : Gh} {w : World} {bl : Nat → Blk} {r : Nat → Option Nat} {kn : Bool} (hb : ∀ n, (bl n).live = true → RepB h w n (bl n)) (hren : Ren h h' r) {l : List Nat}
    (hels : ∀ k ∈ l, ∀ e s xs f, bl k = .arr e s xs f → ∀ loc, h.L k = some loc → loc.nul = false → RepEls h'.μ loc.blk 0 s xs) :
    ∀ (cs : List AV) (vs : List Value), (∀ k ∈ (cvAs r bl kn cs).2, k ∈ l) → RepAs h vs cs → RepAs h' vs (cvAs r bl kn cs).1
  | [], vs, _, hr => by simpa [RepAs, cvAs] using hr
  | c :: cs, vs, hl, hr => by
    simp only [RepAs, cvAs] at *
    obtain ⟨u, us, h1, h2, h3⟩ := hr
    exact ⟨u, us, h1, cvA_rep hb hren hels c u (fun k hk => hl k (List.mem_append_left _ hk)) h2, cvAs_rep hb hren hels cs us (fun k hk => hl k (List.mem_append_right _ hk)) h3⟩
end

theorem cvB_rep {h h' : Gh} {w : World} {bl : Nat → Blk} {r : Nat → Option Nat} {kn : Bool} (hb : ∀ n, (bl n).live = true → RepB h w n (bl n)) (hren : Ren h h' r) {l : List Nat}
    (hels : ∀ k ∈ l, ∀ e s xs f, bl k = .arr e s xs f → ∀ loc, h.L k = some loc → loc.nul = false → RepEls h'.μ loc.blk 0 s xs)
    {n m : Nat} (hnm : r n = some m) {b : Blk} {w' : World} (hlive : b.live = true) (hrb : RepB h w n b) (hl : ∀ k ∈ (cvB r bl kn b).2, k ∈ l) (hheap : ∀ loc, h.L n = some loc → loc.nul = false → w'.heap[loc.blk]? = w.heap[loc.blk]?)
    (hmu : ∀ loc, h.L n = some loc → loc.nul = false → ∀ o v, h'.μ loc.blk o = some v → h.μ loc.blk o = some v) : RepB h' w' m (cvB r bl kn b).1 := by
  cases b <;> simp only [cvB] at * <;> first | (simp [Blk.live] at hlive; done) | skip
  case var cells =>
    obtain ⟨loc, cs, ety, h1, h2, h3, h4, h5⟩ := hrb
    refine ⟨loc, cs, ety, hren.L n m loc hnm h1, h2, (hheap loc h1 h2).trans h3, cvAs_rep hb hren hels cells cs hl h4, fun o => ?_⟩
    cases e : h'.μ loc.blk o with
    | none => rfl
    | some v => have := hmu loc h1 h2 o v e; rw [h5] at this; cases this
  case arr ety sz xs frz =>
    obtain ⟨loc, h1, h2, h3, h4⟩ := hrb
    refine ⟨loc, hren.L n m loc hnm h1, h2, h3, ?_⟩
    cases hn : loc.nul with
    | true => rw [hn] at h4; simpa using h4
    | false =>
      rw [hn] at h4
      obtain ⟨cs, h5, h6, h7, h8, h9⟩ := h4
      simp only [Bool.false_eq_true, if_false]
      refine ⟨cs, (hheap loc h1 hn).trans h5, h6, h7, fun i x hx => ⟨(h8 i x hx).1, fun j c hc => ?_⟩, fun o v hv => h9 o v (hmu loc h1 hn o v hv)⟩
      obtain ⟨v, hv, hr⟩ := (h8 i x hx).2 j c hc
      exact ⟨v, hv, RepD_mono hren.μ c v hr⟩
  case iter s i =>
    obtain ⟨loc, h1, h2, h3, h5⟩ := hrb
    refine ⟨loc, hren.L n m loc hnm h1, h2, (hheap loc h1 h2).trans h3, fun o => ?_⟩
    cases e : h'.μ loc.blk o with
    | none => rfl
    | some v => have := hmu loc h1 h2 o v e; rw [h5] at this; cases this
end Go.Ab
