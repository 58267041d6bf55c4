/- Contracts, and a call by one. -/
import Derived.Test.YtnbbnkmaoaogeaaDoorAbCall
set_option linter.all false
namespace Go.Ab

structure Env where
  P : Program
  G : Nat → Option (List D)

def blkOf (B : List Blk) : Nat → Blk := fun n => if firstName ≤ n then (B[n - firstName]?).getD .free else .free
def baseOf (h : Gh) (B : List Blk) : List Nat := (List.range B.length).filterMap fun j => (h.L (firstName + j)).bind fun l => if l.nul then none else some l.blk
def ctxOf (E : Env) (w : World) (h : Gh) (B : List Blk) : Ctx := ⟨E.P, E.G, w, h, baseOf h B⟩

/-- May the function be entered? -/
def enterable (P : Program) (f : FuncId) : Bool :=
  match P.funcs[f]? with
  | some fn => fn.name != "runtime.NumGoroutine" && fn.body.isSome
  | none => false

/-- THE CONTRACT: called with values that stand for xs, over blocks that hold B, function f returns a value that stands for y, and the blocks hold B'; all else is as it was. -/
def Cf (E : Env) (f : FuncId) (xs : List AV) (B : List Blk) (y : AV) (B' : List Blk) : Prop :=
  enterable E.P f = true ∧ ∀ (w : World) (h : Gh) (vs : List Value), RepAs h vs xs → Mem (ctxOf E w h B) (blkOf B) w h →
    Calls E.P f ⟨vs⟩ w fun e w' => ∃ v h', e = .returned v ∧ RepA h' v y ∧ Mem (ctxOf E w h B) (blkOf B') w' h'

def newName (d j : Nat) : Nat := 1000 * (d + 1) + j
def nameBack (ks : List Nat) (d j : Nat) : Nat := if j < ks.length then ks.getD j 0 else newName d (j - ks.length)
def fwdR (ks : List Nat) : Nat → Option Nat := fun n => (ks.idxOf? n).map (firstName + ·)
def backR (ks : List Nat) (d : Nat) : Nat → Option Nat := fun n => if firstName ≤ n then some (nameBack ks d (n - firstName)) else none
def callArgs (ks : List Nat) (bl : Nat → Blk) (args : List AV) : List AV × List Nat := cvAs (fwdR ks) bl false args
def callBlks (ks : List Nat) (bl : Nat → Blk) : List (Blk × List Nat) := ks.map fun n => cvB (fwdR ks) bl true (bl n)
def callFrz (ks : List Nat) (bl : Nat → Blk) (args : List AV) : List Nat := (callArgs ks bl args).2 ++ (callBlks ks bl).flatMap (·.2)
def callRes (ks : List Nat) (d : Nat) (y : AV) : AV := (cvA (backR ks d) (fun _ => .dead) true y).1
def callOut (ks : List Nat) (d : Nat) (B' : List Blk) : List (Nat × Blk) := (List.range B'.length).map fun j => (nameBack ks d j, (cvB (backR ks d) (fun _ => .dead) true (B'.getD j .dead)).1)

structure CallOk (E : Env) (f : FuncId) (args : List AV) (bl : Nat → Blk) (ks : List Nat) (d : Nat) (y : AV) (B' : List Blk) : Prop where
  nodup : ks.Nodup
  live : ∀ n ∈ ks, (bl n).live = true
  len : ks.length ≤ B'.length
  free : ∀ j, j < B'.length - ks.length → bl (newName d j) = .free
  low : newName d (B'.length - ks.length) ≤ firstName
  cf : Cf E f (callArgs ks bl args).1 ((callBlks ks bl).map (·.1)) y B'

mutual
theorem cvA_arr {r : Nat → Option Nat} {bl : Nat → Blk} {kn : Bool} : ∀ (c : AV) (k : Nat), k ∈ (cvA r bl kn c).2 → r k = none ∧ ∃ e s xs f, bl k = .arr e s xs f
  | .d _, k, h => by simp [cvA] at h
  | .un, k, h => by simp [cvA] at h
  | .sk, k, h => by simp [cvA] at h
  | .nils, k, h => by simp [cvA] at h
  | .dp _, k, h => by simp [cvA] at h
  | .ptr n i j, k, h => by simp only [cvA] at h; split at h <;> simp at h
  | .ref n lo len sz, k, h => by
    simp only [cvA] at h
    split at h
    · simp at h
    · rename_i hr
      split at h
      · rename_i x l ht
        simp only [toD] at ht
        split at ht
        · rename_i e s xs f hb
          split at ht <;> simp only [Option.some.injEq, Prod.mk.injEq, reduceCtorEq] at ht
          obtain ⟨_, rfl⟩ := ht
          simp only [List.mem_singleton] at h
          subst h
          exact ⟨hr, e, s, xs, f, hb⟩
        · cases ht
      · simp at h
  | .agg cs, k, h => by simp only [cvA] at h; exact cvAs_arr cs k h
  | .tup cs, k, h => by simp only [cvA] at h; exact cvAs_arr cs k h
  | .clo f cs, k, h => by simp only [cvA] at h; exact cvAs_arr cs k h
theorem cvAs_arr {r : Nat → Option Nat} {bl : Nat → Blk} {kn : Bool} : ∀ (cs : List AV) (k : Nat), k ∈ (cvAs r bl kn cs).2 → r k = none ∧ ∃ e s xs f, bl k = .arr e s xs f
  | [], k, h => by simp [cvAs] at h
  | c :: cs, k, h => by
    simp only [cvAs] at h
    rcases List.mem_append.1 h with h | h
    · exact cvA_arr c k h
    · exact cvAs_arr cs k h
end

theorem fwdR_get {ks : List Nat} (hn : ks.Nodup) {j n : Nat} (hj : ks[j]? = some n) : fwdR ks n = some (firstName + j) := by
  obtain ⟨hlt, rfl⟩ := List.getElem?_eq_some_iff.1 hj
  unfold fwdR
  rw [List.idxOf?_eq_some_iff.2 ⟨hlt, rfl, fun i hi e => ?_⟩]
  · rfl
  · exact absurd ((List.getElem_inj hn).1 e) (by omega)

theorem fwdR_some {ks : List Nat} {n m : Nat} (h : fwdR ks n = some m) : ∃ j, ks[j]? = some n ∧ m = firstName + j := by
  unfold fwdR at h
  simp only [Option.map_eq_some_iff] at h
  obtain ⟨j, hj, rfl⟩ := h
  obtain ⟨hlt, h1, _⟩ := List.idxOf?_eq_some_iff.1 hj
  exact ⟨j, List.getElem?_eq_some_iff.2 ⟨hlt, h1⟩, rfl⟩

theorem upds_range_ne {bl : Nat → Blk} {f : Nat → Nat} {g : Nat → Blk} {n : Nat} : ∀ {k : Nat}, (∀ j, j < k → f j ≠ n) → upds bl ((List.range k).map fun j => (f j, g j)) n = bl n
  | 0, _ => by simp [upds]
  | k + 1, hn => by
    rw [List.range_succ, List.map_append, upds_append]
    simp only [List.map_cons, List.map_nil, upds, upd]
    rw [if_neg (fun e => hn k (by omega) e.symm), upds_range_ne fun j hj => hn j (by omega)]
theorem upds_range_at {bl : Nat → Blk} {f : Nat → Nat} {g : Nat → Blk} : ∀ {k : Nat}, (∀ i j, i < k → j < k → f i = f j → i = j) → ∀ {j : Nat}, j < k →
    upds bl ((List.range k).map fun j => (f j, g j)) (f j) = g j
  | 0, _, j, hj => by omega
  | k + 1, hinj, j, hj => by
    rw [List.range_succ, List.map_append, upds_append]
    simp only [List.map_cons, List.map_nil, upds, upd]
    by_cases e : f j = f k
    · rw [if_pos e, hinj j k hj (by omega) e]
    · rw [if_neg e]
      exact upds_range_at (fun i j hi hj => hinj i j (by omega) (by omega)) (by
        rcases Nat.lt_or_ge j k with c | c
        · exact c
        · exact absurd (by rw [show j = k from by omega]) e)

theorem mem_baseOf {h : Gh} {B : List Blk} {b : Nat} : b ∈ baseOf h B ↔ ∃ j l, j < B.length ∧ h.L (firstName + j) = some l ∧ l.nul = false ∧ l.blk = b := by
  unfold baseOf
  simp only [List.mem_filterMap, List.mem_range, Option.bind_eq_some_iff]
  constructor
  · rintro ⟨j, hj, l, hl, h⟩
    split at h <;> simp only [Option.some.injEq, reduceCtorEq] at h
    rename_i hn
    exact ⟨j, l, hj, hl, by simpa using hn, h⟩
  · rintro ⟨j, l, hj, hl, hn, h⟩
    exact ⟨j, hj, l, hl, by simp [hn, h]⟩

theorem call_sound {E : Env} {C : Ctx} (hP : C.P = E.P) (hG : C.G = E.G) {bl blr : Nat → Blk} (hbr : ∀ n, blr n ≠ .dead → blr n = bl n) {w : World} {h : Gh} (m : Mem C bl w h) {f : FuncId} {args : List AV} {vs : List Value} (hr : RepAs h vs args)
    {ks : List Nat} {d : Nat} {y : AV} {B' : List Blk} (ok : CallOk E f args blr ks d y B') :
    Calls C.P f ⟨vs⟩ w fun e w' => ∃ v h', e = .returned v ∧ h.le h' ∧ Mem C (upds bl (frzW blr (callFrz ks blr args) ++ callOut ks d B')) w' h' ∧ RepA h' v (callRes ks d y) := by
  -- what is handed over as data is held still
  have hfr : ∀ k ∈ callFrz ks blr args, fwdR ks k = none ∧ ∃ e s xs f, blr k = .arr e s xs f := by
    intro k hk
    rcases List.mem_append.1 hk with hk | hk
    · exact cvAs_arr _ k hk
    · simp only [callBlks, List.mem_flatMap, List.mem_map] at hk
      obtain ⟨b, ⟨n, _, rfl⟩, hk⟩ := hk
      cases hb : blr n <;> rw [hb] at hk <;> simp only [cvB] at hk <;> first | (simp at hk; done) | skip
      exact cvAs_arr _ k hk
  have harr : ∀ k ∈ callFrz ks blr args, ∃ e s xs f, bl k = .arr e s xs f := fun k hk => by
    obtain ⟨_, e, s, xs, f, hb⟩ := hfr k hk
    exact ⟨e, s, xs, f, by rw [← hbr k (by rw [hb]; simp)]; exact hb⟩
  have hfw : frzW blr (callFrz ks blr args) = frzW bl (callFrz ks blr args) := by
    unfold frzW
    apply List.map_congr_left
    intro k hk
    obtain ⟨_, e, s, xs, f, hb⟩ := hfr k hk
    rw [hbr k (by rw [hb]; simp)]
  rw [hfw]
  have hlr : ∀ n, (blr n).live = true → blr n = bl n := fun n hn => hbr n (fun e => by rw [e] at hn; cases hn)
  have hrb : ∀ n, (blr n).live = true → RepB h w n (blr n) := fun n hn => by rw [hlr n hn]; exact m.blks n
  obtain ⟨h1, held', m1⟩ := hold_all (callFrz ks blr args) bl h m harr
  have held : Held h h1 blr (callFrz ks blr args) := ⟨held'.le, held'.L, fun n hn e s xs f hb => held'.els n hn e s xs f (by rw [← hbr n (by rw [hb]; simp)]; exact hb), held'.other⟩
  have hks : ∀ (j n : Nat), ks[j]? = some n → (bl n).live = true ∧ n ∉ callFrz ks blr args ∧ ∃ l, h.L n = some l := by
    intro j n hj
    have hl0 := ok.live n (List.mem_of_getElem? hj)
    have hl : (bl n).live = true := by rw [← hlr n hl0]; exact hl0
    exact ⟨hl, (fun hc => by have := (hfr n hc).1; rw [fwdR_get ok.nodup hj] at this; cases this), live_loc (m.blks n) hl⟩
  have hbl1 : ∀ n, n ∉ callFrz ks blr args → upds bl (frzW bl (callFrz ks blr args)) n = bl n := fun n hn => by rw [upds_frz, if_neg hn]
  have hlive1 : ∀ n, (upds bl (frzW bl (callFrz ks blr args)) n).live = (bl n).live := fun n => by
    rw [upds_frz]; split
    · cases bl n <;> rfl
    · rfl
  -- the callee's reading
  let hc : Gh := { μ := h1.μ, L := fun n => if firstName ≤ n then (ks[n - firstName]?).bind h1.L else none }
  have hcL : ∀ j, hc.L (firstName + j) = (ks[j]?).bind h1.L := fun j => by
    simp only [hc, if_pos (Nat.le_add_right firstName j), Nat.add_sub_cancel_left]
  have hcN : ∀ (j n : Nat), ks[j]? = some n → hc.L (firstName + j) = h.L n := fun j n hj => by rw [hcL, hj, Option.bind_some, held.L]
  have ren : Ren h hc (fwdR ks) := ⟨held.le, fun n k loc hk hl => by
    obtain ⟨j, hj, rfl⟩ := fwdR_some hk
    rw [hcN j n hj]; exact hl⟩
  have hB : ∀ (j n : Nat), ks[j]? = some n → ((callBlks ks blr).map (·.1))[j]? = some (cvB (fwdR ks) blr true (blr n)).1 := fun j n hj => by
    simp [callBlks, hj]
  have hBlen : ((callBlks ks blr).map (·.1)).length = ks.length := by simp [callBlks]
  have hnone : ∀ n : Nat, (firstName ≤ n → ks[n - firstName]? = none) → blkOf ((callBlks ks blr).map (·.1)) n = .free ∧ hc.L n = none := fun n hn => by
    unfold blkOf
    by_cases c : firstName ≤ n
    · have hk := hn c
      have hlen := List.getElem?_eq_none_iff.1 hk
      refine ⟨?_, ?_⟩
      · rw [if_pos c, List.getElem?_eq_none (by rw [hBlen]; exact hlen)]; rfl
      · simp only [hc, if_pos c, hk, Option.bind_none]
    · exact ⟨by rw [if_neg c], by simp only [hc, if_neg c]⟩
  have hsome : ∀ (n j k : Nat), ks[j]? = some k → n = firstName + j → blkOf ((callBlks ks blr).map (·.1)) n = (cvB (fwdR ks) blr true (blr k)).1 := fun n j k hj e => by
    subst e
    unfold blkOf
    rw [if_pos (Nat.le_add_right _ _), Nat.add_sub_cancel_left, hB j k hj]; rfl
  have livecv : ∀ (r : Nat → Option Nat) (bb : Nat → Blk) (kn : Bool) (b : Blk), (cvB r bb kn b).1.live = b.live := fun r bb kn b => by cases b <;> rfl
  have mc : Mem (ctxOf E w hc ((callBlks ks blr).map (·.1))) (blkOf ((callBlks ks blr).map (·.1))) w hc := by
    refine ⟨fun n => ?_, m1.con, fun g cs hg => m1.glob g cs (by rw [hG]; exact hg), ?_, ?_, Nat.le_refl _, fun _ _ _ => rfl, fun _ _ _ e => e, fun _ _ _ _ _ e => e, fun _ _ _ e => e, rfl, rfl, rfl⟩
    · cases hk : (if firstName ≤ n then ks[n - firstName]? else none) with
      | none =>
        obtain ⟨a, b⟩ := hnone n (fun c => by rw [if_pos c] at hk; exact hk)
        rw [a]; exact b
      | some k =>
        have hn : firstName ≤ n := by
          rcases Nat.lt_or_ge n firstName with c | c
          · rw [if_neg (by omega)] at hk; cases hk
          · exact c
        rw [if_pos hn] at hk
        have en : n = firstName + (n - firstName) := by omega
        rw [hsome n _ k hk en]
        obtain ⟨hl, hnf, _⟩ := hks _ k hk
        refine cvB_rep (h := h) (h' := hc) (w := w) (l := callFrz ks blr args) hrb ren held.els (n := k) (by rw [fwdR_get ok.nodup hk, ← en]) (ok.live k (List.mem_of_getElem? hk)) (hrb k (ok.live k (List.mem_of_getElem? hk))) (fun q hq => ?_) (fun _ _ _ => rfl) (fun loc e1 e2 o v e3 => ?_)
        · refine List.mem_append_right _ ?_
          simp only [callBlks, List.mem_flatMap, List.mem_map]
          exact ⟨_, ⟨k, List.mem_of_getElem? hk, rfl⟩, hq⟩
        · have : hc.μ loc.blk o = h.μ loc.blk o := held.other loc.blk (fun q hq l2 e4 e5 => by
            have hqk : q ≠ k := fun e => hnf (e ▸ hq)
            obtain ⟨_, e', s', xs', f', hb'⟩ := hfr q hq
            exact (m.apart q k l2 loc hqk (by rw [← hbr q (by rw [hb']; simp), hb']; rfl) hl e4 e1 e5 e2).symm) o
          rw [this] at e3; exact e3
    · intro i j l l' hij a1 a2 a3 a4 a5 a6
      have get : ∀ i l, (blkOf ((callBlks ks blr).map (·.1)) i).live = true → hc.L i = some l → ∃ q k : Nat, i = firstName + q ∧ ks[q]? = some k ∧ h.L k = some l := by
        intro i l b1 b2
        simp only [hc] at b2
        split at b2
        · rename_i c
          simp only [Option.bind_eq_some_iff] at b2
          obtain ⟨k, hk, hl⟩ := b2
          exact ⟨i - firstName, k, by omega, hk, by rw [← held.L]; exact hl⟩
        · cases b2
      obtain ⟨q, k, rfl, hk, hl⟩ := get i l a1 a3
      obtain ⟨q', k', rfl, hk', hl'⟩ := get j l' a2 a4
      have hkk : k ≠ k' := fun e => by
        subst e
        have := fwdR_get ok.nodup hk
        rw [fwdR_get ok.nodup hk'] at this
        simp only [Option.some.injEq] at this
        omega
      exact m.apart k k' l l' hkk (hks q k hk).1 (hks q' k' hk').1 hl hl' a5 a6
    · intro i l b1 b2 b3
      right
      simp only [ctxOf, mem_baseOf, hBlen]
      simp only [hc] at b2
      split at b2
      · rename_i c
        have b2' := b2
        simp only [Option.bind_eq_some_iff] at b2
        obtain ⟨k, hk, hl⟩ := b2
        exact ⟨i - firstName, l, (List.getElem?_eq_some_iff.1 hk).1, by rw [hcL]; exact b2', b3, rfl⟩
      · cases b2
  have ra : RepAs hc vs (callArgs ks blr args).1 := cvAs_rep (h := h) (w := w) (l := callFrz ks blr args) hrb ren held.els args vs (fun k hk => List.mem_append_left _ hk) hr
  rw [hP]
  refine (ok.cf.2 w hc vs ra mc).mono fun e w' => ?_
  rintro ⟨v, h2, rfl, ry, m2⟩
  have hfree : ∀ j, j < B'.length - ks.length → h.L (newName d j) = none := fun j hj => by
    have := m.blks (newName d j); rw [← hbr (newName d j) (by rw [ok.free j hj]; simp), ok.free j hj] at this; exact this
  let n0 := newName d 0
  let h3 : Gh := { μ := h2.μ, L := fun n => if n0 ≤ n ∧ n < n0 + (B'.length - ks.length) then h2.L (firstName + ks.length + (n - n0)) else h1.L n }
  have hnew : ∀ j, newName d j = n0 + j := fun j => by simp only [n0, newName]; omega
  have h3new : ∀ j, j < B'.length - ks.length → h3.L (newName d j) = h2.L (firstName + ks.length + j) := fun j hj => by
    simp only [h3]
    rw [if_pos ⟨by rw [hnew]; omega, by rw [hnew]; omega⟩, hnew, Nat.add_sub_cancel_left]
  have h3old : ∀ n, h.L n ≠ none → h3.L n = h.L n := fun n hn => by
    simp only [h3]
    rw [if_neg, held.L]
    rintro ⟨c1, c2⟩
    have := hfree (n - n0) (by omega)
    rw [hnew, show n0 + (n - n0) = n from by omega] at this
    exact hn this
  have h3high : ∀ n, firstName ≤ n → h3.L n = h.L n := fun n hn => by
    simp only [h3]
    rw [if_neg, held.L]
    rintro ⟨c1, c2⟩
    have := ok.low
    rw [hnew] at this; omega
  have hle : h.le h3 := ⟨fun b o u e => m2.mext b o u (held.le b o u e), fun n l e => by rw [h3old n (by rw [e]; simp)]; exact e⟩
  -- names back
  have nb_old : ∀ (j n : Nat), ks[j]? = some n → nameBack ks d j = n := fun j n hj => by
    unfold nameBack
    rw [if_pos (List.getElem?_eq_some_iff.1 hj).1, List.getD_eq_getElem?_getD, hj]; rfl
  have nb_new : ∀ j, nameBack ks d (ks.length + j) = newName d j := fun j => by
    unfold nameBack
    rw [if_neg (by omega)]; congr 1; omega
  have h2keep : ∀ (j n : Nat), ks[j]? = some n → h2.L (firstName + j) = h.L n := fun j n hj => by
    obtain ⟨_, _, l, hl⟩ := hks j n hj
    rw [hl]
    exact m2.lkeep _ l (Nat.le_add_right _ _) (by show hc.L _ = _; rw [hcN j n hj]; exact hl)
  have h2free : ∀ n, (firstName ≤ n → B'.length ≤ n - firstName) → h2.L n = none := fun n hn => by
    have := m2.blks n
    unfold blkOf at this
    by_cases c : firstName ≤ n
    · rw [if_pos c, List.getElem?_eq_none (hn c)] at this; exact this
    · rw [if_neg c] at this; exact this
  have h3nb : ∀ j, j < B'.length → h3.L (nameBack ks d j) = h2.L (firstName + j) := fun j hj => by
    by_cases c : j < ks.length
    · have hk : ks[j]? = some ks[j] := List.getElem?_eq_getElem c
      obtain ⟨_, _, l, hl⟩ := hks j _ hk
      rw [nb_old j _ hk, h2keep j _ hk, h3old _ (by rw [hl]; simp)]
    · obtain ⟨q, rfl⟩ : ∃ q, j = ks.length + q := ⟨j - ks.length, by omega⟩
      rw [nb_new, h3new q (by omega), Nat.add_assoc]
  have renb : Ren h2 h3 (backR ks d) := ⟨fun _ _ _ e => e, fun n k loc hk hl => by
    unfold backR at hk
    split at hk <;> simp only [Option.some.injEq, reduceCtorEq] at hk
    rename_i c
    subst hk
    by_cases cB : n - firstName < B'.length
    · rw [h3nb _ cB, show firstName + (n - firstName) = n from by omega]; exact hl
    · rw [h2free n (fun _ => by omega)] at hl; cases hl⟩
  have rres : RepA h3 v (callRes ks d y) := cvA_rep (h := h2) (w := w') (l := []) (fun n hn => by simp [Blk.live] at hn) renb (fun k hk => by cases hk) y v (fun k hk => by
    obtain ⟨_, e, s, xs, f, hb⟩ := cvA_arr y k hk
    cases hb) ry
  -- the blocks
  have hinj : ∀ i j, i < B'.length → j < B'.length → nameBack ks d i = nameBack ks d j → i = j := by
    have old_new : ∀ i q, i < ks.length → q < B'.length - ks.length → nameBack ks d i ≠ newName d q := fun i q hi hq e => by
      have hk : ks[i]? = some ks[i] := List.getElem?_eq_getElem hi
      obtain ⟨_, _, l, hl⟩ := hks i _ hk
      rw [nb_old i _ hk] at e
      rw [e, hfree q hq] at hl; cases hl
    intro i j hi hj e
    by_cases ci : i < ks.length <;> by_cases cj : j < ks.length
    · have hi' : ks[i]? = some ks[i] := List.getElem?_eq_getElem ci
      have hj' : ks[j]? = some ks[j] := List.getElem?_eq_getElem cj
      rw [nb_old i _ hi', nb_old j _ hj'] at e
      have a := fwdR_get ok.nodup hi'
      rw [e, fwdR_get ok.nodup hj'] at a
      simp only [Option.some.injEq] at a
      omega
    · obtain ⟨q, rfl⟩ : ∃ q, j = ks.length + q := ⟨j - ks.length, by omega⟩
      rw [nb_new] at e
      exact absurd e (old_new i q ci (by omega))
    · obtain ⟨q, rfl⟩ : ∃ q, i = ks.length + q := ⟨i - ks.length, by omega⟩
      rw [nb_new] at e
      exact absurd e.symm (old_new j q cj (by omega))
    · obtain ⟨q, rfl⟩ : ∃ q, i = ks.length + q := ⟨i - ks.length, by omega⟩
      obtain ⟨q', rfl⟩ : ∃ q, j = ks.length + q := ⟨j - ks.length, by omega⟩
      rw [nb_new, nb_new, hnew, hnew] at e
      omega
  have hat : ∀ j, j < B'.length → upds bl (frzW bl (callFrz ks blr args) ++ callOut ks d B') (nameBack ks d j) = (cvB (backR ks d) (fun _ => .dead) true (B'.getD j .dead)).1 := fun j hj => by
    rw [upds_append]; exact upds_range_at hinj hj
  have hother : ∀ n, (∀ j, j < B'.length → nameBack ks d j ≠ n) → upds bl (frzW bl (callFrz ks blr args) ++ callOut ks d B') n = upds bl (frzW bl (callFrz ks blr args)) n := fun n hn => by
    rw [upds_append]; exact upds_range_ne hn
  have hBat : ∀ j, j < B'.length → blkOf B' (firstName + j) = B'.getD j .dead := fun j hj => by
    unfold blkOf
    rw [if_pos (Nat.le_add_right _ _), Nat.add_sub_cancel_left, List.getElem?_eq_getElem hj, List.getD_eq_getElem?_getD, List.getElem?_eq_getElem hj]; rfl
  -- which are the others: their blocks were not handed over
  have hold_other : ∀ n l, (∀ j, j < B'.length → nameBack ks d j ≠ n) → (bl n).live = true → h.L n = some l → l.nul = false → l.blk < w.heap.size ∧ l.blk ∉ baseOf hc ((callBlks ks blr).map (·.1)) := by
    intro n l hn hl hL hnul
    obtain ⟨cs, ety, hh⟩ := live_heap (m.blks n) hl hL hnul
    refine ⟨heap_lt hh, fun hmem => ?_⟩
    obtain ⟨j, l', hj, hl', hn', hb'⟩ := mem_baseOf.1 hmem
    rw [hBlen] at hj
    have hk : ks[j]? = some ks[j] := List.getElem?_eq_getElem hj
    rw [hcN j _ hk] at hl'
    have hne : ks[j] ≠ n := fun e => hn j (by have := ok.len; omega) (by rw [nb_old j _ hk, e])
    exact m.apart ks[j] n l' l hne (hks j _ hk).1 hl hl' hL hn' hnul hb'
  have view : ∀ n, (∃ j, j < B'.length ∧ nameBack ks d j = n) ∨ (∀ j, j < B'.length → nameBack ks d j ≠ n) := fun n => by
    by_cases c : ∃ j, j < B'.length ∧ nameBack ks d j = n
    · exact .inl c
    · exact .inr fun j hj e => c ⟨j, hj, e⟩
  have h3other : ∀ n, (∀ j, j < B'.length → nameBack ks d j ≠ n) → h3.L n = h.L n := fun n hn => by
    simp only [h3]
    rw [if_neg, held.L]
    rintro ⟨c1, c2⟩
    have hq := hn (ks.length + (n - n0)) (by omega)
    rw [nb_new, hnew] at hq; omega
  refine ⟨v, h3, rfl, hle, ?_, rres⟩
  have base_own : ∀ b, b ∈ baseOf hc ((callBlks ks blr).map (·.1)) → C.w0.heap.size ≤ b ∨ b ∈ C.base := fun b hb => by
    obtain ⟨j, l', hj, hl', hn', rfl⟩ := mem_baseOf.1 hb
    rw [hBlen] at hj
    have hk : ks[j]? = some ks[j] := List.getElem?_eq_getElem hj
    rw [hcN j _ hk] at hl'
    exact m.own _ l' (hks j _ hk).1 hl' hn'
  refine ⟨fun n => ?_, m2.con, fun g cs hg => m2.glob g cs (by show E.G g = _; rw [← hG]; exact hg), ?_, ?_, Nat.le_trans m.size m2.size, ?_, fun b o u e => hle.μ b o u (m.mext b o u e), ?_, ?_, m2.os.trans m.os, m2.tape.trans m.tape, m2.output.trans m.output⟩
  · rcases view n with ⟨j, hj, rfl⟩ | hn
    · rw [hat j hj]
      have hb2 := m2.blks (firstName + j)
      rw [hBat j hj] at hb2
      have hbr : backR ks d (firstName + j) = some (nameBack ks d j) := by
        unfold backR
        rw [if_pos (Nat.le_add_right _ _), Nat.add_sub_cancel_left]
      cases hlv : (B'.getD j .dead).live with
      | true => exact cvB_rep (h := h2) (h' := h3) (w := w') (l := []) (fun n hn => by simp [Blk.live] at hn) renb (fun k hk => by cases hk) hbr hlv hb2 (fun k hk => by
          cases hb : B'.getD j .dead <;> rw [hb] at hk <;> simp only [cvB] at hk <;> first | (cases hk; done) | skip
          obtain ⟨_, e, s, xs, f, hb⟩ := cvAs_arr _ k hk
          cases hb) (fun _ _ _ => rfl) (fun _ _ _ _ _ e => e)
      | false =>
        cases hb : B'.getD j .dead with
        | var _ => rw [hb] at hlv; simp [Blk.live] at hlv
        | arr _ _ _ _ => rw [hb] at hlv; simp [Blk.live] at hlv
        | iter _ _ => rw [hb] at hlv; simp [Blk.live] at hlv
        | dead =>
          rw [hb] at hb2
          obtain ⟨l, hl⟩ := hb2
          exact ⟨l, by rw [h3nb j hj]; exact hl⟩
        | free =>
          rw [hb] at hb2
          show h3.L _ = none
          rw [h3nb j hj]; exact hb2
    · rw [hother n hn]
      refine RepB_keep (m1.blks n) ⟨fun b o u e => m2.mext b o u e, fun k l e => ?_⟩ (fun e => by rw [h3other n hn, ← held.L]; exact e) (fun l a1 a2 a3 => ?_) (fun l a1 a2 a3 o u a4 => ?_)
      · rw [held.L] at e
        rw [h3old k (by rw [e]; simp)]; exact e
      · rw [hlive1] at a1
        rw [held.L] at a2
        obtain ⟨b1, b2⟩ := hold_other n l hn a1 a2 a3
        exact m2.frame l.blk b1 b2
      · rw [hlive1] at a1
        rw [held.L] at a2
        obtain ⟨b1, b2⟩ := hold_other n l hn a1 a2 a3
        exact m2.mold l.blk b1 b2 o u a4
  · intro i j l l' hij a1 a2 a3 a4 a5 a6
    have old_vs_new : ∀ i l, (∀ q, q < B'.length → nameBack ks d q ≠ i) → (upds bl (frzW bl (callFrz ks blr args) ++ callOut ks d B') i).live = true → h3.L i = some l → l.nul = false →
        ∀ q l', q < B'.length → (blkOf B' (firstName + q)).live = true → h2.L (firstName + q) = some l' → l'.nul = false → l.blk ≠ l'.blk := by
      intro i l hi b1 b2 b3 q l' hq b4 b5 b6 e
      rw [hother i hi, hlive1] at b1
      rw [h3other i hi] at b2
      obtain ⟨c1, c2⟩ := hold_other i l hi b1 b2 b3
      rcases m2.own _ l' b4 b5 b6 with c | c
      · have : w.heap.size ≤ l'.blk := c
        omega
      · rw [← e] at c; exact c2 c
    have lv : ∀ q, q < B'.length → (upds bl (frzW bl (callFrz ks blr args) ++ callOut ks d B') (nameBack ks d q)).live = true → (blkOf B' (firstName + q)).live = true := fun q hq e => by
      rw [hat q hq, livecv] at e; rw [hBat q hq]; exact e
    rcases view i with ⟨q, hq, rfl⟩ | hi <;> rcases view j with ⟨q', hq', rfl⟩ | hj
    · rw [h3nb q hq] at a3
      rw [h3nb q' hq'] at a4
      exact m2.apart _ _ l l' (fun e => hij (by have : q = q' := by omega
                                                rw [this])) (lv q hq a1) (lv q' hq' a2) a3 a4 a5 a6
    · rw [h3nb q hq] at a3
      exact (old_vs_new j l' hj a2 a4 a6 q l hq (lv q hq a1) a3 a5).symm
    · rw [h3nb q' hq'] at a4
      exact old_vs_new i l hi a1 a3 a5 q' l' hq' (lv q' hq' a2) a4 a6
    · rw [hother i hi, hlive1] at a1
      rw [hother j hj, hlive1] at a2
      rw [h3other i hi] at a3
      rw [h3other j hj] at a4
      exact m.apart i j l l' hij a1 a2 a3 a4 a5 a6
  · intro i l a1 a2 a3
    rcases view i with ⟨q, hq, rfl⟩ | hi
    · rw [hat q hq, livecv] at a1
      rw [h3nb q hq] at a2
      rcases m2.own _ l (by rw [hBat q hq]; exact a1) a2 a3 with c | c
      · exact .inl (Nat.le_trans m.size c)
      · exact base_own _ c
    · rw [hother i hi, hlive1] at a1
      rw [h3other i hi] at a2
      exact m.own i l a1 a2 a3
  · intro b hb1 hb2
    have hb3 : b ∉ baseOf hc ((callBlks ks blr).map (·.1)) := fun e => by
      rcases base_own b e with c | c
      · omega
      · exact hb2 c
    exact (m2.frame b (by have := m.size; show b < w.heap.size; omega) hb3).trans (m.frame b hb1 hb2)
  · intro b hb1 hb2 o u hu
    have hb3 : b ∉ baseOf hc ((callBlks ks blr).map (·.1)) := fun e => by
      rcases base_own b e with c | c
      · omega
      · exact hb2 c
    exact m1.mold b hb1 hb2 o u (m2.mold b (by have := m.size; show b < w.heap.size; omega) hb3 o u hu)
  · intro n l hn hl
    rw [h3high n hn]
    exact m.lkeep n l hn hl
end Go.Ab
