/- Append: onto nil, onto a slice of the function's own; there is room, or a new block is made. -/
import Derived.Test.YtnbbnkmaoaogeaaDoorAbWrite
set_option linter.all false
namespace Go.Ab

/-- What is read of a slice whole: its cells, one behind the other. -/
structure Src (h : Gh) (w : World) (sz : Nat) (ys : List (List D)) (xv : Value) : Prop where
  ex : ∃ a c, xv = .slice a ys.length c ∧ (ys ≠ [] → ∃ (ad : Addr) (news : List Value), a = some ad ∧ news.length = ys.length * sz ∧
    (∀ (j : Nat) (u : Value), news[j]? = some u → w.cell? (ad.add j) = some u) ∧ (∀ u ∈ news, u.oneCell' = true) ∧
    ∀ (i : Nat) (y : List D), ys[i]? = some y → ∀ (j : Nat) (c : D), y[j]? = some c → ∃ u : Value, news[i * sz + j]? = some u ∧ RepD h.μ u c)

theorem row_index {n sz k : Nat} (hk : k < n * sz) : ∃ i j, k = i * sz + j ∧ i < n ∧ j < sz := by
  have hsz : 0 < sz := by rcases Nat.eq_zero_or_pos sz with rfl | h
                          · simp at hk
                          · exact h
  refine ⟨k / sz, k % sz, ?_, (Nat.div_lt_iff_lt_mul hsz).2 hk, Nat.mod_lt _ hsz⟩
  rw [Nat.mul_comm]; exact (Nat.div_add_mod k sz).symm

theorem src_of_cells {h : Gh} {w : World} {sz b o : Nat} {ys : List (List D)} (hy : ∀ (i : Nat) (y : List D), ys[i]? = some y → y.length = sz ∧ ∀ (j : Nat) (c : D), y[j]? = some c → ∃ u : Value, w.cell? ⟨b, o + (i * sz + j), none⟩ = some u ∧ RepD h.μ u c) :
    ∃ news : List Value, news.length = ys.length * sz ∧ (∀ (j : Nat) (u : Value), news[j]? = some u → w.cell? ((⟨b, o, none⟩ : Addr).add j) = some u) ∧ (∀ u ∈ news, u.oneCell' = true) ∧
      ∀ (i : Nat) (y : List D), ys[i]? = some y → ∀ (j : Nat) (c : D), y[j]? = some c → ∃ u : Value, news[i * sz + j]? = some u ∧ RepD h.μ u c := by
  have cell : ∀ k, k < ys.length * sz → ∃ u : Value, w.cell? ⟨b, o + k, none⟩ = some u ∧ u.oneCell' = true := by
    intro k hk
    obtain ⟨i, j, rfl, hi, hj⟩ := row_index hk
    obtain ⟨hl, hc⟩ := hy i _ (List.getElem?_eq_getElem hi)
    obtain ⟨u, hu, hr⟩ := hc j _ (List.getElem?_eq_getElem (by omega))
    exact ⟨u, hu, RepD_oneCell hr⟩
  have get : ∀ k, k < ys.length * sz → ((List.range (ys.length * sz)).map fun k => (w.cell? ⟨b, o + k, none⟩).getD undef)[k]? = w.cell? ⟨b, o + k, none⟩ := by
    intro k hk
    obtain ⟨u, hu, _⟩ := cell k hk
    rw [List.getElem?_map, List.getElem?_range hk]
    simp [hu]
  refine ⟨(List.range (ys.length * sz)).map fun k => (w.cell? ⟨b, o + k, none⟩).getD undef, by simp, fun j u hj => ?_, fun u hu => ?_, fun i y hi j c hj => ?_⟩
  · have hlt : j < ys.length * sz := by have := (List.getElem?_eq_some_iff.1 hj).1; simpa using this
    rw [get j hlt] at hj
    rw [Addr.add_lit]; exact hj
  · simp only [List.mem_map, List.mem_range] at hu
    obtain ⟨k, hk, rfl⟩ := hu
    obtain ⟨u, hu, h1⟩ := cell k hk
    simpa [hu] using h1
  · obtain ⟨hl, hc⟩ := hy i y hi
    obtain ⟨u, hu, hr⟩ := hc j c hj
    have hi' : i < ys.length := (List.getElem?_eq_some_iff.1 hi).1
    have hj' : j < sz := by have := (List.getElem?_eq_some_iff.1 hj).1; omega
    have hrow : (i + 1) * sz ≤ ys.length * sz := Nat.mul_le_mul_right _ hi'
    rw [Nat.add_mul, Nat.one_mul] at hrow
    exact ⟨u, by rw [get _ (by omega)]; exact hu, hr⟩

theorem listD_sound {C : Ctx} {bl : Nat → Blk} {w : World} {h : Gh} (m : Mem C bl w h) {tl : List Nat} {x : AV} {ys : List (List D)} {xv : Value} {sz : Nat} (hx : RepA h xv x) (hl : listD (restr tl bl) x = some ys)
    (hsz : ys.all (·.length == sz) = true) : Src h w sz ys xv := by
  rw [List.all_eq_true] at hsz
  cases x <;> simp only [listD] at hl <;> first | (cases hl; done) | skip
  case d y =>
    cases y <;> simp only at hl <;> first | (cases hl; done) | skip
    rename_i xs
    simp only [Option.some.injEq] at hl
    subst hl
    simp only [RepA, RepD] at hx
    obtain ⟨a, cap, rfl, hcap, hels⟩ := hx
    refine ⟨a, cap, rfl, fun hne => ?_⟩
    rcases hels with e | ⟨b, o, s, rfl, hels⟩
    · exact absurd e hne
    · rw [RepEls_iff] at hels
      obtain ⟨y0, ys0, rfl⟩ := List.exists_cons_of_ne_nil hne
      have hs : s = sz := by
        have := (hels 0 y0 rfl).1
        have h2 := hsz y0 List.mem_cons_self
        simp only [beq_iff_eq] at h2; omega
      subst hs
      obtain ⟨news, n1, n2, n3, n4⟩ := src_of_cells (h := h) (w := w) (b := b) (o := o) (ys := y0 :: ys0) (sz := s) (fun i y hi => by
        obtain ⟨a1, a2⟩ := hels i y hi
        refine ⟨a1, fun j c hj => ?_⟩
        rw [RepCells_iff] at a2
        obtain ⟨v, b1, b2⟩ := a2 j c hj
        exact ⟨v, by rw [← Nat.add_assoc]; exact m.con _ _ _ b1, b2⟩)
      exact ⟨_, news, rfl, n1, n2, n3, n4⟩
  case nils =>
    simp only [Option.some.injEq] at hl
    subst hl
    simp only [RepA] at hx
    subst hx
    exact ⟨none, 0, rfl, fun hne => absurd rfl hne⟩
  case ref n lo len s =>
    split at hl
    · rename_i e s' xs f hbl
      have hbl' := restr_eq hbl (by simp)
      split at hl <;> simp only [Option.some.injEq, reduceCtorEq] at hl
      rename_i hle
      subst hl
      have hlen : ((xs.drop lo).take len).length = len := by simp; omega
      have hb := m.blks n
      rw [hbl'] at hb
      obtain ⟨l, hL, hs, hpos, hb⟩ := hb
      simp only [RepA] at hx
      obtain ⟨l', hL', hs', hx⟩ := hx
      rw [hL] at hL'; cases hL'
      split at hx
      · obtain ⟨rfl, rfl, rfl⟩ := hx
        exact ⟨none, 0, by simp, fun hne => absurd (by simp) hne⟩
      · rename_i hn
        obtain ⟨cap, rfl, hc, hm, hz⟩ := hx
        rw [if_neg hn] at hb
        obtain ⟨cs, b1, b2, b3, b4, b5⟩ := hb
        refine ⟨_, cap, by rw [hlen], fun hne => ?_⟩
        have hlen0 : 0 < len := by
          rcases Nat.eq_zero_or_pos len with e | e
          · exact absurd (by simp [e]) hne
          · exact e
        have hss : l.sz = sz := by
          have hlo : lo < xs.length := by omega
          have a1 := (b4 lo xs[lo] (List.getElem?_eq_getElem hlo)).1
          have a2 := hsz xs[lo] (List.mem_iff_getElem?.2 ⟨0, by rw [List.getElem?_take, if_pos hlen0, List.getElem?_drop]; simp⟩)
          simp only [beq_iff_eq] at a2
          omega
        subst hss
        obtain ⟨news, n1, n2, n3, n4⟩ := src_of_cells (h := h) (w := w) (b := l.blk) (o := lo * l.sz) (ys := (xs.drop lo).take len) (sz := l.sz) (fun i y hi => by
          rw [List.getElem?_take] at hi
          split at hi
          · rw [List.getElem?_drop] at hi
            obtain ⟨a1, a2⟩ := b4 _ y hi
            refine ⟨by omega, fun j c hj => ?_⟩
            obtain ⟨v, c1, c2⟩ := a2 j c hj
            refine ⟨v, ?_, c2⟩
            rw [cell_of_row w l.blk _ cs e (0, 0) b1]
            rw [← c1, ← hs]
            congr 1
            rw [Nat.add_mul]; omega
          · cases hi)
        exact ⟨_, news, rfl, n1, n2, n3, n4⟩
    · cases hl

theorem run_append_zero {P : Program} {w : World} {t ty e : TypeId} {i : TypeInfo} (ht : P.underlying t = some (.slice e)) (hi : P.info? e = some i) (base : Option Addr) (n cap : Nat) (hn : n ≤ cap) (a : Option Addr) (c : Nat) :
    (Builtin.append_ #[t, t] ty #[.slice base n cap, .slice a 0 c]).run P w = .ok (.slice base n cap) w := by
  cases a <;> cases base <;> simp [Builtin.append_, run_underlying ht, run_sizeOf hi, Builtin.lenOf, hn, Builtin.firstCells, loadCells, loadCellsFrom, storeCells]

theorem appendE_sound {C : Ctx} {bl : Nat → Blk} {w : World} {h : Gh} (m : Mem C bl w h) {dst : Option Tmp} (hdst : ∀ n, dst = some n → n < firstName) {tl : List Nat} {t ty e : TypeId} (ht : C.P.underlying t = some (.slice e)) {s x v : AV} {wr : List (Nat × Blk)} {sv xv : Value}
    (hs : RepA h sv s) (hx : RepA h xv x) (he : appendE C.P dst e (restr tl bl) s x = some (v, wr)) :
    Good C bl h wr v ((Builtin.append_ #[t, t] ty #[sv, xv]).run C.P w) := by
  unfold appendE at he
  split at he
  · rename_i te ys n hte hys
    obtain ⟨ie, de, e1, e2, rfl⟩ := tinf_some hte
    split at he
    · rename_i hc
      obtain ⟨hall, hpos, hzero⟩ := hc
      simp only at hall hpos hzero
      obtain ⟨a, c, rfl, hsrc⟩ := (listD_sound m hx hys hall).ex
      have hz : ∃ z, ie.zero = some z ∧ z.cells.size = ie.size := by
        cases e0 : ie.zero with
        | none => rw [e0] at hzero; simp at hzero
        | some z => rw [e0] at hzero; exact ⟨z, rfl, by simpa using hzero⟩
      obtain ⟨z, hz, hzs⟩ := hz
      have hys_len : ∀ y ∈ ys, y.length = ie.size := fun y hy => by
        rw [List.all_eq_true] at hall; simpa using hall y hy
      split at he
      · -- onto nil
        simp only [RepA] at hs
        subst hs
        split at he
        · rename_i hb
          obtain ⟨hb1, hb2⟩ := hb
          simp only at hb1
          split at he
          · rename_i hfree
            simp only [Option.some.injEq, Prod.mk.injEq] at he
            obtain ⟨rfl, rfl⟩ := he
            have hfree := restr_eq hfree (by simp)
            by_cases hne : ys = []
            · subst hne
              have hL : h.L n = none := by have := m.blks n; rw [hfree] at this; exact this
              rw [List.length_nil, run_append_zero ht e1 none 0 0 (Nat.le_refl _) a c]
              have le := Gh.le_add (l := ⟨0, 0, ie.size, true⟩) hL
              refine ⟨_, _, h.add n ⟨0, 0, ie.size, true⟩, rfl, le, ?_, ?_⟩
              · have view : ∀ (k : Nat) (l : Loc), (h.add n ⟨0, 0, ie.size, true⟩).L k = some l → l.nul = false → k ≠ n ∧ h.L k = some l := fun k l e5 e6 => by
                  by_cases ek : k = n
                  · subst ek; simp only [Gh.add, if_true, Option.some.injEq] at e5; rw [← e5] at e6; cases e6
                  · simp only [Gh.add, if_neg ek] at e5; exact ⟨ek, e5⟩
                refine ⟨fun k => ?_, m.con, m.glob, ?_, ?_, m.size, m.frame, m.mext, m.mold, ?_, m.os, m.tape, m.output⟩
                · by_cases ek : k = n
                  · subst ek
                    simp only [upds, upd, if_true]
                    exact ⟨⟨0, 0, ie.size, true⟩, by simp [Gh.add], rfl, hpos, by simp⟩
                  · simp only [upds, upd, if_neg ek]
                    exact RepB_keep (m.blks k) le (fun e0 => by simp [Gh.add, ek, e0]) (fun _ _ _ _ => rfl) (fun _ _ _ _ _ _ e => e)
                · intro i j l1 l2 hij a1 a2 a3 a4 a5 a6
                  obtain ⟨b1, b2⟩ := view i l1 a3 a5
                  obtain ⟨b3, b4⟩ := view j l2 a4 a6
                  simp only [upds, upd, if_neg b1] at a1
                  simp only [upds, upd, if_neg b3] at a2
                  exact m.apart i j l1 l2 hij a1 a2 b2 b4 a5 a6
                · intro i l1 a1 a3 a5
                  obtain ⟨b1, b2⟩ := view i l1 a3 a5
                  simp only [upds, upd, if_neg b1] at a1
                  exact m.own i l1 a1 b2 a5
                · intro i l1 hi hl
                  have : i ≠ n := Nat.ne_of_gt (Nat.lt_of_lt_of_le (hdst n rfl) hi)
                  simp only [Gh.add, if_neg this]
                  exact m.lkeep i l1 hi hl
              · simp only [RepA]
                exact ⟨⟨0, 0, ie.size, true⟩, by simp [Gh.add], rfl, by simp⟩
            · obtain ⟨ad, news, rfl, n1, n2, n3, n4⟩ := hsrc hne
              have hpl : 0 < ys.length := List.length_pos_iff.2 hne
              have hrun := run_append_nil (P := C.P) w t ty e ie z ht e1 hz ad ys.length c news n1 n2 hpl (by omega) (by omega)
              rw [hrun]
              have hge := grownCap_ge w ys.length 0 e
              have hcm := grownCap_le_maxLen w ys.length 0 e (by simp only [maxLen]; omega)
              obtain ⟨h', le, m', r'⟩ := newArr_sound (ety := e) m.drew (hdst n rfl) hfree hpos (cs := news.toArray ++ Builtin.zeroCells z.cells (grownCap w ys.length 0 e - ys.length)) (xs := ys) (cap := grownCap w ys.length 0 e) (len := ys.length) false
                (by simp only [Array.size_append, List.size_toArray, size_zeroCells, hzs, n1, ← Nat.add_mul]; congr 1; omega) hge hcm rfl (fun i y hi => by
                  refine ⟨hys_len y (List.mem_of_getElem? hi), fun j d hj => ?_⟩
                  obtain ⟨u, hu, hr⟩ := n4 i y hi j d hj
                  refine ⟨u, ?_, hr⟩
                  have hlt := (List.getElem?_eq_some_iff.1 hu).1
                  rw [Array.getElem?_append_left (by simpa using hlt)]
                  simpa using hu)
              exact ⟨_, _, h', rfl, le, m', r'⟩
          · cases he
        · cases he
      · -- onto a slice of the function's own
        rename_i m0 len0 sz0
        split at he
        · rename_i e' sz xs frz hbl
          have hbl' := restr_eq hbl (by simp)
          split at he
          · rename_i hcond
            obtain ⟨rfl, rfl, rfl, hb1, hb2, hnm⟩ := hcond
            simp only at hb1
            split at he
            · rename_i hfree
              have hfree := restr_eq hfree (by simp)
              simp only [Option.some.injEq, Prod.mk.injEq] at he
              obtain ⟨rfl, rfl⟩ := he
              have hb := m.blks m0
              rw [hbl'] at hb
              obtain ⟨l, hL, hls, hpos', hb⟩ := hb
              simp only at hls hpos' hb
              simp only [RepA] at hs
              obtain ⟨l', hL', hls', hs⟩ := hs
              rw [hL] at hL'; cases hL'
              have hlive : (bl m0).live = true := by rw [hbl']; rfl
              have mv := m.move hnm hlive hL hfree (hdst n rfl)
              have hLn : (h.add n l).L n = some l := by simp [Gh.add]
              have le := Gh.le_add (l := l) (show h.L n = none from by have := m.blks n; rw [hfree] at this; exact this)
              rw [hbl'] at mv
              by_cases hne : ys = []
              · -- nothing is added
                subst hne
                have hrun : ∃ cap, sv = .slice (if l.nul then none else some ⟨l.blk, 0, none⟩) xs.length cap ∧ xs.length ≤ cap ∧ cap ≤ maxLen ∧ (l.nul = false → cap * l.sz = l.asz) ∧ (l.nul = true → cap = 0 ∧ xs = []) := by
                  split at hs
                  · rename_i hn
                    obtain ⟨rfl, _, hl0⟩ := hs
                    rw [if_pos hn] at hb
                    subst hb
                    exact ⟨0, by simp [hn], by simp, by simp [maxLen], (fun e => by rw [hn] at e; cases e), by simp⟩
                  · rename_i hn
                    obtain ⟨cap, rfl, a1, a2, a3⟩ := hs
                    exact ⟨cap, by simp [hn], a1, a2, fun _ => by simpa using a3, fun e => absurd e hn⟩
                obtain ⟨cap, rfl, a1, a2, a3, a4⟩ := hrun
                rw [List.length_nil, run_append_zero ht e1 _ _ _ a1 a c]
                refine ⟨_, _, _, rfl, le, by simpa [upds] using mv, ?_⟩
                simp only [RepA]
                refine ⟨l, hLn, hls, ?_⟩
                split
                · rename_i hn
                  obtain ⟨c1, c2⟩ := a4 hn
                  subst c1 c2
                  simp
                · rename_i hn
                  exact ⟨cap, by simp, a1, a2, by simpa using a3 (by simpa using hn)⟩
              · obtain ⟨ad, news, rfl, n1, n2, n3, n4⟩ := hsrc hne
                have hpl : 0 < ys.length := List.length_pos_iff.2 hne
                split at hs
                · -- it is nil all the same
                  rename_i hn
                  obtain ⟨rfl, _, hl0⟩ := hs
                  rw [if_pos hn] at hb
                  subst hb
                  simp only [List.length_nil, Nat.zero_add, List.nil_append] at *
                  have hrun := run_append_nil (P := C.P) w t ty e' ie z ht e1 hz ad ys.length c news n1 n2 hpl (by omega) (by omega)
                  rw [hrun]
                  have hge := grownCap_ge w ys.length 0 e'
                  have hcm := grownCap_le_maxLen w ys.length 0 e' (by simp only [maxLen]; omega)
                  have mk := m.drew.kill hlive
                  have hfree2 : upd bl m0 .dead n = .free := by simp [upd, hnm, hfree]
                  obtain ⟨h', le', m', r'⟩ := newArr_sound (ety := e') mk (hdst n rfl) hfree2 hpos (cs := news.toArray ++ Builtin.zeroCells z.cells (grownCap w ys.length 0 e' - ys.length)) (xs := ys) (cap := grownCap w ys.length 0 e') (len := ys.length) frz
                    (by simp only [Array.size_append, List.size_toArray, size_zeroCells, hzs, n1, ← Nat.add_mul]; congr 1; omega) hge hcm rfl (fun i y hi => by
                      refine ⟨hys_len y (List.mem_of_getElem? hi), fun j d hj => ?_⟩
                      obtain ⟨u, hu, hr⟩ := n4 i y hi j d hj
                      refine ⟨u, ?_, hr⟩
                      have hlt := (List.getElem?_eq_some_iff.1 hu).1
                      rw [Array.getElem?_append_left (by simpa using hlt)]
                      simpa using hu)
                  exact ⟨_, _, h', rfl, le', m', r'⟩
                · rename_i hn
                  obtain ⟨cap, rfl, a1, a2, a3⟩ := hs
                  rw [if_neg hn] at hb
                  obtain ⟨cs, b1, b2, b3, b4, b5⟩ := hb
                  simp only [Nat.zero_mul, Nat.zero_add] at a3 ⊢
                  have hcs : cs.size = cap * ie.size := by rw [b2, ← a3, hls]
                  have hx2 : ∀ (cur : Array Value), (∀ k, k < xs.length * ie.size → cur[k]? = cs[k]?) → (∀ k, k < news.length → cur[xs.length * ie.size + k]? = news[k]?) →
                      ∀ (i : Nat) (y : List D), (xs ++ ys)[i]? = some y → y.length = ie.size ∧ ∀ (j : Nat) (d : D), y[j]? = some d → ∃ u : Value, cur[i * ie.size + j]? = some u ∧ RepD h.μ u d := by
                    intro cur hc1 hc2 i y hi
                    rw [List.getElem?_append] at hi
                    split at hi
                    · rename_i hlt
                      obtain ⟨d1, d2⟩ := b4 i y hi
                      refine ⟨d1, fun j d hj => ?_⟩
                      obtain ⟨u, hu, hr⟩ := d2 j d hj
                      have hj' : j < ie.size := by have := (List.getElem?_eq_some_iff.1 hj).1; omega
                      have hrow : (i + 1) * ie.size ≤ xs.length * ie.size := Nat.mul_le_mul_right _ hlt
                      rw [Nat.add_mul, Nat.one_mul] at hrow
                      exact ⟨u, by rw [hc1 _ (by omega)]; exact hu, hr⟩
                    · rename_i hge
                      refine ⟨hys_len y (List.mem_of_getElem? hi), fun j d hj => ?_⟩
                      obtain ⟨u, hu, hr⟩ := n4 _ y hi j d hj
                      have hlt := (List.getElem?_eq_some_iff.1 hu).1
                      refine ⟨u, ?_, hr⟩
                      have : i * ie.size + j = xs.length * ie.size + ((i - xs.length) * ie.size + j) := by
                        have : i * ie.size = xs.length * ie.size + (i - xs.length) * ie.size := by rw [← Nat.add_mul]; congr 1; omega
                        omega
                      rw [this, hc2 _ hlt]; exact hu
                  by_cases hroom : xs.length + ys.length ≤ cap
                  · -- there is room
                    have hfit : xs.length * ie.size + news.length ≤ cs.size := by rw [n1, hcs, ← Nat.add_mul]; exact Nat.mul_le_mul_right _ hroom
                    have hrun := run_append_room (P := C.P) w t ty e' ie ht e1 l.blk xs.length cap cs b1 ad ys.length c news n1 n2 n3 hroom hfit
                    rw [hrun]
                    have hcur : ∀ k, (⟨splice cs.toList (xs.length * ie.size) news⟩ : Array Value)[k]? = if xs.length * ie.size ≤ k ∧ k < xs.length * ie.size + news.length then news[k - xs.length * ie.size]? else cs[k]? := fun k => by
                      have := splice_get (l := cs.toList) (j := xs.length * ie.size) (vs := news) (by simpa using hfit) k
                      simpa using this
                    have hlv2 : (upd (upd bl m0 .dead) n (.arr e' ie.size xs frz) n).live = true := by simp [upd, Blk.live]
                    have hmu5 : ∀ (o : Nat) (v : Value), h.μ l.blk o = some v → frz = true ∧ o < xs.length * ie.size := b5
                    have m2 := mv.rewrite (w' := w.setRow l.blk ⟨splice cs.toList (xs.length * ie.size) news⟩) hlv2 hLn (by simpa using hn) (.arr e' ie.size (xs ++ ys) frz) (setRow_size _ _ _) (fun k hk => setRow_other w l.blk k _ hk) (fun o v hv => by
                        rw [cell_setRow_same w l.blk o _ _ e' (0, 0) b1, hcur, if_neg (by have := (hmu5 o v hv).2; omega), ← cell_of_row w l.blk o cs e' (0, 0) b1]
                        exact m.con _ _ _ hv) rfl rfl rfl (by
                        refine ⟨l, hLn, hls, hpos, ?_⟩
                        rw [if_neg hn]
                        have hsl := splice_length (l := cs.toList) (j := xs.length * ie.size) (vs := news) (by simpa using hfit)
                        refine ⟨_, setRow_heap w l.blk _ _ e' _ b1, by rw [← b2]; simpa using hsl, ?_, ?_, fun o v hv => ?_⟩
                        · rw [show (⟨splice cs.toList (xs.length * ie.size) news⟩ : Array Value).size = cs.size from by simpa using hsl, List.length_append, Nat.add_mul, ← n1]; exact hfit
                        · intro i y hi
                          exact hx2 _ (fun k hk => by rw [hcur, if_neg (by omega)]) (fun k hk => by rw [hcur, if_pos (by omega)]; congr 1; omega) i y hi
                        · have := hmu5 o v hv
                          refine ⟨this.1, ?_⟩
                          rw [List.length_append, Nat.add_mul]; omega)
                    refine ⟨_, _, _, rfl, le, ?_, ?_⟩
                    · have : upd (upd (upd bl m0 .dead) n (.arr e' ie.size xs frz)) n (.arr e' ie.size (xs ++ ys) frz) = upds bl [(m0, .dead), (n, .arr e' ie.size (xs ++ ys) frz)] := by
                        funext k; simp only [upds, upd]; split <;> rfl
                      rw [← this]; exact m2
                    · simp only [RepA]
                      refine ⟨l, hLn, hls, ?_⟩
                      rw [if_neg hn]
                      exact ⟨cap, by simp, hroom, a2, by simpa using a3⟩
                  · -- a new block
                    have holds : ∀ (j : Nat) (u : Value), (cs.toList.take (xs.length * ie.size))[j]? = some u → w.cell? ((⟨l.blk, 0, none⟩ : Addr).add j) = some u := fun j u hj => by
                      rw [List.getElem?_take] at hj
                      split at hj
                      · rw [Addr.add_lit, Nat.zero_add, cell_of_row w l.blk j cs e' (0, 0) b1]; simpa using hj
                      · cases hj
                    have hol : (cs.toList.take (xs.length * ie.size)).length = xs.length * ie.size := by
                      rw [List.length_take, Array.length_toList]; exact Nat.min_eq_left b3
                    have hrun := run_append_grow (P := C.P) w t ty e' ie z ht e1 hz ⟨l.blk, 0, none⟩ xs.length cap _ hol holds ad ys.length c news n1 n2 (by omega) (by omega) (growslice_fits (by omega) hb1)
                    rw [hrun]
                    have hge := grownCap_ge w (xs.length + ys.length) cap e'
                    have hcm := grownCap_le_maxLen w (xs.length + ys.length) cap e' (by simp only [maxLen]; omega)
                    have mk := m.drew.kill hlive
                    have hfree2 : upd bl m0 .dead n = .free := by simp [upd, hnm, hfree]
                    obtain ⟨h', le', m', r'⟩ := newArr_sound (ety := e') mk (hdst n rfl) hfree2 hpos (cs := (cs.toList.take (xs.length * ie.size)).toArray ++ news.toArray ++ Builtin.zeroCells z.cells (grownCap w (xs.length + ys.length) cap e' - (xs.length + ys.length))) (xs := xs ++ ys) (cap := grownCap w (xs.length + ys.length) cap e') (len := xs.length + ys.length) frz
                      (by simp only [Array.size_append, List.size_toArray, size_zeroCells, hzs, n1, hol, ← Nat.add_mul]; congr 1; omega) (by simpa using hge) hcm (by simp) (fun i y hi => hx2 _ (fun k hk => by
                        rw [Array.getElem?_append_left (by simp only [Array.size_append, List.size_toArray, hol]; omega), Array.getElem?_append_left (by simp only [List.size_toArray, hol]; omega)]
                        simp [hk]) (fun k hk => by
                        rw [Array.getElem?_append_left (by simp only [Array.size_append, List.size_toArray, hol]; omega), Array.getElem?_append_right (by simp only [List.size_toArray, hol]; omega)]
                        simp only [List.size_toArray, hol]
                        rw [show xs.length * ie.size + k - xs.length * ie.size = k from by omega]
                        simp) i y hi)
                    exact ⟨_, _, h', rfl, le', m', r'⟩
            · cases he
          · cases he
        · cases he
      · cases he
    · cases he
  · cases he
end Go.Ab
