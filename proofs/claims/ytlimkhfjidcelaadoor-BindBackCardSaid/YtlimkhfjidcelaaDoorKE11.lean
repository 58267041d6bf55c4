import Derived.Test.YtlimkhfjidcelaaDoorKE4
import Derived.Test.YtlimkhfjidcelaaDoorKE7
import Derived.Test.YtlimkhfjidcelaaDoorSch
import Derived.Test.YtlimkhfjidcelaaDoorKE2
import Derived.Test.YtlimkhfjidcelaaDoorKE8
import Derived.Test.YtlimkhfjidcelaaDoorTrm
set_option linter.all false
/- Typed expressions. Printed by genx.py. -/
namespace Go.Proofs.Tryd
open Go.Ab
set_option maxRecDepth 100000
set_option maxHeartbeats 2000000

inductive W (ts : List Int) : Nat → Int → Ex → Prop where
  | col (d : Nat) (j : Nat) (k : Int) : ts[j]? = some k → W ts d k (.mk 5 0 0 [] j [])
  | con (d : Nat) (v : V) (k : Int) : v.valid = true → (v.k = 0 ∨ v.k = k) → 1 ≤ k → k ≤ 3 → W ts d k (constOf v k)
  | cas (d : Nat) (k : Int) (c a b : Ex) : W ts d 2 c → W ts d k a → W ts d k b → W ts (d + 1) k (.mk 26 0 0 [] 0 [c, a, b])
  | coa (d : Nat) (k : Int) (a b : Ex) : W ts d k a → W ts d k b → W ts (d + 1) k (.mk 27 0 0 [] 0 [a, b])
  | ari (d : Nat) (op : Int) (a b : Ex) : 6 ≤ op → op ≤ 10 → W ts d 1 a → W ts d 1 b → W ts (d + 1) 1 (.mk op 0 0 [] 0 [a, b])
  | neg (d : Nat) (a : Ex) : W ts d 1 a → W ts (d + 1) 1 (.mk 11 0 0 [] 0 [a])
  | len (d : Nat) (a : Ex) : W ts d 3 a → W ts (d + 1) 1 (.mk 13 0 0 [] 0 [a])
  | cat (d : Nat) (a b : Ex) : W ts d 3 a → W ts d 3 b → W ts (d + 1) 3 (.mk 12 0 0 [] 0 [a, b])
  | log (d : Nat) (op : Int) (a b : Ex) : 22 ≤ op → op ≤ 23 → W ts d 2 a → W ts d 2 b → W ts (d + 1) 2 (.mk op 0 0 [] 0 [a, b])
  | one (d : Nat) (op : Int) (a : Ex) : 24 ≤ op → op ≤ 25 → W ts d 2 a → W ts (d + 1) 2 (.mk op 0 0 [] 0 [a])
  | nul (d : Nat) (x : Int) (a : Ex) : W ts d x a → W ts (d + 1) 2 (.mk 21 0 0 [] 0 [a])
  | inn (d : Nat) (x : Int) (a b : Ex) (ks : List Ex) : W ts d x a → W ts d x b → (∀ e ∈ ks, W ts d x e) → ks.length ≤ 4 → W ts (d + 1) 2 (.mk 28 0 0 [] 0 (a :: b :: ks))
  | cmp (d : Nat) (op x : Int) (a b : Ex) : 14 ≤ op → op ≤ 20 → W ts d x a → W ts d x b → W ts (d + 1) 2 (.mk op 0 0 [] 0 [a, b])

def V.of (v : V) (k : Int) : Prop := v.valid = true ∧ (v.k = 0 ∨ v.k = k)
theorem num_valid {v : V} (h : v.valid = true) (hk : v.k = 1) : (-1000000000000 ≤ v.n ∧ v.n ≤ 1000000000000) ∧ v.t = [] := by
  simpa [V.valid, hk, and_assoc] using h
theorem text_valid {v : V} (h : v.valid = true) (hk : v.k = 3) : v.n = 0 ∧ v.t.length ≤ 24 := by
  have : v.n = 0 ∧ textOk v.t = true := by simpa [V.valid, hk] using h
  exact ⟨this.1, by have := this.2; unfold textOk at this; simp at this; exact this.1⟩
theorem nul_valid : nulV.valid = true := by simp [nulV, V.valid]
theorem nul_of (k : Int) : nulV.of k := ⟨nul_valid, .inl rfl⟩
theorem valid_k {v : V} (hv : v.valid = true) : v.k = 0 ∨ v.k = 1 ∨ v.k = 2 ∨ v.k = 3 := by
  unfold V.valid at hv
  by_cases a : v.k = 0
  · exact .inl a
  by_cases b : v.k = 1
  · exact .inr (.inl b)
  by_cases c : v.k = 2
  · exact .inr (.inr (.inl c))
  by_cases d : v.k = 3
  · exact .inr (.inr (.inr d))
  · simp [a, b, c, d] at hv
theorem con_few (v : V) (k : Int) (hv : v.valid = true) (q : Nat) (hq : q ≤ 60) : (constOf v k).few q = true := by
  unfold constOf
  rcases valid_k hv with h | h | h | h <;> simp only [h]
  · simp [Ex.few, fewAll]; omega
  · simp [Ex.few, fewAll]; omega
  · simp [Ex.few, fewAll]; omega
  · have hl := (text_valid hv h).2
    simp [Ex.few, fewAll]; omega
theorem w_few {ts : List Int} {d : Nat} {k : Int} {e : Ex} (h : W ts d k e) : ∀ q, q + d ≤ 60 → e.few q = true := by
  induction h with
  | col d j k hj => intro q hq; simp [Ex.few, fewAll]; omega
  | con d v k hv hk _ _ => intro q hq; exact con_few v k hv q (by omega)
  | cas d k c a b _ _ _ ic ia ib => intro q hq; simp [Ex.few, fewAll, ic (q + 1) (by omega), ia (q + 1) (by omega), ib (q + 1) (by omega)]; omega
  | coa d k a b _ _ ia ib => intro q hq; simp [Ex.few, fewAll, ia (q + 1) (by omega), ib (q + 1) (by omega)]; omega
  | ari d op a b _ _ _ _ ia ib => intro q hq; simp [Ex.few, fewAll, ia (q + 1) (by omega), ib (q + 1) (by omega)]; omega
  | neg d a _ ia => intro q hq; simp [Ex.few, fewAll, ia (q + 1) (by omega)]; omega
  | len d a _ ia => intro q hq; simp [Ex.few, fewAll, ia (q + 1) (by omega)]; omega
  | cat d a b _ _ ia ib => intro q hq; simp [Ex.few, fewAll, ia (q + 1) (by omega), ib (q + 1) (by omega)]; omega
  | log d op a b _ _ _ _ ia ib => intro q hq; simp [Ex.few, fewAll, ia (q + 1) (by omega), ib (q + 1) (by omega)]; omega
  | one d op a _ _ _ ia => intro q hq; simp [Ex.few, fewAll, ia (q + 1) (by omega)]; omega
  | nul d x a _ ia => intro q hq; simp [Ex.few, fewAll, ia (q + 1) (by omega)]; omega
  | inn d x a b ks _ _ _ hl ia ib ik =>
    intro q hq
    have : fewAll ks (q + 1) = true := by
      rw [fewAll_all, List.all_eq_true]
      intro e he
      exact ik e he (q + 1) (by omega)
    simp [Ex.few, fewAll, ia (q + 1) (by omega), ib (q + 1) (by omega), this]; omega
  | cmp d op x a b _ _ _ _ ia ib => intro q hq; simp [Ex.few, fewAll, ia (q + 1) (by omega), ib (q + 1) (by omega)]; omega

theorem w_dep {ts : List Int} {d : Nat} {k : Int} {e : Ex} (h : W ts d k e) : e.dep ≤ d + 1 := by
  induction h with
  | col d j k hj => simp [Ex.dep, depAll]
  | con d v k hv hk _ _ =>
    unfold constOf
    repeat' split
    all_goals simp [Ex.dep, depAll]
  | inn d x a b ks _ _ _ hl ia ib ik =>
    rw [Ex.dep]
    have := depAll_le (d + 1) (a :: b :: ks) 0 (by omega) (fun e he => by
      rcases List.mem_cons.1 he with rfl | he
      · exact ia
      · rcases List.mem_cons.1 he with rfl | he
        · exact ib
        · exact ik e he)
    omega
  | _ => simp only [Ex.dep, depAll] at *; omega

theorem values_of (k : Int) : ∀ v ∈ valuesOf k, v.valid = true ∧ (v.k = 0 ∨ v.k = k) := by
  unfold valuesOf
  split
  · rename_i h; subst h; decide
  · split
    · rename_i h; subst h; decide
    · split
      · rename_i h; subst h; decide
      · intro v hv
        have : v = nulV := by simpa using hv
        subst this; exact nul_of _
theorem valV_of (L : List Int) (i : Nat) (k : Int) : (valV L i k).of k := by
  unfold valV
  cases h : (valuesOf k)[(nextV L i (valuesOf k).length).toNat]? with
  | none => exact nul_of _
  | some v => exact values_of k v (List.mem_of_getElem? h)
theorem idxG_ok (k : Int) : ∀ (ts : List Int) (i : Nat) (x : Int), x ∈ idxG k i ts → ∃ j : Nat, x = (i + j : Nat) ∧ ts[j]? = some k
  | [], i, x, h => by simp [idxG] at h
  | t :: ts, i, x, h => by
    simp only [idxG] at h
    split at h
    · rename_i ht
      subst ht
      rcases List.mem_cons.1 h with rfl | h
      · exact ⟨0, rfl, rfl⟩
      · obtain ⟨j, hj, hk⟩ := idxG_ok t ts (i + 1) x h
        exact ⟨j + 1, by rw [hj]; congr 1; omega, by simpa using hk⟩
    · obtain ⟨j, hj, hk⟩ := idxG_ok k ts (i + 1) x h
      exact ⟨j + 1, by rw [hj]; congr 1; omega, by simpa using hk⟩
theorem pick_w (L ts : List Int) (d : Nat) (k : Int) (i : Nat) (hk : 1 ≤ k ∧ k ≤ 3) : W ts d k (pickG L ts k i).1 := by
  unfold pickG
  simp only
  split
  · rename_i hlt
    have hn := nextV_in L i (n := ((idxG k 0 ts).length : Int) + 2) (by omega)
    have hlt' : (nextV L i ((idxG k 0 ts).length + 2)).toNat < (idxG k 0 ts).length := by omega
    have hg : (idxG k 0 ts)[(nextV L i ((idxG k 0 ts).length + 2)).toNat]? = some _ := List.getElem?_eq_getElem hlt'
    rw [hg, Option.getD_some]
    obtain ⟨j, hj, hk⟩ := idxG_ok k ts 0 _ (List.getElem_mem hlt')
    rw [hj, Nat.zero_add]
    exact .col d j k hk
  · exact .con d _ k (valV_of L _ k).1 (valV_of L _ k).2 hk.1 hk.2
theorem more_w (ts : List Int) (g : Int → Nat → Ex × Nat) (d : Nat) (x : Int) (hg : ∀ i, W ts d x (g x i).1) : ∀ (n i : Nat), ∀ e ∈ (moreG g x n i).1, W ts d x e
  | 0, i => fun e he => by simp [moreG] at he
  | n + 1, i => fun e he => by
    simp only [moreG, List.mem_append, List.mem_singleton] at he
    rcases he with he | rfl
    · exact more_w ts g d x hg n i e he
    · exact hg _
theorem node_w (L ts : List Int) (g : Int → Nat → Ex × Nat) (d : Nat) (hg : ∀ k i, 1 ≤ k → k ≤ 3 → W ts d k (g k i).1) (k : Int) (i : Nat) (hk : 1 ≤ k ∧ k ≤ 3) : W ts (d + 1) k (nodeG L g k i).1 := by
  have two : ∀ (op x : Int) (j : Nat) (k : Int), (∀ a b, W ts d x a → W ts d x b → W ts (d + 1) k (.mk op 0 0 [] 0 [a, b])) → 1 ≤ x → x ≤ 3 → W ts (d + 1) k (twoG g op x j).1 := fun op x j k h h1 h2 => h _ _ (hg x _ h1 h2) (hg x _ h1 h2)
  unfold nodeG
  split
  · exact .cas d k _ _ _ (hg 2 _ (by omega) (by omega)) (hg k _ hk.1 hk.2) (hg k _ hk.1 hk.2)
  split
  · exact two 27 k _ k (fun a b => .coa d k a b) hk.1 hk.2
  split
  · rename_i h
    obtain ⟨rfl, _⟩ := h
    have hn := nextV_in L (i + 1) (n := 5) (by omega)
    exact two _ 1 _ 1 (fun a b => .ari d _ a b (by omega) (by omega)) (by omega) (by omega)
  split
  · rename_i h
    subst h
    split
    · exact .neg d _ (hg 1 _ (by omega) (by omega))
    · exact .len d _ (hg 3 _ (by omega) (by omega))
  split
  · rename_i h
    subst h
    exact two 12 3 _ 3 (fun a b => .cat d a b) (by omega) (by omega)
  have hk2 : k = 2 := by omega
  subst hk2
  have hx := nextV_in L (i + 1) (n := 3) (by omega)
  unfold boolG
  split
  · have hn := nextV_in L (i + 1 + 2) (n := 2) (by omega)
    exact two _ 2 _ 2 (fun a b => .log d _ a b (by omega) (by omega)) (by omega) (by omega)
  split
  · have hn := nextV_in L (i + 1 + 2) (n := 2) (by omega)
    exact .one d _ _ (by omega) (by omega) (hg 2 _ (by omega) (by omega))
  split
  · exact .nul d _ _ (hg _ _ (by omega) (by omega))
  split
  · refine .inn d _ _ _ _ (hg _ _ (by omega) (by omega)) (hg _ _ (by omega) (by omega)) (more_w ts g d _ (fun i => hg _ i (by omega) (by omega)) _ _) ?_
    change (moreG g _ _ _).1.length ≤ 4
    rw [more_len]
    have hn := nextV_in L (g (1 + nextV L (i + 1) 3) (g (1 + nextV L (i + 1) 3) (i + 1 + 2)).2).2 (n := 3) (by omega)
    omega
  · have hn := nextV_in L (i + 1 + 2) (n := 7) (by omega)
    exact two _ _ _ 2 (fun a b => .cmp d _ _ a b (by omega) (by omega)) (by omega) (by omega)
theorem expr_w (L ts : List Int) : ∀ (d : Nat) (k : Int) (i : Nat), 1 ≤ k → k ≤ 3 → W ts d k (exprG L ts d k i).1
  | 0, k, i, h1, h2 => pick_w L ts 0 k i ⟨h1, h2⟩
  | 1, k, i, h1, h2 => pick_w L ts 1 k i ⟨h1, h2⟩
  | d + 2, k, i, h1, h2 => by
    rw [exprG, if_neg (by omega)]
    split
    · exact pick_w L ts _ k _ ⟨h1, h2⟩
    · exact node_w L ts _ (d + 1) (fun k i a b => expr_w L ts (d + 1) k i a b) k _ ⟨h1, h2⟩
end Go.Proofs.Tryd
/- An expression comes back from its term: the plain law. -/
namespace Go.Proofs.Tryd
open Go.Ab
set_option maxRecDepth 100000
set_option maxHeartbeats 2000000

mutual
def Ex.named (ns : List (List UInt8)) : Ex → Tm
  | .mk o c n t g ks => if o = 5 then .mk 40 0 0 ((ns[g.toNat]?).getD []) [] [] else .mk o c n t [] (namedAll ns ks)
def namedAll (ns : List (List UInt8)) : List Ex → List Tm
  | [] => []
  | e :: es => e.named ns :: namedAll ns es
end
theorem namedAll_map (ns : List (List UInt8)) : ∀ l : List Ex, namedAll ns l = l.map (Ex.named ns)
  | [] => rfl
  | e :: es => by rw [namedAll, namedAll_map ns es]; rfl
/-- Names that are all different, and all names. -/
def okNames (ns : List (List UInt8)) : Prop := ∀ (g : Nat) (x : List UInt8), ns[g]? = some x → nameOk words x = true ∧ x.length ≤ 100 ∧ lookG ns [] x = ((g : Int), 0)
theorem cntd_arity {o : Int} {k : Nat} (h1 : 6 ≤ o) (h2 : o ≤ 28) (h : cntd o k = true) : arity o k = true := by
  rcases op_cases h1 h2 with rfl | rfl | rfl | rfl | rfl | rfl | rfl | rfl | rfl | rfl | rfl | rfl | rfl | rfl | rfl | rfl | rfl | rfl | rfl | rfl | rfl | rfl | rfl <;> simp [cntd, isOp, opOf, ops] at h <;> simp [arity] <;> omega
theorem x_back {ns : List (List UInt8)} (hn : okNames ns) : ∀ {e : Ex}, XOk ns.length e → (e.named ns).right = true ∧ bndG ns (e.named ns) = (e, 0) := by
  intro e h
  induction h with
  | nul c h1 h2 =>
    simp [Ex.named, namedAll, Tm.right, tmsRight, okK, bndG, bndAll, h1, h2]
  | int v hv =>
    simp [Ex.named, namedAll, Tm.right, tmsRight, okK, bndG, bndAll, hv]
  | bool v hv =>
    have : (v == 0 || v == 1) = true := by simpa [V.valid] using hv
    simp [Ex.named, namedAll, Tm.right, tmsRight, okK, bndG, bndAll]
    simpa using this
  | text t hv =>
    simp [Ex.named, namedAll, Tm.right, tmsRight, okK, bndG, bndAll, hv]
  | col g h1 h2 =>
    have hlt : g.toNat < ns.length := by omega
    have hg : ns[g.toNat]? = some ns[g.toNat] := List.getElem?_eq_getElem hlt
    obtain ⟨a, b, c⟩ := hn _ _ hg
    have hz : (g.toNat : Int) = g := by omega
    rw [hz] at c
    simp [Ex.named, Tm.right, tmsRight, okK, bndG, hg, a, c]
  | node o ks h1 h2 hc hk ih =>
    have c5 : ¬ o = 5 := by omega
    have c1 : ¬ o = 1 := by omega
    have c2 : ¬ o = 2 := by omega
    have c3 : ¬ o = 3 := by omega
    have c4 : ¬ o = 4 := by omega
    have c40 : ¬ o = 40 := by omega
    have c41 : ¬ o = 41 := by omega
    have har := cntd_arity h1 h2 hc
    have hb : bndAll ns (ks.map (Ex.named ns)) = (ks, 0) := by
      rw [bndAll_each, eachG_ok]
      · rw [List.map_map]
        congr 1
        have : ∀ l : List Ex, (∀ k ∈ l, bndG ns (k.named ns) = (k, 0)) → l.map ((fun x => (bndG ns x).1) ∘ Ex.named ns) = l := by
          intro l
          induction l with
          | nil => intro _; rfl
          | cons e es ih => intro h; rw [List.map_cons, ih fun k hk => h k (List.mem_cons_of_mem _ hk)]; simp [h e List.mem_cons_self]
        exact this ks fun k hk => (ih k hk).2
      · intro x hx
        obtain ⟨k, hk, rfl⟩ := List.mem_map.1 hx
        rw [(ih k hk).2]
    refine ⟨?_, ?_⟩
    · rw [Ex.named, if_neg c5, namedAll_map, Tm.right, tmsRight_all, Bool.and_eq_true, List.all_eq_true]
      refine ⟨?_, fun x hx => ?_⟩
      · unfold okK
        rw [if_neg c1, if_neg c2, if_neg c3, if_neg c4, if_neg c40, if_neg c41, List.length_map, har]
        simp
      · obtain ⟨k, hk, rfl⟩ := List.mem_map.1 hx
        exact (ih k hk).1
    · rw [Ex.named, if_neg c5, namedAll_map, bndG, if_neg c40, if_neg c41, hb, if_pos rfl]
theorem con_ok (v : V) (k : Int) (n : Nat) (hv : v.valid = true) (hk : v.k = 0 ∨ v.k = k) (h1 : 1 ≤ k) (h2 : k ≤ 3) : XOk n (constOf v k) := by
  unfold constOf
  rcases valid_k hv with h | h | h | h <;> simp only [h]
  · exact .nul k h1 h2
  · refine .int _ ?_
    have := num_valid hv h
    simp [V.valid]; omega
  · refine .bool _ ?_
    simp [V.valid, h] at hv ⊢
    exact hv.1
  · refine .text _ ?_
    simp [V.valid, h] at hv ⊢
    exact hv.2
theorem w_ok {ts : List Int} {d : Nat} {k : Int} {e : Ex} (h : W ts d k e) : XOk ts.length e := by
  induction h with
  | col d j k hj => exact .col _ (by omega) (by have := (List.getElem?_eq_some_iff.1 hj).1; omega)
  | con d v k hv hk h1 h2 => exact con_ok v k _ hv hk h1 h2
  | cas d k c a b _ _ _ ic ia ib =>
    exact .node 26 _ (by omega) (by omega) rfl fun x hx => by
      simp only [List.mem_cons, List.not_mem_nil, or_false] at hx
      rcases hx with rfl | rfl | rfl <;> assumption
  | coa d k a b _ _ ia ib =>
    exact .node 27 _ (by omega) (by omega) rfl fun x hx => by
      simp only [List.mem_cons, List.not_mem_nil, or_false] at hx
      rcases hx with rfl | rfl <;> assumption
  | ari d op a b h1 h2 _ _ ia ib =>
    have hop : op = 6 ∨ op = 7 ∨ op = 8 ∨ op = 9 ∨ op = 10 := by omega
    exact .node op _ (by omega) (by omega) (by rcases hop with rfl | rfl | rfl | rfl | rfl <;> rfl) fun x hx => by
      simp only [List.mem_cons, List.not_mem_nil, or_false] at hx
      rcases hx with rfl | rfl <;> assumption
  | neg d a _ ia =>
    exact .node 11 _ (by omega) (by omega) rfl fun x hx => by
      simp only [List.mem_cons, List.not_mem_nil, or_false] at hx
      subst hx; assumption
  | len d a _ ia =>
    exact .node 13 _ (by omega) (by omega) rfl fun x hx => by
      simp only [List.mem_cons, List.not_mem_nil, or_false] at hx
      subst hx; assumption
  | cat d a b _ _ ia ib =>
    exact .node 12 _ (by omega) (by omega) rfl fun x hx => by
      simp only [List.mem_cons, List.not_mem_nil, or_false] at hx
      rcases hx with rfl | rfl <;> assumption
  | log d op a b h1 h2 _ _ ia ib =>
    have hop : op = 22 ∨ op = 23 := by omega
    exact .node op _ (by omega) (by omega) (by rcases hop with rfl | rfl <;> rfl) fun x hx => by
      simp only [List.mem_cons, List.not_mem_nil, or_false] at hx
      rcases hx with rfl | rfl <;> assumption
  | one d op a h1 h2 _ ia =>
    have hop : op = 24 ∨ op = 25 := by omega
    exact .node op _ (by omega) (by omega) (by rcases hop with rfl | rfl <;> rfl) fun x hx => by
      simp only [List.mem_cons, List.not_mem_nil, or_false] at hx
      subst hx; assumption
  | nul d x a _ ia =>
    exact .node 21 _ (by omega) (by omega) rfl fun x hx => by
      simp only [List.mem_cons, List.not_mem_nil, or_false] at hx
      subst hx; assumption
  | inn d x a b ks _ _ _ hl ia ib ik =>
    exact .node 28 _ (by omega) (by omega) (by
      have : (opOf 28).2.1 = 2 := by decide
      simp [cntd, isOp, this]
      omega) fun x hx => by
      rcases List.mem_cons.1 hx with rfl | hx
      · exact ia
      · rcases List.mem_cons.1 hx with rfl | hx
        · exact ib
        · exact ik x hx
  | cmp d op x a b h1 h2 _ _ ia ib =>
    have hop : op = 14 ∨ op = 15 ∨ op = 16 ∨ op = 17 ∨ op = 18 ∨ op = 19 ∨ op = 20 := by omega
    exact .node op _ (by omega) (by omega) (by rcases hop with rfl | rfl | rfl | rfl | rfl | rfl | rfl <;> rfl) fun x hx => by
      simp only [List.mem_cons, List.not_mem_nil, or_false] at hx
      rcases hx with rfl | rfl <;> assumption
theorem w_ty {ts : List Int} (hts : ∀ (j : Nat) (k : Int), ts[j]? = some k → 1 ≤ k ∧ k ≤ 3) {d : Nat} {k : Int} {e : Ex} (h : W ts d k e) : tyG ts e = (k, 0) := by
  induction h with
  | col d j k hj =>
    obtain ⟨a, b⟩ := hts j k hj
    simp [tyG, tysG, nodeTy, hj]
    omega
  | con d v k hv hk h1 h2 =>
    unfold constOf
    rcases valid_k hv with h | h | h | h <;> simp only [h]
    · simp [tyG, tysG, nodeTy, fitOk, tyRes, opOf, ops]
    · have : k = 1 := by omega
      simp [tyG, tysG, nodeTy, fitOk, tyRes, opOf, ops, this]
    · have : k = 2 := by omega
      simp [tyG, tysG, nodeTy, fitOk, tyRes, opOf, ops, this]
    · have : k = 3 := by omega
      simp [tyG, tysG, nodeTy, fitOk, tyRes, opOf, ops, this]
  | cas d k c a b _ _ _ ic ia ib => simp [tyG, tysG, ic, ia, ib, nodeTy, fitOk, tyRes, opOf, ops]
  | coa d k a b _ _ ia ib => simp [tyG, tysG, ia, ib, nodeTy, fitOk, tyRes, opOf, ops]
  | ari d op a b h1 h2 _ _ ia ib =>
    have hop : op = 6 ∨ op = 7 ∨ op = 8 ∨ op = 9 ∨ op = 10 := by omega
    rcases hop with rfl | rfl | rfl | rfl | rfl <;> simp [tyG, tysG, ia, ib, nodeTy, fitOk, tyRes, opOf, ops]
  | neg d a _ ia => simp [tyG, tysG, ia, nodeTy, fitOk, tyRes, opOf, ops]
  | len d a _ ia => simp [tyG, tysG, ia, nodeTy, fitOk, tyRes, opOf, ops]
  | cat d a b _ _ ia ib => simp [tyG, tysG, ia, ib, nodeTy, fitOk, tyRes, opOf, ops]
  | log d op a b h1 h2 _ _ ia ib =>
    have hop : op = 22 ∨ op = 23 := by omega
    rcases hop with rfl | rfl <;> simp [tyG, tysG, ia, ib, nodeTy, fitOk, tyRes, opOf, ops]
  | one d op a h1 h2 _ ia =>
    have hop : op = 24 ∨ op = 25 := by omega
    rcases hop with rfl | rfl <;> simp [tyG, tysG, ia, nodeTy, fitOk, tyRes, opOf, ops]
  | nul d x a _ ia => simp [tyG, tysG, ia, nodeTy, fitOk, tyRes, opOf, ops]
  | inn d x a b ks _ _ _ hl ia ib ik =>
    have hks : tysG ts ks = (ks.map fun _ => x, 0) := by
      rw [tysG_each, eachG_ok fun y hy => by rw [ik y hy]]
      congr 1
      exact List.map_congr_left fun y hy => by rw [ik y hy]
    simp [tyG, tysG, ia, ib, hks, nodeTy, fitOk, tyRes, opOf, ops]
  | cmp d op x a b h1 h2 _ _ ia ib =>
    have hop : op = 14 ∨ op = 15 ∨ op = 16 ∨ op = 17 ∨ op = 18 ∨ op = 19 ∨ op = 20 := by omega
    rcases hop with rfl | rfl | rfl | rfl | rfl | rfl | rfl <;> simp [tyG, tysG, ia, ib, nodeTy, fitOk, tyRes, opOf, ops]

/-! The term is few, and as deep. -/
theorem named_few (ns : List (List UInt8)) (hn : ∀ x ∈ ns, x.length ≤ 100) : ∀ {ts : List Int} {d : Nat} {k : Int} {e : Ex}, W ts d k e → ∀ q : Nat, q + d ≤ 40 → (e.named ns).few q = true := by
  intro ts d k e h
  have nil : ∀ (o y n : Int) (t : List UInt8) (q : Nat), q ≤ 40 → t.length ≤ 100 → (Tm.mk o y n t [] []).few q = true := fun o y n t q hq ht => by
    rw [Tm.few, tmsFew]; simp; omega
  have node : ∀ (o : Int) (ks : List Ex) (q : Nat), o ≠ 5 → q ≤ 40 → ks.length ≤ 8 → (∀ k ∈ ks, (k.named ns).few ((q + 1 : Nat) : Int) = true) → ((Ex.mk o 0 0 [] 0 ks).named ns).few q = true := fun o ks q ho hq hk h => by
    rw [Ex.named, if_neg ho, namedAll_map, Tm.few, tmsFew_all, up1_nat (by omega)]
    simp only [Bool.and_eq_true, decide_eq_true_eq, List.all_eq_true]
    refine ⟨by omega, by simpa using hk, by simp, by simp, fun x hx => ?_⟩
    obtain ⟨k, hk, rfl⟩ := List.mem_map.1 hx
    exact h k hk
  induction h with
  | col d j k hj =>
    intro q hq
    rw [Ex.named, if_pos rfl]
    refine nil _ _ _ _ q (by omega) ?_
    cases hx : ns[(j : Int).toNat]? with
    | none => simp
    | some x => exact hn x (List.mem_of_getElem? hx)
  | con d v k hv hk h1 h2 =>
    intro q hq
    unfold constOf
    rcases valid_k hv with h | h | h | h <;> simp only [h] <;> simp [Ex.named, namedAll]
    · exact nil _ _ _ _ q (by omega) (by simp)
    · exact nil _ _ _ _ q (by omega) (by simp)
    · exact nil _ _ _ _ q (by omega) (by simp)
    · have := (text_valid hv h).2
      exact nil _ _ _ _ q (by omega) (by omega)
  | inn d x a b ks _ _ _ hl ia ib ik =>
    exact fun q hq => node 28 _ q (by omega) (by omega) (by simp; omega) fun k hk => by
      rcases List.mem_cons.1 hk with rfl | hk
      · exact ia _ (by omega)
      · rcases List.mem_cons.1 hk with rfl | hk
        · exact ib _ (by omega)
        · exact ik k hk _ (by omega)
  | cas d k c a b _ _ _ ic ia ib =>
    exact fun q hq => node _ _ q (by omega) (by omega) (by simp) fun k hk => by
      simp only [List.mem_cons, List.not_mem_nil, or_false] at hk
      rcases hk with rfl | rfl | rfl
      · exact ic _ (by omega)
      · exact ia _ (by omega)
      · exact ib _ (by omega)
  | neg d a _ ia =>
    exact fun q hq => node _ _ q (by omega) (by omega) (by simp) fun k hk => by
      simp only [List.mem_cons, List.not_mem_nil, or_false] at hk
      subst hk
      exact ia _ (by omega)
  | len d a _ ia =>
    exact fun q hq => node _ _ q (by omega) (by omega) (by simp) fun k hk => by
      simp only [List.mem_cons, List.not_mem_nil, or_false] at hk
      subst hk
      exact ia _ (by omega)
  | one d op a _ _ _ ia =>
    exact fun q hq => node _ _ q (by omega) (by omega) (by simp) fun k hk => by
      simp only [List.mem_cons, List.not_mem_nil, or_false] at hk
      subst hk
      exact ia _ (by omega)
  | nul d x a _ ia =>
    exact fun q hq => node _ _ q (by omega) (by omega) (by simp) fun k hk => by
      simp only [List.mem_cons, List.not_mem_nil, or_false] at hk
      subst hk
      exact ia _ (by omega)
  | coa d k a b _ _ ia ib =>
    exact fun q hq => node _ _ q (by omega) (by omega) (by simp) fun k hk => by
      simp only [List.mem_cons, List.not_mem_nil, or_false] at hk
      rcases hk with rfl | rfl
      · exact ia _ (by omega)
      · exact ib _ (by omega)
  | ari d op a b _ _ _ _ ia ib =>
    exact fun q hq => node _ _ q (by omega) (by omega) (by simp) fun k hk => by
      simp only [List.mem_cons, List.not_mem_nil, or_false] at hk
      rcases hk with rfl | rfl
      · exact ia _ (by omega)
      · exact ib _ (by omega)
  | cat d a b _ _ ia ib =>
    exact fun q hq => node _ _ q (by omega) (by omega) (by simp) fun k hk => by
      simp only [List.mem_cons, List.not_mem_nil, or_false] at hk
      rcases hk with rfl | rfl
      · exact ia _ (by omega)
      · exact ib _ (by omega)
  | log d op a b _ _ _ _ ia ib =>
    exact fun q hq => node _ _ q (by omega) (by omega) (by simp) fun k hk => by
      simp only [List.mem_cons, List.not_mem_nil, or_false] at hk
      rcases hk with rfl | rfl
      · exact ia _ (by omega)
      · exact ib _ (by omega)
  | cmp d op x a b _ _ _ _ ia ib =>
    exact fun q hq => node _ _ q (by omega) (by omega) (by simp) fun k hk => by
      simp only [List.mem_cons, List.not_mem_nil, or_false] at hk
      rcases hk with rfl | rfl
      · exact ia _ (by omega)
      · exact ib _ (by omega)
theorem up1_le {n : Int} {d : Nat} (h0 : 0 ≤ n) (h : n ≤ d) (hd : d ≤ 100) : 0 ≤ up1 n ∧ up1 n ≤ (d + 1 : Nat) := by
  unfold up1; rw [wrap_in (by omega) (by omega)]; omega
theorem tmsDep_le {d : Nat} : ∀ (l : List Tm), (∀ x ∈ l, 0 ≤ x.dep ∧ x.dep ≤ d) → 0 ≤ tmsDep l ∧ tmsDep l ≤ d
  | [], _ => by rw [tmsDep]; omega
  | e :: es, h => by
    have h1 := h e List.mem_cons_self
    have h2 := tmsDep_le es fun x hx => h x (List.mem_cons_of_mem _ hx)
    rw [tmsDep]; omega
theorem dep_few_tm : ∀ (m : Nat) (x : Tm), SizeOf.sizeOf x < m → ∀ (d q : Nat), q + d = 41 → x.few q = true → 0 ≤ x.dep ∧ x.dep ≤ d
  | 0, _, h, _, _, _, _ => absurd h (by omega)
  | m + 1, .mk o y n t q ks, hm, d, r, hd, h => by
    obtain ⟨hr, hk, ht, hl⟩ := tm_few h
    obtain ⟨d, rfl⟩ : ∃ e, d = e + 1 := ⟨d - 1, by omega⟩
    rw [Tm.dep]
    have := tmsDep_le (d := d) ks fun x hx => dep_few_tm m x (by have := Tm.kid_lt (e := .mk o y n t q ks) (k := x) hx; omega) d (r + 1) (by omega) (hl x hx)
    exact up1_le this.1 this.2 (by omega)
theorem named_dep (ns : List (List UInt8)) {ts : List Int} {d : Nat} {k : Int} {e : Ex} (h : W ts d k e) : d ≤ 60 → 0 ≤ (e.named ns).dep ∧ (e.named ns).dep ≤ (d + 1 : Nat) := by
  have nil : ∀ (o y n : Int) (t q : List UInt8) (d : Nat), 0 ≤ (Tm.mk o y n t q []).dep ∧ (Tm.mk o y n t q []).dep ≤ (d + 1 : Nat) := fun o y n t q d => by
    rw [Tm.dep, tmsDep]
    have : up1 0 = 1 := by decide
    omega
  have node : ∀ (o : Int) (ks : List Ex) (d : Nat), o ≠ 5 → d + 1 ≤ 60 → (∀ k ∈ ks, 0 ≤ (k.named ns).dep ∧ (k.named ns).dep ≤ (d + 1 : Nat)) → 0 ≤ ((Ex.mk o 0 0 [] 0 ks).named ns).dep ∧ ((Ex.mk o 0 0 [] 0 ks).named ns).dep ≤ (d + 1 + 1 : Nat) := fun o ks d ho hd h => by
    rw [Ex.named, if_neg ho, namedAll_map, Tm.dep]
    have := tmsDep_le (d := d + 1) (ks.map (Ex.named ns)) fun x hx => by
      obtain ⟨k, hk, rfl⟩ := List.mem_map.1 hx
      exact h k hk
    exact up1_le this.1 this.2 (by omega)
  induction h with
  | col d j k hj => intro _; rw [Ex.named, if_pos rfl]; exact nil _ _ _ _ _ _
  | con d v k hv hk h1 h2 =>
    intro _
    unfold constOf
    rcases valid_k hv with h | h | h | h <;> simp only [h] <;> simp [Ex.named, namedAll]
    all_goals exact nil _ _ _ _ _ _
  | inn d x a b ks _ _ _ hl ia ib ik =>
    exact fun hd => node 28 _ _ (by omega) (by omega) fun k hk => by
      rcases List.mem_cons.1 hk with rfl | hk
      · exact ia (by omega)
      · rcases List.mem_cons.1 hk with rfl | hk
        · exact ib (by omega)
        · exact ik k hk (by omega)
  | cas d k c a b _ _ _ ic ia ib =>
    exact fun hd => node _ _ _ (by omega) (by omega) fun k hk => by
      simp only [List.mem_cons, List.not_mem_nil, or_false] at hk
      rcases hk with rfl | rfl | rfl
      · exact ic (by omega)
      · exact ia (by omega)
      · exact ib (by omega)
  | neg d a _ ia =>
    exact fun hd => node _ _ _ (by omega) (by omega) fun k hk => by
      simp only [List.mem_cons, List.not_mem_nil, or_false] at hk
      subst hk
      exact ia (by omega)
  | len d a _ ia =>
    exact fun hd => node _ _ _ (by omega) (by omega) fun k hk => by
      simp only [List.mem_cons, List.not_mem_nil, or_false] at hk
      subst hk
      exact ia (by omega)
  | one d op a _ _ _ ia =>
    exact fun hd => node _ _ _ (by omega) (by omega) fun k hk => by
      simp only [List.mem_cons, List.not_mem_nil, or_false] at hk
      subst hk
      exact ia (by omega)
  | nul d x a _ ia =>
    exact fun hd => node _ _ _ (by omega) (by omega) fun k hk => by
      simp only [List.mem_cons, List.not_mem_nil, or_false] at hk
      subst hk
      exact ia (by omega)
  | coa d k a b _ _ ia ib =>
    exact fun hd => node _ _ _ (by omega) (by omega) fun k hk => by
      simp only [List.mem_cons, List.not_mem_nil, or_false] at hk
      rcases hk with rfl | rfl
      · exact ia (by omega)
      · exact ib (by omega)
  | ari d op a b _ _ _ _ ia ib =>
    exact fun hd => node _ _ _ (by omega) (by omega) fun k hk => by
      simp only [List.mem_cons, List.not_mem_nil, or_false] at hk
      rcases hk with rfl | rfl
      · exact ia (by omega)
      · exact ib (by omega)
  | cat d a b _ _ ia ib =>
    exact fun hd => node _ _ _ (by omega) (by omega) fun k hk => by
      simp only [List.mem_cons, List.not_mem_nil, or_false] at hk
      rcases hk with rfl | rfl
      · exact ia (by omega)
      · exact ib (by omega)
  | log d op a b _ _ _ _ ia ib =>
    exact fun hd => node _ _ _ (by omega) (by omega) fun k hk => by
      simp only [List.mem_cons, List.not_mem_nil, or_false] at hk
      rcases hk with rfl | rfl
      · exact ia (by omega)
      · exact ib (by omega)
  | cmp d op x a b _ _ _ _ ia ib =>
    exact fun hd => node _ _ _ (by omega) (by omega) fun k hk => by
      simp only [List.mem_cons, List.not_mem_nil, or_false] at hk
      rcases hk with rfl | rfl
      · exact ia (by omega)
      · exact ib (by omega)
end Go.Proofs.Tryd
/- The columns of tables that are made. -/
namespace Go.Proofs.Tryd
open Go.Ab
set_option maxRecDepth 100000
set_option maxHeartbeats 2000000

theorem endG_cols (L : List Int) (nm : List UInt8) (cols : List Col) (fks : List (List D)) (m a : Nat) : (endG L nm cols fks m a).1.cols = cols := by
  unfold endG
  repeat' split
  all_goals rfl
theorem tabsG_mem (L : List Int) (a : Nat) : ∀ (n : Nat) (x : Tb), x ∈ (tabsG L a n).1 → ∃ j b, x = (tabG L j b).1
  | 0, x, h => by simp [tabsG] at h
  | n + 1, x, h => by
    simp only [tabsG, List.mem_append, List.mem_singleton] at h
    rcases h with h | rfl
    · exact tabsG_mem L a n x h
    · exact ⟨_, _, rfl⟩
def namesG (m k : Nat) : List (List UInt8) := [[105, 100]] ++ upL (nmG 99) m ++ upL (nmG 102) k
theorem upL_map {α β : Type} (f : Nat → α) (h : α → β) : ∀ k, (upL f k).map h = upL (fun j => h (f j)) k
  | 0 => rfl
  | k + 1 => by simp [upL, upL_map f h k]
theorem colsF_names (L : List Int) (a m b k : Nat) : (colsF L a m b k).map Col.n = namesG m k := by
  simp only [colsF, colsG, List.map_append, List.map_cons, upL_map, namesG, idC, colG, fcolG]
  rfl
theorem tab_cols (L : List Int) (j b : Nat) : ∃ m k, 1 ≤ m ∧ m ≤ 3 ∧ k ≤ 2 ∧ (tabG L j b).1.cols.map Col.n = namesG m k ∧ (tabG L j b).1.cols.length = m + 1 + k := by
  refine ⟨freeG L b, fkN L (b + 1 + 2 * freeG L b) j, (free_in L b).1, (free_in L b).2, fkN_le _ _ _, ?_, ?_⟩
  · unfold tabG; rw [endG_cols, colsF_names]
  · unfold tabG; rw [endG_cols, colsF_len]
theorem upL_mem {α : Type} (f : Nat → α) : ∀ (k : Nat) (x : α), x ∈ upL f k → ∃ j, x = f j
  | 0, x, h => by simp [upL] at h
  | k + 1, x, h => by
    simp only [upL, List.mem_append, List.mem_singleton] at h
    rcases h with h | rfl
    · exact upL_mem f k x h
    · exact ⟨_, rfl⟩
theorem tab_types (L : List Int) (j b : Nat) : ∀ (i : Nat) (k : Int), ((tabG L j b).1.cols.map Col.t)[i]? = some k → 1 ≤ k ∧ k ≤ 3 := by
  intro i k h
  have := List.mem_of_getElem? h
  obtain ⟨c, hc, rfl⟩ := List.mem_map.1 this
  unfold tabG at hc
  rw [endG_cols] at hc
  simp only [colsF, colsG, List.mem_append, List.mem_cons] at hc
  rcases hc with (rfl | hc) | hc
  · exact ⟨by decide, by decide⟩
  · obtain ⟨q, rfl⟩ := upL_mem _ _ _ hc
    have := nextV_in L (b + 1 + 2 * q) (n := 3) (by omega)
    simp only [colG]; omega
  · obtain ⟨q, rfl⟩ := upL_mem _ _ _ hc
    exact ⟨by simp [fcolG], by simp [fcolG]⟩
def okNamesB (ns : List (List UInt8)) : Bool := (List.range ns.length).all fun g => nameOk words ((ns[g]?).getD []) && (decide (((ns[g]?).getD []).length ≤ 100) && decide (lookG ns [] ((ns[g]?).getD []) = ((g : Int), 0)))
theorem okNames_of {ns : List (List UInt8)} (h : okNamesB ns = true) : okNames ns := by
  intro g x hx
  obtain ⟨hg, _⟩ := List.getElem?_eq_some_iff.1 hx
  unfold okNamesB at h
  rw [List.all_eq_true] at h
  have := h g (List.mem_range.2 hg)
  rw [hx, Option.getD_some] at this
  simpa only [Bool.and_eq_true, decide_eq_true_eq] using this
theorem names_ok {m k : Nat} (h1 : 1 ≤ m) (h2 : m ≤ 3) (h3 : k ≤ 2) : okNames (namesG m k) := by
  have hm : m = 1 ∨ m = 2 ∨ m = 3 := by omega
  have hk : k = 0 ∨ k = 1 ∨ k = 2 := by omega
  rcases hm with rfl | rfl | rfl <;> rcases hk with rfl | rfl | rfl <;> exact okNames_of (by decide +kernel)
theorem back_law {ns : List (List UInt8)} {ts : List Int} (hl : ns.length = ts.length) (hn : okNames ns) (ht : ∀ (j : Nat) (k : Int), ts[j]? = some k → 1 ≤ k ∧ k ≤ 3) {k : Int} {e : Ex} (h : W ts 4 k e) :
    bindT ns ts (e.named ns) = if 200 < e.size then (zEx, 8) else (e, 0) := by
  have hok := w_ok h
  rw [← hl] at hok
  obtain ⟨hr, hb⟩ := x_back hn hok
  have hd := named_dep ns h (by omega)
  have hd2 := w_dep h
  have hty := w_ty ht h
  unfold bindT
  rw [if_pos (by rw [hr]; simp; omega), hb, if_pos rfl]
  simp only
  unfold typeG
  rw [hty, if_neg (show ¬ 24 < (e.dep : Int) by omega)]
  by_cases hs : 200 < e.size
  · rw [if_pos hs, if_neg (by decide), if_pos hs]
  · rw [if_neg hs, if_pos rfl, if_neg hs]
end Go.Proofs.Tryd
/- Expressions: when two are the same. Printed by genx.py. -/
namespace Go.Proofs.Tryd
open Go.Ab
set_option maxRecDepth 100000
set_option maxHeartbeats 2000000

mutual
def Ex.eq : Ex → Ex → Bool
  | .mk o c n t g ks, .mk o' c' n' t' g' ks' => o == o' && (c == c' && (n == n' && (t == t' && (g == g' && eqAll ks ks'))))
def eqAll : List Ex → List Ex → Bool
  | [], [] => true
  | e :: es, f :: fs => e.eq f && eqAll es fs
  | [], _ :: _ => false
  | _ :: _, [] => false
end
theorem eqAll_len : ∀ (a b : List Ex), a.length ≠ b.length → eqAll a b = false
  | [], [], h => absurd rfl h
  | [], _ :: _, _ => by rw [eqAll]
  | _ :: _, [], _ => by rw [eqAll]
  | e :: es, f :: fs, h => by rw [eqAll, eqAll_len es fs (by simpa using h)]; simp
theorem eqAll_drop {a b : List Ex} {i : Nat} {x y : Ex} (h1 : a[i]? = some x) (h2 : b[i]? = some y) : eqAll (a.drop i) (b.drop i) = (x.eq y && eqAll (a.drop (i + 1)) (b.drop (i + 1))) := by
  obtain ⟨hi, rfl⟩ := List.getElem?_eq_some_iff.1 h1
  obtain ⟨hj, rfl⟩ := List.getElem?_eq_some_iff.1 h2
  rw [List.drop_eq_getElem_cons hi, List.drop_eq_getElem_cons hj, eqAll]
theorem eqAll_end {a b : List Ex} {i : Nat} (h1 : a.length ≤ i) (h2 : b.length ≤ i) : eqAll (a.drop i) (b.drop i) = true := by
  rw [List.drop_eq_nil_of_le h1, List.drop_eq_nil_of_le h2, eqAll]

mutual
theorem Ex.eq_self : ∀ e : Ex, e.eq e = true
  | .mk o c n t g ks => by rw [Ex.eq, eqAll_self ks]; simp
theorem eqAll_self : ∀ l : List Ex, eqAll l l = true
  | [] => by rw [eqAll]
  | e :: es => by rw [eqAll, e.eq_self, eqAll_self es]; rfl
end
theorem re_same : ∀ (m : Nat) (x y : Ex), SizeOf.sizeOf x < m → x.fits → Cf En 21 [x.a, y.a] [] (.d (.bool (x.eq y))) []
  | 0, _, _, h, _ => absurd h (by omega)
  | m + 1, .mk o c n t g ks, .mk o' c' n' t' g' ks', hm, hfit => by
    refine cf_intro mix (fn := Tryd.f21) (by kernel_rfl) rfl (by kernel_rfl) (by decide) (by simp) ?_
    rw [Ex.fits] at hfit
    have he : (Ex.mk o c n t g ks).eq (.mk o' c' n' t' g' ks') = (o == o' && (c == c' && (n == n' && (t == t' && (g == g' && eqAll ks ks'))))) := by rw [Ex.eq]
    rw [he]
    by_cases h1 : o = o'
    · by_cases h2 : c = c'
      · by_cases h3 : n = n'
        · by_cases h4 : t = t'
          · by_cases h5 : g = g'
            · by_cases h6 : ks.length = ks'.length
              · have h6' : (ks.length : Int) = ks'.length := by omega
                subst h1 h2 h3 h4 h5
                have hr : (o == o && (c == c && (n == n && (t == t && (g == g && eqAll ks ks'))))) = eqAll ks ks' := by simp
                rw [hr]
                generalize hres : eqAll ks ks' = res
                simp [Ex.a, Ex.c, kidsC_map, h6, h6']
                refine ⟨.of (by kernel_rfl), .of (by kernel_rfl), .of (by kernel_rfl), ?_⟩
                refine aloopT mix (by decide) (fun i : Nat => { s := mkS [(2, .ptr 2 0 0), (3, .ptr 3 0 0), (5, .d (.int .i64 i))], b := mkB [(2, 2, .var (Ex.a (.mk o c n t g ks)).cells), (3, 3, .var (Ex.a (.mk o c n t g ks')).cells)] }) (fun i : Nat => i ≤ ks'.length ∧ eqAll (ks.drop i) (ks'.drop i) = res) (fun i => ks'.length - i) 0 (by simp [hres]) (sub_mk _ _ ⟨by simp, by simp, by simp [renOf, Blk.live, Ex.a, Ex.c, kidsC_map], by simp⟩ (by simp [renOf])) ?_
                rintro i ⟨hi, ho⟩
                by_cases hlt : i < ks'.length
                · have hlt' : (i : Int) < ks'.length := by omega
                  have hla : i < ks.length := by omega
                  have hg : ks[i]? = some ks[i] := List.getElem?_eq_getElem hla
                  have hg2 : ks'[i]? = some ks'[i] := List.getElem?_eq_getElem hlt
                  have hd := eqAll_drop hg hg2
                  have c1 := Ex.clen ks[i]
                  have c2 := Ex.clen ks'[i]
                  have k1 := Ex.ctake ks[i]
                  have k2 := Ex.ctake ks'[i]
                  have hkid : SizeOf.sizeOf ks[i] < m := by
                    have := Ex.kid_lt (e := .mk o c n t g ks) (k := ks[i]) (List.getElem_mem hla)
                    omega
                  simp [Ex.a, Ex.c, kidsC_map, h6, hlt, hlt', hla, hg, hg2, c1, c2, k1, k2]
                  refine ⟨.of (by kernel_rfl), acallT_plain (re_same m ks[i] ks'[i] hkid (fitsAll_get ks hfit.2 _ (List.getElem_mem hla))) (by simp [Ex.a]) ?_⟩
                  simp
                  refine ⟨.of (by kernel_rfl), fun h => ⟨.of (by kernel_rfl), ?_⟩, fun h => ⟨.of (by kernel_rfl), i + 1, ⟨hlt, ?_⟩, ?_, ?_⟩⟩
                  · rw [← ho, hd, h]; rfl
                  · rw [← ho, hd, h]; rfl
                  · refine sub_mk _ [(2, 2, _), (3, 3, _)] ⟨by simp, by simp, by simp [renOf, Blk.live, Ex.a, Ex.c, kidsC_map], by simp⟩ ?_
                    simp [renOf]
                    exact wrap_in (by omega) (by omega)
                  · simp; omega
                · have hlt' : ¬ (i : Int) < ks'.length := by omega
                  simp [Ex.a, Ex.c, kidsC_map, h6, hlt, hlt']
                  refine ⟨.of (by kernel_rfl), .of (by kernel_rfl), ?_⟩
                  rw [← ho, eqAll_end (by omega) (by omega)]
              · have h6' : ¬ (ks.length : Int) = ks'.length := by omega
                rw [eqAll_len ks ks' h6]
                simp [Ex.a, Ex.c, kidsC_map, h1, h2, h3, h4, h5, h6, h6']
                exact ⟨.of (by kernel_rfl), .of (by kernel_rfl), .of (by kernel_rfl)⟩
            · have h5' : (g == g') = false := by simp [h5]
              have h5n : (g != g') = true := by simp [h5]
              simp [Ex.a, Ex.c, kidsC_map, h1, h2, h3, h4, h5, h5', h5n]
              exact ⟨.of (by kernel_rfl), .of (by kernel_rfl), .of (by kernel_rfl)⟩
          · have h4' : (t == t') = false := by simp [h4]
            have h4n : (!(t == t')) = true := by simp [h4]
            simp [Ex.a, Ex.c, kidsC_map, h1, h2, h3, h4, h4', h4n]
            exact ⟨.of (by kernel_rfl), .of (by kernel_rfl), .of (by kernel_rfl)⟩
        · have h3' : (n == n') = false := by simp [h3]
          have h3n : (n != n') = true := by simp [h3]
          simp [Ex.a, Ex.c, kidsC_map, h1, h2, h3, h3', h3n]
          exact ⟨.of (by kernel_rfl), .of (by kernel_rfl), .of (by kernel_rfl)⟩
      · have h2' : (c == c') = false := by simp [h2]
        have h2n : (c != c') = true := by simp [h2]
        simp [Ex.a, Ex.c, kidsC_map, h1, h2, h2', h2n]
        exact ⟨.of (by kernel_rfl), .of (by kernel_rfl), .of (by kernel_rfl)⟩
    · have h1' : (o == o') = false := by simp [h1]
      have h1n : (o != o') = true := by simp [h1]
      simp [Ex.a, Ex.c, kidsC_map, h1, h1', h1n]
      exact ⟨.of (by kernel_rfl), .of (by kernel_rfl), .of (by kernel_rfl)⟩
end Go.Proofs.Tryd
/- BindTerms. -/
namespace Go.Proofs.Tryd
open Go.Ab
set_option maxRecDepth 100000
set_option maxHeartbeats 4000000

theorem same_self (e : Ex) (h : e.fits) : Cf Et 21 [e.a, e.a] [] (.d (.bool true)) [] := by
  have := upn (re_same _ e e (Nat.lt_succ_self _) h)
  rwa [Ex.eq_self] at this
theorem zEx_fits : zEx.fits := by rw [zEx, Ex.fits]; exact ⟨by simp, trivial⟩
theorem bindT_fits (ns : List (List UInt8)) (ts : List Int) (x : Tm) (hq : x.few 0 = true) : (bindT ns ts x).1.fits := by
  unfold bindT
  split
  · split
    · split
      · exact fits_few _ _ (Nat.lt_succ_self _) 0 (bnd_few ns _ x (Nat.lt_succ_self _) 0 hq)
      · exact zEx_fits
    · exact zEx_fits
  · exact zEx_fits
theorem few_term (x : Tm) : Cf Es 8 [x.a] [] (.d (.bool (x.few 0))) [] := by
  refine cf_intro mixs (fn := Tryd.f8) (by kernel_rfl) rfl (by kernel_rfl) (by decide) (by simp) ?_
  have c1 := x.clen
  have k1 := x.ctake
  have h1 := ups (l_termFew _ x 0 (Nat.lt_succ_self _))
  simp [Tm.a, c1, k1]
  (repeat refine ⟨.of (by kernel_rfl), ?_⟩)
  refine acallT_plain h1 (by simp [Tm.a]) ?_
  simp
  (repeat' (first | contradiction | exact .of (by kernel_rfl) | refine And.intro ?_ ?_ | intro _ | (refine agrd_cases (fun h => ?_) (fun h => ?_) <;> (have h' := h; (try simp at h'); first | done | simp [h, h'] | simp))))
theorem bind_terms (L : List Int) (cols : List Col) (hcl : cols.length ≤ 9223372036854775807) (x : Tm) (hf : x.fits) :
    Cf Et 4 [.d (.sl (ints L)), .d (.sl (cols.map Col.c)), x.a] [] (.d (.bool true)) [] := by
  refine cf_intro mixt (fn := Tryd.f4) (by kernel_rfl) rfl (by kernel_rfl) (by decide) (by simp) ?_
  have hfw := upst (few_term x)
  have c1 := x.clen
  have k1 := x.ctake
  have k1' := x.ctake'
  simp [Tm.a, c1, k1, k1']
  (repeat' (first | contradiction | exact .of (by kernel_rfl) | refine And.intro ?_ ?_ | intro _ | (refine agrd_cases (fun h => ?_) (fun h => ?_) <;> (have h' := h; (try simp at h'); first | done | simp [h, h'] | simp))))
  refine acallT_plain hfw (by simp [Tm.a]) ?_
  cases hq : x.few 0 with
  | false =>
    simp
    (repeat' (first | contradiction | exact .of (by kernel_rfl) | refine And.intro ?_ ?_ | intro _ | (refine agrd_cases (fun h => ?_) (fun h => ?_) <;> (have h' := h; (try simp at h'); first | done | simp [h, h'] | simp))))
  | true =>
  by_cases h30 : 30 < cols.length
  · have h30' : (30 : Int) < cols.length := by omega
    simp [h30, h30']
    (repeat' (first | contradiction | exact .of (by kernel_rfl) | refine And.intro ?_ ?_ | intro _ | (refine agrd_cases (fun h => ?_) (fun h => ?_) <;> (have h' := h; (try simp at h'); first | done | simp [h, h', h30, h30'] | simp [h30, h30']))))
  have h30' : ¬ (30 : Int) < cols.length := by omega
  have hsch := upn (t_schema L 0 (by omega))
  have hfr := free_in L 0
  have htl := tabs_le L (0 + 1) (freeG L 0) (by omega)
  have hln := tabsG_len L (0 + 1) (freeG L 0)
  have hmem := tabsG_mem L (0 + 1) (freeG L 0)
  generalize tabsG L (0 + 1) (freeG L 0) = S at *
  obtain ⟨tabs, i1⟩ := S
  simp only at *
  obtain ⟨t0, rest, rfl⟩ : ∃ t0 rest, tabs = t0 :: rest := by
    cases tabs with
    | nil => simp at hln; omega
    | cons a b => exact ⟨a, b, rfl⟩
  have hi1 : i1 ≤ 3000 := by omega
  have htb : tb 4 = 3435 := by decide
  obtain ⟨_, hterm⟩ := t_term L 4 (by omega) i1 (by omega)
  have hmf := termG_few L 4 i1 0 (by omega)
  have hterm := upn hterm
  generalize termG L 4 i1 = M at *
  obtain ⟨made, i2⟩ := M
  simp only at *
  have hmfit := fits_of_few _ made (Nat.lt_succ_self _) 0 hmf
  have a1 := b_Term cols (by omega) x hq hf
  have a2 := r_Term cols (by omega) x hq hf
  obtain ⟨j, b, ht0⟩ := hmem t0 List.mem_cons_self
  have htc : t0.cols.length ≤ 1000 := by
    obtain ⟨m, k, _, h3, h2, _, hl⟩ := tab_cols L j b
    rw [ht0, hl]; omega
  have a3 := b_Term t0.cols htc made hmf hmfit
  have a4 := r_Term t0.cols htc made hmf hmfit
  have s1 := same_self _ (bindT_fits (cols.map Col.n) (cols.map Col.t) x hq)
  have s2 := same_self _ (bindT_fits (t0.cols.map Col.n) (t0.cols.map Col.t) made hmf)
  clear hmem ht0
  generalize bindT (cols.map Col.n) (cols.map Col.t) x = r1 at *
  generalize bindT (t0.cols.map Col.n) (t0.cols.map Col.t) made = r2 at *
  obtain ⟨e1, n1⟩ := r1
  obtain ⟨e2, n2⟩ := r2
  simp only at *
  have d1 := made.clen
  have d2 := made.ctake
  have d2' := made.ctake'
  have u1 := e1.clen
  have u2 := e1.ctake
  have u2' := e1.ctake'
  have v1 := e2.clen
  have v2 := e2.ctake
  have v2' := e2.ctake'
  simp [h30, h30', ints]
  (repeat' (first | contradiction | exact .of (by kernel_rfl) | refine And.intro ?_ ?_ | intro _ | (refine agrd_cases (fun h => ?_) (fun h => ?_) <;> (have h' := h; (try simp at h'); first | done | simp [h, h', h30, h30'] | simp [h30, h30']))))
  refine acallT_hand [28] hsch (by simp) (by simp) (by simp) (by simp [tapB]) (by simp) ?_
  simp [tapB]
  (repeat' (first | contradiction | exact .of (by kernel_rfl) | refine And.intro ?_ ?_ | intro _ | (refine agrd_cases (fun h => ?_) (fun h => ?_) <;> (have h' := h; (try simp at h'); first | done | simp [h, h'] | simp))))
  refine acallT_hand [28] hterm (by simp) (by simp) (by simp) (by simp [tapB]) (by simp) ?_
  simp [tapB, Tm.a, c1, k1, k1', d1, d2, d2']
  (repeat' (first | contradiction | exact .of (by kernel_rfl) | refine And.intro ?_ ?_ | intro _ | (refine agrd_cases (fun h => ?_) (fun h => ?_) <;> (have h' := h; (try simp at h'); first | done | simp [h, h'] | simp))))
  refine acallT_plain a1 (by simp [Tm.a]) ?_
  simp [Ex.a, u1, u2, u2', c1, k1, k1']
  (repeat' (first | contradiction | exact .of (by kernel_rfl) | refine And.intro ?_ ?_ | intro _ | (refine agrd_cases (fun h => ?_) (fun h => ?_) <;> (have h' := h; (try simp at h'); first | done | simp [h, h'] | simp))))
  refine acallT_plain a2 (by simp [Tm.a]) ?_
  simp [Ex.a, u1, u2, u2', d1, d2, d2', Tb.c]
  (repeat' (first | contradiction | exact .of (by kernel_rfl) | refine And.intro ?_ ?_ | intro _ | (refine agrd_cases (fun h => ?_) (fun h => ?_) <;> (have h' := h; (try simp at h'); first | done | simp [h, h'] | simp))))
  refine acallT_plain a3 (by simp [Tm.a]) ?_
  simp [Ex.a, v1, v2, v2', d1, d2, d2', Tb.c]
  (repeat' (first | contradiction | exact .of (by kernel_rfl) | refine And.intro ?_ ?_ | intro _ | (refine agrd_cases (fun h => ?_) (fun h => ?_) <;> (have h' := h; (try simp at h'); first | done | simp [h, h'] | simp))))
  refine acallT_plain a4 (by simp [Tm.a]) ?_
  simp [Ex.a, v1, v2, v2', u1, u2, u2']
  (repeat' (first | contradiction | exact .of (by kernel_rfl) | refine And.intro ?_ ?_ | intro _ | (refine agrd_cases (fun h => ?_) (fun h => ?_) <;> (have h' := h; (try simp at h'); first | done | simp [h, h'] | simp))))
  refine acallT_plain s1 (by simp [Ex.a]) ?_
  simp [v1, v2, v2']
  refine acallT_plain s2 (by simp [Ex.a]) ?_
  simp
  (repeat' (first | contradiction | exact .of (by kernel_rfl) | refine And.intro ?_ ?_ | intro _ | (refine agrd_cases (fun h => ?_) (fun h => ?_) <;> (have h' := h; (try simp at h'); first | done | simp [h, h'] | simp))))
end Go.Proofs.Tryd
