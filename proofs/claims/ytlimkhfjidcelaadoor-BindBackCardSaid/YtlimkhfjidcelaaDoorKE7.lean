import Derived.Test.YtlimkhfjidcelaaDoorKE2
import Derived.Test.YtlimkhfjidcelaaDoorKE1
import Derived.Test.YtlimkhfjidcelaaDoorAbB
set_option linter.all false
/- Expressions that are made. -/
namespace Go.Proofs.Tryd
open Go.Ab

def twoG (g : Int → Nat → Ex × Nat) (op x : Int) (i : Nat) : Ex × Nat := (.mk op 0 0 [] 0 [(g x i).1, (g x (g x i).2).1], (g x (g x i).2).2)
def moreG (g : Int → Nat → Ex × Nat) (x : Int) : Nat → Nat → List Ex × Nat
  | 0, i => ([], i)
  | n + 1, i => ((moreG g x n i).1 ++ [(g x (moreG g x n i).2).1], (g x (moreG g x n i).2).2)
def oneG (g : Int → Nat → Ex × Nat) (op x : Int) (i : Nat) : Ex × Nat := (.mk op 0 0 [] 0 [(g x i).1], (g x i).2)
def caseG (g : Int → Nat → Ex × Nat) (k : Int) (i : Nat) : Ex × Nat := (.mk 26 0 0 [] 0 [(g 2 i).1, (g k (g 2 i).2).1, (g k (g k (g 2 i).2).2).1], (g k (g k (g 2 i).2).2).2)
def inG (L : List Int) (g : Int → Nat → Ex × Nat) (x : Int) (i : Nat) : Ex × Nat :=
  (.mk 28 0 0 [] 0 ([(g x i).1, (g x (g x i).2).1] ++ (moreG g x (nextV L (g x (g x i).2).2 3).toNat ((g x (g x i).2).2 + 1)).1), (moreG g x (nextV L (g x (g x i).2).2 3).toNat ((g x (g x i).2).2 + 1)).2)
def boolG (L : List Int) (g : Int → Nat → Ex × Nat) (i : Nat) : Ex × Nat :=
  if nextV L (i + 1) 6 = 0 then twoG g (22 + nextV L (i + 2) 2) 2 (i + 3)
  else if nextV L (i + 1) 6 = 1 then oneG g (24 + nextV L (i + 2) 2) 2 (i + 3)
  else if nextV L (i + 1) 6 = 2 then oneG g 21 (1 + nextV L i 3) (i + 2)
  else if nextV L (i + 1) 6 = 3 then inG L g (1 + nextV L i 3) (i + 2)
  else twoG g (14 + nextV L (i + 2) 7) (1 + nextV L i 3) (i + 3)
def nodeG (L : List Int) (g : Int → Nat → Ex × Nat) (k : Int) (i : Nat) : Ex × Nat :=
  if nextV L i 4 = 0 then caseG g k (i + 1)
  else if nextV L i 4 = 1 then twoG g 27 k (i + 1)
  else if k = 1 ∧ nextV L i 4 = 2 then twoG g (6 + nextV L (i + 1) 5) 1 (i + 2)
  else if k = 1 then (if nextV L (i + 1) 2 = 0 then oneG g 11 1 (i + 2) else oneG g 13 3 (i + 2))
  else if k = 3 then twoG g 12 3 (i + 1)
  else boolG L g (i + 1)
def exprG (L : List Int) (ts : List Int) : Nat → Int → Nat → Ex × Nat
  | 0, k, i => pickG L ts k i
  | d + 1, k, i => if d = 0 then pickG L ts k i else if nextV L i 4 = 0 then pickG L ts k (i + 1) else nodeG L (exprG L ts d) k (i + 1)
def gb : Nat → Nat
  | 0 => 2
  | d + 1 => 10 + 5 * gb d

/-- The contract that is carried: up to an index. -/
def ExprOk (L ts : List Int) (d : Nat) (g : Int → Nat → Ex × Nat) : Prop :=
  ∀ (k : Int) (i : Nat), i + gb d ≤ 1000000 → (g k i).2 ≤ i + gb d ∧ Cf En 23 [.ptr 1000000 0 0, .d (.sl (ints ts)), .d (.int .i64 k), .d (.int .i64 d)] [tapB L i] (g k i).1.a [tapB L (g k i).2]

theorem take6 (e : Ex) (l : List D) : List.take 6 (e.c ++ l) = e.c := by
  rw [List.take_append_of_le_length (by simp [Ex.clen]), List.take_of_length_le (by simp [Ex.clen])]
theorem drop6 (e : Ex) (l : List D) : List.drop 6 (e.c ++ l) = l := by
  rw [List.drop_append_of_le_length (by simp [Ex.clen]), List.drop_of_length_le (by simp [Ex.clen])]; rfl
theorem toDs_app (bl : Nat → Blk) : ∀ (l : List D) (r : List AV) (x : List D) (y : List Nat), toDs bl r = some (x, y) → toDs bl (l.map AV.d ++ r) = some (l ++ x, y)
  | [], r, x, y, h => h
  | d :: l, r, x, y, h => by rw [List.map_cons, List.cons_append, toDs, toDs_app bl l r x y h]; rfl
@[simp] theorem toDs_app2 (bl : Nat → Blk) (l m : List D) : toDs bl (l.map AV.d ++ m.map AV.d) = some (l ++ m, []) := toDs_app bl l _ _ _ (toDs_d bl m)
@[simp] theorem toDs_app3 (bl : Nat → Blk) (l m n : List D) : toDs bl (l.map AV.d ++ (m.map AV.d ++ n.map AV.d)) = some (l ++ (m ++ n), []) := toDs_app bl l _ _ _ (toDs_app2 bl m n)

set_option maxRecDepth 100000 in
theorem t_two (L ts : List Int) (d : Nat) (g : Int → Nat → Ex × Nat) (ok : ExprOk L ts d g) (op x : Int) (i : Nat) (hi : i + 2 * gb d ≤ 1000000) (hd : d ≤ 100) :
    (twoG g op x i).2 ≤ i + 2 * gb d ∧ Cf En 60 [.d (.int .i64 op), .d (.int .i64 x), .ptr 1000000 0 0, .ptr 1000001 0 0, .ptr 1000002 0 0] [.var [.ptr 1000003 0 0], .var [.d (.sl (ints ts))], .var [.d (.int .i64 (d + 1 : Nat))], tapB L i]
      (twoG g op x i).1.a [.var [.ptr 1000003 0 0], .var [.d (.sl (ints ts))], .var [.d (.int .i64 (d + 1 : Nat))], tapB L (twoG g op x i).2] := by
  obtain ⟨l1, c1⟩ := ok x i (by omega)
  obtain ⟨l2, c2⟩ := ok x (g x i).2 (by omega)
  refine ⟨by simp only [twoG]; omega, ?_⟩
  refine cf_intro mix (fn := Tryd.f60) (by kernel_rfl) rfl (by kernel_rfl) (by decide) (by simp) ?_
  have hw := wrap_in (n := (d : Int)) (by omega) (by omega)
  simp [tapB, hw]
  (repeat' (first | contradiction | exact .of (by kernel_rfl) | refine And.intro ?_ ?_ | intro _ | (refine agrd_cases (fun h => ?_) (fun h => ?_) <;> (have h' := h; (try simp at h'); first | done | simp [h, h'] | simp))))
  refine acallT_hand [1000003] c1 (by simp) (by simp) (by simp) (by simp [tapB]) (by simp) ?_
  simp [tapB, Ex.a, Ex.ctake, Ex.clen, hw]
  (repeat' (first | contradiction | exact .of (by kernel_rfl) | refine And.intro ?_ ?_ | intro _ | (refine agrd_cases (fun h => ?_) (fun h => ?_) <;> (have h' := h; (try simp at h'); first | done | simp [h, h'] | simp))))
  refine acallT_hand [1000003] c2 (by simp) (by simp) (by simp) (by simp [tapB]) (by simp) ?_
  simp [tapB, Ex.a, Ex.ctake, Ex.clen, take6, drop6, Ex.ctake']
  (repeat' (first | contradiction | exact .of (by kernel_rfl) | refine And.intro ?_ ?_ | intro _ | (refine agrd_cases (fun h => ?_) (fun h => ?_) <;> (have h' := h; (try simp at h'); first | done | simp [h, h'] | simp))))
  all_goals rfl
set_option maxRecDepth 100000 in
theorem d_two (L ts : List Int) (d : Nat) (g : Int → Nat → Ex × Nat) (ok : ExprOk L ts d g) (op x : Int) (i : Nat) (hi : i + 2 * gb d ≤ 1000000) (hd : d ≤ 100) :
    Cf En 60 [.d (.int .i64 op), .d (.int .i64 x), .ptr 1000000 0 0, .ptr 1000001 0 0, .ptr 1000002 0 0] [.var [.ptr 1000003 0 0], .var [.d (.sl (ints ts))], .var [.d (.int .i64 (d + 1 : Nat))], tapB L i]
      (.agg [.d (.int .i64 op), .d (.int .i64 0), .d (.int .i64 0), .d (.str []), .d (.int .i64 0), .ref 1000004 0 2 6]) [.var [.ptr 1000003 0 0], .var [.d (.sl (ints ts))], .var [.d (.int .i64 (d + 1 : Nat))], tapB L (twoG g op x i).2, .arr 49 6 [(g x i).1.c, (g x (g x i).2).1.c] false] := by
  obtain ⟨l1, c1⟩ := ok x i (by omega)
  obtain ⟨l2, c2⟩ := ok x (g x i).2 (by omega)
  refine cf_intro mix (fn := Tryd.f60) (by kernel_rfl) rfl (by kernel_rfl) (by decide) (by simp) ?_
  have hw := wrap_in (n := (d : Int)) (by omega) (by omega)
  simp [tapB, hw]
  (repeat' (first | contradiction | exact .of (by kernel_rfl) | refine And.intro ?_ ?_ | intro _ | (refine agrd_cases (fun h => ?_) (fun h => ?_) <;> (have h' := h; (try simp at h'); first | done | simp [h, h'] | simp))))
  refine acallT_hand [1000003] c1 (by simp) (by simp) (by simp) (by simp [tapB]) (by simp) ?_
  simp [tapB, Ex.a, Ex.ctake, Ex.clen, hw]
  (repeat' (first | contradiction | exact .of (by kernel_rfl) | refine And.intro ?_ ?_ | intro _ | (refine agrd_cases (fun h => ?_) (fun h => ?_) <;> (have h' := h; (try simp at h'); first | done | simp [h, h'] | simp))))
  refine acallT_hand [1000003] c2 (by simp) (by simp) (by simp) (by simp [tapB]) (by simp) ?_
  simp [tapB, Ex.a, Ex.ctake, Ex.clen, take6, drop6, Ex.ctake']
  (repeat' (first | contradiction | exact .of (by kernel_rfl) | refine And.intro ?_ ?_ | intro _ | (refine agrd_cases (fun h => ?_) (fun h => ?_) <;> (have h' := h; (try simp at h'); first | done | simp [h, h'] | simp))))
  refine ⟨_, [(1000000, 1000000, .var [.ptr 1000003 0 0]), (1000001, 1000001, .var [.d (.sl (ints ts))]), (1000002, 1000002, .var [.d (.int .i64 (d + 1 : Nat))]), (1000003, 1000003, tapB L (twoG g op x i).2), (1000004, 23, .arr 49 6 [(g x i).1.c, (g x (g x i).2).1.c] false)], by simp; rfl, ⟨by simp, by simp, ?_, base4⟩, by simp [List.zipIdx, tapB], ?_⟩
  · intro p hp
    simp only [List.mem_cons, List.not_mem_nil, or_false] at hp
    rcases hp with rfl | rfl | rfl | rfl | rfl <;> simp [renOf, twoG, tapB]
  · simp [renOf]
theorem pick_le (L ts : List Int) (k : Int) (i : Nat) : (pickG L ts k i).2 ≤ i + 2 := by unfold pickG; simp only; split <;> simp <;> omega
theorem more_len (g : Int → Nat → Ex × Nat) (x : Int) : ∀ (n i : Nat), (moreG g x n i).1.length = n
  | 0, _ => rfl
  | n + 1, i => by simp [moreG, more_len g x n i]
theorem more_le (g : Int → Nat → Ex × Nat) (G : Nat) (hle : ∀ (k : Int) (j : Nat), j + G ≤ 1000000 → (g k j).2 ≤ j + G) (x : Int) : ∀ (n i : Nat), i + n * G ≤ 1000000 → (moreG g x n i).2 ≤ i + n * G
  | 0, i, _ => by simp [moreG]
  | n + 1, i, h => by
    rw [Nat.succ_mul] at h
    have h1 := more_le g G hle x n i (by omega)
    have h2 := hle x (moreG g x n i).2 (by omega)
    simp only [moreG]
    rw [Nat.succ_mul]
    omega
theorem node_le (L : List Int) (g : Int → Nat → Ex × Nat) (G : Nat) (hle : ∀ (k : Int) (j : Nat), j + G ≤ 1000000 → (g k j).2 ≤ j + G) (k : Int) (i : Nat) (hi : i + 9 + 5 * G ≤ 1000000) : (nodeG L g k i).2 ≤ i + 8 + 5 * G := by
  have two : ∀ (op x : Int) (j : Nat), j + 2 * G ≤ 1000000 → (twoG g op x j).2 ≤ j + 2 * G := fun op x j h => by
    have h1 := hle x j (by omega)
    have h2 := hle x (g x j).2 (by omega)
    simp only [twoG]; omega
  have one : ∀ (op x : Int) (j : Nat), j + G ≤ 1000000 → (oneG g op x j).2 ≤ j + G := fun op x j h => hle x j h
  have inn : ∀ (x : Int) (j : Nat), j + 1 + 4 * G ≤ 1000000 → (inG L g x j).2 ≤ j + 1 + 4 * G := fun x j h => by
    have h1 := hle x j (by omega)
    have h2 := hle x (g x j).2 (by omega)
    have hn := nextV_in L (g x (g x j).2).2 (n := 3) (by omega)
    have h3 : (nextV L (g x (g x j).2).2 3).toNat ≤ 2 := by omega
    have h4 : (nextV L (g x (g x j).2).2 3).toNat * G ≤ 2 * G := Nat.mul_le_mul_right _ h3
    have h5 := more_le g G hle x (nextV L (g x (g x j).2).2 3).toNat ((g x (g x j).2).2 + 1) (by omega)
    simp only [inG]; omega
  unfold nodeG
  split
  · have h1 := hle 2 (i + 1) (by omega)
    have h2 := hle k (g 2 (i + 1)).2 (by omega)
    have h3 := hle k (g k (g 2 (i + 1)).2).2 (by omega)
    simp only [caseG]; omega
  split
  · have := two 27 k (i + 1) (by omega); omega
  split
  · have := two (6 + nextV L (i + 1) 5) 1 (i + 2) (by omega); omega
  split
  · split
    · have := one 11 1 (i + 2) (by omega); omega
    · have := one 13 3 (i + 2) (by omega); omega
  split
  · have := two 12 3 (i + 1) (by omega); omega
  unfold boolG
  split
  · have := two (22 + nextV L (i + 1 + 2) 2) 2 (i + 1 + 3) (by omega); omega
  split
  · have := one (24 + nextV L (i + 1 + 2) 2) 2 (i + 1 + 3) (by omega); omega
  split
  · have := one 21 (1 + nextV L (i + 1) 3) (i + 1 + 2) (by omega); omega
  split
  · have := inn (1 + nextV L (i + 1) 3) (i + 1 + 2) (by omega); omega
  · have := two (14 + nextV L (i + 1 + 2) 7) (1 + nextV L (i + 1) 3) (i + 1 + 3) (by omega); omega
set_option maxRecDepth 100000 in
set_option maxHeartbeats 4000000 in
theorem t_expr (L ts : List Int) (hts : ts.length ≤ 1000) : ∀ d : Nat, d ≤ 6 → ExprOk L ts d (exprG L ts d)
  | 0, _ => fun k i hi => by
    have hle := pick_le L ts k i
    have hp := t_pick L i (by omega) ts hts k
    refine ⟨by simp only [exprG, gb]; omega, ?_⟩
    refine cf_intro mix (fn := Tryd.f23) (by kernel_rfl) rfl (by kernel_rfl) (by decide) (by simp) ?_
    simp [tapB, exprG]
    (repeat' (first | contradiction | exact .of (by kernel_rfl) | refine And.intro ?_ ?_ | intro _ | (refine agrd_cases (fun h => ?_) (fun h => ?_) <;> (have h' := h; (try simp at h'); first | done | simp [h, h'] | simp))))
    refine acallT_hand [1000000] hp (by simp) (by simp) (by simp) (by simp [tapB]) (by simp) ?_
    simp [tapB, Ex.a, Ex.ctake, Ex.clen]
    (repeat' (first | contradiction | exact .of (by kernel_rfl) | refine And.intro ?_ ?_ | intro _ | (refine agrd_cases (fun h => ?_) (fun h => ?_) <;> (have h' := h; (try simp at h'); first | done | simp [h, h'] | simp))))
  | 1, _ => fun k i hi => by
    have hle := pick_le L ts k i
    have hp := t_pick L i (by simp [gb] at hi; omega) ts hts k
    refine ⟨by simp only [exprG, gb]; simp; omega, ?_⟩
    refine cf_intro mix (fn := Tryd.f23) (by kernel_rfl) rfl (by kernel_rfl) (by decide) (by simp) ?_
    simp [tapB, exprG]
    (repeat' (first | contradiction | exact .of (by kernel_rfl) | refine And.intro ?_ ?_ | intro _ | (refine agrd_cases (fun h => ?_) (fun h => ?_) <;> (have h' := h; (try simp at h'); first | done | simp [h, h'] | simp))))
    refine acallT_hand [1000000] hp (by simp) (by simp) (by simp) (by simp [tapB]) (by simp) ?_
    simp [tapB, Ex.a, Ex.ctake, Ex.clen]
    (repeat' (first | contradiction | exact .of (by kernel_rfl) | refine And.intro ?_ ?_ | intro _ | (refine agrd_cases (fun h => ?_) (fun h => ?_) <;> (have h' := h; (try simp at h'); first | done | simp [h, h'] | simp))))
  | d + 2, hd => fun k i hi => by
    have ok := t_expr L ts hts (d + 1) (by omega)
    have hgb : gb (d + 2) = 10 + 5 * gb (d + 1) := rfl
    have e1 : exprG L ts (d + 2) k i = if nextV L i 4 = 0 then pickG L ts k (i + 1) else nodeG L (exprG L ts (d + 1)) k (i + 1) := by
      rw [exprG]; simp
    rw [e1]
    generalize exprG L ts (d + 1) = g at ok
    have hn := nextV_in L i (n := 4) (by omega)
    have ht := t_next L i (by omega) 4 (by omega)
    rw [show nextI i 4 = i + 1 from rfl] at ht
    refine ⟨?_, ?_⟩
    · split
      · have := pick_le L ts k (i + 1); omega
      · have := node_le L g (gb (d + 1)) (fun k j h => (ok k j h).1) k (i + 1) (by omega); omega
    refine cf_intro mix (fn := Tryd.f23) (by kernel_rfl) rfl (by kernel_rfl) (by decide) (by simp) ?_
    have hd1 : ¬ (d : Int) + 2 ≤ 1 := by omega
    simp [tapB, hd1]
    (repeat' (first | contradiction | exact .of (by kernel_rfl) | refine And.intro ?_ ?_ | intro _ | (refine agrd_cases (fun h => ?_) (fun h => ?_) <;> (have h' := h; (try simp at h'); first | done | simp [h, h', hd1] | simp [hd1]))))
    refine acallT_hand [1000000] ht (by simp) (by simp) (by simp) (by simp [tapB]) (by simp) ?_
    by_cases h0 : nextV L i 4 = 0
    · have hp := t_pick L (i + 1) (by omega) ts hts k
      simp [tapB, h0]
      (repeat' (first | contradiction | exact .of (by kernel_rfl) | refine And.intro ?_ ?_ | intro _ | (refine agrd_cases (fun h => ?_) (fun h => ?_) <;> (have h' := h; (try simp at h'); first | done | simp [h, h'] | simp))))
      refine acallT_hand [1000000] hp (by simp) (by simp) (by simp) (by simp [tapB]) (by simp) ?_
      simp [tapB, Ex.a, Ex.ctake, Ex.clen]
      (repeat' (first | contradiction | exact .of (by kernel_rfl) | refine And.intro ?_ ?_ | intro _ | (refine agrd_cases (fun h => ?_) (fun h => ?_) <;> (have h' := h; (try simp at h'); first | done | simp [h, h'] | simp))))
      all_goals simp [h0]
    have hn1 := nextV_in L (i + 1) (n := 4) (by omega)
    have ht1 := t_next L (i + 1) (by omega) 4 (by omega)
    rw [show nextI (i + 1) 4 = i + 2 from rfl] at ht1
    have hw2 := wrap_in (n := (d : Int) + 1) (by omega) (by omega)
    have hw : IntKind.i64.wrap ((d : Int) + 2 - 1) = d + 1 := by rw [wrap_in (by omega) (by omega)]; omega
    simp [tapB, h0]
    (repeat' (first | contradiction | exact .of (by kernel_rfl) | refine And.intro ?_ ?_ | intro _ | (refine agrd_cases (fun h => ?_) (fun h => ?_) <;> (have h' := h; (try simp at h'); first | done | simp [h, h'] | simp))))
    refine acallT_hand [1000000] ht1 (by simp) (by simp) (by simp) (by simp [tapB]) (by simp) ?_
    by_cases n0 : nextV L (i + 1) 4 = 0
    · have e2 : nodeG L g k (i + 1) = caseG g k (i + 2) := by simp [nodeG, n0]
      obtain ⟨l1, c1⟩ := ok 2 (i + 2) (by omega)
      obtain ⟨l2, c2⟩ := ok k (g 2 (i + 2)).2 (by omega)
      obtain ⟨l3, c3⟩ := ok k (g k (g 2 (i + 2)).2).2 (by omega)
      simp [tapB, n0, hw]
      (repeat' (first | contradiction | exact .of (by kernel_rfl) | refine And.intro ?_ ?_ | intro _ | (refine agrd_cases (fun h => ?_) (fun h => ?_) <;> (have h' := h; (try simp at h'); first | done | simp [h, h'] | simp))))
      refine acallT_hand [1000000] c1 (by simp) (by simp) (by simp) (by simp [tapB]) (by simp) ?_
      simp [tapB, Ex.a, Ex.ctake, Ex.clen, hw]
      (repeat' (first | contradiction | exact .of (by kernel_rfl) | refine And.intro ?_ ?_ | intro _ | (refine agrd_cases (fun h => ?_) (fun h => ?_) <;> (have h' := h; (try simp at h'); first | done | simp [h, h'] | simp))))
      refine acallT_hand [1000000] c2 (by simp) (by simp) (by simp) (by simp [tapB]) (by simp) ?_
      simp [tapB, Ex.a, Ex.ctake, Ex.clen, hw]
      (repeat' (first | contradiction | exact .of (by kernel_rfl) | refine And.intro ?_ ?_ | intro _ | (refine agrd_cases (fun h => ?_) (fun h => ?_) <;> (have h' := h; (try simp at h'); first | done | simp [h, h'] | simp))))
      refine acallT_hand [1000000] c3 (by simp) (by simp) (by simp) (by simp [tapB]) (by simp) ?_
      simp [tapB, Ex.a, Ex.ctake, Ex.clen, take6, drop6, Ex.ctake', hw]
      (repeat' (first | contradiction | exact .of (by kernel_rfl) | refine And.intro ?_ ?_ | intro _ | (refine agrd_cases (fun h => ?_) (fun h => ?_) <;> (have h' := h; (try simp at h'); first | done | simp [h, h'] | simp))))
      all_goals simp [h0, e2]
      all_goals rfl
    by_cases n1 : nextV L (i + 1) 4 = 1
    · have e2 : nodeG L g k (i + 1) = twoG g 27 k (i + 2) := by simp [nodeG, n1]
      simp [tapB, n1, hw]
      (repeat' (first | contradiction | exact .of (by kernel_rfl) | refine And.intro ?_ ?_ | intro _ | (refine agrd_cases (fun h => ?_) (fun h => ?_) <;> (have h' := h; (try simp at h'); first | done | simp [h, h'] | simp))))
      obtain ⟨lt, ct⟩ := t_two L ts (d + 1) g ok 27 k (i + 2) (by omega) (by omega)
      refine acallT_hand [4, 5, 7, 1000000] ct (by simp) (by simp) (by simp) (by simp [tapB]; omega) (by simp) ?_
      simp [tapB, Ex.a, Ex.ctake, Ex.clen, take6, drop6, Ex.ctake', hw]
      (repeat' (first | contradiction | exact .of (by kernel_rfl) | refine And.intro ?_ ?_ | intro _ | (refine agrd_cases (fun h => ?_) (fun h => ?_) <;> (have h' := h; (try simp at h'); first | done | simp [h, h'] | simp))))
      all_goals simp [h0, e2]
      all_goals rfl
    by_cases hk1 : k = 1
    · subst hk1
      by_cases n2 : nextV L (i + 1) 4 = 2
      · have e2 : nodeG L g 1 (i + 1) = twoG g (6 + nextV L (i + 2) 5) 1 (i + 3) := by simp [nodeG, n2]
        have hna := nextV_in L (i + 2) (n := 5) (by omega)
        have hta := t_next L (i + 2) (by omega) 5 (by omega)
        rw [show nextI (i + 2) 5 = i + 3 from rfl] at hta
        have hwa := wrap_in (n := 6 + nextV L (i + 2) 5) (by omega) (by omega)
        simp [tapB, n2, hw]
        (repeat' (first | contradiction | exact .of (by kernel_rfl) | refine And.intro ?_ ?_ | intro _ | (refine agrd_cases (fun h => ?_) (fun h => ?_) <;> (have h' := h; (try simp at h'); first | done | simp [h, h', n2] | simp [n2]))))
        refine acallT_hand [1000000] hta (by simp) (by simp) (by simp) (by simp [tapB]) (by simp) ?_
        simp [tapB, hw, hwa]
        (repeat' (first | contradiction | exact .of (by kernel_rfl) | refine And.intro ?_ ?_ | intro _ | (refine agrd_cases (fun h => ?_) (fun h => ?_) <;> (have h' := h; (try simp at h'); first | done | simp [h, h'] | simp))))
        obtain ⟨lt, ct⟩ := t_two L ts (d + 1) g ok (6 + nextV L (i + 2) 5) (1) (i + 3) (by omega) (by omega)
        refine acallT_hand [4, 5, 7, 1000000] ct (by simp) (by simp) (by simp) (by simp [tapB]; omega) (by simp) ?_
        simp [tapB, Ex.a, Ex.ctake, Ex.clen, take6, drop6, Ex.ctake', hw]
        (repeat' (first | contradiction | exact .of (by kernel_rfl) | refine And.intro ?_ ?_ | intro _ | (refine agrd_cases (fun h => ?_) (fun h => ?_) <;> (have h' := h; (try simp at h'); first | done | simp [h, h'] | simp))))
        all_goals simp [h0, e2]
        all_goals rfl

      · have hna := nextV_in L (i + 2) (n := 2) (by omega)
        have hta := t_next L (i + 2) (by omega) 2 (by omega)
        rw [show nextI (i + 2) 2 = i + 3 from rfl] at hta

        simp [tapB, n0, n1, n2, hw]
        (repeat' (first | contradiction | exact .of (by kernel_rfl) | refine And.intro ?_ ?_ | intro _ | (refine agrd_cases (fun h => ?_) (fun h => ?_) <;> (have h' := h; (try simp at h'); first | done | simp [h, h', n0, n1, n2] | simp [n0, n1, n2]))))
        refine acallT_hand [1000000] hta (by simp) (by simp) (by simp) (by simp [tapB]) (by simp) ?_
        by_cases m0 : nextV L (i + 2) 2 = 0
        · have e2 : nodeG L g 1 (i + 1) = oneG g 11 1 (i + 3) := by simp [nodeG, n0, n1, n2, m0]
          simp [tapB, m0, hw]
          (repeat' (first | contradiction | exact .of (by kernel_rfl) | refine And.intro ?_ ?_ | intro _ | (refine agrd_cases (fun h => ?_) (fun h => ?_) <;> (have h' := h; (try simp at h'); first | done | simp [h, h'] | simp))))
          obtain ⟨l1, c1⟩ := ok (1) (i + 3) (by omega)
          refine acallT_hand [1000000] c1 (by simp) (by simp) (by simp) (by simp [tapB]) (by simp) ?_
          simp [tapB, Ex.a, Ex.ctake, Ex.clen, take6, drop6, Ex.ctake', hw]
          (repeat' (first | contradiction | exact .of (by kernel_rfl) | refine And.intro ?_ ?_ | intro _ | (refine agrd_cases (fun h => ?_) (fun h => ?_) <;> (have h' := h; (try simp at h'); first | done | simp [h, h'] | simp))))
          all_goals simp [h0, e2]
          all_goals rfl

        · have e2 : nodeG L g 1 (i + 1) = oneG g 13 3 (i + 3) := by simp [nodeG, n0, n1, n2, m0]
          simp [tapB, m0, hw]
          (repeat' (first | contradiction | exact .of (by kernel_rfl) | refine And.intro ?_ ?_ | intro _ | (refine agrd_cases (fun h => ?_) (fun h => ?_) <;> (have h' := h; (try simp at h'); first | done | simp [h, h'] | simp))))
          obtain ⟨l1, c1⟩ := ok (3) (i + 3) (by omega)
          refine acallT_hand [1000000] c1 (by simp) (by simp) (by simp) (by simp [tapB]) (by simp) ?_
          simp [tapB, Ex.a, Ex.ctake, Ex.clen, take6, drop6, Ex.ctake', hw]
          (repeat' (first | contradiction | exact .of (by kernel_rfl) | refine And.intro ?_ ?_ | intro _ | (refine agrd_cases (fun h => ?_) (fun h => ?_) <;> (have h' := h; (try simp at h'); first | done | simp [h, h'] | simp))))
          all_goals simp [h0, e2]
          all_goals rfl

    by_cases hk3 : k = 3
    · subst hk3
      have e2 : nodeG L g 3 (i + 1) = twoG g 12 3 (i + 2) := by simp [nodeG, n0, n1]
      simp [tapB, n0, n1, hw]
      (repeat' (first | contradiction | exact .of (by kernel_rfl) | refine And.intro ?_ ?_ | intro _ | (refine agrd_cases (fun h => ?_) (fun h => ?_) <;> (have h' := h; (try simp at h'); first | done | simp [h, h', n0, n1] | simp [n0, n1]))))
      obtain ⟨lt, ct⟩ := t_two L ts (d + 1) g ok (12) (3) (i + 2) (by omega) (by omega)
      refine acallT_hand [4, 5, 7, 1000000] ct (by simp) (by simp) (by simp) (by simp [tapB]; omega) (by simp) ?_
      simp [tapB, Ex.a, Ex.ctake, Ex.clen, take6, drop6, Ex.ctake', hw]
      (repeat' (first | contradiction | exact .of (by kernel_rfl) | refine And.intro ?_ ?_ | intro _ | (refine agrd_cases (fun h => ?_) (fun h => ?_) <;> (have h' := h; (try simp at h'); first | done | simp [h, h'] | simp))))
      all_goals simp [h0, e2]
      all_goals rfl

    have e3 : nodeG L g k (i + 1) = boolG L g (i + 2) := by simp [nodeG, n0, n1, hk1, hk3]
    have hnx := nextV_in L (i + 2) (n := 3) (by omega)
    have htx := t_next L (i + 2) (by omega) 3 (by omega)
    rw [show nextI (i + 2) 3 = i + 3 from rfl] at htx
    have hnm := nextV_in L (i + 3) (n := 6) (by omega)
    have htm := t_next L (i + 3) (by omega) 6 (by omega)
    rw [show nextI (i + 3) 6 = i + 4 from rfl] at htm
    have hwx := wrap_in (n := 1 + nextV L (i + 2) 3) (by omega) (by omega)
    simp [tapB, n0, n1, hk1, hk3, hw]
    (repeat' (first | contradiction | exact .of (by kernel_rfl) | refine And.intro ?_ ?_ | intro _ | (refine agrd_cases (fun h => ?_) (fun h => ?_) <;> (have h' := h; (try simp at h'); first | done | simp [h, h', n0, n1, hk1, hk3] | simp [n0, n1, hk1, hk3]))))
    refine acallT_hand [1000000] htx (by simp) (by simp) (by simp) (by simp [tapB]) (by simp) ?_
    simp [tapB, hwx, hw]
    (repeat' (first | contradiction | exact .of (by kernel_rfl) | refine And.intro ?_ ?_ | intro _ | (refine agrd_cases (fun h => ?_) (fun h => ?_) <;> (have h' := h; (try simp at h'); first | done | simp [h, h'] | simp))))
    refine acallT_hand [1000000] htm (by simp) (by simp) (by simp) (by simp [tapB]) (by simp) ?_
    by_cases m0 : nextV L (i + 3) 6 = 0
    · have e2 : nodeG L g k (i + 1) = twoG g (22 + nextV L (i + 4) 2) 2 (i + 5) := by rw [e3]; simp [boolG, m0]
      have hna := nextV_in L (i + 4) (n := 2) (by omega)
      have hta := t_next L (i + 4) (by omega) 2 (by omega)
      rw [show nextI (i + 4) 2 = i + 5 from rfl] at hta
      have hwa := wrap_in (n := 22 + nextV L (i + 4) 2) (by omega) (by omega)
      simp [tapB, m0, hw]
      (repeat' (first | contradiction | exact .of (by kernel_rfl) | refine And.intro ?_ ?_ | intro _ | (refine agrd_cases (fun h => ?_) (fun h => ?_) <;> (have h' := h; (try simp at h'); first | done | simp [h, h'] | simp))))
      refine acallT_hand [1000000] hta (by simp) (by simp) (by simp) (by simp [tapB]) (by simp) ?_
      simp [tapB, hw, hwa]
      (repeat' (first | contradiction | exact .of (by kernel_rfl) | refine And.intro ?_ ?_ | intro _ | (refine agrd_cases (fun h => ?_) (fun h => ?_) <;> (have h' := h; (try simp at h'); first | done | simp [h, h'] | simp))))
      obtain ⟨lt, ct⟩ := t_two L ts (d + 1) g ok (22 + nextV L (i + 4) 2) (2) (i + 5) (by omega) (by omega)
      refine acallT_hand [4, 5, 7, 1000000] ct (by simp) (by simp) (by simp) (by simp [tapB]; omega) (by simp) ?_
      simp [tapB, Ex.a, Ex.ctake, Ex.clen, take6, drop6, Ex.ctake', hw]
      (repeat' (first | contradiction | exact .of (by kernel_rfl) | refine And.intro ?_ ?_ | intro _ | (refine agrd_cases (fun h => ?_) (fun h => ?_) <;> (have h' := h; (try simp at h'); first | done | simp [h, h'] | simp))))
      all_goals simp [h0, e2]
      all_goals rfl

    by_cases m1 : nextV L (i + 3) 6 = 1
    · have e2 : nodeG L g k (i + 1) = oneG g (24 + nextV L (i + 4) 2) 2 (i + 5) := by rw [e3]; simp [boolG, m1]
      have hna := nextV_in L (i + 4) (n := 2) (by omega)
      have hta := t_next L (i + 4) (by omega) 2 (by omega)
      rw [show nextI (i + 4) 2 = i + 5 from rfl] at hta
      obtain ⟨l1, c1⟩ := ok 2 (i + 5) (by omega)
      simp [tapB, m1, hw]
      (repeat' (first | contradiction | exact .of (by kernel_rfl) | refine And.intro ?_ ?_ | intro _ | (refine agrd_cases (fun h => ?_) (fun h => ?_) <;> (have h' := h; (try simp at h'); first | done | simp [h, h'] | simp))))
      refine acallT_hand [1000000] hta (by simp) (by simp) (by simp) (by simp [tapB]) (by simp) ?_
      have q : nextV L (i + 4) 2 = 0 ∨ nextV L (i + 4) 2 = 1 := by omega
      rcases q with q | q
      · simp [tapB, q, hw]
        (repeat' (first | contradiction | exact .of (by kernel_rfl) | refine And.intro ?_ ?_ | intro _ | (refine agrd_cases (fun h => ?_) (fun h => ?_) <;> (have h' := h; (try simp at h'); first | done | simp [h, h'] | simp))))
        refine acallT_hand [1000000] c1 (by simp) (by simp) (by simp) (by simp [tapB]) (by simp) ?_
        simp [tapB, Ex.a, Ex.ctake, Ex.clen, take6, drop6, Ex.ctake', hw]
        (repeat' (first | contradiction | exact .of (by kernel_rfl) | refine And.intro ?_ ?_ | intro _ | (refine agrd_cases (fun h => ?_) (fun h => ?_) <;> (have h' := h; (try simp at h'); first | done | simp [h, h'] | simp))))
        all_goals simp [h0, e2, q]
        all_goals rfl
      · simp [tapB, q, hw]
        (repeat' (first | contradiction | exact .of (by kernel_rfl) | refine And.intro ?_ ?_ | intro _ | (refine agrd_cases (fun h => ?_) (fun h => ?_) <;> (have h' := h; (try simp at h'); first | done | simp [h, h'] | simp))))
        refine acallT_hand [1000000] c1 (by simp) (by simp) (by simp) (by simp [tapB]) (by simp) ?_
        simp [tapB, Ex.a, Ex.ctake, Ex.clen, take6, drop6, Ex.ctake', hw]
        (repeat' (first | contradiction | exact .of (by kernel_rfl) | refine And.intro ?_ ?_ | intro _ | (refine agrd_cases (fun h => ?_) (fun h => ?_) <;> (have h' := h; (try simp at h'); first | done | simp [h, h'] | simp))))
        all_goals simp [h0, e2, q]
        all_goals rfl
    by_cases m2 : nextV L (i + 3) 6 = 2
    · have e2 : nodeG L g k (i + 1) = oneG g 21 (1 + nextV L (i + 2) 3) (i + 4) := by rw [e3]; simp [boolG, m2]
      simp [tapB, m2, hw]
      (repeat' (first | contradiction | exact .of (by kernel_rfl) | refine And.intro ?_ ?_ | intro _ | (refine agrd_cases (fun h => ?_) (fun h => ?_) <;> (have h' := h; (try simp at h'); first | done | simp [h, h'] | simp))))
      obtain ⟨l1, c1⟩ := ok (1 + nextV L (i + 2) 3) (i + 4) (by omega)
      refine acallT_hand [1000000] c1 (by simp) (by simp) (by simp) (by simp [tapB]) (by simp) ?_
      simp [tapB, Ex.a, Ex.ctake, Ex.clen, take6, drop6, Ex.ctake', hw]
      (repeat' (first | contradiction | exact .of (by kernel_rfl) | refine And.intro ?_ ?_ | intro _ | (refine agrd_cases (fun h => ?_) (fun h => ?_) <;> (have h' := h; (try simp at h'); first | done | simp [h, h'] | simp))))
      all_goals simp [h0, e2]
      all_goals rfl

    by_cases m3 : nextV L (i + 3) 6 = 3
    · have e2 : nodeG L g k (i + 1) = inG L g (1 + nextV L (i + 2) 3) (i + 4) := by rw [e3]; simp [boolG, m3]
      obtain ⟨x, hx⟩ : ∃ x, x = 1 + nextV L (i + 2) 3 := ⟨_, rfl⟩
      rw [← hx] at e2
      have cd := d_two L ts (d + 1) g ok 28 x (i + 4) (by omega) (by omega)
      have hs2 := (t_two L ts (d + 1) g ok 28 x (i + 4) (by omega) (by omega)).1
      obtain ⟨s, hs⟩ : ∃ s, s = (twoG g 28 x (i + 4)).2 := ⟨_, rfl⟩
      rw [← hs] at cd hs2
      have hns := nextV_in L s (n := 3) (by omega)
      have hts := t_next L s (by omega) 3 (by omega)
      rw [show nextI s 3 = s + 1 from rfl] at hts
      rw [← hx]
      simp [tapB, m3, hw]
      (repeat' (first | contradiction | exact .of (by kernel_rfl) | refine And.intro ?_ ?_ | intro _ | (refine agrd_cases (fun h => ?_) (fun h => ?_) <;> (have h' := h; (try simp at h'); first | done | simp [h, h'] | simp))))
      refine acallT_new [4, 5, 7, 1000000] cd (by simp) (by simp) (by simp) (by decide) (by simp) (by simp [tapB]; omega) (by simp) ?_
      simp [tapB, hw]
      (repeat' (first | contradiction | exact .of (by kernel_rfl) | refine And.intro ?_ ?_ | intro _ | (refine agrd_cases (fun h => ?_) (fun h => ?_) <;> (have h' := h; (try simp at h'); first | done | simp [h, h'] | simp))))
      refine acallT_hand [1000000] hts (by simp) (by simp) (by simp) (by simp [tapB]) (by simp) ?_
      simp [tapB, hw]
      (repeat' (first | contradiction | exact .of (by kernel_rfl) | refine And.intro ?_ ?_ | intro _ | (refine agrd_cases (fun h => ?_) (fun h => ?_) <;> (have h' := h; (try simp at h'); first | done | simp [h, h'] | simp))))
      obtain ⟨m, hm⟩ : ∃ m : Nat, (m : Int) = nextV L s 3 := ⟨(nextV L s 3).toNat, by omega⟩
      have hm2 : m ≤ 2 := by omega
      have hm3 : (nextV L s 3).toNat = m := by omega
      have hw3 : IntKind.i64.wrap ((d : Int) + 1 + 1 - 1) = d + 1 := by rw [wrap_in (by omega) (by omega)]; omega
      have hin : inG L g x (i + 4) = (.mk 28 0 0 [] 0 ([(g x (i + 4)).1, (g x (g x (i + 4)).2).1] ++ (moreG g x m (s + 1)).1), (moreG g x m (s + 1)).2) := by
        have : (g x (g x (i + 4)).2).2 = s := hs.symm
        simp only [inG, this, hm3]
      rw [← hm]
      refine aloopT mix (by decide) (fun j : Nat => { s := mkS [(4, .ptr 4 0 0), (5, .ptr 5 0 0), (7, .ptr 7 0 0), (8, .ptr 8 0 0), (13, .d (.int .i64 x)), (15, .ptr 15 0 0), (16, .d (.int .i64 (m - j)))], b := mkB [(1000000, 1000000, tapB L (moreG g x j (s + 1)).2), (4, 4, .var [.ptr 1000000 0 0]), (5, 5, .var [.d (.sl (ints ts))]), (7, 7, .var [.d (.int .i64 (d + 1 + 1 : Nat))]), (8, 8, .var [.d (.int .i64 0), .d (.int .i64 0), .d (.int .i64 0), .d (.str []), .d (.int .i64 0), .nils]), (15, 15, .var [.d (.int .i64 28), .d (.int .i64 0), .d (.int .i64 0), .d (.str []), .d (.int .i64 0), .ref 900 0 (2 + j) 6]), (900, 900, .arr 49 6 ((g x (i + 4)).1.c :: (g x (g x (i + 4)).2).1.c :: (moreG g x j (s + 1)).1.map Ex.c) false)] }) (fun j : Nat => j ≤ m) (fun j => m - j) 0 (by simp) (sub_mk _ [(1000000, 1000000, _), (4, 4, _), (5, 5, _), (7, 7, _), (8, 8, _), (15, 15, _), (900, 140000, _)] ⟨by simp, by simp, ?_, base1⟩ (by simp [renOf])) ?_
      · intro p hp
        simp only [List.mem_cons, List.not_mem_nil, or_false] at hp
        rcases hp with rfl | rfl | rfl | rfl | rfl | rfl | rfl <;> simp [renOf, Blk.live, tapB, moreG]
      intro j hj
      have hlen := more_len g x j (s + 1)
      by_cases hlt : j < m
      · have hmj : moreG g x (j + 1) (s + 1) = ((moreG g x j (s + 1)).1 ++ [(g x (moreG g x j (s + 1)).2).1], (g x (moreG g x j (s + 1)).2).2) := rfl
        have hbd := more_le g (gb (d + 1)) (fun k j h => (ok k j h).1) x j (s + 1) (by
          have : j * gb (d + 1) ≤ 2 * gb (d + 1) := Nat.mul_le_mul_right _ (by omega)
          omega)
        obtain ⟨l1, c1⟩ := ok x (moreG g x j (s + 1)).2 (by
          have : j * gb (d + 1) ≤ 1 * gb (d + 1) := Nat.mul_le_mul_right _ (by omega)
          omega)
        have hlt1 : (0 : Int) < (m : Int) - j := by omega
        have hlt2 : (j : Int) < m := by omega
        have s1 : (j + 1 + 1 + 1) * 72 ≤ 140737488355328 := by omega
        have s2 : j ≤ 9223372036854775804 := by omega
        have s3 : 2 + j = j + 1 + 1 := by omega
        simp [tapB, hlt, hlt1, hlt2, hw2, hlen]
        (repeat' (first | contradiction | exact .of (by kernel_rfl) | refine And.intro ?_ ?_ | intro _ | (refine agrd_cases (fun h => ?_) (fun h => ?_) <;> (have h' := h; (try simp at h'); first | done | simp [h, h'] | simp))))
        refine acallT_hand [1000000] c1 (by simp) (by simp) (by simp) (by simp [tapB]) (by simp) ?_
        simp [tapB, Ex.a, Ex.ctake, Ex.clen, Ex.ctake', take6, hlen, s1, s2, s3]
        (repeat' (first | contradiction | exact .of (by kernel_rfl) | refine And.intro ?_ ?_ | intro _ | (refine agrd_cases (fun h => ?_) (fun h => ?_) <;> (have h' := h; (try simp at h'); first | done | simp [h, h'] | simp))))
        refine ⟨j + 1, hlt, ?_, ?_⟩
        · refine sub_mk _ [(1000000, 1000000, _), (4, 4, _), (5, 5, _), (7, 7, _), (8, 8, _), (15, 15, _), (900, 155, _)] ⟨by simp, by simp, ?_, base1⟩ ?_
          · intro p hp
            simp only [List.mem_cons, List.not_mem_nil, or_false] at hp
            rcases hp with rfl | rfl | rfl | rfl | rfl | rfl | rfl <;> simp [renOf, Blk.live, tapB, hmj]
            all_goals omega
          · simp [renOf]
            rw [wrap_in (by omega) (by omega)]
            omega
        · simp; omega
      · have hjm : j = m := by omega
        subst hjm
        have s3 : 2 + j = j + 1 + 1 := by omega
        simp [tapB, s3, hlen]
        (repeat' (first | contradiction | exact .of (by kernel_rfl) | refine And.intro ?_ ?_ | intro _ | (refine agrd_cases (fun h => ?_) (fun h => ?_) <;> (have h' := h; (try simp at h'); first | done | simp [h, h'] | simp))))
        all_goals rw [if_neg h0, e2, hin]
        all_goals simp [Ex.a, Ex.c, kidsC_map]
        all_goals exact List.take_of_length_le (by simp [hlen])
    have e2 : nodeG L g k (i + 1) = twoG g (14 + nextV L (i + 4) 7) (1 + nextV L (i + 2) 3) (i + 5) := by rw [e3]; simp [boolG, m0, m1, m2, m3]
    have hna := nextV_in L (i + 4) (n := 7) (by omega)
    have hta := t_next L (i + 4) (by omega) 7 (by omega)
    rw [show nextI (i + 4) 7 = i + 5 from rfl] at hta
    have hwa := wrap_in (n := 14 + nextV L (i + 4) 7) (by omega) (by omega)
    simp [tapB, m0, m1, m2, m3, hw]
    (repeat' (first | contradiction | exact .of (by kernel_rfl) | refine And.intro ?_ ?_ | intro _ | (refine agrd_cases (fun h => ?_) (fun h => ?_) <;> (have h' := h; (try simp at h'); first | done | simp [h, h', m0, m1, m2, m3] | simp [m0, m1, m2, m3]))))
    refine acallT_hand [1000000] hta (by simp) (by simp) (by simp) (by simp [tapB]) (by simp) ?_
    simp [tapB, hw, hwa]
    (repeat' (first | contradiction | exact .of (by kernel_rfl) | refine And.intro ?_ ?_ | intro _ | (refine agrd_cases (fun h => ?_) (fun h => ?_) <;> (have h' := h; (try simp at h'); first | done | simp [h, h'] | simp))))
    obtain ⟨lt, ct⟩ := t_two L ts (d + 1) g ok (14 + nextV L (i + 4) 7) (1 + nextV L (i + 2) 3) (i + 5) (by omega) (by omega)
    refine acallT_hand [4, 5, 7, 1000000] ct (by simp) (by simp) (by simp) (by simp [tapB]; omega) (by simp) ?_
    simp [tapB, Ex.a, Ex.ctake, Ex.clen, take6, drop6, Ex.ctake', hw]
    (repeat' (first | contradiction | exact .of (by kernel_rfl) | refine And.intro ?_ ?_ | intro _ | (refine agrd_cases (fun h => ?_) (fun h => ?_) <;> (have h' := h; (try simp at h'); first | done | simp [h, h'] | simp))))
    all_goals simp [h0, e2]
    all_goals rfl

end Go.Proofs.Tryd
/- Names that are made: a letter and a digit. -/
namespace Go.Proofs.Tryd
open Go.Ab

theorem t_name (s : List UInt8) (n : Nat) (hn : n < 10) (hs : s.length ≤ 1000) : Cf En 52 [.d (.str s), .d (.int .i64 n)] [] (.d (.str (s ++ [UInt8.ofNat (48 + n)]))) [] := by
  refine cf_intro mix (fn := Tryd.f52) (by kernel_rfl) rfl (by kernel_rfl) (by decide) (by simp) ?_
  have h : n = 0 ∨ n = 1 ∨ n = 2 ∨ n = 3 ∨ n = 4 ∨ n = 5 ∨ n = 6 ∨ n = 7 ∨ n = 8 ∨ n = 9 := by omega
  have hl : s.length + 1 ≤ 9223372036854775807 := by omega
  rcases h with rfl | rfl | rfl | rfl | rfl | rfl | rfl | rfl | rfl | rfl <;> (simp [hl]; (repeat' (first | contradiction | exact .of (by kernel_rfl) | refine And.intro ?_ ?_ | intro _ | (refine agrd_cases (fun h => ?_) (fun h => ?_) <;> (have h' := h; (try simp at h'); first | done | simp [h, h'] | simp))))) <;> (try rfl) <;> (try (simp; rfl)) <;> (try decide)
end Go.Proofs.Tryd
/- Columns and tables: their cells; the types of a table's columns. -/
namespace Go.Proofs.Tryd
open Go.Ab
set_option maxRecDepth 100000
set_option maxHeartbeats 1000000

structure Col where
  n : List UInt8
  t : Int
  b : Bool
def Col.c (x : Col) : List D := [.str x.n, .int .i64 x.t, .bool x.b]
structure Tb where
  n : List UInt8
  cols : List Col
  un : List (List D)
  fk : List (List D)
  ch : List Ex
def Tb.c (x : Tb) : List D := [.str x.n, .sl (x.cols.map Col.c), .sl [[.int .i64 0]], .sl x.un, .sl x.fk, .sl (x.ch.map Ex.c)]
def Tb.a (x : Tb) : AV := .agg (x.c.map AV.d)
def tyT (l : List Col) (k : Nat) : List Int := (l.take k).map Col.t
theorem tyT_len {l : List Col} {k : Nat} (h : k ≤ l.length) : (tyT l k).length = k := by simp [tyT]; omega
theorem tyT_succ {l : List Col} {k : Nat} {u : Col} (h : l[k]? = some u) : tyT l (k + 1) = tyT l k ++ [u.t] := by unfold tyT; rw [List.take_add_one, h]; simp
theorem tyT_all (l : List Col) : tyT l l.length = l.map Col.t := by unfold tyT; rw [List.take_length]
def tysF (x : List D) (cols : List Col) : Nat → St
  | 0 => { s := mkS [(1, .ptr 1 0 0), (3, .nils), (4, .d (.int .i64 0))], b := mkB [(1, 1, .var (x.map AV.d))] }
  | j + 1 => { s := mkS [(1, .ptr 1 0 0), (3, .ref 900 0 (j + 1) 1), (4, .d (.int .i64 (j + 1 : Nat)))], b := mkB [(1, 1, .var (x.map AV.d)), (900, 900, .arr 3 1 (ints (tyT cols (j + 1))) false)] }

theorem r_types (x : Tb) (hl : x.cols.length ≤ 1000) : Cf En 24 [x.a] [] (.d (.sl (ints (x.cols.map Col.t)))) [] := by
  refine cf_intro mix (fn := Tryd.f24) (by kernel_rfl) rfl (by kernel_rfl) (by decide) (by simp) ?_
  simp [Tb.a, Tb.c]
  (repeat' (first | contradiction | exact .of (by kernel_rfl) | refine And.intro ?_ ?_ | intro _ | (refine agrd_cases (fun h => ?_) (fun h => ?_) <;> (have h' := h; (try simp at h'); first | done | simp [h, h'] | simp))))
  refine aloopT mix (by decide) (tysF x.c x.cols) (fun j => j ≤ x.cols.length) (fun j => x.cols.length - j) 0 (by simp) (sub_mk [(1, _), (3, _), (4, _)] [(1, 1, _)] ⟨by simp, by simp, by simp [renOf, Blk.live, Tb.c], by simp⟩ (by simp [renOf])) ?_
  intro j hj
  by_cases hlt : j < x.cols.length
  · have hlt' : (j : Int) < x.cols.length := by omega
    have hg : x.cols[j]? = some x.cols[j] := List.getElem?_eq_getElem hlt
    obtain ⟨u, hu⟩ : ∃ u, u = x.cols[j] := ⟨_, rfl⟩
    have hgi : ∀ h, x.cols[j]'h = u := fun _ => hu.symm
    rw [← hu] at hg
    have htk : tyT x.cols (j + 1) = tyT x.cols j ++ [u.t] := tyT_succ hg
    cases j with
    | zero =>
      have hlt2 : (0 : Int) < x.cols.length := by omega
      simp [tysF, Tb.c, hlt2, hlt, hg, hgi, Col.c]
      (repeat' (first | contradiction | exact .of (by kernel_rfl) | refine And.intro ?_ ?_ | intro _ | (refine agrd_cases (fun h => ?_) (fun h => ?_) <;> (have h' := h; (try simp at h'); first | done | simp [h, h'] | simp))))
      refine ⟨1, by omega, ?_, ?_⟩
      · refine sub_mk [(1, _), (3, _), (4, _)] [(1, 1, _), (900, 20, _)] ⟨by simp, by simp, ?_, by simp⟩ ?_
        · simp [renOf, Blk.live, Tb.c, ints, htk]
          simp [tyT]
        · simp [renOf]
          rfl
      · simp; omega
    | succ j =>
      have hlt2 : (j : Int) + 1 < x.cols.length := by omega
      have hlen := tyT_len (l := x.cols) (k := j + 1) (by omega)
      have h0 : (0 : Int) ≤ (j : Int) + 1 := by omega
      have s1 : (j + 1 + 1) * 8 ≤ 140737488355328 := by omega
      have s2 : j ≤ 9223372036854775805 := by omega
      simp [tysF, Tb.c, hlt2, hlt, hg, hgi, hlen, h0, Col.c, ints, s1, s2]
      (repeat' (first | contradiction | exact .of (by kernel_rfl) | refine And.intro ?_ ?_ | intro _ | (refine agrd_cases (fun h => ?_) (fun h => ?_) <;> (have h' := h; (try simp at h'); first | done | simp [h, h'] | simp))))
      refine ⟨j + 2, by omega, ?_, ?_⟩
      · refine sub_mk [(1, _), (3, _), (4, _)] [(1, 1, _), (900, 20, _)] ⟨by simp, by simp, ?_, by simp⟩ ?_
        · simp [renOf, Blk.live, Tb.c, ints, htk, hlen]
          try omega
        · simp [renOf]
          try rw [wrap_in (by omega) (by omega)]
      · simp; omega
  · have hjm : j = x.cols.length := by omega
    subst hjm
    cases hc : x.cols.length with
    | zero =>
      have : x.cols = [] := List.eq_nil_of_length_eq_zero hc
      simp [tysF, Tb.c, this, ints]
      (repeat' (first | contradiction | exact .of (by kernel_rfl) | refine And.intro ?_ ?_ | intro _ | (refine agrd_cases (fun h => ?_) (fun h => ?_) <;> (have h' := h; (try simp at h'); first | done | simp [h, h'] | simp))))
    | succ j =>
      have h1 : ¬ ((j : Int) + 1 < x.cols.length) := by omega
      have htk : tyT x.cols (j + 1) = x.cols.map Col.t := by rw [← hc]; exact tyT_all _
      have hlen := tyT_len (l := x.cols) (k := j + 1) (by omega)
      simp [tysF, Tb.c, hc, h1, hlen, ints]
      (repeat' (first | contradiction | exact .of (by kernel_rfl) | refine And.intro ?_ ?_ | intro _ | (refine agrd_cases (fun h => ?_) (fun h => ?_) <;> (have h' := h; (try simp at h'); first | done | simp [h, h'] | simp))))
      all_goals simp [htk]
      all_goals exact List.take_of_length_le (by simp; omega)
end Go.Proofs.Tryd
/- A condition on all elements of a list. -/
namespace Go.Proofs.Tryd
open Go.Ab
set_option maxRecDepth 100000
set_option maxHeartbeats 1000000

def firstNot {α : Type} (p : α → Bool) (l : List α) : Int := match l.findIdx? fun x => !p x with
  | some i => i
  | none => -1
theorem firstNot_neg {α : Type} (p : α → Bool) (l : List α) : decide (0 ≤ firstNot p l) = !l.all p := by
  unfold firstNot
  cases hf : l.findIdx? fun x => !p x with
  | none =>
    rw [List.findIdx?_eq_none_iff] at hf
    have : l.all p = true := List.all_eq_true.2 fun x hx => by simpa using hf x hx
    simp [this]
  | some i =>
    rw [List.findIdx?_eq_some_iff_getElem] at hf
    obtain ⟨hi, hx, _⟩ := hf
    have : l.all p = false := by
      rw [List.all_eq_false]
      exact ⟨_, List.getElem_mem hi, by simpa using hx⟩
    simp [this]
theorem firstNot_some {α : Type} {p : α → Bool} {l : List α} {i : Nat} {x : α} (h : l[i]? = some x) (hx : p x = false) (ho : ∀ j (y : α), j < i → l[j]? = some y → p y = true) : firstNot p l = i := by
  obtain ⟨hi, rfl⟩ := List.getElem?_eq_some_iff.1 h
  unfold firstNot
  have : (l.findIdx? fun x => !p x) = some i := by
    rw [List.findIdx?_eq_some_iff_getElem]
    exact ⟨hi, by simp [hx], fun j hj => by simp [ho j l[j] hj (List.getElem?_eq_getElem (by omega))]⟩
  rw [this]
theorem firstNot_none {α : Type} {p : α → Bool} {l : List α} (ho : ∀ j (y : α), j < l.length → l[j]? = some y → p y = true) : firstNot p l = -1 := by
  unfold firstNot
  have : (l.findIdx? fun x => !p x) = none := by
    rw [List.findIdx?_eq_none_iff]
    intro x hx
    obtain ⟨j, hj, rfl⟩ := List.getElem_of_mem hx
    simp [ho j _ hj (List.getElem?_eq_getElem hj)]
  rw [this]

theorem not_T (F : FuncId) (p : Tm → Bool) (x : Tm) (h : Cf Es F [x.a] [] (.d (.bool (p x))) []) : Cf Es 111 [x.a, .ptr firstName 0 0] [.var [.clo F []]] (.d (.bool (!p x))) [.var [.clo F []]] := by
  refine cf_intro mixs (fn := Tryd.f111) (by kernel_rfl) rfl (by kernel_rfl) (by decide) (by simp) ?_
  have c1 := x.clen
  have k1 := x.ctake
  simp [Tm.a, c1, k1]
  refine ⟨.of (by kernel_rfl), ?_⟩
  refine acallT_plain h (by simp [Tm.a]) ?_
  simp
  (repeat' (first | contradiction | exact .of (by kernel_rfl) | refine And.intro ?_ ?_ | intro _ | (refine agrd_cases (fun h => ?_) (fun h => ?_) <;> (have h' := h; (try simp at h'); first | done | simp [h, h'] | simp))))
theorem index_T (F : FuncId) (p : Tm → Bool) (l : List Tm) (hn : l.length ≤ 9223372036854775807) (h : ∀ x ∈ l, Cf Es F [x.a] [] (.d (.bool (p x))) []) :
    Cf Es 139 [.d (.sl (l.map Tm.c)), .clo 111 [.ptr firstName 0 0]] [.var [.clo F []]] (.d (.int .i64 (firstNot p l))) [.var [.clo F []]] := by
  refine cf_intro mixs (fn := Tryd.f139) (by kernel_rfl) rfl (by kernel_rfl) (by decide) (by simp) ?_
  generalize hres : firstNot p l = res
  simp
  (repeat refine ⟨.of (by kernel_rfl), ?_⟩)
  refine aloopT mixs (by decide) (fun i : Nat => { s := mkS [(0, .d (.sl (l.map Tm.c))), (1, .clo 111 [.ptr 1000000 0 0]), (7, .d (.int .i64 l.length)), (8, .d (.int .i64 i))], b := mkB [(1000000, 1000000, .var [.clo F []])] }) (fun i : Nat => i ≤ l.length ∧ ∀ j (y : Tm), j < i → l[j]? = some y → p y = true) (fun i => l.length - i) 0 (by simp) (sub_mk _ [(1000000, 1000000, _)] ⟨by simp, by simp, by simp [renOf, Blk.live], base1⟩ (by simp [renOf])) ?_
  rintro i ⟨hi, ho⟩
  by_cases hlt : i < l.length
  · have hlt' : (i : Int) < l.length := by omega
    obtain ⟨x, hg⟩ : ∃ x, l[i]? = some x := ⟨_, List.getElem?_eq_getElem hlt⟩
    have hgi : ∀ h, l[i]'h = x := fun h => (List.getElem?_eq_some_iff.1 hg).2
    have hx := not_T F p x (h x (List.mem_of_getElem? hg))
    have c1 := x.clen
    have k1 := x.ctake
    simp [hlt, hlt', hg, hgi, c1, k1]
    (repeat refine ⟨.of (by kernel_rfl), ?_⟩)
    refine acallT_hand [1000000] hx (by simp) (by simp) (by simp) (by simp) (by simp [Tm.a]) ?_
    simp
    refine ⟨.of (by kernel_rfl), fun h => ⟨.of (by kernel_rfl), ?_⟩, fun h => ⟨.of (by kernel_rfl), i + 1, ⟨hlt, ?_⟩, ?_, ?_⟩⟩
    · rw [← hres]
      have := firstNot_some hg h ho
      simp [this]
    · intro j y hj hy
      rcases Nat.lt_or_ge j i with c | c
      · exact ho j y c hy
      · obtain rfl : j = i := by omega
        rw [hg] at hy
        cases hy
        exact h
    · refine sub_mk _ [(1000000, 1000000, _)] ⟨by simp, by simp, by simp [renOf, Blk.live], base1⟩ ?_
      simp [renOf]
      exact wrap_in (by omega) (by omega)
    · simp; omega
  · have hlt' : ¬ (i : Int) < l.length := by omega
    simp [hlt, hlt']
    (repeat refine ⟨.of (by kernel_rfl), ?_⟩)
    rw [← hres]
    have := firstNot_none (p := p) (l := l) fun j y hj hy => ho j y (by omega) hy
    simp [this]
theorem contains_T (F : FuncId) (p : Tm → Bool) (l : List Tm) (hn : l.length ≤ 9223372036854775807) (h : ∀ x ∈ l, Cf Es F [x.a] [] (.d (.bool (p x))) []) :
    Cf Es 110 [.d (.sl (l.map Tm.c)), .clo 111 [.ptr firstName 0 0]] [.var [.clo F []]] (.d (.bool (!l.all p))) [.var [.clo F []]] := by
  refine cf_intro mixs (fn := Tryd.f110) (by kernel_rfl) rfl (by kernel_rfl) (by decide) (by simp) ?_
  have hx := index_T F p l hn h
  have hd := firstNot_neg p l
  simp
  (repeat refine ⟨.of (by kernel_rfl), ?_⟩)
  refine acallT_hand [1000000] hx (by simp) (by simp) (by simp) (by simp) (by simp) ?_
  simp [hd]
  (repeat' (first | contradiction | exact .of (by kernel_rfl) | refine And.intro ?_ ?_ | intro _ | (refine agrd_cases (fun h => ?_) (fun h => ?_) <;> (have h' := h; (try simp at h'); first | done | simp [h, h', hd] | simp [hd]))))
theorem all_T (F : FuncId) (p : Tm → Bool) (l : List Tm) (hn : l.length ≤ 9223372036854775807) (h : ∀ x ∈ l, Cf Es F [x.a] [] (.d (.bool (p x))) []) :
    Cf Es 78 [.d (.sl (l.map Tm.c)), .clo F []] [] (.d (.bool (l.all p))) [] := by
  refine cf_intro mixs (fn := Tryd.f78) (by kernel_rfl) rfl (by kernel_rfl) (by decide) (by simp) ?_
  have hx := contains_T F p l hn h
  generalize hA : l.all p = A at *
  simp
  (repeat refine ⟨.of (by kernel_rfl), ?_⟩)
  refine acallT_hand [3] hx (by simp) (by simp) (by simp) (by simp) (by simp) ?_
  simp
  (repeat' (first | contradiction | exact .of (by kernel_rfl) | refine And.intro ?_ ?_ | intro _ | (refine agrd_cases (fun h => ?_) (fun h => ?_) <;> (have h' := h; (try simp at h'); first | done | simp [h, h'] | simp))))

theorem not_I (F : FuncId) (p : It → Bool) (x : It) (h : Cf Es F [x.a] [] (.d (.bool (p x))) []) : Cf Es 107 [x.a, .ptr firstName 0 0] [.var [.clo F []]] (.d (.bool (!p x))) [.var [.clo F []]] := by
  refine cf_intro mixs (fn := Tryd.f107) (by kernel_rfl) rfl (by kernel_rfl) (by decide) (by simp) ?_
  have c1 := x.clen
  have k1 := x.ctake
  simp [It.a, c1, k1]
  refine ⟨.of (by kernel_rfl), ?_⟩
  refine acallT_plain h (by simp [It.a]) ?_
  simp
  (repeat' (first | contradiction | exact .of (by kernel_rfl) | refine And.intro ?_ ?_ | intro _ | (refine agrd_cases (fun h => ?_) (fun h => ?_) <;> (have h' := h; (try simp at h'); first | done | simp [h, h'] | simp))))
theorem index_I (F : FuncId) (p : It → Bool) (l : List It) (hn : l.length ≤ 9223372036854775807) (h : ∀ x ∈ l, Cf Es F [x.a] [] (.d (.bool (p x))) []) :
    Cf Es 137 [.d (.sl (l.map It.c)), .clo 107 [.ptr firstName 0 0]] [.var [.clo F []]] (.d (.int .i64 (firstNot p l))) [.var [.clo F []]] := by
  refine cf_intro mixs (fn := Tryd.f137) (by kernel_rfl) rfl (by kernel_rfl) (by decide) (by simp) ?_
  generalize hres : firstNot p l = res
  simp
  (repeat refine ⟨.of (by kernel_rfl), ?_⟩)
  refine aloopT mixs (by decide) (fun i : Nat => { s := mkS [(0, .d (.sl (l.map It.c))), (1, .clo 107 [.ptr 1000000 0 0]), (7, .d (.int .i64 l.length)), (8, .d (.int .i64 i))], b := mkB [(1000000, 1000000, .var [.clo F []])] }) (fun i : Nat => i ≤ l.length ∧ ∀ j (y : It), j < i → l[j]? = some y → p y = true) (fun i => l.length - i) 0 (by simp) (sub_mk _ [(1000000, 1000000, _)] ⟨by simp, by simp, by simp [renOf, Blk.live], base1⟩ (by simp [renOf])) ?_
  rintro i ⟨hi, ho⟩
  by_cases hlt : i < l.length
  · have hlt' : (i : Int) < l.length := by omega
    obtain ⟨x, hg⟩ : ∃ x, l[i]? = some x := ⟨_, List.getElem?_eq_getElem hlt⟩
    have hgi : ∀ h, l[i]'h = x := fun h => (List.getElem?_eq_some_iff.1 hg).2
    have hx := not_I F p x (h x (List.mem_of_getElem? hg))
    have c1 := x.clen
    have k1 := x.ctake
    simp [hlt, hlt', hg, hgi, c1, k1]
    (repeat refine ⟨.of (by kernel_rfl), ?_⟩)
    refine acallT_hand [1000000] hx (by simp) (by simp) (by simp) (by simp) (by simp [It.a]) ?_
    simp
    refine ⟨.of (by kernel_rfl), fun h => ⟨.of (by kernel_rfl), ?_⟩, fun h => ⟨.of (by kernel_rfl), i + 1, ⟨hlt, ?_⟩, ?_, ?_⟩⟩
    · rw [← hres]
      have := firstNot_some hg h ho
      simp [this]
    · intro j y hj hy
      rcases Nat.lt_or_ge j i with c | c
      · exact ho j y c hy
      · obtain rfl : j = i := by omega
        rw [hg] at hy
        cases hy
        exact h
    · refine sub_mk _ [(1000000, 1000000, _)] ⟨by simp, by simp, by simp [renOf, Blk.live], base1⟩ ?_
      simp [renOf]
      exact wrap_in (by omega) (by omega)
    · simp; omega
  · have hlt' : ¬ (i : Int) < l.length := by omega
    simp [hlt, hlt']
    (repeat refine ⟨.of (by kernel_rfl), ?_⟩)
    rw [← hres]
    have := firstNot_none (p := p) (l := l) fun j y hj hy => ho j y (by omega) hy
    simp [this]
theorem contains_I (F : FuncId) (p : It → Bool) (l : List It) (hn : l.length ≤ 9223372036854775807) (h : ∀ x ∈ l, Cf Es F [x.a] [] (.d (.bool (p x))) []) :
    Cf Es 106 [.d (.sl (l.map It.c)), .clo 107 [.ptr firstName 0 0]] [.var [.clo F []]] (.d (.bool (!l.all p))) [.var [.clo F []]] := by
  refine cf_intro mixs (fn := Tryd.f106) (by kernel_rfl) rfl (by kernel_rfl) (by decide) (by simp) ?_
  have hx := index_I F p l hn h
  have hd := firstNot_neg p l
  simp
  (repeat refine ⟨.of (by kernel_rfl), ?_⟩)
  refine acallT_hand [1000000] hx (by simp) (by simp) (by simp) (by simp) (by simp) ?_
  simp [hd]
  (repeat' (first | contradiction | exact .of (by kernel_rfl) | refine And.intro ?_ ?_ | intro _ | (refine agrd_cases (fun h => ?_) (fun h => ?_) <;> (have h' := h; (try simp at h'); first | done | simp [h, h', hd] | simp [hd]))))
theorem all_I (F : FuncId) (p : It → Bool) (l : List It) (hn : l.length ≤ 9223372036854775807) (h : ∀ x ∈ l, Cf Es F [x.a] [] (.d (.bool (p x))) []) :
    Cf Es 73 [.d (.sl (l.map It.c)), .clo F []] [] (.d (.bool (l.all p))) [] := by
  refine cf_intro mixs (fn := Tryd.f73) (by kernel_rfl) rfl (by kernel_rfl) (by decide) (by simp) ?_
  have hx := contains_I F p l hn h
  generalize hA : l.all p = A at *
  simp
  (repeat refine ⟨.of (by kernel_rfl), ?_⟩)
  refine acallT_hand [3] hx (by simp) (by simp) (by simp) (by simp) (by simp) ?_
  simp
  (repeat' (first | contradiction | exact .of (by kernel_rfl) | refine And.intro ?_ ?_ | intro _ | (refine agrd_cases (fun h => ?_) (fun h => ?_) <;> (have h' := h; (try simp at h'); first | done | simp [h, h'] | simp))))

theorem not_J (F : FuncId) (p : Jo → Bool) (x : Jo) (h : Cf Es F [x.a] [] (.d (.bool (p x))) []) : Cf Es 109 [x.a, .ptr firstName 0 0] [.var [.clo F []]] (.d (.bool (!p x))) [.var [.clo F []]] := by
  refine cf_intro mixs (fn := Tryd.f109) (by kernel_rfl) rfl (by kernel_rfl) (by decide) (by simp) ?_
  have c1 := x.clen
  have k1 := x.ctake
  simp [Jo.a, c1, k1]
  refine ⟨.of (by kernel_rfl), ?_⟩
  refine acallT_plain h (by simp [Jo.a]) ?_
  simp
  (repeat' (first | contradiction | exact .of (by kernel_rfl) | refine And.intro ?_ ?_ | intro _ | (refine agrd_cases (fun h => ?_) (fun h => ?_) <;> (have h' := h; (try simp at h'); first | done | simp [h, h'] | simp))))
theorem index_J (F : FuncId) (p : Jo → Bool) (l : List Jo) (hn : l.length ≤ 9223372036854775807) (h : ∀ x ∈ l, Cf Es F [x.a] [] (.d (.bool (p x))) []) :
    Cf Es 138 [.d (.sl (l.map Jo.c)), .clo 109 [.ptr firstName 0 0]] [.var [.clo F []]] (.d (.int .i64 (firstNot p l))) [.var [.clo F []]] := by
  refine cf_intro mixs (fn := Tryd.f138) (by kernel_rfl) rfl (by kernel_rfl) (by decide) (by simp) ?_
  generalize hres : firstNot p l = res
  simp
  (repeat refine ⟨.of (by kernel_rfl), ?_⟩)
  refine aloopT mixs (by decide) (fun i : Nat => { s := mkS [(0, .d (.sl (l.map Jo.c))), (1, .clo 109 [.ptr 1000000 0 0]), (7, .d (.int .i64 l.length)), (8, .d (.int .i64 i))], b := mkB [(1000000, 1000000, .var [.clo F []])] }) (fun i : Nat => i ≤ l.length ∧ ∀ j (y : Jo), j < i → l[j]? = some y → p y = true) (fun i => l.length - i) 0 (by simp) (sub_mk _ [(1000000, 1000000, _)] ⟨by simp, by simp, by simp [renOf, Blk.live], base1⟩ (by simp [renOf])) ?_
  rintro i ⟨hi, ho⟩
  by_cases hlt : i < l.length
  · have hlt' : (i : Int) < l.length := by omega
    obtain ⟨x, hg⟩ : ∃ x, l[i]? = some x := ⟨_, List.getElem?_eq_getElem hlt⟩
    have hgi : ∀ h, l[i]'h = x := fun h => (List.getElem?_eq_some_iff.1 hg).2
    have hx := not_J F p x (h x (List.mem_of_getElem? hg))
    have c1 := x.clen
    have k1 := x.ctake
    simp [hlt, hlt', hg, hgi, c1, k1]
    (repeat refine ⟨.of (by kernel_rfl), ?_⟩)
    refine acallT_hand [1000000] hx (by simp) (by simp) (by simp) (by simp) (by simp [Jo.a]) ?_
    simp
    refine ⟨.of (by kernel_rfl), fun h => ⟨.of (by kernel_rfl), ?_⟩, fun h => ⟨.of (by kernel_rfl), i + 1, ⟨hlt, ?_⟩, ?_, ?_⟩⟩
    · rw [← hres]
      have := firstNot_some hg h ho
      simp [this]
    · intro j y hj hy
      rcases Nat.lt_or_ge j i with c | c
      · exact ho j y c hy
      · obtain rfl : j = i := by omega
        rw [hg] at hy
        cases hy
        exact h
    · refine sub_mk _ [(1000000, 1000000, _)] ⟨by simp, by simp, by simp [renOf, Blk.live], base1⟩ ?_
      simp [renOf]
      exact wrap_in (by omega) (by omega)
    · simp; omega
  · have hlt' : ¬ (i : Int) < l.length := by omega
    simp [hlt, hlt']
    (repeat refine ⟨.of (by kernel_rfl), ?_⟩)
    rw [← hres]
    have := firstNot_none (p := p) (l := l) fun j y hj hy => ho j y (by omega) hy
    simp [this]
theorem contains_J (F : FuncId) (p : Jo → Bool) (l : List Jo) (hn : l.length ≤ 9223372036854775807) (h : ∀ x ∈ l, Cf Es F [x.a] [] (.d (.bool (p x))) []) :
    Cf Es 108 [.d (.sl (l.map Jo.c)), .clo 109 [.ptr firstName 0 0]] [.var [.clo F []]] (.d (.bool (!l.all p))) [.var [.clo F []]] := by
  refine cf_intro mixs (fn := Tryd.f108) (by kernel_rfl) rfl (by kernel_rfl) (by decide) (by simp) ?_
  have hx := index_J F p l hn h
  have hd := firstNot_neg p l
  simp
  (repeat refine ⟨.of (by kernel_rfl), ?_⟩)
  refine acallT_hand [1000000] hx (by simp) (by simp) (by simp) (by simp) (by simp) ?_
  simp [hd]
  (repeat' (first | contradiction | exact .of (by kernel_rfl) | refine And.intro ?_ ?_ | intro _ | (refine agrd_cases (fun h => ?_) (fun h => ?_) <;> (have h' := h; (try simp at h'); first | done | simp [h, h', hd] | simp [hd]))))
theorem all_J (F : FuncId) (p : Jo → Bool) (l : List Jo) (hn : l.length ≤ 9223372036854775807) (h : ∀ x ∈ l, Cf Es F [x.a] [] (.d (.bool (p x))) []) :
    Cf Es 76 [.d (.sl (l.map Jo.c)), .clo F []] [] (.d (.bool (l.all p))) [] := by
  refine cf_intro mixs (fn := Tryd.f76) (by kernel_rfl) rfl (by kernel_rfl) (by decide) (by simp) ?_
  have hx := contains_J F p l hn h
  generalize hA : l.all p = A at *
  simp
  (repeat refine ⟨.of (by kernel_rfl), ?_⟩)
  refine acallT_hand [3] hx (by simp) (by simp) (by simp) (by simp) (by simp) ?_
  simp
  (repeat' (first | contradiction | exact .of (by kernel_rfl) | refine And.intro ?_ ?_ | intro _ | (refine agrd_cases (fun h => ?_) (fun h => ?_) <;> (have h' := h; (try simp at h'); first | done | simp [h, h'] | simp))))

theorem not_S (F : FuncId) (p : Sm → Bool) (x : Sm) (h : Cf Es F [x.a] [] (.d (.bool (p x))) []) : Cf Es 113 [x.a, .ptr firstName 0 0] [.var [.clo F []]] (.d (.bool (!p x))) [.var [.clo F []]] := by
  refine cf_intro mixs (fn := Tryd.f113) (by kernel_rfl) rfl (by kernel_rfl) (by decide) (by simp) ?_
  have c1 := x.clen
  have k1 := x.ctake
  simp [Sm.a, c1, k1]
  refine ⟨.of (by kernel_rfl), ?_⟩
  refine acallT_plain h (by simp [Sm.a]) ?_
  simp
  (repeat' (first | contradiction | exact .of (by kernel_rfl) | refine And.intro ?_ ?_ | intro _ | (refine agrd_cases (fun h => ?_) (fun h => ?_) <;> (have h' := h; (try simp at h'); first | done | simp [h, h'] | simp))))
theorem index_S (F : FuncId) (p : Sm → Bool) (l : List Sm) (hn : l.length ≤ 9223372036854775807) (h : ∀ x ∈ l, Cf Es F [x.a] [] (.d (.bool (p x))) []) :
    Cf Es 140 [.d (.sl (l.map Sm.c)), .clo 113 [.ptr firstName 0 0]] [.var [.clo F []]] (.d (.int .i64 (firstNot p l))) [.var [.clo F []]] := by
  refine cf_intro mixs (fn := Tryd.f140) (by kernel_rfl) rfl (by kernel_rfl) (by decide) (by simp) ?_
  generalize hres : firstNot p l = res
  simp
  (repeat refine ⟨.of (by kernel_rfl), ?_⟩)
  refine aloopT mixs (by decide) (fun i : Nat => { s := mkS [(0, .d (.sl (l.map Sm.c))), (1, .clo 113 [.ptr 1000000 0 0]), (7, .d (.int .i64 l.length)), (8, .d (.int .i64 i))], b := mkB [(1000000, 1000000, .var [.clo F []])] }) (fun i : Nat => i ≤ l.length ∧ ∀ j (y : Sm), j < i → l[j]? = some y → p y = true) (fun i => l.length - i) 0 (by simp) (sub_mk _ [(1000000, 1000000, _)] ⟨by simp, by simp, by simp [renOf, Blk.live], base1⟩ (by simp [renOf])) ?_
  rintro i ⟨hi, ho⟩
  by_cases hlt : i < l.length
  · have hlt' : (i : Int) < l.length := by omega
    obtain ⟨x, hg⟩ : ∃ x, l[i]? = some x := ⟨_, List.getElem?_eq_getElem hlt⟩
    have hgi : ∀ h, l[i]'h = x := fun h => (List.getElem?_eq_some_iff.1 hg).2
    have hx := not_S F p x (h x (List.mem_of_getElem? hg))
    have c1 := x.clen
    have k1 := x.ctake
    simp [hlt, hlt', hg, hgi, c1, k1]
    (repeat refine ⟨.of (by kernel_rfl), ?_⟩)
    refine acallT_hand [1000000] hx (by simp) (by simp) (by simp) (by simp) (by simp [Sm.a]) ?_
    simp
    refine ⟨.of (by kernel_rfl), fun h => ⟨.of (by kernel_rfl), ?_⟩, fun h => ⟨.of (by kernel_rfl), i + 1, ⟨hlt, ?_⟩, ?_, ?_⟩⟩
    · rw [← hres]
      have := firstNot_some hg h ho
      simp [this]
    · intro j y hj hy
      rcases Nat.lt_or_ge j i with c | c
      · exact ho j y c hy
      · obtain rfl : j = i := by omega
        rw [hg] at hy
        cases hy
        exact h
    · refine sub_mk _ [(1000000, 1000000, _)] ⟨by simp, by simp, by simp [renOf, Blk.live], base1⟩ ?_
      simp [renOf]
      exact wrap_in (by omega) (by omega)
    · simp; omega
  · have hlt' : ¬ (i : Int) < l.length := by omega
    simp [hlt, hlt']
    (repeat refine ⟨.of (by kernel_rfl), ?_⟩)
    rw [← hres]
    have := firstNot_none (p := p) (l := l) fun j y hj hy => ho j y (by omega) hy
    simp [this]
theorem contains_S (F : FuncId) (p : Sm → Bool) (l : List Sm) (hn : l.length ≤ 9223372036854775807) (h : ∀ x ∈ l, Cf Es F [x.a] [] (.d (.bool (p x))) []) :
    Cf Es 112 [.d (.sl (l.map Sm.c)), .clo 113 [.ptr firstName 0 0]] [.var [.clo F []]] (.d (.bool (!l.all p))) [.var [.clo F []]] := by
  refine cf_intro mixs (fn := Tryd.f112) (by kernel_rfl) rfl (by kernel_rfl) (by decide) (by simp) ?_
  have hx := index_S F p l hn h
  have hd := firstNot_neg p l
  simp
  (repeat refine ⟨.of (by kernel_rfl), ?_⟩)
  refine acallT_hand [1000000] hx (by simp) (by simp) (by simp) (by simp) (by simp) ?_
  simp [hd]
  (repeat' (first | contradiction | exact .of (by kernel_rfl) | refine And.intro ?_ ?_ | intro _ | (refine agrd_cases (fun h => ?_) (fun h => ?_) <;> (have h' := h; (try simp at h'); first | done | simp [h, h', hd] | simp [hd]))))
theorem all_S (F : FuncId) (p : Sm → Bool) (l : List Sm) (hn : l.length ≤ 9223372036854775807) (h : ∀ x ∈ l, Cf Es F [x.a] [] (.d (.bool (p x))) []) :
    Cf Es 79 [.d (.sl (l.map Sm.c)), .clo F []] [] (.d (.bool (l.all p))) [] := by
  refine cf_intro mixs (fn := Tryd.f79) (by kernel_rfl) rfl (by kernel_rfl) (by decide) (by simp) ?_
  have hx := contains_S F p l hn h
  generalize hA : l.all p = A at *
  simp
  (repeat refine ⟨.of (by kernel_rfl), ?_⟩)
  refine acallT_hand [3] hx (by simp) (by simp) (by simp) (by simp) (by simp) ?_
  simp
  (repeat' (first | contradiction | exact .of (by kernel_rfl) | refine And.intro ?_ ?_ | intro _ | (refine agrd_cases (fun h => ?_) (fun h => ?_) <;> (have h' := h; (try simp at h'); first | done | simp [h, h'] | simp))))
end Go.Proofs.Tryd
