/- slices.Grow and slices.Concat of terms. -/
import Derived.Test.YtlimkhfjidcelaaDoorSdp
import Derived.Test.YtlimkhfjidcelaaDoorAbB
set_option linter.all false
namespace Go.Proofs.Tryd
open Go.Ab
set_option maxHeartbeats 1000000

def noTm : List D := [.int .i64 0, .int .i64 0, .int .i64 0, .str [], .str [], .sl []]
theorem s_grow (n : Nat) (h0 : 0 < n) (hn : n ≤ 1000) : Cf En 105 [.nils, .d (.int .i64 n)] [] (.ref firstName 0 0 6) [.arr 31 6 (List.replicate n noTm) false] := by
  refine cf_intro mix (fn := Tryd.f105) (by kernel_rfl) rfl (by kernel_rfl) (by decide) (by simp) ?_
  have h1 : ¬ (n : Int) < 0 := by omega
  have hw0 : IntKind.i64.wrap 0 = 0 := by decide
  have hw : IntKind.i64.wrap n = n := wrap_in (by omega) (by omega)
  have h3 : (n : Int) ≤ 9223372036854775807 := by omega
  have h4 : (80 : Int) * n ≤ 281474976710656 := by omega
  simp [h1, h0, hw0, hw, h3, h4]
  refine ⟨.of (by kernel_rfl), .of (by kernel_rfl), .of (by kernel_rfl), .of (by kernel_rfl), ?_⟩
  refine ⟨.of (by kernel_rfl), .of (by kernel_rfl), ?_⟩
  refine ⟨_, [(firstName, 22, .arr 31 6 (List.replicate n noTm) false)], by simp; rfl, ⟨by simp, by simp, ?_, by simp⟩, by simp, ?_⟩
  · intro p hp
    simp only [List.mem_cons, List.not_mem_nil, or_false] at hp
    rcases hp with rfl
    simp [Blk.live, noTm]
  · simp [renOf]
theorem s_grow0 : Cf En 105 [.nils, .d (.int .i64 0)] [] .nils [] := by
  refine cf_introN mix (fn := Tryd.f105) (by kernel_rfl) rfl (by kernel_rfl) (by decide) (by simp) ?_
  have hw0 : IntKind.i64.wrap 0 = 0 := by decide
  simp [hw0]
  (repeat' (first | contradiction | exact .of (by kernel_rfl) | refine And.intro ?_ ?_ | intro _ | (refine agrd_cases (fun h => ?_) (fun h => ?_) <;> (have h' := h; (try simp at h'); first | done | simp [h, h', hw0] | simp [hw0]))))


theorem s_concat (W G H : List Tm) (hw : W.length ≤ 20) (hg : G.length ≤ 20) (hh : H.length ≤ 20) :
    Cf En 71 [.d (.sl [[.sl (W.map Tm.c)], [.sl (G.map Tm.c)], [.sl (H.map Tm.c)]])] [] (.ref firstName 0 (W.length + G.length + H.length) 6) [.arr 31 6 ((W ++ G ++ H).map Tm.c) false] := by
  refine cf_intro mix (fn := Tryd.f71) (by kernel_rfl) rfl (by kernel_rfl) (by decide) (by simp) ?_
  simp
  refine ⟨.of (by kernel_rfl), .of (by kernel_rfl), .of (by kernel_rfl), ?_⟩
  have w1 : IntKind.i64.wrap (W.length : Int) = W.length := wrap_in (by omega) (by omega)
  have w2 : IntKind.i64.wrap ((W.length : Int) + G.length) = W.length + G.length := wrap_in (by omega) (by omega)
  have w3 : IntKind.i64.wrap ((W.length : Int) + G.length + H.length) = W.length + G.length + H.length := wrap_in (by omega) (by omega)
  have w3' : IntKind.i64.wrap ((W.length : Int) + (G.length + H.length)) = W.length + (G.length + H.length) := wrap_in (by omega) (by omega)
  have p1 : ¬ (W.length : Int) < 0 := by omega
  have p2 : ¬ (W.length : Int) + G.length < 0 := by omega
  have p3 : ¬ (W.length : Int) + G.length + H.length < 0 := by omega
  have p3' : ¬ (W.length : Int) + (G.length + H.length) < 0 := by omega
  have d1 : IntKind.i64.wrap 1 = 1 := by decide
  have d2 : IntKind.i64.wrap 2 = 2 := by decide
  have d3 : IntKind.i64.wrap 3 = 3 := by decide
  refine aloopT mix (by decide) (fun i : Nat => { s := mkS [(0, .d (.sl [[.sl (W.map Tm.c)], [.sl (G.map Tm.c)], [.sl (H.map Tm.c)]])), (3, .d (.int .i64 ((([W, G, H].take i).map List.length).sum : Nat))), (9, .d (.sl [[.sl (W.map Tm.c)], [.sl (G.map Tm.c)], [.sl (H.map Tm.c)]])), (10, .d (.int .i64 3)), (11, .d (.int .i64 i))], b := mkB [] }) (fun i : Nat => i ≤ 3) (fun i => 3 - i) 0 (by simp) (sub_mk _ [] .nil (by simp)) ?_
  rintro i hi
  by_cases hlt : i < 3
  · have hi3 : i = 0 ∨ i = 1 ∨ i = 2 := by omega
    rcases hi3 with rfl | rfl | rfl
    · simp [w1, p1]
      refine ⟨.of (by kernel_rfl), .of (by kernel_rfl), .of (by kernel_rfl), .of (by kernel_rfl), .of (by kernel_rfl), 1, by omega, sub_mk _ [] .nil (by simp; decide), by decide⟩
    · simp [w2, p2]
      refine ⟨.of (by kernel_rfl), .of (by kernel_rfl), .of (by kernel_rfl), .of (by kernel_rfl), .of (by kernel_rfl), 2, by omega, sub_mk _ [] .nil (by simp; decide), by decide⟩
    · simp [w3, p3, w3', p3', Int.add_assoc]
      refine ⟨.of (by kernel_rfl), .of (by kernel_rfl), .of (by kernel_rfl), .of (by kernel_rfl), .of (by kernel_rfl), 3, by omega, sub_mk _ [] .nil (by simp; decide), by decide⟩
  · obtain rfl : i = 3 := by omega
    simp
    obtain ⟨n, hn⟩ : ∃ n : Nat, n = W.length + G.length + H.length := ⟨_, rfl⟩
    have hn' : (W.length : Int) + (G.length + H.length) = (n : Int) := by omega
    rw [hn']
    have L6 : ∀ l : List Tm, ((l.map Tm.c).all fun x => x.length == 6) = true := fun l => by
      rw [List.all_eq_true]
      intro x hx
      obtain ⟨t, _, rfl⟩ := List.mem_map.1 hx
      simp [Tm.clen]
    have L6' : ∀ (l : List Tm) (a : Tm), a ∈ l → a.c.length = 6 := fun _ a _ => a.clen
    have b1 : W.length * 80 ≤ 140737488355328 := by omega
    have b2 : (W.length + G.length) * 80 ≤ 140737488355328 := by omega
    have b3 : (W.length + (G.length + H.length)) * 80 ≤ 140737488355328 := by omega
    have m1 : W.length ≤ 9223372036854775807 := by omega
    have m2 : W.length + G.length ≤ 9223372036854775807 := by omega
    have m3 : W.length + (G.length + H.length) ≤ 9223372036854775807 := by omega
    refine ⟨.of (by kernel_rfl), ?_⟩
    have q1 : (W.map Tm.c).length = W.length := by simp
    by_cases h0 : n = 0
    · have e1 : W = [] := List.eq_nil_of_length_eq_zero (by omega)
      have e2 : G = [] := List.eq_nil_of_length_eq_zero (by omega)
      have e3 : H = [] := List.eq_nil_of_length_eq_zero (by omega)
      subst e1 e2 e3
      subst h0
      refine acallT_plainN s_grow0 (by simp) ?_
      simp
      refine ⟨.of (by kernel_rfl), .of (by kernel_rfl), ?_⟩
      refine aloopT mix (by decide) (fun i : Nat => { s := mkS [(0, .d (.sl [[.sl []], [.sl []], [.sl []]])), (6, if i = 0 then .nils else .ref 6 0 0 6), (25, .d (.sl [[.sl []], [.sl []], [.sl []]])), (26, .d (.int .i64 3)), (27, .d (.int .i64 i))], b := mkB (if i = 0 then [] else [(6, 6, .arr 31 6 [] false)]) }) (fun i : Nat => i ≤ 3) (fun i => 3 - i) 0 (by simp) (sub_mk _ [] .nil (by simp)) ?_
      clear hlt hi
      rintro i hi
      by_cases hlt : i < 3
      · have hi3 : i = 0 ∨ i = 1 ∨ i = 2 := by omega
        rcases hi3 with rfl | rfl | rfl
        · simp
          refine ⟨.of (by kernel_rfl), .of (by kernel_rfl), .of (by kernel_rfl), .of (by kernel_rfl), 1, by omega, sub_mk _ [(6, 33, _)] ⟨by simp, by simp, by simp [renOf, Blk.live], by simp⟩ (by simp [renOf]; decide), by decide⟩
        · simp
          refine ⟨.of (by kernel_rfl), .of (by kernel_rfl), .of (by kernel_rfl), .of (by kernel_rfl), 2, by omega, sub_mk _ [(6, 33, _)] ⟨by simp, by simp, by simp [renOf, Blk.live], by simp⟩ (by simp [renOf]; decide), by decide⟩
        · simp
          refine ⟨.of (by kernel_rfl), .of (by kernel_rfl), .of (by kernel_rfl), .of (by kernel_rfl), 3, by omega, sub_mk _ [(6, 33, _)] ⟨by simp, by simp, by simp [renOf, Blk.live], by simp⟩ (by simp [renOf]; decide), by decide⟩
      · obtain rfl : i = 3 := by omega
        simp
        refine ⟨.of (by kernel_rfl), .of (by kernel_rfl), ?_⟩
        refine ⟨_, [(firstName, 6, .arr 31 6 [] false)], by simp; rfl, ⟨by simp, by simp, ?_, by simp⟩, by simp, ?_⟩
        · intro p hp
          simp only [List.mem_cons, List.not_mem_nil, or_false] at hp
          rcases hp with rfl
          simp [Blk.live]
        · simp [renOf]
    · refine acallT_newN [] (s_grow n (by omega) (by omega)) (by simp) (by simp) (by simp) (by decide) (by simp) (by simp) (by simp) ?_
      have h0' : ¬ 0 = n := fun e => h0 e.symm
      simp
      refine ⟨.of (by kernel_rfl), .of (by kernel_rfl), ?_⟩
      refine aloopT mix (by decide) (fun i : Nat => { s := mkS [(0, .d (.sl [[.sl (W.map Tm.c)], [.sl (G.map Tm.c)], [.sl (H.map Tm.c)]])), (6, .ref 6 0 ((([W, G, H].take i).map List.length).sum) 6), (25, .d (.sl [[.sl (W.map Tm.c)], [.sl (G.map Tm.c)], [.sl (H.map Tm.c)]])), (26, .d (.int .i64 3)), (27, .d (.int .i64 i))], b := mkB [(6, 6, .arr 31 6 (if i = 0 then List.replicate n noTm else ([W, G, H].take i).flatten.map Tm.c) false)] }) (fun i : Nat => i ≤ 3) (fun i => 3 - i) 0 (by simp) (sub_mk _ [(6, 25000, _)] ⟨by simp, by simp, by simp [renOf, Blk.live], by simp⟩ (by simp [renOf])) ?_
      clear hlt hi
      rintro i hi
      by_cases hlt : i < 3
      · have hi3 : i = 0 ∨ i = 1 ∨ i = 2 := by omega
        rcases hi3 with rfl | rfl | rfl
        · simp [L6, L6', b1, m1, h0, h0']
          refine ⟨.of (by kernel_rfl), .of (by kernel_rfl), .of (by kernel_rfl), .of (by kernel_rfl), 1, by omega, sub_mk _ [(6, 33, _)] ⟨by simp, by simp, by simp [renOf, Blk.live], by simp⟩ (by simp [renOf]; decide), by decide⟩
        · simp [L6, L6', b2, m2, h0, h0']
          refine ⟨.of (by kernel_rfl), .of (by kernel_rfl), .of (by kernel_rfl), .of (by kernel_rfl), 2, by omega, sub_mk _ [(6, 33, _)] ⟨by simp, by simp, by simp [renOf, Blk.live], by simp⟩ (by simp [renOf]; decide), by decide⟩
        · simp [L6, L6', b3, m3, h0, h0', Nat.add_assoc]
          refine ⟨.of (by kernel_rfl), .of (by kernel_rfl), .of (by kernel_rfl), .of (by kernel_rfl), 3, by omega, sub_mk _ [(6, 33, _)] ⟨by simp, by simp, by simp [renOf, Blk.live, Nat.add_assoc], by simp⟩ (by simp [renOf, Nat.add_assoc]; decide), by decide⟩
      · obtain rfl : i = 3 := by omega
        simp
        refine ⟨.of (by kernel_rfl), .of (by kernel_rfl), ?_⟩
        refine ⟨_, [(firstName, 6, .arr 31 6 ((W ++ G ++ H).map Tm.c) false)], by simp; rfl, ⟨by simp, by simp, ?_, by simp⟩, by simp, ?_⟩
        · intro p hp
          simp only [List.mem_cons, List.not_mem_nil, or_false] at hp
          rcases hp with rfl
          simp [Blk.live]
        · simp [renOf, Nat.add_assoc]
end Go.Proofs.Tryd
