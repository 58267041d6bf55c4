/- Expressions: the reference's Shift. -/
import Derived.Test.YtlimkhfjidcelaaGreatDoorMdp
set_option linter.all false
namespace Go.Proofs.Tryz
open Go.Ab
set_option maxRecDepth 100000
set_option maxHeartbeats 2000000

mutual
def Ex.shift : Ex → Int → Ex
  | .mk o c n t g ks, d => .mk o c n t (if o = 5 then IntKind.i64.wrap (g + d) else g) (shiftAll ks d)
def shiftAll : List Ex → Int → List Ex
  | [], _ => []
  | e :: es, d => e.shift d :: shiftAll es d
end
theorem shiftAll_map : ∀ (l : List Ex) (d : Int), shiftAll l d = l.map fun e => e.shift d
  | [], _ => rfl
  | e :: es, d => by rw [shiftAll, shiftAll_map es d]; rfl
@[simp] theorem shift_clen (l : List Ex) (d : Int) (n : Nat) : (∀ x, x ∈ List.take n (l.map fun e => (Ex.shift e d).c) → x.length = 6) = True := eq_true fun x hx => by
  obtain ⟨a, _, rfl⟩ := List.mem_map.1 (List.mem_of_mem_take hx)
  exact Ex.clen _
theorem r_shift : ∀ (m : Nat) (e : Ex), SizeOf.sizeOf e < m → ∀ q : Nat, e.few q = true → ∀ d : Int, Cf En 18 [e.a, .d (.int .i64 d)] [] (e.shift d).a []
  | 0, _, h, _, _, _ => absurd h (by omega)
  | m + 1, .mk o c n t g ks, hm, q, hq, d => by
    obtain ⟨hk, _, hfew⟩ := few_kids hq
    have hs : (Ex.mk o c n t g ks).shift d = .mk o c n t (if o = 5 then IntKind.i64.wrap (g + d) else g) (ks.map fun e => e.shift d) := by rw [Ex.shift, shiftAll_map]
    rw [hs]
    obtain ⟨g', hg'⟩ : ∃ g', g' = if o = 5 then IntKind.i64.wrap (g + d) else g := ⟨_, rfl⟩
    rw [← hg']
    refine cf_intro mix (fn := Tryz.f18) (by kernel_rfl) rfl (by kernel_rfl) (by decide) (by simp) ?_
    refine' (fun (key : LoopKey En 37 0 { s := mkS [(1, .d (.int .i64 d)), (2, .ptr 2 0 0), (4, .ptr 4 0 0), (5, .ptr 5 0 0), (6, .d (.int .i64 0))], b := mkB [(2, 2, .var [.d (.int .i64 o), .d (.int .i64 c), .d (.int .i64 n), .d (.str t), .d (.int .i64 g), .d (.sl (ks.map Ex.c))]), (4, 4, .var [.d (.int .i64 0), .d (.int .i64 0), .d (.int .i64 0), .d (.str []), .d (.int .i64 0), .nils]), (5, 5, .var [.d (.int .i64 o), .d (.int .i64 c), .d (.int .i64 n), .d (.str t), .d (.int .i64 g'), .nils])] } _ _) => ?main) ?keyg
    case main =>
      by_cases h5 : o = 5
      · rw [if_pos h5] at hg'
        simp [Ex.a, Ex.c, kidsC_map, h5, ← hg']
        (repeat' (first | contradiction | exact .of (by kernel_rfl) | refine And.intro ?_ ?_ | intro _ | (refine agrd_cases (fun h => ?_) (fun h => ?_) <;> (have h' := h; (try simp at h'); first | done | simp [h, h', h5] | simp [h5]))))
        refine key _ ?_
        exact sub_mk _ [(2, 2, _), (4, 4, _), (5, 5, _)] ⟨by simp, by simp, by simp [renOf, Blk.live, h5], by simp⟩ (by simp [renOf])
      · rw [if_neg h5] at hg'
        subst hg'
        simp [Ex.a, Ex.c, kidsC_map, h5]
        (repeat' (first | contradiction | exact .of (by kernel_rfl) | refine And.intro ?_ ?_ | intro _ | (refine agrd_cases (fun h => ?_) (fun h => ?_) <;> (have h' := h; (try simp at h'); first | done | simp [h, h', h5] | simp [h5]))))
        refine key _ ?_
        exact sub_mk _ [(2, 2, _), (4, 4, _), (5, 5, _)] ⟨by simp, by simp, by simp [renOf, Blk.live], by simp⟩ (by simp [renOf])
    intro st hst
    refine aloopT mix (by decide) (fun i : Nat => { s := mkS [(1, .d (.int .i64 d)), (2, .ptr 2 0 0), (4, .ptr 4 0 0), (5, .ptr 5 0 0), (6, .d (.int .i64 i))], b := mkB [(2, 2, .var [.d (.int .i64 o), .d (.int .i64 c), .d (.int .i64 n), .d (.str t), .d (.int .i64 g), .d (.sl (ks.map Ex.c))]), (4, 4, .var [.d (.int .i64 0), .d (.int .i64 0), .d (.int .i64 0), .d (.str []), .d (.int .i64 0), .nils]), (5, 5, .var [.d (.int .i64 o), .d (.int .i64 c), .d (.int .i64 n), .d (.str t), .d (.int .i64 g'), .ref 900 0 i 6]), (900, 900, .arr 42 6 ((ks.take i).map fun e => (e.shift d).c) false)] }) (fun i => i ≤ ks.length) (fun i => ks.length - i) 0 (by simp)
      (hst.trans ((sub_nilc 5 900 42 6 5 (cells := [.d (.int .i64 o), .d (.int .i64 c), .d (.int .i64 n), .d (.str t), .d (.int .i64 g'), .nils]) (by simp) rfl (by simp) (by decide) (by decide)).trans (sub_mk _ [(2, 2, _), (4, 4, _), (5, 5, _), (900, 900, _)] ⟨by simp, by simp, by simp [renOf, Blk.live, upd], by simp⟩ (by simp [renOf])))) ?_
    intro i hi
    by_cases hlt : i < ks.length
    · obtain ⟨e, he⟩ : ∃ e, e = ks[i] := ⟨_, rfl⟩
      have hge : ∀ h, ks[i]'h = e := fun _ => he.symm
      have hem : e ∈ ks := by rw [he]; exact List.getElem_mem hlt
      have hsz : SizeOf.sizeOf e < m := by
        have := List.sizeOf_lt_of_mem hem
        simp only [Ex.mk.sizeOf_spec] at hm
        omega
      have hrec := r_shift m e hsz (q + 1) (hfew e hem) d
      have hw := wrap_in (n := (i : Int) + 1) (by omega) (by omega)
      have htk : (ks.take (i + 1)).map (fun e => (e.shift d).c) = (ks.take i).map (fun e => (e.shift d).c) ++ [(e.shift d).c] := by rw [take_snoc hlt, List.map_append, ← he]; rfl
      have hml : min i ks.length = i := by omega
      simp [hlt, hge, Ex.clen, Ex.ctake, Ex.ctake']
      (repeat' (first | contradiction | exact .of (by kernel_rfl) | refine And.intro ?_ ?_ | intro _ | (refine agrd_cases (fun h => ?_) (fun h => ?_) <;> (have h' := h; (try simp at h'); first | done | simp [h, h'] | simp))))
      refine acallT_plain hrec (by simp [Ex.a, Ex.ctake, Ex.ctake', Ex.clen]) ?_
      simp [Ex.a, Ex.ctake, Ex.ctake', Ex.clen, hml, szs i (by omega) 72 (by decide), szs (i + 1) (by omega) 72 (by decide)]
      (repeat' (first | contradiction | exact .of (by kernel_rfl) | refine And.intro ?_ ?_ | intro _ | (refine agrd_cases (fun h => ?_) (fun h => ?_) <;> (have h' := h; (try simp at h'); first | done | simp [h, h'] | simp))))
      refine ⟨i + 1, by omega, ?_, by simp; omega⟩
      refine sub_mk _ [(2, 2, _), (4, 4, _), (5, 5, _), (900, 34, _)] ⟨by simp, by simp, ?_, by simp⟩ (by simp [renOf, hw])
      have htk' : (ks.map fun e => (e.shift d).c).take (i + 1) = (ks.map fun e => (e.shift d).c).take i ++ [(e.shift d).c] := by rw [← List.map_take, htk, List.map_take]
      simp [renOf, Blk.live, htk', hml]
    have hie : i = ks.length := by omega
    subst hie
    simp [Ex.a, Ex.c, kidsC_map]
    (repeat' (first | contradiction | exact .of (by kernel_rfl) | refine And.intro ?_ ?_ | intro _ | (refine agrd_cases (fun h => ?_) (fun h => ?_) <;> (have h' := h; (try simp at h'); first | done | simp [h, h'] | simp))))
end Go.Proofs.Tryz
