/- One operation in a frame; operations that do not meet may change places. -/
import Derived.Test.YtnbbnkmaoaogeaaDoorAbCall2
set_option linter.all false
namespace Go.Ab

def updO (s : Nat → AV) : Option Tmp → AV → Nat → AV
  | some d, v => upd s d v
  | none, _ => s
def St.put (st : St) (dst : Option Tmp) (v : AV) (wr : List (Nat × Blk)) : St := { s := updO st.s dst v, b := upds st.b wr }

/-- The frame and the world stand for the abstract state. -/
structure Inv (C : Ctx) (N nb : Nat) (st : St) (a : Act) (w : World) : Prop where
  high : ∀ n l, firstName ≤ n → C.h0.L n = some l → n < firstName + nb
  defers : a.defers = []
  size : a.tmps.size = N
  ex : ∃ h, (∀ i, RepA h (a.tmps.getD i undef) (st.s i)) ∧ Mem C st.b w h

theorem eval_rep {C : Ctx} {bl : Nat → Blk} {w : World} {h : Gh} (m : Mem C bl w h) {a : Act} {s : Nat → AV} (hs : ∀ i, RepA h (a.tmps.getD i undef) (s i)) (x : Operand) : RepA h (a.eval x) (evG C.G s x) := by
  cases x with
  | tmp t => exact hs t
  | const v => exact constAV_rep v
  | global g =>
    simp only [evG, Act.eval]
    split
    · rename_i cs hg
      simp only [RepA]
      exact ⟨g, 0, rfl, m.glob g cs hg⟩
    · simp [RepA]
  | func f =>
    simp only [evG, Act.eval, RepA]
    exact ⟨[], rfl, by simp [RepAs]⟩

theorem put_slots {h : Gh} {a : Act} {s : Nat → AV} {dst : Option Tmp} {u : Value} {v : AV} (hs : ∀ i, RepA h (a.tmps.getD i undef) (s i)) (hd : ∀ d, dst = some d → d < a.tmps.size) (hu : RepA h u v) :
    ∀ i, RepA h ((a.put dst u).tmps.getD i undef) (updO s dst v i) := by
  intro i
  cases dst with
  | none => exact hs i
  | some d =>
    have hlt := hd d rfl
    simp only [Act.put, updO, upd]
    by_cases e : i = d
    · subst e
      simpa [hlt] using hu
    · rw [if_neg e]
      have := hs i
      simpa [Array.getElem?_setIfInBounds_ne (Ne.symm e)] using this

theorem put_size {a : Act} {dst : Option Tmp} {u : Value} : (a.put dst u).tmps.size = a.tmps.size := by
  cases dst <;> simp [Act.put]
theorem put_defers {a : Act} {dst : Option Tmp} {u : Value} : (a.put dst u).defers = a.defers := by
  cases dst <;> rfl

/-- A call of a Go function, by contract. -/
def CallEff (E : Env) (ρ : Operand → AV) (o : Oper) (bl : Nat → Blk) (res : AV) (wr : List (Nat × Blk)) : Prop :=
  ∃ c fo f caps ks d y B', o.op = .call c ∧ c.callee = .value fo ∧ ρ fo = .clo f caps ∧ (o.dst = some d ∨ B'.length = ks.length) ∧
    CallOk E f (c.args.toList.map ρ ++ caps) bl ks d y B' ∧ res = callRes ks d y ∧ wr = frzW bl (callFrz ks bl (c.args.toList.map ρ ++ caps)) ++ callOut ks d B'

def Eff1 (E : Env) (ρ : Operand → AV) (o : Oper) (bl : Nat → Blk) (res : AV) (wr : List (Nat × Blk)) : Prop :=
  effF E.P ρ o bl = some (res, wr) ∨ CallEff E ρ o bl res wr


theorem run_enter {P : Program} {f : FuncId} (he : enterable P f = true) (args : Array Value) (w : World) : (callFunc f args).run P w = .ok (.enter f args) w := by
  unfold enterable at he
  split at he
  · rename_i fn hf
    simp only [Bool.and_eq_true, bne_iff_ne, ne_eq] at he
    have hb : fn.body.isNone = false := by cases e : fn.body <;> simp_all
    simp only [callFunc, Sem.run_bind, run_program, Result.andThen_ok, hf]
    rw [if_neg (by simpa using he.1), if_neg (by simp [hb])]
    rfl
  · cases he

/-- Is the operation wanted? Where it hangs on an operation that was passed over it is not. -/
def wantedA (ops : Array Oper) (o : Oper) (s : Nat → AV) : Option Bool :=
  match o.guard with
  | none => some true
  | some (j, want) => match (ops[j]?).bind (·.dst) with
    | some t => match s t with
      | .d (.bool b) => some (b == want)
      | .sk => some false
      | _ => none
    | none => some false

theorem wantedA_sound {h : Gh} {ops : Array Oper} {o : Oper} {a : Act} {s : Nat → AV} {b : Bool} (hs : ∀ i, RepA h (a.tmps.getD i undef) (s i)) (hw : wantedA ops o s = some b) : Region.wanted o (yielded ops a.tmps) = b := by
  unfold wantedA at hw
  unfold Region.wanted
  split at hw
  · rename_i hg
    simp only [Option.some.injEq] at hw
    simp [hg, hw]
  · rename_i j want hg
    simp only [hg]
    unfold yielded
    split at hw
    · rename_i t ht
      have hst := hs t
      split at hw
      · rename_i b' hb
        simp only [Option.some.injEq] at hw
        subst hw
        rw [hb] at hst
        simp only [RepA, RepD] at hst
        have hv : a.tmps[t]? = some (.bool b') := by
          cases e : a.tmps[t]? with
          | none => simp [e, undef] at hst
          | some v => simp [e] at hst; rw [hst]
        simp only [ht, Option.bind_some, hv]
        cases b' <;> cases want <;> rfl
      · rename_i hb
        simp only [Option.some.injEq] at hw
        subst hw
        rw [hb] at hst
        simp only [RepA] at hst
        simp only [ht, Option.bind_some]
        cases e : a.tmps[t]? with
        | none => rfl
        | some v => simp [e, undef] at hst; subst hst; rfl
      · cases hw
    · rename_i ht
      simp only [Option.some.injEq] at hw
      subst hw
      simp [ht]

/-- One operation, in the abstract: t: the blocks that it touches, wn: those that it turns. -/
def Step (E : Env) (ops : Array Oper) (o : Oper) (st st' : St) (t wn : List Nat) : Prop :=
  (wantedA ops o st.s = some true ∧ ∃ res wr, Eff1 E (evG E.G st.s) o (restr t st.b) res wr ∧ (∀ p ∈ wr, p.1 ∈ t) ∧ wn = wr.map (·.1) ∧ st' = st.put o.dst res wr) ∨
  (wantedA ops o st.s = some false ∧ t = [] ∧ wn = [] ∧ st' = st.put o.dst .sk [])

theorem upds_congr {α : Type} {f g : Nat → α} {l : List (Nat × α)} (h : ∀ n, (∀ p ∈ l, p.1 ≠ n) → f n = g n) : upds f l = upds g l := by
  induction l generalizing f g with
  | nil => funext n; exact h n (fun p hp => by cases hp)
  | cons p l ih =>
    refine ih fun n hn => ?_
    simp only [upd]
    split
    · rfl
    · rename_i e
      exact h n fun q hq => by
        rcases List.mem_cons.1 hq with rfl | hq
        · exact fun e' => e e'.symm
        · exact hn q hq
theorem upds_not {α : Type} {f : Nat → α} {l : List (Nat × α)} {n : Nat} (h : ∀ p ∈ l, p.1 ≠ n) : upds f l n = f n := by
  induction l generalizing f with
  | nil => rfl
  | cons p l ih =>
    rw [show upds f (p :: l) = upds (upd f p.1 p.2) l from rfl, ih fun q hq => h q (List.mem_cons_of_mem _ hq)]
    simp [upd, Ne.symm (h p List.mem_cons_self)]

theorem step_sound {E : Env} {C : Ctx} (hP : C.P = E.P) (hG : C.G = E.G) {N nb : Nat} (hN : N ≤ firstName) {ops : Array Oper} {i : Nat} {o : Oper} (hi : ops[i]? = some o) (hd : ∀ d, o.dst = some d → d < N) {st st' : St} {t wn : List Nat} {a : Act} {w : World}
    (inv : Inv C N nb st a w) (hs : Step E ops o st st' t wn) {K : Act → World → Prop} {Q : Exit → Act → World → Prop} (hK : ∀ a' w', Inv C N nb st' a' w' → K a' w') : wpOp E.P ops Q i K a w := by
  obtain ⟨hhi, hdef, hsz, h, hsl, m⟩ := inv
  have hd' : ∀ d, o.dst = some d → d < a.tmps.size := fun d e => by rw [hsz]; exact hd d e
  have hdf : ∀ d, o.dst = some d → d < firstName := fun d e => Nat.lt_of_lt_of_le (hd d e) hN
  unfold wpOp
  simp only [hi]
  rcases hs with ⟨hw, res, wr, heff, hwr, rfl, rfl⟩ | ⟨hw, rfl, rfl, rfl⟩
  · rw [wantedA_sound hsl hw]
    simp only [if_true]
    left
    have hρ : ∀ x, RepA h (a.eval x) (evG E.G st.s x) := fun x => by rw [← hG]; exact eval_rep m hsl x
    rcases heff with he | ⟨c, fo, f, caps, ks, d, y, B', hop, hcal, hfo, hdst, ok, rfl, rfl⟩
    · rw [← hP] at he ⊢
      obtain ⟨nx, u, w', h', hrun, hnx, le, m', ru⟩ := effF_sound (ev := a.eval) m hρ hdf hwr he
      unfold Oper.wp
      rw [hrun]
      have inv' : Inv C N nb (st.put o.dst res wr) (a.put o.dst u) w' := ⟨hhi, by rw [put_defers]; exact hdef, by rw [put_size]; exact hsz, h', put_slots (fun i => RepA_mono le _ _ (hsl i)) hd' ru, m'⟩
      rcases hnx with rfl | ⟨rfl, rfl⟩
      · exact hK _ _ inv'
      · exact hK _ _ inv'
    · -- a call
      have hfv := hρ fo
      rw [hfo] at hfv
      simp only [RepA] at hfv
      obtain ⟨carr, hfv, hcr⟩ := hfv
      have hra : RepAs h (c.args.toList.map a.eval ++ carr) (c.args.toList.map (evG E.G st.s) ++ caps) := RepAs_append (RepAs_map hρ _) hcr
      have hrun : (execOp a.eval o).run E.P w = .ok (.enter f ⟨c.args.toList.map a.eval ++ carr⟩) w := by
        have he := run_enter ok.cf.1 (⟨c.args.toList.map a.eval ++ carr⟩ : Array Value) w
        rw [← he]
        obtain ⟨dst, op, type, pos, after, guard⟩ := o
        simp only at hop
        subst hop
        obtain ⟨callee, args, argTypes⟩ := c
        simp only at hcal
        subst hcal
        simp only [execOp, resolve, hfv, Deferred.ofValue, Sem.run_bind, Sem.run_pure, Result.andThen_ok, invoke]
        congr 2
        apply Array.ext'
        simp
      have hcall := call_sound hP hG (blr := restr t st.b) (fun n hn => (restr_eq (t := t) (bl := st.b) rfl hn).symm) m hra ok
      unfold Oper.wp
      rw [hrun]
      simp only [Oper.upon]
      rw [← hP]
      refine hcall.mono fun e w' => ?_
      rintro ⟨v, h', rfl, le, m', rv⟩
      exact hK _ _ ⟨hhi, by rw [put_defers]; exact hdef, by rw [put_size]; exact hsz, h', put_slots (fun i => RepA_mono le _ _ (hsl i)) hd' rv, m'⟩
  · rw [wantedA_sound hsl hw]
    simp only [Bool.false_eq_true, if_false]
    exact hK _ _ ⟨hhi, by rw [put_defers]; exact hdef, by rw [put_size]; exact hsz, h, put_slots hsl hd' (by simp [RepA]), m⟩
end Go.Ab
