/- Evaluating the abstract machine: what simp needs. -/
import Derived.Test.YtnbbnkmaoaogeaaDoorAbFun
import Derived.KernelRfl
set_option linter.all false
namespace Go.Ab

/-- Holds a term still: simp does not enter what a later term's type names. -/
structure Tok {α : Type} (k : α) : Type where
theorem upd_app {α : Type} (f : Nat → α) (i j : Nat) (x : α) : upd f i x j = if j = i then x else f j := rfl
theorem restr_app (t : List Nat) (bl : Nat → Blk) (n : Nat) : restr t bl n = if n ∈ t then bl n else .dead := rfl
/-! Step by step. -/
theorem areg_nil {E : Env} {ops : Array Oper} {st : St} {lg : List LogE} {K : St → List LogE → Prop} : areg E ops [] st lg K = K st lg := _root_.id rfl
theorem areg_cons {E : Env} {ops : Array Oper} {o : Oper} {rest : List Oper} {st : St} {lg : List LogE} {K : St → List LogE → Prop} (hg : o.guard = none) : areg E ops (o :: rest) st lg K = aop E o st fun st' t wn => areg E ops rest st' (lg ++ [(t, wn)]) K := by
  simp [areg, wantedA, hg]
/-- Of a guarded operation: 'want' as the guard has it. -/
def agrd (v : AV) (want : Bool) (x y : Prop) (_ : Tok (x, y)) : Prop := match v with
  | .d (.bool b) => if b = want then x else y
  | .sk => y
  | _ => False
def gslot (ops : List Oper) (j : Nat) (s : Nat → AV) : AV := match (ops[j]?).bind (·.dst) with
  | some t => s t
  | none => .sk
theorem areg_guard {E : Env} {ops : List Oper} {rest : List Oper} {st : St} {lg : List LogE} {K : St → List LogE → Prop} {dst : Option Tmp} {op : Op} {ty : TypeId} {pos : String} {after : Array Edge} {j : Nat} {want : Bool} :
    areg E ⟨ops⟩ ({ dst := dst, op := op, type := ty, pos := pos, after := after, guard := some (j, want) } :: rest) st lg K =
      agrd (gslot ops j st.s) want (aop E { dst := dst, op := op, type := ty, pos := pos, after := after, guard := some (j, want) } st fun st' t wn => areg E ⟨ops⟩ rest st' (lg ++ [(t, wn)]) K) (areg E ⟨ops⟩ rest (st.put dst .sk []) (lg ++ [([], [])]) K) ⟨⟩ := by
  have he : ((⟨ops⟩ : Array Oper)[j]?) = ops[j]? := by simp
  simp only [areg, wantedA, he, gslot]
  cases ht : (ops[j]?).bind (·.dst) with
  | none => simp [agrd]
  | some t =>
    simp only
    cases e : st.s t with
    | d x =>
      cases x with
      | bool b => by_cases e : b = want <;> simp [agrd, e]
      | _ => simp [agrd]
    | sk => simp [agrd]
    | _ => simp [agrd]
theorem agrd_bool {b want : Bool} {x y : Prop} {t : Tok (x, y)} : agrd (.d (.bool b)) want x y t = if b = want then x else y := rfl
theorem agrd_true {want : Bool} {x y : Prop} {t : Tok (x, y)} : agrd (.d (.bool true)) want x y t = if want = true then x else y := by cases want <;> rfl
theorem agrd_false {want : Bool} {x y : Prop} {t : Tok (x, y)} : agrd (.d (.bool false)) want x y t = if want = true then y else x := by cases want <;> rfl
theorem agrd_cases {b want : Bool} {x y : Prop} {t : Tok (x, y)} (h1 : b = want → x) (h2 : b = (!want) → y) : agrd (.d (.bool b)) want x y t := by
  cases b <;> cases want <;> simp_all [agrd]
theorem agrd_sk {want : Bool} {x y : Prop} {t : Tok (x, y)} : agrd .sk want x y t = y := rfl

def aeff (r : Eff) (t : List Nat) (dst : Option Tmp) (st : St) (K : St → List Nat → List Nat → Prop) (_ : Tok K) : Prop := match r with
  | some (v, wr) => wr.all (fun p => t.contains p.1) = true ∧ K { s := updO st.s dst v, b := upds st.b wr } t (wr.map (·.1))
  | none => False
theorem aeff_pure {v : AV} {t : List Nat} {dst : Option Tmp} {st : St} {K : St → List Nat → List Nat → Prop} {tk : Tok K} : aeff (some (v, [])) t dst st K tk = K { s := updO st.s dst v, b := st.b } t [] := by simp [aeff, upds]
theorem aeff_some {v : AV} {p : Nat × Blk} {wr : List (Nat × Blk)} {t : List Nat} {dst : Option Tmp} {st : St} {K : St → List Nat → List Nat → Prop} {tk : Tok K} : aeff (some (v, p :: wr)) t dst st K tk =
    ((p :: wr).all (fun p => t.contains p.1) = true ∧ K { s := updO st.s dst v, b := upds st.b (p :: wr) } t ((p :: wr).map (·.1))) := rfl
theorem aprim_eff {E : Env} {o : Oper} {st : St} {K : St → List Nat → List Nat → Prop} : aprim E o st K = aeff ((effF E.P (evG E.G st.s) o (restr (touchF (evG E.G st.s) o) st.b))) ((touchF (evG E.G st.s) o)) o.dst st K ⟨⟩ := _root_.id rfl

/-- The operations, one by one. -/
def aval (E : Env) (v : AV) (args : List AV) (dst : Option Tmp) (st : St) (K : St → List Nat → List Nat → Prop) (_ : Tok K) : Prop := match v with
  | .clo f caps => acall E f (args ++ caps) dst st K
  | _ => False
theorem aval_clo {E : Env} {f : FuncId} {caps args : List AV} {dst : Option Tmp} {st : St} {K : St → List Nat → List Nat → Prop} {tk : Tok K} : aval E (.clo f caps) args dst st K tk = acall E f (args ++ caps) dst st K := rfl
section
variable {E : Env} {dst : Option Tmp} {ty : TypeId} {pos : String} {after : Array Edge} {g : Option (Nat × Bool)} {st : St} {K : St → List Nat → List Nat → Prop}
theorem aop_call {fo : Operand} {args : Array Operand} {types : Array TypeId} : aop E { dst := dst, op := .call { callee := .value fo, args := args, argTypes := types }, type := ty, pos := pos, after := after, guard := g } st K = aval E ((evG E.G st.s fo)) ((args.toList.map (evG E.G st.s))) dst st K ⟨⟩ := _root_.id rfl
theorem aop_builtin {b : Builtin} {args : Array Operand} {types : Array TypeId} : aop E { dst := dst, op := .call { callee := .builtin b, args := args, argTypes := types }, type := ty, pos := pos, after := after, guard := g } st K =
    aprim E { dst := dst, op := .call { callee := .builtin b, args := args, argTypes := types }, type := ty, pos := pos, after := after, guard := g } st K := _root_.id rfl
theorem aop_move {x : Operand} : aop E { dst := dst, op := .move x, type := ty, pos := pos, after := after, guard := g } st K = K { s := updO st.s dst (evG E.G st.s x), b := st.b } [] [] := by
  simp only [aop, aprim_eff, effF, touchF, pureE, aeff_pure]
theorem aop_assign {x : Operand} : aop E { dst := dst, op := .assign x, type := ty, pos := pos, after := after, guard := g } st K = K { s := updO st.s dst (evG E.G st.s x), b := st.b } [] [] := by
  simp only [aop, aprim_eff, effF, touchF, pureE, aeff_pure]
theorem aop_nilCheck {x : Operand} : aop E { dst := dst, op := .nilCheck x, type := ty, pos := pos, after := after, guard := g } st K = aprim E { dst := dst, op := .nilCheck x, type := ty, pos := pos, after := after, guard := g } st K := _root_.id rfl
theorem aop_pick {c x y : Operand} : aop E { dst := dst, op := .pick c x y, type := ty, pos := pos, after := after, guard := g } st K = aprim E { dst := dst, op := .pick c x y, type := ty, pos := pos, after := after, guard := g } st K := _root_.id rfl
theorem aop_alloc {t : TypeId} : aop E { dst := dst, op := .alloc t, type := ty, pos := pos, after := after, guard := g } st K = aprim E { dst := dst, op := .alloc t, type := ty, pos := pos, after := after, guard := g } st K := _root_.id rfl
theorem aop_box {t : TypeId} {x : Operand} : aop E { dst := dst, op := .box t x, type := ty, pos := pos, after := after, guard := g } st K = aprim E { dst := dst, op := .box t x, type := ty, pos := pos, after := after, guard := g } st K := _root_.id rfl
theorem aop_build {t : TypeId} {ps : Array (Nat × Operand)} : aop E { dst := dst, op := .build t ps, type := ty, pos := pos, after := after, guard := g } st K = aprim E { dst := dst, op := .build t ps, type := ty, pos := pos, after := after, guard := g } st K := _root_.id rfl
theorem aop_buildSlice {t : TypeId} {n : Nat} {ps : Array (Nat × Operand)} : aop E { dst := dst, op := .buildSlice t n ps, type := ty, pos := pos, after := after, guard := g } st K = aprim E { dst := dst, op := .buildSlice t n ps, type := ty, pos := pos, after := after, guard := g } st K := _root_.id rfl
theorem aop_load {t : TypeId} {x : Operand} : aop E { dst := dst, op := .load t x, type := ty, pos := pos, after := after, guard := g } st K = aprim E { dst := dst, op := .load t x, type := ty, pos := pos, after := after, guard := g } st K := _root_.id rfl
theorem aop_store {t : TypeId} {x y : Operand} : aop E { dst := dst, op := .store t x y, type := ty, pos := pos, after := after, guard := g } st K = aprim E { dst := dst, op := .store t x y, type := ty, pos := pos, after := after, guard := g } st K := _root_.id rfl
theorem aop_binOp {b : BinOp} {t t' : TypeId} {x y : Operand} : aop E { dst := dst, op := .binOp b t x y t', type := ty, pos := pos, after := after, guard := g } st K = aprim E { dst := dst, op := .binOp b t x y t', type := ty, pos := pos, after := after, guard := g } st K := _root_.id rfl
theorem aop_unOp {b : UnOp} {t : TypeId} {x : Operand} : aop E { dst := dst, op := .unOp b t x, type := ty, pos := pos, after := after, guard := g } st K = aprim E { dst := dst, op := .unOp b t x, type := ty, pos := pos, after := after, guard := g } st K := _root_.id rfl
theorem aop_convert {t t' : TypeId} {x : Operand} : aop E { dst := dst, op := .convert t t' x, type := ty, pos := pos, after := after, guard := g } st K = aprim E { dst := dst, op := .convert t t' x, type := ty, pos := pos, after := after, guard := g } st K := _root_.id rfl
theorem aop_makeFunc {fn : Fn} {ts xs : Array Operand} : aop E { dst := dst, op := .makeFunc fn ts xs, type := ty, pos := pos, after := after, guard := g } st K = aprim E { dst := dst, op := .makeFunc fn ts xs, type := ty, pos := pos, after := after, guard := g } st K := _root_.id rfl
theorem aop_makeSlice {t : TypeId} {x y : Operand} : aop E { dst := dst, op := .makeSlice t x y, type := ty, pos := pos, after := after, guard := g } st K = aprim E { dst := dst, op := .makeSlice t x y, type := ty, pos := pos, after := after, guard := g } st K := _root_.id rfl
theorem aop_slice {t : TypeId} {x : Operand} {lo hi mx : Option Operand} : aop E { dst := dst, op := .slice t x lo hi mx, type := ty, pos := pos, after := after, guard := g } st K = aprim E { dst := dst, op := .slice t x lo hi mx, type := ty, pos := pos, after := after, guard := g } st K := _root_.id rfl
theorem aop_fieldAddr {t : TypeId} {x : Operand} {f : Nat} : aop E { dst := dst, op := .fieldAddr t x f, type := ty, pos := pos, after := after, guard := g } st K = aprim E { dst := dst, op := .fieldAddr t x f, type := ty, pos := pos, after := after, guard := g } st K := _root_.id rfl
theorem aop_field {t : TypeId} {x : Operand} {f : Nat} : aop E { dst := dst, op := .field t x f, type := ty, pos := pos, after := after, guard := g } st K = aprim E { dst := dst, op := .field t x f, type := ty, pos := pos, after := after, guard := g } st K := _root_.id rfl
theorem aop_indexAddr {t : TypeId} {x y : Operand} : aop E { dst := dst, op := .indexAddr t x y, type := ty, pos := pos, after := after, guard := g } st K = aprim E { dst := dst, op := .indexAddr t x y, type := ty, pos := pos, after := after, guard := g } st K := _root_.id rfl
theorem aop_index {t : TypeId} {x y : Operand} : aop E { dst := dst, op := .index t x y, type := ty, pos := pos, after := after, guard := g } st K = aprim E { dst := dst, op := .index t x y, type := ty, pos := pos, after := after, guard := g } st K := _root_.id rfl
theorem aop_range {t : TypeId} {x : Operand} : aop E { dst := dst, op := .range t x, type := ty, pos := pos, after := after, guard := g } st K = aprim E { dst := dst, op := .range t x, type := ty, pos := pos, after := after, guard := g } st K := _root_.id rfl
theorem aop_next {x : Operand} {b : Bool} : aop E { dst := dst, op := .next x b, type := ty, pos := pos, after := after, guard := g } st K = aprim E { dst := dst, op := .next x b, type := ty, pos := pos, after := after, guard := g } st K := _root_.id rfl
theorem aop_extract {x : Operand} {i : Nat} : aop E { dst := dst, op := .extract x i, type := ty, pos := pos, after := after, guard := g } st K = aprim E { dst := dst, op := .extract x i, type := ty, pos := pos, after := after, guard := g } st K := _root_.id rfl
end

/-! Code. -/
def acnd (v : AV) (x y : Prop) (_ : Tok (x, y)) : Prop := match v with
  | .d (.bool b) => (b = true → x) ∧ (b = false → y)
  | _ => False
theorem acnd_true {x y : Prop} {t : Tok (x, y)} : acnd (.d (.bool true)) x y t = x := by simp [acnd]
theorem acnd_false {x y : Prop} {t : Tok (x, y)} : acnd (.d (.bool false)) x y t = y := by simp [acnd]
theorem acnd_bool {b : Bool} {x y : Prop} {t : Tok (x, y)} : acnd (.d (.bool b)) x y t = ((b = true → x) ∧ (b = false → y)) := rfl
section
variable {E : Env} {N nb : Nat} {st : St} {Q : AExit → St → Prop}
theorem acode_skip : acode E N nb .skip st Q = Q .normal st := _root_.id rfl
theorem acode_region {id : Nat} {ops : List Oper} {draw : Bool} : acode E N nb (.region id ⟨ops⟩ draw) st Q = areg E ⟨ops⟩ ops st [] fun st' lg => regOk N draw ⟨ops⟩ lg = true ∧ Q .normal st' := _root_.id rfl
theorem acode_seq {x y : Code} : acode E N nb (.seq x y) st Q = acode E N nb x st fun e st' => match e with
    | .normal => acode E N nb y st' Q
    | e => Q e st' := _root_.id rfl
theorem acode_cond {c : Operand} {x y : Code} : acode E N nb (.cond c x y) st Q = acnd ((evG E.G st.s c)) (acode E N nb x st Q) (acode E N nb y st Q) ⟨⟩ := _root_.id rfl
theorem acode_block {id : Nat} {c : Code} : acode E N nb (.block id c) st Q = acode E N nb c st fun e st' => match e with
    | .exit id' => if id' = id then Q .normal st' else Q (.exit id') st'
    | e => Q e st' := _root_.id rfl
theorem acode_exit {id : Nat} : acode E N nb (.exit id) st Q = Q (.exit id) st := _root_.id rfl
theorem acode_ret : acode E N nb .ret st Q = Q .ret st := _root_.id rfl
theorem acode_loop {c : Code} : acode E N nb (.loop c) st Q = ALoop E N nb c st Q := _root_.id rfl
end

/-- A plain call. -/
theorem acall_plain {E : Env} {f : FuncId} {args xs : List AV} {dst : Option Tmp} {st : St} {K : St → List Nat → List Nat → Prop} {y : AV} (hx : (callArgs [] st.b args).1 = xs) (h : Cf E f xs [] y []) 
    (hK : K (st.put dst (callRes [] 0 y) (frzW st.b (callFrz [] st.b args))) (callFrz [] st.b args) (callFrz [] st.b args)) : acall E f args dst st K := by
  refine ⟨[], 0, y, [], .inr rfl, ⟨List.nodup_nil, ?_, Nat.le_refl _, ?_, by decide, ?_⟩, ?_⟩
  · intro _ h; cases h
  · intro j hj; simp at hj
  · rw [hx]; exact h
  · simpa [callOut] using hK
end Go.Ab
