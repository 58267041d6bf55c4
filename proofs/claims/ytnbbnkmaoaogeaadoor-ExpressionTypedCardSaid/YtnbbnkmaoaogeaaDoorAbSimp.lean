/- The steps as rows of simp. -/
import Derived.Test.YtnbbnkmaoaogeaaDoorAbEval
set_option linter.all false
namespace Go.Ab
def RegOk (N : Nat) (draw : Bool) (ops : Array Oper) (_ : Tok ops) (lg : List LogE) : Prop := regOk N draw ops lg = true
theorem RegOk.of {N : Nat} {draw : Bool} {ops : Array Oper} {t : Tok ops} {lg : List LogE} (h : regOk N draw ops lg = true) : RegOk N draw ops t lg := h
theorem acode_region2 {E : Env} {N nb : Nat} {st : St} {Q : AExit → St → Prop} {id : Nat} {ops : List Oper} {draw : Bool} : acode E N nb (.region id ⟨ops⟩ draw) st Q = areg E ⟨ops⟩ ops st [] fun st' lg => RegOk N draw ⟨ops⟩ ⟨⟩ lg ∧ Q .normal st' := by rw [acode_region]; simp only [RegOk]
def acallT (E : Env) (f : FuncId) (args : List AV) (dst : Option Tmp) (st : St) (K : St → List Nat → List Nat → Prop) (_ : Tok K) : Prop := acall E f args dst st K
theorem aval_cloT {E : Env} {f : FuncId} {caps args : List AV} {dst : Option Tmp} {st : St} {K : St → List Nat → List Nat → Prop} {tk : Tok K} : aval E (.clo f caps) args dst st K tk = acallT E f (args ++ caps) dst st K ⟨⟩ := by rw [aval_clo]; simp only [acallT]
theorem acallT_plain {E : Env} {f : FuncId} {args xs : List AV} {dst : Option Tmp} {st : St} {K : St → List Nat → List Nat → Prop} {t : Tok K} {y : AV} (h : Cf E f xs [] y []) (hx : (callArgs [] st.b args).1 = xs)
    (hK : K (st.put dst (callRes [] 0 y) (frzW st.b (callFrz [] st.b args))) (callFrz [] st.b args) (callFrz [] st.b args)) : acallT E f args dst st K t := acall_plain hx h hK
def ALoopT (E : Env) (N nb : Nat) (c : Code) (st : St) (Q : AExit → St → Prop) (_ : Tok (c, Q)) : Prop := ALoop E N nb c st Q
theorem acode_loopT {E : Env} {N nb : Nat} {st : St} {Q : AExit → St → Prop} {c : Code} : acode E N nb (.loop c) st Q = ALoopT E N nb c st Q ⟨⟩ := by rw [acode_loop]; simp only [ALoopT]

/-- The next round stands. -/
def ANext {ι : Type} (E : Env) (N nb : Nat) (F : ι → St) (I : ι → Prop) (meas : ι → Nat) (i : ι) (st : St) (_ : Tok (F, I, meas, i)) : Prop := ∃ i', I i' ∧ Sub E N nb st (F i') ∧ meas i' < meas i
theorem aloopT {E : Env} (hmix : E.P.follows .mixedOrders = true) {N nb : Nat} (hN : N ≤ firstName) {c : Code} {st : St} {Q : AExit → St → Prop} {t : Tok (c, Q)} {ι : Type} (F : ι → St) (I : ι → Prop) (meas : ι → Nat) (i0 : ι) (hi : I i0) (h0 : Sub E N nb st (F i0))
    (round : ∀ i, I i → acode E N nb c (F i) fun e st' => match e with
      | .normal => ANext E N nb F I meas i st' ⟨⟩
      | e => Q e st') : ALoopT E N nb c st Q t := by
  refine aloop (ι := { i : ι // I i }) hmix hN (fun i => F i.1) (fun i => meas i.1) ⟨i0, hi⟩ h0 fun i => ?_
  have h := round i.1 i.2
  have e : (fun e st' => match e with
      | .normal => ANext E N nb F I meas i.1 st' ⟨⟩
      | e => Q e st' : AExit → St → Prop) = fun e st' => match e with
      | .normal => ∃ i' : { i : ι // I i }, Sub E N nb st' (F i'.1) ∧ meas i'.1 < meas i.1
      | e => Q e st' := by
    funext e st'
    cases e <;> simp only [ANext]
    apply propext
    constructor
    · rintro ⟨i2, a, b, d⟩; exact ⟨⟨i2, a⟩, b, d⟩
    · rintro ⟨⟨i2, a⟩, b, d⟩; exact ⟨i2, a, b, d⟩
  rw [e] at h
  exact h

theorem ends_plain {E : Env} {fn : Func} {y : AV} {st : St} : Ends E fn 0 y [] st = ∃ v, resV E fn st = some v ∧ (cvA (fun _ => none) st.b false v).1 = y := by
  apply propext
  constructor
  · rintro ⟨v, l, h1, _, h3, h4⟩
    have : l = [] := by simpa using h3
    subst this
    exact ⟨v, h1, h4⟩
  · rintro ⟨v, h1, h2⟩
    exact ⟨v, [], h1, ⟨by simp, by simp, by simp, by simp⟩, rfl, h2⟩
/-- The end of a plain function. -/
def aend (r : Option AV) (bl : Nat → Blk) (y : AV) : Prop := match r with
  | some v => (cvA (fun _ => none) bl false v).1 = y
  | none => False
theorem ends_aend {E : Env} {fn : Func} {y : AV} {st : St} : Ends E fn 0 y [] st = aend (resV E fn st) st.b y := by
  rw [ends_plain]
  unfold aend
  cases resV E fn st <;> simp
theorem aend_some {v y : AV} {bl : Nat → Blk} : aend (some v) bl y = ((cvA (fun _ => none) bl false v).1 = y) := rfl

theorem mkS_app (l : List (Nat × AV)) (i : Nat) : mkS l i = upds (fun _ => .un) l i := _root_.id rfl
theorem mkB_app (l : Kept) (i : Nat) : mkB l i = upds (fun _ => .free) (l.map fun p => (p.1, p.2.2)) i := _root_.id rfl
theorem blkOf_nil (i : Nat) : blkOf [] i = .free := by simp [blkOf]
theorem wrap_in {n : Int} (h1 : -9223372036854775808 ≤ n) (h2 : n ≤ 9223372036854775807) : IntKind.i64.wrap n = n := by rw [IntKind.wrap_i64]; omega
def upTo : Nat → Nat → List Nat
  | _, 0 => []
  | k, n + 1 => k :: upTo (k + 1) n
theorem range_upTo (n : Nat) : List.range n = upTo 0 n := by
  rw [List.range_eq_range']
  generalize 0 = k
  induction n generalizing k with
  | zero => rfl
  | succ n ih => rw [List.range'_succ, ih, upTo]
theorem fwdR_nil (n : Nat) : fwdR [] n = none := by simp [fwdR]
theorem KeptOk.nil {bl : Nat → Blk} : KeptOk 0 bl [] := ⟨by simp, by simp, by simp, by simp⟩
attribute [simp ↓] areg_nil areg_cons areg_guard aop_call aop_builtin aop_move aop_assign aop_nilCheck aop_pick aop_alloc aop_box aop_build aop_buildSlice aop_load aop_store aop_binOp aop_unOp aop_convert aop_makeFunc aop_makeSlice aop_slice aop_fieldAddr aop_field aop_indexAddr aop_index aop_extract aop_range aop_next acode_skip acode_region2 acode_seq acode_cond acode_block acode_exit acode_ret acode_loopT aprim_eff ends_aend
attribute [simp] gslot fwdR_nil upTo range_upTo mkS_app mkB_app blkOf_nil begin KeptOk.nil agrd_true agrd_false agrd_sk aeff_pure aeff_some aval_cloT acnd_true acnd_false acnd_bool upd_app restr_app aend_some callArgs callFrz callBlks callRes
attribute [simp] updO upds evG constAV effF touchF pureE newE loadE storeE fieldAddrE fieldE indexAddrE indexE intE strE cellEq cellsEq binE unE intOfA optInt sliceE lenE listD appendE fillE chunks buildE buildSliceE convE makeSliceE rangeE nextE builtinE AV.names namesOf AV.cells AV.isCell AV.good toD toDs frzW partAt' splice TK.agg resAll resOf resV cvA cvAs cvB Blk.frzd St.put
attribute [irreducible] ALoopT acallT
end Go.Ab
