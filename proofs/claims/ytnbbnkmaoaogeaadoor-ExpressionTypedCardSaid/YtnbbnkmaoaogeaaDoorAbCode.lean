/- Code in the abstract: regions, branches, blocks, loops, functions. -/
import Derived.Test.YtnbbnkmaoaogeaaDoorAbRegion
set_option linter.all false
namespace Go.Ab

abbrev LogE := List Nat × List Nat

/-- What an operation that is no call of a Go function leaves. -/
def aprim (E : Env) (o : Oper) (st : St) (K : St → List Nat → List Nat → Prop) : Prop :=
  match effF E.P (evG E.G st.s) o (restr (touchF (evG E.G st.s) o) st.b) with
  | some (v, wr) => wr.all (fun p => (touchF (evG E.G st.s) o).contains p.1) = true ∧ K (st.put o.dst v wr) (touchF (evG E.G st.s) o) (wr.map (·.1))
  | none => False
/-- A call: the blocks ks are handed over. -/
def acall (E : Env) (f : FuncId) (args : List AV) (dst : Option Tmp) (st : St) (K : St → List Nat → List Nat → Prop) : Prop :=
  ∃ ks d y B', (dst = some d ∨ B'.length = ks.length) ∧ CallOk E f args st.b ks d y B' ∧
    K (st.put dst (callRes ks d y) (frzW st.b (callFrz ks st.b args) ++ callOut ks d B'))
      (callFrz ks st.b args ++ ks ++ (callOut ks d B').map (·.1)) (callFrz ks st.b args ++ (callOut ks d B').map (·.1))
def aop (E : Env) (o : Oper) (st : St) (K : St → List Nat → List Nat → Prop) : Prop :=
  match o.op with
  | .call { callee := .value fo, args, .. } => match evG E.G st.s fo with
    | .clo f caps => acall E f (args.toList.map (evG E.G st.s) ++ caps) o.dst st K
    | _ => False
  | _ => aprim E o st K

theorem frzW_names (bl : Nat → Blk) (l : List Nat) : (frzW bl l).map (·.1) = l := by simp [frzW, List.map_map, Function.comp_def]

theorem aprim_step {E : Env} {ops : Array Oper} {o : Oper} {st : St} {K : St → List Nat → List Nat → Prop} (hw : wantedA ops o st.s = some true) (h : aprim E o st K) : ∃ st' t wn, Step E ops o st st' t wn ∧ K st' t wn := by
  unfold aprim at h
  split at h
  · rename_i v wr he
    refine ⟨_, _, _, .inl ⟨hw, v, wr, .inl he, fun p hp => ?_, rfl, rfl⟩, h.2⟩
    have := h.1
    rw [List.all_eq_true] at this
    simpa using this p hp
  · exact h.elim

mutual
theorem cvA_restr {r : Nat → Option Nat} {bl : Nat → Blk} {kn : Bool} {t : List Nat} : ∀ (c : AV), (∀ k ∈ (cvA r bl kn c).2, k ∈ t) → cvA r (restr t bl) kn c = cvA r bl kn c
  | .d _, _ => rfl
  | .un, _ => rfl
  | .sk, _ => rfl
  | .nils, _ => rfl
  | .dp _, _ => rfl
  | .ptr n i j, _ => rfl
  | .ref n lo len sz, h => by
    simp only [cvA] at *
    split
    · rfl
    · rename_i hr
      simp only [hr] at h
      cases ht : toD bl (.ref n lo len sz) with
      | none =>
        have : toD (restr t bl) (.ref n lo len sz) = none := by
          simp only [toD] at *
          unfold restr
          split
          · rename_i e s xs f hb
            split at hb
            · simp only [hb] at ht; exact ht
            · cases hb
          · rfl
        rw [this]
      | some p =>
        obtain ⟨x, l⟩ := p
        rw [ht] at h
        have hl : l = [n] := by
          simp only [toD] at ht
          split at ht
          · split at ht <;> simp only [Option.some.injEq, Prod.mk.injEq, reduceCtorEq] at ht
            exact ht.2.symm
          · cases ht
        have hn : n ∈ t := h n (by rw [hl]; simp)
        have : toD (restr t bl) (.ref n lo len sz) = toD bl (.ref n lo len sz) := by simp [toD, restr, hn]
        rw [this, ht]
  | .agg cs, h => by simp only [cvA] at *; rw [cvAs_restr cs h]
  | .tup cs, h => by simp only [cvA] at *; rw [cvAs_restr cs h]
  | .clo f cs, h => by simp only [cvA] at *; rw [cvAs_restr cs h]
theorem cvAs_restr {r : Nat → Option Nat} {bl : Nat → Blk} {kn : Bool} {t : List Nat} : ∀ (cs : List AV), (∀ k ∈ (cvAs r bl kn cs).2, k ∈ t) → cvAs r (restr t bl) kn cs = cvAs r bl kn cs
  | [], _ => rfl
  | c :: cs, h => by
    simp only [cvAs] at *
    rw [cvA_restr c fun k hk => h k (List.mem_append_left _ hk), cvAs_restr cs fun k hk => h k (List.mem_append_right _ hk)]
end

theorem acall_step {E : Env} {ops : Array Oper} {o : Oper} {st : St} {K : St → List Nat → List Nat → Prop} {c : Call} {fo : Operand} {f : FuncId} {caps : List AV} (hop : o.op = .call c) (hcal : c.callee = .value fo) (hfo : evG E.G st.s fo = .clo f caps)
    (hw : wantedA ops o st.s = some true) (h : acall E f (c.args.toList.map (evG E.G st.s) ++ caps) o.dst st K) : ∃ st' t wn, Step E ops o st st' t wn ∧ K st' t wn := by
  obtain ⟨ks, d, y, B', hdst, ok, hK⟩ := h
  generalize hargs : c.args.toList.map (evG E.G st.s) ++ caps = args at ok hK
  generalize ht : callFrz ks st.b args ++ ks ++ (callOut ks d B').map (·.1) = t at hK
  have hfr : ∀ k ∈ callFrz ks st.b args, k ∈ t := fun k hk => by rw [← ht]; exact List.mem_append_left _ (List.mem_append_left _ hk)
  have hks : ∀ k ∈ ks, k ∈ t := fun k hk => by rw [← ht]; exact List.mem_append_left _ (List.mem_append_right _ hk)
  have hout : ∀ k ∈ (callOut ks d B').map (·.1), k ∈ t := fun k hk => by rw [← ht]; exact List.mem_append_right _ hk
  have e1 : callArgs ks (restr t st.b) args = callArgs ks st.b args := cvAs_restr _ fun k hk => hfr k (List.mem_append_left _ hk)
  have e2 : callBlks ks (restr t st.b) = callBlks ks st.b := by
    unfold callBlks
    apply List.map_congr_left
    intro n hn
    have hb : restr t st.b n = st.b n := by simp [restr, hks n hn]
    rw [hb]
    cases hbn : st.b n <;> simp only [cvB]
    rename_i cells
    rw [cvAs_restr cells fun k hk => hfr k (List.mem_append_right _ (by
      simp only [callBlks, List.mem_flatMap, List.mem_map]
      exact ⟨_, ⟨n, hn, rfl⟩, by rw [hbn]; exact hk⟩))]
  have e3 : callFrz ks (restr t st.b) args = callFrz ks st.b args := by unfold callFrz; rw [e1, e2]
  have e4 : frzW (restr t st.b) (callFrz ks (restr t st.b) args) = frzW st.b (callFrz ks st.b args) := by rw [e3]; exact frzW_restr hfr
  have ok' : CallOk E f args (restr t st.b) ks d y B' := ⟨ok.nodup, fun n hn => by rw [show restr t st.b n = st.b n from by simp [restr, hks n hn]]; exact ok.live n hn, ok.len, fun j hj => by
    have : newName d j ∈ t := hout _ (by
      unfold callOut
      simp only [List.map_map, List.mem_map, List.mem_range]
      refine ⟨ks.length + j, by omega, ?_⟩
      simp only [Function.comp_apply, nameBack]
      rw [if_neg (by omega)]; congr 1; omega)
    rw [show restr t st.b (newName d j) = st.b (newName d j) from by simp [restr, this]]
    exact ok.free j hj, ok.low, by rw [e1, e2]; exact ok.cf⟩
  refine ⟨_, t, _, .inl ⟨hw, callRes ks d y, frzW st.b (callFrz ks st.b args) ++ callOut ks d B', .inr ⟨c, fo, f, caps, ks, d, y, B', hop, hcal, hfo, hdst, by rw [hargs]; exact ok', rfl, by rw [hargs, e4]⟩, fun p hp => ?_, rfl, rfl⟩, ?_⟩
  · rcases List.mem_append.1 hp with hp | hp
    · exact hfr _ (by rw [← frzW_names st.b (callFrz ks st.b args)]; exact List.mem_map.2 ⟨p, hp, rfl⟩)
    · exact hout _ (List.mem_map.2 ⟨p, hp, rfl⟩)
  · rw [List.map_append, frzW_names]; exact hK

theorem aop_step {E : Env} {ops : Array Oper} {o : Oper} {st : St} {K : St → List Nat → List Nat → Prop} (hw : wantedA ops o st.s = some true) (h : aop E o st K) : ∃ st' t wn, Step E ops o st st' t wn ∧ K st' t wn := by
  unfold aop at h
  split at h
  · rename_i fo args types hop
    split at h
    · rename_i f caps hfo
      exact acall_step hop rfl hfo hw h
    · exact h.elim
  · exact aprim_step hw h

/-- A region's operations, in the text's order. -/
def areg (E : Env) (ops : Array Oper) : List Oper → St → List LogE → (St → List LogE → Prop) → Prop
  | [], st, lg, K => K st lg
  | o :: rest, st, lg, K => match wantedA ops o st.s with
    | some b => (b = true → aop E o st fun st' t wn => areg E ops rest st' (lg ++ [(t, wn)]) K) ∧ (b = false → areg E ops rest (st.put o.dst .sk []) (lg ++ [([], [])]) K)
    | none => False

theorem areg_path {E : Env} {ops : Array Oper} : ∀ (rest : List Oper) (st : St) (lg : List LogE) (K : St → List LogE → Prop), areg E ops rest st lg K → (∀ i, rest[i]? = ops[lg.length + i]?) →
    ∃ s' ext, ext.length = rest.length ∧ K s' (lg ++ ext) ∧ ∀ inf : Nat → LogE, (∀ i e, ext[i]? = some e → inf (lg.length + i) = e) → Path E ops inf (List.range' lg.length rest.length) st s'
  | [], st, lg, K, h, _ => ⟨st, [], rfl, by simpa [areg] using h, fun inf _ => rfl⟩
  | o :: rest, st, lg, K, h, hidx => by
    have ho : ops[lg.length]? = some o := by simpa using (hidx 0).symm
    have hidx' : ∀ e i, rest[i]? = ops[(lg ++ [e]).length + i]? := fun e i => by
      have := hidx (i + 1)
      simp only [List.getElem?_cons_succ] at this
      rw [this]; congr 1; simp; omega
    have fin : ∀ (s1 : St) (t wn : List Nat), Step E ops o st s1 t wn → areg E ops rest s1 (lg ++ [(t, wn)]) K →
        ∃ s' ext, ext.length = (o :: rest).length ∧ K s' (lg ++ ext) ∧ ∀ inf : Nat → LogE, (∀ i e, ext[i]? = some e → inf (lg.length + i) = e) → Path E ops inf (List.range' lg.length (o :: rest).length) st s' := by
      intro s1 t wn hs hr
      obtain ⟨s', ext, h1, h2, h3⟩ := areg_path rest s1 _ K hr (hidx' _)
      refine ⟨s', (t, wn) :: ext, by simp [h1], by simpa using h2, fun inf hinf => ?_⟩
      simp only [List.length_cons, List.range'_succ]
      have h0 := hinf 0 (t, wn) rfl
      simp only [Nat.add_zero] at h0
      refine ⟨o, s1, ho, by rw [h0]; exact hs, ?_⟩
      have := h3 inf fun i e he => by
        have := hinf (i + 1) e (by simpa using he)
        rw [← this]; congr 1; simp; omega
      simpa using this
    simp only [areg] at h
    split at h
    · rename_i b hb
      cases b with
      | true =>
        obtain ⟨st', t, wn, hs, hr⟩ := aop_step hb (h.1 rfl)
        exact fin st' t wn hs hr
      | false => exact fin _ [] [] (.inr ⟨hb, rfl, rfl, rfl⟩) (h.2 rfl)
    · exact h.elim

def disjB (l l' : List Nat) : Bool := l.all fun n => !l'.contains n
theorem disjB_spec {l l' : List Nat} (h : disjB l l' = true) : disj l l' := fun n hn => by
  unfold disjB at h
  rw [List.all_eq_true] at h
  simpa using h n hn

/-- For each operation, those before it that it is not tied to: they do not meet. -/
def drawOk (ops : Array Oper) (ms : List Nat) (lg : List LogE) : List (Nat × Oper) → Bool
  | [] => true
  | (j, y) :: rest => (ops.toList.zipIdx.take j).all (fun (x, i) => (ms.getD j 0).testBit i || (x.apart ops y && disjB (lg.getD i ([], [])).2 (lg.getD j ([], [])).1 && disjB (lg.getD j ([], [])).2 (lg.getD i ([], [])).1)) && drawOk ops ms lg rest
def regOk (N : Nat) (draw : Bool) (ops : Array Oper) (lg : List LogE) : Bool :=
  ops.toList.all (fun o => match o.dst with | some d => decide (d < N) | none => true) &&
  (!draw || (edgesOk ops.toList && drawOk ops (masks ops.toList) lg (ops.toList.zipIdx.map fun (o, i) => (i, o))))

theorem drawOk_spec {ops : Array Oper} {ms : List Nat} {lg : List LogE} : ∀ (l : List (Nat × Oper)), drawOk ops ms lg l = true → ∀ j y, (j, y) ∈ l → ∀ i x, i < j → ops[i]? = some x →
    (ms.getD j 0).testBit i = true ∨ (x.apart ops y = true ∧ disj (lg.getD i ([], [])).2 (lg.getD j ([], [])).1 ∧ disj (lg.getD j ([], [])).2 (lg.getD i ([], [])).1)
  | [], _, j, y, h => by cases h
  | (j', y') :: rest, h, j, y, hm => by
    simp only [drawOk, Bool.and_eq_true] at h
    rcases List.mem_cons.1 hm with e | hm
    · simp only [Prod.mk.injEq] at e
      obtain ⟨rfl, rfl⟩ := e
      intro i x hij hx
      have h1 := h.1
      rw [List.all_eq_true] at h1
      have := h1 (x, i) (List.mem_iff_getElem?.2 ⟨i, by rw [List.getElem?_take, if_pos hij, List.getElem?_zipIdx]; simp [hx]⟩)
      simp only [Bool.or_eq_true, Bool.and_eq_true] at this
      exact this.imp id fun h => ⟨h.1.1, disjB_spec h.1.2, disjB_spec h.2⟩
    · exact drawOk_spec rest h.2 j y hm

/-- How a piece of code is left. -/
inductive AExit where
  | normal
  | exit (id : Nat)
  | ret
def AExit.to : AExit → Exit
  | .normal => .normal
  | .exit id => .exit id
  | .ret => .ret

/-- The code, begun in any frame and world that stand for st, is left as Q says. -/
def Awp (E : Env) (N nb : Nat) (c : Code) (st : St) (Q : AExit → St → Prop) : Prop :=
  ∀ (C : Ctx), C.P = E.P → C.G = E.G → ∀ a w, Inv C N nb st a w → ∀ R : Exit → Act → World → Prop, (∀ e st' a' w', Q e st' → Inv C N nb st' a' w' → R e.to a' w') → c.wp E.P R a w

theorem Inv.drew {C : Ctx} {N nb : Nat} {st : St} {a : Act} {w : World} (h : Inv C N nb st a w) : Inv C N nb st a w.drew :=
  ⟨h.high, h.defers, h.size, let ⟨g, h1, h2⟩ := h.ex; ⟨g, h1, h2.drew⟩⟩

theorem path_ops {E : Env} {C : Ctx} (hP : C.P = E.P) (hG : C.G = E.G) {N nb : Nat} (hN : N ≤ firstName) {ops : Array Oper} (hd : ∀ (i : Nat) (o : Oper), ops[i]? = some o → ∀ d, o.dst = some d → d < N) {inf : Nat → LogE} {Q : Exit → Act → World → Prop} {s' : St}
    (hQ : ∀ a w, Inv C N nb s' a w → Q .normal a w) : ∀ (l : List Nat) (s : St) (a : Act) (w : World), Path E ops inf l s s' → Inv C N nb s a w → wpOps E.P ops Q l a w
  | [], s, a, w, hp, inv => by simp only [Path] at hp; subst hp; exact hQ a w inv
  | i :: l, s, a, w, hp, inv => by
    obtain ⟨o, s1, ho, hs, hp'⟩ := hp
    rw [wpOps_cons]
    exact step_sound hP hG hN ho (hd i o ho) inv hs fun a' w' inv' => path_ops hP hG hN hd hQ l s1 a' w' hp' inv'

theorem awp_region {E : Env} (hmix : E.P.follows .mixedOrders = true) {N nb : Nat} (hN : N ≤ firstName) {id : Nat} {ops : Array Oper} {draw : Bool} {st : St} {Q : AExit → St → Prop}
    (h : areg E ops ops.toList st [] fun st' lg => regOk N draw ops lg = true ∧ Q .normal st') : Awp E N nb (.region id ops draw) st Q := by
  intro C hP hG a w inv R hR
  obtain ⟨s', ext, hlen, ⟨hok, hQ⟩, hpath⟩ := areg_path _ _ _ _ h (fun i => by simp)
  simp only [List.nil_append] at hok
  have hp := hpath (fun i => ext.getD i ([], [])) (fun i e he => by simp [he])
  simp only [List.length_nil] at hp
  simp only [regOk, Bool.and_eq_true] at hok
  have hd : ∀ (i : Nat) (o : Oper), ops[i]? = some o → ∀ d, o.dst = some d → d < N := fun i o ho d hd => by
    have := hok.1
    rw [List.all_eq_true] at this
    have := this o (by simpa using Array.mem_of_getElem? ho)
    simpa [hd] using this
  have hQ' : ∀ a w, Inv C N nb s' a w → R .normal a w := fun a w inv => hR .normal s' a w hQ inv
  cases draw with
  | false =>
    refine wp_region ?_
    have hl : (ops.toList.length) = ops.size := by simp
    rw [hl] at hp
    rw [List.range_eq_range']
    exact path_ops hP hG hN hd hQ' _ st a w hp inv
  | true =>
    simp only [Bool.not_true, Bool.false_or, Bool.and_eq_true] at hok
    refine wp_region_any hmix ?_
    have hfree : ∀ i j, i < j → j < ops.size → ((masks ops.toList).getD j 0).testBit i = true ∨ Free ops (fun i => ext.getD i ([], [])) i j := fun i j hij hj => by
      have hy : ops[j]? = some ops[j] := by simp [hj]
      have hx : ops[i]? = some ops[i] := by simp [show i < ops.size from by omega]
      have := drawOk_spec _ hok.2.2 j ops[j] (List.mem_map.2 ⟨(ops[j], j), List.mem_iff_getElem?.2 ⟨j, by simp [hj]⟩, rfl⟩) i ops[i] hij hx
      refine this.imp (fun e => e) fun h x y ex ey => ?_
      rw [hx] at ex; rw [hy] at ey
      cases ex; cases ey
      exact h
    have hin : ∀ i, (Array.replicate ops.size false).getD i true = false ↔ i < ops.size := fun i => by
      by_cases h : i < ops.size <;> simp [h]
    exact any_sound hP hG hN hd hok.2.1 hfree hQ' ops.size (List.range' 0 ops.toList.length) _ st a _ (List.pairwise_lt_range' ..) (fun i => by
      rw [hin i]; simp) (by simp) (fun i k hi hli => by
      have := (hin i).2 hi
      rw [this] at hli; cases hli) (by simp) hp inv.drew

theorem Inv.slot {C : Ctx} {N nb : Nat} {st : St} {a : Act} {w : World} (inv : Inv C N nb st a w) {x : Operand} {b : Bool} (h : evG C.G st.s x = .d (.bool b)) : a.eval x = .bool b := by
  obtain ⟨_, _, _, g, hs, m⟩ := inv
  have := eval_rep m hs x
  rw [h] at this
  simpa [RepA, RepD] using this

/-- A loop is left to a law of its own. -/
def ALoop (E : Env) (N nb : Nat) (c : Code) (st : St) (Q : AExit → St → Prop) : Prop := Awp E N nb (.loop c) st Q

def acode (E : Env) (N nb : Nat) : Code → St → (AExit → St → Prop) → Prop
  | .skip, st, Q => Q .normal st
  | .region _ ops draw, st, Q => areg E ops ops.toList st [] fun st' lg => regOk N draw ops lg = true ∧ Q .normal st'
  | .seq x y, st, Q => acode E N nb x st fun e st' => match e with
    | .normal => acode E N nb y st' Q
    | e => Q e st'
  | .cond c x y, st, Q => match evG E.G st.s c with
    | .d (.bool b) => (b = true → acode E N nb x st Q) ∧ (b = false → acode E N nb y st Q)
    | _ => False
  | .block id c, st, Q => acode E N nb c st fun e st' => match e with
    | .exit id' => if id' = id then Q .normal st' else Q (.exit id') st'
    | e => Q e st'
  | .exit id, st, Q => Q (.exit id) st
  | .ret, st, Q => Q .ret st
  | .loop c, st, Q => ALoop E N nb c st Q
  | _, _, _ => False

theorem acode_sound {E : Env} (hmix : E.P.follows .mixedOrders = true) {N nb : Nat} (hN : N ≤ firstName) : ∀ (c : Code) (st : St) (Q : AExit → St → Prop), acode E N nb c st Q → Awp E N nb c st Q
  | .skip, st, Q, h => fun C hP hG a w inv R hR => wp_skip (hR .normal st a w h inv)
  | .region id ops draw, st, Q, h => awp_region hmix hN h
  | .seq x y, st, Q, h => fun C hP hG a w inv R hR => wp_seq (acode_sound hmix hN x st _ h C hP hG a w inv _ fun e st' a' w' hq inv' => by
      cases e with
      | normal => exact acode_sound hmix hN y st' Q hq C hP hG a' w' inv' R hR
      | exit id => exact hR _ st' a' w' hq inv'
      | ret => exact hR _ st' a' w' hq inv')
  | .cond c x y, st, Q, h => fun C hP hG a w inv R hR => by
      simp only [acode] at h
      split at h
      · rename_i b hb
        have hv := inv.slot (x := c) (by rw [hG]; exact hb)
        cases b with
        | true => exact wp_cond_true hv (acode_sound hmix hN x st Q (h.1 rfl) C hP hG a w inv R hR)
        | false => exact wp_cond_false hv (acode_sound hmix hN y st Q (h.2 rfl) C hP hG a w inv R hR)
      · exact h.elim
  | .block id c, st, Q, h => fun C hP hG a w inv R hR => wp_block (acode_sound hmix hN c st _ h C hP hG a w inv _ fun e st' a' w' hq inv' => by
      cases e with
      | normal => exact hR _ st' a' w' hq inv'
      | exit id' =>
        simp only at hq
        simp only [AExit.to, Exit.inBlock]
        split at hq
        · rename_i e; rw [if_pos e]; exact hR .normal st' a' w' hq inv'
        · rename_i e; rw [if_neg e]; exact hR (.exit id') st' a' w' hq inv'
      | ret => exact hR _ st' a' w' hq inv')
  | .exit id, st, Q, h => fun C hP hG a w inv R hR => wp_exit (hR (.exit id) st a w h inv)
  | .ret, st, Q, h => fun C hP hG a w inv R hR => wp_ret (hR .ret st a w h inv)
  | .loop c, st, Q, h => h
  | .rangeFunc .., st, Q, h => by simp [acode] at h
  | .scope .., st, Q, h => by simp [acode] at h
  | .label .., st, Q, h => by simp [acode] at h
  | .goto .., st, Q, h => by simp [acode] at h
  | .refuse .., st, Q, h => by simp [acode] at h

/-- Less is said: whatever stands for st stands for st2. -/
def Sub (E : Env) (N nb : Nat) (st st2 : St) : Prop := ∀ (C : Ctx), C.P = E.P → C.G = E.G → ∀ a w, Inv C N nb st a w → Inv C N nb st2 a w
theorem Sub.refl (E : Env) (N nb : Nat) (st : St) : Sub E N nb st st := fun _ _ _ _ _ h => h
theorem Sub.trans {E : Env} {N nb : Nat} {a b c : St} (x : Sub E N nb a b) (y : Sub E N nb b c) : Sub E N nb a c := fun C hP hG f w h => y C hP hG f w (x C hP hG f w h)
theorem Awp.sub {E : Env} {N nb : Nat} {c : Code} {st st2 : St} {Q : AExit → St → Prop} (h : Sub E N nb st st2) (hw : Awp E N nb c st2 Q) : Awp E N nb c st Q :=
  fun C hP hG a w inv R hR => hw C hP hG a w (h C hP hG a w inv) R hR

/-- THE LAW OF A LOOP: a family of states, one of which stands at each round's head. -/
theorem aloop {E : Env} (hmix : E.P.follows .mixedOrders = true) {N nb : Nat} (hN : N ≤ firstName) {c : Code} {st : St} {Q : AExit → St → Prop} {ι : Type} (F : ι → St) (meas : ι → Nat) (i0 : ι) (h0 : Sub E N nb st (F i0))
    (round : ∀ i, acode E N nb c (F i) fun e st' => match e with
      | .normal => ∃ i', Sub E N nb st' (F i') ∧ meas i' < meas i
      | e => Q e st') : ALoop E N nb c st Q := by
  intro C hP hG a w inv R hR b k cs
  have key : ∀ n i a w, meas i = n → Inv C N nb (F i) a w → ∃ e a' w', R e a' w' ∧ Arrives E.P (lone (b.at a (.code c :: .inLoop c :: k)) cs w) b k cs e a' w' := by
    intro n
    induction n using Nat.strongRecOn with
    | _ n ih =>
      intro i a w hn inv
      obtain ⟨e, a₁, w₁, hq, harr⟩ := acode_sound hmix hN c (F i) _ (round i) C hP hG a w inv (fun e a' w' => match e with
        | .normal => ∃ i', Inv C N nb (F i') a' w' ∧ meas i' < meas i
        | e => R e a' w') (fun e st' a' w' hq inv' => by
          cases e with
          | normal =>
            obtain ⟨i', hs, hm⟩ := hq
            exact ⟨i', hs C hP hG a' w' inv', hm⟩
          | exit id => exact hR _ st' a' w' hq inv'
          | ret => exact hR _ st' a' w' hq inv') b (.inLoop c :: k) cs
      cases e with
      | normal =>
        obtain ⟨i', inv', hm⟩ := hq
        obtain ⟨e₂, a₂, w₂, hq₂, harr₂⟩ := ih (meas i') (hn ▸ hm) i' a₁ w₁ rfl inv'
        exact ⟨e₂, a₂, w₂, hq₂, .of_steps (Steps.trans harr (.one step_inLoop)) harr₂⟩
      | exit id => exact ⟨_, a₁, w₁, hq, .pass (x := .inLoop c) rfl (fun _ _ => .inl (by simp)) harr⟩
      | goto l => exact ⟨_, a₁, w₁, hq, .pass (x := .inLoop c) rfl (fun _ _ => .inl (by simp)) harr⟩
      | ret => exact ⟨_, a₁, w₁, hq, .pass (x := .inLoop c) rfl (fun _ _ => .inl (by simp)) harr⟩
      | panic ch => exact ⟨_, a₁, w₁, hq, .pass (x := .inLoop c) rfl (fun _ _ => .inl (by simp)) harr⟩
      | outgrown => exact ⟨_, a₁, w₁, hq, .pass (x := .inLoop c) rfl (fun _ _ => .inl (by simp)) harr⟩
  obtain ⟨e, a', w', hq, harr⟩ := key _ i0 a w rfl (h0 C hP hG a w inv)
  exact ⟨e, a', w', hq, .of_steps (.one step_loop) harr⟩
end Go.Ab
