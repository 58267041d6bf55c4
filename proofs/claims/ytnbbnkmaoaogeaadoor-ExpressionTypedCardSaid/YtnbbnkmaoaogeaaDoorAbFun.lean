/- Less is said of a state; a function's contract. -/
import Derived.Test.YtnbbnkmaoaogeaaDoorAbCode
set_option linter.all false
namespace Go.Ab

/-- Blocks that are kept: (the new name, the old name, what it holds). -/
abbrev Kept := List (Nat × Nat × Blk)
def renOf : Kept → Nat → Option Nat
  | [], _ => none
  | (m, n, _) :: r, k => if k = n then some m else renOf r k
def oldOf : Kept → Nat → Option Nat
  | [], _ => none
  | (m, n, _) :: r, k => if k = m then some n else oldOf r k
def mkB (l : Kept) : Nat → Blk := upds (fun _ => .free) (l.map fun p => (p.1, p.2.2))
def mkS (l : List (Nat × AV)) : Nat → AV := upds (fun _ => .un) l

theorem upds_mem {α : Type} {f : Nat → α} : ∀ (l : List (Nat × α)) (i : Nat), ((∀ p ∈ l, p.1 ≠ i) ∧ upds f l i = f i) ∨ ∃ p ∈ l, p.1 = i ∧ upds f l i = p.2 := by
  intro l
  induction l generalizing f with
  | nil => exact fun i => .inl ⟨(fun p hp => by cases hp), rfl⟩
  | cons p l ih =>
    intro i
    rcases ih (f := upd f p.1 p.2) i with ⟨h1, h2⟩ | ⟨q, hq, h1, h2⟩
    · by_cases e : i = p.1
      · exact .inr ⟨p, List.mem_cons_self, e.symm, by show upds (upd f p.1 p.2) l i = _; rw [h2]; simp [upd, e]⟩
      · refine .inl ⟨fun q hq => ?_, by show upds (upd f p.1 p.2) l i = _; rw [h2]; simp [upd, e]⟩
        rcases List.mem_cons.1 hq with rfl | hq
        · exact fun e' => e e'.symm
        · exact h1 q hq
    · exact .inr ⟨q, List.mem_cons_of_mem _ hq, h1, h2⟩

theorem renOf_some : ∀ {l : Kept} {n m : Nat}, renOf l n = some m → ∃ b, (m, n, b) ∈ l
  | [], _, _, h => by cases h
  | (m', n', b) :: r, n, m, h => by
    simp only [renOf] at h
    split at h
    · rename_i e; cases h; subst e; exact ⟨b, List.mem_cons_self⟩
    · obtain ⟨b', hb⟩ := renOf_some h; exact ⟨b', List.mem_cons_of_mem _ hb⟩
theorem renOf_mem : ∀ {l : Kept} {m n : Nat} {b : Blk}, (l.map fun p => p.2.1).Nodup → (m, n, b) ∈ l → renOf l n = some m
  | [], _, _, _, _, h => by cases h
  | (m', n', b') :: r, m, n, b, hn, h => by
    simp only [List.map_cons, List.nodup_cons] at hn
    simp only [renOf]
    rcases List.mem_cons.1 h with e | h2
    · cases e; simp
    · rw [if_neg, renOf_mem hn.2 h2]
      rintro rfl
      exact hn.1 (List.mem_map.2 ⟨(m, n, b), h2, rfl⟩)
theorem oldOf_mem : ∀ {l : Kept} {m n : Nat} {b : Blk}, (l.map fun p => p.1).Nodup → (m, n, b) ∈ l → oldOf l m = some n
  | [], _, _, _, _, h => by cases h
  | (m', n', b') :: r, m, n, b, hn, h => by
    simp only [List.map_cons, List.nodup_cons] at hn
    simp only [oldOf]
    rcases List.mem_cons.1 h with e | h2
    · cases e; simp
    · rw [if_neg, oldOf_mem hn.2 h2]
      rintro rfl
      exact hn.1 (List.mem_map.2 ⟨(m, n, b), h2, rfl⟩)
theorem oldOf_some : ∀ {l : Kept} {n m : Nat}, oldOf l m = some n → ∃ b, (m, n, b) ∈ l
  | [], _, _, h => by cases h
  | (m', n', b) :: r, n, m, h => by
    simp only [oldOf] at h
    split at h
    · rename_i e; cases h; subst e; exact ⟨b, List.mem_cons_self⟩
    · obtain ⟨b', hb⟩ := oldOf_some h; exact ⟨b', List.mem_cons_of_mem _ hb⟩

/-- The kept blocks are what they were, under their new names. -/
structure KeptOk (nb : Nat) (bl : Nat → Blk) (l : Kept) : Prop where
  new : (l.map fun p => p.1).Nodup
  old : (l.map fun p => p.2.1).Nodup
  cont : ∀ p ∈ l, ((bl p.2.1).live = true ∨ bl p.2.1 = .dead) ∧ (cvB (renOf l) bl true (bl p.2.1)).1 = p.2.2
  base : ∀ j, j < nb → ∃ p ∈ l, p.1 = firstName + j ∧ p.2.1 = firstName + j

theorem weaken {C : Ctx} {nb : Nat} (high : ∀ n l, firstName ≤ n → C.h0.L n = some l → n < firstName + nb) {bl : Nat → Blk} {w : World} {h : Gh} (m : Mem C bl w h) {l : Kept} (ok : KeptOk nb bl l) (fr : List Nat)
    (hfr : ∀ n ∈ fr, renOf l n = none ∧ ∃ e s xs f, bl n = .arr e s xs f) (hl : ∀ p ∈ l, ∀ k ∈ (cvB (renOf l) bl true (bl p.2.1)).2, k ∈ fr) :
    ∃ h', Mem C (mkB l) w h' ∧ ∀ (c : AV) (v : Value) (kn : Bool), (∀ k ∈ (cvA (renOf l) bl kn c).2, k ∈ fr) → RepA h v c → RepA h' v (cvA (renOf l) bl kn c).1 := by
  obtain ⟨h1, held, m1⟩ := hold_all fr bl h m fun n hn => (hfr n hn).2
  let h' : Gh := { μ := h1.μ, L := fun k => (oldOf l k).bind h.L }
  have hL : ∀ {k n b}, (k, n, b) ∈ l → h'.L k = h.L n := fun {k n b} hm => by
    simp only [h', oldOf_mem ok.new hm, Option.bind_some]
  have ren : Ren h h' (renOf l) := ⟨held.le, fun n k loc hk hloc => by
    obtain ⟨b, hm⟩ := renOf_some hk
    rw [hL hm]; exact hloc⟩
  have hview : ∀ k, mkB l k = .free ∧ h'.L k = none ∨ ∃ n b, (k, n, b) ∈ l ∧ mkB l k = b ∧ h'.L k = h.L n := fun k => by
    unfold mkB
    rcases upds_mem (f := fun _ => Blk.free) (l.map fun p => (p.1, p.2.2)) k with ⟨h1, h2⟩ | ⟨p, hp, h1, h2⟩
    · left
      refine ⟨h2, ?_⟩
      cases e : oldOf l k with
      | none => simp [h', e]
      | some n =>
        obtain ⟨b, hm⟩ := oldOf_some e
        exact absurd rfl (h1 (k, b) (List.mem_map.2 ⟨_, hm, rfl⟩))
    · right
      obtain ⟨⟨k', n, b⟩, hm, rfl⟩ := List.mem_map.1 hp
      simp only at h1 h2
      subst h1
      exact ⟨n, b, hm, h2, hL hm⟩
  have livecv : ∀ (r : Nat → Option Nat) (bb : Nat → Blk) (kn : Bool) (b : Blk), (cvB r bb kn b).1.live = b.live := fun r bb kn b => by cases b <;> rfl
  have hlive : ∀ {k n b}, (k, n, b) ∈ l → b.live = true → (bl n).live = true := fun {k n b} hm hb => by
    have := (ok.cont _ hm).2
    simp only at this
    rw [← this, livecv] at hb; exact hb
  refine ⟨h', ⟨fun k => ?_, m1.con, m1.glob, ?_, ?_, m.size, m.frame, m1.mext, m1.mold, ?_, m.os, m.tape, m.output⟩, fun c v kn hc hr => cvA_rep (fun n _ => m.blks n) ren held.els c v hc hr⟩
  · rcases hview k with ⟨e1, e2⟩ | ⟨n, b, hm, e1, e2⟩
    · rw [e1]; exact e2
    · rw [e1]
      obtain ⟨hc1, hc2⟩ := ok.cont _ hm
      simp only at hc1 hc2
      rw [← hc2]
      rcases hc1 with hlv | hd
      · have hrn := renOf_mem ok.old hm
        refine cvB_rep (fun n _ => m.blks n) ren held.els hrn hlv (m.blks n) (hl _ hm) (fun _ _ _ => rfl) (fun loc a1 a2 o v a3 => ?_)
        have : h'.μ loc.blk o = h.μ loc.blk o := held.other loc.blk (fun q hq l2 e4 e5 => by
          obtain ⟨b1, e', s', xs', f', b2⟩ := hfr q hq
          have hqn : q ≠ n := fun e => by subst e; rw [hrn] at b1; cases b1
          exact (m.apart q n l2 loc hqn (by rw [b2]; rfl) hlv e4 a1 e5 a2).symm) o
        rw [this] at a3; exact a3
      · rw [hd]
        have := m.blks n
        rw [hd] at this
        obtain ⟨loc, hloc⟩ := this
        exact ⟨loc, by rw [e2]; exact hloc⟩
  · intro i j l1 l2 hij a1 a2 a3 a4 a5 a6
    rcases hview i with ⟨e1, e2⟩ | ⟨n, b, hm, e1, e2⟩
    · rw [e1] at a1; cases a1
    · rcases hview j with ⟨f1, f2⟩ | ⟨n', b', hm', f1, f2⟩
      · rw [f1] at a2; cases a2
      · rw [e1] at a1
        rw [f1] at a2
        rw [e2] at a3
        rw [f2] at a4
        have hnn : n ≠ n' := fun e => by
          subst e
          have := renOf_mem ok.old hm
          rw [renOf_mem ok.old hm'] at this
          cases this; exact hij rfl
        exact m.apart n n' l1 l2 hnn (hlive hm a1) (hlive hm' a2) a3 a4 a5 a6
  · intro i l1 a1 a2 a3
    rcases hview i with ⟨e1, e2⟩ | ⟨n, b, hm, e1, e2⟩
    · rw [e1] at a1; cases a1
    · rw [e1] at a1
      rw [e2] at a2
      exact m.own n l1 (hlive hm a1) a2 a3
  · intro n loc hn hloc
    obtain ⟨⟨k, n', b⟩, hm, e1, e2⟩ := ok.base (n - firstName) (by have := high n loc hn hloc; omega)
    simp only at e1 e2
    rw [show firstName + (n - firstName) = n from by omega] at e1 e2
    subst e1 e2
    rw [hL hm]
    exact m.lkeep n' loc hn hloc

/-- LESS IS SAID: the slots and blocks that are listed; slices over blocks that are not listed turn into data. -/
theorem sub_mk {E : Env} {N nb : Nat} {st : St} (slots : List (Nat × AV)) (l : Kept) (ok : KeptOk nb st.b l) (hs : ∀ p ∈ slots, (cvA (renOf l) st.b true (st.s p.1)).1 = p.2) :
    Sub E N nb st { s := mkS slots, b := mkB l } := by
  intro C hP hG a w inv
  obtain ⟨hhi, hdef, hsz, h, hsl, m⟩ := inv
  let fr := slots.flatMap (fun p => (cvA (renOf l) st.b true (st.s p.1)).2) ++ l.flatMap (fun p => (cvB (renOf l) st.b true (st.b p.2.1)).2)
  obtain ⟨h', m', hrep⟩ := weaken hhi m ok fr (fun n hn => by
    rcases List.mem_append.1 hn with hn | hn
    · obtain ⟨p, _, hp⟩ := List.mem_flatMap.1 hn
      exact cvA_arr _ n hp
    · obtain ⟨p, _, hp⟩ := List.mem_flatMap.1 hn
      cases hb : st.b p.2.1 <;> rw [hb] at hp <;> simp only [cvB] at hp <;> first | (cases hp; done) | skip
      exact cvAs_arr _ n hp) (fun p hp k hk => List.mem_append_right _ (List.mem_flatMap.2 ⟨p, hp, hk⟩))
  refine ⟨hhi, hdef, hsz, h', fun i => ?_, m'⟩
  unfold mkS
  rcases upds_mem (f := fun _ => AV.un) slots i with ⟨_, h2⟩ | ⟨p, hp, h1, h2⟩
  · simp only [h2, RepA]
  · simp only [h2]
    subst h1
    rw [← hs p hp]
    exact hrep _ _ true (fun k hk => List.mem_append_left _ (List.mem_flatMap.2 ⟨p, hp, hk⟩)) (hsl p.1)

/-- nil is a slice over a block of no elements. -/
theorem sub_nil {E : Env} {N nb : Nat} {st : St} {i m ety sz : Nat} (hi : st.s i = .nils) (hm : st.b m = .free) (hlow : m < firstName) (hsz : 0 < sz) :
    Sub E N nb st { s := upd st.s i (.ref m 0 0 sz), b := upd st.b m (.arr ety sz [] false) } := by
  intro C hP hG a w inv
  obtain ⟨hhi, hdef, hsz', h, hsl, mm⟩ := inv
  have hL : h.L m = none := by have := mm.blks m; rw [hm] at this; exact this
  have le := Gh.le_add (l := ⟨0, 0, sz, true⟩) hL
  have view : ∀ (k : Nat) (l : Loc), (h.add m ⟨0, 0, sz, true⟩).L k = some l → l.nul = false → k ≠ m ∧ h.L k = some l := fun k l e5 e6 => by
    by_cases ek : k = m
    · subst ek; simp only [Gh.add, if_true, Option.some.injEq] at e5; rw [← e5] at e6; cases e6
    · simp only [Gh.add, if_neg ek] at e5; exact ⟨ek, e5⟩
  refine ⟨hhi, hdef, hsz', h.add m ⟨0, 0, sz, true⟩, fun k => ?_, ⟨fun k => ?_, mm.con, mm.glob, ?_, ?_, mm.size, mm.frame, mm.mext, mm.mold, ?_, mm.os, mm.tape, mm.output⟩⟩
  · by_cases e : k = i
    · subst e
      have := hsl k
      rw [hi] at this
      simp only [upd, if_true, RepA] at this ⊢
      exact ⟨⟨0, 0, sz, true⟩, by simp [Gh.add], rfl, by simp [this]⟩
    · simp only [upd, if_neg e]
      exact RepA_mono le _ _ (hsl k)
  · by_cases ek : k = m
    · subst ek
      simp only [upd, if_true]
      exact ⟨⟨0, 0, sz, true⟩, by simp [Gh.add], rfl, hsz, by simp⟩
    · simp only [upd, if_neg ek]
      exact RepB_keep (mm.blks k) le (fun e0 => by simp [Gh.add, ek, e0]) (fun _ _ _ _ => rfl) (fun _ _ _ _ _ _ e => e)
  · intro i j l1 l2 hij a1 a2 a3 a4 a5 a6
    obtain ⟨b1, b2⟩ := view i l1 a3 a5
    obtain ⟨b3, b4⟩ := view j l2 a4 a6
    simp only [upd, if_neg b1] at a1
    simp only [upd, if_neg b3] at a2
    exact mm.apart i j l1 l2 hij a1 a2 b2 b4 a5 a6
  · intro i l1 a1 a3 a5
    obtain ⟨b1, b2⟩ := view i l1 a3 a5
    simp only [upd, if_neg b1] at a1
    exact mm.own i l1 a1 b2 a5
  · intro i l1 hi hl
    have : i ≠ m := by omega
    simp only [Gh.add, if_neg this]
    exact mm.lkeep i l1 hi hl

/-- What the function's results are, before they are made into what the caller sees. -/
def resOf (E : Env) (st : St) : ResultVar → Option AV
  | .tmp t => some (st.s t)
  | .cell a t => match tinf E.P t with
    | some ti => (loadE ti st.b (st.s a)).map (·.1)
    | none => none
def resAll (E : Env) (st : St) : List ResultVar → Option (List AV)
  | [] => some []
  | r :: rs => match resOf E st r, resAll E st rs with
    | some v, some vs => some (v :: vs)
    | _, _ => none
def resV (E : Env) (fn : Func) (st : St) : Option AV :=
  match resAll E st fn.results.toList with
  | some [v] => some v
  | some vs => some (.tup vs)
  | none => none

def begin (xs : List AV) (B : List Blk) : St := { s := fun i => (xs[i]?).getD .sk, b := blkOf B }
/-- The state at the end, as the caller sees it: l: the blocks that are handed back. -/
def Ends (E : Env) (fn : Func) (nb : Nat) (y : AV) (B' : List Blk) (st : St) : Prop :=
  ∃ v l, resV E fn st = some v ∧ KeptOk nb st.b l ∧ (l.map fun p => (p.1, p.2.2)) = (B'.zipIdx.map fun p => (firstName + p.2, p.1)) ∧ (cvA (renOf l) st.b false v).1 = y

theorem resAll_sound {E : Env} {C : Ctx} (hP : C.P = E.P) {st : St} {w : World} {h : Gh} (m : Mem C st.b w h) {tmps : Array Value} (hs : ∀ i, RepA h (tmps.getD i undef) (st.s i)) : ∀ (rs : List ResultVar) (vs : List AV), resAll E st rs = some vs →
    ∃ us : List Value, (rs.mapM fun r => (match r with | .tmp t => pure (tmps.getD t undef) | .cell a t => do loadVar t (← asAddr (tmps.getD a undef)) : Sem Value)).run E.P w = .ok us w ∧ RepAs h us vs
  | [], vs, he => by
    simp only [resAll, Option.some.injEq] at he
    subst he
    exact ⟨[], by simp, by simp [RepAs]⟩
  | r :: rs, vs, he => by
    simp only [resAll] at he
    split at he <;> simp only [Option.some.injEq, reduceCtorEq] at he
    rename_i v vs' h1 h2
    subst he
    obtain ⟨us, hus, hr⟩ := resAll_sound hP m hs rs vs' h2
    have one : ∃ u, ((match r with | .tmp t => pure (tmps.getD t undef) | .cell a t => do loadVar t (← asAddr (tmps.getD a undef)) : Sem Value)).run E.P w = .ok u w ∧ RepA h u v := by
      cases r with
      | tmp t =>
        simp only [resOf, Option.some.injEq] at h1
        subst h1
        exact ⟨_, rfl, hs t⟩
      | cell a t =>
        simp only [resOf] at h1
        split at h1
        · rename_i ti hti
          simp only [Option.map_eq_some_iff] at h1
          obtain ⟨⟨v', wr⟩, hv, rfl⟩ := h1
          have hv' : loadE ti (restr [(match st.s a with | .ptr n _ _ => n | _ => 0)] st.b) (st.s a) = some (v', wr) := by
            rw [← hv]
            cases st.s a <;> simp [loadE, restr]
          obtain ⟨_, u, hrun, ru⟩ := loadE_sound m (hP ▸ hti) (hs a) hv'
          have key : ∃ ad, tmps.getD a undef = .pointer (some ad) := by
            have := hs a
            cases e : st.s a <;> rw [e] at this hv <;> simp only [loadE] at hv <;> first | (cases hv; done) | skip
            · simp only [RepA] at this; obtain ⟨l, _, _, hx⟩ := this; exact ⟨_, hx⟩
            · simp only [RepA] at this; obtain ⟨b, o, hx, _⟩ := this; exact ⟨_, hx⟩
          obtain ⟨ad, had⟩ := key
          rw [had, hP] at hrun
          simp only [Instr.loadAt, Instr.sureAddr, Sem.run_bind, Sem.run_pure, Result.andThen_ok] at hrun
          refine ⟨u, ?_, ru⟩
          simp only [had, asAddr, Sem.run_bind, Sem.run_pure, Result.andThen_ok]
          exact hrun
        · cases h1
    obtain ⟨u, hu, hru⟩ := one
    exact ⟨u :: us, by simp only [List.mapM_cons, Sem.run_bind, hu, Result.andThen_ok, hus, Sem.run_pure], u, us, rfl, hru, hr⟩

theorem resV_sound {E : Env} {C : Ctx} (hP : C.P = E.P) {st : St} {w : World} {h : Gh} (m : Mem C st.b w h) {fn : Func} {tmps : Array Value} (hs : ∀ i, RepA h (tmps.getD i undef) (st.s i)) {v : AV} (he : resV E fn st = some v) :
    ∃ u, (results fn tmps).run E.P w = .ok u w ∧ RepA h u v := by
  unfold resV at he
  have run : ∀ vs, resAll E st fn.results.toList = some vs → ∃ us : List Value, (results fn tmps).run E.P w = .ok (if h : us.toArray.size = 1 then us.toArray[0] else .tuple us.toArray) w ∧ RepAs h us vs := fun vs hvs => by
    obtain ⟨us, hus, hr⟩ := resAll_sound hP m hs _ vs hvs
    refine ⟨us, ?_, hr⟩
    unfold results
    rw [Array.mapM_eq_mapM_toList]
    simp only [Sem.run_bind, Sem.run_map]
    erw [hus]
    rfl
  split at he
  · rename_i v0 hv
    simp only [Option.some.injEq] at he
    subst he
    obtain ⟨us, hus, hr⟩ := run _ hv
    simp only [RepAs] at hr
    obtain ⟨u, us', rfl, hu, rfl⟩ := hr
    exact ⟨u, by rw [hus]; simp, hu⟩
  · rename_i vs hne hv
    simp only [Option.some.injEq] at he
    subst he
    obtain ⟨us, hus, hr⟩ := run _ hv
    have hl := (RepAs_iff.1 hr).1
    have : ¬ us.toArray.size = 1 := fun e => by
      simp only [List.size_toArray] at e
      match vs, hl with
      | [x], _ => exact hne x rfl
      | [], hl => simp only [List.length_nil] at hl; omega
      | _ :: _ :: _, hl => simp only [List.length_cons] at hl; omega
    refine ⟨_, by rw [hus, dif_neg this], ?_⟩
    simp only [RepA]
    exact ⟨us, rfl, hr⟩
  · cases he

/-- THE CONTRACT OF A FUNCTION, from its body. -/
theorem cf_intro {E : Env} (hmix : E.P.follows .mixedOrders = true) {f : FuncId} {fn : Func} {c : Code} (hf : E.P.funcs[f]? = some fn) (hbody : fn.body = some c) (hent : enterable E.P f = true) (hN : fn.ntmps ≤ firstName)
    {xs : List AV} {B B' : List Blk} {y : AV} (hx : xs.length ≤ fn.ntmps)
    (h : acode E fn.ntmps B.length c (begin xs B) fun e st => match e with
      | .exit _ => False
      | _ => Ends E fn B.length y B' st) : Cf E f xs B y B' := by
  refine ⟨hent, fun w g vs hr m => ?_⟩
  have hl := (RepAs_iff.1 hr).1
  refine calls_of_wp hf hbody ?_
  have inv : Inv (ctxOf E w g B) fn.ntmps B.length (begin xs B) { tmps := ⟨vs⟩ ++ Array.replicate (fn.ntmps - (⟨vs⟩ : Array Value).size) undef, defers := [] } w := by
    refine ⟨fun n l hn hl' => ?_, rfl, by simp; omega, g, fun i => ?_, m⟩
    · rcases Nat.lt_or_ge n (firstName + B.length) with c | c
      · exact c
      · have := m.blks n
        unfold blkOf at this
        rw [if_pos hn, List.getElem?_eq_none (by omega)] at this
        have hz : g.L n = none := this
        have : (ctxOf E w g B).h0.L n = g.L n := rfl
        rw [this, hz] at hl'; cases hl'
    · simp only [begin]
      by_cases hi : i < vs.length
      · have hx' : i < xs.length := by omega
        obtain ⟨v, hv, hrv⟩ := (RepAs_iff.1 hr).2 i _ (List.getElem?_eq_getElem hx')
        rw [List.getElem?_eq_getElem hx', Option.getD_some]
        have : ((⟨vs⟩ : Array Value) ++ Array.replicate (fn.ntmps - (⟨vs⟩ : Array Value).size) undef).getD i undef = v := by
          simp only [Array.getD_eq_getD_getElem?]
          rw [Array.getElem?_append_left (by simpa using hi)]
          simp [hv]
        rw [this]; exact hrv
      · rw [List.getElem?_eq_none (by omega), Option.getD_none]
        simp only [RepA, Array.getD_eq_getD_getElem?]
        rw [Array.getElem?_append_right (by simpa using hi)]
        simp only [Array.getElem?_replicate]
        split <;> rfl
  refine acode_sound hmix hN c (begin xs B) _ h (ctxOf E w g B) rfl rfl _ w inv _ fun e st a' w' hq inv' => ?_
  have fin : Ends E fn B.length y B' st → a'.defers = [] ∧ ∃ v, (results fn a'.tmps).run E.P w' = .ok v w' ∧ (∃ v' h', Ending.returned v = .returned v' ∧ RepA h' v' y ∧ Mem (ctxOf E w g B) (blkOf B') w' h') := by
    rintro ⟨v, l, hv, ok, hB, hy⟩
    obtain ⟨hhi, hdef, hsz, h1, hsl, m1⟩ := inv'
    obtain ⟨u, hu, ru⟩ := resV_sound (C := ctxOf E w g B) rfl m1 hsl hv
    obtain ⟨h2, m2, hrep⟩ := weaken hhi m1 ok ((cvA (renOf l) st.b false v).2 ++ l.flatMap (fun p => (cvB (renOf l) st.b true (st.b p.2.1)).2)) (fun n hn => by
      rcases List.mem_append.1 hn with hn | hn
      · exact cvA_arr _ n hn
      · obtain ⟨p, _, hp⟩ := List.mem_flatMap.1 hn
        cases hb : st.b p.2.1 <;> rw [hb] at hp <;> simp only [cvB] at hp <;> first | (cases hp; done) | skip
        exact cvAs_arr _ n hp) (fun p hp k hk => List.mem_append_right _ (List.mem_flatMap.2 ⟨p, hp, hk⟩))
    refine ⟨hdef, u, hu, u, h2, rfl, ?_, ?_⟩
    · rw [← hy]; exact hrep v u false (fun k hk => List.mem_append_left _ hk) ru
    · have e : mkB l = blkOf B' := by
        funext n
        unfold mkB
        rw [hB]
        have hinj : ∀ (L : List Blk) (k n : Nat) (f : Nat → Blk), (∀ i, i < L.length → f (firstName + (k + i)) = .free) → upds f ((L.zipIdx k).map fun p => (firstName + p.2, p.1)) n = if firstName + k ≤ n then (match L[n - firstName - k]? with | some b => b | none => f n) else f n := by
          intro L
          induction L with
          | nil => intro k n f _; simp [upds]
          | cons b L ih =>
            intro k n f hfree
            simp only [List.zipIdx_cons, List.map_cons]
            rw [show upds f ((firstName + k, b) :: ((L.zipIdx (k + 1)).map fun p => (firstName + p.2, p.1))) = upds (upd f (firstName + k) b) ((L.zipIdx (k + 1)).map fun p => (firstName + p.2, p.1)) from rfl]
            rw [ih (k + 1) n _ (fun i hi => by
              simp only [upd]
              rw [if_neg (by omega)]
              have := hfree (i + 1) (by simp; omega)
              rwa [show k + (i + 1) = k + 1 + i from by omega] at this)]
            by_cases c1 : firstName + k ≤ n
            · rw [if_pos c1]
              by_cases c2 : n = firstName + k
              · subst c2
                rw [if_neg (by omega)]
                simp [upd]
              · rw [if_pos (by omega), show n - firstName - k = (n - firstName - (k + 1)) + 1 from by omega, List.getElem?_cons_succ]
                split
                · rfl
                · simp [upd, c2]
            · rw [if_neg c1, if_neg (by omega)]
              simp only [upd]
              rw [if_neg (by omega)]
        rw [hinj B' 0 n _ (fun i _ => rfl)]
        unfold blkOf
        simp only [Nat.add_zero, Nat.sub_zero]
        split
        · cases B'[n - firstName]? <;> rfl
        · rfl
      rw [← e]; exact m2
  cases e with
  | normal => exact fin hq
  | exit id => exact hq.elim
  | ret => exact fin hq
end Go.Ab
