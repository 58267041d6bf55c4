/- Operations that touch no memory. -/
import Derived.Test.YtnbbnkmaoaogeaaDoorAbLoad
set_option linter.all false
namespace Go.Ab

theorem field_entry {P : Program} {fs : Array Field} {f off sz : Nat} {ag : Bool}
    (h : (fs.toList.map (fieldEnt P))[f]? = some (off, sz, ag)) (hsz : sz ≠ 0) :
    ∃ fd i d, fs[f]? = some fd ∧ P.info? fd.type = some i ∧ P.underlying fd.type = some d ∧ off = fd.offset ∧ sz = i.size ∧ ag = isAggD d := by
  rw [List.getElem?_map] at h
  cases hf : fs.toList[f]? with
  | none => rw [hf] at h; simp at h
  | some fd =>
    rw [hf] at h
    simp only [Option.map_some, Option.some.injEq, fieldEnt] at h
    split at h
    · rename_i i d h1 h2
      simp only [Prod.mk.injEq] at h
      exact ⟨fd, i, d, by simpa using hf, h1, h2, h.1.symm, h.2.1.symm, h.2.2.symm⟩
    · simp only [Prod.mk.injEq] at h
      exact absurd h.2.1.symm hsz

theorem kind_struct {P : Program} {d : TypeDesc} {l : List (Nat × Nat × Bool)} (h : tkOf P d = .struct l) : ∃ fs, d = .struct fs ∧
    l = fs.toList.map (fieldEnt P) := by
  cases d <;> simp only [tkOf] at h <;> first | (cases h; done) | skip
  rename_i fs
  exact ⟨fs, rfl, by simpa using h.symm⟩
theorem kind_slice {P : Program} {d : TypeDesc} {e : TypeId} (h : tkOf P d = .slice e) : d = .slice e := by
  cases d <;> simp only [tkOf] at h <;> first | (cases h; done) | skip
  simpa using h
theorem kind_array {P : Program} {d : TypeDesc} {n e : Nat} (h : tkOf P d = .array n e) : d = .array n e := by
  cases d <;> simp only [tkOf] at h <;> first | (cases h; done) | skip
  simpa using h
theorem kind_string {P : Program} {d : TypeDesc} (h : tkOf P d = .string) : d = .string := by
  cases d <;> simp only [tkOf] at h <;> first | (cases h; done) | rfl
theorem kind_bool {P : Program} {d : TypeDesc} (h : tkOf P d = .bool) : d = .bool := by
  cases d <;> simp only [tkOf] at h <;> first | (cases h; done) | rfl
theorem kind_int {P : Program} {d : TypeDesc} {k : IntKind} (h : tkOf P d = .int k) : d = .int k := by
  cases d <;> simp only [tkOf] at h <;> first | (cases h; done) | skip
  simpa using h

theorem RepCells_drop {μ : Nat → Nat → Option Value} {b o k : Nat} {cs : List D} (h : RepCells μ b o cs) : RepCells μ b (o + k) (cs.drop k) := by
  rw [RepCells_iff] at *
  intro j c hj
  rw [List.getElem?_drop] at hj
  have := h _ c hj
  rwa [Nat.add_assoc]

theorem fieldAddrE_sound {P : Program} {w : World} {h : Gh} {t : TypeId} {ti : TI} (hti : tinf P t = some ti) {f : Nat} {p v : AV} {wr : List (Nat × Blk)} {pv : Value}
    (hp : RepA h pv p) (he : fieldAddrE ti.kind f p = some (v, wr)) : wr = [] ∧ ∃ u, (Instr.fieldAt t pv f).run P w = .ok u w ∧ RepA h u v := by
  obtain ⟨i, d, h1, h2, rfl⟩ := tinf_some hti
  have run : ∀ (fs : Array Field) (fd : Field) (i' : TypeInfo) (b o : Nat), d = .struct fs → fs[f]? = some fd → P.info? fd.type = some i' → i'.size ≠ 0 →
      (Instr.fieldAt t (.pointer (some ⟨b, o, none⟩)) f).run P w = .ok (.pointer (some ⟨b, o + fd.offset, none⟩)) w := by
    intro fs fd i' b o hd hf hi hne
    simp [Instr.fieldAt, run_underlying (hd ▸ h2), hf, Instr.sureAddr, fieldPlace, run_sizeOf hi, hne, Addr.add_lit]
  cases p <;> simp only [fieldAddrE] at he <;> first | (cases he; done) | skip
  case ptr n i' j =>
    split at he
    · rename_i l hk
      obtain ⟨fs, rfl, rfl⟩ := kind_struct hk
      split at he
      · rename_i off sz ag hf
        split at he
        · cases he
        · rename_i hsz
          simp only [pureE, Option.some.injEq, Prod.mk.injEq] at he
          obtain ⟨rfl, rfl⟩ := he
          obtain ⟨fd, i2, d2, a1, a2, a3, rfl, rfl, rfl⟩ := field_entry hf hsz
          simp only [RepA] at hp
          obtain ⟨l, hL, hn, rfl⟩ := hp
          refine ⟨rfl, _, run fs fd i2 _ _ rfl a1 a2 hsz, ?_⟩
          simp only [RepA]
          exact ⟨l, hL, hn, by rw [Nat.add_assoc]⟩
      · cases he
    · cases he
  case dp cs =>
    split at he
    · rename_i l hk
      obtain ⟨fs, rfl, rfl⟩ := kind_struct hk
      split at he
      · rename_i off sz ag hf
        split at he
        · cases he
        · rename_i hsz
          simp only [not_or] at hsz
          simp only [pureE, Option.some.injEq, Prod.mk.injEq] at he
          obtain ⟨rfl, rfl⟩ := he
          obtain ⟨fd, i2, d2, a1, a2, a3, rfl, rfl, rfl⟩ := field_entry hf hsz.1
          simp only [RepA] at hp
          obtain ⟨b, o, rfl, hc⟩ := hp
          refine ⟨rfl, _, run fs fd i2 _ _ rfl a1 a2 hsz.1, ?_⟩
          simp only [RepA]
          exact ⟨b, _, rfl, RepCells_drop hc⟩
      · cases he
    · cases he

theorem part_rep {h : Gh} {arr : List Value} {cs : List AV} (hr : RepAs h arr cs) {off sz : Nat} {ag : Bool} {v : AV} (hp : partAt' ag sz (cs.drop off) = some v) :
    ∃ u, RepA h u v ∧ (if ag = true then u = .agg ((⟨arr⟩ : Array Value).extract off (off + sz)) else arr[off]? = some u) := by
  unfold partAt' at hp
  cases ag with
  | true =>
    simp only [if_true] at hp ⊢
    split at hp <;> simp only [Option.some.injEq, reduceCtorEq] at hp
    subst hp
    refine ⟨_, ?_, rfl⟩
    simp only [RepA]
    refine ⟨_, ?_, RepAs_take (RepAs_drop (n := off) hr)⟩
    congr 1
    apply Array.ext'
    simp
  | false =>
    simp only [Bool.false_eq_true, if_false] at hp ⊢
    rw [List.head?_drop] at hp
    obtain ⟨u, a, b⟩ := (RepAs_iff.1 hr).2 off v hp
    exact ⟨u, b, a⟩

theorem fieldE_sound {P : Program} {w : World} {h : Gh} {t : TypeId} {ti : TI} (hti : tinf P t = some ti) {f : Nat} {p v : AV} {wr : List (Nat × Blk)} {pv : Value}
    (hp : RepA h pv p) (he : fieldE ti.kind f p = some (v, wr)) : wr = [] ∧ ∃ u, (Instr.field t pv f).run P w = .ok u w ∧ RepA h u v := by
  obtain ⟨i, d, h1, h2, rfl⟩ := tinf_some hti
  cases p <;> simp only [fieldE] at he <;> first | (cases he; done) | skip
  case agg cs =>
    split at he
    · rename_i l hk
      obtain ⟨fs, rfl, rfl⟩ := kind_struct hk
      split at he
      · rename_i off sz ag hf
        split at he
        · cases he
        · rename_i hsz
          obtain ⟨fd, i2, d2, a1, a2, a3, rfl, rfl, rfl⟩ := field_entry hf hsz
          simp only [Option.map_eq_some_iff, Prod.mk.injEq] at he
          obtain ⟨v', hpart, rfl, rfl⟩ := he
          simp only [RepA] at hp
          obtain ⟨arr, rfl, hr⟩ := hp
          obtain ⟨u, hu, hx⟩ := part_rep hr hpart
          refine ⟨rfl, u, ?_, hu⟩
          have e : (Go.part fd.type ⟨arr⟩ fd.offset).run P w = .ok u w := by
            unfold Go.part
            simp only [Sem.run_bind, run_isAgg a3, Result.andThen_ok]
            cases hd : isAggD d2 with
            | true => rw [hd] at hx; simp only [if_true] at hx; simp [run_sizeOf a2, hx]
            | false => rw [hd] at hx; simp only [Bool.false_eq_true, if_false] at hx; simp [hx]
          simp [Instr.field, run_underlying h2, a1, asAgg, e]
      · cases he
    · cases he

theorem intOfA_rep {h : Gh} {v : Value} {x : AV} {n : Int} (hr : RepA h v x) (hi : intOfA x = some n) : ∃ k, v = .int k n := by
  unfold intOfA at hi
  split at hi
  · simp only [Option.some.injEq] at hi
    subst hi
    simp only [RepA, RepD] at hr
    exact ⟨_, hr⟩
  · cases hi

theorem indexAddrE_sound {P : Program} {w : World} {h : Gh} {t : TypeId} {ti : TI} (hti : tinf P t = some ti) {x v : AV} {i : Int} {k : IntKind} {wr : List (Nat × Blk)} {xv : Value}
    (hp : RepA h xv x) (he : indexAddrE P ti.kind i x = some (v, wr)) : wr = [] ∧ ∃ u, (Instr.indexAt t xv (.int k i)).run P w = .ok u w ∧ RepA h u v := by
  obtain ⟨i0, d, h1, h2, rfl⟩ := tinf_some hti
  unfold indexAddrE at he
  split at he
  · rename_i e xs hk
    have hd := kind_slice hk
    subst hd
    split at he
    · rename_i te hte
      obtain ⟨ie, de, e1, e2, rfl⟩ := tinf_some hte
      split at he
      · rename_i h0
        split at he
        · rename_i y hy
          split at he
          · rename_i hyl
            simp only [pureE, Option.some.injEq, Prod.mk.injEq] at he
            obtain ⟨rfl, rfl⟩ := he
            simp only [RepA, RepD] at hp
            obtain ⟨a, cap, rfl, _, hx⟩ := hp
            have hlt : i.toNat < xs.length := (List.getElem?_eq_some_iff.1 hy).1
            rcases hx with rfl | ⟨b, o, sz, rfl, hels⟩
            · simp at hlt
            · rw [RepEls_iff] at hels
              obtain ⟨hl, hc⟩ := hels _ _ hy
              have hlt' : i < (xs.length : Int) := by omega
              refine ⟨rfl, .pointer (some ⟨b, o + i.toNat * sz, none⟩), ?_, ?_⟩
              · have e3 : ie.size = sz := hyl.symm.trans hl
                simp [Instr.indexAt, asIntOf, run_underlying h2, h0, hlt', run_sizeOf e1, Addr.add_lit, e3]
              · simp only [RepA]; exact ⟨b, _, rfl, hc⟩
          · cases he
        · cases he
      · cases he
    · cases he
  · rename_i e n lo len sz hk
    have hd := kind_slice hk
    subst hd
    split at he
    · rename_i te hte
      obtain ⟨ie, de, e1, e2, rfl⟩ := tinf_some hte
      split at he
      · rename_i hc
        obtain ⟨h0, hlt, rfl⟩ := hc
        simp only [pureE, Option.some.injEq, Prod.mk.injEq] at he
        obtain ⟨rfl, rfl⟩ := he
        simp only [RepA] at hp
        obtain ⟨l, hL, hsz, hx⟩ := hp
        split at hx
        · omega
        · rename_i hn
          obtain ⟨cap, rfl, h3, h4, h5⟩ := hx
          have hlt' : i < (len : Int) := by omega
          refine ⟨rfl, .pointer (some ⟨l.blk, lo * l.sz + i.toNat * ie.size, none⟩), ?_, ?_⟩
          · simp [Instr.indexAt, asIntOf, run_underlying h2, h0, hlt', run_sizeOf e1, Addr.add_lit]
          · simp only [RepA]
            refine ⟨l, hL, by simpa using hn, ?_⟩
            rw [hsz, Nat.add_mul, Nat.add_zero]
      · cases he
    · cases he
  · rename_i m e cs hk
    have hd := kind_array hk
    subst hd
    split at he
    · rename_i te hte
      obtain ⟨ie, de, e1, e2, rfl⟩ := tinf_some hte
      split at he
      · rename_i hc
        obtain ⟨h0, hlt, hle⟩ := hc
        simp only [pureE, Option.some.injEq, Prod.mk.injEq] at he
        obtain ⟨rfl, rfl⟩ := he
        simp only [RepA] at hp
        obtain ⟨b, o, rfl, hcs⟩ := hp
        refine ⟨rfl, .pointer (some ⟨b, o + i.toNat * ie.size, none⟩), ?_, ?_⟩
        · simp [Instr.indexAt, asIntOf, run_underlying h2, h0, hlt, run_sizeOf e1, Addr.add_lit, Instr.sureAddr]
        · simp only [RepA]; exact ⟨b, _, rfl, RepCells_drop hcs⟩
      · cases he
    · cases he
  · rename_i m e n i' j hk
    have hd := kind_array hk
    subst hd
    split at he
    · rename_i te hte
      obtain ⟨ie, de, e1, e2, rfl⟩ := tinf_some hte
      split at he
      · rename_i hc
        obtain ⟨h0, hlt⟩ := hc
        simp only [pureE, Option.some.injEq, Prod.mk.injEq] at he
        obtain ⟨rfl, rfl⟩ := he
        simp only [RepA] at hp
        obtain ⟨l, hL, hn, rfl⟩ := hp
        refine ⟨rfl, .pointer (some ⟨l.blk, i' * l.sz + j + i.toNat * ie.size, none⟩), ?_, ?_⟩
        · simp [Instr.indexAt, asIntOf, run_underlying h2, h0, hlt, run_sizeOf e1, Addr.add_lit, Instr.sureAddr]
        · simp only [RepA]; exact ⟨l, hL, hn, by rw [Nat.add_assoc]⟩
      · cases he
    · cases he
  · cases he

theorem indexE_sound {P : Program} {w : World} {h : Gh} {t : TypeId} {ti : TI} (hti : tinf P t = some ti) {x v : AV} {i : Int} {k : IntKind} {wr : List (Nat × Blk)} {xv : Value}
    (hp : RepA h xv x) (he : indexE ti.kind i x = some (v, wr)) : wr = [] ∧ ∃ u, (Instr.index t xv (.int k i)).run P w = .ok u w ∧ RepA h u v := by
  obtain ⟨i0, d, h1, h2, rfl⟩ := tinf_some hti
  unfold indexE at he
  split at he
  · rename_i s hk
    have hd := kind_string hk
    subst hd
    split at he
    · rename_i h0
      split at he
      · rename_i c hc
        simp only [pureE, Option.some.injEq, Prod.mk.injEq] at he
        obtain ⟨rfl, rfl⟩ := he
        simp only [RepA, RepD] at hp
        subst hp
        have hlt : i.toNat < s.length := (List.getElem?_eq_some_iff.1 hc).1
        have hb : (⟨s.toArray⟩ : ByteArray)[i.toNat]? = some c := by
          rw [ByteArray.getElem?_lt' _ _ (show i.toNat < (⟨s.toArray⟩ : ByteArray).size by rw [ByteArray.size_mk']; simpa using hlt)]
          have := (List.getElem?_eq_some_iff.1 hc).2
          simp [← this]
          rfl
        refine ⟨rfl, _, ?_, by simp [RepA, RepD]; rfl⟩
        simp [Instr.index, asIntOf, run_underlying h2, h0, hb]
      · cases he
    · cases he
  · cases he

def D.plain : D → Value
  | .int k n => .int k n
  | .bool b => .bool b
  | .str s => .string ⟨s.toArray⟩
  | .val v => v
  | .sl _ => undef

theorem intE_sound {P : Program} {w : World} {op : BinOp} {t : TypeId} {k : IntKind} {a b : Int} {x : D} (he : intE op k a b = some x) :
    (binOp op t (.int k a) (.int k b)).run P w = .ok x.plain w ∧ ∀ h : Gh, RepA h x.plain (.d x) := by
  cases op <;> simp only [intE] at he <;> first | (cases he; done) | skip
  case quo =>
    split at he <;> simp only [Option.some.injEq, reduceCtorEq] at he
    rename_i hb; subst he
    exact ⟨by simp [binOp_quo, Op.intDiv, hb, D.plain], fun h => by simp [RepA, RepD, D.plain]⟩
  case rem =>
    split at he <;> simp only [Option.some.injEq, reduceCtorEq] at he
    rename_i hb; subst he
    exact ⟨by simp [binOp_rem, Op.intDiv, hb, D.plain], fun h => by simp [RepA, RepD, D.plain]⟩
  all_goals
    simp only [Option.some.injEq] at he
    subst he
    exact ⟨by simp [binOp, Op.intArith, Op.intCmp, D.plain], fun h => by simp [RepA, RepD, D.plain]⟩

theorem strE_sound {P : Program} {w : World} {op : BinOp} {t : TypeId} {a b : List UInt8} {x : D} (he : strE op a b = some x) :
    (binOp op t (.string ⟨a.toArray⟩) (.string ⟨b.toArray⟩)).run P w = .ok x.plain w ∧ ∀ h : Gh, RepA h x.plain (.d x) := by
  cases op <;> simp only [strE] at he <;> first | (cases he; done) | skip
  case add =>
    split at he <;> simp only [Option.some.injEq, reduceCtorEq] at he
    rename_i hl; subst he
    refine ⟨?_, fun h => by simp [RepA, RepD, D.plain]⟩
    rw [binOp_string_add, run_string_add_sum w _ _ (by simpa [ByteArray.size_mk'] using hl), ByteArray.mk_append_mk]
    rfl
  all_goals
    simp only [Option.some.injEq] at he
    subst he
    exact ⟨by simp [binOp, Op.stringOp, D.plain], fun h => by simp [RepA, RepD, D.plain]⟩

theorem cellEq_sound {P : Program} {w : World} {h : Gh} {d : Nat} {t : TypeId} {dk : TypeDesc} (hdk : P.underlying t = some dk) {x y : AV} {u v : Value} {r : Bool} (hx : RepA h u x) (hy : RepA h v y)
    (he : cellEq (tkOf P dk) x y = some r) : (Op.equalIn (d + 1) t u v).run P w = .ok r w := by
  unfold cellEq at he
  split at he
  · rename_i hk
    have := kind_int hk; subst this
    simp only [RepA, RepD] at hx hy
    subst hx hy
    split at he <;> simp only [Option.some.injEq, reduceCtorEq] at he
    rename_i hkk; subst hkk; subst he
    exact run_equalIn_int w d t _ _ _ _ hdk
  · rename_i hk
    have := kind_bool hk; subst this
    simp only [RepA, RepD] at hx hy
    subst hx hy
    simp only [Option.some.injEq] at he
    subst he
    exact run_equalIn_bool w d t _ _ hdk
  · rename_i hk
    have := kind_string hk; subst this
    simp only [RepA, RepD] at hx hy
    subst hx hy
    simp only [Option.some.injEq] at he
    subst he
    rw [run_equalIn_string w d t _ _ hdk]
    simp
  · cases he

theorem eqFields_sound {P : Program} {w : World} {h : Gh} {d : Nat} {us vs : List Value} : ∀ (fs : List Field) (i : Nat) (xs ys : List AV) (r : Bool), plainAt P i fs = true →
    RepAs h (us.drop i) xs → RepAs h (vs.drop i) ys → cellsEq (fs.map (kindOf P)) xs ys = some r → (Op.eqFields (d + 1) ⟨us⟩ ⟨vs⟩ fs).run P w = .ok r w
  | [], i, xs, ys, r, _, _, _, he => by
    cases xs <;> cases ys <;> simp [cellsEq] at he
    subst he
    simp [Op.eqFields]
  | f :: fs, i, xs, ys, r, hp, hx, hy, he => by
    cases xs with
    | nil => simp [cellsEq] at he
    | cons x xs =>
      cases ys with
      | nil => simp [cellsEq] at he
      | cons y ys =>
        simp only [plainAt, Bool.and_eq_true, beq_iff_eq, bne_iff_ne, ne_eq] at hp
        obtain ⟨⟨⟨rfl, hname⟩, hdesc⟩, hrest⟩ := hp
        cases hu : P.underlying f.type with
        | none => rw [hu] at hdesc; simp at hdesc
        | some dk =>
          rw [hu] at hdesc
          simp only [List.map_cons, kindOf, hu, Option.map_some, Option.getD_some, cellsEq] at he
          split at he <;> simp only [Option.some.injEq, reduceCtorEq] at he
          rename_i a b hca hcb
          subst he
          simp only [RepAs] at hx hy
          obtain ⟨u, us', hu1, hu2, hu3⟩ := hx
          obtain ⟨v, vs', hv1, hv2, hv3⟩ := hy
          have hpart : ∀ (l l' : List Value) (q : Value), l.drop f.offset = q :: l' → (Go.part f.type ⟨l⟩ f.offset).run P w = .ok q w := by
            intro l l' q hl
            have hq : l[f.offset]? = some q := by
              have := congrArg List.head? hl
              rw [List.head?_drop] at this
              simpa using this
            unfold Go.part
            simp only [Sem.run_bind, run_isAgg hu, Result.andThen_ok]
            have : isAggD dk = false := by simpa using hdesc
            simp [this, hq]
          have hd1 : us.drop (f.offset + 1) = us' := by rw [← List.tail_drop, hu1]; rfl
          have hd2 : vs.drop (f.offset + 1) = vs' := by rw [← List.tail_drop, hv1]; rfl
          have ih := eqFields_sound (d := d) (w := w) fs (f.offset + 1) xs ys b hrest (hd1 ▸ hu3) (hd2 ▸ hv3) hcb
          simp only [Op.eqFields, hname, not_false_eq_true, if_true, ne_eq, Sem.run_bind, hpart _ _ _ hu1, hpart _ _ _ hv1, Result.andThen_ok, cellEq_sound hu hu2 hv2 hca]
          cases a <;> simp [ih]

theorem binE_sound {P : Program} {w : World} {h : Gh} {op : BinOp} {t : TypeId} {x y v : AV} {a b : Value} {ox oy : Operand} (hx : RepA h a x) (hy : RepA h b y) (he : binE P op t x y = some v) :
    ∃ u, ((do eqGuard op t ox oy a b; binOp op t a b) : Sem Value).run P w = .ok u w ∧ RepA h u v := by
  unfold binE at he
  split at he
  · simp only [RepA, RepD] at hx hy
    subst hx hy
    split at he
    · rename_i hk; subst hk
      simp only [Option.map_eq_some_iff] at he
      obtain ⟨z, hz, rfl⟩ := he
      obtain ⟨h1, h2⟩ := intE_sound (P := P) (w := w) (t := t) hz
      exact ⟨_, by simp [eqGuard_at_int, h1], h2 h⟩
    · cases he
  · simp only [RepA, RepD] at hx hy
    subst hx hy
    simp only [Option.map_eq_some_iff] at he
    obtain ⟨z, hz, rfl⟩ := he
    obtain ⟨h1, h2⟩ := strE_sound (P := P) (w := w) (t := t) hz
    exact ⟨_, by simp [eqGuard_at_string, h1], h2 h⟩
  · simp only [RepA, RepD] at hx hy
    subst hx hy
    split at he
    · rename_i ti hti
      obtain ⟨i, d, h1, h2, rfl⟩ := tinf_some hti
      split at he <;> simp only [Option.some.injEq, reduceCtorEq] at he
      · rename_i hk
        have := kind_bool hk; subst this
        subst he
        exact ⟨_, by simp [eqGuard_at_bool, binOp, Op.equal, Op.maxDepth, run_equalIn_bool w 9999 t _ _ h2]; rfl, by simp [RepA, RepD]⟩
      · rename_i hk
        have := kind_bool hk; subst this
        subst he
        exact ⟨_, by simp [eqGuard_at_bool, binOp, Op.equal, Op.maxDepth, run_equalIn_bool w 9999 t _ _ h2]; rfl, by simp [RepA, RepD]⟩
    · cases he
  · simp only [RepA] at hx hy
    obtain ⟨us, rfl, hus⟩ := hx
    obtain ⟨vs, rfl, hvs⟩ := hy
    split at he
    · rename_i ks hks
      unfold plainKinds at hks
      split at hks
      · rename_i fs hfs
        split at hks <;> simp only [Option.some.injEq, reduceCtorEq] at hks
        rename_i hc
        subst hks
        simp only [Bool.and_eq_true, Bool.not_eq_true'] at hc
        obtain ⟨⟨c1, c2⟩, c3⟩ := hc
        have hst : ∀ r, cellsEq (fs.toList.map (kindOf P)) _ _ = some r → (Op.equal t (.agg ⟨us⟩) (.agg ⟨vs⟩)).run P w = .ok r w := fun r hr => by
          have hf : P.fieldsOf t = fs := by simp [Program.fieldsOf, hfs]
          unfold Op.equal Op.maxDepth
          rw [run_equalIn_struct w 9999 t _ _ (by rw [hf]; exact hfs) c1, hf]
          exact eqFields_sound (d := 9998) fs.toList 0 _ _ r c3 (by simpa using hus) (by simpa using hvs) hr
        have hg : (eqGuard op t ox oy (.agg ⟨us⟩) (.agg ⟨vs⟩)).run P w = .ok () w := by
          cases op <;> simp [eqGuard, c2]
        split at he <;> simp only [Option.some.injEq, reduceCtorEq] at he
        · rename_i r hr
          subst he
          exact ⟨.bool r, by simp [hg, binOp, hst r hr], by simp [RepA, RepD]⟩
        · rename_i r hr
          subst he
          exact ⟨.bool (!r), by simp [hg, binOp, hst r hr], by simp [RepA, RepD]⟩
      · cases hks
    · cases he
  · cases he

theorem unE_sound {P : Program} {w : World} {h : Gh} {op : UnOp} {x v : AV} {a : Value} (hx : RepA h a x) (he : unE op x = some v) :
    ∃ u, (Op.unary op a).run P w = .ok u w ∧ RepA h u v := by
  unfold unE at he
  split at he
  · simp only [RepA, RepD] at hx
    subst hx
    split at he <;> simp only [Option.some.injEq, reduceCtorEq] at he
    subst he
    exact ⟨.int _ (IntKind.wrap _ (0 - _)), by simp only [Op.unary, Op.intArith]; rfl, by simp [RepA, RepD]⟩
  · simp only [RepA, RepD] at hx
    subst hx
    split at he <;> simp only [Option.some.injEq, reduceCtorEq] at he
    subst he
    exact ⟨.bool (!_), by simp only [Op.unary]; rfl, by simp [RepA, RepD]⟩
  · cases he

theorem optInt_rep {h : Gh} {x : Option AV} {v : Option Value} {n : Option Int} (hr : match x, v with | some x, some v => RepA h v x | none, none => True | _, _ => False) (hi : optInt x = some n) :
    (v = none ∧ n = none) ∨ ∃ k i, v = some (.int k i) ∧ n = some i := by
  cases x <;> cases v <;> simp only at hr
  · simp [optInt] at hi; exact .inl ⟨rfl, hi.symm⟩
  · simp only [optInt, Option.map_eq_some_iff] at hi
    obtain ⟨i, h1, h2⟩ := hi
    obtain ⟨k, hk⟩ := intOfA_rep hr h1
    exact .inr ⟨k, i, by rw [hk], h2.symm⟩

theorem run_bounds {P : Program} {w : World} {isSlice : Bool} {len cap : Nat} {lo hi : Option Value} {l h : Option Int} (hlo : (lo = none ∧ l = none) ∨ ∃ k i, lo = some (.int k i) ∧ l = some i)
    (hhi : (hi = none ∧ h = none) ∨ ∃ k i, hi = some (.int k i) ∧ h = some i) (hc : len ≤ cap) (h0 : 0 ≤ l.getD 0) (h1 : l.getD 0 ≤ h.getD len) (h2 : h.getD len ≤ len) :
    (Instr.sliceBounds isSlice len cap lo hi none).run P w = .ok ((l.getD 0).toNat, (h.getD len).toNat, cap) w := by
  rcases hlo with ⟨rfl, rfl⟩ | ⟨k, i, rfl, rfl⟩ <;> rcases hhi with ⟨rfl, rfl⟩ | ⟨k', j, rfl, rfl⟩ <;> simp only [Option.getD_some, Option.getD_none] at *
  · simp [Instr.sliceBounds]
  · have := run_sliceBound (P := P) w k' j cap (if isSlice then .sliceAcap else .sliceAlen) (by omega) (by omega)
    simp [Instr.sliceBounds, this]
  · have := run_sliceBound (P := P) w k i len .sliceB (by omega) (by omega)
    simp [Instr.sliceBounds, this]
  · have a := run_sliceBound (P := P) w k' j cap (if isSlice then .sliceAcap else .sliceAlen) (by omega) (by omega)
    have b := run_sliceBound (P := P) w k i j.toNat .sliceB (by omega) (by omega)
    simp [Instr.sliceBounds, a, b]

theorem sliceE_sound {P : Program} {w : World} {h : Gh} {t : TypeId} {ti : TI} (hti : tinf P t = some ti) {x v : AV} {lo hi mx : Option AV} {vlo vhi vmx : Option Value} {wr : List (Nat × Blk)} {xv : Value}
    (hp : RepA h xv x) (hlo : match lo, vlo with | some x, some v => RepA h v x | none, none => True | _, _ => False) (hhi : match hi, vhi with | some x, some v => RepA h v x | none, none => True | _, _ => False)
    (hmx : match mx, vmx with | some x, some v => RepA h v x | none, none => True | _, _ => False)
    (he : sliceE P ti.kind x lo hi mx = some (v, wr)) : wr = [] ∧ ∃ u, (Instr.sliceAt t xv vlo vhi vmx).run P w = .ok u w ∧ RepA h u v := by
  obtain ⟨i0, d, h1, h2, rfl⟩ := tinf_some hti
  unfold sliceE at he
  split at he
  · rename_i l hh h3 h4 
    have hmx' : vmx = none := by cases vmx <;> simp_all
    subst hmx'
    have olo := optInt_rep hlo h3
    have ohi := optInt_rep hhi h4
    split at he
    · rename_i e xs hk
      have := kind_slice hk; subst this
      split at he
      · rename_i te hte
        obtain ⟨ie, de, e1, e2, rfl⟩ := tinf_some hte
        split at he
        · rename_i hc
          obtain ⟨c0, c1, c2, c3⟩ := hc
          simp only [pureE, Option.some.injEq, Prod.mk.injEq] at he
          obtain ⟨rfl, rfl⟩ := he
          simp only [RepA, RepD] at hp
          obtain ⟨a, cap, rfl, hcap, hx⟩ := hp
          have hb := run_bounds (P := P) (w := w) (isSlice := true) olo ohi hcap c0 c1 c2
          generalize hl : (l.getD 0).toNat = L at *
          generalize hH : (hh.getD ↑xs.length).toNat = H at *
          have hHx : H ≤ xs.length := by omega
          have hLH : L ≤ H := by omega
          refine ⟨rfl, .slice (if cap = L then a else a.map (·.add (L * ie.size))) (H - L) (cap - L), ?_, ?_⟩
          · simp [Instr.sliceAt, run_underlying h2, Instr.slice, hb, run_sizeOf e1]
          · simp only [RepA, RepD]
            refine ⟨_, _, by simp [List.length_drop, List.length_take, Nat.min_eq_left hHx]; exact ⟨rfl, rfl⟩, by simp; omega, ?_⟩
            by_cases hne : H = L
            · left; rw [List.drop_eq_nil_iff]; simp; omega
            · right
              rcases hx with rfl | ⟨b, o, sz, rfl, hels⟩
              · simp at hHx; omega
              · rw [RepEls_iff] at hels
                have hLlt : L < xs.length := by omega
                have hsz : ie.size = sz := by
                  have a1 := (hels L xs[L] (List.getElem?_eq_getElem hLlt)).1
                  rw [List.all_eq_true] at c3
                  have := c3 xs[L] (by
                    rw [List.mem_iff_getElem?]
                    exact ⟨0, by rw [List.getElem?_drop, List.getElem?_take, if_pos (by omega)]; simp⟩)
                  simp only [beq_iff_eq] at this
                  omega
                refine ⟨b, o + L * sz, sz, by rw [if_neg (by omega)]; simp [Addr.add_lit, hsz], ?_⟩
                rw [RepEls_iff]
                intro i x hi
                rw [List.getElem?_drop, List.getElem?_take] at hi
                split at hi
                · have := hels _ _ hi
                  rwa [Nat.add_mul, ← Nat.add_assoc] at this
                · cases hi
        · cases he
      · cases he
    · rename_i s hk
      have := kind_string hk; subst this
      split at he
      · rename_i hc
        obtain ⟨c0, c1, c2⟩ := hc
        simp only [pureE, Option.some.injEq, Prod.mk.injEq] at he
        obtain ⟨rfl, rfl⟩ := he
        simp only [RepA, RepD] at hp
        subst hp
        have hsize : (⟨s.toArray⟩ : ByteArray).size = s.length := by simp [ByteArray.size_mk']
        have hb := run_bounds (P := P) (w := w) (isSlice := false) (len := s.length) (cap := s.length) olo ohi (Nat.le_refl _) c0 c1 c2
        refine ⟨rfl, _, ?_, by simp only [RepA, RepD]; rfl⟩
        simp only [Instr.sliceAt, Sem.run_bind, run_underlying h2, Result.andThen_ok, Instr.slice, hsize, Option.isSome_none, Bool.false_eq_true, if_false, hb, Sem.run_pure]
        rw [ByteArray.extract_mk, List.drop_take]
      · cases he
    · cases he
  · cases he

theorem lenE_sound {P : Program} {w : World} {h : Gh} {t ty : TypeId} {ti : TI} (hti : tinf P t = some ti) {x v : AV} {xv : Value} (hp : RepA h xv x) (he : lenE ti.kind x = some v) :
    ∃ u, (Builtin.len_ #[t] ty #[xv]).run P w = .ok u w ∧ RepA h u v := by
  obtain ⟨i0, d, h1, h2, rfl⟩ := tinf_some hti
  unfold lenE at he
  split at he
  · split at he <;> simp only [Option.some.injEq, reduceCtorEq] at he
    rename_i hk
    have := kind_string hk; subst this
    subst he
    simp only [RepA, RepD] at hp
    subst hp
    exact ⟨goInt _, by simp [Builtin.len_, run_underlying h2]; rfl, by simp [RepA, RepD, goInt, ByteArray.size_mk']⟩
  · split at he <;> simp only [Option.some.injEq, reduceCtorEq] at he
    rename_i hk
    have := kind_slice hk; subst this
    subst he
    simp only [RepA, RepD] at hp
    obtain ⟨a, cap, rfl, _⟩ := hp
    exact ⟨goInt _, by simp [Builtin.len_, run_underlying h2]; rfl, by simp [RepA, RepD, goInt]⟩
  · split at he <;> simp only [Option.some.injEq, reduceCtorEq] at he
    rename_i hk
    have := kind_slice hk; subst this
    subst he
    simp only [RepA] at hp
    obtain ⟨l, hL, hsz, hx⟩ := hp
    split at hx
    · obtain ⟨rfl, rfl, rfl⟩ := hx
      exact ⟨goInt _, by simp [Builtin.len_, run_underlying h2]; rfl, by simp [RepA, RepD, goInt]⟩
    · obtain ⟨cap, rfl, _⟩ := hx
      exact ⟨goInt _, by simp [Builtin.len_, run_underlying h2]; rfl, by simp [RepA, RepD, goInt]⟩
  · split at he <;> simp only [Option.some.injEq, reduceCtorEq] at he
    rename_i hk
    have := kind_slice hk; subst this
    subst he
    simp only [RepA] at hp
    subst hp
    exact ⟨goInt _, by simp [Builtin.len_, run_underlying h2]; rfl, by simp [RepA, RepD, goInt]⟩
  · cases he

theorem convE_sound {P : Program} {w : World} {h : Gh} {s t : TypeId} {x v : AV} {xv : Value} (hp : RepA h xv x) (he : convE P s t x = some v) :
    ∃ u, (convert s t xv).run P w = .ok u w ∧ RepA h u v := by
  unfold convE at he
  split at he
  · rename_i ts td k n hts htd
    obtain ⟨is, ds, a1, a2, rfl⟩ := tinf_some hts
    obtain ⟨it, dt, b1, b2, rfl⟩ := tinf_some htd
    simp only [RepA, RepD] at hp
    subst hp
    split at he <;> simp only [Option.some.injEq, reduceCtorEq] at he
    rename_i hk1 hk2
    have := kind_int hk1; subst this
    have := kind_int hk2; subst this
    subst he
    exact ⟨.int _ _, by simp [convert, run_underlying a2, run_underlying b2, Conv.intToInt]; exact ⟨rfl, rfl⟩, by simp [RepA, RepD]⟩
  · rename_i ts td l hts htd
    obtain ⟨is, ds, a1, a2, rfl⟩ := tinf_some hts
    obtain ⟨it, dt, b1, b2, rfl⟩ := tinf_some htd
    simp only [RepA, RepD] at hp
    subst hp
    split at he <;> simp only [Option.some.injEq, reduceCtorEq] at he
    rename_i hk1 hk2
    have := kind_string hk1; subst this
    have := kind_string hk2; subst this
    subst he
    exact ⟨.string _, by simp [convert, run_underlying a2, run_underlying b2]; rfl, by simp [RepA, RepD]⟩
  · cases he
end Go.Ab
