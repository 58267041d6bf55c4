/- Operations that do not meet may change places: a region that draws its order is as it stands in the text. -/
import Derived.Test.YtnbbnkmaoaogeaaDoorAbStep
set_option linter.all false
namespace Go.Ab

theorem effF_congr {P : Program} {ρ ρ' : Operand → AV} {o : Oper} {bl : Nat → Blk} (h : ∀ x ∈ o.op.operands, ρ x = ρ' x) : effF P ρ o bl = effF P ρ' o bl := by
  obtain ⟨dst, op, type, pos, after, guard⟩ := o
  have pairs : ∀ ps : List (Nat × Operand), (∀ x ∈ ps.map (·.2), ρ x = ρ' x) → (ps.map fun p => (p.1, ρ p.2)) = (ps.map fun p => (p.1, ρ' p.2)) := fun ps hp =>
    List.map_congr_left fun p hm => by rw [hp p.2 (List.mem_map.2 ⟨p, hm, rfl⟩)]
  simp only at h
  cases op <;> simp only [Op.operands] at h <;> simp only [effF]
  case build t ps => rw [pairs _ (fun x hx => h x (by simpa using hx))]
  case buildSlice t n ps => rw [pairs _ (fun x hx => h x (by simpa using hx))]
  case makeFunc fn first caps =>
    cases fn <;> simp only
    rw [List.map_congr_left fun x hx => h x (by simp [Array.mem_toList_iff.1 hx])]
  case slice t x lo hi mx => cases lo <;> cases hi <;> cases mx <;> simp_all
  case call c =>
    obtain ⟨callee, args, argTypes⟩ := c
    have ha : ∀ x ∈ args.toList, ρ x = ρ' x := fun x hx => h x (by simp [Call.operands, Array.mem_toList_iff.1 hx])
    unfold builtinE
    simp only
    split
    · split
      · rename_i x t hx ht
        rw [ha x (by rw [hx]; simp)]
      · rfl
    · split
      · rename_i s x t t' hx ht
        rw [ha s (by rw [hx]; simp), ha x (by rw [hx]; simp)]
      · rfl
    · split
      · rename_i x y hx
        rw [ha x (by rw [hx]; simp), ha y (by rw [hx]; simp)]
      · rfl
    · split
      · rename_i x y hx
        rw [ha x (by rw [hx]; simp), ha y (by rw [hx]; simp)]
      · rfl
    · rfl
  all_goals (first | rfl | (simp_all; done))

theorem callEff_congr {E : Env} {ρ ρ' : Operand → AV} {o : Oper} {bl : Nat → Blk} {res : AV} {wr : List (Nat × Blk)} (h : ∀ x ∈ o.op.operands, ρ x = ρ' x) (hc : CallEff E ρ o bl res wr) : CallEff E ρ' o bl res wr := by
  obtain ⟨c, fo, f, caps, ks, d, y, B', hop, hcal, hfo, hdst, ok, hres, hwr⟩ := hc
  rw [hop] at h
  obtain ⟨callee, args, argTypes⟩ := c
  simp only at hcal
  subst hcal
  simp only [Op.operands, Call.operands] at h
  have ha : args.toList.map ρ = args.toList.map ρ' := List.map_congr_left fun x hx => h x (by simp [Array.mem_toList_iff.1 hx])
  have hf : ρ fo = ρ' fo := h fo (by simp)
  refine ⟨_, fo, f, caps, ks, d, y, B', hop, rfl, by rw [← hf]; exact hfo, hdst, ?_, hres, ?_⟩
  · simp only [← ha]; exact ok
  · simp only [← ha]; exact hwr

theorem evG_upd {G : Nat → Option (List D)} {s : Nat → AV} {dst : Option Tmp} {v : AV} {x : Operand} (h : ∀ d, dst = some d → x ≠ .tmp d) :
    evG G (updO s dst v) x = evG G s x := by
  cases dst with
  | none => rfl
  | some d =>
    cases x with
    | tmp t =>
      have : t ≠ d := fun e => h d rfl (by rw [e])
      simp [evG, updO, upd, this]
    | _ => rfl

theorem looks_operand {ops : Array Oper} {o : Oper} {t : Tmp} (h : .tmp t ∈ o.op.operands) : t ∈ o.looksAt ops := by
  unfold Oper.looksAt
  exact List.mem_append_left _ (List.mem_filterMap.2 ⟨.tmp t, by simpa using h, rfl⟩)

theorem wantedA_upd {ops : Array Oper} {o : Oper} {s : Nat → AV} {dst : Option Tmp} {v : AV} (h : ∀ d, dst = some d → d ∉ o.looksAt ops) :
    wantedA ops o (updO s dst v) = wantedA ops o s := by
  cases dst with
  | none => rfl
  | some d =>
    unfold wantedA
    split
    · rfl
    · rename_i j want hg
      split
      · rename_i t ht
        have : t ≠ d := fun e => h d rfl (by subst e; simp [Oper.looksAt, hg, ht])
        simp [updO, upd, this]
      · rfl

/-- What the operation does where the slots that it looks at and the blocks that it touches are the same. -/
theorem Step.at {E : Env} {ops : Array Oper} {o : Oper} {st st' : St} {t wn : List Nat} (h : Step E ops o st st' t wn) :
    ∃ v wr, st' = st.put o.dst v wr ∧ wn = wr.map (·.1) ∧ (∀ n ∈ wn, n ∈ t) ∧
      ∀ st2 : St, wantedA ops o st2.s = wantedA ops o st.s → (∀ x ∈ o.op.operands, evG E.G st2.s x = evG E.G st.s x) → (∀ n ∈ t, st2.b n = st.b n) → Step E ops o st2 (st2.put o.dst v wr) t wn := by
  rcases h with ⟨hw, res, wr, heff, hwr, rfl, rfl⟩ | ⟨hw, rfl, rfl, rfl⟩
  · refine ⟨res, wr, rfl, rfl, fun n hn => ?_, fun st2 h1 h2 h3 => .inl ⟨h1.trans hw, res, wr, ?_, hwr, rfl, rfl⟩⟩
    · obtain ⟨p, hp, rfl⟩ := List.mem_map.1 hn
      exact hwr p hp
    · have hr : restr t st2.b = restr t st.b := by
        funext n
        unfold restr
        split
        · rename_i hn; exact h3 n hn
        · rfl
      rw [hr]
      rcases heff with he | he
      · exact .inl (by rw [effF_congr h2]; exact he)
      · exact .inr (callEff_congr (fun x hx => (h2 x hx).symm) he)
  · exact ⟨.sk, [], rfl, rfl, (fun n hn => by cases hn), fun st2 h1 _ _ => .inr ⟨h1.trans hw, rfl, rfl, rfl⟩⟩

theorem upd_comm {α : Type} (f : Nat → α) {i j : Nat} (x y : α) (h : i ≠ j) : upd (upd f i x) j y = upd (upd f j y) i x := by
  funext k
  simp only [upd]
  split <;> split <;> first | rfl | (rename_i a b; exact absurd (b.symm.trans a) h)
theorem upds_upd {α : Type} (f : Nat → α) {i : Nat} (x : α) : ∀ (l : List (Nat × α)), (∀ p ∈ l, p.1 ≠ i) → upds (upd f i x) l = upd (upds f l) i x
  | [], _ => rfl
  | p :: l, h => by
    show upds (upd (upd f i x) p.1 p.2) l = _
    rw [upd_comm f x p.2 (Ne.symm (h p List.mem_cons_self)), upds_upd _ x l fun q hq => h q (List.mem_cons_of_mem _ hq)]
    rfl
theorem upds_comm {α : Type} (f : Nat → α) : ∀ (l l' : List (Nat × α)), (∀ p ∈ l, ∀ q ∈ l', p.1 ≠ q.1) → upds (upds f l) l' = upds (upds f l') l
  | [], _, _ => rfl
  | p :: l, l', h => by
    show upds (upds (upd f p.1 p.2) l) l' = upds (upd (upds f l') p.1 p.2) l
    rw [upds_comm (upd f p.1 p.2) l l' fun a ha b hb => h a (List.mem_cons_of_mem _ ha) b hb, upds_upd f p.2 l' fun q hq => (h p List.mem_cons_self q hq).symm]

theorem St.put_comm (st : St) {d d' : Option Tmp} (v v' : AV) (wr wr' : List (Nat × Blk)) (hd : ∀ x, d = some x → d' ≠ some x) (hw : ∀ p ∈ wr, ∀ q ∈ wr', p.1 ≠ q.1) :
    (st.put d v wr).put d' v' wr' = (st.put d' v' wr').put d v wr := by
  unfold St.put
  congr 1
  · cases d <;> cases d' <;> simp only [updO]
    rename_i a b
    exact upd_comm _ _ _ fun e => hd a rfl (by rw [e])
  · exact upds_comm _ _ _ hw

def disj (l l' : List Nat) : Prop := ∀ n ∈ l, n ∉ l'

/-- Two operations that do not meet change places. -/
theorem Step.swap {E : Env} {ops : Array Oper} {x y : Oper} {s s1 s2 : St} {tx wx ty wy : List Nat} (hap : x.apart ops y = true) (h1 : disj wx ty) (h2 : disj wy tx)
    (hx : Step E ops x s s1 tx wx) (hy : Step E ops y s1 s2 ty wy) : ∃ s1', Step E ops y s s1' ty wy ∧ Step E ops x s1' s2 tx wx := by
  obtain ⟨a1, a2, a3⟩ := Oper.apart_spec hap
  obtain ⟨vx, wrx, rfl, rfl, hwx, kx⟩ := hx.at
  obtain ⟨vy, wry, rfl, rfl, hwy, ky⟩ := hy.at
  have noty : ∀ n ∈ ty, upds s.b wrx n = s.b n := fun n hn => upds_not fun p hp e => h1 p.1 (List.mem_map.2 ⟨p, hp, rfl⟩) (e ▸ hn)
  have notx : ∀ n ∈ tx, upds s.b wry n = s.b n := fun n hn => upds_not fun p hp e => h2 p.1 (List.mem_map.2 ⟨p, hp, rfl⟩) (e ▸ hn)
  have sy : Step E ops y s (s.put y.dst vy wry) ty (wry.map (·.1)) := ky s
    (by simp only [St.put]; exact (wantedA_upd a1).symm)
    (fun z hz => by
      simp only [St.put]
      exact (evG_upd fun d hd e => a1 d hd (looks_operand (by rw [← e]; exact hz))).symm)
    (fun n hn => (noty n hn).symm)
  refine ⟨_, sy, ?_⟩
  have sx := kx (s.put y.dst vy wry)
    (by simp only [St.put]; exact wantedA_upd a3)
    (fun z hz => by
      simp only [St.put]
      exact evG_upd fun d hd e => a3 d hd (looks_operand (by rw [← e]; exact hz)))
    (fun n hn => notx n hn)
  rw [St.put_comm s vx vy wrx wry a2 (fun p hp q hq e => h1 p.1 (List.mem_map.2 ⟨p, hp, rfl⟩) (hwy _ (List.mem_map.2 ⟨q, hq, e.symm⟩)))]
  exact sx
end Go.Ab
