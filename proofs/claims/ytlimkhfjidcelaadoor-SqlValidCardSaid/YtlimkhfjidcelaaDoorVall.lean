/- A condition on all elements of a list. -/
import Derived.Test.YtlimkhfjidcelaaDoorVsp
import Derived.Test.YtlimkhfjidcelaaDoorAbB
set_option linter.all false
namespace Go.Proofs.Tryd
open Go.Ab
set_option maxRecDepth 100000
set_option maxHeartbeats 1000000

def firstNot {α : Type} (p : α → Bool) (l : List α) : Int := match l.findIdx? fun x => !p x with
  | some i => i
  | none => -1
theorem firstNot_neg {α : Type} (p : α → Bool) (l : List α) : decide (0 ≤ firstNot p l) = !l.all p := by
  unfold firstNot
  cases hf : l.findIdx? fun x => !p x with
  | none =>
    rw [List.findIdx?_eq_none_iff] at hf
    have : l.all p = true := List.all_eq_true.2 fun x hx => by simpa using hf x hx
    simp [this]
  | some i =>
    rw [List.findIdx?_eq_some_iff_getElem] at hf
    obtain ⟨hi, hx, _⟩ := hf
    have : l.all p = false := by
      rw [List.all_eq_false]
      exact ⟨_, List.getElem_mem hi, by simpa using hx⟩
    simp [this]
theorem firstNot_some {α : Type} {p : α → Bool} {l : List α} {i : Nat} {x : α} (h : l[i]? = some x) (hx : p x = false) (ho : ∀ j (y : α), j < i → l[j]? = some y → p y = true) : firstNot p l = i := by
  obtain ⟨hi, rfl⟩ := List.getElem?_eq_some_iff.1 h
  unfold firstNot
  have : (l.findIdx? fun x => !p x) = some i := by
    rw [List.findIdx?_eq_some_iff_getElem]
    exact ⟨hi, by simp [hx], fun j hj => by simp [ho j l[j] hj (List.getElem?_eq_getElem (by omega))]⟩
  rw [this]
theorem firstNot_none {α : Type} {p : α → Bool} {l : List α} (ho : ∀ j (y : α), j < l.length → l[j]? = some y → p y = true) : firstNot p l = -1 := by
  unfold firstNot
  have : (l.findIdx? fun x => !p x) = none := by
    rw [List.findIdx?_eq_none_iff]
    intro x hx
    obtain ⟨j, hj, rfl⟩ := List.getElem_of_mem hx
    simp [ho j _ hj (List.getElem?_eq_getElem hj)]
  rw [this]

theorem not_T (F : FuncId) (p : Tm → Bool) (x : Tm) (h : Cf Es F [x.a] [] (.d (.bool (p x))) []) : Cf Es 111 [x.a, .ptr firstName 0 0] [.var [.clo F []]] (.d (.bool (!p x))) [.var [.clo F []]] := by
  refine cf_intro mixs (fn := Tryd.f111) (by kernel_rfl) rfl (by kernel_rfl) (by decide) (by simp) ?_
  have c1 := x.clen
  have k1 := x.ctake
  simp [Tm.a, c1, k1]
  refine ⟨.of (by kernel_rfl), ?_⟩
  refine acallT_plain h (by simp [Tm.a]) ?_
  simp
  (repeat' (first | contradiction | exact .of (by kernel_rfl) | refine And.intro ?_ ?_ | intro _ | (refine agrd_cases (fun h => ?_) (fun h => ?_) <;> (have h' := h; (try simp at h'); first | done | simp [h, h'] | simp))))
theorem index_T (F : FuncId) (p : Tm → Bool) (l : List Tm) (hn : l.length ≤ 9223372036854775807) (h : ∀ x ∈ l, Cf Es F [x.a] [] (.d (.bool (p x))) []) :
    Cf Es 139 [.d (.sl (l.map Tm.c)), .clo 111 [.ptr firstName 0 0]] [.var [.clo F []]] (.d (.int .i64 (firstNot p l))) [.var [.clo F []]] := by
  refine cf_intro mixs (fn := Tryd.f139) (by kernel_rfl) rfl (by kernel_rfl) (by decide) (by simp) ?_
  generalize hres : firstNot p l = res
  simp
  (repeat refine ⟨.of (by kernel_rfl), ?_⟩)
  refine aloopT mixs (by decide) (fun i : Nat => { s := mkS [(0, .d (.sl (l.map Tm.c))), (1, .clo 111 [.ptr 1000000 0 0]), (7, .d (.int .i64 l.length)), (8, .d (.int .i64 i))], b := mkB [(1000000, 1000000, .var [.clo F []])] }) (fun i : Nat => i ≤ l.length ∧ ∀ j (y : Tm), j < i → l[j]? = some y → p y = true) (fun i => l.length - i) 0 (by simp) (sub_mk _ [(1000000, 1000000, _)] ⟨by simp, by simp, by simp [renOf, Blk.live], base1⟩ (by simp [renOf])) ?_
  rintro i ⟨hi, ho⟩
  by_cases hlt : i < l.length
  · have hlt' : (i : Int) < l.length := by omega
    obtain ⟨x, hg⟩ : ∃ x, l[i]? = some x := ⟨_, List.getElem?_eq_getElem hlt⟩
    have hgi : ∀ h, l[i]'h = x := fun h => (List.getElem?_eq_some_iff.1 hg).2
    have hx := not_T F p x (h x (List.mem_of_getElem? hg))
    have c1 := x.clen
    have k1 := x.ctake
    simp [hlt, hlt', hg, hgi, c1, k1]
    (repeat refine ⟨.of (by kernel_rfl), ?_⟩)
    refine acallT_hand [1000000] hx (by simp) (by simp) (by simp) (by simp) (by simp [Tm.a]) ?_
    simp
    refine ⟨.of (by kernel_rfl), fun h => ⟨.of (by kernel_rfl), ?_⟩, fun h => ⟨.of (by kernel_rfl), i + 1, ⟨hlt, ?_⟩, ?_, ?_⟩⟩
    · rw [← hres]
      have := firstNot_some hg h ho
      simp [this]
    · intro j y hj hy
      rcases Nat.lt_or_ge j i with c | c
      · exact ho j y c hy
      · obtain rfl : j = i := by omega
        rw [hg] at hy
        cases hy
        exact h
    · refine sub_mk _ [(1000000, 1000000, _)] ⟨by simp, by simp, by simp [renOf, Blk.live], base1⟩ ?_
      simp [renOf]
      exact wrap_in (by omega) (by omega)
    · simp; omega
  · have hlt' : ¬ (i : Int) < l.length := by omega
    simp [hlt, hlt']
    (repeat refine ⟨.of (by kernel_rfl), ?_⟩)
    rw [← hres]
    have := firstNot_none (p := p) (l := l) fun j y hj hy => ho j y (by omega) hy
    simp [this]
theorem contains_T (F : FuncId) (p : Tm → Bool) (l : List Tm) (hn : l.length ≤ 9223372036854775807) (h : ∀ x ∈ l, Cf Es F [x.a] [] (.d (.bool (p x))) []) :
    Cf Es 110 [.d (.sl (l.map Tm.c)), .clo 111 [.ptr firstName 0 0]] [.var [.clo F []]] (.d (.bool (!l.all p))) [.var [.clo F []]] := by
  refine cf_intro mixs (fn := Tryd.f110) (by kernel_rfl) rfl (by kernel_rfl) (by decide) (by simp) ?_
  have hx := index_T F p l hn h
  have hd := firstNot_neg p l
  simp
  (repeat refine ⟨.of (by kernel_rfl), ?_⟩)
  refine acallT_hand [1000000] hx (by simp) (by simp) (by simp) (by simp) (by simp) ?_
  simp [hd]
  (repeat' (first | contradiction | exact .of (by kernel_rfl) | refine And.intro ?_ ?_ | intro _ | (refine agrd_cases (fun h => ?_) (fun h => ?_) <;> (have h' := h; (try simp at h'); first | done | simp [h, h', hd] | simp [hd]))))
theorem all_T (F : FuncId) (p : Tm → Bool) (l : List Tm) (hn : l.length ≤ 9223372036854775807) (h : ∀ x ∈ l, Cf Es F [x.a] [] (.d (.bool (p x))) []) :
    Cf Es 78 [.d (.sl (l.map Tm.c)), .clo F []] [] (.d (.bool (l.all p))) [] := by
  refine cf_intro mixs (fn := Tryd.f78) (by kernel_rfl) rfl (by kernel_rfl) (by decide) (by simp) ?_
  have hx := contains_T F p l hn h
  generalize hA : l.all p = A at *
  simp
  (repeat refine ⟨.of (by kernel_rfl), ?_⟩)
  refine acallT_hand [3] hx (by simp) (by simp) (by simp) (by simp) (by simp) ?_
  simp
  (repeat' (first | contradiction | exact .of (by kernel_rfl) | refine And.intro ?_ ?_ | intro _ | (refine agrd_cases (fun h => ?_) (fun h => ?_) <;> (have h' := h; (try simp at h'); first | done | simp [h, h'] | simp))))

theorem not_I (F : FuncId) (p : It → Bool) (x : It) (h : Cf Es F [x.a] [] (.d (.bool (p x))) []) : Cf Es 107 [x.a, .ptr firstName 0 0] [.var [.clo F []]] (.d (.bool (!p x))) [.var [.clo F []]] := by
  refine cf_intro mixs (fn := Tryd.f107) (by kernel_rfl) rfl (by kernel_rfl) (by decide) (by simp) ?_
  have c1 := x.clen
  have k1 := x.ctake
  simp [It.a, c1, k1]
  refine ⟨.of (by kernel_rfl), ?_⟩
  refine acallT_plain h (by simp [It.a]) ?_
  simp
  (repeat' (first | contradiction | exact .of (by kernel_rfl) | refine And.intro ?_ ?_ | intro _ | (refine agrd_cases (fun h => ?_) (fun h => ?_) <;> (have h' := h; (try simp at h'); first | done | simp [h, h'] | simp))))
theorem index_I (F : FuncId) (p : It → Bool) (l : List It) (hn : l.length ≤ 9223372036854775807) (h : ∀ x ∈ l, Cf Es F [x.a] [] (.d (.bool (p x))) []) :
    Cf Es 137 [.d (.sl (l.map It.c)), .clo 107 [.ptr firstName 0 0]] [.var [.clo F []]] (.d (.int .i64 (firstNot p l))) [.var [.clo F []]] := by
  refine cf_intro mixs (fn := Tryd.f137) (by kernel_rfl) rfl (by kernel_rfl) (by decide) (by simp) ?_
  generalize hres : firstNot p l = res
  simp
  (repeat refine ⟨.of (by kernel_rfl), ?_⟩)
  refine aloopT mixs (by decide) (fun i : Nat => { s := mkS [(0, .d (.sl (l.map It.c))), (1, .clo 107 [.ptr 1000000 0 0]), (7, .d (.int .i64 l.length)), (8, .d (.int .i64 i))], b := mkB [(1000000, 1000000, .var [.clo F []])] }) (fun i : Nat => i ≤ l.length ∧ ∀ j (y : It), j < i → l[j]? = some y → p y = true) (fun i => l.length - i) 0 (by simp) (sub_mk _ [(1000000, 1000000, _)] ⟨by simp, by simp, by simp [renOf, Blk.live], base1⟩ (by simp [renOf])) ?_
  rintro i ⟨hi, ho⟩
  by_cases hlt : i < l.length
  · have hlt' : (i : Int) < l.length := by omega
    obtain ⟨x, hg⟩ : ∃ x, l[i]? = some x := ⟨_, List.getElem?_eq_getElem hlt⟩
    have hgi : ∀ h, l[i]'h = x := fun h => (List.getElem?_eq_some_iff.1 hg).2
    have hx := not_I F p x (h x (List.mem_of_getElem? hg))
    have c1 := x.clen
    have k1 := x.ctake
    simp [hlt, hlt', hg, hgi, c1, k1]
    (repeat refine ⟨.of (by kernel_rfl), ?_⟩)
    refine acallT_hand [1000000] hx (by simp) (by simp) (by simp) (by simp) (by simp [It.a]) ?_
    simp
    refine ⟨.of (by kernel_rfl), fun h => ⟨.of (by kernel_rfl), ?_⟩, fun h => ⟨.of (by kernel_rfl), i + 1, ⟨hlt, ?_⟩, ?_, ?_⟩⟩
    · rw [← hres]
      have := firstNot_some hg h ho
      simp [this]
    · intro j y hj hy
      rcases Nat.lt_or_ge j i with c | c
      · exact ho j y c hy
      · obtain rfl : j = i := by omega
        rw [hg] at hy
        cases hy
        exact h
    · refine sub_mk _ [(1000000, 1000000, _)] ⟨by simp, by simp, by simp [renOf, Blk.live], base1⟩ ?_
      simp [renOf]
      exact wrap_in (by omega) (by omega)
    · simp; omega
  · have hlt' : ¬ (i : Int) < l.length := by omega
    simp [hlt, hlt']
    (repeat refine ⟨.of (by kernel_rfl), ?_⟩)
    rw [← hres]
    have := firstNot_none (p := p) (l := l) fun j y hj hy => ho j y (by omega) hy
    simp [this]
theorem contains_I (F : FuncId) (p : It → Bool) (l : List It) (hn : l.length ≤ 9223372036854775807) (h : ∀ x ∈ l, Cf Es F [x.a] [] (.d (.bool (p x))) []) :
    Cf Es 106 [.d (.sl (l.map It.c)), .clo 107 [.ptr firstName 0 0]] [.var [.clo F []]] (.d (.bool (!l.all p))) [.var [.clo F []]] := by
  refine cf_intro mixs (fn := Tryd.f106) (by kernel_rfl) rfl (by kernel_rfl) (by decide) (by simp) ?_
  have hx := index_I F p l hn h
  have hd := firstNot_neg p l
  simp
  (repeat refine ⟨.of (by kernel_rfl), ?_⟩)
  refine acallT_hand [1000000] hx (by simp) (by simp) (by simp) (by simp) (by simp) ?_
  simp [hd]
  (repeat' (first | contradiction | exact .of (by kernel_rfl) | refine And.intro ?_ ?_ | intro _ | (refine agrd_cases (fun h => ?_) (fun h => ?_) <;> (have h' := h; (try simp at h'); first | done | simp [h, h', hd] | simp [hd]))))
theorem all_I (F : FuncId) (p : It → Bool) (l : List It) (hn : l.length ≤ 9223372036854775807) (h : ∀ x ∈ l, Cf Es F [x.a] [] (.d (.bool (p x))) []) :
    Cf Es 73 [.d (.sl (l.map It.c)), .clo F []] [] (.d (.bool (l.all p))) [] := by
  refine cf_intro mixs (fn := Tryd.f73) (by kernel_rfl) rfl (by kernel_rfl) (by decide) (by simp) ?_
  have hx := contains_I F p l hn h
  generalize hA : l.all p = A at *
  simp
  (repeat refine ⟨.of (by kernel_rfl), ?_⟩)
  refine acallT_hand [3] hx (by simp) (by simp) (by simp) (by simp) (by simp) ?_
  simp
  (repeat' (first | contradiction | exact .of (by kernel_rfl) | refine And.intro ?_ ?_ | intro _ | (refine agrd_cases (fun h => ?_) (fun h => ?_) <;> (have h' := h; (try simp at h'); first | done | simp [h, h'] | simp))))

theorem not_J (F : FuncId) (p : Jo → Bool) (x : Jo) (h : Cf Es F [x.a] [] (.d (.bool (p x))) []) : Cf Es 109 [x.a, .ptr firstName 0 0] [.var [.clo F []]] (.d (.bool (!p x))) [.var [.clo F []]] := by
  refine cf_intro mixs (fn := Tryd.f109) (by kernel_rfl) rfl (by kernel_rfl) (by decide) (by simp) ?_
  have c1 := x.clen
  have k1 := x.ctake
  simp [Jo.a, c1, k1]
  refine ⟨.of (by kernel_rfl), ?_⟩
  refine acallT_plain h (by simp [Jo.a]) ?_
  simp
  (repeat' (first | contradiction | exact .of (by kernel_rfl) | refine And.intro ?_ ?_ | intro _ | (refine agrd_cases (fun h => ?_) (fun h => ?_) <;> (have h' := h; (try simp at h'); first | done | simp [h, h'] | simp))))
theorem index_J (F : FuncId) (p : Jo → Bool) (l : List Jo) (hn : l.length ≤ 9223372036854775807) (h : ∀ x ∈ l, Cf Es F [x.a] [] (.d (.bool (p x))) []) :
    Cf Es 138 [.d (.sl (l.map Jo.c)), .clo 109 [.ptr firstName 0 0]] [.var [.clo F []]] (.d (.int .i64 (firstNot p l))) [.var [.clo F []]] := by
  refine cf_intro mixs (fn := Tryd.f138) (by kernel_rfl) rfl (by kernel_rfl) (by decide) (by simp) ?_
  generalize hres : firstNot p l = res
  simp
  (repeat refine ⟨.of (by kernel_rfl), ?_⟩)
  refine aloopT mixs (by decide) (fun i : Nat => { s := mkS [(0, .d (.sl (l.map Jo.c))), (1, .clo 109 [.ptr 1000000 0 0]), (7, .d (.int .i64 l.length)), (8, .d (.int .i64 i))], b := mkB [(1000000, 1000000, .var [.clo F []])] }) (fun i : Nat => i ≤ l.length ∧ ∀ j (y : Jo), j < i → l[j]? = some y → p y = true) (fun i => l.length - i) 0 (by simp) (sub_mk _ [(1000000, 1000000, _)] ⟨by simp, by simp, by simp [renOf, Blk.live], base1⟩ (by simp [renOf])) ?_
  rintro i ⟨hi, ho⟩
  by_cases hlt : i < l.length
  · have hlt' : (i : Int) < l.length := by omega
    obtain ⟨x, hg⟩ : ∃ x, l[i]? = some x := ⟨_, List.getElem?_eq_getElem hlt⟩
    have hgi : ∀ h, l[i]'h = x := fun h => (List.getElem?_eq_some_iff.1 hg).2
    have hx := not_J F p x (h x (List.mem_of_getElem? hg))
    have c1 := x.clen
    have k1 := x.ctake
    simp [hlt, hlt', hg, hgi, c1, k1]
    (repeat refine ⟨.of (by kernel_rfl), ?_⟩)
    refine acallT_hand [1000000] hx (by simp) (by simp) (by simp) (by simp) (by simp [Jo.a]) ?_
    simp
    refine ⟨.of (by kernel_rfl), fun h => ⟨.of (by kernel_rfl), ?_⟩, fun h => ⟨.of (by kernel_rfl), i + 1, ⟨hlt, ?_⟩, ?_, ?_⟩⟩
    · rw [← hres]
      have := firstNot_some hg h ho
      simp [this]
    · intro j y hj hy
      rcases Nat.lt_or_ge j i with c | c
      · exact ho j y c hy
      · obtain rfl : j = i := by omega
        rw [hg] at hy
        cases hy
        exact h
    · refine sub_mk _ [(1000000, 1000000, _)] ⟨by simp, by simp, by simp [renOf, Blk.live], base1⟩ ?_
      simp [renOf]
      exact wrap_in (by omega) (by omega)
    · simp; omega
  · have hlt' : ¬ (i : Int) < l.length := by omega
    simp [hlt, hlt']
    (repeat refine ⟨.of (by kernel_rfl), ?_⟩)
    rw [← hres]
    have := firstNot_none (p := p) (l := l) fun j y hj hy => ho j y (by omega) hy
    simp [this]
theorem contains_J (F : FuncId) (p : Jo → Bool) (l : List Jo) (hn : l.length ≤ 9223372036854775807) (h : ∀ x ∈ l, Cf Es F [x.a] [] (.d (.bool (p x))) []) :
    Cf Es 108 [.d (.sl (l.map Jo.c)), .clo 109 [.ptr firstName 0 0]] [.var [.clo F []]] (.d (.bool (!l.all p))) [.var [.clo F []]] := by
  refine cf_intro mixs (fn := Tryd.f108) (by kernel_rfl) rfl (by kernel_rfl) (by decide) (by simp) ?_
  have hx := index_J F p l hn h
  have hd := firstNot_neg p l
  simp
  (repeat refine ⟨.of (by kernel_rfl), ?_⟩)
  refine acallT_hand [1000000] hx (by simp) (by simp) (by simp) (by simp) (by simp) ?_
  simp [hd]
  (repeat' (first | contradiction | exact .of (by kernel_rfl) | refine And.intro ?_ ?_ | intro _ | (refine agrd_cases (fun h => ?_) (fun h => ?_) <;> (have h' := h; (try simp at h'); first | done | simp [h, h', hd] | simp [hd]))))
theorem all_J (F : FuncId) (p : Jo → Bool) (l : List Jo) (hn : l.length ≤ 9223372036854775807) (h : ∀ x ∈ l, Cf Es F [x.a] [] (.d (.bool (p x))) []) :
    Cf Es 76 [.d (.sl (l.map Jo.c)), .clo F []] [] (.d (.bool (l.all p))) [] := by
  refine cf_intro mixs (fn := Tryd.f76) (by kernel_rfl) rfl (by kernel_rfl) (by decide) (by simp) ?_
  have hx := contains_J F p l hn h
  generalize hA : l.all p = A at *
  simp
  (repeat refine ⟨.of (by kernel_rfl), ?_⟩)
  refine acallT_hand [3] hx (by simp) (by simp) (by simp) (by simp) (by simp) ?_
  simp
  (repeat' (first | contradiction | exact .of (by kernel_rfl) | refine And.intro ?_ ?_ | intro _ | (refine agrd_cases (fun h => ?_) (fun h => ?_) <;> (have h' := h; (try simp at h'); first | done | simp [h, h'] | simp))))

theorem not_S (F : FuncId) (p : Sm → Bool) (x : Sm) (h : Cf Es F [x.a] [] (.d (.bool (p x))) []) : Cf Es 113 [x.a, .ptr firstName 0 0] [.var [.clo F []]] (.d (.bool (!p x))) [.var [.clo F []]] := by
  refine cf_intro mixs (fn := Tryd.f113) (by kernel_rfl) rfl (by kernel_rfl) (by decide) (by simp) ?_
  have c1 := x.clen
  have k1 := x.ctake
  simp [Sm.a, c1, k1]
  refine ⟨.of (by kernel_rfl), ?_⟩
  refine acallT_plain h (by simp [Sm.a]) ?_
  simp
  (repeat' (first | contradiction | exact .of (by kernel_rfl) | refine And.intro ?_ ?_ | intro _ | (refine agrd_cases (fun h => ?_) (fun h => ?_) <;> (have h' := h; (try simp at h'); first | done | simp [h, h'] | simp))))
theorem index_S (F : FuncId) (p : Sm → Bool) (l : List Sm) (hn : l.length ≤ 9223372036854775807) (h : ∀ x ∈ l, Cf Es F [x.a] [] (.d (.bool (p x))) []) :
    Cf Es 140 [.d (.sl (l.map Sm.c)), .clo 113 [.ptr firstName 0 0]] [.var [.clo F []]] (.d (.int .i64 (firstNot p l))) [.var [.clo F []]] := by
  refine cf_intro mixs (fn := Tryd.f140) (by kernel_rfl) rfl (by kernel_rfl) (by decide) (by simp) ?_
  generalize hres : firstNot p l = res
  simp
  (repeat refine ⟨.of (by kernel_rfl), ?_⟩)
  refine aloopT mixs (by decide) (fun i : Nat => { s := mkS [(0, .d (.sl (l.map Sm.c))), (1, .clo 113 [.ptr 1000000 0 0]), (7, .d (.int .i64 l.length)), (8, .d (.int .i64 i))], b := mkB [(1000000, 1000000, .var [.clo F []])] }) (fun i : Nat => i ≤ l.length ∧ ∀ j (y : Sm), j < i → l[j]? = some y → p y = true) (fun i => l.length - i) 0 (by simp) (sub_mk _ [(1000000, 1000000, _)] ⟨by simp, by simp, by simp [renOf, Blk.live], base1⟩ (by simp [renOf])) ?_
  rintro i ⟨hi, ho⟩
  by_cases hlt : i < l.length
  · have hlt' : (i : Int) < l.length := by omega
    obtain ⟨x, hg⟩ : ∃ x, l[i]? = some x := ⟨_, List.getElem?_eq_getElem hlt⟩
    have hgi : ∀ h, l[i]'h = x := fun h => (List.getElem?_eq_some_iff.1 hg).2
    have hx := not_S F p x (h x (List.mem_of_getElem? hg))
    have c1 := x.clen
    have k1 := x.ctake
    simp [hlt, hlt', hg, hgi, c1, k1]
    (repeat refine ⟨.of (by kernel_rfl), ?_⟩)
    refine acallT_hand [1000000] hx (by simp) (by simp) (by simp) (by simp) (by simp [Sm.a]) ?_
    simp
    refine ⟨.of (by kernel_rfl), fun h => ⟨.of (by kernel_rfl), ?_⟩, fun h => ⟨.of (by kernel_rfl), i + 1, ⟨hlt, ?_⟩, ?_, ?_⟩⟩
    · rw [← hres]
      have := firstNot_some hg h ho
      simp [this]
    · intro j y hj hy
      rcases Nat.lt_or_ge j i with c | c
      · exact ho j y c hy
      · obtain rfl : j = i := by omega
        rw [hg] at hy
        cases hy
        exact h
    · refine sub_mk _ [(1000000, 1000000, _)] ⟨by simp, by simp, by simp [renOf, Blk.live], base1⟩ ?_
      simp [renOf]
      exact wrap_in (by omega) (by omega)
    · simp; omega
  · have hlt' : ¬ (i : Int) < l.length := by omega
    simp [hlt, hlt']
    (repeat refine ⟨.of (by kernel_rfl), ?_⟩)
    rw [← hres]
    have := firstNot_none (p := p) (l := l) fun j y hj hy => ho j y (by omega) hy
    simp [this]
theorem contains_S (F : FuncId) (p : Sm → Bool) (l : List Sm) (hn : l.length ≤ 9223372036854775807) (h : ∀ x ∈ l, Cf Es F [x.a] [] (.d (.bool (p x))) []) :
    Cf Es 112 [.d (.sl (l.map Sm.c)), .clo 113 [.ptr firstName 0 0]] [.var [.clo F []]] (.d (.bool (!l.all p))) [.var [.clo F []]] := by
  refine cf_intro mixs (fn := Tryd.f112) (by kernel_rfl) rfl (by kernel_rfl) (by decide) (by simp) ?_
  have hx := index_S F p l hn h
  have hd := firstNot_neg p l
  simp
  (repeat refine ⟨.of (by kernel_rfl), ?_⟩)
  refine acallT_hand [1000000] hx (by simp) (by simp) (by simp) (by simp) (by simp) ?_
  simp [hd]
  (repeat' (first | contradiction | exact .of (by kernel_rfl) | refine And.intro ?_ ?_ | intro _ | (refine agrd_cases (fun h => ?_) (fun h => ?_) <;> (have h' := h; (try simp at h'); first | done | simp [h, h', hd] | simp [hd]))))
theorem all_S (F : FuncId) (p : Sm → Bool) (l : List Sm) (hn : l.length ≤ 9223372036854775807) (h : ∀ x ∈ l, Cf Es F [x.a] [] (.d (.bool (p x))) []) :
    Cf Es 79 [.d (.sl (l.map Sm.c)), .clo F []] [] (.d (.bool (l.all p))) [] := by
  refine cf_intro mixs (fn := Tryd.f79) (by kernel_rfl) rfl (by kernel_rfl) (by decide) (by simp) ?_
  have hx := contains_S F p l hn h
  generalize hA : l.all p = A at *
  simp
  (repeat refine ⟨.of (by kernel_rfl), ?_⟩)
  refine acallT_hand [3] hx (by simp) (by simp) (by simp) (by simp) (by simp) ?_
  simp
  (repeat' (first | contradiction | exact .of (by kernel_rfl) | refine And.intro ?_ ?_ | intro _ | (refine agrd_cases (fun h => ?_) (fun h => ?_) <;> (have h' := h; (try simp at h'); first | done | simp [h, h'] | simp))))
end Go.Proofs.Tryd
