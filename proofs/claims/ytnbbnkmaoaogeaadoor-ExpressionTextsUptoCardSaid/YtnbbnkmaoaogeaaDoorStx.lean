/- The library's functions on texts. -/
import Derived.Test.YtnbbnkmaoaogeaaDoorEvl
import Derived.Test.YtnbbnkmaoaogeaaDoorAbB
import Derived.Test.YtnbbnkmaoaogeaaDoorShl
set_option linter.all false
namespace Go.Proofs.Tryd
open Go.Ab Go.RowKit Go.Sort

/-- What is known where numbers are written. -/
noncomputable def Et : Env := ⟨Tryd.prog, fun g => if g = 0 then some [.int .i64 0, .int .i64 0, .str []] else if g = 1 then some opsC else if g = 4 then some (Lib.pow10Tab.map fun z => D.int .u64 z) else none⟩
@[simp] theorem Et_P : Et.P = Tryd.prog := id rfl
@[simp] theorem Et_G (g : Nat) : Et.G g = if g = 0 then some [.int .i64 0, .int .i64 0, .str []] else if g = 1 then some opsC else if g = 4 then some (Lib.pow10Tab.map fun z => D.int .u64 z) else none := rfl
theorem mixt : Et.P.follows .mixedOrders = true := by kernel_rfl
theorem upT {f : FuncId} {xs : List AV} {B : List Blk} {y : AV} {B' : List Blk} (h : Cf Eo f xs B y B') : Cf Et f xs B y B' :=
  Cf.more (E := Eo) (E' := Et) rfl (fun g cs e => by
    rw [Eo_G] at e
    rw [Et_G]
    split at e
    · rename_i h0; rw [if_pos h0]; exact e
    · rename_i h0
      split at e
      · rename_i h1; rw [if_neg h0, if_pos h1]; exact e
      · cases e) h
theorem gPow : Tryd.prog.globalNamed "internal/strconv.uint64pow10" = some 4 := by kernel_rfl
theorem grow_below {w : World} {k : Nat} {os : Array Obj} : Below w.heap.size w (grow (w.drewN k) os) :=
  ⟨rfl, rfl, rfl, by simp [grow, World.drewN], fun i hi => by rw [heap_grow_old _ _ (by simpa [World.drewN] using hi)]; rfl⟩
theorem f_join (l : List (List UInt8)) (sep : List UInt8) (hN : l.length ≤ 140737488355328) (hlen : (Lib.join l sep).length ≤ 140737488355328) :
    Cf Et 76 [.d (.sl (l.map fun s => [.str s])), .d (.str sep)] [] (.d (.str (Lib.join l sep))) [] := by
  refine cf_of_calls (by kernel_rfl) fun w g vs hr m => ?_
  simp only [RepAs, RepA, RepD] at hr
  obtain ⟨u, us, rfl, ⟨a, cap, rfl, hcap, hr⟩, u2, us2, rfl, rfl, rfl⟩ := hr
  simp only [List.length_map] at hcap hr ⊢
  by_cases h0 : l = []
  · subst h0
    refine (Tryd.strings_Join_none a cap ⟨sep.toArray⟩ w).mono ?_
    rintro e w' ⟨rfl, rfl⟩
    exact ⟨_, rfl, by simp [RepA, RepD, Lib.join], Below.refl _ _⟩
  · rcases hr with hr | ⟨b, o, sz, rfl, hels⟩
    · simp at hr; exact absurd hr h0
    · have hget := RepEls_iff.1 hels
      have hsz : sz = 1 := by
        have hpos : 0 < l.length := List.length_pos_iff.2 h0
        have := (hget 0 [.str l[0]] (by rw [List.getElem?_map, List.getElem?_eq_getElem hpos]; rfl)).1
        simpa using this.symm
      subst hsz
      have hc : ∀ (j : Nat) x, (l.map fun s => (⟨s.toArray⟩ : ByteArray))[j]? = some x → w.cell? ⟨b, o + j, none⟩ = some (.string x) := fun j x hx => by
        rw [List.getElem?_map, Option.map_eq_some_iff] at hx
        obtain ⟨s, hs, rfl⟩ := hx
        obtain ⟨_, hr⟩ := hget j [.str s] (by rw [List.getElem?_map, hs]; rfl)
        obtain ⟨v, hv, hrv⟩ := hr.1
        have := m.con _ _ _ hv
        simp only [RepD] at hrv
        subst hrv
        rw [← this]
        congr 2
        omega
      have hbk : b < w.heap.size := by
        have hpos : 0 < l.length := List.length_pos_iff.2 h0
        have := hc 0 ⟨l[0].toArray⟩ (by rw [List.getElem?_map, List.getElem?_eq_getElem hpos]; rfl)
        unfold World.cell? at this
        rcases Nat.lt_or_ge b w.heap.size with c | c
        · exact c
        · rw [show w.heap[b]? = none from Array.getElem?_eq_none c] at this
          cases this
      have hmm : (l.map fun s => (⟨s.toArray⟩ : ByteArray)).map (fun x => x.data.toList) = l := by
        rw [List.map_map]
        exact List.map_id' l
      have := Tryd.strings_Join b o cap (l.map fun s => (⟨s.toArray⟩ : ByteArray)) ⟨sep.toArray⟩ w hc hbk (by simpa using hN) (by simpa using hcap) (by rw [hmm]; exact hlen)
      rw [hmm] at this
      simp only [List.length_map] at this
      refine this.mono ?_
      rintro e w' ⟨rfl, hb⟩
      exact ⟨_, rfl, by simp only [RepA, RepD], hb⟩
theorem f_itoa (n : Int) (h0 : -9223372036854775808 ≤ n) (h1 : n ≤ 9223372036854775807) : Cf Et 74 [.d (.int .i64 n)] [] (.d (.str (Lib.itoa n))) [] := by
  refine cf_of_calls (by kernel_rfl) fun w g vs hr m => ?_
  simp only [RepAs, RepA, RepD] at hr
  obtain ⟨u, us, rfl, rfl, rfl⟩ := hr
  refine (Tryd.strconv_Itoa n h0 h1 w (tab_of_mem m gPow rfl)).mono ?_
  rintro e w' ⟨rfl, k, os, rfl⟩
  exact ⟨_, rfl, by simp only [RepA, RepD], grow_below⟩
theorem f_formatInt (n : Int) (h0 : -9223372036854775808 ≤ n) (h1 : n ≤ 9223372036854775807) : Cf Et 71 [.d (.int .i64 n), .d (.int .i64 10)] [] (.d (.str (Lib.itoa n))) [] := by
  refine cf_of_calls (by kernel_rfl) fun w g vs hr m => ?_
  simp only [RepAs, RepA, RepD] at hr
  obtain ⟨u, us, rfl, rfl, u2, us2, rfl, rfl, rfl⟩ := hr
  refine (Tryd.strconv_FormatInt_10 n h0 h1 w (tab_of_mem m gPow rfl)).mono ?_
  rintro e w' ⟨rfl, k, os, rfl⟩
  exact ⟨_, rfl, by simp only [RepA, RepD], grow_below⟩
end Go.Proofs.Tryd
