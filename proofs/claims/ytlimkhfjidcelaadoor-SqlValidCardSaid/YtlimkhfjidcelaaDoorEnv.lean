/- What the program's listed variables hold: the signs of operators, and the length that the library's search looks up. -/
import Derived.Test.YtlimkhfjidcelaaDoorNamp
import Derived.Test.YtlimkhfjidcelaaDoorExc0
import Derived.Test.YtlimkhfjidcelaaDoorShc
import Derived.Test.YtlimkhfjidcelaaDoorAbB
set_option linter.all false
namespace Go.Proofs.Tryd
open Go.Ab
set_option maxRecDepth 100000

abbrev Sop := List UInt8 × Int × Int × Int
def sops : List Sop := [([], 0, 0, 0), ([], 0, 0, 0), ([], 0, 0, 0), ([], 0, 0, 0), ([], 0, 0, 0), ([], 0, 0, 0), ([43], 4, 4, 5), ([45], 4, 4, 5), ([42], 5, 5, 6), ([47], 5, 5, 6), ([109, 111, 100], 5, 5, 6), ([], 0, 0, 0), ([124, 124], 4, 4, 5), ([], 0, 0, 0), ([61], 3, 4, 4), ([60, 62], 3, 4, 4), ([60], 3, 4, 4), ([60, 61], 3, 4, 4), ([62], 3, 4, 4), ([62, 61], 3, 4, 4), ([115, 97, 109, 101], 3, 4, 4), ([], 0, 0, 0), ([97, 110, 100], 1, 1, 2), ([111, 114], 0, 0, 1)]
def sopC (o : Sop) : List D := [.str o.1, .int .i64 o.2.1, .int .i64 o.2.2.1, .int .i64 o.2.2.2]
def sopsC : List D := sops.flatMap sopC
def isI64 (v : Value) : Prop := ∃ m, v = .int .i64 m
noncomputable def Es : Env := ⟨Tryd.prog, fun g => if g = 1 then some sopsC else if g = 6 then some [.any isI64] else none⟩
@[simp] theorem Es_P : Es.P = Tryd.prog := id rfl
@[simp] theorem Es_G (g : Nat) : Es.G g = if g = 1 then some sopsC else if g = 6 then some [.any isI64] else none := rfl
theorem mixs : Es.P.follows .mixedOrders = true := by kernel_rfl
theorem ups {f : FuncId} {xs : List AV} {B : List Blk} {y : AV} {B' : List Blk} (h : Cf En f xs B y B') : Cf Es f xs B y B' :=
  Cf.more (E := En) (E' := Es) rfl (fun g cs e => by rw [En_G] at e; cases e) h

/-- The reserved words. -/
def words : List (List UInt8) := [[115, 101, 108, 101, 99, 116], [100, 105, 115, 116, 105, 110, 99, 116], [97, 108, 108], [102, 114, 111, 109], [119, 104, 101, 114, 101], [103, 114, 111, 117, 112], [98, 121], [104, 97, 118, 105, 110, 103], [97, 115], [111, 110], [117, 110, 105, 111, 110], [101, 120, 99, 101, 112, 116], [105, 110, 116, 101, 114, 115, 101, 99, 116], [106, 111, 105, 110], [105, 110, 110, 101, 114], [108, 101, 102, 116], [114, 105, 103, 104, 116], [102, 117, 108, 108], [99, 114, 111, 115, 115], [115, 101, 109, 105], [97, 110, 116, 105], [97, 110, 100], [111, 114], [110, 111, 116], [105, 115], [110, 117, 108, 108], [116, 114, 117, 101], [102, 97, 108, 115, 101], [105, 110], [99, 97, 115, 101], [119, 104, 101, 110], [116, 104, 101, 110], [101, 108, 115, 101], [101, 110, 100], [118, 97, 108, 117, 101, 115], [116, 97, 98, 108, 101], [112, 114, 105, 109, 97, 114, 121], [117, 110, 105, 113, 117, 101], [102, 111, 114, 101, 105, 103, 110], [114, 101, 102, 101, 114, 101, 110, 99, 101, 115], [99, 104, 101, 99, 107], [105, 110, 116], [98, 111, 111, 108], [116, 101, 120, 116], [99, 111, 117, 110, 116], [115, 117, 109], [109, 105, 110], [109, 97, 120], [99, 111, 97, 108, 101, 115, 99, 101], [108, 101, 110, 103, 116, 104], [115, 97, 109, 101], [109, 111, 100]]

theorem rest_cell {w : World} {g : Gh} {B : List Blk} {bl : Nat → Blk} (m : Mem (ctxOf Es w g B) bl w g) : ∃ n, w.cell? ⟨6, 0, none⟩ = some (.int .i64 n) := by
  have hc := m.glob 6 [.any isI64] (by simp [ctxOf])
  simp only [RepCells, RepD] at hc
  obtain ⟨⟨v, hv, ⟨n, rfl⟩, _⟩, _⟩ := hc
  exact ⟨n, m.con _ _ _ hv⟩
theorem c_contains (s sub : List UInt8) (hs : s.length < 4294967281) : Cf Es 118 [.d (.str s), .d (.str sub)] [] (.d (.bool (within sub s))) [] := by
  refine cf_of_calls (by kernel_rfl) fun w g vs hr m => ?_
  obtain ⟨_, _, rfl, r1, _, _, rfl, r2, r3⟩ := hr
  simp only [RepAs] at r3
  subst r3
  simp only [RepA, RepD] at r1 r2
  subst r1 r2
  obtain ⟨n, hn⟩ := rest_cell m
  refine (Tryd.strings_Contains _ _ n w (by simpa [ByteArray.size_mk'] using hs) hn).mono ?_
  rintro e w' ⟨rfl, rfl⟩
  refine ⟨_, rfl, ?_, .refl _ _⟩
  simp only [RepA, RepD, Lib.contains, within_index]
end Go.Proofs.Tryd
