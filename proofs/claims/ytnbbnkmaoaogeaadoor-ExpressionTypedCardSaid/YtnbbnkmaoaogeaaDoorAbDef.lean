/- The abstract machine: data, abstract values, states, what an operation does to them. -/
import Derived.WalkKit
set_option linter.all false
namespace Go.Ab

/-- Data that no one will turn any more: one cell. A slice: its elements, each the list of its cells. -/
inductive D where
  | int (k : IntKind) (n : Int)
  | bool (b : Bool)
  | str (s : List UInt8)
  | val (v : Value)
  | sl (xs : List (List D))

mutual
def RepD (μ : Nat → Nat → Option Value) (v : Value) : D → Prop
  | .int k n => v = .int k n
  | .bool b => v = .bool b
  | .str s => v = .string ⟨s.toArray⟩
  | .val u => v = u ∧ u.oneCell' = true
  | .sl xs => ∃ a cap, v = .slice a xs.length cap ∧ xs.length ≤ cap ∧ (xs = [] ∨ ∃ b o sz, a = some ⟨b, o, none⟩ ∧ RepEls μ b o sz xs)
def RepEls (μ : Nat → Nat → Option Value) (b o sz : Nat) : List (List D) → Prop
  | [] => True
  | x :: xs => x.length = sz ∧ RepCells μ b o x ∧ RepEls μ b (o + sz) sz xs
def RepCells (μ : Nat → Nat → Option Value) (b o : Nat) : List D → Prop
  | [] => True
  | c :: cs => (∃ v, μ b o = some v ∧ RepD μ v c) ∧ RepCells μ b (o + 1) cs
end

/-- What a slot holds. 'ptr n i j': into block n, element i, cell j. 'ref n lo len': a slice over block n. -/
inductive AV where
  | un
  | sk
  | d (x : D)
  | agg (cs : List AV)
  | tup (cs : List AV)
  | ptr (n i j : Nat)
  | dp (cs : List D)
  | ref (n lo len sz : Nat)
  | nils
  | clo (f : FuncId) (caps : List AV)

def AV.cells : AV → List AV
  | .agg cs => cs
  | v => [v]
def AV.isCell : AV → Bool
  | .d _ | .ptr .. | .dp _ | .ref .. | .nils | .clo .. => true
  | _ => false

def AV.good : AV → Bool
  | .un | .sk | .tup _ => false
  | _ => true

inductive Blk where
  | free
  | dead
  | var (cells : List AV)
  | arr (ety sz : Nat) (xs : List (List D)) (frz : Bool)
  | iter (s : List UInt8) (i : Nat)
def Blk.live : Blk → Bool
  | .var _ | .arr .. | .iter .. => true
  | _ => false
def Blk.frzd : Blk → Blk
  | .arr e s xs _ => .arr e s xs true
  | b => b

def upd {α : Type} (f : Nat → α) (i : Nat) (x : α) : Nat → α := fun j => if j = i then x else f j
def upds {α : Type} (f : Nat → α) : List (Nat × α) → Nat → α
  | [] => f
  | (i, x) :: r => upds (upd f i x) r

structure St where
  s : Nat → AV
  b : Nat → Blk

structure Loc where
  blk : Nat
  asz : Nat
  sz : Nat
  nul : Bool

structure Gh where
  μ : Nat → Nat → Option Value
  L : Nat → Option Loc

mutual
def RepA (h : Gh) (v : Value) : AV → Prop
  | .un => True
  | .sk => v = undef
  | .d x => RepD h.μ v x
  | .agg cs => ∃ arr, v = .agg ⟨arr⟩ ∧ RepAs h arr cs
  | .tup cs => ∃ arr, v = .tuple ⟨arr⟩ ∧ RepAs h arr cs
  | .ptr n i j => ∃ l, h.L n = some l ∧ l.nul = false ∧ v = .pointer (some ⟨l.blk, i * l.sz + j, none⟩)
  | .dp cs => ∃ b o, v = .pointer (some ⟨b, o, none⟩) ∧ RepCells h.μ b o cs
  | .ref n lo len sz => ∃ l, h.L n = some l ∧ l.sz = sz ∧ if l.nul then v = .slice none 0 0 ∧ lo = 0 ∧ len = 0 else
      ∃ cap, v = .slice (some ⟨l.blk, lo * l.sz, none⟩) len cap ∧ len ≤ cap ∧ cap ≤ maxLen ∧ (lo + cap) * l.sz = l.asz
  | .nils => v = .slice none 0 0
  | .clo f caps => ∃ arr, v = .func (.func f) #[] ⟨arr⟩ ∧ RepAs h arr caps
def RepAs (h : Gh) : List Value → List AV → Prop
  | vs, [] => vs = []
  | vs, c :: cs => ∃ u us, vs = u :: us ∧ RepA h u c ∧ RepAs h us cs
end

/-- What the world holds for block n. -/
def RepB (h : Gh) (w : World) (n : Nat) : Blk → Prop
  | .free => h.L n = none
  | .dead => ∃ l, h.L n = some l
  | .var cells => ∃ l cs ety, h.L n = some l ∧ l.nul = false ∧ w.heap[l.blk]? = some (.cells ⟨cs⟩ ety (0, 0)) ∧ RepAs h cs cells ∧ ∀ o, h.μ l.blk o = none
  | .arr ety sz xs frz => ∃ l, h.L n = some l ∧ l.sz = sz ∧ 0 < sz ∧ if l.nul then xs = [] else
      ∃ cs, w.heap[l.blk]? = some (.cells cs ety (0, 0)) ∧ cs.size = l.asz ∧ xs.length * sz ≤ cs.size ∧
        (∀ i x, xs[i]? = some x → x.length = sz ∧ ∀ j c, x[j]? = some c → ∃ v, cs[i * sz + j]? = some v ∧ RepD h.μ v c) ∧
        ∀ o v, h.μ l.blk o = some v → frz = true ∧ o < xs.length * sz
  | .iter s i => ∃ l, h.L n = some l ∧ l.nul = false ∧ w.heap[l.blk]? = some (.stringIter ⟨s.toArray⟩ i) ∧ ∀ o, h.μ l.blk o = none

/-! What is known of a type. -/
inductive TK where
  | bool
  | int (k : IntKind)
  | string
  | slice (e : TypeId)
  | array (n : Nat) (e : TypeId)
  | struct (fs : List (Nat × Nat × Bool))
  | other
structure TI where
  size : Nat
  bytes : Nat
  zero : Option (List Value)
  kind : TK
def TK.agg : TK → Bool
  | .array .. | .struct _ => true
  | _ => false
def isAggD : TypeDesc → Bool
  | .struct _ | .array .. => true
  | _ => false
def fieldEnt (P : Program) (f : Field) : Nat × Nat × Bool :=
  match P.info? f.type, P.underlying f.type with
  | some i, some d => (f.offset, i.size, isAggD d)
  | _, _ => (f.offset, 0, false)
def tkOf (P : Program) : TypeDesc → TK
  | .bool => .bool
  | .int k => .int k
  | .string => .string
  | .slice e => .slice e
  | .array n e => .array n e
  | .struct fs => .struct (fs.toList.map (fieldEnt P))
  | _ => .other
def tinf (P : Program) (t : TypeId) : Option TI :=
  match P.info? t, P.underlying t with
  | some i, some d => some { size := i.size, bytes := i.bytes, zero := i.zero.map (·.cells.toList), kind := tkOf P d }
  | _, _ => none

/-- A value that stands in the text. -/
def constAV : Value → AV
  | .int k n => .d (.int k n)
  | .bool b => .d (.bool b)
  | .string s => .d (.str s.data.toList)
  | .slice none 0 0 => .nils
  | .nilIface => .d (.val .nilIface)
  | .nilFunc => .d (.val .nilFunc)
  | _ => .un

def evG (G : Nat → Option (List D)) (s : Nat → AV) : Operand → AV
  | .tmp t => s t
  | .const v => constAV v
  | .global g => match G g with | some cs => .dp cs | none => .un
  | .func f => .clo f []

/-- As data, with the blocks that must be held still from then on. -/
def toD (bl : Nat → Blk) : AV → Option (D × List Nat)
  | .d x => some (x, [])
  | .nils => some (.sl [], [])
  | .ref n lo len _ => match bl n with
    | .arr _ _ xs _ => if lo + len ≤ xs.length then some (.sl ((xs.drop lo).take len), [n]) else none
    | _ => none
  | _ => none
def toDs (bl : Nat → Blk) : List AV → Option (List D × List Nat)
  | [] => some ([], [])
  | c :: cs => match toD bl c, toDs bl cs with
    | some (x, l), some (xs, ls) => some (x :: xs, l ++ ls)
    | _, _ => none
def frzW (bl : Nat → Blk) (l : List Nat) : List (Nat × Blk) := l.map fun n => (n, (bl n).frzd)

def partAt' (agg : Bool) (size : Nat) (cells : List AV) : Option AV :=
  if agg then (if size ≤ cells.length then some (.agg (cells.take size)) else none)
  else cells.head?

abbrev Eff := Option (AV × List (Nat × Blk))
def pureE (v : AV) : Eff := some (v, [])
def newE (dst : Option Tmp) (bl : Nat → Blk) (b : Blk) (v : Nat → AV) : Eff :=
  match dst with
  | some n => match bl n with
    | .free => some (v n, [(n, b)])
    | _ => none
  | none => none

def loadE (ti : TI) (bl : Nat → Blk) : AV → Eff
  | .ptr n i j => match bl n with
    | .var cells => if i = 0 then (partAt' ti.kind.agg ti.size (cells.drop j)).map (·, []) else none
    | .arr _ _ xs _ => match xs[i]? with
      | some x => (partAt' ti.kind.agg ti.size ((x.map AV.d).drop j)).map (·, [])
      | none => none
    | _ => none
  | .dp cs => (partAt' ti.kind.agg ti.size (cs.map AV.d)).map (·, [])
  | _ => none
def splice {α : Type} (l : List α) (j : Nat) (vs : List α) : List α := l.take j ++ vs ++ l.drop (j + vs.length)
def storeE (ti : TI) (bl : Nat → Blk) (v : AV) : AV → Eff
  | .ptr n i j => if v.good = true ∧ v.cells.length = ti.size ∧ v.cells.all AV.isCell = true then match bl n with
    | .var cells => if i = 0 ∧ j + ti.size ≤ cells.length then some (.sk, [(n, .var (splice cells j v.cells))]) else none
    | .arr e s xs false => match xs[i]?, toDs bl v.cells with
      | some x, some (ds, []) => if j + ti.size ≤ x.length then some (.sk, [(n, .arr e s (xs.set i (splice x j ds)) false)]) else none
      | _, _ => none
    | _ => none
    else none
  | _ => none
def fieldAddrE (k : TK) (f : Nat) : AV → Eff
  | .ptr n i j => match k with
    | .struct fs => match fs[f]? with
      | some (off, sz, _) => if sz = 0 then none else pureE (.ptr n i (j + off))
      | none => none
    | _ => none
  | .dp cs => match k with
    | .struct fs => match fs[f]? with
      | some (off, sz, _) => if sz = 0 ∨ cs.length < off then none else pureE (.dp (cs.drop off))
      | none => none
    | _ => none
  | _ => none
def fieldE (k : TK) (f : Nat) : AV → Eff
  | .agg cs => match k with
    | .struct fs => match fs[f]? with
      | some (off, sz, ag) => if sz = 0 then none else (partAt' ag sz (cs.drop off)).map (·, [])
      | none => none
    | _ => none
  | _ => none
def indexAddrE (P : Program) (k : TK) (i : Int) (x : AV) : Eff :=
  match k, x with
  | .slice e, .d (.sl xs) => match tinf P e with
    | some te => if 0 ≤ i then match xs[i.toNat]? with
      | some y => if y.length = te.size then pureE (.dp y) else none
      | none => none
      else none
    | none => none
  | .slice e, .ref n lo len sz => match tinf P e with
    | some te => if 0 ≤ i ∧ i.toNat < len ∧ sz = te.size then pureE (.ptr n (lo + i.toNat) 0) else none
    | none => none
  | .array n e, .dp cs => match tinf P e with
    | some te => if 0 ≤ i ∧ i < n ∧ i.toNat * te.size ≤ cs.length then pureE (.dp (cs.drop (i.toNat * te.size))) else none
    | none => none
  | .array m e, .ptr n k' j => match tinf P e with
    | some te => if 0 ≤ i ∧ i < m then pureE (.ptr n k' (j + i.toNat * te.size)) else none
    | none => none
  | _, _ => none
def indexE (k : TK) (i : Int) (x : AV) : Eff :=
  match k, x with
  | .string, .d (.str s) => if 0 ≤ i then match s[i.toNat]? with
      | some c => pureE (.d (.int .u8 c.toNat))
      | none => none
    else none
  | _, _ => none

def intE (op : BinOp) (k : IntKind) (a b : Int) : Option D :=
  match op with
  | .add => some (.int k (k.wrap (a + b)))
  | .sub => some (.int k (k.wrap (a - b)))
  | .mul => some (.int k (k.wrap (a * b)))
  | .quo => if b = 0 then none else some (.int k (k.wrap (a.tdiv b)))
  | .rem => if b = 0 then none else some (.int k (a.tmod b))
  | .eql => some (.bool (a == b))
  | .neq => some (.bool (a != b))
  | .lss => some (.bool (decide (a < b)))
  | .leq => some (.bool (decide (a ≤ b)))
  | .gtr => some (.bool (decide (a > b)))
  | .geq => some (.bool (decide (a ≥ b)))
  | _ => none
def strE (op : BinOp) (a b : List UInt8) : Option D :=
  match op with
  | .add => if a.length + b.length ≤ 9223372036854775807 then some (.str (a ++ b)) else none
  | .eql => some (.bool (a == b))
  | .neq => some (.bool !(a == b))
  | .lss => some (.bool (Op.bytesLess a b))
  | .leq => some (.bool (Op.bytesLess a b || a == b))
  | .gtr => some (.bool !(Op.bytesLess a b || a == b))
  | .geq => some (.bool !(Op.bytesLess a b))
  | _ => none
/-- '==' of one cell of a plain kind. -/
def cellEq : TK → AV → AV → Option Bool
  | .int _, .d (.int k a), .d (.int k' b) => if k = k' then some (a == b) else none
  | .bool, .d (.bool a), .d (.bool b) => some (a == b)
  | .string, .d (.str a), .d (.str b) => some (a == b)
  | _, _, _ => none
def cellsEq : List TK → List AV → List AV → Option Bool
  | [], [], [] => some true
  | k :: ks, x :: xs, y :: ys => match cellEq k x y, cellsEq ks xs ys with
    | some a, some b => some (a && b)
    | _, _ => none
  | _, _, _ => none
/-- A struct of plain one-cell fields, none of them '_', laid one behind the other: their kinds. -/
def plainAt (P : Program) : Nat → List Field → Bool
  | _, [] => true
  | i, f :: fs => f.offset == i && f.name != "_" && (match P.underlying f.type with | some d => !isAggD d | none => false) && plainAt P (i + 1) fs
def kindOf (P : Program) (f : Field) : TK := ((P.underlying f.type).map (tkOf P)).getD .other
def plainKinds (P : Program) (t : TypeId) : Option (List TK) :=
  match P.underlying t with
  | some (.struct fs) => if (!P.stoodInHeld t && !P.eqGuardType P.depth t && plainAt P 0 fs.toList) = true then some (fs.toList.map (kindOf P)) else none
  | _ => none
def binE (P : Program) (op : BinOp) (t : TypeId) (x y : AV) : Option AV :=
  match x, y with
  | .d (.int k a), .d (.int k' b) => if k = k' then (intE op k a b).map AV.d else none
  | .d (.str a), .d (.str b) => (strE op a b).map AV.d
  | .d (.bool a), .d (.bool b) => match tinf P t with
    | some ti => match ti.kind, op with
      | .bool, .eql => some (.d (.bool (a == b)))
      | .bool, .neq => some (.d (.bool !(a == b)))
      | _, _ => none
    | none => none
  | .agg xs, .agg ys => match plainKinds P t with
    | some ks => match op, cellsEq ks xs ys with
      | .eql, some b => some (.d (.bool b))
      | .neq, some b => some (.d (.bool !b))
      | _, _ => none
    | none => none
  | _, _ => none
def unE (op : UnOp) : AV → Option AV
  | .d (.int k n) => match op with
    | .neg => some (.d (.int k (k.wrap (0 - n))))
    | _ => none
  | .d (.bool b) => match op with
    | .not => some (.d (.bool !b))
    | _ => none
  | _ => none
def intOfA : AV → Option Int
  | .d (.int _ n) => some n
  | _ => none
def optInt : Option AV → Option (Option Int)
  | none => some none
  | some v => (intOfA v).map some
/-- 'x[lo:hi]' of data, of a string, of a slice over a block. -/
def sliceE (P : Program) (k : TK) (x : AV) (lo hi mx : Option AV) : Eff :=
  match optInt lo, optInt hi, mx with
  | some lo, some hi, none => match k, x with
    | .slice e, .d (.sl xs) => match tinf P e with
      | some te =>
        if 0 ≤ lo.getD 0 ∧ lo.getD 0 ≤ hi.getD xs.length ∧ hi.getD xs.length ≤ xs.length ∧ ((xs.take (hi.getD xs.length).toNat).drop (lo.getD 0).toNat).all (·.length == te.size) = true then
          pureE (.d (.sl ((xs.take (hi.getD xs.length).toNat).drop (lo.getD 0).toNat))) else none
      | none => none
    | .string, .d (.str s) =>
      if 0 ≤ lo.getD 0 ∧ lo.getD 0 ≤ hi.getD s.length ∧ hi.getD s.length ≤ s.length then
        pureE (.d (.str ((s.take (hi.getD s.length).toNat).drop (lo.getD 0).toNat))) else none
    | _, _ => none
  | _, _, _ => none

def lenE (k : TK) : AV → Option AV
  | .d (.str s) => match k with | .string => some (.d (.int .i64 s.length)) | _ => none
  | .d (.sl xs) => match k with | .slice _ => some (.d (.int .i64 xs.length)) | _ => none
  | .ref _ _ len _ => match k with | .slice _ => some (.d (.int .i64 len)) | _ => none
  | .nils => match k with | .slice _ => some (.d (.int .i64 0)) | _ => none
  | _ => none

/-- The data behind a slice that is read whole. -/
def listD (bl : Nat → Blk) : AV → Option (List (List D))
  | .d (.sl xs) => some xs
  | .nils => some []
  | .ref n lo len _ => match bl n with
    | .arr _ _ xs _ => if lo + len ≤ xs.length then some ((xs.drop lo).take len) else none
    | _ => none
  | _ => none
def appendE (P : Program) (dst : Option Tmp) (e : TypeId) (bl : Nat → Blk) (s x : AV) : Eff :=
  match tinf P e, listD bl x, dst with
  | some te, some ys, some n => if ys.all (·.length == te.size) = true ∧ 0 < te.size ∧ te.zero.map List.length = some te.size then
      match s with
      | .nils => if ys.length * te.bytes ≤ 140737488355328 ∧ ys.length ≤ 9223372036854775807 then
          match bl n with
          | .free => some (.ref n 0 ys.length te.size, [(n, .arr e te.size ys false)])
          | _ => none
        else none
      | .ref m 0 len _ => match bl m with
        | .arr e' sz xs frz => if e' = e ∧ sz = te.size ∧ len = xs.length ∧ (xs.length + ys.length) * te.bytes ≤ 140737488355328 ∧ xs.length + ys.length ≤ 9223372036854775807 ∧ n ≠ m then
            match bl n with
            | .free => some (.ref n 0 (xs.length + ys.length) te.size, [(m, .dead), (n, .arr e sz (xs ++ ys) frz)])
            | _ => none
          else none
        | _ => none
      | _ => none
    else none
  | _, _, _ => none

def fillE (place : Nat → Option (Nat × Nat)) (cells : List AV) : List (Nat × AV) → Option (List AV)
  | [] => some cells
  | (i, v) :: rest => match place i with
    | none => none
    | some (off, size) => if v.good = true ∧ v.cells.length = size ∧ off + size ≤ cells.length then fillE place (splice cells off v.cells) rest else none
def chunks {α : Type} (sz : Nat) : Nat → List α → List (List α)
  | 0, _ => []
  | n + 1, l => l.take sz :: chunks sz n (l.drop sz)
def buildE (P : Program) (t : TypeId) (parts : List (Nat × AV)) : Eff :=
  match tinf P t with
  | some ti => match ti.kind, ti.zero with
    | .struct fs, some z => if fs.all (fun f => f.2.1 != 0) = true then (fillE (fun i => (fs[i]?).map fun f => (f.1, f.2.1)) (z.map constAV) parts).map fun cs => (.agg cs, []) else none
    | .array _ e, some z => match tinf P e with
      | some te => (fillE (fun i => some (i * te.size, te.size)) (z.map constAV) parts).map fun cs => (.agg cs, [])
      | none => none
    | _, _ => none
  | none => none
/-- '[]T{..}' with every element given, in order. -/
def buildSliceE (P : Program) (dst : Option Tmp) (t : TypeId) (len : Nat) (bl : Nat → Blk) (parts : List (Nat × AV)) : Eff :=
  match tinf P t with
  | some { kind := .slice e, .. } => match tinf P e with
    | some te => if parts.map (·.1) = List.range len ∧ parts.all (fun p => p.2.good) = true ∧ 0 < te.size ∧ len * te.size ≤ 16777216 ∧ te.zero.isSome = true ∧ parts.all (fun p => p.2.cells.length == te.size) = true then
        match toDs bl (parts.flatMap (·.2.cells)), dst with
        | some (ds, l), some n => if n ∈ l then none else match bl n with
          | .free => some (.ref n 0 len te.size, frzW bl l ++ [(n, .arr e te.size (chunks te.size len ds) false)])
          | _ => none
        | _, _ => none
      else none
    | none => none
  | _ => none
def convE (P : Program) (src dst : TypeId) (x : AV) : Option AV :=
  match tinf P src, tinf P dst, x with
  | some ts, some td, .d (.int _ n) => match ts.kind, td.kind with
    | .int _, .int k => some (.d (.int k (k.wrap n)))
    | _, _ => none
  | some ts, some td, .d (.str s) => match ts.kind, td.kind with
    | .string, .string => some (.d (.str s))
    | _, _ => none
  | _, _, _ => none
def makeSliceE (P : Program) (dst : Option Tmp) (t : TypeId) (bl : Nat → Blk) (l c : AV) : Eff :=
  match tinf P t, intOfA l, intOfA c with
  | some { kind := .slice e, .. }, some l, some c => match tinf P e with
    | some te => match te.zero with
      | some z => if 0 ≤ l ∧ l = c ∧ l ≤ 9223372036854775807 ∧ (te.bytes : Int) * l ≤ 281474976710656 ∧ 0 < te.size ∧ z.length = te.size then
          match toDs bl (z.map constAV) with
          | some (ds, []) => newE dst bl (.arr e te.size (List.replicate l.toNat ds) false) fun n => .ref n 0 l.toNat te.size
          | _ => none
        else none
      | none => none
    | none => none
  | _, _, _ => none

def builtinE (P : Program) (ρ : Operand → AV) (dst : Option Tmp) (c : Call) (bl : Nat → Blk) : Eff :=
  match c.callee with
  | .builtin .len => match c.args.toList, c.argTypes.toList with
    | [x], [t] => match tinf P t with
      | some ti => (lenE ti.kind (ρ x)).map (·, [])
      | none => none
    | _, _ => none
  | .builtin .append => match c.args.toList, c.argTypes.toList with
    | [s, x], [t, t'] => if t' = t then match tinf P t with
      | some { kind := .slice e, .. } => appendE P dst e bl (ρ s) (ρ x)
      | _ => none
      else none
    | _, _ => none
  | .builtin .max => match c.args.toList with
    | [x, y] => match ρ x, ρ y with
      | .d (.int k a), .d (.int k' b) => if k' = k then pureE (.d (.int k (if b > a then b else a))) else none
      | _, _ => none
    | _ => none
  | .builtin .min => match c.args.toList with
    | [x, y] => match ρ x, ρ y with
      | .d (.int k a), .d (.int k' b) => if k' = k then pureE (.d (.int k (if b < a then b else a))) else none
      | _, _ => none
    | _ => none
  | _ => none

def nextE (bl : Nat → Blk) : AV → Eff
  | .ptr n 0 0 => match bl n with
    | .iter s i => if i < s.length then some (.tup [.d (.bool true), .d (.int .i64 i), .d (.int .i32 (Utf8.decode ⟨s.toArray⟩ i).1)], [(n, .iter s (i + (Utf8.decode ⟨s.toArray⟩ i).2))])
      else some (.tup [.d (.bool false)], [])
    | _ => none
  | _ => none
def rangeE (k : TK) (dst : Option Tmp) (bl : Nat → Blk) (x : AV) : Eff :=
  match k, x with
  | .string, .d (.str s) => newE dst bl (.iter s 0) fun n => .ptr n 0 0
  | _, _ => none

/-- What an operation that is no call of a Go function does. -/
def effF (P : Program) (ρ : Operand → AV) (o : Oper) (bl : Nat → Blk) : Eff :=
  match o.op with
  | .move x | .assign x => pureE (ρ x)
  | .pick c a b => match ρ c with
    | .d (.bool t) => pureE (if t = true then ρ a else ρ b)
    | _ => none
  | .alloc t => match tinf P t with
    | some ti => match ti.zero with
      | some z => newE o.dst bl (.var (z.map constAV)) fun n => .ptr n 0 0
      | none => none
    | none => none
  | .box _ x => if (ρ x).good = true then newE o.dst bl (.var (ρ x).cells) fun n => .ptr n 0 0 else none
  | .build t ps => buildE P t (ps.toList.map fun p => (p.1, ρ p.2))
  | .buildSlice t len ps => buildSliceE P o.dst t len bl (ps.toList.map fun p => (p.1, ρ p.2))
  | .load t a => match tinf P t with
    | some ti => loadE ti bl (ρ a)
    | none => none
  | .store t a v => match tinf P t with
    | some ti => storeE ti bl (ρ v) (ρ a)
    | none => none
  | .nilCheck x => match ρ x with
    | .ptr n i j => pureE (.ptr n i j)
    | .dp cs => pureE (.dp cs)
    | _ => none
  | .binOp op t x y _ => (binE P op t (ρ x) (ρ y)).map (·, [])
  | .unOp op _ x => (unE op (ρ x)).map (·, [])
  | .convert s d x => (convE P s d (ρ x)).map (·, [])
  | .makeFunc (.func f) first caps => if first.size = 0 then pureE (.clo f (caps.toList.map ρ)) else none
  | .makeSlice t l c => makeSliceE P o.dst t bl (ρ l) (ρ c)
  | .slice t x lo hi mx => match tinf P t with
    | some ti => sliceE P ti.kind (ρ x) (lo.map ρ) (hi.map ρ) (mx.map ρ)
    | none => none
  | .fieldAddr t x f => match tinf P t with
    | some ti => fieldAddrE ti.kind f (ρ x)
    | none => none
  | .field t x f => match tinf P t with
    | some ti => fieldE ti.kind f (ρ x)
    | none => none
  | .indexAddr t x i => match tinf P t, intOfA (ρ i) with
    | some ti, some i => indexAddrE P ti.kind i (ρ x)
    | _, _ => none
  | .index t x i => match tinf P t, intOfA (ρ i) with
    | some ti, some i => indexE ti.kind i (ρ x)
    | _, _ => none
  | .extract x i => match ρ x with
    | .tup vs => (vs[i]?).map (·, [])
    | _ => none
  | .range t x => match tinf P t with
    | some ti => rangeE ti.kind o.dst bl (ρ x)
    | none => none
  | .next x isS => if isS = true then nextE bl (ρ x) else none
  | .call c => builtinE P ρ o.dst c bl
  | _ => none

/-- The blocks that a value names. -/
def AV.names : AV → List Nat
  | .ptr n _ _ => [n]
  | .ref n _ _ _ => [n]
  | _ => []
def namesOf (l : List AV) : List Nat := l.flatMap fun v => v.cells.flatMap AV.names
def touchF (ρ : Operand → AV) (o : Oper) : List Nat :=
  match o.op with
  | .load _ a => (ρ a).names
  | .store _ a v => (ρ a).names ++ namesOf [ρ v]
  | .alloc _ | .box _ _ | .makeSlice _ _ _ | .range _ _ => o.dst.toList
  | .next x _ => (ρ x).names
  | .buildSlice _ _ ps => o.dst.toList ++ namesOf (ps.toList.map fun p => ρ p.2)
  | .call c => match c.callee with
    | .builtin .append => o.dst.toList ++ namesOf (c.args.toList.map ρ)
    | _ => []
  | _ => []
def restr (t : List Nat) (bl : Nat → Blk) : Nat → Blk := fun n => if n ∈ t then bl n else .dead
end Go.Ab
