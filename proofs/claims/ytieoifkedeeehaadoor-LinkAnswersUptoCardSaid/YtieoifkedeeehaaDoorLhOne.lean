/- LH: a by-value semantics of the translated code, and its soundness. -/
import GoSem.Dispatch
import Derived.Calls
import Derived.KernelRfl
import Derived.Laws.Sem
import Derived.Below
import Derived.WalkKit
import Derived.Still
import Derived.Laws.StructEq
import Derived.Laws.Slices
import Derived.Laws.BytesString
import Derived.Laws.Small
import Derived.Laws.IdiomStrings
namespace Go.LH
open Go

/-- One cell's content. -/
inductive Cv where
  | val (v : Value)
  | sl (wd : Nat) (rows : List (List Cv))
  | rp (cells : List Cv)
  | np (id gen row col : Nat)
  | rs (id gen lo len : Nat)
  | ca (id gen row col len : Nat)
  | ifc (t : TypeId) (x : Cv)
  | fn (f : Fn) (caps : List Cv)
  | mp (id gen : Nat)
  | it (id gen mid mgen : Nat)
  deriving Inhabited

/-- What stands in a slot. -/
inductive Sv where
  | un
  | ud
  | c (x : Cv)
  | agg (cells : List Cv)
  | tup (xs : List Sv)
  deriving Inhabited

/-- A piece of memory of the call's own. bx: a variable (its one row may hold pointers into this heap); else a slice's rows (plain content alone). -/
structure Entry where
  bx : Bool
  gen : Nat
  wd : Nat
  rows : List (List Cv)
  deriving Inhabited

mutual
/-- No pointer into the call's heap in it. -/
def isV : Cv → Bool
  | .np .. | .rs .. | .ca .. | .mp .. | .it .. => false
  | .ifc _ x => isV x
  | .fn _ caps => isVL caps
  | _ => true
def isVL : List Cv → Bool
  | [] => true
  | c :: r => isV c && isVL r
end
def Entry.retire (e : Entry) : Entry := { e with gen := e.gen + 1, rows := [] }

def fzLw (f : List Entry → Cv → Option (Cv × List Entry)) : List Entry → List Cv → Option (List Cv × List Entry)
  | L, [] => some ([], L)
  | L, c :: r => match f L c with
    | some (d, L') => match fzLw f L' r with
      | some (s, L'') => some (d :: s, L'')
      | none => none
    | none => none
/-- The content as plain content: what it points to in the call's heap is given up. -/
def fzC : Nat → List Entry → Cv → Option (Cv × List Entry)
  | 0, _, _ => none
  | n + 1, L, c => match c with
    | .rs id gen lo len => match L[id]? with
      | some e => if e.bx = false ∧ e.gen = gen ∧ lo + len ≤ e.rows.length then some (.sl e.wd ((e.rows.drop lo).take len), L.set id e.retire) else none
      | none => none
    | .np id gen row col => match L[id]? with
      | some e => if e.gen = gen then match e.rows[row]? with
        | some r => match fzLw (fzC n) (L.set id e.retire) (r.drop col) with
          | some (cs, L') => some (.rp cs, L')
          | none => none
        | none => none
        else none
      | none => none
    | .ifc t x => match fzC n L x with
      | some (y, L') => some (.ifc t y, L')
      | none => none
    | .ca .. => none
    | .mp .. => none
    | .it .. => none
    | .fn f caps => if isVL caps then some (.fn f caps, L) else none
    | .val v => some (.val v, L)
    | .sl wd rows => some (.sl wd rows, L)
    | .rp cells => some (.rp cells, L)
def fzL (L : List Entry) (cs : List Cv) : Option (List Cv × List Entry) := fzLw (fzC 6) L cs
def fzS (L : List Entry) : Sv → Option (Sv × List Entry)
  | .c x => match fzC 6 L x with
    | some (y, L') => some (.c y, L')
    | none => none
  | .agg cs => match fzL L cs with
    | some (ds, L') => some (.agg ds, L')
    | none => none
  | _ => none
def fzSL (L : List Entry) : List Sv → Option (List Sv × List Entry)
  | [] => some ([], L)
  | c :: r => match fzS L c with
    | some (d, L') => match fzSL L' r with
      | some (s, L'') => some (d :: s, L'')
      | none => none
    | none => none
/-- A result, several values too. -/
def fzR (L : List Entry) : Sv → Option (Sv × List Entry)
  | .tup xs => match fzSL L xs with
    | some (ys, L') => some (.tup ys, L')
    | none => none
  | x => fzS L x

def snLw (f : Cv → Option Cv) : List Cv → Option (List Cv)
  | [] => some []
  | c :: r => match f c with
    | some d => match snLw f r with
      | some s => some (d :: s)
      | none => none
    | none => none
/-- The content as it looks now, nothing given up. -/
def snC (L : List Entry) : Nat → Cv → Option Cv
  | 0, _ => none
  | n + 1, c => match c with
    | .rs id gen lo len => match L[id]? with
      | some e => if e.bx = false ∧ e.gen = gen ∧ lo + len ≤ e.rows.length then some (.sl e.wd ((e.rows.drop lo).take len)) else none
      | none => none
    | .np id gen row col => match L[id]? with
      | some e => if e.gen = gen then match e.rows[row]? with
        | some r => match snLw (snC L n) (r.drop col) with
          | some cs => some (.rp cs)
          | none => none
        | none => none
        else none
      | none => none
    | .ifc t x => match snC L n x with
      | some y => some (.ifc t y)
      | none => none
    | .fn f caps => match snLw (snC L n) caps with
      | some l => some (.fn f l)
      | none => none
    | .ca .. => none
    | .mp .. => none
    | .it .. => none
    | .val v => some (.val v)
    | .sl wd rows => some (.sl wd rows)
    | .rp cells => some (.rp cells)
def snS (L : List Entry) : Sv → Option Sv
  | .c x => match snC L 6 x with
    | some y => some (.c y)
    | none => none
  | .agg cs => match snLw (snC L 6) cs with
    | some ds => some (.agg ds)
    | none => none
  | _ => none
def snSL (L : List Entry) : List Sv → Option (List Sv)
  | [] => some []
  | c :: r => match snS L c with
    | some d => match snSL L r with
      | some s => some (d :: s)
      | none => none
    | none => none

/-- Known to the last cell, with no address in it that hangs on a world. -/
def plainC : Cv → Bool
  | .val _ => true
  | .ifc _ x => plainC x
  | _ => false
def plainL : List Cv → Bool
  | [] => true
  | c :: r => plainC c && plainL r
def plainS : Sv → Bool
  | .c x => plainC x
  | .agg cs => plainL cs
  | _ => false
def plainSL : List Sv → Bool
  | [] => true
  | s :: r => plainS s && plainSL r
def plainR : Sv → Bool
  | .tup xs => plainSL xs
  | x => plainS x

abbrev Slots := List (Nat × Sv)
structure St where
  s : Slots
  L : List Entry
  deriving Inhabited

def sget : Slots → Nat → Sv
  | [], _ => .un
  | (j, v) :: r, i => if i == j then v else sget r i
def sset : Slots → Nat → Sv → Slots
  | [], i, v => [(i, v)]
  | (j, u) :: r, i, v => if i == j then (i, v) :: r else if Nat.blt i j then (i, v) :: (j, u) :: r else (j, u) :: sset r i v
def skeep (l : List Nat) : Slots → Slots
  | [] => []
  | (j, v) :: r => if l.contains j then (j, v) :: skeep l r else skeep l r

inductive Opd where
  | t (i : Nat)
  | k (x : Sv)
  deriving Inhabited

def St.opd (st : St) : Opd → Sv
  | .t i => sget st.s i
  | .k x => x

/-- How two values are held against each other. -/
inductive CK where
  | int | bool | str
  deriving Inhabited, DecidableEq
inductive EqK where
  | cell
  | cells (ks : List CK)
  deriving Inhabited, DecidableEq

inductive Rop where
  | mv (x : Opd)
  | pick (c a b : Opd)
  | alloc (agg : Bool) (zero : List Cv) (el : TypeId)
  | box (el : TypeId) (n : Nat) (x : Opd)
  | build (zero : List Cv) (parts : List (Nat × Nat × Opd))
  | bslice (el : TypeId) (wd n : Nat) (zero : List Cv) (parts : List (Nat × Opd))
  | load (agg : Bool) (n : Nat) (x : Opd)
  | store (n : Nat) (x v : Opd)
  | nilchk (x : Opd)
  | bin (op : BinOp) (x y : Opd)
  | eqB (neg : Bool) (x y : Opd)
  | eq (neg : Bool) (k : EqK) (x y : Opd)
  | un (op : UnOp) (x : Opd)
  | convI (k : IntKind) (x : Opd)
  | convSame (x : Opd)
  | bytesToStr (x : Opd)
  | strToBytes (el : TypeId) (x : Opd)
  | mkif (t : TypeId) (x : Opd)
  | mkfn (f : Fn) (caps : List Opd)
  | mksl (el : TypeId) (wd bytes : Nat) (zero : List Cv) (len cap : Opd)
  | slice (wd : Nat) (x : Opd) (lo hi : Option Opd)
  | sliceS (x : Opd) (lo hi : Option Opd)
  | sliceA (n : Nat) (x : Opd) (lo hi : Option Opd)
  | faddr (off : Nat) (x : Opd)
  | field (agg : Bool) (off n : Nat) (x : Opd)
  | iaddr (wd : Nat) (x i : Opd)
  | iaddrA (len wd : Nat) (x i : Opd)
  | idxA (agg : Bool) (len wd : Nat) (x i : Opd)
  | idxS (x i : Opd)
  | tas (t : TypeId) (ok : Bool) (zero : Sv) (x : Opd)
  | extr (x : Opd) (i : Nat)
  | len (x : Opd)
  | lenS (x : Opd)
  | lenA (n : Nat)
  | app (el : TypeId) (wd bytes : Nat) (x y : Opd)
  | cpy (wd : Nat) (x y : Opd)
  | maxmin (mx : Bool) (xs : List Opd)
  | isnil (k : Nat) (neg : Bool) (x : Opd)
  | slice3 (wd : Nat) (x : Opd) (lo hi : Option Opd) (mx : Opd)
  | mkmap
  | mget (k : CK) (ok : Bool) (zero : Sv) (x y : Opd)
  | mset (k : CK) (x y v : Opd)
  | ment (k : CK) (zero : Sv) (x y : Opd)
  | mest (x y v : Opd)
  | mdel (k : CK) (x y : Opd)
  | lenM (x : Opd)
  | range (x : Opd)
  | next (x : Opd)
  | entry (x : Opd)
  | call (f : FuncId) (args : List Opd)
  | callv (x : Opd) (args : List Opd)
  deriving Inhabited

structure ROper where
  dst : Option Nat
  guard : Option (Nat × Bool)
  op : Rop
  deriving Inhabited

/-! ### Only what is reached, numbered anew -/
abbrev Ks := List (Option Nat)
def kfind : Ks → Nat → Nat → Option Nat
  | [], _, _ => none
  | some j :: r, i, k => if i == j then some k else kfind r i (k + 1)
  | none :: r, i, k => kfind r i (k + 1)
def kadd (ks : Ks) (id : Nat) : Ks × Nat := match kfind ks id 0 with
  | some k => (ks, k)
  | none => (ks ++ [some id], ks.length)
mutual
def gcC : Ks → Cv → Ks × Cv
  | ks, .np id gen row col => match kfind ks id 0 with
    | some k => (ks, .np k gen row col)
    | none => (ks ++ [some id], .np ks.length gen row col)
  | ks, .rs id gen lo len => match kfind ks id 0 with
    | some k => (ks, .rs k gen lo len)
    | none => (ks ++ [some id], .rs ks.length gen lo len)
  | ks, .ca id gen row col len => match kfind ks id 0 with
    | some k => (ks, .ca k gen row col len)
    | none => (ks ++ [some id], .ca ks.length gen row col len)
  | ks, .val (.slice none 0 0) => (ks ++ [none], .rs ks.length 0 0 0)
  | ks, .mp id gen => let (k, i) := kadd ks id; (k, .mp i gen)
  | ks, .it id gen mid mg => let (k, i) := kadd ks id; let (k', j) := kadd k mid; (k', .it i gen j mg)
  | ks, .ifc t x => let (k, y) := gcC ks x; (k, .ifc t y)
  | ks, .fn f caps => let (k, l) := gcL ks caps; (k, .fn f l)
  | ks, c => (ks, c)
def gcL : Ks → List Cv → Ks × List Cv
  | ks, [] => (ks, [])
  | ks, c :: r => let (k, d) := gcC ks c; let (k', s) := gcL k r; (k', d :: s)
end
def gcS : Ks → Sv → Ks × Sv
  | ks, .c x => let (k, y) := gcC ks x; (k, .c y)
  | ks, .agg cs => let (k, l) := gcL ks cs; (k, .agg l)
  | ks, .un => (ks, .un)
  | ks, .ud => (ks, .ud)
  | ks, .tup _ => (ks, .un)
def gcSL : Ks → List Sv → Ks × List Sv
  | ks, [] => (ks, [])
  | ks, v :: r => let (k, u) := gcS ks v; let (k', s) := gcSL k r; (k', u :: s)
def gcR : Ks → Sv → Ks × Sv
  | ks, .tup xs => let (k, l) := gcSL ks xs; (k, .tup l)
  | ks, v => gcS ks v
def gcSlots : Ks → Slots → Ks × Slots
  | ks, [] => (ks, [])
  | ks, (i, v) :: r => let (k, u) := gcS ks v; let (k', s) := gcSlots k r; (k', (i, u) :: s)
/-- The entries from number i on; those that variables lead to come behind. -/
def gcE (L : List Entry) : Nat → Ks → Nat → Option (Ks × List Entry)
  | 0, ks, i => if i == ks.length then some (ks, []) else none
  | n + 1, ks, i => match ks[i]? with
    | none => some (ks, [])
    | some none => match gcE L n ks (i + 1) with
      | some (k, r) => some (k, ⟨false, 0, 0, []⟩ :: r)
      | none => none
    | some (some id) => match L[id]? with
      | none => none
      | some e => if e.bx then match e.rows with
        | [row] => let (k, row') := gcL ks row; match gcE L n k (i + 1) with
          | some (k', r) => some (k', { e with rows := [row'] } :: r)
          | none => none
        | [] => match gcE L n ks (i + 1) with
          | some (k, r) => some (k, e :: r)
          | none => none
        | _ => none
        else match gcE L n ks (i + 1) with
          | some (k, r) => some (k, e :: r)
          | none => none
def kbase : Nat → Ks
  | 0 => []
  | n + 1 => kbase n ++ [some n]
/-- The first n entries keep their numbers. -/
def gc (n : Nat) (st : St) : Option St :=
  let (k, s) := gcSlots (kbase n) st.s
  match gcE st.L (st.L.length + st.s.length + 40) k 0 with
  | some (_, L) => some ⟨s, L⟩
  | none => none
def gcRes (n : Nat) (r : Sv) (L : List Entry) : Option (Sv × List Entry) :=
  let (k, s) := gcR (kbase n) r
  match gcE L (L.length + 40) k 0 with
  | some (_, L') => some (s, L')
  | none => none
/-- What a callee sees of the heap. -/
def gcArgs (args : List Sv) (L : List Entry) : Option (List Sv × Ks × List Entry) :=
  let (k, s) := gcSL [] args
  match gcE L (L.length + 40) k 0 with
  | some (ks, L') => some (s, ks, L')
  | none => none
/-- Where entry i of the callee's heap comes to lie: the caller's own numbers, new ones from m on. -/
def back : Ks → Nat → Nat → Nat
  | some id :: _, _, 0 => id
  | none :: _, m, 0 => m
  | [], m, i => m + i
  | some _ :: r, m, i + 1 => back r m i
  | none :: r, m, i + 1 => back r (m + 1) i
mutual
def ren (f : Nat → Nat) : Cv → Cv
  | .np id gen row col => .np (f id) gen row col
  | .rs id gen lo len => .rs (f id) gen lo len
  | .ca id gen row col len => .ca (f id) gen row col len
  | .ifc t x => .ifc t (ren f x)
  | .fn g caps => .fn g (renL f caps)
  | .mp id gen => .mp (f id) gen
  | .it id gen mid mg => .it (f id) gen (f mid) mg
  | c => c
def renL (f : Nat → Nat) : List Cv → List Cv
  | [] => []
  | c :: r => ren f c :: renL f r
end
def renS (f : Nat → Nat) : Sv → Sv
  | .c x => .c (ren f x)
  | .agg cs => .agg (renL f cs)
  | .ud => .ud
  | .un | .tup _ => .un
def renSL (f : Nat → Nat) : List Sv → List Sv
  | [] => []
  | s :: r => renS f s :: renSL f r
def renR (f : Nat → Nat) : Sv → Sv
  | .tup xs => .tup (renSL f xs)
  | s => renS f s
def renE (f : Nat → Nat) (e : Entry) : Entry := if e.bx then { e with rows := e.rows.map (renL f) } else e
/-- The callee's heap laid back into the caller's. -/
def lay (f : Nat → Nat) : Ks → List Entry → List Entry → List Entry
  | some id :: r, e :: l, L => lay f r l (L.set id (renE f e))
  | none :: r, e :: l, L => lay f r l (L ++ [renE f e])
  | [], e :: l, L => lay f [] l (L ++ [renE f e])
  | _, [], L => L

inductive RC where
  | skip
  | ops (draw : Bool) (l : List ROper)
  | ops2 (l : List (ROper × Bool × Nat))
  | seq (a b : RC)
  | cond (c : Opd) (a b : RC)
  | block (id : Nat) (a : RC)
  | loop (a : RC)
  | exit (id : Nat)
  | ret
  | keep (l : List Nat)
  | gc
  deriving Inhabited

/-! ### Reading -/
/-- The rows, each of wd cells, that a slice shows. -/
def rowsOf (wd : Nat) (L : List Entry) : Cv → Option (List (List Cv))
  | .sl wd' rows => if wd' = wd then some rows else none
  | .val (.slice none 0 0) => some []
  | .rs id gen lo len => match L[id]? with
    | some e => if e.bx = false ∧ e.gen = gen ∧ e.wd = wd ∧ lo + len ≤ e.rows.length then some ((e.rows.drop lo).take len) else none
    | none => none
  | .ca id gen row col len => match L[id]? with
    | some e => if e.gen = gen ∧ wd = 1 then match e.rows[row]? with
      | some r => if col + len ≤ r.length ∧ isVL ((r.drop col).take len) = true then some (((r.drop col).take len).map fun c => [c]) else none
      | none => none
      else none
    | none => none
  | _ => none
/-- Is that the entry's present state? -/
def live? (L : List Entry) (id gen : Nat) : Bool :=
  match L[id]? with
  | some e => e.gen == gen
  | none => false
def liveW (L : List Entry) (id gen wd : Nat) : Bool :=
  match L[id]? with
  | some e => e.gen == gen && e.wd == wd
  | none => false
def lenOf (L : List Entry) : Cv → Option Nat
  | .sl _ rows => some rows.length
  | .val (.slice none 0 0) => some 0
  | .rs id gen _ len => if live? L id gen then some len else none
  | .ca id gen _ _ len => if live? L id gen then some len else none
  | _ => none
/-- The row that a pointer stands in, from its column on. -/
def cellsAt (G : Nat → Option (List Value)) (L : List Entry) : Cv → Option (List Cv)
  | .rp cells => some cells
  | .np id gen row col => match L[id]? with
    | some e => if e.gen = gen then (e.rows[row]?).map (·.drop col) else none
    | none => none
  | .val (.pointer (some ⟨g, o, none⟩)) => (G g).map fun l => (l.map Cv.val).drop o
  | _ => none
/-- Does an array of n cells stand at that place? -/
def arrFits (L : List Entry) (id gen row col n : Nat) : Bool :=
  match L[id]? with
  | some e => e.gen == gen && Nat.blt row e.rows.length && Nat.ble (col + n) e.wd
  | none => false
def intOfC : Cv → Option (IntKind × Int)
  | .val (.int k n) => some (k, n)
  | _ => none
def cellsOfS : Sv → Option (List Cv)
  | .c x => some [x]
  | .agg cs => some cs
  | _ => none
def packS (agg : Bool) (cs : List Cv) : Option Sv :=
  if agg then some (.agg cs) else match cs with
  | [x] => some (.c x)
  | _ => none

def putCells (row : List Cv) (col : Nat) (cs : List Cv) : List Cv := row.take col ++ cs ++ row.drop (col + cs.length)

def cellEq : CK → Cv → Cv → Option Bool
  | .int, .val (.int k a), .val (.int k' b) => if k = k' then some (a == b) else none
  | .bool, .val (.bool a), .val (.bool b) => some (a == b)
  | .str, .val (.string a), .val (.string b) => some (a == b)
  | _, _, _ => none
/-- An interface value held against nil. -/
def nilEq : Cv → Cv → Option Bool
  | .val .nilIface, .val .nilIface => some true
  | .val .nilIface, .val (.iface _ _) => some false
  | .val (.iface _ _), .val .nilIface => some false
  | .val .nilIface, .ifc _ _ => some false
  | .ifc _ _, .val .nilIface => some false
  | _, _ => none
def cellsEq : List CK → List Cv → List Cv → Option Bool
  | [], [], [] => some true
  | k :: ks, a :: r, b :: s => match cellEq k a b, cellsEq ks r s with
    | some x, some y => some (x && y)
    | _, _ => none
  | _, _, _ => none

def binE (op : BinOp) : Value → Value → Option Value
  | .int k a, .int k' b => match op with
    | .shl => if 0 ≤ b then some (.int k (k.wrap (a * 2 ^ (min b.toNat k.bits)))) else none
    | .shr => if 0 ≤ b then some (.int k (a.fdiv (2 ^ (min b.toNat k.bits)))) else none
    | _ => if k ≠ k' then none else match op with
      | .add => some (.int k (k.wrap (a + b)))
      | .sub => some (.int k (k.wrap (a - b)))
      | .mul => some (.int k (k.wrap (a * b)))
      | .quo => if b = 0 then none else some (.int k (k.wrap (a.tdiv b)))
      | .rem => if b = 0 then none else some (.int k (a.tmod b))
      | .and => some (.int k (k.wrap (BitVec.ofInt k.bits a &&& BitVec.ofInt k.bits b).toNat))
      | .or => some (.int k (k.wrap (BitVec.ofInt k.bits a ||| BitVec.ofInt k.bits b).toNat))
      | .xor => some (.int k (k.wrap (BitVec.ofInt k.bits a ^^^ BitVec.ofInt k.bits b).toNat))
      | .andNot => some (.int k (k.wrap (BitVec.ofInt k.bits a &&& ~~~BitVec.ofInt k.bits b).toNat))
      | .eql => some (.bool (a == b))
      | .neq => some (.bool (a != b))
      | .lss => some (.bool (decide (a < b)))
      | .leq => some (.bool (decide (a ≤ b)))
      | .gtr => some (.bool (decide (b < a)))
      | .geq => some (.bool (decide (b ≤ a)))
      | _ => none
  | .string a, .string b => match op with
    | .add => if a.size + b.size ≤ 9223372036854775807 then some (.string (a ++ b)) else none
    | .eql => some (.bool (a == b))
    | .neq => some (.bool (!(a == b)))
    | .lss => some (.bool (Op.bytesLess a.toList b.toList))
    | _ => none
  | _, _ => none
def unE (op : UnOp) : Value → Option Value
  | .bool b => match op with
    | .not => some (.bool !b)
    | _ => none
  | .int k n => match op with
    | .neg => some (.int k (k.wrap (0 - n)))
    | .xor => some (.int k (k.wrap (BitVec.ofInt k.bits (if k.signed then -1 else k.max) ^^^ BitVec.ofInt k.bits n).toNat))
    | _ => none
  | _ => none

/-- What is appended. -/
def srcRows (wd : Nat) (L : List Entry) : Cv → Option (List (List Cv))
  | .val (.string s) => if wd = 1 then some (s.data.toList.map fun (b : UInt8) => [Cv.val (.int .u8 b.toNat)]) else none
  | q => rowsOf wd L q
def bytesOfRows : List (List Cv) → Option (List UInt8)
  | [] => some []
  | [.val (.int .u8 n)] :: r => (bytesOfRows r).map (n.toNat.toUInt8 :: ·)
  | _ => none

def fillC (cells : List Cv) : List (Nat × Nat × Sv) → Option (List Cv)
  | [] => some cells
  | (off, n, v) :: rest => match cellsOfS v with
    | some cs => if cs.length = n ∧ off + n ≤ cells.length then fillC (putCells cells off cs) rest else none
    | none => none
def fillR (wd : Nat) (rows : List (List Cv)) : List (Nat × Sv) → Option (List (List Cv))
  | [] => some rows
  | (i, v) :: rest => match cellsOfS v with
    | some cs => if cs.length = wd ∧ i < rows.length then fillR wd (rows.set i cs) rest else none
    | none => none

def allC : List Sv → Option (List Cv)
  | [] => some []
  | .c x :: r => match allC r with
    | some l => some (x :: l)
    | none => none
  | _ => none
def maxC (mx : Bool) : Cv → List Sv → Option Cv
  | x, [] => some x
  | .val (.int k a), .c (.val (.int k' b)) :: r => if k = k' then maxC mx (.val (.int k (if mx then (if b > a then b else a) else (if b < a then b else a)))) r else none
  | _, _ => none

/-! Maps: a row of an entry of width 0: its clock, then what it holds, one by one -/
/-- One that a map holds: its key, its element (g = 1: of several cells), when it came. -/
def mElem (g : Nat) (k : Cv) (cs : List Cv) (b : Nat) : Cv := .sl g [[k], cs, [.sl b []]]
def mapAt (L : List Entry) (id gen : Nat) : Option (Nat × List Cv) := match L[id]? with
  | some e => if e.bx = false ∧ e.gen = gen ∧ e.wd = 0 then match e.rows with
    | [.sl c [] :: es] => some (c, es)
    | _ => none
    else none
  | none => none
def mapE (gen c : Nat) (es : List Cv) : Entry := ⟨false, gen, 0, [.sl c [] :: es]⟩
/-- What a map's value holds: a nil one nothing. -/
def mapEs (L : List Entry) : Cv → Option (List Cv)
  | .val (.map none) => some []
  | .mp id gen => match mapAt L id gen with
    | some (_, es) => some es
    | none => none
  | _ => none
/-- The place, the element, the birth of a key. -/
def mfind (ck : CK) (k : Cv) : List Cv → Nat → Option (Option (Nat × Nat × List Cv × Nat))
  | [], _ => some none
  | .sl g [[k'], cs, [.sl b []]] :: r, i => match cellEq ck k k' with
    | some true => some (some (i, g, cs, b))
    | some false => mfind ck k r (i + 1)
    | none => none
  | _, _ => none
def mPack : Sv → Option (Nat × List Cv)
  | .c x => some (0, [x])
  | .agg cs => some (1, cs)
  | _ => none
def mput (ck : CK) (k : Cv) (g : Nat) (cs : List Cv) (c : Nat) (es : List Cv) : Option (Nat × List Cv) := match mfind ck k es 0 with
  | some (some (i, _, _, b)) => some (c, es.set i (mElem g k cs b))
  | some none => some (c + 1, es ++ [mElem g k cs c])
  | none => none
/-- The first that came at that time, with another element. -/
def mborn (b : Int) (g : Nat) (cs : List Cv) : List Cv → Option (List Cv)
  | [] => none
  | .sl g' [[k], cs', [.sl b' []]] :: r => if (b' : Int) = b then some (mElem g k cs b' :: r) else match mborn b g cs r with
    | some l => some (.sl g' [[k], cs', [.sl b' []]] :: l)
    | none => none
  | _ => none
/-- What ranges over a map: since when, what has been seen. -/
def iterAt (L : List Entry) (id gen : Nat) : Option (Nat × List Cv) := match L[id]? with
  | some e => if e.bx = false ∧ e.gen = gen ∧ e.wd = 0 then match e.rows with
    | [[.sl c []], seen] => some (c, seen)
    | _ => none
    else none
  | none => none
def seenB (b : Nat) : List Cv → Bool
  | [] => false
  | .sl b' [] :: r => b == b' || seenB b r
  | _ :: r => seenB b r
/-- The one that came at that time. -/
def mAtB (b : Nat) : List Cv → Option (Cv × Sv)
  | [] => none
  | .sl g [[k], cs, [.sl b' []]] :: r => if b' == b then match packS (g == 1) cs with
      | some v => some (k, v)
      | none => none
    else mAtB b r
  | _ => none
/-- A value of a kind (0: pointer, 1: map, else slice) held against nil. -/
def nilOf (k : Nat) (L : List Entry) : Cv → Option Bool
  | .val (.pointer none) => if k = 0 then some true else none
  | .val (.pointer (some _)) => if k = 0 then some false else none
  | .rp _ => if k = 0 then some false else none
  | .np id gen _ _ => if k = 0 ∧ live? L id gen then some false else none
  | .val (.map none) => if k = 1 then some true else none
  | .mp id gen => if k = 1 ∧ live? L id gen then some false else none
  | .val (.slice none 0 0) => if k = 2 then some true else none
  | .sl _ (_ :: _) => if k = 2 then some false else none
  | .rs id gen _ (_ + 1) => if k = 2 ∧ live? L id gen then some false else none
  | _ => none

/-- The bounds of a slice expression: lo and hi, where a missing one is the edge. -/
def boundC (st : St) (d : Nat) : Option Opd → Option Int
  | none => some d
  | some x => match st.opd x with
    | .c (.val (.int _ n)) => some n
    | _ => none

/-- The most elements that a slice is let grow to here (the model bears 2^48 bytes). -/
def most : Nat := 4294967296

/-- An operation that calls nothing: what it yields, and the heap behind it. -/
def evalOp (G : Nat → Option (List Value)) (st : St) : Rop → Option (Sv × List Entry)
  | .mv x => some (st.opd x, st.L)
  | .pick c a b => match st.opd c with
    | .c (.val (.bool t)) => some (if t then st.opd a else st.opd b, st.L)
    | _ => none
  | .alloc _ zero _ => some (.c (.np st.L.length 0 0 0), st.L ++ [⟨true, 0, zero.length, [zero]⟩])
  | .box _ n x => match cellsOfS (st.opd x) with
    | some cs => if cs.length = n then some (.c (.np st.L.length 0 0 0), st.L ++ [⟨true, 0, n, [cs]⟩]) else none
    | none => none
  | .build zero parts => match fillC zero (parts.map fun p => (p.1, p.2.1, st.opd p.2.2)) with
    | some cs => some (.agg cs, st.L)
    | none => none
  | .bslice _ wd n zero parts => match fzSL st.L (parts.map fun p => st.opd p.2) with
    | some (vs, L') => match fillR wd (List.replicate n zero) ((parts.map (·.1)).zip vs) with
      | some rows => some (.c (.rs L'.length n 0 n), L' ++ [⟨false, n, wd, rows⟩])
      | none => none
    | none => none
  | .load agg n x => match st.opd x with
    | .c p => match cellsAt G st.L p with
      | some cs => if n ≤ cs.length then (packS agg (cs.take n)).map fun v => (v, st.L) else none
      | none => none
    | _ => none
  | .store n x v => match st.opd x with
    | .c (.np id gen row col) => match st.L[id]? with
      | some e =>
        if e.bx then match cellsOfS (st.opd v), e.rows[row]? with
          | some cs, some r => if e.gen = gen ∧ cs.length = n ∧ col + n ≤ r.length then some (.un, st.L.set id { e with rows := e.rows.set row (putCells r col cs) }) else none
          | _, _ => none
        else match fzS st.L (st.opd v) with
          | some (u, L') => match cellsOfS u, L'[id]? with
            | some cs, some e => match e.rows[row]? with
              | some r => if e.bx = false ∧ e.gen = gen ∧ cs.length = n ∧ col + n ≤ r.length then some (.un, L'.set id { e with rows := e.rows.set row (putCells r col cs) }) else none
              | none => none
            | _, _ => none
          | none => none
      | none => none
    | _ => none
  | .nilchk x => match st.opd x with
    | .c (.np id gen row col) => if live? st.L id gen then some (.c (.np id gen row col), st.L) else none
    | .c (.rp cells) => some (.c (.rp cells), st.L)
    | .c (.val (.pointer (some a))) => some (.c (.val (.pointer (some a))), st.L)
    | _ => none
  | .bin op x y => match st.opd x, st.opd y with
    | .c (.val a), .c (.val b) => (binE op a b).map fun v => (.c (.val v), st.L)
    | _, _ => none
  | .eqB neg x y => match st.opd x, st.opd y with
    | .c (.val (.bool a)), .c (.val (.bool b)) => some (.c (.val (.bool (if neg then !(a == b) else a == b))), st.L)
    | _, _ => none
  | .eq neg k x y => match k, st.opd x, st.opd y with
    | .cell, .c a, .c b => match nilEq a b with
      | some t => some (.c (.val (.bool (if neg then !t else t))), st.L)
      | none => none
    | .cells ks, .agg a, .agg b => match cellsEq ks a b with
      | some t => some (.c (.val (.bool (if neg then !t else t))), st.L)
      | none => none
    | _, _, _ => none
  | .un op x => match st.opd x with
    | .c (.val a) => (unE op a).map fun v => (.c (.val v), st.L)
    | _ => none
  | .convI k x => match st.opd x with
    | .c (.val (.int _ n)) => some (.c (.val (.int k (k.wrap n))), st.L)
    | _ => none
  | .convSame x => match st.opd x with
    | .c (.val (.string s)) => some (.c (.val (.string s)), st.L)
    | _ => none
  | .bytesToStr x => match st.opd x with
    | .c p => match rowsOf 1 st.L p with
      | some rows => match bytesOfRows rows with
        | some l => some (.c (.val (.string ⟨l.toArray⟩)), st.L)
        | none => none
      | none => none
    | _ => none
  | .strToBytes _ x => match st.opd x with
    | .c (.val (.string s)) => some (.c (.rs st.L.length s.size 0 s.size), st.L ++ [⟨false, s.size, 1, s.data.toList.map fun (b : UInt8) => [Cv.val (.int .u8 b.toNat)]⟩])
    | _ => none
  | .mkif t x => match st.opd x with
    | .c y => some (.c (.ifc t y), st.L)
    | _ => none
  | .mkfn f caps => match allC (caps.map st.opd) with
    | some l => some (.c (.fn f l), st.L)
    | none => none
  | .mksl _ wd _ zero len cap => match st.opd len, st.opd cap with
    | .c (.val (.int .i64 n)), .c (.val (.int .i64 m)) => if 0 ≤ n ∧ n ≤ m ∧ m ≤ 4294967296 then some (.c (.rs st.L.length n.toNat 0 n.toNat), st.L ++ [⟨false, n.toNat, wd, List.replicate n.toNat zero⟩]) else none
    | _, _ => none
  | .slice wd x lo hi => match st.opd x with
    | .c p => match lenOf st.L p with
      | some n => match boundC st 0 lo, boundC st n hi with
        | some l, some h => if 0 ≤ l ∧ l ≤ h ∧ h ≤ n then match p with
            | .sl wd' rows => if wd' = wd then some (.c (.sl wd ((rows.take h.toNat).drop l.toNat)), st.L) else none
            | .rs id gen a _ => if liveW st.L id gen wd then some (.c (.rs id gen (a + l.toNat) (h.toNat - l.toNat)), st.L) else none
            | .ca id gen row col _ => if wd = 1 then some (.c (.ca id gen row (col + l.toNat) (h.toNat - l.toNat)), st.L) else none
            | .val (.slice none 0 0) => some (.c (.val (.slice none 0 0)), st.L)
            | _ => none
          else none
        | _, _ => none
      | none => none
    | _ => none
  | .sliceS x lo hi => match st.opd x with
    | .c (.val (.string s)) => match boundC st 0 lo, boundC st s.size hi with
      | some l, some h => if 0 ≤ l ∧ l ≤ h ∧ h ≤ s.size then some (.c (.val (.string (s.extract l.toNat h.toNat))), st.L) else none
      | _, _ => none
    | _ => none
  | .sliceA n x lo hi => match st.opd x with
    | .c (.np id gen row col) => match boundC st 0 lo, boundC st n hi with
      | some l, some h => if 0 ≤ l ∧ l ≤ h ∧ h ≤ n ∧ arrFits st.L id gen row col n then some (.c (.ca id gen row (col + l.toNat) (h.toNat - l.toNat)), st.L) else none
      | _, _ => none
    | _ => none
  | .faddr off x => match st.opd x with
    | .c (.np id gen row col) => if live? st.L id gen then some (.c (.np id gen row (col + off)), st.L) else none
    | .c (.rp cells) => some (.c (.rp (cells.drop off)), st.L)
    | .c (.val (.pointer (some ⟨g, o, none⟩))) => some (.c (.val (.pointer (some ⟨g, o + off, none⟩))), st.L)
    | _ => none
  | .field agg off n x => match st.opd x with
    | .agg cs => if off + n ≤ cs.length then (packS agg ((cs.drop off).take n)).map fun v => (v, st.L) else none
    | _ => none
  | .iaddr wd x i => match st.opd x, st.opd i with
    | .c p, .c (.val (.int _ j)) => match p with
      | .sl wd' rows => if 0 ≤ j ∧ wd' = wd then match rows[j.toNat]? with
        | some r => some (.c (.rp r), st.L)
        | none => none
        else none
      | .rs id gen lo len => if 0 ≤ j ∧ j < len ∧ liveW st.L id gen wd then some (.c (.np id gen (lo + j.toNat) 0), st.L) else none
      | .ca id gen row col len => if 0 ≤ j ∧ j < len ∧ live? st.L id gen ∧ wd = 1 then some (.c (.np id gen row (col + j.toNat)), st.L) else none
      | _ => none
    | _, _ => none
  | .iaddrA len wd x i => match st.opd x, st.opd i with
    | .c p, .c (.val (.int _ j)) => if 0 ≤ j ∧ j < len then match p with
      | .np id gen row col => if live? st.L id gen then some (.c (.np id gen row (col + j.toNat * wd)), st.L) else none
      | .rp cells => some (.c (.rp (cells.drop (j.toNat * wd))), st.L)
      | .val (.pointer (some ⟨g, o, none⟩)) => some (.c (.val (.pointer (some ⟨g, o + j.toNat * wd, none⟩))), st.L)
      | _ => none
      else none
    | _, _ => none
  | .idxA agg len wd x i => match st.opd x, st.opd i with
    | .agg cs, .c (.val (.int _ j)) => if 0 ≤ j ∧ j < len ∧ (j.toNat + 1) * wd ≤ cs.length then (packS agg ((cs.drop (j.toNat * wd)).take wd)).map fun v => (v, st.L) else none
    | _, _ => none
  | .idxS x i => match st.opd x, st.opd i with
    | .c (.val (.string s)), .c (.val (.int _ j)) => if 0 ≤ j then (s[j.toNat]?).map fun b => (.c (.val (.int .u8 b.toNat)), st.L) else none
    | _, _ => none
  | .tas t ok zero x => match st.opd x with
    | .c (.val .nilIface) => if ok then some (.tup [zero, .c (.val (.bool false))], st.L) else none
    | .c (.ifc t' y) => if t' = t then some (if ok then .tup [.c y, .c (.val (.bool true))] else .c y, st.L) else if ok then some (.tup [zero, .c (.val (.bool false))], st.L) else none
    | .c (.val (.iface t' v)) => if t' = t then (if v.oneCell' then some (if ok then .tup [.c (.val v), .c (.val (.bool true))] else .c (.val v), st.L) else none)
      else if ok then some (.tup [zero, .c (.val (.bool false))], st.L) else none
    | _ => none
  | .extr x i => match st.opd x with
    | .tup xs => (xs[i]?).map fun v => (v, st.L)
    | _ => none
  | .len x => match st.opd x with
    | .c p => match lenOf st.L p with
      | some n => some (.c (.val (.int .i64 (n : Int))), st.L)
      | none => none
    | _ => none
  | .lenS x => match st.opd x with
    | .c (.val (.string s)) => some (.c (.val (.int .i64 s.size)), st.L)
    | _ => none
  | .lenA n => some (.c (.val (.int .i64 n)), st.L)
  | .app _ wd _ x y => match st.opd x, st.opd y with
    | .c p, .c q => match srcRows wd st.L q with
      | some new => match p with
        | .val (.slice none 0 0) => if new.length ≤ most then some (.c (.rs st.L.length new.length 0 new.length), st.L ++ [⟨false, new.length, wd, new⟩]) else none
        | .rs id gen lo len => match st.L[id]? with
          | some e => if e.bx = false ∧ e.gen = gen ∧ (e.wd = wd ∨ e.wd = 0 ∧ e.rows = []) ∧ lo = 0 ∧ len = e.rows.length ∧ len + new.length ≤ most then
              some (.c (.rs id (gen + new.length) 0 (len + new.length)), st.L.set id ⟨false, gen + new.length, wd, e.rows ++ new⟩) else none
          | none => none
        | _ => none
      | none => none
    | _, _ => none
  | .cpy _ _ _ => none
  | .maxmin mx xs => match xs.map st.opd with
    | .c x :: r => match maxC mx x r with
      | some v => some (.c v, st.L)
      | none => none
    | _ => none
  | .isnil k neg x => match st.opd x with
    | .c p => match nilOf k st.L p with
      | some t => some (.c (.val (.bool (if neg then !t else t))), st.L)
      | none => none
    | _ => none
  | .slice3 wd x lo hi mx => match st.opd x, st.opd mx with
    | .c p, .c (.val (.int _ m)) => match lenOf st.L p with
      | some n => match boundC st 0 lo, boundC st n hi with
        | some l, some h => if 0 ≤ l ∧ l ≤ h ∧ h ≤ m ∧ m ≤ n then
            if l = m then some (.c (.rs st.L.length 0 0 0), st.L ++ [⟨false, 0, wd, []⟩]) else match p with
            | .sl wd' rows => if wd' = wd then some (.c (.sl wd ((rows.take h.toNat).drop l.toNat)), st.L) else none
            | .rs id gen a _ => if liveW st.L id gen wd then some (.c (.rs id gen (a + l.toNat) (h.toNat - l.toNat)), st.L) else none
            | _ => none
          else none
        | _, _ => none
      | none => none
    | _, _ => none
  | .mkmap => some (.c (.mp st.L.length 0), st.L ++ [mapE 0 0 []])
  | .mget ck ok zero x y => match st.opd x, st.opd y with
    | .c p, .c kv => match mapEs st.L p with
      | some es => match mfind ck kv es 0 with
        | some (some (_, g, cs, _)) => match packS (g == 1) cs with
          | some v => some (if ok then .tup [v, .c (.val (.bool true))] else v, st.L)
          | none => none
        | some none => some (if ok then .tup [zero, .c (.val (.bool false))] else zero, st.L)
        | none => none
      | none => none
    | _, _ => none
  | .mset ck x y v => match st.opd x, st.opd y with
    | .c (.mp id gen), .c (.val kv) => match fzS st.L (st.opd v) with
      | some (u, L') => match mapAt L' id gen, mPack u with
        | some (c, es), some (g, cs) => match mput ck (.val kv) g cs c es with
          | some (c', es') => some (.un, L'.set id (mapE gen c' es'))
          | none => none
        | _, _ => none
      | none => none
    | _, _ => none
  | .ment ck zero x y => match st.opd x, st.opd y with
    | .c (.mp id gen), .c (.val kv) => match mapAt st.L id gen, mPack zero with
      | some (c, es), some (g0, cs0) => match mfind ck (.val kv) es 0 with
        | some (some (_, g, cs, b)) => match packS (g == 1) cs with
          | some v => some (.tup [v, .c (.val (.int .i64 (b : Nat)))], st.L)
          | none => none
        | some none => some (.tup [zero, .c (.val (.int .i64 (c : Nat)))], st.L.set id (mapE gen (c + 1) (es ++ [mElem g0 (.val kv) cs0 c])))
        | none => none
      | _, _ => none
    | _, _ => none
  | .mest x y v => match st.opd x, st.opd y with
    | .c (.mp id gen), .c (.val (.int .i64 b)) => match fzS st.L (st.opd v) with
      | some (u, L') => match mapAt L' id gen, mPack u with
        | some (c, es), some (g, cs) => match mborn b g cs es with
          | some es' => some (.un, L'.set id (mapE gen c es'))
          | none => none
        | _, _ => none
      | none => none
    | _, _ => none
  | .mdel ck x y => match st.opd x, st.opd y with
    | .c (.val (.map none)), .c (.val _) => some (.tup [], st.L)
    | .c (.mp id gen), .c kv => match mapAt st.L id gen with
      | some (c, es) => match mfind ck kv es 0 with
        | some (some (i, _)) => some (.tup [], st.L.set id (mapE gen c (es.eraseIdx i)))
        | some none => some (.tup [], st.L)
        | none => none
      | none => none
    | _, _ => none
  | .lenM x => match st.opd x with
    | .c p => match mapEs st.L p with
      | some es => some (.c (.val (.int .i64 (es.length : Nat))), st.L)
      | none => none
    | _ => none
  | .range x => match st.opd x with
    | .c (.mp id gen) => match mapAt st.L id gen with
      | some (c, _) => some (.c (.it st.L.length 0 id gen), st.L ++ [⟨false, 0, 0, [[.sl c []], []]⟩])
      | none => none
    | _ => none
  | .next _ => none
  | .entry x => match st.opd x with
    | .c (.it id gen mid mg) => match mapAt st.L mid mg, iterAt st.L id gen with
      | some (c, es), some (since, seen) => if c = since then match seen.getLast? with
        | some (.sl b []) => match mAtB b es with
          | some (k, v) => some (.tup [.c k, v], st.L)
          | none => none
        | _ => none
        else none
      | _, _ => none
    | _ => none
  | .call _ _ => none
  | .callv _ _ => none

end Go.LH

namespace Go.LH
open Go

/-- Where an entry's rows lie: row 0 begins at cell o of block b, which has n cells. -/
structure Pl where
  b : Nat
  o : Nat
  n : Nat
abbrev Pls := List (Option Pl)
def Owned (A : Pls) (b : Nat) : Prop := ∃ (i : Nat) (p : Pl), A[i]? = some (some p) ∧ p.b = b

/-- Value v is plain content c in world w. X: the blocks that may not be looked at. -/
inductive RepV (w : World) (X : Nat → Prop) : Cv → Value → Prop
  | val (v : Value) (h1 : v.oneCell' = true) : RepV w X (.val v) v
  | sl0 (wd : Nat) (a : Option Addr) (cap : Nat) : RepV w X (.sl wd []) (.slice a 0 cap)
  | sl (wd : Nat) (rows : List (List Cv)) (b o cap : Nat) (us : Nat → Nat → Value) (hcap : rows.length ≤ cap) (hb : b < w.heap.size) (hX : ¬ X b) (hwd : ∀ (r : Nat) (row : List Cv), rows[r]? = some row → row.length = wd)
      (hc : ∀ (r : Nat) (row : List Cv) (j : Nat) (c : Cv), rows[r]? = some row → row[j]? = some c → w.cell? ⟨b, o + r * wd + j, none⟩ = some (us r j))
      (hr : ∀ (r : Nat) (row : List Cv) (j : Nat) (c : Cv), rows[r]? = some row → row[j]? = some c → RepV w X c (us r j)) : RepV w X (.sl wd rows) (.slice (some ⟨b, o, none⟩) rows.length cap)
  | rp (cells : List Cv) (b o : Nat) (us : Nat → Value) (hb : b < w.heap.size) (hX : ¬ X b)
      (hc : ∀ (j : Nat) (c : Cv), cells[j]? = some c → w.cell? ⟨b, o + j, none⟩ = some (us j))
      (hr : ∀ (j : Nat) (c : Cv), cells[j]? = some c → RepV w X c (us j)) : RepV w X (.rp cells) (.pointer (some ⟨b, o, none⟩))
  | ifc (t : TypeId) (x : Cv) (u : Value) (h : RepV w X x u) : RepV w X (.ifc t x) (.iface t u)
  | fn (f : Fn) (caps : List Cv) (us : List Value) (hn : caps.length = us.length) (h : ∀ (i : Nat) (c : Cv) (u : Value), caps[i]? = some c → us[i]? = some u → RepV w X c u) :
      RepV w X (.fn f caps) (.func f #[] us.toArray)

def RsRep (A : Pls) (e : Entry) (id lo len : Nat) (v : Value) : Prop :=
  e.bx = false ∧ lo + len ≤ e.rows.length ∧ ∃ (a : Option Addr) (cap : Nat), v = .slice a len cap ∧ len ≤ cap ∧
    ((A[id]? = some none ∧ cap = 0) ∨
     (cap = 0 ∧ 0 < e.wd ∧ ∃ p : Pl, A[id]? = some (some p)) ∨
     (∃ p : Pl, A[id]? = some (some p) ∧ 0 < e.wd ∧ a = some ⟨p.b, p.o + lo * e.wd, none⟩ ∧ p.o + (lo + cap) * e.wd ≤ p.n))

inductive Rep (w : World) (X : Nat → Prop) (A : Pls) (L : List Entry) : Cv → Value → Prop
  | v (c : Cv) (u : Value) (h : RepV w X c u) : Rep w X A L c u
  | np (id gen row col : Nat) (v : Value) (h1 : v.oneCell' = true) (h : ∃ e : Entry, L[id]? = some e ∧ gen ≤ e.gen ∧ (e.gen = gen → (e.bx = true ∨ 0 < e.wd) ∧ ∃ p : Pl, A[id]? = some (some p) ∧
        v = .pointer (some ⟨p.b, p.o + row * e.wd + col, none⟩))) : Rep w X A L (.np id gen row col) v
  | rs (id gen lo len : Nat) (v : Value) (h1 : v.oneCell' = true) (h : ∃ e : Entry, L[id]? = some e ∧ gen ≤ e.gen ∧ (e.gen = gen → RsRep A e id lo len v)) : Rep w X A L (.rs id gen lo len) v
  | ca (id gen row col len : Nat) (v : Value) (h1 : v.oneCell' = true) (h : ∃ e : Entry, L[id]? = some e ∧ gen ≤ e.gen ∧ (e.gen = gen → (e.bx = true ∨ 0 < e.wd) ∧ ∃ (p : Pl) (a : Addr) (cap : Nat), A[id]? = some (some p) ∧
        v = .slice (some a) len cap ∧ len ≤ cap ∧ (cap = 0 ∨ (a = ⟨p.b, p.o + row * e.wd + col, none⟩ ∧ col + cap ≤ e.wd ∧ row < e.rows.length)))) : Rep w X A L (.ca id gen row col len) v
  | ifc (t : TypeId) (x : Cv) (u : Value) (h : Rep w X A L x u) : Rep w X A L (.ifc t x) (.iface t u)
  | fn (f : Fn) (caps : List Cv) (us : List Value) (hn : caps.length = us.length) (h : ∀ (i : Nat) (c : Cv) (u : Value), caps[i]? = some c → us[i]? = some u → Rep w X A L c u) :
      Rep w X A L (.fn f caps) (.func f #[] us.toArray)
  | mp (id gen : Nat) (v : Value) (h1 : v.oneCell' = true) (h : ∃ e : Entry, L[id]? = some e ∧ gen ≤ e.gen ∧ (e.gen = gen → e.bx = false ∧ e.wd = 0 ∧ ∃ p : Pl, A[id]? = some (some p) ∧ v = .map (some p.b))) : Rep w X A L (.mp id gen) v
  | it (id gen mid mg : Nat) (v : Value) (h1 : v.oneCell' = true) (h : ∃ e e' : Entry, L[id]? = some e ∧ gen ≤ e.gen ∧ L[mid]? = some e' ∧ mg ≤ e'.gen ∧ (e.gen = gen → e'.gen = mg → (e.bx = false ∧ e.wd = 0) ∧ (e'.bx = false ∧ e'.wd = 0) ∧
        ∃ p q : Pl, A[id]? = some (some p) ∧ A[mid]? = some (some q) ∧ p.n = q.b ∧ v = .pointer (some ⟨p.b, 0, none⟩))) : Rep w X A L (.it id gen mid mg) v

inductive SRep (w : World) (X : Nat → Prop) (A : Pls) (L : List Entry) : Sv → Value → Prop
  | un (v : Value) : SRep w X A L .un v
  | ud : SRep w X A L .ud undef
  | c (x : Cv) (v : Value) (h : Rep w X A L x v) : SRep w X A L (.c x) v
  | agg (cells : List Cv) (us : List Value) (hn : cells.length = us.length) (h : ∀ (i : Nat) (c : Cv) (u : Value), cells[i]? = some c → us[i]? = some u → Rep w X A L c u) :
      SRep w X A L (.agg cells) (.agg us.toArray)
  | tup (xs : List Sv) (us : List Value) (hn : xs.length = us.length) (h : ∀ (i : Nat) (c : Sv) (u : Value), xs[i]? = some c → us[i]? = some u → SRep w X A L c u) :
      SRep w X A L (.tup xs) (.tuple us.toArray)

/-- A value of a slot that is plain content. -/
inductive SRepV (w : World) (X : Nat → Prop) : Sv → Value → Prop
  | c (x : Cv) (v : Value) (h : RepV w X x v) : SRepV w X (.c x) v
  | agg (cells : List Cv) (us : List Value) (hn : cells.length = us.length) (h : ∀ (i : Nat) (c : Cv) (u : Value), cells[i]? = some c → us[i]? = some u → RepV w X c u) :
      SRepV w X (.agg cells) (.agg us.toArray)
  | tup (xs : List Sv) (us : List Value) (hn : xs.length = us.length) (h : ∀ (i : Nat) (c : Sv) (u : Value), xs[i]? = some c → us[i]? = some u → SRepV w X c u) :
      SRepV w X (.tup xs) (.tuple us.toArray)

/-- What a map holds. -/
def MRow (w : World) (X : Nat → Prop) (l : List Cv) (es : Array MapEntry) (clock : Nat) : Prop :=
  l.length = es.size ∧ ∀ (i : Nat) (c : Cv) (m : MapEntry), l[i]? = some c → es[i]? = some m → ∃ (g : Nat) (cs : List Cv) (s : Sv), c = mElem g (.val m.key) cs m.born ∧ m.key.oneCell' = true ∧ m.born < clock ∧ packS (g == 1) cs = some s ∧ SRepV w X s m.val
/-- An entry of width 0: a map, or what ranges over one. -/
def MpRep (w : World) (X : Nat → Prop) (e : Entry) (p : Pl) : Prop := e.bx = false ∧ e.wd = 0 ∧
  ((∃ (l : List Cv) (es : Array MapEntry) (c : Nat), e.rows = [.sl c [] :: l] ∧ w.heap[p.b]? = some (.map es c) ∧ MRow w X l es c) ∨
   ∃ (since : Nat) (seen : List Nat), e.rows = [[.sl since []], seen.map fun b => .sl b []] ∧ w.heap[p.b]? = some (.mapIter (some p.n) since seen.toArray since))
/-- Rows of cells. -/
def CRep (w : World) (X : Nat → Prop) (A : Pls) (L : List Entry) (e : Entry) (p : Pl) : Prop := (e.bx = true ∨ 0 < e.wd) ∧ ∃ (arr : Array Value) (el : TypeId) (fz : Nat × Nat), w.heap[p.b]? = some (.cells arr el fz) ∧ arr.size = p.n ∧ (∀ x, x < arr.size → ¬ (fz.1 ≤ x ∧ x < fz.2)) ∧ p.o + e.rows.length * e.wd ≤ arr.size ∧
      ∀ (r : Nat) (row : List Cv), e.rows[r]? = some row → row.length = e.wd ∧ ∀ (j : Nat) (c : Cv), row[j]? = some c → ∃ u, arr[p.o + r * e.wd + j]? = some u ∧
        (if e.bx then Rep w X A L c u else RepV w X c u)
def ERep (w : World) (X : Nat → Prop) (A : Pls) (L : List Entry) (e : Entry) : Option Pl → Prop
  | none => e.rows = []
  | some p => CRep w X A L e p ∨ MpRep w X e p
theorem ERep.block {w : World} {X : Nat → Prop} {A : Pls} {L : List Entry} {e : Entry} {p : Pl} (h : ERep w X A L e (some p)) : ∃ ob, w.heap[p.b]? = some ob := by
  rcases h with ⟨_, arr, el, fz, hb, _⟩ | ⟨_, _, ⟨l, es, c, _, hb, _⟩ | ⟨s, l, _, hb⟩⟩ <;> exact ⟨_, hb⟩
theorem ERep.cells {w : World} {X : Nat → Prop} {A : Pls} {L : List Entry} {e : Entry} {p : Pl} (h : ERep w X A L e (some p)) (hk : e.bx = true ∨ 0 < e.wd) : CRep w X A L e p := by
  rcases h with h | ⟨h1, h2, _⟩
  · exact h
  · rcases hk with hk | hk
    · rw [h1] at hk; cases hk
    · omega

structure HeapOK (w : World) (F : Nat → Prop) (A : Pls) (L : List Entry) : Prop where
  len : A.length = L.length
  inj : ∀ (i j : Nat) (p q : Pl), A[i]? = some (some p) → A[j]? = some (some q) → p.b = q.b → i = j
  far : ∀ b, Owned A b → ¬ F b
  ent : ∀ (i : Nat) (e : Entry) (pl : Option Pl), L[i]? = some e → A[i]? = some pl → ERep w (fun b => Owned A b ∨ F b) A L e pl

abbrev GEnv := Nat → Option (List Value)
def GOK (G : GEnv) (w : World) (X : Nat → Prop) : Prop :=
  ∀ g l, G g = some l → ¬ X g ∧ g < w.heap.size ∧ (∀ (j : Nat) (v : Value), l[j]? = some v → v.oneCell' = true ∧ w.cell? ⟨g, j, none⟩ = some v) ∧
    ∀ (v : Value) (t : TypeId) (a : Addr), v ∈ l → v = .iface t (.pointer (some a)) → ¬ X a.block ∧ a.block < w.heap.size ∧ ∃ (c : Array Value) (ty : TypeId), w.heap[a.block]? = some (.cells c ty (0, 0))

structure Fr (w0 : World) (O : Nat → Prop) (w : World) : Prop where
  os : w.os = w0.os
  tape : w.tape = w0.tape
  output : w.output = w0.output
  size : w0.heap.size ≤ w.heap.size
  block : ∀ k, k < w0.heap.size → ¬ O k → w.heap[k]? = w0.heap[k]?

def OwnNew (w0 : World) (A0 A : Pls) : Prop := ∀ b, Owned A b → Owned A0 b ∨ w0.heap.size ≤ b

/-- What was there is still where it was, unless its number of turns says otherwise. -/
def Stab (L0 : List Entry) (A0 : Pls) (L : List Entry) (A : Pls) : Prop :=
  ∀ (i : Nat) (e0 : Entry), L0[i]? = some e0 → ∃ e : Entry, L[i]? = some e ∧ e0.gen ≤ e.gen ∧ (e.gen = e0.gen → A[i]? = A0[i]? ∧ (e.wd = e0.wd ∨ A[i]? = some none) ∧ e.bx = e0.bx ∧ e.rows.length = e0.rows.length)

def ArgsRep (w : World) (X : Nat → Prop) (A : Pls) (L : List Entry) (args : List Sv) (vs : List Value) : Prop :=
  args.length = vs.length ∧ ∀ (i : Nat) (s : Sv) (v : Value), args[i]? = some s → vs[i]? = some v → SRep w X A L s v
def ArgsRepV (w : World) (X : Nat → Prop) (args : List Sv) (vs : List Value) : Prop :=
  args.length = vs.length ∧ ∀ (i : Nat) (s : Sv) (v : Value), args[i]? = some s → vs[i]? = some v → SRepV w X s v

/-- THE CONTRACT of a function that takes part in the caller's heap: called with these arguments over this heap, it returns, and what comes back meets Post. -/
def Good (G : GEnv) (P : Program) (f : FuncId) (args : List Sv) (L : List Entry) (Post : Sv → List Entry → Prop) : Prop :=
  ∀ (w : World) (F : Nat → Prop) (A : Pls) (vs : List Value), (∀ b, F b → b < w.heap.size) → HeapOK w F A L → GOK G w (fun b => Owned A b ∨ F b) → ArgsRep w (fun b => Owned A b ∨ F b) A L args vs →
    Calls P f vs.toArray w fun e w' => ∃ v r L' A', e = .returned v ∧ Post r L' ∧ HeapOK w' F A' L' ∧ SRep w' (fun b => Owned A' b ∨ F b) A' L' r v ∧ Fr w (Owned A) w' ∧ OwnNew w A A' ∧ Stab L A L' A'

/-- THE CONTRACT of a function of plain content: it writes nothing that was there. -/
def GoodV (G : GEnv) (P : Program) (f : FuncId) (args : List Sv) (Post : Sv → Prop) : Prop :=
  ∀ (w : World) (X : Nat → Prop) (vs : List Value), (∀ b, X b → b < w.heap.size) → GOK G w X → ArgsRepV w X args vs →
    Calls P f vs.toArray w fun e w' => ∃ v r, e = .returned v ∧ Post r ∧ SRepV w' X r v ∧ Fr w (fun _ => False) w'

/-- What a state stands for. -/
structure R (G : GEnv) (F : Nat → Prop) (w0 : World) (L0 : List Entry) (A0 : Pls) (nt : Nat) (st : St) (A : Pls) (a : Act) (w : World) : Prop where
  heap : HeapOK w F A st.L
  slots : ∀ i, SRep w (fun b => Owned A b ∨ F b) A st.L (sget st.s i) (a.tmps.getD i undef)
  defers : a.defers = []
  size : a.tmps.size = nt
  glob : GOK G w (fun b => Owned A b ∨ F b)
  frame : Fr w0 (Owned A0) w
  own : OwnNew w0 A0 A
  stab : Stab L0 A0 st.L A

inductive Out where
  | normal
  | exit (id : Nat)
  | ret
  deriving DecidableEq

def put (st : St) (dst : Option Nat) (v : Sv) : St :=
  match dst with
  | some d => { st with s := sset st.s d v }
  | none => st

/-- A call: over plain content (the caller's own things given up, or only shown), or over the caller's heap. -/
def callR (G : GEnv) (P : Program) (f : FuncId) (args : List Sv) (L : List Entry) (K : Sv → List Entry → Prop) : Prop :=
  (∃ (as : List Sv) (L1 : List Entry) (Post : Sv → Prop), fzSL L args = some (as, L1) ∧ GoodV G P f as Post ∧ ∀ r, Post r → K r L1) ∨
  (∃ (as : List Sv) (Post : Sv → Prop), snSL L args = some as ∧ GoodV G P f as Post ∧ ∀ r, Post r → plainR r = true ∧ K r L) ∨
  (∃ (as : List Sv) (ks : Ks) (Lc : List Entry) (Post : Sv → List Entry → Prop), gcArgs args L = some (as, ks, Lc) ∧ Good G P f as Lc Post ∧
    ∀ r L', Post r L' → K (renR (back ks L.length) r) (lay (back ks L.length) ks L' L))

/-- The program has a body for it. -/
def callable (P : Program) (f : FuncId) : Bool :=
  match P.funcs[f]? with
  | some fn => fn.body.isSome && fn.name != "runtime.NumGoroutine"
  | none => false

/-- The next one of a range: any that hasn't been seen; the end where all have. -/
def stepNext (L : List Entry) (x : Sv) (K : Sv → List Entry → Prop) : Prop := match x with
  | .c (.it id gen mid mg) => match mapAt L mid mg, iterAt L id gen with
    | some (c, es), some (since, seen) => c = since ∧
       (∀ (i : Nat) (g : Nat) (k : Cv) (cs : List Cv) (b : Nat) (v : Sv), es[i]? = some (mElem g k cs b) → seenB b seen = false → packS (g == 1) cs = some v → K (.tup [.c (.val (.bool true)), .c k, v]) (L.set id ⟨false, gen, 0, [[.sl since []], seen ++ [.sl b []]]⟩)) ∧
       ((∀ (i : Nat) (g : Nat) (k : Cv) (cs : List Cv) (b : Nat), es[i]? = some (mElem g k cs b) → seenB b seen = true) → K (.tup [.c (.val (.bool false))]) L)
    | _, _ => False
  | _ => False

def stepOp (G : GEnv) (P : Program) (o : Rop) (st : St) (K : Sv → List Entry → Prop) : Prop :=
  match o with
  | .next x => stepNext st.L (st.opd x) K
  | .call f args => callR G P f (args.map st.opd) st.L K
  | .callv x args => match st.opd x with
    | .c (.fn (.func f) caps) => callable P f = true ∧ callR G P f (args.map st.opd ++ caps.map Sv.c) st.L K
    | _ => False
  | o => match evalOp G st o with
    | some (v, L') => K v L'
    | none => False

def stepG (G : GEnv) (P : Program) (o : ROper) (st : St) (K : St → Prop) : Prop :=
  match o.guard with
  | none => stepOp G P o.op st fun v L' => K (put ⟨st.s, L'⟩ o.dst v)
  | some (d, want) => match sget st.s d with
    | .ud => K (put st o.dst .ud)
    | .c (.val (.bool t)) => (t = want → stepOp G P o.op st fun v L' => K (put ⟨st.s, L'⟩ o.dst v)) ∧ (t = !want → K (put st o.dst .ud))
    | _ => False

def VCops (G : GEnv) (P : Program) : List ROper → (St → Prop) → St → Prop
  | [], K, st => K st
  | o :: r, K, st => stepG G P o st (VCops G P r K)

/-- In a region whose order is open: nothing is made; a call's arguments and its answer are plain. -/
def stepD (G : GEnv) (P : Program) (o : Rop) (st : St) (K : Sv → Prop) : Prop :=
  match o with
  | .call f args => ∃ (as : List Sv) (r : Sv), snSL st.L (args.map st.opd) = some as ∧ plainR r = true ∧ GoodV G P f as (fun x => x = r) ∧ K r
  | o => match evalOp G st o with
    | some (v, _) => K v
    | none => False
def stepDG (G : GEnv) (P : Program) (o : ROper) (st : St) (K : St → Prop) : Prop :=
  match o.guard with
  | none => stepD G P o.op st fun v => K (put st o.dst v)
  | some (d, want) => match sget st.s d with
    | .ud => K (put st o.dst .ud)
    | .c (.val (.bool t)) => (t = want → stepD G P o.op st fun v => K (put st o.dst v)) ∧ (t = !want → K (put st o.dst .ud))
    | _ => False
def VCd (G : GEnv) (P : Program) : List ROper → (St → Prop) → St → Prop
  | [], K, st => K st
  | o :: r, K, st => stepDG G P o st (VCd G P r K)

/-- A region whose order is open and that makes or calls: what only looks may come later than told (up to so many makings), the makings come in one order. -/
def stepQ (G : GEnv) (o : ROper) (st : St) (K : Sv → Prop) : Prop :=
  match o.guard with
  | none => match evalOp G st o.op with
    | some (v, _) => K v
    | none => False
  | some (d, want) => match sget st.s d with
    | .ud => K .ud
    | .c (.val (.bool t)) => (t = want → match evalOp G st o.op with | some (v, _) => K v | none => False) ∧ (t = !want → K .ud)
    | _ => False
def again (G : GEnv) (e : Nat) (L : List Entry) : List (Nat × Slots × ROper × Sv) → Prop
  | [] => True
  | (hi, s, o, v) :: r => (if Nat.ble e hi then stepQ G o ⟨s, L⟩ (fun v' => v' = v) else True) ∧ again G e L r
def VCo (G : GEnv) (P : Program) : List (ROper × Bool × Nat) → Nat → List (Nat × Slots × ROper × Sv) → (St → Prop) → St → Prop
  | [], _, _, K, st => K st
  | (o, main, hi) :: r, e, pend, K, st =>
    if main then stepG G P o st fun st' => again G (e + 1) st'.L pend ∧ VCo G P r (e + 1) pend K st'
    else stepQ G o st fun v => VCo G P r e (if Nat.blt e hi then (hi, st.s, o, v) :: pend else pend) K (put st o.dst v)

def seqQ (b : St → Prop) (Q : Out → St → Prop) : Out → St → Prop
  | .normal, st => b st
  | .exit i, st => Q (.exit i) st
  | .ret, st => Q .ret st
def blockQ (id : Nat) (Q : Out → St → Prop) : Out → St → Prop
  | .normal, st => Q .normal st
  | .exit i, st => if i = id then Q .normal st else Q (.exit i) st
  | .ret, st => Q .ret st

def VC (G : GEnv) (P : Program) (n0 : Nat) : RC → (Out → St → Prop) → St → Prop
  | .skip, Q, st => Q .normal st
  | .ops d l, Q, st => if d then VCd G P l (Q .normal) st else VCops G P l (Q .normal) st
  | .ops2 l, Q, st => VCo G P l 0 [] (Q .normal) st
  | .seq a b, Q, st => VC G P n0 a (seqQ (VC G P n0 b Q) Q) st
  | .cond c a b, Q, st => match st.opd c with
    | .c (.val (.bool t)) => (t = true → VC G P n0 a Q st) ∧ (t = false → VC G P n0 b Q st)
    | _ => False
  | .block id a, Q, st => VC G P n0 a (blockQ id Q) st
  | .loop a, Q, st => ∃ I : Nat → St → Prop, (∃ n, I n st) ∧ ∀ n st', I n st' → VC G P n0 a (seqQ (fun st' => ∃ m, m < n ∧ I m st') Q) st'
  | .exit id, Q, st => Q (.exit id) st
  | .ret, Q, st => Q .ret st
  | .keep l, Q, st => Q .normal ⟨skeep l st.s, st.L⟩
  | .gc, Q, st => match gc n0 st with
    | some st' => Q .normal st'
    | none => False

inductive ResR where
  | slot (i : Nat)
  | cell (agg : Bool) (n : Nat) (i : Nat)
  deriving Inhabited
structure RF where
  np : Nat
  nt : Nat
  res : List ResR
  body : RC
  deriving Inhabited

def initS : Nat → List Sv → Slots
  | _, [] => []
  | i, v :: r => (i, v) :: initS (i + 1) r
def resOne (G : GEnv) (st : St) : ResR → Option Sv
  | .slot i => some (sget st.s i)
  | .cell agg n i => match sget st.s i with
    | .c p => match cellsAt G st.L p with
      | some cs => if n ≤ cs.length then packS agg (cs.take n) else none
      | none => none
    | _ => none
def resL (G : GEnv) (st : St) : List ResR → Option (List Sv)
  | [] => some []
  | r :: l => match resOne G st r, resL G st l with
    | some v, some vs => some (v :: vs)
    | _, _ => none
def resS (G : GEnv) (st : St) (l : List ResR) : Option Sv :=
  match resL G st l with
  | some [v] => some v
  | some vs => some (.tup vs)
  | none => none
/-- The end of a function of plain content. -/
def endV (G : GEnv) (l : List ResR) (Post : Sv → Prop) : Out → St → Prop
  | .exit _, _ => False
  | _, st => match resS G st l with
    | some r => match fzR st.L r with
      | some (x, _) => Post x
      | none => False
    | none => False
/-- The end of a function over the caller's heap, of which n entries were there. -/
def endQ (G : GEnv) (n : Nat) (l : List ResR) (Post : Sv → List Entry → Prop) : Out → St → Prop
  | .exit _, _ => False
  | _, st => match resS G st l with
    | some r => match gcRes n r st.L with
      | some (x, L') => Post x L'
      | none => False
    | none => False
end Go.LH

namespace Go.LH
open Go

def cConst : Value → Option Sv
  | .agg cs => if cs.toList.all (·.oneCell') then some (.agg (cs.toList.map Cv.val)) else none
  | .tuple _ => none
  | v => some (.c (.val v))
def cOpd : Operand → Option Opd
  | .tmp t => some (.t t)
  | .const v => (cConst v).map Opd.k
  | .global g => some (.k (.c (.val (.pointer (some ⟨g, 0, none⟩)))))
  | .func f => some (.k (.c (.fn (.func f) [])))
def cAgg (P : Program) (t : TypeId) : Option Bool :=
  match P.underlying t with
  | some (.struct _) | some (.array _ _) => some true
  | some _ => some false
  | none => none
def cSize (P : Program) (t : TypeId) : Option Nat := (P.info? t).map (·.size)
def cZero (P : Program) (t : TypeId) : Option (List Cv) :=
  match (P.info? t).bind (·.zero) with
  | some v => if v.cells.toList.all (·.oneCell') then some (v.cells.toList.map Cv.val) else none
  | none => none
/-- The kinds of the cells, where every part is a number, a bool or a string and the parts lie one behind the other. -/
def flatF (P : Program) (f : TypeId → Option (List CK)) : Nat → List Field → Option (List CK)
  | _, [] => some []
  | n, x :: r => if x.name != "_" && x.offset == n then match f x.type with
      | some m => if cSize P x.type = some m.length ∧ (cAgg P x.type = some true ∨ m.length = 1) then match flatF P f (n + m.length) r with
        | some l => some (m ++ l)
        | none => none
        else none
      | none => none
    else none
def flat (P : Program) : Nat → TypeId → Option (List CK)
  | 0, _ => none
  | d + 1, t => match P.underlying t with
    | some (.int _) => some [.int]
    | some .bool => some [.bool]
    | some .string => some [.str]
    | some (.struct fs) => if P.stoodInHeld t then none else flatF P (flat P d) 0 fs.toList
    | _ => none

def isNilC : Operand → Bool
  | .const .nilIface => true
  | _ => false
/-- The kind (0: pointer, 1: map, 2: slice) at which an operand is nil. -/
def nilKind (P : Program) (t : TypeId) (y : Operand) : Option Nat := match P.underlying t, y with
  | some (.pointer _), .const (.pointer none) => some 0
  | some (.map _ _), .const (.map none) => some 1
  | some (.slice _), .const (.slice none 0 0) => some 2
  | _, _ => none
/-- How a map's keys are held against each other. -/
def cKey (P : Program) (t : TypeId) : Option CK := match P.underlying t with
  | some (.int _) => some .int
  | some .bool => some .bool
  | some .string => some .str
  | _ => none

def cParts (parts : Array (Nat × Operand)) (place : Nat → Option (Nat × Nat)) : Option (List (Nat × Nat × Opd)) :=
  parts.toList.mapM fun p => match place p.1, cOpd p.2 with
    | some (o, n), some y => some (o, n, y)
    | _, _ => none
def cOpt (x : Option Operand) : Option (Option Opd) :=
  match x with
  | none => some none
  | some o => (cOpd o).map some

def cCall (P : Program) (c : Call) : Option Rop :=
  match c.callee with
  | .value (.func f) => if callable P f then (c.args.toList.mapM cOpd).map (.call f) else none
  | .value x => match cOpd x, c.args.toList.mapM cOpd with
    | some y, some l => some (.callv y l)
    | _, _ => none
  | .invoke _ _ => none
  | .builtin b => match b, c.argTypes.toList, c.args.toList with
    | .len, t :: _, [x] => match P.underlying t with
      | some .string => (cOpd x).map .lenS
      | some (.slice _) => (cOpd x).map .len
      | some (.array n _) => some (.lenA n)
      | some (.map _ _) => (cOpd x).map .lenM
      | _ => none
    | .delete, t :: _, [x, y] => match P.underlying t with
      | some (.map k _) => match cKey P k, cOpd x, cOpd y with
        | some ck, some a, some b => some (.mdel ck a b)
        | _, _, _ => none
      | _ => none
    | .append, [s, u], [x, y] => match P.underlying s, P.underlying u with
      | some (.slice e), some d => match P.info? e, cOpd x, cOpd y with
        | some i, some a, some b => if ((d matches .slice _) || (d matches .string)) && i.size != 0 && Nat.ble i.bytes 4096 && (match i.zero with | some z => z.cells.size == i.size | none => false) then some (.app e i.size i.bytes a b) else none
        | _, _, _ => none
      | _, _ => none
    | .max, _, l => (l.mapM cOpd).map (.maxmin true)
    | .min, _, l => (l.mapM cOpd).map (.maxmin false)
    | _, _, _ => none

def cOp (P : Program) (o : Op) : Option Rop :=
  match o with
  | .move x | .assign x => (cOpd x).map .mv
  | .pick c a b => match cOpd c, cOpd a, cOpd b with
    | some c, some a, some b => some (.pick c a b)
    | _, _, _ => none
  | .alloc t => match cAgg P t, cZero P t with
    | some g, some z => some (.alloc g z t)
    | _, _ => none
  | .box t x => match cSize P t, cOpd x with
    | some n, some y => some (.box t n y)
    | _, _ => none
  | .build t parts => match cZero P t, P.underlying t with
    | some z, some (.struct fs) => if fs.toList.all (fun f => (cSize P f.type).isSome) then (cParts parts fun (i : Nat) => (fs[i]?).bind fun f => (cSize P f.type).map fun n => (f.offset, n)).map (.build z) else none
    | some z, some (.array _ e) => match cSize P e with
      | some n => (cParts parts fun i => some (i * n, n)).map (.build z)
      | none => none
    | _, _ => none
  | .buildSlice t n parts => match P.underlying t with
    | some (.slice e) => match cSize P e, cZero P e with
      | some wd, some z => if wd == 0 || z.length != wd || (n == 0 && parts.size != 0) || Nat.blt 16777216 (n * wd) then none else
          (parts.toList.mapM fun (p : Nat × Operand) => (cOpd p.2).map fun y => (p.1, y)).map (.bslice e wd n z)
      | _, _ => none
    | _ => none
  | .load t x => match cAgg P t, cSize P t, cOpd x with
    | some g, some n, some y => some (.load g (if g then n else 1) y)
    | _, _, _ => none
  | .store t x v => match cSize P t, cOpd x, cOpd v with
    | some n, some y, some u => some (.store n y u)
    | _, _, _ => none
  | .nilCheck x => (cOpd x).map .nilchk
  | .binOp op t x y _ => match cOpd x, cOpd y with
    | some a, some b =>
      if op == .eql || op == .neq then match P.underlying t with
        | some (.int _) | some .string => some (.bin op a b)
        | some .bool => some (.eqB (op == .neq) a b)
        | some (.interface _) => if isNilC x || isNilC y then some (.eq (op == .neq) .cell a b) else none
        | some (.struct _) => match flat P 100 t with
          | some n => if P.eqGuardType P.depth t then none else some (.eq (op == .neq) (.cells n) a b)
          | none => none
        | _ => (nilKind P t y).map fun k => .isnil k (op == .neq) a
      else some (.bin op a b)
    | _, _ => none
  | .unOp op _ x => (cOpd x).map (.un op)
  | .convert s d x => match P.underlying s, P.underlying d, cOpd x with
    | some (.int _), some (.int k), some y => some (.convI k y)
    | some .string, some .string, some y => some (.convSame y)
    | some (.slice e), some .string, some y => match P.underlying e with
      | some (.int .u8) => some (.bytesToStr y)
      | _ => none
    | some .string, some (.slice e), some y => match P.underlying e, cSize P e with
      | some (.int .u8), some 1 => some (.strToBytes e y)
      | _, _ => none
    | _, _, _ => none
  | .makeInterface t x => match P.underlying t, cOpd x with
    | some (.interface _), _ => none
    | some _, some y => some (.mkif t y)
    | _, _ => none
  | .makeFunc f first caps => if first.size == 0 then (caps.toList.mapM cOpd).map (.mkfn f) else none
  | .makeSlice t l c => match P.underlying t with
    | some (.slice e) => match P.info? e, cZero P e, cOpd l, cOpd c with
      | some i, some z, some a, some b => if i.size == 0 || z.length != i.size || !(Nat.ble i.bytes 4096) then none else some (.mksl e i.size i.bytes z a b)
      | _, _, _, _ => none
    | _ => none
  | .slice t x lo hi none => match P.underlying t, cOpd x, cOpt lo, cOpt hi with
    | some .string, some y, some l, some h => some (.sliceS y l h)
    | some (.slice e), some y, some l, some h => match cSize P e with
      | some (wd + 1) => some (.slice (wd + 1) y l h)
      | _ => none
    | some (.array n e), some y, some l, some h => match cSize P e with
      | some 1 => some (.sliceA n y l h)
      | _ => none
    | _, _, _, _ => none
  | .slice t x lo hi (some m) => match P.underlying t, cOpd x, cOpt lo, cOpt hi, cOpd m with
    | some (.slice e), some y, some l, some h, some z => match cSize P e with
      | some (wd + 1) => if hi.isSome then some (.slice3 (wd + 1) y l h z) else none
      | _ => none
    | _, _, _, _, _ => none
  | .makeMap t none => match P.underlying t with
    | some (.map _ _) => some .mkmap
    | _ => none
  | .lookup t x y ok => match P.underlying t, cOpd x, cOpd y with
    | some (.map k e), some a, some b => match cKey P k, ((P.info? e).bind (·.zero)).bind cConst with
      | some ck, some z => some (.mget ck ok z a b)
      | _, _ => none
    | _, _, _ => none
  | .mapUpdate t x y v => match P.underlying t, cOpd x, cOpd y, cOpd v with
    | some (.map k _), some a, some b, some u => (cKey P k).map fun ck => .mset ck a b u
    | _, _, _, _ => none
  | .mapEntry t x y => match P.underlying t, cOpd x, cOpd y with
    | some (.map k e), some a, some b => match cKey P k, ((P.info? e).bind (·.zero)).bind cConst with
      | some ck, some z => some (.ment ck z a b)
      | _, _ => none
    | _, _, _ => none
  | .entryStore t x y v => match P.underlying t, cOpd x, cOpd y, cOpd v with
    | some (.map _ _), some a, some b, some u => some (.mest a b u)
    | _, _, _, _ => none
  | .range t x => match P.underlying t with
    | some (.map _ _) => (cOpd x).map .range
    | _ => none
  | .next x false => (cOpd x).map .next
  | .entry x => (cOpd x).map .entry
  | .fieldAddr t x i => match P.underlying t, cOpd x with
    | some (.struct fs), some y => match fs[i]? with
      | some f => match cSize P f.type with
        | some (_ + 1) => some (.faddr f.offset y)
        | _ => none
      | none => none
    | _, _ => none
  | .field t x i => match P.underlying t, cOpd x with
    | some (.struct fs), some y => match fs[i]? with
      | some f => match cAgg P f.type, cSize P f.type with
        | some g, some n => some (.field g f.offset (if g then n else 1) y)
        | _, _ => none
      | none => none
    | _, _ => none
  | .indexAddr t x i => match P.underlying t, cOpd x, cOpd i with
    | some (.slice e), some y, some j => match cSize P e with
      | some (wd + 1) => some (.iaddr (wd + 1) y j)
      | _ => none
    | some (.array n e), some y, some j => match cSize P e with
      | some (wd + 1) => some (.iaddrA n (wd + 1) y j)
      | _ => none
    | _, _, _ => none
  | .index t x i => match P.underlying t, cOpd x, cOpd i with
    | some .string, some y, some j => some (.idxS y j)
    | some (.array n e), some y, some j => match cAgg P e, cSize P e with
      | some g, some wd => if wd == 0 || (!g && wd != 1) then none else some (.idxA g n wd y j)
      | _, _ => none
    | _, _, _ => none
  | .typeAssert x _ t ok => match P.underlying t, cOpd x, ((P.info? t).bind (·.zero)).bind cConst with
    | some (.interface _), _, _ => none
    | some _, some y, some z => some (.tas t ok z y)
    | _, _, _ => none
  | .extract x i => (cOpd x).map (.extr · i)
  | .call c => cCall P c
  | _ => none

def cOper (P : Program) (ops : Array Oper) (nt : Nat) (o : Oper) : Option ROper :=
  match cOp P o.op with
  | none => none
  | some r =>
    if o.dst.all (· < nt) then
      match o.guard with
      | none => some ⟨o.dst, none, r⟩
      | some (j, want) => match (ops[j]?).bind (·.dst) with
        | some d => some ⟨o.dst, some (d, want), r⟩
        | none => none
    else none

/-- The kinds that a region may hold that draws its order. -/
def quietK : Rop → Bool
  | .mv _ | .pick .. | .load .. | .nilchk _ | .bin .. | .eqB .. | .eq .. | .un .. | .convI .. | .convSame _ | .faddr .. | .field .. | .iaddr .. | .iaddrA .. | .idxA .. | .idxS .. | .extr .. | .len _ | .lenS _ | .lenA _ | .maxmin .. | .isnil .. | .mkif .. | .build .. | .slice .. | .sliceS .. | .sliceA .. | .mkfn .. | .tas .. => true
  | _ => false

def looksK : Rop → Bool
  | .bytesToStr _ | .mget .. | .lenM _ | .entry _ => true
  | r => quietK r

/-! ### Which slots are read later (nothing hangs on this but how small the states are) -/
def oUses : Opd → List Nat
  | .t i => [i]
  | .k _ => []
def rUses : Rop → List Nat
  | .mv x | .box _ _ x | .load _ _ x | .nilchk x | .un _ x | .convI _ x | .convSame x | .bytesToStr x | .strToBytes _ x | .mkif _ x | .faddr _ x | .field _ _ _ x | .tas _ _ _ x | .extr x _ | .len x | .lenS x => oUses x
  | .pick c a b => oUses c ++ oUses a ++ oUses b
  | .isnil _ _ x | .lenM x | .range x | .next x | .entry x => oUses x
  | .mget _ _ _ x y | .ment _ _ x y | .mdel _ x y => oUses x ++ oUses y
  | .mset _ x y v | .mest x y v => oUses x ++ oUses y ++ oUses v
  | .slice3 _ x a b m => oUses x ++ (a.toList.flatMap oUses) ++ (b.toList.flatMap oUses) ++ oUses m
  | .alloc .. | .lenA _ | .mkmap => []
  | .build _ l => l.flatMap fun p => oUses p.2.2
  | .bslice _ _ _ _ l => l.flatMap fun p => oUses p.2
  | .store _ x y | .bin _ x y | .eqB _ x y | .eq _ _ x y | .mksl _ _ _ _ x y | .iaddr _ x y | .iaddrA _ _ x y | .idxA _ _ _ x y | .idxS x y | .app _ _ _ x y | .cpy _ x y => oUses x ++ oUses y
  | .mkfn _ l | .maxmin _ l | .call _ l => l.flatMap oUses
  | .slice _ x a b | .sliceS x a b | .sliceA _ x a b => oUses x ++ (a.toList.flatMap oUses) ++ (b.toList.flatMap oUses)
  | .callv x l => oUses x ++ l.flatMap oUses
def oUse (o : ROper) : List Nat := rUses o.op ++ (match o.guard with | some (d, _) => [d] | none => [])
def ins (x : Nat) : List Nat → List Nat
  | [] => [x]
  | y :: r => if x == y then y :: r else if Nat.blt x y then x :: y :: r else y :: ins x r
def uni (a b : List Nat) : List Nat := a.foldl (fun l x => ins x l) b
def opsLive : List ROper → List Nat → List Nat
  | [], out => out
  | o :: r, out =>
    let l := opsLive r out
    let l := match o.dst with | some d => l.filter (· != d) | none => l
    uni (rUses o.op ++ (match o.guard with | some (d, _) => [d] | none => [])) l
/-- res: live at the end; env: live behind each block. -/
def live (res : List Nat) : List (Nat × List Nat) → RC → List Nat → List Nat
  | _, .skip, out => out
  | _, .ops _ l, out => opsLive l out
  | _, .ops2 l, out => opsLive (l.map (·.1)) out
  | env, .seq a b, out => live res env a (live res env b out)
  | env, .cond c a b, out => uni (oUses c) (uni (live res env a out) (live res env b out))
  | env, .block id a, out => live res ((id, out) :: env) a out
  | env, .loop a, _ => let l1 := live res env a []; let l2 := uni l1 (live res env a l1); uni l2 (live res env a l2)
  | env, .exit id, _ => ((env.find? (·.1 == id)).map (·.2)).getD []
  | _, .ret, _ => res
  | _, .keep l, _ => l
  | _, .gc, out => out

/-! ### Regions whose order is open -/
def ancOf : List (Nat × List Nat) → Nat → List Nat
  | [], _ => []
  | (j, l) :: r, i => if i == j then l else ancOf r i
def edgesOf (ops : Array Oper) (j : Nat) : List Nat := match ops[j]? with
  | some o => (o.after.toList.filter (Region.binds .any)).map (·.on)
  | none => []
/-- An operation in its place: its number, itself, does it make or call, how many makings it may come behind. -/
structure XO where
  i : Nat
  o : ROper
  main : Bool
  hi : Nat
  deriving Inhabited
def distinctB (x y : ROper) : Bool := match x.dst with
  | some d => y.dst != some d
  | none => true
def apartB (x y : ROper) : Bool := (match x.dst with | some d => !(oUse y).contains d | none => true) && (match y.dst with | some d => !(oUse x).contains d | none => true)
/-- x comes ahead of y, the making number e where y is one. -/
def pairB (tab : List (Nat × List Nat)) (e : Nat) (x y : XO) : Bool :=
  distinctB x.o y.o && ((ancOf tab y.i).contains x.i || (!x.main && apartB x.o y.o && (!y.main || Nat.ble e x.hi)))
/-- done: what came ahead, the last first; tab: which come ahead of which in every order. -/
def okO (ops : Array Oper) : List (Nat × List Nat) → List XO → Nat → List XO → Bool
  | _, _, _, [] => true
  | tab, done, e, y :: r =>
    let es := edgesOf ops y.i
    let tab' := (y.i, es.foldl (fun l i => uni (ancOf tab i) l) (uni es [])) :: tab
    es.all (fun i => done.any (·.i == i)) && !done.any (·.i == y.i) && (ops[y.i]?).isSome && (y.main == !looksK y.o.op) && (y.main || Nat.ble e y.hi) && done.all (fun x => pairB tab' (e + 1) x y) && okO ops tab' (y :: done) (if y.main then e + 1 else e) r
def pickO (ops : Array Oper) (rl : List ROper) : Nat → List Nat → List Nat → List Nat
  | 0, done, _ => done.reverse
  | n + 1, done, left =>
    let rdy := left.filter fun j => (edgesOf ops j).all done.contains
    match rdy.find? (fun j => match rl[j]? with | some o => looksK o.op | none => false) with
    | some j => pickO ops rl n (j :: done) (left.filter (· != j))
    | none => match rdy with
      | j :: _ => pickO ops rl n (j :: done) (left.filter (· != j))
      | [] => done.reverse
def tabO (ops : Array Oper) : List (Nat × List Nat) → List Nat → List (Nat × List Nat)
  | tab, [] => tab
  | tab, j :: r => tabO ops ((j, (edgesOf ops j).foldl (fun l i => uni (ancOf tab i) l) (uni (edgesOf ops j) [])) :: tab) r
def hiO (tab : List (Nat × List Nat)) (i : Nat) : Nat → List Nat → Nat
  | k, [] => k
  | k, m :: r => if (ancOf tab m).contains i then k else hiO tab i (k + 1) r
def orderO (ops : Array Oper) (rl : List ROper) : List XO :=
  let pi := pickO ops rl rl.length [] (List.range rl.length)
  let tab := tabO ops [] pi
  let ms := pi.filter fun j => match rl[j]? with | some o => !looksK o.op | none => false
  pi.filterMap fun j => (rl[j]?).map fun o => ⟨j, o, !looksK o.op, hiO tab j 0 ms⟩
/-- The operations in that order, taken anew from the region. -/
def takeXs (rl : List ROper) : List XO → Option (List XO)
  | [] => some []
  | x :: r => match rl[x.i]?, takeXs rl r with
    | some o, some l => some ({ x with o := o } :: l)
    | _, _ => none

def cCode (P : Program) (nt : Nat) : Code → Option RC
  | .skip => some .skip
  | .region _ ops draw => match ops.toList.mapM (cOper P ops nt) with
    | some l =>
      if !draw then some (.ops false l)
      else if l.all (fun o => quietK o.op) && Region.lexB .any ops && P.follows .mixedOrders then some (.ops true l)
      else match takeXs l (orderO ops l) with
        | some xs => if okO ops [] [] 0 xs && (List.range ops.size).all (fun i => xs.any (·.i == i)) && P.follows .mixedOrders then some (.ops2 (xs.map fun x => (x.o, x.main, x.hi))) else none
        | none => none
    | none => none
  | .seq a b => match cCode P nt a, cCode P nt b with
    | some x, some y => some (.seq x y)
    | _, _ => none
  | .cond c a b => match cOpd c, cCode P nt a, cCode P nt b with
    | some o, some x, some y => some (.cond o x y)
    | _, _, _ => none
  | .block id a => (cCode P nt a).map (.block id)
  | .loop a => (cCode P nt a).map .loop
  | .exit id => some (.exit id)
  | .ret => some .ret
  | _ => none

def makesK : Rop → Bool
  | .alloc .. | .box .. | .bslice .. | .strToBytes .. | .mksl .. | .app .. | .slice3 .. | .mkmap | .range .. => true
  | _ => false
def makesC : RC → Bool
  | .ops _ l => l.any fun o => makesK o.op
  | .ops2 l => l.any fun o => makesK o.1.op
  | .seq a b | .cond _ a b => makesC a || makesC b
  | .block _ a | .loop a => makesC a
  | _ => false

/-- The states kept small: behind each part of a sequence, ahead of a loop and at its round's end. -/
def trim (fc : Bool) (res : List Nat) : List (Nat × List Nat) → RC → List Nat → RC
  | env, .seq a b, out => let l := live res env b out; .seq (trim fc res env a l) (.seq (.keep l) (trim fc res env b out))
  | env, .cond c a b, out => .cond c (trim fc res env a out) (trim fc res env b out)
  | env, .block id a, out => .block id (trim fc res ((id, out) :: env) a out)
  | env, .loop a, out => let l := live res env (.loop a) out
    if fc || makesC a then .seq (.keep l) (.seq .gc (.loop (.seq (trim fc res env a l) (.seq (.keep l) .gc)))) else .seq (.keep l) (.loop (.seq (trim fc res env a l) (.keep l)))
  | _, c, _ => c

def resSlots : List ResR → List Nat
  | [] => []
  | .slot i :: r => i :: resSlots r
  | .cell _ _ i :: r => i :: resSlots r
def cRes (P : Program) : ResultVar → Option ResR
  | .tmp t => some (.slot t)
  | .cell a t => match cAgg P t, cSize P t with
    | some g, some n => some (.cell g (if g then n else 1) a)
    | _, _ => none
/-- fc: a cleaning at every loop. -/
def compX (fc : Bool) (P : Program) (fn : Func) : Option RF :=
  match fn.body with
  | none => none
  | some c => match cCode P fn.ntmps c, fn.results.toList.mapM (cRes P) with
    | some rc, some res => some ⟨fn.params.size + fn.nfree, fn.ntmps, res, trim fc (resSlots res) [] rc (resSlots res)⟩
    | _, _ => none
abbrev comp (P : Program) (fn : Func) : Option RF := compX false P fn
end Go.LH

namespace Go.LH
open Go

theorem cell_lt {w : World} {b o : Nat} {v : Value} (h : w.cell? ⟨b, o, none⟩ = some v) : b < w.heap.size := by
  unfold World.cell? at h
  cases hh : w.heap[b]? with
  | none => simp [hh] at h
  | some x => exact (Array.getElem?_eq_some_iff.1 hh).1

theorem cell_same {w w' : World} {b o : Nat} (h : w'.heap[b]? = w.heap[b]?) : w'.cell? ⟨b, o, none⟩ = w.cell? ⟨b, o, none⟩ :=
  World.cell?_of_block (w := w) h

/-- What the world keeps. -/
structure Keep (w : World) (X : Nat → Prop) (w' : World) (X' : Nat → Prop) : Prop where
  size : w.heap.size ≤ w'.heap.size
  block : ∀ k, k < w.heap.size → ¬ X k → w'.heap[k]? = w.heap[k]?
  less : ∀ k, k < w.heap.size → X' k → X k

theorem Keep.refl (w : World) (X : Nat → Prop) : Keep w X w X := ⟨Nat.le_refl _, fun _ _ _ => rfl, fun _ _ h => h⟩
theorem Keep.trans {w w' w'' : World} {X X' X'' : Nat → Prop} (h : Keep w X w' X') (k : Keep w' X' w'' X'') : Keep w X w'' X'' :=
  ⟨Nat.le_trans h.size k.size, fun i hi hX => (k.block i (Nat.lt_of_lt_of_le hi h.size) (fun hx => hX (h.less i hi hx))).trans (h.block i hi hX),
   fun i hi hx => h.less i hi (k.less i (Nat.lt_of_lt_of_le hi h.size) hx)⟩

theorem RepV.keep {w w' : World} {X X' : Nat → Prop} (k : Keep w X w' X') {c : Cv} {v : Value} (h : RepV w X c v) : RepV w' X' c v := by
  induction h with
  | val v h1 => exact .val v h1
  | sl0 wd a cap => exact .sl0 wd a cap
  | sl wd rows b o cap us hcap hb hX hwd hc hr ih =>
    exact .sl wd rows b o cap us hcap (Nat.lt_of_lt_of_le hb k.size) (fun h => hX (k.less b hb h)) hwd (fun r row j c h1 h2 => by rw [cell_same (k.block b hb hX)]; exact hc r row j c h1 h2) ih
  | rp cells b o us hb hX hc hr ih =>
    exact .rp cells b o us (Nat.lt_of_lt_of_le hb k.size) (fun h => hX (k.less b hb h)) (fun j c h1 => by rw [cell_same (k.block b hb hX)]; exact hc j c h1) ih
  | ifc t x u h ih => exact .ifc t x u ih
  | fn f caps us hn h ih => exact .fn f caps us hn ih

theorem RepV.one {w : World} {X : Nat → Prop} {c : Cv} {v : Value} (h : RepV w X c v) : v.oneCell' = true := by
  cases h with
  | val v h1 => exact h1
  | _ => rfl

theorem Stab.refl (L : List Entry) (A : Pls) : Stab L A L A := fun _ e h => ⟨e, h, Nat.le_refl _, fun _ => ⟨rfl, .inl rfl, rfl, rfl⟩⟩
theorem Stab.trans {L L' L'' : List Entry} {A A' A'' : Pls} (h : Stab L A L' A') (k : Stab L' A' L'' A'') : Stab L A L'' A'' := by
  intro i e h0
  obtain ⟨e1, h1, g1, s1⟩ := h i e h0
  obtain ⟨e2, h2, g2, s2⟩ := k i e1 h1
  refine ⟨e2, h2, Nat.le_trans g1 g2, fun hg => ?_⟩
  obtain ⟨a2, w2, b2, l2⟩ := s2 (by omega)
  obtain ⟨a1, w1, b1, l1⟩ := s1 (by omega)
  refine ⟨a2.trans a1, ?_, b2.trans b1, l2.trans l1⟩
  rcases w2 with w2 | w2
  · rcases w1 with w1 | w1
    · exact .inl (w2.trans w1)
    · exact .inr (a2.trans w1)
  · exact .inr w2

theorem RsRep.stab {A A' : Pls} {e e' : Entry} {id lo len : Nat} {v : Value} (hA : A'[id]? = A[id]?) (hw : e'.wd = e.wd ∨ A'[id]? = some none) (hb : e'.bx = e.bx) (hl : e'.rows.length = e.rows.length)
    (h : RsRep A e id lo len v) : RsRep A' e' id lo len v := by
  obtain ⟨h1, h2, a, cap, h3, h4, h5⟩ := h
  refine ⟨hb.trans h1, by omega, a, cap, h3, h4, ?_⟩
  rcases h5 with ⟨x1, x3⟩ | ⟨x1, x0, p, x2⟩ | ⟨p, x1, x0, x2, x3⟩
  · exact .inl ⟨hA.trans x1, x3⟩
  · rcases hw with hw | hw
    · exact .inr (.inl ⟨x1, by omega, p, hA.trans x2⟩)
    · rw [hA, x2] at hw; cases hw
  · rcases hw with hw | hw
    · exact .inr (.inr ⟨p, hA.trans x1, by omega, by rw [hw]; exact x2, by rw [hw]; exact x3⟩)
    · rw [hA, x1] at hw; cases hw

theorem Rep.keep {w w' : World} {X X' : Nat → Prop} {A A' : Pls} {L L' : List Entry} (k : Keep w X w' X') (s : Stab L A L' A') {c : Cv} {v : Value} (h : Rep w X A L c v) : Rep w' X' A' L' c v := by
  induction h with
  | v c u h => exact .v c u (h.keep k)
  | np id gen row col v h1v h =>
    obtain ⟨e, h1, h2, h3⟩ := h
    obtain ⟨e', k1, k2, k3⟩ := s id e h1
    refine .np id gen row col v h1v ⟨e', k1, by omega, fun hg => ?_⟩
    obtain ⟨a1, w1, b1, _⟩ := k3 (by omega)
    obtain ⟨hk, p, hp, hv⟩ := h3 (by omega)
    rcases w1 with w1 | w1
    · rw [w1, b1]; exact ⟨hk, p, a1.trans hp, hv⟩
    · rw [a1, hp] at w1; cases w1
  | rs id gen lo len v h1v h =>
    obtain ⟨e, h1, h2, h3⟩ := h
    obtain ⟨e', k1, k2, k3⟩ := s id e h1
    refine .rs id gen lo len v h1v ⟨e', k1, by omega, fun hg => ?_⟩
    obtain ⟨a1, w1, b1, l1⟩ := k3 (by omega)
    exact (h3 (by omega)).stab a1 w1 b1 l1
  | ca id gen row col len v h1v h =>
    obtain ⟨e, h1, h2, h3⟩ := h
    obtain ⟨e', k1, k2, k3⟩ := s id e h1
    refine .ca id gen row col len v h1v ⟨e', k1, by omega, fun hg => ?_⟩
    obtain ⟨a1, w1, b1, l1⟩ := k3 (by omega)
    obtain ⟨hk, p, a, cap, hp, hv, hl, hr⟩ := h3 (by omega)
    rcases w1 with w1 | w1
    · rw [w1, l1, b1]; exact ⟨hk, p, a, cap, a1.trans hp, hv, hl, hr⟩
    · rw [a1, hp] at w1; cases w1
  | mp id gen v h1v h =>
    obtain ⟨e, h1, h2, h3⟩ := h
    obtain ⟨e', k1, k2, k3⟩ := s id e h1
    refine .mp id gen v h1v ⟨e', k1, by omega, fun hg => ?_⟩
    obtain ⟨a1, w1, b1, _⟩ := k3 (by omega)
    obtain ⟨hb, hw, p, hp, hv⟩ := h3 (by omega)
    rcases w1 with w1 | w1
    · exact ⟨b1.trans hb, w1.trans hw, p, a1.trans hp, hv⟩
    · rw [a1, hp] at w1; cases w1
  | it id gen mid mg v h1v h =>
    obtain ⟨e, e', h1, h2, h1', h2', h3⟩ := h
    obtain ⟨f, k1, k2, k3⟩ := s id e h1
    obtain ⟨f', l1, l2, l3⟩ := s mid e' h1'
    refine .it id gen mid mg v h1v ⟨f, f', k1, by omega, l1, by omega, fun hg hg' => ?_⟩
    obtain ⟨a1, w1, b1, _⟩ := k3 (by omega)
    obtain ⟨c1, x1, d1, _⟩ := l3 (by omega)
    obtain ⟨⟨hb, hw⟩, ⟨hb', hw'⟩, p, q, hp, hq, hn, hv⟩ := h3 (by omega) (by omega)
    rcases w1 with w1 | w1
    · rcases x1 with x1 | x1
      · exact ⟨⟨b1.trans hb, w1.trans hw⟩, ⟨d1.trans hb', x1.trans hw'⟩, p, q, a1.trans hp, c1.trans hq, hn, hv⟩
      · rw [c1, hq] at x1; cases x1
    · rw [a1, hp] at w1; cases w1
  | ifc t x u h ih => exact .ifc t x u ih
  | fn f caps us hn h ih => exact .fn f caps us hn ih

theorem SRep.keep {w w' : World} {X X' : Nat → Prop} {A A' : Pls} {L L' : List Entry} (k : Keep w X w' X') (s : Stab L A L' A') {c : Sv} {v : Value} (h : SRep w X A L c v) : SRep w' X' A' L' c v := by
  induction h with
  | un v => exact .un v
  | ud => exact .ud
  | c x v h => exact .c x v (h.keep k s)
  | agg cells us hn h => exact .agg cells us hn fun i c u h1 h2 => (h i c u h1 h2).keep k s
  | tup xs us hn h ih => exact .tup xs us hn ih

theorem SRepV.keep {w w' : World} {X X' : Nat → Prop} (k : Keep w X w' X') {c : Sv} {v : Value} (h : SRepV w X c v) : SRepV w' X' c v := by
  induction h with
  | c x v h => exact .c x v (h.keep k)
  | agg cells us hn h => exact .agg cells us hn fun i c u h1 h2 => (h i c u h1 h2).keep k
  | tup xs us hn h ih => exact .tup xs us hn ih

theorem SRepV.rep {w : World} {X : Nat → Prop} {A : Pls} {L : List Entry} {c : Sv} {v : Value} (h : SRepV w X c v) : SRep w X A L c v := by
  induction h with
  | c x v h => exact .c x v (.v _ _ h)
  | agg cells us hn h => exact .agg cells us hn fun i c u h1 h2 => .v _ _ (h i c u h1 h2)
  | tup xs us hn h ih => exact .tup xs us hn ih

theorem Rep.one {w : World} {X : Nat → Prop} {A : Pls} {L : List Entry} {c : Cv} {v : Value} (h : Rep w X A L c v) : v.oneCell' = true := by
  cases h with
  | v c u h => exact h.one
  | np id gen row col v h1 h => exact h1
  | rs id gen lo len v h1 h => exact h1
  | ca id gen row col len v h1 h => exact h1
  | mp id gen v h1 h => exact h1
  | it id gen mid mg v h1 h => exact h1
  | ifc t x u h => rfl
  | fn f caps us hn h => rfl
end Go.LH

namespace Go.LH
open Go

theorem Fr.refl (w : World) (O : Nat → Prop) : Fr w O w := ⟨rfl, rfl, rfl, Nat.le_refl _, fun _ _ _ => rfl⟩
theorem Fr.cell {w w' : World} (h : Fr w (fun _ => False) w') {b o : Nat} {v : Value} (hc : w.cell? ⟨b, o, none⟩ = some v) : w'.cell? ⟨b, o, none⟩ = some v := by
  rw [cell_same (h.block b (cell_lt hc) id)]; exact hc

theorem addr_add (b o n : Nat) : (⟨b, o, none⟩ : Addr).add n = ⟨b, o + n, none⟩ := by
  unfold Addr.add; split <;> simp_all

section
variable {P : Program} {w : World}
theorem run_und {t : TypeId} {d : TypeDesc} (h : P.underlying t = some d) : (underlying t).run P w = .ok d w := by simp [underlying, h]
theorem run_info {t : TypeId} {i : TypeInfo} (h : P.info? t = some i) : (typeInfo t).run P w = .ok i w := by simp [typeInfo, h]
theorem run_size {t : TypeId} {n : Nat} (h : cSize P t = some n) : (sizeOf t).run P w = .ok n w := by
  unfold cSize at h
  cases hi : P.info? t with
  | none => simp [hi] at h
  | some i => simp [hi] at h; simp [sizeOf, run_info hi, h]
theorem run_agg {t : TypeId} {g : Bool} (h : cAgg P t = some g) : (isAgg t).run P w = .ok g w := by
  unfold cAgg at h
  unfold isAgg
  cases hu : P.underlying t with
  | none => simp [hu] at h
  | some d => simp only [Sem.run_bind, run_und hu, Result.andThen_ok]; cases d <;> simp_all
theorem run_loadAt {t : TypeId} {g : Bool} {n b o : Nat} (hg : cAgg P t = some g) (hn : cSize P t = some n) (us : Nat → Value) (hc : ∀ j, j < (if g then n else 1) → w.cell? ⟨b, o + j, none⟩ = some (us j)) :
    (Instr.loadAt t (.pointer (some ⟨b, o, none⟩))).run P w = .ok (if g then .agg ((List.range n).map us).toArray else us 0) w := by
  simp only [Instr.loadAt, Instr.sureAddr, loadVar, Sem.run_bind, Sem.run_pure, Result.andThen_ok, run_agg hg]
  cases g with
  | true =>
    simp only [if_true, Sem.run_bind, run_size hn, Result.andThen_ok]
    rw [run_loadCells w ⟨b, o, none⟩ n us (fun j hj => by rw [addr_add]; exact hc j (by simpa using hj))]
    simp
  | false =>
    have h0 := hc 0 (by simp)
    simp only [Nat.add_zero] at h0
    simp [run_load, h0]
theorem run_part {t : TypeId} {g : Bool} {n off : Nat} (hg : cAgg P t = some g) (hn : cSize P t = some n) (cs : Array Value) (h : off + (if g then n else 1) ≤ cs.size) :
    (part t cs off).run P w = .ok (if g then .agg (cs.extract off (off + n)) else cs.getD off undef) w := by
  simp only [part, Sem.run_bind, run_agg hg, Result.andThen_ok]
  cases g with
  | true => simp [run_size hn]
  | false =>
    have : off < cs.size := by simp at h; omega
    simp [Array.getElem?_eq_getElem this]
end

variable {w : World} {F : Nat → Prop} {A : Pls} {L : List Entry} {G : GEnv}

/-- What a pointer leads to. -/
theorem cellsAt_rep (hh : HeapOK w F A L) (hG : GOK G w (fun b => Owned A b ∨ F b)) {p : Cv} {cs : List Cv} (h : cellsAt G L p = some cs) {v : Value} (hr : Rep w (fun b => Owned A b ∨ F b) A L p v) :
    ∃ (b o : Nat) (us : Nat → Value), v = .pointer (some ⟨b, o, none⟩) ∧ (∀ (j : Nat) (c : Cv), cs[j]? = some c → w.cell? ⟨b, o + j, none⟩ = some (us j) ∧ Rep w (fun b => Owned A b ∨ F b) A L c (us j)) := by
  cases hr with
  | rs id gen lo len v h1 h' => simp [cellsAt] at h
  | ca id gen row col len v h1 h' => simp [cellsAt] at h
  | ifc t x u h' => simp [cellsAt] at h
  | fn f caps us hn h' => simp [cellsAt] at h
  | mp id gen v h1 h' => simp [cellsAt] at h
  | it id gen mid mg v h1 h' => simp [cellsAt] at h
  | v c u h' => cases h' with
    | rp cells b o us hb hX hc hr =>
      obtain rfl : cells = cs := by simpa [cellsAt] using h
      exact ⟨b, o, us, rfl, fun j c hj => ⟨hc j c hj, .v _ _ (hr j c hj)⟩⟩
    | sl0 wd a cap => simp [cellsAt] at h
    | sl wd rows b o cap us hcap hb hX hwd hc hr => simp [cellsAt] at h
    | ifc t x u h' => simp [cellsAt] at h
    | fn f caps us hn h' => simp [cellsAt] at h
    | val v h1 =>
      cases v with
      | pointer a => cases a with
        | none => simp [cellsAt] at h
        | some a =>
          obtain ⟨g, o, sp⟩ := a
          cases sp with
          | some s => simp [cellsAt] at h
          | none =>
            simp only [cellsAt] at h
            cases hgl : G g with
            | none => simp [hgl] at h
            | some l =>
              simp only [hgl, Option.map_some, Option.some.injEq] at h
              subst h
              obtain ⟨q1, q2, q3, q4⟩ := hG g l hgl
              refine ⟨g, o, fun j => l.getD (o + j) undef, rfl, fun j c hj => ?_⟩
              rw [List.getElem?_drop, List.getElem?_map] at hj
              cases hl : l[o + j]? with
              | none => simp [hl] at hj
              | some u =>
                simp only [hl, Option.map_some, Option.some.injEq] at hj
                subst hj
                obtain ⟨ho, hcell⟩ := q3 (o + j) u hl
                simp only [List.getD, hl, Option.getD_some]
                exact ⟨hcell, .v _ _ (.val u ho)⟩
      | _ => simp [cellsAt] at h
  | np id gen row col v h1 hx =>
    obtain ⟨e, he, hle, hp⟩ := hx
    simp only [cellsAt, he] at h
    split at h
    · rename_i hg
      cases hrow : e.rows[row]? with
      | none => simp [hrow] at h
      | some r =>
        simp only [hrow, Option.map_some, Option.some.injEq] at h
        subst h
        obtain ⟨hkd, p, hpa, rfl⟩ := hp hg
        obtain ⟨hw0, arr, el, fz, hb, hn, hf, hfit, hrows⟩ := (hh.ent id e (some p) he hpa).cells hkd
        obtain ⟨hl, hcell⟩ := hrows row r hrow
        refine ⟨p.b, p.o + row * e.wd + col, fun j => (w.cell? ⟨p.b, p.o + row * e.wd + col + j, none⟩).getD undef, rfl, fun j c hj => ?_⟩
        rw [List.getElem?_drop] at hj
        obtain ⟨u, hu, hur⟩ := hcell (col + j) c hj
        have hcl : w.cell? ⟨p.b, p.o + row * e.wd + col + j, none⟩ = some u := by
          simp only [World.cell?, hb]
          rw [show p.o + row * e.wd + col + j = p.o + row * e.wd + (col + j) by omega]
          simpa using hu
        simp only [hcl, Option.getD_some]
        refine ⟨trivial, ?_⟩
        split at hur
        · exact hur
        · exact .v _ _ hur
    · cases h
end Go.LH

namespace Go.LH
open Go

section
variable {P : Program} {o : Oper} {a : Act} {w : World} {F : Nat → Prop} {A : Pls} {st : St} {G : GEnv}

/-- The operands stand for what they say. -/
def OpR (w : World) (F : Nat → Prop) (A : Pls) (st : St) (a : Act) : Prop := ∀ (x : Operand) (y : Opd), cOpd x = some y → SRep w (fun b => Owned A b ∨ F b) A st.L (st.opd y) (a.eval x)

theorem opR (hs : ∀ i, SRep w (fun b => Owned A b ∨ F b) A st.L (sget st.s i) (a.tmps.getD i undef)) : OpR w F A st a := by
  intro x y h
  cases x with
  | tmp t => obtain rfl := Option.some.inj h; exact hs t
  | global g => obtain rfl := Option.some.inj h; exact .c _ _ (.v _ _ (.val _ rfl))
  | func f => obtain rfl := Option.some.inj h; exact .c _ _ (.v _ _ (.fn _ [] [] rfl (by simp)))
  | const v =>
    simp only [cOpd, Option.map_eq_some_iff] at h
    obtain ⟨s, h, rfl⟩ := h
    cases v with
    | agg cs =>
      simp only [cConst] at h
      split at h
      · rename_i hall
        obtain rfl := Option.some.inj h
        obtain ⟨l⟩ := cs
        refine .agg _ _ (by simp) fun i c u h1 h2 => ?_
        rw [List.getElem?_map, h2] at h1
        obtain rfl := Option.some.inj h1
        exact .v _ _ (.val _ (by
          have := List.mem_of_getElem? h2
          simp only [List.all_eq_true] at hall
          exact hall u this))
      · cases h
    | tuple vs => cases h
    | _ => obtain rfl := Option.some.inj h; exact .c _ _ (.v _ _ (.val _ rfl))

/-- What an operation that only looks comes to. -/
def Looks (P : Program) (o : Oper) (a : Act) (w : World) (F : Nat → Prop) (A : Pls) (L : List Entry) (s : Sv) : Prop :=
  ∃ v, (∀ w', Fr w (fun _ => False) w' → (execOp a.eval o).run P w' = .ok (.value v) w') ∧ SRep w (fun b => Owned A b ∨ F b) A L s v

theorem looks_of {v : Value} {s : Sv} (x : Sem Value) (ho : execOp a.eval o = (do pure (.value (← x)))) (hx : ∀ w', Fr w (fun _ => False) w' → x.run P w' = .ok v w') (hr : SRep w (fun b => Owned A b ∨ F b) A st.L s v) :
    Looks P o a w F A st.L s := by
  refine ⟨v, fun w' hw => ?_, hr⟩
  rw [ho]
  simp [hx w' hw]

theorem SRep.inv_c {X : Nat → Prop} {L : List Entry} {x : Cv} {v : Value} (h : SRep w X A L (.c x) v) : Rep w X A L x v := by cases h; assumption
theorem SRep.inv_val {X : Nat → Prop} {L : List Entry} {x v : Value} (h : SRep w X A L (.c (.val x)) v) : v = x := by
  cases h with | c _ _ h => cases h with | v _ _ h => cases h; rfl
theorem SRep.inv_agg {X : Nat → Prop} {L : List Entry} {x : List Cv} {v : Value} (h : SRep w X A L (.agg x) v) : ∃ us : List Value, x.length = us.length ∧ v = .agg us.toArray ∧ ∀ (i : Nat) (c : Cv) (u : Value), x[i]? = some c → us[i]? = some u → Rep w X A L c u := by
  cases h with | agg _ us hn h => exact ⟨us, hn, rfl, h⟩
theorem SRep.inv_tup {X : Nat → Prop} {L : List Entry} {x : List Sv} {v : Value} (h : SRep w X A L (.tup x) v) : ∃ us : List Value, x.length = us.length ∧ v = .tuple us.toArray ∧ ∀ (i : Nat) (c : Sv) (u : Value), x[i]? = some c → us[i]? = some u → SRep w X A L c u := by
  cases h with | tup _ us hn h => exact ⟨us, hn, rfl, h⟩
theorem srep_val {X : Nat → Prop} {L : List Entry} {v : Value} (h : v.oneCell' = true) : SRep w X A L (.c (.val v)) v := .c _ _ (.v _ _ (.val v h))

/-- A value's cells. -/
theorem cellsOfS_rep {X : Nat → Prop} {L : List Entry} {s : Sv} {v : Value} {cs : List Cv} (h : cellsOfS s = some cs) (hr : SRep w X A L s v) :
    ∃ us : List Value, v.cells = us.toArray ∧ us.length = cs.length ∧ ∀ (i : Nat) (c : Cv) (u : Value), cs[i]? = some c → us[i]? = some u → Rep w X A L c u := by
  cases hr with
  | un v => cases h
  | ud => cases h
  | tup xs us hn h' => cases h
  | agg cells us hn h' => obtain rfl := Option.some.inj h; exact ⟨us, rfl, hn.symm, h'⟩
  | c x v h' =>
    obtain rfl := Option.some.inj h
    refine ⟨[v], ?_, rfl, fun i c u h1 h2 => ?_⟩
    · have := h'.one; cases v <;> first | rfl | cases this
    · cases i with
      | zero => obtain rfl := Option.some.inj h1; obtain rfl := Option.some.inj h2; exact h'
      | succ i => simp at h1

theorem packS_rep {X : Nat → Prop} {L : List Entry} {g : Bool} {cs : List Cv} {s : Sv} (h : packS g cs = some s) (us : Nat → Value) (hr : ∀ (j : Nat) (c : Cv), cs[j]? = some c → Rep w X A L c (us j)) :
    SRep w X A L s (if g then .agg ((List.range cs.length).map us).toArray else us 0) := by
  unfold packS at h
  cases g with
  | true =>
    simp only [if_true] at h ⊢
    obtain rfl := Option.some.inj h
    refine .agg _ _ (by simp) fun i c u h1 h2 => ?_
    have hi : i < cs.length := (List.getElem?_eq_some_iff.1 h1).1
    rw [List.getElem?_map, List.getElem?_range hi] at h2
    obtain rfl := Option.some.inj h2
    exact hr i c h1
  | false =>
    simp only [Bool.false_eq_true, if_false] at h ⊢
    split at h
    · rename_i x
      obtain rfl := Option.some.inj h
      exact .c _ _ (hr 0 x rfl)
    · cases h
theorem packS_len {g : Bool} {cs : List Cv} {s : Sv} (h : packS g cs = some s) : g = true ∨ cs.length = 1 := by
  cases g with
  | true => exact .inl rfl
  | false =>
    simp only [packS, Bool.false_eq_true, if_false] at h
    split at h
    · exact .inr rfl
    · cases h

/-! ### one by one -/
theorem looks_mv {x : Operand} {y : Opd} (hO : OpR w F A st a) (ho : o.op = .move x ∨ o.op = .assign x) (hx : cOpd x = some y) : Looks P o a w F A st.L (st.opd y) :=
  ⟨a.eval x, fun w' _ => by rcases ho with ho | ho <;> simp [execOp, ho], hO x y hx⟩

theorem looks_pick {c x z : Operand} {c' x' z' : Opd} {t : Bool} (hO : OpR w F A st a) (ho : o.op = .pick c x z) (h1 : cOpd c = some c') (h2 : cOpd x = some x') (h3 : cOpd z = some z') (ht : st.opd c' = .c (.val (.bool t))) :
    Looks P o a w F A st.L (if t then st.opd x' else st.opd z') := by
  have hc := hO c c' h1
  rw [ht] at hc
  have hb := hc.inv_val
  refine ⟨if t then a.eval x else a.eval z, fun w' _ => ?_, ?_⟩
  · simp [execOp, ho, hb, asBool]
  · cases t
    · exact hO z z' h3
    · exact hO x x' h2

theorem looks_load {t : TypeId} {x : Operand} {y : Opd} {g : Bool} {n m : Nat} {p : Cv} {cs : List Cv} {s : Sv} (hO : OpR w F A st a) (hh : HeapOK w F A st.L) (hG : GOK G w (fun b => Owned A b ∨ F b)) (ho : o.op = .load t x)
    (h1 : cAgg P t = some g) (h2 : cSize P t = some n) (h3 : cOpd x = some y) (hm : m = if g then n else 1) (hp : st.opd y = .c p) (hc : cellsAt G st.L p = some cs) (hle : m ≤ cs.length) (hs : packS g (cs.take m) = some s) :
    Looks P o a w F A st.L s := by
  have hr := hO x y h3
  rw [hp] at hr
  obtain ⟨b, q, us, hv, hcell⟩ := cellsAt_rep hh hG hc hr.inv_c
  have hl : (cs.take m).length = m := by simp; omega
  refine looks_of (Instr.loadAt t (a.eval x)) (v := if g then .agg ((List.range n).map us).toArray else us 0) (by simp only [execOp, ho]) (fun w' hw => ?_) ?_
  · rw [hv]
    refine run_loadAt h1 h2 us fun j hj => ?_
    rw [← hm] at hj
    have hjl : j < cs.length := by omega
    exact hw.cell (hcell j _ (List.getElem?_eq_getElem hjl)).1
  · have := packS_rep (w := w) (X := fun b => Owned A b ∨ F b) (A := A) (L := st.L) hs us fun j c hj => by
      rw [List.getElem?_take] at hj
      split at hj
      · exact (hcell j c hj).2
      · cases hj
    rw [hl] at this
    cases g with
    | true => simp only [if_true] at hm this ⊢; rw [← hm]; exact this
    | false => exact this

end
end Go.LH

namespace Go.LH
open Go

section
variable {P : Program} {o : Oper} {a : Act} {w : World} {F : Nat → Prop} {A : Pls} {st : St} {G : GEnv}

theorem live_iff {L : List Entry} {id gen : Nat} (h : live? L id gen = true) : ∃ e, L[id]? = some e ∧ e.gen = gen := by
  unfold live? at h
  split at h
  · rename_i e he; exact ⟨e, he, by simpa using h⟩
  · cases h

/-- Where a pointer into the heap points. -/
theorem np_at {X : Nat → Prop} {L : List Entry} {id gen row col : Nat} {v : Value} (h : Rep w X A L (.np id gen row col) v) (hl : live? L id gen = true) :
    ∃ (e : Entry) (p : Pl), L[id]? = some e ∧ e.gen = gen ∧ A[id]? = some (some p) ∧ v = .pointer (some ⟨p.b, p.o + row * e.wd + col, none⟩) := by
  cases h with
  | v _ _ h => cases h
  | np _ _ _ _ _ h1 h =>
    obtain ⟨e, he, _, hp⟩ := h
    obtain ⟨e', he', hg⟩ := live_iff hl
    obtain rfl : e = e' := by rw [he] at he'; exact Option.some.inj he'
    obtain ⟨_, p, hA, hv⟩ := hp hg
    exact ⟨e, p, he, hg, hA, hv⟩
/-- It is one of cells. -/
theorem np_k {X : Nat → Prop} {L : List Entry} {id gen row col : Nat} {v : Value} (h : Rep w X A L (.np id gen row col) v) (hl : live? L id gen = true) {e : Entry} (he : L[id]? = some e) : e.bx = true ∨ 0 < e.wd := by
  cases h with
  | v _ _ h => cases h
  | np _ _ _ _ _ h1 h =>
    obtain ⟨e1, he1, _, hp⟩ := h
    obtain ⟨e', he', hg⟩ := live_iff hl
    obtain rfl : e1 = e' := by rw [he1] at he'; exact Option.some.inj he'
    obtain rfl : e1 = e := by rw [he1] at he; exact Option.some.inj he
    exact (hp hg).1
theorem ca_k {X : Nat → Prop} {L : List Entry} {id gen row col len : Nat} {v : Value} (h : Rep w X A L (.ca id gen row col len) v) (hl : live? L id gen = true) {e : Entry} (he : L[id]? = some e) : e.bx = true ∨ 0 < e.wd := by
  cases h with
  | v _ _ h => cases h
  | ca _ _ _ _ _ _ h1 h =>
    obtain ⟨e1, he1, _, hp⟩ := h
    obtain ⟨e', he', hg⟩ := live_iff hl
    obtain rfl : e1 = e' := by rw [he1] at he'; exact Option.some.inj he'
    obtain rfl : e1 = e := by rw [he1] at he; exact Option.some.inj he
    exact (hp hg).1
theorem rs_at {X : Nat → Prop} {L : List Entry} {id gen lo len : Nat} {v : Value} (h : Rep w X A L (.rs id gen lo len) v) (hl : live? L id gen = true) :
    ∃ e : Entry, L[id]? = some e ∧ e.gen = gen ∧ RsRep A e id lo len v := by
  cases h with
  | v _ _ h => cases h
  | rs _ _ _ _ _ h1 h =>
    obtain ⟨e, he, _, hp⟩ := h
    obtain ⟨e', he', hg⟩ := live_iff hl
    obtain rfl : e = e' := by rw [he] at he'; exact Option.some.inj he'
    exact ⟨e, he, hg, hp hg⟩
theorem ca_at {X : Nat → Prop} {L : List Entry} {id gen row col len : Nat} {v : Value} (h : Rep w X A L (.ca id gen row col len) v) (hl : live? L id gen = true) :
    ∃ (e : Entry) (p : Pl) (ad : Addr) (cap : Nat), L[id]? = some e ∧ e.gen = gen ∧ A[id]? = some (some p) ∧ v = .slice (some ad) len cap ∧ len ≤ cap ∧
      (cap = 0 ∨ (ad = ⟨p.b, p.o + row * e.wd + col, none⟩ ∧ col + cap ≤ e.wd ∧ row < e.rows.length)) := by
  cases h with
  | v _ _ h => cases h
  | ca _ _ _ _ _ _ h1 h =>
    obtain ⟨e, he, _, hp⟩ := h
    obtain ⟨e', he', hg⟩ := live_iff hl
    obtain rfl : e = e' := by rw [he] at he'; exact Option.some.inj he'
    obtain ⟨_, p, ad, cap, hA, hv, hl, hr⟩ := hp hg
    exact ⟨e, p, ad, cap, he, hg, hA, hv, hl, hr⟩

theorem np_mk {X : Nat → Prop} {L : List Entry} {id gen row col : Nat} {e : Entry} {p : Pl} (he : L[id]? = some e) (hg : e.gen = gen) (hk : e.bx = true ∨ 0 < e.wd) (hA : A[id]? = some (some p)) :
    Rep w X A L (.np id gen row col) (.pointer (some ⟨p.b, p.o + row * e.wd + col, none⟩)) :=
  .np _ _ _ _ _ rfl ⟨e, he, by omega, fun _ => ⟨hk, p, hA, rfl⟩⟩

theorem rp_drop {X : Nat → Prop} {L : List Entry} {cells : List Cv} {v : Value} (h : Rep w X A L (.rp cells) v) (n : Nat) :
    ∃ b q, v = .pointer (some ⟨b, q, none⟩) ∧ Rep w X A L (.rp (cells.drop n)) (.pointer (some ⟨b, q + n, none⟩)) := by
  cases h with
  | v _ _ h => cases h with
    | rp _ b q us hb hX hc hr =>
      refine ⟨b, q, rfl, .v _ _ (.rp _ b (q + n) (fun j => us (n + j)) hb hX (fun j c h => ?_) (fun j c h => ?_))⟩
      · rw [List.getElem?_drop] at h
        rw [show q + n + j = q + (n + j) by omega]
        exact hc _ _ h
      · rw [List.getElem?_drop] at h
        exact hr _ _ h

theorem looks_nilchk {x : Operand} {y : Opd} {s : Sv} (hO : OpR w F A st a) (ho : o.op = .nilCheck x) (h3 : cOpd x = some y) (he : evalOp G st (.nilchk y) = some (s, st.L)) : Looks P o a w F A st.L s := by
  have hr := hO x y h3
  simp only [evalOp] at he
  split at he
  · rename_i id gen row col hp
    split at he
    · rename_i hl
      simp only [Option.some.injEq, Prod.mk.injEq, and_true] at he
      subst he
      rw [hp] at hr
      obtain ⟨e, p, _, _, _, hv⟩ := np_at hr.inv_c hl
      exact ⟨a.eval x, fun w' _ => by simp [execOp, ho, hv], hr⟩
    · cases he
  · rename_i cells hp
    simp only [Option.some.injEq, Prod.mk.injEq, and_true] at he
    subst he
    rw [hp] at hr
    obtain ⟨b, q, hv, _⟩ := rp_drop hr.inv_c 0
    exact ⟨a.eval x, fun w' _ => by simp [execOp, ho, hv], hr⟩
  · rename_i ad hp
    simp only [Option.some.injEq, Prod.mk.injEq, and_true] at he
    subst he
    rw [hp] at hr
    have hv := hr.inv_val
    exact ⟨a.eval x, fun w' _ => by simp [execOp, ho, hv], hr⟩
  · cases he

theorem looks_faddr {t : TypeId} {x : Operand} {y : Opd} {i k : Nat} {fs : Array Field} {f : Field} {s : Sv} (hO : OpR w F A st a) (ho : o.op = .fieldAddr t x i) (h1 : P.underlying t = some (.struct fs)) (h2 : fs[i]? = some f)
    (h3 : cSize P f.type = some (k + 1)) (h4 : cOpd x = some y) (he : evalOp G st (.faddr f.offset y) = some (s, st.L)) : Looks P o a w F A st.L s := by
  have hr := hO x y h4
  have run : ∀ (w' : World) b q, a.eval x = .pointer (some ⟨b, q, none⟩) → (Instr.fieldAt t (a.eval x) i).run P w' = .ok (.pointer (some ⟨b, q + f.offset, none⟩)) w' := by
    intro w' b q hv
    simp [Instr.fieldAt, run_und h1, h2, hv, Instr.sureAddr, fieldPlace, run_size h3, addr_add]
  simp only [evalOp] at he
  split at he
  · rename_i id gen row col hp
    split at he
    · rename_i hl
      simp only [Option.some.injEq, Prod.mk.injEq, and_true] at he
      subst he
      rw [hp] at hr
      obtain ⟨e, p, he, hg, hA, hv⟩ := np_at hr.inv_c hl
      refine looks_of _ (by simp only [execOp, ho]) (fun w' _ => run w' _ _ hv) (.c _ _ ?_)
      have := np_mk (w := w) (X := fun b => Owned A b ∨ F b) (row := row) (col := col + f.offset) he hg (np_k hr.inv_c hl he) hA
      rwa [← Nat.add_assoc] at this
    · cases he
  · rename_i cells hp
    simp only [Option.some.injEq, Prod.mk.injEq, and_true] at he
    subst he
    rw [hp] at hr
    obtain ⟨b, q, hv, hr'⟩ := rp_drop hr.inv_c f.offset
    exact looks_of _ (by simp only [execOp, ho]) (fun w' _ => run w' _ _ hv) (.c _ _ hr')
  · rename_i g q hp
    simp only [Option.some.injEq, Prod.mk.injEq, and_true] at he
    subst he
    rw [hp] at hr
    exact looks_of _ (by simp only [execOp, ho]) (fun w' _ => run w' _ _ hr.inv_val) (srep_val rfl)
  · cases he

theorem looks_field {t : TypeId} {x : Operand} {y : Opd} {i n m : Nat} {g : Bool} {fs : Array Field} {f : Field} {s : Sv} (hO : OpR w F A st a) (ho : o.op = .field t x i) (h1 : P.underlying t = some (.struct fs)) (h2 : fs[i]? = some f)
    (h3 : cAgg P f.type = some g) (h3' : cSize P f.type = some n) (hm : m = if g then n else 1) (h4 : cOpd x = some y) (he : evalOp G st (.field g f.offset m y) = some (s, st.L)) : Looks P o a w F A st.L s := by
  have hr := hO x y h4
  simp only [evalOp] at he
  split at he
  · rename_i cs hp
    split at he
    · rename_i hle
      rw [hp] at hr
      obtain ⟨us, hn, hv, hcell⟩ := hr.inv_agg
      simp only [Option.map_eq_some_iff, Prod.mk.injEq, and_true] at he
      obtain ⟨s', hpk, rfl⟩ := he
      refine looks_of (Instr.field t (a.eval x) i) (by simp only [execOp, ho]) (v := if g then .agg (us.toArray.extract f.offset (f.offset + n)) else us.toArray.getD f.offset undef) (fun w' _ => ?_) ?_
      · have hpt := run_part (w := w') h3 h3' us.toArray (off := f.offset) (by rw [← hm]; simp; omega)
        simp only [Instr.field, Sem.run_bind, run_und h1, Result.andThen_ok, h2, hv, asAgg, Sem.run_pure]
        exact hpt
      · have hl : ((cs.drop f.offset).take m).length = m := by simp; omega
        have := packS_rep (w := w) (X := fun b => Owned A b ∨ F b) (A := A) (L := st.L) hpk (fun j => us.getD (f.offset + j) undef) fun j c hj => by
          rw [List.getElem?_take] at hj
          split at hj
          · rw [List.getElem?_drop] at hj
            have hjl : f.offset + j < us.length := by have := (List.getElem?_eq_some_iff.1 hj).1; omega
            have hu : us[f.offset + j]? = some (us.getD (f.offset + j) undef) := by simp [List.getD, List.getElem?_eq_getElem hjl]
            exact hcell _ _ _ hj hu
          · cases hj
        rw [hl] at this
        cases g with
        | true =>
          simp only [if_true] at hm this ⊢
          have e : us.toArray.extract f.offset (f.offset + n) = ((List.range m).map fun j => us.getD (f.offset + j) undef).toArray := by
            subst hm
            apply Array.ext
            · simp; omega
            · intro k h5 h6
              simp only [Array.size_extract, List.size_toArray] at h5
              have : f.offset + k < us.length := by omega
              simp [List.getD, List.getElem?_eq_getElem this]
          rw [e]; exact this
        | false =>
          simp only [Bool.false_eq_true, if_false] at this ⊢
          have e : us.toArray.getD f.offset undef = us.getD (f.offset + 0) undef := by
            have hlt : f.offset < us.length := by simp only [Bool.false_eq_true, if_false] at hm; omega
            simp [Array.getD, List.getD, hlt]
          rw [e]; exact this
    · cases he
  · cases he
end
end Go.LH

namespace Go.LH
open Go
set_option linter.unusedSimpArgs false
set_option linter.unusedVariables false

section
variable {P : Program} {o : Oper} {a : Act} {w : World} {F : Nat → Prop} {A : Pls} {st : St} {G : GEnv}

theorem liveW_iff {L : List Entry} {id gen wd : Nat} (h : liveW L id gen wd = true) : live? L id gen = true ∧ ∀ e, L[id]? = some e → e.wd = wd := by
  unfold liveW at h
  unfold live?
  split at h
  · rename_i e he
    simp only [Bool.and_eq_true, beq_iff_eq] at h
    simp [he, h.1, h.2]
  · cases h

theorem looks_iaddr {t e : TypeId} {x i : Operand} {y z : Opd} {wd : Nat} {s : Sv} (hO : OpR w F A st a) (ho : o.op = .indexAddr t x i) (h1 : P.underlying t = some (.slice e)) (h2 : cSize P e = some wd)
    (h3 : cOpd x = some y) (h4 : cOpd i = some z) (he : evalOp G st (.iaddr wd y z) = some (s, st.L)) : Looks P o a w F A st.L s := by
  have hx := hO x y h3
  have hi := hO i z h4
  have run : ∀ (w' : World) (b q len cap : Nat) (k : IntKind) (j : Int), a.eval x = .slice (some ⟨b, q, none⟩) len cap → a.eval i = .int k j → 0 ≤ j → j < len →
      (Instr.indexAt t (a.eval x) (a.eval i)).run P w' = .ok (.pointer (some ⟨b, q + j.toNat * wd, none⟩)) w' := by
    intro w' b q len cap k j hv hj h0 hl
    simp [Instr.indexAt, hv, hj, asIntOf, run_und h1, run_size h2, addr_add, h0, hl]
  simp only [evalOp] at he
  split at he
  · rename_i p k j hp hj
    rw [hj] at hi
    have hjv := hi.inv_val
    rw [hp] at hx
    split at he
    · rename_i wd' rows
      split at he
      · rename_i h0
        obtain ⟨h0, rfl⟩ := h0
        split at he
        · rename_i row hrow
          simp only [Option.some.injEq, Prod.mk.injEq, and_true] at he
          subst he
          have hjl := (List.getElem?_eq_some_iff.1 hrow).1
          have hx' := hx.inv_c
          generalize hev : a.eval x = vx at hx'
          cases hx' with
          | v _ _ h => cases h with
            | sl0 _ ad cap => simp at hjl
            | sl _ _ b q cap us hcap hb hX hwd' hc hr =>
              have hlt : j < (rows.length : Int) := by omega
              exact looks_of (Instr.indexAt t (a.eval x) (a.eval i)) (by simp only [execOp, ho]) (fun w' _ => run w' b q _ _ k j hev hjv h0 hlt)
                (.c _ _ (.v _ _ (.rp _ b _ (us j.toNat) hb hX (fun j' c h => hc _ _ _ _ hrow h) (fun j' c h => hr _ _ _ _ hrow h))))
        · cases he
      · cases he
    · rename_i id gen lo len
      split at he
      · rename_i hc
        obtain ⟨h0, hlt, hl⟩ := hc
        obtain ⟨hl, hlw⟩ := liveW_iff hl
        simp only [Option.some.injEq, Prod.mk.injEq, and_true] at he
        subst he
        obtain ⟨en, hen, hg, hbx, hfit, ad, cap, hv, hcap, hcase⟩ := rs_at hx.inv_c hl
        rcases hcase with ⟨c1, c3⟩ | ⟨c1, _, p, c2⟩ | ⟨p, c1, c0, c2, c3⟩
        · omega
        · omega
        · subst c2
          refine looks_of (Instr.indexAt t (a.eval x) (a.eval i)) (by simp only [execOp, ho]) (fun w' _ => run w' _ _ _ _ k j hv hjv h0 hlt) (.c _ _ ?_)
          have := np_mk (w := w) (X := fun b => Owned A b ∨ F b) (row := lo + j.toNat) (col := 0) hen hg (.inr c0) c1
          rw [hlw en hen] at this ⊢
          rwa [Nat.add_mul, Nat.add_zero, ← Nat.add_assoc] at this
      · cases he
    · rename_i id gen row col len
      split at he
      · rename_i hc
        obtain ⟨h0, hlt, hl, rfl⟩ := hc
        simp only [Option.some.injEq, Prod.mk.injEq, and_true] at he
        subst he
        obtain ⟨en, p, ad, cap, hen, hg, hA, hv, hcap, hr⟩ := ca_at hx.inv_c hl
        rcases hr with hr | ⟨rfl, hr1, hr2⟩
        · omega
        · refine looks_of (Instr.indexAt t (a.eval x) (a.eval i)) (by simp only [execOp, ho]) (fun w' _ => run w' _ _ _ _ k j hv hjv h0 hlt) (.c _ _ ?_)
          have := np_mk (w := w) (X := fun b => Owned A b ∨ F b) (row := row) (col := col + j.toNat) hen hg (ca_k hx.inv_c hl hen) hA
          rw [Nat.mul_one]
          rwa [← Nat.add_assoc] at this
      · cases he
    · cases he
  · cases he

theorem looks_iaddrA {t e : TypeId} {x i : Operand} {y z : Opd} {n wd : Nat} {s : Sv} (hO : OpR w F A st a) (ho : o.op = .indexAddr t x i) (h1 : P.underlying t = some (.array n e)) (h2 : cSize P e = some wd)
    (h3 : cOpd x = some y) (h4 : cOpd i = some z) (he : evalOp G st (.iaddrA n wd y z) = some (s, st.L)) : Looks P o a w F A st.L s := by
  have hx := hO x y h3
  have hi := hO i z h4
  have run : ∀ (w' : World) (b q : Nat) (k : IntKind) (j : Int), a.eval x = .pointer (some ⟨b, q, none⟩) → a.eval i = .int k j → 0 ≤ j → j < n →
      (Instr.indexAt t (a.eval x) (a.eval i)).run P w' = .ok (.pointer (some ⟨b, q + j.toNat * wd, none⟩)) w' := by
    intro w' b q k j hv hj h0 hl
    simp [Instr.indexAt, hv, hj, asIntOf, run_und h1, run_size h2, addr_add, h0, hl, Instr.sureAddr]
  simp only [evalOp] at he
  split at he
  · rename_i p k j hp hj
    rw [hj] at hi
    have hjv := hi.inv_val
    rw [hp] at hx
    split at he
    · rename_i hc
      obtain ⟨h0, hlt⟩ := hc
      split at he
      · rename_i id gen row col
        split at he
        · rename_i hl
          simp only [Option.some.injEq, Prod.mk.injEq, and_true] at he
          subst he
          obtain ⟨en, p, hen, hg, hA, hv⟩ := np_at hx.inv_c hl
          refine looks_of (Instr.indexAt t (a.eval x) (a.eval i)) (by simp only [execOp, ho]) (fun w' _ => run w' _ _ k j hv hjv h0 hlt) (.c _ _ ?_)
          have := np_mk (w := w) (X := fun b => Owned A b ∨ F b) (row := row) (col := col + j.toNat * wd) hen hg (np_k hx.inv_c hl hen) hA
          rwa [← Nat.add_assoc] at this
        · cases he
      · rename_i cells
        simp only [Option.some.injEq, Prod.mk.injEq, and_true] at he
        subst he
        obtain ⟨b, q, hv, hr⟩ := rp_drop hx.inv_c (j.toNat * wd)
        exact looks_of (Instr.indexAt t (a.eval x) (a.eval i)) (by simp only [execOp, ho]) (fun w' _ => run w' _ _ k j hv hjv h0 hlt) (.c _ _ hr)
      · rename_i g q
        simp only [Option.some.injEq, Prod.mk.injEq, and_true] at he
        subst he
        exact looks_of (Instr.indexAt t (a.eval x) (a.eval i)) (by simp only [execOp, ho]) (fun w' _ => run w' _ _ k j hx.inv_val hjv h0 hlt) (srep_val rfl)
      · cases he
    · cases he
  · cases he

theorem looks_idxA {t e : TypeId} {x i : Operand} {y z : Opd} {n wd : Nat} {g : Bool} {s : Sv} (hO : OpR w F A st a) (ho : o.op = .index t x i) (h1 : P.underlying t = some (.array n e)) (h2 : cSize P e = some wd) (h2' : cAgg P e = some g)
    (hw1 : g = true ∨ wd = 1) (h3 : cOpd x = some y) (h4 : cOpd i = some z) (he : evalOp G st (.idxA g n wd y z) = some (s, st.L)) : Looks P o a w F A st.L s := by
  have hx := hO x y h3
  have hi := hO i z h4
  simp only [evalOp] at he
  split at he
  · rename_i cs k j hp hj
    rw [hj] at hi
    have hjv := hi.inv_val
    rw [hp] at hx
    split at he
    · rename_i hc
      obtain ⟨h0, hlt, hle⟩ := hc
      obtain ⟨us, hn, hv, hcell⟩ := hx.inv_agg
      simp only [Option.map_eq_some_iff, Prod.mk.injEq, and_true] at he
      obtain ⟨s', hpk, rfl⟩ := he
      have hle' : j.toNat * wd + wd ≤ us.length := by rw [Nat.add_mul] at hle; omega
      have hm : wd = if g then wd else 1 := by rcases hw1 with h | h <;> simp [h]
      refine looks_of (Instr.index t (a.eval x) (a.eval i)) (by simp only [execOp, ho]) (v := if g then .agg (us.toArray.extract (j.toNat * wd) (j.toNat * wd + wd)) else us.toArray.getD (j.toNat * wd) undef) (fun w' _ => ?_) ?_
      · have hpt := run_part (w := w') h2' h2 us.toArray (off := j.toNat * wd) (by rw [← hm]; simpa using hle')
        simp only [Instr.index, hv, hjv, asIntOf, Sem.run_bind, Sem.run_pure, Result.andThen_ok, run_und h1, run_size h2]
        rw [if_pos ⟨h0, hlt⟩]
        simp only [Sem.run_bind, run_size h2, Result.andThen_ok]
        exact hpt
      · have hl : ((cs.drop (j.toNat * wd)).take wd).length = wd := by simp; omega
        have := packS_rep (w := w) (X := fun b => Owned A b ∨ F b) (A := A) (L := st.L) hpk (fun k => us.getD (j.toNat * wd + k) undef) fun k c hk => by
          rw [List.getElem?_take] at hk
          split at hk
          · rw [List.getElem?_drop] at hk
            have hjl : j.toNat * wd + k < us.length := by have := (List.getElem?_eq_some_iff.1 hk).1; omega
            have hu : us[j.toNat * wd + k]? = some (us.getD (j.toNat * wd + k) undef) := by simp [List.getD, List.getElem?_eq_getElem hjl]
            exact hcell _ _ _ hk hu
          · cases hk
        rw [hl] at this
        cases g with
        | true =>
          simp only [if_true] at this ⊢
          have e : us.toArray.extract (j.toNat * wd) (j.toNat * wd + wd) = ((List.range wd).map fun k => us.getD (j.toNat * wd + k) undef).toArray := by
            apply Array.ext
            · simp; omega
            · intro k h5 h6
              simp only [Array.size_extract, List.size_toArray] at h5
              have : j.toNat * wd + k < us.length := by omega
              simp [List.getD, List.getElem?_eq_getElem this]
          rw [e]; exact this
        | false =>
          simp only [Bool.false_eq_true, if_false] at this ⊢
          have e : us.toArray.getD (j.toNat * wd) undef = us.getD (j.toNat * wd + 0) undef := by
            have hlt : j.toNat * wd < us.length := by simp only [Bool.false_eq_true, if_false] at hm; omega
            simp [Array.getD, List.getD, hlt]
          rw [e]; exact this
    · cases he
  · cases he

theorem looks_idxS {t : TypeId} {x i : Operand} {y z : Opd} {s : Sv} (hO : OpR w F A st a) (ho : o.op = .index t x i) (h1 : P.underlying t = some .string)
    (h3 : cOpd x = some y) (h4 : cOpd i = some z) (he : evalOp G st (.idxS y z) = some (s, st.L)) : Looks P o a w F A st.L s := by
  have hx := hO x y h3
  have hi := hO i z h4
  simp only [evalOp] at he
  split at he
  · rename_i b k j hp hj
    rw [hj] at hi
    have hjv := hi.inv_val
    rw [hp] at hx
    have hv := hx.inv_val
    split at he
    · rename_i h0
      cases hb : b[j.toNat]? with
      | none => simp [hb] at he
      | some u =>
        simp only [hb, Option.map_some, Option.some.injEq, Prod.mk.injEq, and_true] at he
        subst he
        refine looks_of (Instr.index t (a.eval x) (a.eval i)) (by simp only [execOp, ho]) (fun w' _ => ?_) (srep_val rfl)
        simp [Instr.index, hv, hjv, asIntOf, run_und h1, h0, hb]
    · cases he
  · cases he

theorem looks_extr {x : Operand} {y : Opd} {i : Nat} {s : Sv} (hO : OpR w F A st a) (ho : o.op = .extract x i) (h3 : cOpd x = some y) (he : evalOp G st (.extr y i) = some (s, st.L)) : Looks P o a w F A st.L s := by
  have hx := hO x y h3
  simp only [evalOp] at he
  split at he
  · rename_i xs hp
    rw [hp] at hx
    obtain ⟨us, hn, hv, hcell⟩ := hx.inv_tup
    cases hs : xs[i]? with
    | none => simp [hs] at he
    | some u =>
      simp only [hs, Option.map_some, Option.some.injEq, Prod.mk.injEq, and_true] at he
      subst he
      have hi : i < us.length := by have := (List.getElem?_eq_some_iff.1 hs).1; omega
      refine looks_of (Instr.extract (a.eval x) i) (by simp only [execOp, ho]) (v := us[i]) (fun w' _ => ?_) (hcell i u us[i] hs (List.getElem?_eq_getElem hi))
      simp [Instr.extract, hv, hi]
  · cases he

/-- How long a slice is. -/
theorem lenOf_rep {X : Nat → Prop} {L : List Entry} {p : Cv} {n : Nat} (h : lenOf L p = some n) {v : Value} (hr : Rep w X A L p v) : ∃ ad cap, v = .slice ad n cap := by
  cases hr with
  | np id gen row col v h1 h' => simp [lenOf] at h
  | ifc t x u h' => simp [lenOf] at h
  | fn f caps us hn h' => simp [lenOf] at h
  | mp id gen v h1 h' => simp [lenOf] at h
  | it id gen mid mg v h1 h' => simp [lenOf] at h
  | rs id gen lo len v h1 h' =>
    simp only [lenOf] at h
    split at h
    · rename_i hl
      obtain rfl := Option.some.inj h
      obtain ⟨e, he, hg, hbx, hfit, ad, cap, hv, hcap, _⟩ := rs_at (w := w) (X := X) (.rs id gen lo len v h1 h') hl
      exact ⟨ad, cap, hv⟩
    · cases h
  | ca id gen row col len v h1 h' =>
    simp only [lenOf] at h
    split at h
    · rename_i hl
      obtain rfl := Option.some.inj h
      obtain ⟨e, p, ad, cap, he, hg, hA, hv, hcap, _⟩ := ca_at (w := w) (X := X) (.ca id gen row col len v h1 h') hl
      exact ⟨some ad, cap, hv⟩
    · cases h
  | v c u h' => cases h' with
    | rp cells b o us hb hX hc hr => simp [lenOf] at h
    | sl0 wd ad cap =>
      obtain rfl : 0 = n := by simpa [lenOf] using h
      exact ⟨ad, cap, rfl⟩
    | sl wd rows b o cap us hcap hb hX hwd hc hr =>
      obtain rfl : rows.length = n := by simpa [lenOf] using h
      exact ⟨_, cap, rfl⟩
    | ifc t x u h' => simp [lenOf] at h
    | fn f caps us hn h' => simp [lenOf] at h
    | val v h1 =>
      unfold lenOf at h
      split at h <;> first | (rename_i heq; cases heq; done) | skip
      · rename_i heq; cases heq; obtain rfl := Option.some.inj h; exact ⟨none, 0, rfl⟩
      · cases h

theorem run_builtin {c : Call} {b : Builtin} (ho : o.op = .call c) (hb : c.callee = .builtin b) :
    ∃ cs, execOp a.eval o = builtin b c.argTypes o.type cs (c.args.map a.eval) := by
  simp only [execOp, ho, resolve, hb]
  exact ⟨_, rfl⟩

theorem looks_len {c : Call} {t e : TypeId} {x : Operand} {y : Opd} {s : Sv} (hO : OpR w F A st a) (ho : o.op = .call c) (hb : c.callee = .builtin .len) (ht : c.argTypes.toList.head? = some t) (hx : c.args.toList = [x])
    (h1 : P.underlying t = some (.slice e)) (h3 : cOpd x = some y) (he : evalOp G st (.len y) = some (s, st.L)) : Looks P o a w F A st.L s := by
  have hr := hO x y h3
  simp only [evalOp] at he
  split at he
  · rename_i p hp
    rw [hp] at hr
    cases hl : lenOf st.L p with
    | none => simp [hl] at he
    | some n =>
      simp only [hl, Option.map_some, Option.some.injEq, Prod.mk.injEq, and_true] at he
      subst he
      obtain ⟨ad, cap, hv⟩ := lenOf_rep hl hr.inv_c
      have hargs : c.args = #[x] := by rw [← Array.toArray_toList (xs := c.args), hx]
      have hat : c.argTypes[0]? = some t := by rw [← ht]; simp [List.head?_eq_getElem?]
      refine ⟨.int .i64 n, fun w' _ => ?_, srep_val rfl⟩
      obtain ⟨_, hrb⟩ := run_builtin (a := a) ho hb
      rw [hrb]
      simp [builtin, hargs, hv, Builtin.len_, hat, run_und h1, goInt]
  · cases he
theorem looks_lenS {c : Call} {t : TypeId} {x : Operand} {y : Opd} {s : Sv} (hO : OpR w F A st a) (ho : o.op = .call c) (hb : c.callee = .builtin .len) (ht : c.argTypes.toList.head? = some t) (hx : c.args.toList = [x])
    (h1 : P.underlying t = some .string) (h3 : cOpd x = some y) (he : evalOp G st (.lenS y) = some (s, st.L)) : Looks P o a w F A st.L s := by
  have hr := hO x y h3
  simp only [evalOp] at he
  split at he
  · rename_i z hp
    rw [hp] at hr
    simp only [Option.some.injEq, Prod.mk.injEq, and_true] at he
    subst he
    have hargs : c.args = #[x] := by rw [← Array.toArray_toList (xs := c.args), hx]
    have hat : c.argTypes[0]? = some t := by rw [← ht]; simp [List.head?_eq_getElem?]
    refine ⟨.int .i64 z.size, fun w' _ => ?_, srep_val rfl⟩
    obtain ⟨_, hrb⟩ := run_builtin (a := a) ho hb
    rw [hrb]
    simp [builtin, hargs, hr.inv_val, Builtin.len_, hat, run_und h1, goInt]
  · cases he
theorem looks_lenA {c : Call} {t e : TypeId} {n : Nat} {s : Sv} {x : Operand} (ho : o.op = .call c) (hb : c.callee = .builtin .len) (ht : c.argTypes.toList.head? = some t) (hx : c.args.toList = [x])
    (h1 : P.underlying t = some (.array n e)) (he : evalOp G st (.lenA n) = some (s, st.L)) : Looks P o a w F A st.L s := by
  simp only [evalOp, Option.some.injEq, Prod.mk.injEq, and_true] at he
  subst he
  have hargs : c.args = #[x] := by rw [← Array.toArray_toList (xs := c.args), hx]
  have hat : c.argTypes[0]? = some t := by rw [← ht]; simp [List.head?_eq_getElem?]
  refine ⟨.int .i64 n, fun w' _ => ?_, srep_val rfl⟩
  obtain ⟨_, hrb⟩ := run_builtin (a := a) ho hb
  rw [hrb]
  simp [builtin, hargs, Builtin.len_, hat, run_und h1, goInt]
end
end Go.LH

namespace Go.LH
open Go
set_option linter.unusedSimpArgs false
set_option linter.unusedVariables false

section
variable {P : Program} {o : Oper} {a : Act} {w : World} {F : Nat → Prop} {A : Pls} {st : St} {G : GEnv}

theorem run_guard_int (op : BinOp) (t : TypeId) (x y : Operand) (k k' : IntKind) (m n : Int) : (eqGuard op t x y (.int k m) (.int k' n)).run P w = .ok () w := by
  cases op <;> simp [eqGuard]
theorem run_guard_str (op : BinOp) (t : TypeId) (x y : Operand) (m n : ByteArray) : (eqGuard op t x y (.string m) (.string n)).run P w = .ok () w := by
  cases op <;> simp [eqGuard]
theorem run_guard_bool (op : BinOp) (t : TypeId) (x y : Operand) (m n : Bool) : (eqGuard op t x y (.bool m) (.bool n)).run P w = .ok () w := by
  cases op <;> simp [eqGuard]

theorem binE_run {op : BinOp} {t : TypeId} {x y : Operand} {u v r : Value} (h : binE op u v = some r) : (do eqGuard op t x y u v; binOp op t u v : Sem Value).run P w = .ok r w ∧ r.oneCell' = true := by
  cases u <;> cases v <;> simp only [binE] at h <;> try (cases h; done)
  · rename_i k m k' n
    simp only [Sem.run_bind, run_guard_int, Result.andThen_ok]
    cases op <;> simp only [binOp, Op.shift] at h ⊢ <;> (try split at h) <;> (try (cases h; done)) <;> (try split at h) <;> (try (cases h; done)) <;> (try obtain rfl := Option.some.inj h) <;>
      simp_all [Op.intArith, Op.intDiv, Op.intBits, Op.intCmp, Value.oneCell']
    all_goals (try (intro h; omega))
  · rename_i m n
    simp only [Sem.run_bind, run_guard_str, Result.andThen_ok]
    cases op <;> simp only [binOp] at h ⊢ <;> (try split at h) <;> (try (cases h; done)) <;> (try obtain rfl := Option.some.inj h) <;> simp_all [Op.stringOp, Value.oneCell', beq_toListBytes]
    all_goals (try omega)

theorem looks_bin {op : BinOp} {t t' : TypeId} {x y : Operand} {x' y' : Opd} {s : Sv} (hO : OpR w F A st a) (ho : o.op = .binOp op t x y t') (h1 : cOpd x = some x') (h2 : cOpd y = some y')
    (he : evalOp G st (.bin op x' y') = some (s, st.L)) : Looks P o a w F A st.L s := by
  have hx := hO x x' h1
  have hy := hO y y' h2
  simp only [evalOp] at he
  split at he
  · rename_i u v hu hv
    rw [hu] at hx
    rw [hv] at hy
    cases hb : binE op u v with
    | none => simp [hb] at he
    | some r =>
      simp only [hb, Option.map_some, Option.some.injEq, Prod.mk.injEq, and_true] at he
      subst he
      refine looks_of (do eqGuard op t x y (a.eval x) (a.eval y); binOp op t (a.eval x) (a.eval y)) (by simp only [execOp, ho]) (fun w' _ => ?_) (srep_val (binE_run (P := P) (w := w) (t := t) (x := x) (y := y) hb).2)
      rw [hx.inv_val, hy.inv_val]
      exact (binE_run hb).1
  · cases he

theorem looks_eqB {op : BinOp} {t t' : TypeId} {x y : Operand} {x' y' : Opd} {s : Sv} (hO : OpR w F A st a) (ho : o.op = .binOp op t x y t') (hop : op = .eql ∨ op = .neq) (ht : P.underlying t = some .bool) (h1 : cOpd x = some x') (h2 : cOpd y = some y')
    (he : evalOp G st (.eqB (op == .neq) x' y') = some (s, st.L)) : Looks P o a w F A st.L s := by
  have hx := hO x x' h1
  have hy := hO y y' h2
  simp only [evalOp] at he
  split at he
  · rename_i u v hu hv
    rw [hu] at hx
    rw [hv] at hy
    simp only [Option.some.injEq, Prod.mk.injEq, and_true] at he
    subst he
    refine looks_of (do eqGuard op t x y (a.eval x) (a.eval y); binOp op t (a.eval x) (a.eval y)) (by simp only [execOp, ho]) (fun w' _ => ?_) (srep_val rfl)
    rw [hx.inv_val, hy.inv_val]
    rcases hop with rfl | rfl <;> simp [run_guard_bool, binOp, Op.equal, Op.maxDepth, run_equalIn_bool _ _ _ _ _ ht]
  · cases he

theorem nilEq_val {L : List Entry} {X : Nat → Prop} {p q : Cv} {t : Bool} (h : nilEq p q = some t) {u v : Value} (hu : Rep w X A L p u) (hv : Rep w X A L q v) :
    (u = .nilIface ∧ v = .nilIface ∧ t = true) ∨ (u = .nilIface ∧ (∃ k z, v = .iface k z) ∧ t = false) ∨ ((∃ k z, u = .iface k z) ∧ v = .nilIface ∧ t = false) := by
  have vl : ∀ {c : Cv} {z : Value}, Rep w X A L c z → (c = .val .nilIface → z = .nilIface) ∧ (∀ k y, c = .val (.iface k y) → z = .iface k y) ∧ (∀ k y, c = .ifc k y → ∃ y', z = .iface k y') := by
    intro c z hz
    refine ⟨fun e => ?_, fun k y e => ?_, fun k y e => ?_⟩ <;> subst e
    · cases hz with | v _ _ h => cases h; rfl
    · cases hz with | v _ _ h => cases h; rfl
    · cases hz with
      | v _ _ h => cases h; exact ⟨_, rfl⟩
      | ifc _ _ u h => exact ⟨_, rfl⟩
  unfold nilEq at h
  split at h <;> first | (cases h; done) | skip
  · exact .inl ⟨(vl hu).1 rfl, (vl hv).1 rfl, (Option.some.inj h).symm⟩
  · exact .inr (.inl ⟨(vl hu).1 rfl, ⟨_, _, (vl hv).2.1 _ _ rfl⟩, (Option.some.inj h).symm⟩)
  · exact .inr (.inr ⟨⟨_, _, (vl hu).2.1 _ _ rfl⟩, (vl hv).1 rfl, (Option.some.inj h).symm⟩)
  · obtain ⟨y', hy⟩ := (vl hv).2.2 _ _ rfl
    exact .inr (.inl ⟨(vl hu).1 rfl, ⟨_, y', hy⟩, (Option.some.inj h).symm⟩)
  · obtain ⟨y', hy⟩ := (vl hu).2.2 _ _ rfl
    exact .inr (.inr ⟨⟨_, y', hy⟩, (vl hv).1 rfl, (Option.some.inj h).symm⟩)

theorem equal_nil {t : TypeId} {ms : Array (String × TypeId)} (ht : P.underlying t = some (.interface ms)) (w : World) (k : TypeId) (z : Value) :
    (Op.equal t .nilIface .nilIface).run P w = .ok true w ∧ (Op.equal t .nilIface (.iface k z)).run P w = .ok false w ∧ (Op.equal t (.iface k z) .nilIface).run P w = .ok false w := by
  have h : ∀ d, (Op.equalIn (d + 1) t .nilIface .nilIface).run P w = .ok true w ∧ (Op.equalIn (d + 1) t .nilIface (.iface k z)).run P w = .ok false w ∧ (Op.equalIn (d + 1) t (.iface k z) .nilIface).run P w = .ok false w := by
    intro d
    simp only [Op.equalIn, Sem.run_bind, run_und ht, Result.andThen_ok, Sem.run_pure, and_self]
  exact h 9999

theorem looks_eqN {op : BinOp} {t t' : TypeId} {ms : Array (String × TypeId)} {x y : Operand} {x' y' : Opd} {s : Sv} (hO : OpR w F A st a) (ho : o.op = .binOp op t x y t') (hop : op = .eql ∨ op = .neq) (ht : P.underlying t = some (.interface ms))
    (hn : isNilC x = true ∨ isNilC y = true) (h1 : cOpd x = some x') (h2 : cOpd y = some y') (he : evalOp G st (.eq (op == .neq) .cell x' y') = some (s, st.L)) : Looks P o a w F A st.L s := by
  have hx := hO x x' h1
  have hy := hO y y' h2
  have hcx : ∀ z : Operand, isNilC z = true → z = .const .nilIface := by
    intro z h
    unfold isNilC at h
    split at h
    · rfl
    · cases h
  simp only [evalOp] at he
  split at he
  · rename_i p q _ hu hv
    rw [hu] at hx
    rw [hv] at hy
    split at he
    · rename_i b hb
      simp only [Option.some.injEq, Prod.mk.injEq, and_true] at he
      subst he
      refine looks_of (do eqGuard op t x y (a.eval x) (a.eval y); binOp op t (a.eval x) (a.eval y)) (by simp only [execOp, ho]) (fun w' _ => ?_) (srep_val rfl)
      rcases nilEq_val hb hx.inv_c hy.inv_c with ⟨e1, e2, e3⟩ | ⟨e1, ⟨k, z, e2⟩, e3⟩ | ⟨⟨k, z, e1⟩, e2, e3⟩ <;> rw [e1, e2, e3]
      · have hg : (eqGuard op t x y .nilIface .nilIface).run P w' = .ok () w' := by
          rcases hn with hn | hn
          · obtain rfl := hcx x hn
            rcases hop with rfl | rfl <;> simp [eqGuard]
          · obtain rfl := hcx y hn
            rcases hop with rfl | rfl <;> simp [eqGuard]
        rcases hop with rfl | rfl <;> simp [hg, binOp, (equal_nil ht w' 0 .nilIface).1]
      · rcases hop with rfl | rfl <;> simp [eqGuard, binOp, (equal_nil ht w' k z).2.1]
      · rcases hop with rfl | rfl <;> simp [eqGuard, binOp, (equal_nil ht w' k z).2.2]
    · cases he
  · rename_i n cs ds hk hu hv
    cases hk
  · cases he

theorem looks_un {op : UnOp} {t : TypeId} {x : Operand} {x' : Opd} {s : Sv} (hO : OpR w F A st a) (ho : o.op = .unOp op t x) (h1 : cOpd x = some x') (he : evalOp G st (.un op x') = some (s, st.L)) : Looks P o a w F A st.L s := by
  have hx := hO x x' h1
  simp only [evalOp] at he
  split at he
  · rename_i u hu
    rw [hu] at hx
    cases hb : unE op u with
    | none => simp [hb] at he
    | some r =>
      simp only [hb, Option.map_some, Option.some.injEq, Prod.mk.injEq, and_true] at he
      subst he
      have : ∀ w' : World, (Op.unary op u).run P w' = .ok r w' ∧ r.oneCell' = true := by
        intro w'
        cases u <;> cases op <;> simp only [unE] at hb <;> (try (cases hb; done)) <;> obtain rfl := Option.some.inj hb <;> simp [Op.unary, Op.intArith, Op.intBits, Value.oneCell']
      refine looks_of (Op.unary op (a.eval x)) (by simp only [execOp, ho]) (fun w' _ => ?_) (srep_val (this w).2)
      rw [hx.inv_val]
      exact (this w').1
  · cases he

theorem looks_convI {d e : TypeId} {k k' : IntKind} {x : Operand} {x' : Opd} {s : Sv} (hO : OpR w F A st a) (ho : o.op = .convert d e x) (hd : P.underlying d = some (.int k')) (hk : P.underlying e = some (.int k)) (h1 : cOpd x = some x')
    (he : evalOp G st (.convI k x') = some (s, st.L)) : Looks P o a w F A st.L s := by
  have hx := hO x x' h1
  simp only [evalOp] at he
  split at he
  · rename_i j n hu
    rw [hu] at hx
    simp only [Option.some.injEq, Prod.mk.injEq, and_true] at he
    subst he
    refine looks_of (convert d e (a.eval x)) (by simp only [execOp, ho]) (fun w' _ => ?_) (srep_val rfl)
    rw [hx.inv_val]
    simp [convert, run_und hd, run_und hk, Conv.intToInt]
  · cases he
theorem looks_convSame {d e : TypeId} {x : Operand} {x' : Opd} {s : Sv} (hO : OpR w F A st a) (ho : o.op = .convert d e x) (hd : P.underlying d = some .string) (hk : P.underlying e = some .string) (h1 : cOpd x = some x')
    (he : evalOp G st (.convSame x') = some (s, st.L)) : Looks P o a w F A st.L s := by
  have hx := hO x x' h1
  simp only [evalOp] at he
  split at he
  · rename_i z hu
    rw [hu] at hx
    simp only [Option.some.injEq, Prod.mk.injEq, and_true] at he
    subst he
    refine looks_of (convert d e (a.eval x)) (by simp only [execOp, ho]) (fun w' _ => ?_) (srep_val rfl)
    rw [hx.inv_val]
    simp [convert, run_und hd, run_und hk]
  · cases he

theorem looks_mkif {t : TypeId} {d : TypeDesc} {x : Operand} {x' : Opd} {s : Sv} (hO : OpR w F A st a) (ho : o.op = .makeInterface t x) (ht : P.underlying t = some d) (hd : ∀ ms, d ≠ .interface ms) (h1 : cOpd x = some x')
    (he : evalOp G st (.mkif t x') = some (s, st.L)) : Looks P o a w F A st.L s := by
  have hx := hO x x' h1
  simp only [evalOp] at he
  split at he
  · rename_i c hu
    rw [hu] at hx
    simp only [Option.some.injEq, Prod.mk.injEq, and_true] at he
    subst he
    refine looks_of (Instr.makeInterface t (a.eval x)) (by simp only [execOp, ho]) (v := .iface t (a.eval x)) (fun w' _ => ?_) (.c _ _ (.ifc _ _ _ hx.inv_c))
    simp only [Instr.makeInterface, Sem.run_bind, run_und ht, Result.andThen_ok]
    cases d <;> first | rfl | exact absurd rfl (hd _)
  · cases he

theorem allC_get : ∀ {l : List Sv} {cs : List Cv}, allC l = some cs → l = cs.map Sv.c
  | [], cs, h => by obtain rfl := Option.some.inj h; rfl
  | .c x :: r, cs, h => by
    simp only [allC] at h
    split at h
    · rename_i l hl
      obtain rfl := Option.some.inj h
      rw [allC_get hl]; rfl
    · cases h
  | .un :: r, cs, h => by cases h
  | .ud :: r, cs, h => by cases h
  | .agg _ :: r, cs, h => by cases h
  | .tup _ :: r, cs, h => by cases h

/-- Operands that were looked up one by one. -/
theorem opds_rep {l : List Operand} {ys : List Opd} (hO : OpR w F A st a) (h : l.mapM cOpd = some ys) : (l.map a.eval).length = (ys.map st.opd).length ∧ ∀ (i : Nat) (s : Sv) (v : Value), (ys.map st.opd)[i]? = some s → (l.map a.eval)[i]? = some v → SRep w (fun b => Owned A b ∨ F b) A st.L s v := by
  induction l generalizing ys with
  | nil => simp at h; subst h; simp
  | cons x r ih =>
    simp only [List.mapM_cons, Option.bind_eq_bind, Option.pure_def] at h
    cases hx : cOpd x with
    | none => simp [hx] at h
    | some y =>
      cases hr : r.mapM cOpd with
      | none => simp [hx, hr] at h
      | some zs =>
        simp only [hx, hr, Option.bind_some, Option.some.injEq] at h
        subst h
        obtain ⟨hl, hi⟩ := ih hr
        refine ⟨by simpa using hl, fun i s v h1 h2 => ?_⟩
        cases i with
        | zero =>
          simp only [List.map_cons, List.getElem?_cons_zero, Option.some.injEq] at h1 h2
          subst h1; subst h2
          exact hO x y hx
        | succ i => exact hi i s v (by simpa using h1) (by simpa using h2)

theorem looks_mkfn {f : Fn} {first caps : Array Operand} {ys : List Opd} {s : Sv} (hO : OpR w F A st a) (ho : o.op = .makeFunc f first caps) (hf : first.size = 0) (h1 : caps.toList.mapM cOpd = some ys)
    (he : evalOp G st (.mkfn f ys) = some (s, st.L)) : Looks P o a w F A st.L s := by
  obtain ⟨hl, hi⟩ := opds_rep hO h1
  simp only [evalOp] at he
  split at he
  · rename_i l hall
    simp only [Option.some.injEq, Prod.mk.injEq, and_true] at he
    subst he
    have hall' := allC_get hall
    have hfe : first = #[] := Array.eq_empty_of_size_eq_zero hf
    refine looks_of (Instr.makeFunc f (first.map a.eval) (caps.map a.eval)) (by simp only [execOp, ho]) (v := .func f #[] (caps.toList.map a.eval).toArray) (fun w' _ => ?_) (.c _ _ (.fn _ _ _ ?_ fun i c u h2 h3 => ?_))
    · simp only [Instr.makeFunc, hfe, Sem.run_pure]
      rw [show caps.map a.eval = (caps.toList.map a.eval).toArray by apply Array.ext' ; simp]
      simp
    · rw [hl, hall']; simp
    · have := hi i (.c c) u (by rw [hall']; simp [h2]) h3
      exact this.inv_c
  · cases he
end
end Go.LH

namespace Go.LH
open Go
set_option linter.unusedSimpArgs false
set_option linter.unusedVariables false

section
variable {P : Program} {o : Oper} {a : Act} {w : World} {F : Nat → Prop} {A : Pls} {st : St} {G : GEnv}

/-! ### a struct that is built -/
theorem fold_put (off : Nat) : ∀ (us : List Value) (k : Nat) (cs : Array Value) (i : Nat), off + k + us.length ≤ cs.size →
    ((us.zipIdx k).foldl (fun cs p => cs.setIfInBounds (off + p.2) p.1) cs)[i]? = (if off + k ≤ i ∧ i < off + k + us.length then us[i - (off + k)]? else cs[i]?) ∧
    ((us.zipIdx k).foldl (fun cs p => cs.setIfInBounds (off + p.2) p.1) cs).size = cs.size
  | [], k, cs, i, _ => by simp; intro h1 h2; omega
  | u :: us, k, cs, i, h => by
    simp only [List.length_cons] at h
    simp only [List.zipIdx_cons, List.foldl_cons]
    obtain ⟨h1, h2⟩ := fold_put off us (k + 1) (cs.setIfInBounds (off + k) u) i (by simp; omega)
    refine ⟨?_, by rw [h2]; simp⟩
    rw [h1]
    by_cases hi : i = off + k
    · subst hi
      rw [if_neg (by omega), if_pos (by simp)]
      simp only [Nat.sub_self, List.getElem?_cons_zero, Array.getElem?_setIfInBounds_self]
      rw [if_pos (by omega)]
    · rw [Array.getElem?_setIfInBounds_ne (by omega)]
      by_cases hc : off + (k + 1) ≤ i ∧ i < off + (k + 1) + us.length
      · rw [if_pos hc, if_pos (by simp; omega)]
        rw [show i - (off + k) = (i - (off + (k + 1))) + 1 by omega]
        simp
      · rw [if_neg hc, if_neg (by simp; omega)]

/-- Cells that stand for each other, one by one. -/
def CellsR (w : World) (X : Nat → Prop) (A : Pls) (L : List Entry) (cs : List Cv) (us : Array Value) : Prop :=
  cs.length = us.size ∧ ∀ (i : Nat) (c : Cv) (u : Value), cs[i]? = some c → us[i]? = some u → Rep w X A L c u

theorem putCells_get {row cs : List Cv} {col i : Nat} (h : col + cs.length ≤ row.length) : (putCells row col cs)[i]? = if col ≤ i ∧ i < col + cs.length then cs[i - col]? else row[i]? := by
  unfold putCells
  rw [List.append_assoc]
  by_cases h1 : i < col
  · rw [List.getElem?_append_left (by simp; omega), List.getElem?_take, if_pos h1, if_neg (by omega)]
  · rw [List.getElem?_append_right (by simp; omega)]
    have hl : (row.take col).length = col := by simp; omega
    rw [hl]
    by_cases h2 : i < col + cs.length
    · rw [List.getElem?_append_left (by omega), if_pos (by omega)]
    · rw [List.getElem?_append_right (by omega), List.getElem?_drop, if_neg (by omega)]
      congr 1; omega
theorem putCells_len {row cs : List Cv} {col : Nat} (h : col + cs.length ≤ row.length) : (putCells row col cs).length = row.length := by
  simp [putCells]; omega

theorem fill_rep {X : Nat → Prop} {L : List Entry} (place : Nat → Option (Nat × Nat)) : ∀ (ps : List (Nat × Value)) (ss : List (Nat × Nat × Sv)) (cs cs' : List Cv) (us : Array Value), CellsR w X A L cs us → ps.length = ss.length →
    (∀ (i : Nat) (p : Nat × Value) (s : Nat × Nat × Sv), ps[i]? = some p → ss[i]? = some s → place p.1 = some (s.1, s.2.1) ∧ SRep w X A L s.2.2 p.2) → fillC cs ss = some cs' →
    ∃ us', Instr.fill place us ps = some us' ∧ CellsR w X A L cs' us'
  | [], [], cs, cs', us, hr, _, _, h => by obtain rfl := Option.some.inj h; exact ⟨us, rfl, hr⟩
  | [], _ :: _, _, _, _, _, hl, _, _ => by simp at hl
  | _ :: _, [], _, _, _, _, hl, _, _ => by simp at hl
  | (i, v) :: ps, (off, n, s) :: ss, cs, cs', us, hr, hl, hp, h => by
    obtain ⟨hpl, hsr⟩ := hp 0 (i, v) (off, n, s) rfl rfl
    simp only [fillC] at h
    split at h
    · rename_i part hpart
      split at h
      · rename_i hc
        obtain ⟨vs, hv, hvl, hvr⟩ := cellsOfS_rep hpart hsr
        obtain ⟨hlen, hcell⟩ := hr
        have hsz : v.cells.size = n := by rw [hv]; simp; omega
        have hfit : off + 0 + vs.length ≤ us.size := by omega
        have hfold := fold_put off vs 0 us
        have hz : v.cells.zipIdx.foldl (fun cs (p : Value × Nat) => cs.setIfInBounds (off + p.2) p.1) us = (vs.zipIdx 0).foldl (fun cs p => cs.setIfInBounds (off + p.2) p.1) us := by
          rw [hv]; simp
        simp only [Instr.fill, hpl]
        rw [if_neg (by rw [hv]; simp; omega)]
        have : CellsR w X A L (putCells cs off part) (v.cells.zipIdx.foldl (fun cs (p : Value × Nat) => cs.setIfInBounds (off + p.2) p.1) us) := by
          rw [hz]
          refine ⟨by rw [putCells_len (by omega), (hfold 0 hfit).2, hlen], fun j c u hj hu => ?_⟩
          rw [(hfold j hfit).1] at hu
          rw [putCells_get (by omega)] at hj
          simp only [Nat.add_zero] at hu
          by_cases hjc : off ≤ j ∧ j < off + part.length
          · rw [if_pos hjc] at hj
            rw [if_pos (by omega)] at hu
            exact hvr _ _ _ hj hu
          · rw [if_neg hjc] at hj
            rw [if_neg (by omega)] at hu
            exact hcell _ _ _ hj hu
        exact fill_rep place ps ss _ cs' _ this (by simpa using hl) (fun k p s h1 h2 => hp (k + 1) p s (by simpa using h1) (by simpa using h2)) h
      · cases h
    · cases h

theorem cZero_val {t : TypeId} {z : List Cv} (h : cZero P t = some z) : ∃ (i : TypeInfo) (v : Value), P.info? t = some i ∧ i.zero = some v ∧ z = v.cells.toList.map Cv.val ∧ v.cells.toList.all (·.oneCell') = true := by
  unfold cZero at h
  cases hi : P.info? t with
  | none => simp [hi] at h
  | some i =>
    cases hz : i.zero with
    | none => simp [hi, hz] at h
    | some v =>
      simp only [hi, hz, Option.bind_some] at h
      split at h
      · rename_i hall
        exact ⟨i, v, rfl, hz, (Option.some.inj h).symm, hall⟩
      · cases h
theorem zero_rep {X : Nat → Prop} {L : List Entry} {v : Value} (h : v.cells.toList.all (·.oneCell') = true) : CellsR w X A L (v.cells.toList.map Cv.val) v.cells := by
  refine ⟨by simp, fun i c u h1 h2 => ?_⟩
  rw [List.getElem?_map] at h1
  have h3 : v.cells.toList[i]? = some u := by simpa using h2
  rw [h3] at h1
  obtain rfl := Option.some.inj h1
  refine .v _ _ (.val _ ?_)
  simp only [List.all_eq_true] at h
  exact h u (List.mem_of_getElem? h3)

theorem places_run {fs : Array Field} (w : World) (h : ∀ f ∈ fs.toList, ∃ n, cSize P f.type = some n) :
    (fs.mapM fun f => Prod.mk f.offset <$> sizeOf f.type).run P w = .ok (fs.map fun f => (f.offset, (cSize P f.type).getD 0)) w := by
  rw [Array.mapM_eq_mapM_toList]
  have : ∀ l : List Field, (∀ f ∈ l, ∃ n, cSize P f.type = some n) → (l.mapM fun f => Prod.mk f.offset <$> sizeOf f.type).run P w = .ok (l.map fun f => (f.offset, (cSize P f.type).getD 0)) w := by
    intro l
    induction l with
    | nil => intro _; rfl
    | cons f r ih =>
      intro h
      obtain ⟨n, hn⟩ := h f (by simp)
      simp only [List.mapM_cons, Sem.run_bind, Sem.run_map, run_size hn, Result.andThen_ok, ih (fun g hg => h g (by simp [hg])), Sem.run_pure, List.map_cons, hn, Option.getD_some]
  simp only [Sem.run_map, this _ h, Result.andThen_ok]
  congr 1
  apply Array.ext'
  simp

theorem cParts_get {place : Nat → Option (Nat × Nat)} : ∀ {l : List (Nat × Operand)} {ys : List (Nat × Nat × Opd)}, l.mapM (fun p => match place p.1, cOpd p.2 with | some (o, n), some y => some (o, n, y) | _, _ => none) = some ys →
    l.length = ys.length ∧ ∀ (i : Nat) (p : Nat × Operand) (q : Nat × Nat × Opd), l[i]? = some p → ys[i]? = some q → place p.1 = some (q.1, q.2.1) ∧ cOpd p.2 = some q.2.2
  | [], ys, h => by simp at h; subst h; simp
  | p :: r, ys, h => by
    simp only [List.mapM_cons, Option.bind_eq_bind, Option.pure_def] at h
    split at h
    · rename_i q n y h1 h2
      simp only [Option.bind_some] at h
      cases hr : r.mapM (fun p => match place p.1, cOpd p.2 with | some (o, n), some y => some (o, n, y) | _, _ => none) with
      | none => rw [hr] at h; cases h
      | some zs =>
        rw [hr] at h
        obtain rfl := Option.some.inj h
        obtain ⟨hl, hi⟩ := cParts_get hr
        refine ⟨by simpa using hl, fun i p' q' h3 h4 => ?_⟩
        cases i with
        | zero =>
          obtain rfl := Option.some.inj h3
          obtain rfl := Option.some.inj h4
          exact ⟨h1, h2⟩
        | succ i => exact hi i p' q' (by simpa using h3) (by simpa using h4)
    · cases h

theorem looks_build {t : TypeId} {d : TypeDesc} {parts : Array (Nat × Operand)} {z : List Cv} {place : Nat → Option (Nat × Nat)} {ys : List (Nat × Nat × Opd)} {s : Sv} (hO : OpR w F A st a) (ho : o.op = .build t parts) (hz : cZero P t = some z)
    (hd : (∃ fs, P.underlying t = some (.struct fs) ∧ (∀ f ∈ fs.toList, ∃ n, cSize P f.type = some n) ∧ place = fun i => (fs[i]?).bind fun f => (cSize P f.type).map fun n => (f.offset, n)) ∨ (∃ k e n, P.underlying t = some (.array k e) ∧ cSize P e = some n ∧ place = fun i => some (i * n, n)))
    (hp : cParts parts place = some ys) (he : evalOp G st (.build z ys) = some (s, st.L)) : Looks P o a w F A st.L s := by
  obtain ⟨iz, v, hi, hiz, rfl, hall⟩ := cZero_val hz
  obtain ⟨hl, hget⟩ := cParts_get hp
  simp only [evalOp] at he
  split at he
  · rename_i cs hf
    simp only [Option.some.injEq, Prod.mk.injEq, and_true] at he
    subst he
    obtain ⟨us, hfill, hlen, hcell⟩ := fill_rep (w := w) (X := fun b => Owned A b ∨ F b) (A := A) (L := st.L) place (parts.toList.map fun p => (p.1, a.eval p.2)) (ys.map fun p => (p.1, p.2.1, st.opd p.2.2)) _ cs _ (zero_rep hall) (by simpa using hl)
      (fun i p q h1 h2 => by
        simp only [List.getElem?_map, Option.map_eq_some_iff] at h1 h2
        obtain ⟨p', hp', rfl⟩ := h1
        obtain ⟨q', hq', rfl⟩ := h2
        obtain ⟨h3, h4⟩ := hget i p' q' hp' hq'
        exact ⟨h3, hO _ _ h4⟩) hf
    have hzv : ∀ w', (zeroValue t).run P w' = .ok v w' := fun w' => by simp [zeroValue, run_info hi, hiz]
    refine looks_of (Instr.build t (parts.map fun (i, x) => (i, a.eval x))) (by simp only [execOp, ho]) (v := .agg us) (fun w' _ => ?_) ?_
    · have hpl : (parts.map fun (i, x) => (i, a.eval x)).toList = parts.toList.map fun p => (p.1, a.eval p.2) := by simp
      rcases hd with ⟨fs, hu, hsz, rfl⟩ | ⟨k, e, n, hu, hn, rfl⟩
      · simp only [Instr.build, Sem.run_bind, hzv, Result.andThen_ok, run_und hu, bind_pure_comp, places_run w' hsz, hpl]
        have hfun : (fun i : Nat => (fs.map fun f => (f.offset, (cSize P f.type).getD 0))[i]?) = fun i => (fs[i]?).bind fun f => (cSize P f.type).map fun n => (f.offset, n) := by
          funext i
          rw [Array.getElem?_map]
          cases hfi : fs[i]? with
          | none => rfl
          | some f =>
            obtain ⟨n, hn⟩ := hsz f (by simpa using Array.mem_of_getElem? hfi)
            simp [hn]
        rw [hfun, hfill]
        rfl
      · simp only [Instr.build, Sem.run_bind, hzv, Result.andThen_ok, run_und hu, run_size hn, hpl, hfill]
        rfl
    · have : us = us.toList.toArray := by simp
      rw [this]
      exact .agg _ _ (by simpa using hlen) (fun i c u h1 h2 => hcell i c u h1 (by simpa using h2))
  · cases he
end
end Go.LH

namespace Go.LH
open Go
set_option linter.unusedSimpArgs false
set_option linter.unusedVariables false

section
variable {P : Program} {o : Oper} {a : Act} {w : World} {F : Nat → Prop} {A : Pls} {st : St} {G : GEnv}

theorem bound_rep {x : Option Operand} {y : Option Opd} {d : Nat} {l : Int} (hO : OpR w F A st a) (h : cOpt x = some y) (hb : boundC st d y = some l) : (x = none ∧ l = d) ∨ (∃ z k, x = some z ∧ a.eval z = .int k l) := by
  cases x with
  | none => obtain rfl := Option.some.inj h; obtain rfl := Option.some.inj hb; exact .inl ⟨rfl, rfl⟩
  | some z =>
    simp only [cOpt, Option.map_eq_some_iff] at h
    obtain ⟨u, hu, rfl⟩ := h
    have hz := hO z u hu
    simp only [boundC] at hb
    split at hb
    · rename_i k n hn
      obtain rfl := Option.some.inj hb
      rw [hn] at hz
      exact .inr ⟨z, k, rfl, hz.inv_val⟩
    · cases hb

theorem run_bounds {x z : Option Operand} {l h : Int} {b : Bool} {n cap : Nat} (hl : (x = none ∧ l = (0 : Nat)) ∨ (∃ u k, x = some u ∧ a.eval u = .int k l)) (hh : (z = none ∧ h = n) ∨ (∃ u k, z = some u ∧ a.eval u = .int k h))
    (h0 : 0 ≤ l) (h1 : l ≤ h) (h2 : h ≤ n) (h3 : n ≤ cap) (w : World) : (Instr.sliceBounds b n cap (x.map a.eval) (z.map a.eval) none).run P w = .ok (l.toNat, h.toNat, cap) w := by
  have hb : ∀ (i : Int) (y : Nat) (k : IntKind) (code : BoundsCode), 0 ≤ i → i ≤ y → (Instr.sliceBound (.int k i) y code).run P w = .ok i.toNat w := by
    intro i y k code h4 h5
    simp [Instr.sliceBound, asIntOf, h4, h5]
  unfold Instr.sliceBounds
  rcases hl with ⟨rfl, rfl⟩ | ⟨u, k, rfl, hu⟩ <;> rcases hh with ⟨rfl, rfl⟩ | ⟨v, k', rfl, hv⟩
  · simp
  · simp only [Option.map_none, Option.map_some, hv, Sem.run_bind, Sem.run_pure, Result.andThen_ok]
    rw [hb h cap k' _ (by omega) (by omega)]
    simp
  · simp only [Option.map_none, Option.map_some, hu, Sem.run_bind, Sem.run_pure, Result.andThen_ok]
    rw [hb l n k _ (by omega) (by omega)]
    simp
  · simp only [Option.map_none, Option.map_some, hu, hv, Sem.run_bind, Sem.run_pure, Result.andThen_ok]
    rw [hb h cap k' _ (by omega) (by omega)]
    simp only [Result.andThen_ok]
    rw [hb l h.toNat k _ (by omega) (by omega)]
    simp

theorem looks_sliceS {t : TypeId} {x : Operand} {lo hi : Option Operand} {y : Opd} {l' h' : Option Opd} {s : Sv} (hO : OpR w F A st a) (ho : o.op = .slice t x lo hi none) (ht : P.underlying t = some .string) (h1 : cOpd x = some y)
    (h2 : cOpt lo = some l') (h3 : cOpt hi = some h') (he : evalOp G st (.sliceS y l' h') = some (s, st.L)) : Looks P o a w F A st.L s := by
  have hx := hO x y h1
  simp only [evalOp] at he
  split at he
  · rename_i z hz
    rw [hz] at hx
    split at he
    · rename_i l h hl hh
      split at he
      · rename_i hc
        simp only [Option.some.injEq, Prod.mk.injEq, and_true] at he
        subst he
        refine looks_of (Instr.sliceAt t (a.eval x) (lo.map a.eval) (hi.map a.eval) none) (by simp only [execOp, ho]; rfl) (fun w' _ => ?_) (srep_val rfl)
        rw [hx.inv_val]
        simp only [Instr.sliceAt, Sem.run_bind, run_und ht, Result.andThen_ok, Instr.slice]
        simp only [Option.isSome_none, Bool.false_eq_true, if_false, Sem.run_bind, run_bounds (bound_rep hO h2 hl) (bound_rep hO h3 hh) hc.1 hc.2.1 hc.2.2 (Nat.le_refl _), Result.andThen_ok, Sem.run_pure]
      · cases he
    · cases he
  · cases he

theorem looks_sliceA {t e : TypeId} {n : Nat} {x : Operand} {lo hi : Option Operand} {y : Opd} {l' h' : Option Opd} {s : Sv} (hO : OpR w F A st a) (ho : o.op = .slice t x lo hi none) (ht : P.underlying t = some (.array n e)) (hs : cSize P e = some 1)
    (h1 : cOpd x = some y) (h2 : cOpt lo = some l') (h3 : cOpt hi = some h') (he : evalOp G st (.sliceA n y l' h') = some (s, st.L)) : Looks P o a w F A st.L s := by
  have hx := hO x y h1
  simp only [evalOp] at he
  split at he
  · rename_i id gen row col hz
    rw [hz] at hx
    split at he
    · rename_i l h hl hh
      split at he
      · rename_i hc
        obtain ⟨c1, c2, c3, c4⟩ := hc
        simp only [Option.some.injEq, Prod.mk.injEq, and_true] at he
        subst he
        unfold arrFits at c4
        split at c4
        · rename_i en hen
          simp only [Bool.and_eq_true, beq_iff_eq, Nat.blt_eq, Nat.ble_eq] at c4
          obtain ⟨⟨g1, g2⟩, g3⟩ := c4
          have hlv : live? st.L id gen = true := by simp [live?, hen, g1]
          obtain ⟨e', p, hen', hg, hA, hv⟩ := np_at hx.inv_c hlv
          obtain rfl : en = e' := by rw [hen] at hen'; exact Option.some.inj hen'
          refine looks_of (Instr.sliceAt t (a.eval x) (lo.map a.eval) (hi.map a.eval) none) (by simp only [execOp, ho]; rfl)
            (v := .slice (some (if n = l.toNat then ⟨p.b, p.o + row * en.wd + col, none⟩ else ⟨p.b, p.o + row * en.wd + col + l.toNat, none⟩)) (h.toNat - l.toNat) (n - l.toNat)) (fun w' _ => ?_) (.c _ _ (.ca _ _ _ _ _ _ rfl ⟨en, hen, by omega, fun _ => ⟨np_k hx.inv_c hlv hen, p, _, _, hA, rfl, by omega, ?_⟩⟩))
          · rw [hv]
            simp only [Instr.sliceAt, Sem.run_bind, run_und ht, Result.andThen_ok, Instr.sureAddr, Sem.run_pure, run_bounds (bound_rep hO h2 hl) (bound_rep hO h3 hh) c1 c2 c3 (Nat.le_refl _), run_size hs, addr_add, Nat.mul_one]
          · by_cases hn : n = l.toNat
            · exact .inl (by omega)
            · refine .inr ⟨?_, by omega, g2⟩
              rw [if_neg hn, ← Nat.add_assoc]
        · cases c4
      · cases he
    · cases he
  · cases he

theorem looks_slice {t e : TypeId} {wd : Nat} {x : Operand} {lo hi : Option Operand} {y : Opd} {l' h' : Option Opd} {s : Sv} (hO : OpR w F A st a) (hh0 : HeapOK w F A st.L) (ho : o.op = .slice t x lo hi none) (ht : P.underlying t = some (.slice e)) (hs : cSize P e = some wd)
    (h1 : cOpd x = some y) (h2 : cOpt lo = some l') (h3 : cOpt hi = some h') (he : evalOp G st (.slice wd y l' h') = some (s, st.L)) : Looks P o a w F A st.L s := by
  have hx := hO x y h1
  simp only [evalOp] at he
  split at he
  · rename_i p hp
    rw [hp] at hx
    split at he
    · rename_i n hn
      split at he
      · rename_i l h hl hh
        split at he
        · rename_i hc
          obtain ⟨c1, c2, c3⟩ := hc
          have run : ∀ (w' : World) (ad : Option Addr) (cap : Nat), a.eval x = .slice ad n cap → n ≤ cap →
              (Instr.sliceAt t (a.eval x) (lo.map a.eval) (hi.map a.eval) none).run P w' = .ok (.slice (if cap = l.toNat then ad else ad.map (·.add (l.toNat * wd))) (h.toNat - l.toNat) (cap - l.toNat)) w' := by
            intro w' ad cap hv hcap
            rw [hv]
            simp only [Instr.sliceAt, Sem.run_bind, run_und ht, Result.andThen_ok, Instr.slice, run_bounds (bound_rep hO h2 hl) (bound_rep hO h3 hh) c1 c2 c3 hcap, run_size hs, Sem.run_pure]
          have hxo : execOp a.eval o = (do pure (.value (← Instr.sliceAt t (a.eval x) (lo.map a.eval) (hi.map a.eval) none))) := by simp only [execOp, ho]; rfl
          have hx' := hx.inv_c
          generalize hev : a.eval x = vx at hx'
          split at he
          · rename_i wd' rows
            split at he
            · rename_i hwd
              subst hwd
              simp only [Option.some.injEq, Prod.mk.injEq, and_true] at he
              subst he
              obtain rfl : rows.length = n := by simpa [lenOf] using hn
              cases hx' with
              | v _ _ hr => cases hr with
                | sl0 _ ad cap =>
                  simp only [List.length_nil] at c3 run
                  refine looks_of _ hxo (fun w' _ => run w' ad cap hev (Nat.zero_le _)) (.c _ _ (.v _ _ ?_))
                  have e1 : h.toNat - l.toNat = 0 := by omega
                  rw [e1, List.take_nil, List.drop_nil]
                  exact .sl0 _ _ _
                | sl _ _ b q cap us hcap hb hX hwd' hcl hr =>
                  refine looks_of _ hxo (fun w' _ => run w' _ cap hev hcap) (.c _ _ (.v _ _ ?_))
                  have hlen : ((rows.take h.toNat).drop l.toNat).length = h.toNat - l.toNat := by simp; omega
                  by_cases hcl' : cap = l.toNat
                  · have hnil : (rows.take h.toNat).drop l.toNat = [] := List.eq_nil_of_length_eq_zero (by omega)
                    have e1 : h.toNat - l.toNat = 0 := by omega
                    rw [e1, hnil]
                    exact .sl0 _ _ _
                  · rw [if_neg hcl']
                    simp only [Option.map_some, addr_add]
                    rw [← hlen]
                    have hget : ∀ (r : Nat) (row : List Cv), ((rows.take h.toNat).drop l.toNat)[r]? = some row → rows[l.toNat + r]? = some row := by
                      intro r row hrr
                      rw [List.getElem?_drop, List.getElem?_take] at hrr
                      split at hrr
                      · exact hrr
                      · cases hrr
                    refine .sl _ _ b (q + l.toNat * wd') _ (fun r j => us (l.toNat + r) j) (by omega) hb hX (fun r row hr' => hwd' _ _ (hget r row hr')) (fun r row j c hr' hj => ?_) (fun r row j c hr' hj => hr _ _ _ _ (hget r row hr') hj)
                    have := hcl _ _ _ _ (hget r row hr') hj
                    rwa [Nat.add_mul, ← Nat.add_assoc] at this
            · cases he
          · rename_i id gen lo0 len0
            split at he
            · rename_i hlw
              obtain ⟨hlv, hw⟩ := liveW_iff hlw
              simp only [Option.some.injEq, Prod.mk.injEq, and_true] at he
              subst he
              obtain ⟨en, hen, hg, hbx, hfit, ad, cap, hv, hcap, hcase⟩ := rs_at hx' hlv
              obtain rfl : len0 = n := by simpa [lenOf, hlv] using hn
              subst hv
              refine looks_of _ hxo (fun w' _ => run w' ad cap hev hcap) (.c _ _ (.rs _ _ _ _ _ rfl ⟨en, hen, by omega, fun _ => ⟨hbx, by omega, _, _, rfl, by omega, ?_⟩⟩))
              rcases hcase with ⟨k1, k3⟩ | ⟨k1, k0, p, k2⟩ | ⟨p, k1, k0, k2, k3⟩
              · exact .inl ⟨k1, by omega⟩
              · exact .inr (.inl ⟨by omega, k0, p, k2⟩)
              · by_cases hcl' : cap = l.toNat
                · exact .inr (.inl ⟨by omega, k0, p, k1⟩)
                · refine .inr (.inr ⟨p, k1, k0, ?_, ?_⟩)
                  · rw [if_neg hcl', k2, Option.map_some, addr_add, hw en hen, Nat.add_mul, Nat.add_assoc]
                  · rw [show lo0 + l.toNat + (cap - l.toNat) = lo0 + cap by omega]; exact k3
            · cases he
          · rename_i id gen row col len0
            split at he
            · rename_i hw1
              subst hw1
              simp only [Option.some.injEq, Prod.mk.injEq, and_true] at he
              subst he
              have hlv : live? st.L id gen = true := by
                simp only [lenOf] at hn
                split at hn
                · assumption
                · cases hn
              obtain ⟨en, p, ad, cap, hen, hg, hA, hv, hcap, hr⟩ := ca_at hx' hlv
              obtain rfl : len0 = n := by simpa [lenOf, hlv] using hn
              subst hv
              refine looks_of _ hxo (fun w' _ => run w' (some ad) cap hev hcap) (.c _ _ (.ca _ _ _ _ _ _ rfl ⟨en, hen, by omega, fun _ => ?_⟩))
              by_cases hcl' : cap = l.toNat
              · rw [if_pos hcl']
                exact ⟨ca_k hx' hlv hen, p, ad, _, hA, rfl, by omega, .inl (by omega)⟩
              · rw [if_neg hcl', Option.map_some]
                refine ⟨ca_k hx' hlv hen, p, _, _, hA, rfl, by omega, ?_⟩
                rcases hr with hr | ⟨rfl, hr1, hr2⟩
                · exact .inl (by omega)
                · exact .inr ⟨by rw [addr_add, Nat.mul_one, Nat.add_assoc], by omega, hr2⟩
            · cases he
          · simp only [Option.some.injEq, Prod.mk.injEq, and_true] at he
            subst he
            obtain rfl : 0 = n := by simpa [lenOf] using hn
            have hv : vx = .slice none 0 0 := by cases hx' with | v _ _ h => cases h; rfl
            subst hv
            refine looks_of _ hxo (fun w' _ => run w' none 0 hev (Nat.le_refl _)) ?_
            have e1 : h.toNat - l.toNat = 0 := by omega
            rw [e1]
            simp only [Option.map_none, ite_self, Nat.zero_sub]
            exact srep_val rfl
          · cases he
        · cases he
      · cases he
    · cases he
  · cases he
end
end Go.LH

namespace Go.LH
open Go
set_option linter.unusedSimpArgs false
set_option linter.unusedVariables false

section
variable {P : Program} {o : Oper} {a : Act} {w : World} {F : Nat → Prop} {A : Pls} {st : St} {G : GEnv}

theorem cellsEq_len : ∀ {ks : List CK} {a c : List Cv} {t : Bool}, cellsEq ks a c = some t → a.length = ks.length ∧ c.length = ks.length
  | [], [], [], _, _ => ⟨rfl, rfl⟩
  | k :: ks, x :: a, y :: c, t, h => by
    simp only [cellsEq] at h
    split at h
    · rename_i u v hu hv
      have := cellsEq_len hv
      simp [this.1, this.2]
    · cases h
  | [], [], _ :: _, _, h => by cases h
  | [], _ :: _, _, _, h => by cases h
  | _ :: _, [], _, _, h => by cases h
  | _ :: _, _ :: _, [], _, h => by cases h

theorem cellsEq_app : ∀ {ks ls : List CK} {a c : List Cv} {t : Bool}, cellsEq (ks ++ ls) a c = some t →
    ∃ t1 t2, cellsEq ks (a.take ks.length) (c.take ks.length) = some t1 ∧ cellsEq ls (a.drop ks.length) (c.drop ks.length) = some t2 ∧ t = (t1 && t2)
  | [], ls, a, c, t, h => ⟨true, t, rfl, h, by simp⟩
  | k :: ks, ls, [], c, t, h => by cases h
  | k :: ks, ls, _ :: _, [], t, h => by cases h
  | k :: ks, ls, x :: a, y :: c, t, h => by
    simp only [List.cons_append, cellsEq, List.length_cons, List.take_succ_cons, List.drop_succ_cons] at h ⊢
    split at h
    · rename_i u v hu hv
      obtain ⟨t1, t2, h1, h2, rfl⟩ := cellsEq_app hv
      obtain rfl := Option.some.inj h
      exact ⟨u && t1, t2, by simp [hu, h1], h2, by simp [Bool.and_assoc]⟩
    · cases h

theorem cellEq_val {L : List Entry} {X : Nat → Prop} {k : CK} {p q : Cv} {t : Bool} (h : cellEq k p q = some t) {u v : Value} (hu : Rep w X A L p u) (hv : Rep w X A L q v) :
    (k = .int ∧ ∃ k m n, u = .int k m ∧ v = .int k n ∧ t = (m == n)) ∨ (k = .bool ∧ ∃ m n, u = .bool m ∧ v = .bool n ∧ t = (m == n)) ∨ (k = .str ∧ ∃ m n, u = .string m ∧ v = .string n ∧ t = (m == n)) := by
  have vl : ∀ {c : Cv} {z y : Value}, Rep w X A L c z → c = .val y → z = y := by
    intro c z y hz e
    subst e
    cases hz with | v _ _ h => cases h; rfl
  unfold cellEq at h
  split at h <;> first | (cases h; done) | skip
  · split at h
    · rename_i hk
      subst hk
      exact .inl ⟨rfl, _, _, _, vl hu rfl, vl hv rfl, (Option.some.inj h).symm⟩
    · cases h
  · exact .inr (.inl ⟨rfl, _, _, vl hu rfl, vl hv rfl, (Option.some.inj h).symm⟩)
  · exact .inr (.inr ⟨rfl, _, _, vl hu rfl, vl hv rfl, (Option.some.inj h).symm⟩)

def vOf (g : Bool) (xs : Array Value) : Value := if g then .agg xs else xs.getD 0 undef

theorem cellsR_sub {X : Nat → Prop} {L : List Entry} {cs : List Cv} {xs : Array Value} (h : CellsR w X A L cs xs) (off n : Nat) (hle : off + n ≤ cs.length) : CellsR w X A L ((cs.drop off).take n) (xs.extract off (off + n)) := by
  obtain ⟨h1, h2⟩ := h
  refine ⟨by simp; omega, fun i c u hc hu => ?_⟩
  rw [List.getElem?_take] at hc
  split at hc
  · rename_i hi
    rw [List.getElem?_drop] at hc
    rw [Array.getElem?_extract] at hu
    split at hu
    · exact h2 _ _ _ hc hu
    · cases hu
  · cases hc

/-- A value of a flat type held against another: one by one. -/
theorem flat_eq {X : Nat → Prop} {L : List Entry} : ∀ (d : Nat) (t : TypeId) (ks : List CK) (g : Bool), flat P d t = some ks → cAgg P t = some g → ∀ (D : Nat), d ≤ D → ∀ (cs ds : List Cv) (b : Bool), cellsEq ks cs ds = some b →
    ∀ (w' : World) (xs ys : Array Value), CellsR w X A L cs xs → CellsR w X A L ds ys → (Op.equalIn D t (vOf g xs) (vOf g ys)).run P w' = .ok b w' := by
  intro d
  induction d with
  | zero => intro t ks g h; cases h
  | succ d ih =>
    intro t ks g h hg D hD cs ds b hb w' xs ys hx hy
    obtain ⟨D, rfl⟩ : ∃ D', D = D' + 1 := ⟨D - 1, by omega⟩
    have prim : ∀ k : CK, ks = [k] → g = false → ∃ c e u v, cellEq k c e = some b ∧ Rep w X A L c u ∧ Rep w X A L e v ∧ vOf g xs = u ∧ vOf g ys = v := by
      intro k hk hgf
      subst hk; subst hgf
      match cs, ds, hb with
      | [c], [e], hb =>
        obtain ⟨l1, c1⟩ := hx
        obtain ⟨l2, c2⟩ := hy
        have e1 : xs[0]? = some (xs.getD 0 undef) := by simp at l1; simp [Array.getD, ← l1]
        have e2 : ys[0]? = some (ys.getD 0 undef) := by simp at l2; simp [Array.getD, ← l2]
        simp only [cellsEq] at hb
        split at hb
        · rename_i u v hu hv
          obtain rfl := Option.some.inj hv
          obtain rfl := Option.some.inj hb
          exact ⟨c, e, _, _, by simpa using hu, c1 0 c _ rfl e1, c2 0 e _ rfl e2, rfl, rfl⟩
        · cases hb
      | [], _, hb => cases hb
      | _ :: _ :: _, [], hb => cases hb
      | _ :: _ :: _, _ :: _, hb => simp only [cellsEq] at hb; split at hb <;> simp_all [cellsEq]
      | [_], [], hb => cases hb
      | [_], _ :: _ :: _, hb => simp only [cellsEq] at hb; split at hb <;> simp_all [cellsEq]
    simp only [flat] at h
    split at h
    · rename_i k0 hu
      obtain ⟨c, e, u, v, h1, h2, h3, h4, h5⟩ := prim .int (Option.some.inj h).symm (by simp [cAgg, hu] at hg; exact hg)
      rw [h4, h5]
      rcases cellEq_val h1 h2 h3 with ⟨_, k, m, n, rfl, rfl, rfl⟩ | ⟨hk, _⟩ | ⟨hk, _⟩
      · exact run_equalIn_int w' D t k _ m n hu
      · cases hk
      · cases hk
    · rename_i hu
      obtain ⟨c, e, u, v, h1, h2, h3, h4, h5⟩ := prim .bool (Option.some.inj h).symm (by simp [cAgg, hu] at hg; exact hg)
      rw [h4, h5]
      rcases cellEq_val h1 h2 h3 with ⟨hk, _⟩ | ⟨_, m, n, rfl, rfl, rfl⟩ | ⟨hk, _⟩
      · cases hk
      · exact run_equalIn_bool' w' D t m n hu
      · cases hk
    · rename_i hu
      obtain ⟨c, e, u, v, h1, h2, h3, h4, h5⟩ := prim .str (Option.some.inj h).symm (by simp [cAgg, hu] at hg; exact hg)
      rw [h4, h5]
      rcases cellEq_val h1 h2 h3 with ⟨hk, _⟩ | ⟨hk, _⟩ | ⟨_, m, n, rfl, rfl, rfl⟩
      · cases hk
      · cases hk
      · rw [run_equalIn_string w' D t m n hu, beq_toListBytes]
    · rename_i fs hu
      split at h
      · cases h
      · rename_i hst
        obtain rfl : g = true := by simp [cAgg, hu] at hg; exact hg
        have hfo : P.fieldsOf t = fs := by simp [Program.fieldsOf, hu]
        simp only [vOf, if_true]
        rw [run_equalIn_struct w' D t xs ys (by rw [hfo]; exact hu) (by simpa using hst), hfo]
        have key : ∀ (l : List Field) (off : Nat) (kl : List CK) (b : Bool), off ≤ cs.length → off ≤ ds.length → flatF P (flat P d) off l = some kl → cellsEq kl (cs.drop off) (ds.drop off) = some b → (Op.eqFields D xs ys l).run P w' = .ok b w' := by
          intro l
          induction l with
          | nil =>
            intro off kl b _ _ h1 h2
            obtain rfl := Option.some.inj h1
            obtain ⟨l1, l2⟩ := cellsEq_len h2
            rw [List.eq_nil_of_length_eq_zero l1, List.eq_nil_of_length_eq_zero l2] at h2
            obtain rfl := Option.some.inj h2
            rfl
          | cons f r ihr =>
            intro off kl b ho1 ho2 h1 h2
            simp only [flatF] at h1
            split at h1
            · rename_i hc
              simp only [Bool.and_eq_true, bne_iff_ne, ne_eq, beq_iff_eq] at hc
              obtain ⟨hname, hoff⟩ := hc
              split at h1
              · rename_i m hm
                split at h1
                · rename_i hsz
                  obtain ⟨hsz, hag⟩ := hsz
                  split at h1
                  · rename_i kr hkr
                    obtain rfl := Option.some.inj h1
                    obtain ⟨t1, t2, e1, e2, rfl⟩ := cellsEq_app h2
                    have hle1 : off + m.length ≤ cs.length := by have := (cellsEq_len h2).1; simp at this; omega
                    have hle2 : off + m.length ≤ ds.length := by have := (cellsEq_len h2).2; simp at this; omega
                    obtain ⟨g', hg'⟩ : ∃ g', cAgg P f.type = some g' := by
                      unfold cAgg
                      cases hd : P.underlying f.type with
                      | none => cases d <;> simp [flat, hd] at hm
                      | some dd => cases dd <;> exact ⟨_, rfl⟩
                    have hm1 : (if g' then m.length else 1) = m.length := by
                      rcases hag with hag | hag
                      · rw [hg'] at hag; obtain rfl := Option.some.inj hag; rfl
                      · cases g' <;> simp [hag]
                    have hpart : ∀ (zs : Array Value), off + m.length ≤ zs.size → (part f.type zs off).run P w' = .ok (vOf g' (zs.extract off (off + m.length))) w' := by
                      intro zs hz
                      rw [run_part hg' hsz zs (by rw [hm1]; exact hz)]
                      cases g' with
                      | true => rfl
                      | false =>
                        simp only [Bool.false_eq_true, if_false] at hm1 ⊢
                        have : off < zs.size := by omega
                        simp [vOf, Array.getD, this, ← hm1]
                        intro hbad; omega
                    have heq := ih f.type m g' hm hg' D (by omega) _ _ t1 e1 w' _ _ (cellsR_sub hx off m.length hle1) (cellsR_sub hy off m.length hle2)
                    have hrest := ihr (off + m.length) kr t2 hle1 hle2 hkr (by rw [← List.drop_drop, ← List.drop_drop]; exact e2)
                    simp only [Op.eqFields]
                    rw [if_pos hname, hoff]
                    simp only [Sem.run_bind]
                    rw [hpart xs (by rw [← hx.1]; exact hle1)]
                    simp only [Result.andThen_ok]
                    rw [hpart ys (by rw [← hy.1]; exact hle2)]
                    simp only [Result.andThen_ok]
                    rw [heq]
                    simp only [Result.andThen_ok]
                    cases t1
                    · simp
                    · simpa using hrest
                  · cases h1
                · cases h1
              · cases h1
            · cases h1
        exact key fs.toList 0 ks b (Nat.zero_le _) (Nat.zero_le _) h (by simpa using hb)
    · cases h

theorem looks_eqC {op : BinOp} {t t' : TypeId} {fs : Array Field} {ks : List CK} {x y : Operand} {x' y' : Opd} {s : Sv} (hO : OpR w F A st a) (ho : o.op = .binOp op t x y t') (hop : op = .eql ∨ op = .neq) (ht : P.underlying t = some (.struct fs))
    (hf : flat P 100 t = some ks) (hgd : P.eqGuardType P.depth t = false) (h1 : cOpd x = some x') (h2 : cOpd y = some y') (he : evalOp G st (.eq (op == .neq) (.cells ks) x' y') = some (s, st.L)) : Looks P o a w F A st.L s := by
  have hx := hO x x' h1
  have hy := hO y y' h2
  have hg : cAgg P t = some true := by simp [cAgg, ht]
  simp only [evalOp] at he
  split at he
  · rename_i c d hk hu hv
    cases hk
  · rename_i k cs ds hk hu hv
    cases hk
    rw [hu] at hx
    rw [hv] at hy
    split at he
    · rename_i b hb
      simp only [Option.some.injEq, Prod.mk.injEq, and_true] at he
      subst he
      obtain ⟨us, n1, e1, c1⟩ := hx.inv_agg
      obtain ⟨vs, n2, e2, c2⟩ := hy.inv_agg
      have hrun := fun w' => flat_eq (P := P) 100 t ks true hf hg 10000 (by omega) cs ds b hb w' us.toArray vs.toArray ⟨by simpa using n1, fun i c u h3 h4 => c1 i c u h3 (by simpa using h4)⟩ ⟨by simpa using n2, fun i c u h3 h4 => c2 i c u h3 (by simpa using h4)⟩
      simp only [vOf, if_true] at hrun
      refine looks_of (do eqGuard op t x y (a.eval x) (a.eval y); binOp op t (a.eval x) (a.eval y)) (by simp only [execOp, ho]) (fun w' _ => ?_) (srep_val rfl)
      rw [e1, e2]
      simp only [Sem.run_bind, run_eqGuard_agg w' op t x y _ _ hgd, Result.andThen_ok]
      rcases hop with rfl | rfl
      · rw [run_eql_struct, hrun]; simp
      · rw [run_neq_struct, hrun]; simp
    · cases he
  · cases he

theorem maxC_run {mx : Bool} {X : Nat → Prop} {L : List Entry} : ∀ (l : List Sv) (us : List Value) (x r : Cv) (u : Value), maxC mx x l = some r → Rep w X A L x u → l.length = us.length → (∀ (i : Nat) (s : Sv) (v : Value), l[i]? = some s → us[i]? = some v → SRep w X A L s v) →
    ∃ v, Rep w X A L r v ∧ ∀ w' : World, (us.foldlM (if mx then Builtin.max2 else Builtin.min2) u).run P w' = .ok v w'
  | [], us, x, r, u, h, hu, hl, _ => by
    obtain rfl := List.eq_nil_of_length_eq_zero (by simpa using hl.symm : us.length = 0)
    cases x <;> (simp only [maxC] at h; obtain rfl := Option.some.inj h; exact ⟨u, hu, fun w' => rfl⟩)
  | s :: l, [], x, r, u, h, hu, hl, _ => by simp at hl
  | s :: l, v :: us, x, r, u, h, hu, hl, hr => by
    have hs := hr 0 s v rfl rfl
    unfold maxC at h
    split at h
    · rename_i heq; cases heq
    · rename_i k m k' n r' heq
      cases heq
      split at h
      · rename_i hk
        subst hk
        have e1 : u = .int k m := by cases hu with | v _ _ h => cases h; rfl
        have e2 : v = .int k n := hs.inv_val
        subst e1; subst e2
        obtain ⟨z, hz, hrun⟩ := maxC_run l us _ r (.int k (if mx then (if n > m then n else m) else (if n < m then n else m))) h (.v _ _ (.val _ rfl)) (by simpa using hl) (fun i s v h1 h2 => hr (i + 1) s v (by simpa using h1) (by simpa using h2))
        refine ⟨z, hz, fun w' => ?_⟩
        simp only [List.foldlM_cons, Sem.run_bind]
        have : ((if mx then Builtin.max2 else Builtin.min2) (Value.int k m) (Value.int k n)).run P w' = .ok (.int k (if mx then (if n > m then n else m) else (if n < m then n else m))) w' := by
          cases mx <;> simp [Builtin.max2, Builtin.min2]
        rw [this]
        simp only [Result.andThen_ok]
        exact hrun w'
      · cases h
    · cases h
end
end Go.LH

namespace Go.LH
open Go
set_option linter.unusedSimpArgs false
set_option linter.unusedVariables false

section
variable {P : Program} {o : Oper} {a : Act} {w : World} {F : Nat → Prop} {A : Pls} {st : St} {G : GEnv}

/-- The rows of a slice, in memory. -/
structure RowsAt (w : World) (X : Nat → Prop) (wd : Nat) (rows : List (List Cv)) (b o : Nat) : Prop where
  blk : b < w.heap.size
  wid : ∀ (r : Nat) (row : List Cv), rows[r]? = some row → row.length = wd
  cell : ∀ (r : Nat) (row : List Cv) (j : Nat) (c : Cv), rows[r]? = some row → row[j]? = some c → ∃ u, w.cell? ⟨b, o + r * wd + j, none⟩ = some u ∧ RepV w X c u

theorem isV_rep {X : Nat → Prop} {L : List Entry} {c : Cv} {v : Value} (h : isV c = true) (hr : Rep w X A L c v) : RepV w X c v := by
  induction hr with
  | v c u h' => exact h'
  | np id gen row col v h1 h' => cases h
  | rs id gen lo len v h1 h' => cases h
  | ca id gen row col len v h1 h' => cases h
  | mp id gen v h1 h' => cases h
  | it id gen mid mg v h1 h' => cases h
  | ifc t x u h' ih => exact .ifc t x u (ih h)
  | fn f caps us hn h' ih =>
    refine .fn f caps us hn fun i c u h1 h2 => ih i c u h1 h2 ?_
    have : ∀ (l : List Cv) (i : Nat) (c : Cv), isVL l = true → l[i]? = some c → isV c = true := by
      intro l
      induction l with
      | nil => intro i c _ h; simp at h
      | cons x r ihl =>
        intro i c hl hi
        simp only [isVL, Bool.and_eq_true] at hl
        cases i with
        | zero => obtain rfl := Option.some.inj hi; exact hl.1
        | succ i => exact ihl i c hl.2 (by simpa using hi)
    exact this caps i c h h1
theorem isVL_get : ∀ {l : List Cv} {i : Nat} {c : Cv}, isVL l = true → l[i]? = some c → isV c = true := by
  intro l
  induction l with
  | nil => intro i c _ h; simp at h
  | cons x r ihl =>
    intro i c hl hi
    simp only [isVL, Bool.and_eq_true] at hl
    cases i with
    | zero => obtain rfl := Option.some.inj hi; exact hl.1
    | succ i => exact ihl hl.2 (by simpa using hi)

theorem rowsOf_rep {L : List Entry} {wd : Nat} (hh : HeapOK w F A L) {p : Cv} {rows : List (List Cv)} (h : rowsOf wd L p = some rows) {v : Value} (hr : Rep w (fun b => Owned A b ∨ F b) A L p v) :
    ∃ ad cap, v = .slice ad rows.length cap ∧ rows.length ≤ cap ∧ (rows = [] ∨ ∃ b q, ad = some ⟨b, q, none⟩ ∧ RowsAt w (fun b => Owned A b ∨ F b) wd rows b q) := by
  cases hr with
  | np id gen row col v h1 h' => simp [rowsOf] at h
  | ifc t x u h' => simp [rowsOf] at h
  | fn f caps us hn h' => simp [rowsOf] at h
  | mp id gen v h1 h' => simp [rowsOf] at h
  | it id gen mid mg v h1 h' => simp [rowsOf] at h
  | rs id gen lo len v h1 h' =>
    simp only [rowsOf] at h
    split at h
    · rename_i e he
      split at h
      · rename_i hc
        obtain ⟨hbx, hg, hw, hle⟩ := hc
        obtain rfl := Option.some.inj h
        have hlv : live? L id gen = true := by simp [live?, he, hg]
        obtain ⟨e', he', hg', _, hfit, ad, cap, hv, hcap, hcase⟩ := rs_at (w := w) (X := fun b => Owned A b ∨ F b) (.rs id gen lo len v h1 h') hlv
        obtain rfl : e = e' := by rw [he] at he'; exact Option.some.inj he'
        have hlen : ((e.rows.drop lo).take len).length = len := by simp; omega
        refine ⟨ad, cap, by rw [hlen]; exact hv, by rw [hlen]; exact hcap, ?_⟩
        rcases hcase with ⟨k1, k3⟩ | ⟨k1, _, p, k2⟩ | ⟨p, k1, k0, k2, k3⟩
        · exact .inl (List.eq_nil_of_length_eq_zero (by omega))
        · exact .inl (List.eq_nil_of_length_eq_zero (by omega))
        · obtain ⟨hw0, arr, el, fz, hb, hn, hf, hfit', hrows⟩ := (hh.ent id e (some p) he k1).cells (.inr k0)
          refine .inr ⟨p.b, p.o + lo * e.wd, k2, (Array.getElem?_eq_some_iff.1 hb).1, fun r row hrr => ?_, fun r row j c hrr hj => ?_⟩
          · rw [List.getElem?_take] at hrr
            split at hrr
            · rw [List.getElem?_drop] at hrr
              rw [← hw]; exact (hrows _ _ hrr).1
            · cases hrr
          · rw [List.getElem?_take] at hrr
            split at hrr
            · rw [List.getElem?_drop] at hrr
              obtain ⟨_, hcell⟩ := hrows _ _ hrr
              obtain ⟨u, hu, hur⟩ := hcell j c hj
              refine ⟨u, ?_, by simpa [hbx] using hur⟩
              simp only [World.cell?, hb]
              rw [← hw, show p.o + lo * e.wd + r * e.wd + j = p.o + (lo + r) * e.wd + j by rw [Nat.add_mul]; omega]
              simpa using hu
            · cases hrr
      · cases h
    · cases h
  | ca id gen row col len v h1 h' =>
    simp only [rowsOf] at h
    split at h
    · rename_i e he
      split at h
      · rename_i hc
        obtain ⟨hg, rfl⟩ := hc
        split at h
        · rename_i r hrow
          split at h
          · rename_i hc2
            obtain ⟨hle, hvl⟩ := hc2
            obtain rfl := Option.some.inj h
            have hlv : live? L id gen = true := by simp [live?, he, hg]
            obtain ⟨e', p, ad, cap, he', hg', hA, hv, hcap, hcase⟩ := ca_at (w := w) (X := fun b => Owned A b ∨ F b) (.ca id gen row col len v h1 h') hlv
            obtain rfl : e = e' := by rw [he] at he'; exact Option.some.inj he'
            have hlen : (((r.drop col).take len).map fun c => [c]).length = len := by simp; omega
            refine ⟨some ad, cap, by rw [hlen]; exact hv, by rw [hlen]; exact hcap, ?_⟩
            rcases hcase with hcase | ⟨rfl, hr1, hr2⟩
            · exact .inl (List.eq_nil_of_length_eq_zero (by omega))
            · obtain ⟨hw0, arr, el, fz, hb, hn, hf, hfit', hrows⟩ := (hh.ent id e (some p) he hA).cells (ca_k (w := w) (X := fun b => Owned A b ∨ F b) (.ca id gen row col len v h1 h') hlv he)
              refine .inr ⟨p.b, p.o + row * e.wd + col, rfl, (Array.getElem?_eq_some_iff.1 hb).1, fun i row' hrr => ?_, fun i row' j c hrr hj => ?_⟩
              · rw [List.getElem?_map] at hrr
                cases hx : ((r.drop col).take len)[i]? with
                | none => simp [hx] at hrr
                | some y => simp only [hx, Option.map_some, Option.some.injEq] at hrr; subst hrr; rfl
              · rw [List.getElem?_map] at hrr
                cases hx : ((r.drop col).take len)[i]? with
                | none => simp [hx] at hrr
                | some y =>
                  simp only [hx, Option.map_some, Option.some.injEq] at hrr
                  subst hrr
                  cases j with
                  | succ j => simp at hj
                  | zero =>
                    obtain rfl := Option.some.inj hj
                    have hvy := isVL_get hvl hx
                    rw [List.getElem?_take] at hx
                    split at hx
                    · rw [List.getElem?_drop] at hx
                      obtain ⟨_, hcell⟩ := hrows _ _ hrow
                      obtain ⟨u, hu, hur⟩ := hcell _ _ hx
                      refine ⟨u, ?_, ?_⟩
                      · simp only [World.cell?, hb]
                        rw [Nat.mul_one, Nat.add_zero, Nat.add_assoc (p.o + row * e.wd)]
                        simpa using hu
                      · split at hur
                        · exact isV_rep hvy hur
                        · exact hur
                    · cases hx
          · cases h
        · cases h
      · cases h
    · cases h
  | v c u h' => cases h' with
    | rp cells b q us hb hX hc hr => simp [rowsOf] at h
    | ifc t x u h' => simp [rowsOf] at h
    | fn f caps us hn h' => simp [rowsOf] at h
    | sl0 wd' ad cap =>
      simp only [rowsOf] at h
      split at h
      · obtain rfl := Option.some.inj h
        exact ⟨ad, cap, rfl, Nat.zero_le _, .inl rfl⟩
      · cases h
    | sl wd' rows' b q cap us hcap hb hX hwd hc hr =>
      simp only [rowsOf] at h
      split at h
      · rename_i hw
        subst hw
        obtain rfl := Option.some.inj h
        exact ⟨_, cap, rfl, hcap, .inr ⟨b, q, rfl, hb, hwd, fun r row j c h1 h2 => ⟨us r j, hc r row j c h1 h2, hr r row j c h1 h2⟩⟩⟩
      · cases h
    | val v h1 =>
      unfold rowsOf at h
      split at h <;> first | (rename_i heq; cases heq; done) | skip
      · rename_i heq; cases heq; obtain rfl := Option.some.inj h; exact ⟨none, 0, rfl, Nat.le_refl _, .inl rfl⟩
      · cases h

theorem cConst_rep {X : Nat → Prop} {L : List Entry} {v : Value} {s : Sv} (h : cConst v = some s) : SRep w X A L s v := by
  cases v with
  | agg cs =>
    simp only [cConst] at h
    split at h
    · rename_i hall
      obtain rfl := Option.some.inj h
      obtain ⟨l⟩ := cs
      refine .agg _ _ (by simp) fun i c u h1 h2 => ?_
      rw [List.getElem?_map, h2] at h1
      obtain rfl := Option.some.inj h1
      exact .v _ _ (.val _ (by
        have := List.mem_of_getElem? h2
        simp only [List.all_eq_true] at hall
        exact hall u this))
    · cases h
  | tuple vs => cases h
  | _ => obtain rfl := Option.some.inj h; exact .c _ _ (.v _ _ (.val _ rfl))

theorem tup2_rep {X : Nat → Prop} {L : List Entry} {s : Sv} {v : Value} (h : SRep w X A L s v) (b : Bool) : SRep w X A L (.tup [s, .c (.val (.bool b))]) (.tuple #[v, .bool b]) := by
  refine .tup _ [v, .bool b] rfl fun i c u h1 h2 => ?_
  match i with
  | 0 => obtain rfl := Option.some.inj h1; obtain rfl := Option.some.inj h2; exact h
  | 1 => obtain rfl := Option.some.inj h1; obtain rfl := Option.some.inj h2; exact srep_val rfl
  | i + 2 => simp at h1

theorem looks_tas {x : Operand} {xt t : TypeId} {ok : Bool} {d : TypeDesc} {y : Opd} {z s : Sv} (hO : OpR w F A st a) (ho : o.op = .typeAssert x xt t ok) (ht : P.underlying t = some d) (hd : ∀ ms, d ≠ .interface ms) (h1 : cOpd x = some y)
    (hz : ((P.info? t).bind (·.zero)).bind cConst = some z) (he : evalOp G st (.tas t ok z y) = some (s, st.L)) : Looks P o a w F A st.L s := by
  have hx := hO x y h1
  obtain ⟨iz, zv, hi, hiz, hzc⟩ : ∃ (i : TypeInfo) (v : Value), P.info? t = some i ∧ i.zero = some v ∧ cConst v = some z := by
    cases hi : P.info? t with
    | none => simp [hi] at hz
    | some i =>
      cases hv : i.zero with
      | none => simp [hi, hv] at hz
      | some v => exact ⟨i, v, rfl, hv, by simpa [hi, hv] using hz⟩
  have hzr : SRep w (fun b => Owned A b ∨ F b) A st.L z zv := cConst_rep hzc
  have hzv : ∀ w', (zeroValue t).run P w' = .ok zv w' := fun w' => by simp [zeroValue, run_info hi, hiz]
  have hxo : execOp a.eval o = (do pure (.value (← Instr.typeAssert (a.eval x) xt t ok))) := by simp only [execOp, ho]
  have runN : ok = true → a.eval x = .nilIface → ∀ w', (Instr.typeAssert (a.eval x) xt t ok).run P w' = .ok (.tuple #[zv, .bool false]) w' := by
    intro hok hv w'
    rw [hv, hok]
    simp only [Instr.typeAssert, Sem.run_bind, run_und ht, Result.andThen_ok]
    cases d <;> first | (simp [hzv]; done) | exact absurd rfl (hd _)
  have runH : ∀ v, a.eval x = .iface t v → ∀ w', (Instr.typeAssert (a.eval x) xt t ok).run P w' = .ok (if ok then .tuple #[v, .bool true] else v) w' := by
    intro v hv w'
    rw [hv]
    simp only [Instr.typeAssert, Sem.run_bind, run_und ht, Result.andThen_ok]
    cases d <;> first | (simp; done) | exact absurd rfl (hd _)
  have runF : ok = true → ∀ t' v, t' ≠ t → a.eval x = .iface t' v → ∀ w', (Instr.typeAssert (a.eval x) xt t ok).run P w' = .ok (.tuple #[zv, .bool false]) w' := by
    intro hok t' v hne hv w'
    rw [hv, hok]
    simp only [Instr.typeAssert, Sem.run_bind, run_und ht, Result.andThen_ok]
    cases d <;> first | (simp [hzv, hne]; done) | exact absurd rfl (hd _)
  simp only [evalOp] at he
  split at he
  · rename_i hp
    rw [hp] at hx
    split at he
    · rename_i hok
      simp only [Option.some.injEq, Prod.mk.injEq, and_true] at he
      subst he
      exact looks_of _ hxo (fun w' _ => runN hok hx.inv_val w') (tup2_rep hzr false)
    · cases he
  · rename_i t' c hp
    rw [hp] at hx
    obtain ⟨u, hu, hur⟩ : ∃ u, a.eval x = .iface t' u ∧ Rep w (fun b => Owned A b ∨ F b) A st.L c u := by
      have h := hx.inv_c
      generalize a.eval x = vx at h
      cases h with
      | v _ _ h => cases h with | ifc _ _ u h => exact ⟨u, rfl, .v _ _ h⟩
      | ifc _ _ u h => exact ⟨u, rfl, h⟩
    split at he
    · rename_i hte
      subst hte
      simp only [Option.some.injEq, Prod.mk.injEq, and_true] at he
      subst he
      refine looks_of _ hxo (fun w' _ => runH u hu w') ?_
      cases ok
      · exact .c _ _ hur
      · exact tup2_rep (.c _ _ hur) true
    · rename_i hne
      split at he
      · rename_i hok
        simp only [Option.some.injEq, Prod.mk.injEq, and_true] at he
        subst he
        exact looks_of _ hxo (fun w' _ => runF hok t' u hne hu w') (tup2_rep hzr false)
      · cases he
  · rename_i t' v hp
    rw [hp] at hx
    have hu := hx.inv_val
    split at he
    · rename_i hte
      subst hte
      split at he
      · rename_i hone
        simp only [Option.some.injEq, Prod.mk.injEq, and_true] at he
        subst he
        refine looks_of _ hxo (fun w' _ => runH v hu w') ?_
        cases ok
        · exact srep_val hone
        · exact tup2_rep (srep_val hone) true
      · cases he
    · rename_i hne
      split at he
      · rename_i hok
        simp only [Option.some.injEq, Prod.mk.injEq, and_true] at he
        subst he
        exact looks_of _ hxo (fun w' _ => runF hok t' v hne hu w') (tup2_rep hzr false)
      · cases he
  · cases he

theorem looks_maxmin {c : Call} {mx : Bool} {ys : List Opd} {s : Sv} (hO : OpR w F A st a) (ho : o.op = .call c) (hb : c.callee = .builtin (if mx then .max else .min)) (hm : c.args.toList.mapM cOpd = some ys)
    (he : evalOp G st (.maxmin mx ys) = some (s, st.L)) : Looks P o a w F A st.L s := by
  obtain ⟨hl, hi⟩ := opds_rep hO hm
  simp only [evalOp] at he
  split at he
  · rename_i x r hys
    split at he
    · rename_i v hv
      simp only [Option.some.injEq, Prod.mk.injEq, and_true] at he
      subst he
      rw [hys] at hl hi
      cases hargs : c.args.toList.map a.eval with
      | nil => rw [hargs] at hl; simp at hl
      | cons u us =>
        rw [hargs] at hl hi
        obtain ⟨z, hz, hrun⟩ := maxC_run (P := P) r us x v u hv (hi 0 (.c x) u rfl rfl).inv_c (by simpa using hl.symm) (fun i s v h1 h2 => hi (i + 1) s v (by simpa using h1) (by simpa using h2))
        refine ⟨z, fun w' _ => ?_, .c _ _ hz⟩
        obtain ⟨_, hrb⟩ := run_builtin (a := a) ho hb
        rw [hrb]
        have hma : (c.args.map a.eval).toList = u :: us := by rw [Array.toList_map]; exact hargs
        cases mx with
        | true => simp only [if_true, builtin, Builtin.max_, hma, Sem.run_bind] ; rw [show (us.foldlM Builtin.max2 u).run P w' = .ok z w' from hrun w']; rfl
        | false => simp only [Bool.false_eq_true, if_false, builtin, Builtin.min_, hma, Sem.run_bind] ; rw [show (us.foldlM Builtin.min2 u).run P w' = .ok z w' from hrun w']; rfl
    · cases he
  · cases he
end
end Go.LH

namespace Go.LH
open Go
set_option linter.unusedSimpArgs false
set_option linter.unusedVariables false

/-- The heap has gone on. -/
structure Nx (F : Nat → Prop) (w : World) (A : Pls) (L : List Entry) (w' : World) (A' : Pls) (L' : List Entry) : Prop where
  heap : HeapOK w' F A' L'
  frame : Fr w (Owned A) w'
  own : OwnNew w A A'
  stab : Stab L A L' A'

theorem keep_of {F : Nat → Prop} {w w' : World} {A A' : Pls} (hf : Fr w (Owned A) w') (ho : OwnNew w A A') : Keep w (fun b => Owned A b ∨ F b) w' (fun b => Owned A' b ∨ F b) :=
  ⟨hf.size, fun k hk hX => hf.block k hk (fun h => hX (.inl h)), fun k hk h => by
    rcases h with h | h
    · rcases ho k h with h | h
      · exact .inl h
      · omega
    · exact .inr h⟩
theorem Nx.keep {F : Nat → Prop} {w w' : World} {A A' : Pls} {L L' : List Entry} (h : Nx F w A L w' A' L') : Keep w (fun b => Owned A b ∨ F b) w' (fun b => Owned A' b ∨ F b) := keep_of h.frame h.own

theorem Fr.trans {w0 w w' : World} {A0 A : Pls} (h : Fr w0 (Owned A0) w) (ho : OwnNew w0 A0 A) (k : Fr w (Owned A) w') : Fr w0 (Owned A0) w' :=
  ⟨k.os.trans h.os, k.tape.trans h.tape, k.output.trans h.output, Nat.le_trans h.size k.size, fun i hi hn => (k.block i (Nat.lt_of_lt_of_le hi h.size) (fun hx => by
    rcases ho i hx with hx | hx
    · exact hn hx
    · omega)).trans (h.block i hi hn)⟩
theorem OwnNew.trans {w0 w : World} {A0 A A' : Pls} (h : OwnNew w0 A0 A) (hs : w0.heap.size ≤ w.heap.size) (k : OwnNew w A A') : OwnNew w0 A0 A' := fun b hb => by
  rcases k b hb with hb | hb
  · exact h b hb
  · exact .inr (Nat.le_trans hs hb)
theorem Nx.refl {F : Nat → Prop} {w : World} {A : Pls} {L : List Entry} (h : HeapOK w F A L) : Nx F w A L w A L := ⟨h, Fr.refl _ _, fun _ h => .inl h, Stab.refl _ _⟩
theorem Nx.trans {F : Nat → Prop} {w w' w'' : World} {A A' A'' : Pls} {L L' L'' : List Entry} (h : Nx F w A L w' A' L') (k : Nx F w' A' L' w'' A'' L'') : Nx F w A L w'' A'' L'' :=
  ⟨k.heap, h.frame.trans h.own k.frame, h.own.trans h.frame.size k.own, h.stab.trans k.stab⟩

theorem GOK.keep {G : GEnv} {w w' : World} {X X' : Nat → Prop} (h : GOK G w X) (k : Keep w X w' X') : GOK G w' X' := by
  intro g l hg
  obtain ⟨h1, h2, h3, h6⟩ := h g l hg
  refine ⟨fun hx => h1 (k.less g h2 hx), Nat.lt_of_lt_of_le h2 k.size, fun j v hj => ?_, fun v t a hv he => ?_⟩
  · obtain ⟨h4, h5⟩ := h3 j v hj
    exact ⟨h4, by rw [cell_same (k.block g h2 h1)]; exact h5⟩
  · obtain ⟨q1, q2, c, ty, q3⟩ := h6 v t a hv he
    exact ⟨fun hx => q1 (k.less _ q2 hx), Nat.lt_of_lt_of_le q2 k.size, c, ty, by rw [k.block _ q2 q1]; exact q3⟩

theorem MRow.keep {w w' : World} {X X' : Nat → Prop} (k : Keep w X w' X') {l : List Cv} {es : Array MapEntry} {c : Nat} (h : MRow w X l es c) : MRow w' X' l es c := by
  refine ⟨h.1, fun i x m h1 h2 => ?_⟩
  obtain ⟨g, cs, s, h3, h4, h5, h6, h7⟩ := h.2 i x m h1 h2
  exact ⟨g, cs, s, h3, h4, h5, h6, h7.keep k⟩
theorem ERep.keep {w w' : World} {X X' : Nat → Prop} {A A' : Pls} {L L' : List Entry} (k : Keep w X w' X') (s : Stab L A L' A') {e : Entry} {pl : Option Pl} (hb : ∀ p, pl = some p → w'.heap[p.b]? = w.heap[p.b]?)
    (h : ERep w X A L e pl) : ERep w' X' A' L' e pl := by
  cases pl with
  | none => exact h
  | some p =>
    rcases h with ⟨h0, arr, el, fz, h1, h2, h3, h4, h5⟩ | ⟨h0, h0', ⟨l, es, c, h1, h2, h3⟩ | ⟨s', l, h1, h2⟩⟩
    · refine .inl ⟨h0, arr, el, fz, by rw [hb p rfl]; exact h1, h2, h3, h4, fun r row hr => ?_⟩
      obtain ⟨h6, h7⟩ := h5 r row hr
      refine ⟨h6, fun j c hj => ?_⟩
      obtain ⟨u, hu, hur⟩ := h7 j c hj
      refine ⟨u, hu, ?_⟩
      cases hbx : e.bx with
      | true => simp only [hbx, if_true] at hur ⊢; exact hur.keep k s
      | false => simp only [hbx, Bool.false_eq_true, if_false] at hur ⊢; exact hur.keep k
    · exact .inr ⟨h0, h0', .inl ⟨l, es, c, h1, by rw [hb p rfl]; exact h2, h3.keep k⟩⟩
    · exact .inr ⟨h0, h0', .inr ⟨s', l, h1, by rw [hb p rfl]; exact h2⟩⟩

theorem owned_app {A : Pls} {p : Option Pl} {b : Nat} : Owned (A ++ [p]) b ↔ Owned A b ∨ ∃ q, p = some q ∧ q.b = b := by
  constructor
  · rintro ⟨i, q, h, hb⟩
    by_cases hi : i < A.length
    · rw [List.getElem?_append_left hi] at h; exact .inl ⟨i, q, h, hb⟩
    · rw [List.getElem?_append_right (by omega)] at h
      cases hk : i - A.length with
      | zero => rw [hk] at h; exact .inr ⟨q, Option.some.inj h, hb⟩
      | succ k => rw [hk] at h; simp at h
  · rintro (⟨i, q, h, hb⟩ | ⟨q, rfl, hb⟩)
    · exact ⟨i, q, by rw [List.getElem?_append_left (List.getElem?_eq_some_iff.1 h).1]; exact h, hb⟩
    · exact ⟨A.length, q, by simp, hb⟩

theorem Stab.app (L : List Entry) (A : Pls) (e : Entry) (p : Option Pl) (hl : A.length = L.length) : Stab L A (L ++ [e]) (A ++ [p]) := by
  intro i e0 h
  have hi := (List.getElem?_eq_some_iff.1 h).1
  exact ⟨e0, by rw [List.getElem?_append_left hi]; exact h, Nat.le_refl _, fun _ => ⟨by rw [List.getElem?_append_left (by omega)], .inl rfl, rfl, rfl⟩⟩

/-- A piece more, in a block of its own, or in none. -/
theorem Nx.add {F : Nat → Prop} {w w' : World} {A : Pls} {L : List Entry} {e : Entry} {p : Option Pl} (hh : HeapOK w F A L) (hF : ∀ b, F b → b < w.heap.size) (hf : Fr w (fun _ => False) w')
    (hp : ∀ q, p = some q → w.heap.size ≤ q.b) (he : ERep w' (fun b => Owned (A ++ [p]) b ∨ F b) (A ++ [p]) (L ++ [e]) e p) : Nx F w A L w' (A ++ [p]) (L ++ [e]) := by
  have hold : ∀ {i : Nat} {q : Pl}, A[i]? = some (some q) → ∀ e', L[i]? = some e' → q.b < w.heap.size := by
    intro i q hq e' he'
    obtain ⟨ob, hb⟩ := (hh.ent i e' (some q) he' hq).block
    exact (Array.getElem?_eq_some_iff.1 hb).1
  have hlt : ∀ {i : Nat} {q : Pl}, A[i]? = some (some q) → q.b < w.heap.size := by
    intro i q hq
    have hi := (List.getElem?_eq_some_iff.1 hq).1
    rw [hh.len] at hi
    exact hold hq _ (List.getElem?_eq_getElem hi)
  have hfr : Fr w (Owned A) w' := ⟨hf.os, hf.tape, hf.output, hf.size, fun k hk _ => hf.block k hk id⟩
  have hown : OwnNew w A (A ++ [p]) := by
    intro b hb
    rcases owned_app.1 hb with hb | ⟨q, hq, rfl⟩
    · exact .inl hb
    · exact .inr (hp q hq)
  have hst := Stab.app L A e p hh.len
  have k : Keep w (fun b => Owned A b ∨ F b) w' (fun b => Owned (A ++ [p]) b ∨ F b) := keep_of hfr hown
  refine ⟨⟨by simp [hh.len], ?_, ?_, ?_⟩, hfr, hown, hst⟩
  · intro i j q q' h1 h2 hb
    have cs : ∀ {i : Nat} {q : Pl}, (A ++ [p])[i]? = some (some q) → (i < A.length ∧ A[i]? = some (some q)) ∨ (i = A.length ∧ p = some q) := by
      intro i q h
      by_cases hi : i < A.length
      · rw [List.getElem?_append_left hi] at h; exact .inl ⟨hi, h⟩
      · rw [List.getElem?_append_right (by omega)] at h
        cases hk : i - A.length with
        | zero => rw [hk] at h; exact .inr ⟨by omega, Option.some.inj h⟩
        | succ n => rw [hk] at h; simp at h
    rcases cs h1 with ⟨i1, g1⟩ | ⟨i1, g1⟩ <;> rcases cs h2 with ⟨i2, g2⟩ | ⟨i2, g2⟩
    · exact hh.inj i j q q' g1 g2 hb
    · have := hlt g1; have := hp q' g2; omega
    · have := hlt g2; have := hp q g1; omega
    · omega
  · intro b hb hFb
    rcases owned_app.1 hb with hb | ⟨q, hq, rfl⟩
    · exact hh.far b hb hFb
    · have := hp q hq; have := hF _ hFb; omega
  · intro i e' pl h1 h2
    by_cases hi : i < L.length
    · rw [List.getElem?_append_left hi] at h1
      rw [List.getElem?_append_left (by rw [hh.len]; exact hi)] at h2
      exact (hh.ent i e' pl h1 h2).keep k hst fun q hq => by subst hq; exact hf.block q.b (hold h2 _ h1) id
    · rw [List.getElem?_append_right (by omega)] at h1
      rw [List.getElem?_append_right (by rw [hh.len]; omega)] at h2
      rw [hh.len] at h2
      cases hk : i - L.length with
      | zero =>
        rw [hk] at h1 h2
        obtain rfl := Option.some.inj h1
        obtain rfl := Option.some.inj h2
        exact he
      | succ n => rw [hk] at h1; simp at h1

theorem owned_set {A : Pls} {id : Nat} {p : Option Pl} {b : Nat} (h : Owned (A.set id p) b) : Owned A b ∨ ∃ q, p = some q ∧ q.b = b := by
  obtain ⟨i, q, hq, hb⟩ := h
  rw [List.getElem?_set] at hq
  split at hq
  · split at hq
    · exact .inr ⟨q, Option.some.inj hq, hb⟩
    · cases hq
  · exact .inl ⟨i, q, hq, hb⟩

theorem Stab.set {L : List Entry} {A : Pls} {id : Nat} {e e' : Entry} {p : Option Pl} (he : L[id]? = some e) (hg : e.gen ≤ e'.gen) (hs : e'.gen = e.gen → A[id]? = some p ∧ (e'.wd = e.wd ∨ p = none) ∧ e'.bx = e.bx ∧ e'.rows.length = e.rows.length) :
    Stab L A (L.set id e') (A.set id p) := by
  intro i e0 h
  by_cases hi : id = i
  · subst hi
    have hlt := (List.getElem?_eq_some_iff.1 he).1
    obtain rfl : e = e0 := by rw [he] at h; exact Option.some.inj h
    refine ⟨e', by simp [hlt], hg, fun hgg => ?_⟩
    obtain ⟨h1, h2, h3, h4⟩ := hs hgg
    have hA : (A.set id p)[id]? = some p := by
      have := (List.getElem?_eq_some_iff.1 h1).1
      simp [this]
    refine ⟨hA.trans h1.symm, ?_, h3, h4⟩
    rcases h2 with h2 | h2
    · exact .inl h2
    · exact .inr (by rw [hA, h2])
  · exact ⟨e0, by rw [List.getElem?_set_ne hi]; exact h, Nat.le_refl _, fun _ => ⟨by rw [List.getElem?_set_ne hi], .inl rfl, rfl, rfl⟩⟩

/-- One piece has turned: written in its place, laid elsewhere, or given up. -/
theorem Nx.turn {F : Nat → Prop} {w w' : World} {A : Pls} {L : List Entry} {id : Nat} {e e' : Entry} {pl p : Option Pl} (hh : HeapOK w F A L) (hF : ∀ b, F b → b < w.heap.size) (he : L[id]? = some e) (hA : A[id]? = some pl)
    (hf : Fr w (fun b => ∃ q, pl = some q ∧ q.b = b) w') (hp : ∀ q, p = some q → w.heap.size ≤ q.b ∨ ∃ q', pl = some q' ∧ q'.b = q.b)
    (hg : e.gen ≤ e'.gen) (hs : e'.gen = e.gen → pl = p ∧ (e'.wd = e.wd ∨ p = none) ∧ e'.bx = e.bx ∧ e'.rows.length = e.rows.length)
    (hE : ERep w' (fun b => Owned (A.set id p) b ∨ F b) (A.set id p) (L.set id e') e' p) : Nx F w A L w' (A.set id p) (L.set id e') := by
  have hfr : Fr w (Owned A) w' := ⟨hf.os, hf.tape, hf.output, hf.size, fun k hk hn => hf.block k hk (fun ⟨q, hq, hb⟩ => hn ⟨id, q, by rw [hA, hq], hb⟩)⟩
  have hown : OwnNew w A (A.set id p) := by
    intro b hb
    rcases owned_set hb with hb | ⟨q, hq, rfl⟩
    · exact .inl hb
    · rcases hp q hq with h | ⟨q', h1, h2⟩
      · exact .inr h
      · exact .inl ⟨id, q', by rw [hA, h1], h2⟩
  have hst : Stab L A (L.set id e') (A.set id p) := Stab.set he hg fun h => by
    obtain ⟨h1, h2⟩ := hs h
    exact ⟨by rw [hA, h1], h2⟩
  have k : Keep w (fun b => Owned A b ∨ F b) w' (fun b => Owned (A.set id p) b ∨ F b) := keep_of hfr hown
  have hold : ∀ {i : Nat} {q : Pl}, A[i]? = some (some q) → q.b < w.heap.size := by
    intro i q hq
    have hi := (List.getElem?_eq_some_iff.1 hq).1
    rw [hh.len] at hi
    obtain ⟨ob, hb⟩ := (hh.ent i _ (some q) (List.getElem?_eq_getElem hi) hq).block
    exact (Array.getElem?_eq_some_iff.1 hb).1
  have cs : ∀ {i : Nat} {q : Pl}, (A.set id p)[i]? = some (some q) → (i = id ∧ p = some q) ∨ (i ≠ id ∧ A[i]? = some (some q)) := by
    intro i q h
    rw [List.getElem?_set] at h
    split at h
    · rename_i hi
      split at h
      · exact .inl ⟨hi.symm, Option.some.inj h⟩
      · cases h
    · rename_i hi; exact .inr ⟨fun h => hi h.symm, h⟩
  have far : ∀ {i : Nat} {q : Pl}, i ≠ id → A[i]? = some (some q) → ∀ q', p = some q' → q.b ≠ q'.b := by
    intro i q hi hq q' hq' hb
    rcases hp q' hq' with h | ⟨q'', h1, h2⟩
    · have := hold hq; omega
    · exact hi (hh.inj i id q q'' hq (by rw [hA, h1]) (by omega))
  refine ⟨⟨by simp [hh.len], ?_, ?_, ?_⟩, hfr, hown, hst⟩
  · intro i j q q' h1 h2 hb
    rcases cs h1 with ⟨i1, g1⟩ | ⟨i1, g1⟩ <;> rcases cs h2 with ⟨i2, g2⟩ | ⟨i2, g2⟩
    · omega
    · exact absurd hb.symm (far i2 g2 q g1)
    · exact absurd hb (far i1 g1 q' g2)
    · exact hh.inj i j q q' g1 g2 hb
  · intro b hb hFb
    rcases owned_set hb with hb | ⟨q, hq, rfl⟩
    · exact hh.far b hb hFb
    · rcases hp q hq with h | ⟨q', h1, h2⟩
      · have := hF _ hFb; omega
      · exact hh.far q.b ⟨id, q', by rw [hA, h1], h2⟩ hFb
  · intro i e0 pl0 h1 h2
    by_cases hi : id = i
    · subst hi
      have hlt := (List.getElem?_eq_some_iff.1 he).1
      have hlt' := (List.getElem?_eq_some_iff.1 hA).1
      obtain rfl : e' = e0 := by simpa [hlt] using h1
      obtain rfl : p = pl0 := by simpa [hlt'] using h2
      exact hE
    · rw [List.getElem?_set_ne hi] at h1 h2
      refine (hh.ent i e0 pl0 h1 h2).keep k hst fun q hq => ?_
      subst hq
      refine hf.block q.b (hold h2) fun ⟨q', h3, h4⟩ => ?_
      exact hi (hh.inj i id q q' h2 (by rw [hA, h3]) h4.symm).symm
end Go.LH

namespace Go.LH
open Go
set_option linter.unusedSimpArgs false
set_option linter.unusedVariables false

section
variable {w : World} {F : Nat → Prop}

theorem retire_nx {A : Pls} {L : List Entry} {id : Nat} {e : Entry} (hh : HeapOK w F A L) (hF : ∀ b, F b → b < w.heap.size) (he : L[id]? = some e) : Nx F w A L w (A.set id none) (L.set id e.retire) := by
  have hi := (List.getElem?_eq_some_iff.1 he).1
  rw [← hh.len] at hi
  refine Nx.turn (pl := A[id]) hh hF he (List.getElem?_eq_getElem hi) (Fr.refl _ _) (fun q hq => by cases hq) (by simp [Entry.retire]) (fun h => by simp [Entry.retire] at h) ?_
  show ERep w _ _ _ _ none
  exact rfl

/-- Once given up, its block is nobody's. -/
theorem retire_free {A : Pls} {L : List Entry} {id : Nat} {p : Pl} (hh : HeapOK w F A L) (hA : A[id]? = some (some p)) : ¬ (Owned (A.set id none) p.b ∨ F p.b) := by
  rintro (⟨i, q, hq, hb⟩ | h)
  · rw [List.getElem?_set] at hq
    split at hq
    · split at hq
      · cases hq
      · cases hq
    · rename_i hi
      exact hi (hh.inj i id q p hq hA hb).symm
  · exact hh.far p.b ⟨id, p, hA, rfl⟩ h

theorem fzLw_rep {f : List Entry → Cv → Option (Cv × List Entry)} (hF : ∀ b, F b → b < w.heap.size)
    (hf : ∀ (L : List Entry) (A : Pls) (c d : Cv) (L' : List Entry) (v : Value), f L c = some (d, L') → HeapOK w F A L → Rep w (fun b => Owned A b ∨ F b) A L c v → ∃ A', Nx F w A L w A' L' ∧ RepV w (fun b => Owned A' b ∨ F b) d v) :
    ∀ (cs : List Cv) (us : List Value) (L : List Entry) (A : Pls) (ds : List Cv) (L' : List Entry), fzLw f L cs = some (ds, L') → HeapOK w F A L → cs.length = us.length →
      (∀ (i : Nat) (c : Cv) (u : Value), cs[i]? = some c → us[i]? = some u → Rep w (fun b => Owned A b ∨ F b) A L c u) →
      ∃ A', Nx F w A L w A' L' ∧ ds.length = us.length ∧ ∀ (i : Nat) (c : Cv) (u : Value), ds[i]? = some c → us[i]? = some u → RepV w (fun b => Owned A' b ∨ F b) c u
  | [], us, L, A, ds, L', h, hh, hl, hr => by
    simp only [fzLw, Option.some.injEq, Prod.mk.injEq] at h
    obtain ⟨rfl, rfl⟩ := h
    exact ⟨A, Nx.refl hh, hl, fun i c u h1 h2 => by simp at h1⟩
  | c :: cs, [], L, A, ds, L', h, hh, hl, hr => by simp at hl
  | c :: cs, u :: us, L, A, ds, L', h, hh, hl, hr => by
    simp only [fzLw] at h
    split at h
    · rename_i d L1 h1
      split at h
      · rename_i s L2 h2
        simp only [Option.some.injEq, Prod.mk.injEq] at h
        obtain ⟨rfl, rfl⟩ := h
        obtain ⟨A1, n1, r1⟩ := hf L A c d L1 u h1 hh (hr 0 c u rfl rfl)
        obtain ⟨A2, n2, l2, r2⟩ := fzLw_rep hF hf cs us L1 A1 s L2 h2 n1.heap (by simpa using hl) (fun i c u h3 h4 => (hr (i + 1) c u (by simpa using h3) (by simpa using h4)).keep n1.keep n1.stab)
        refine ⟨A2, n1.trans n2, by simp [l2], fun i c' u' h3 h4 => ?_⟩
        cases i with
        | zero => obtain rfl := Option.some.inj h3; obtain rfl := Option.some.inj h4; exact r1.keep n2.keep
        | succ i => exact r2 i c' u' (by simpa using h3) (by simpa using h4)
      · cases h
    · cases h

theorem fzC_rep (hF : ∀ b, F b → b < w.heap.size) : ∀ (n : Nat) (L : List Entry) (A : Pls) (c d : Cv) (L' : List Entry) (v : Value), fzC n L c = some (d, L') → HeapOK w F A L → Rep w (fun b => Owned A b ∨ F b) A L c v →
    ∃ A', Nx F w A L w A' L' ∧ RepV w (fun b => Owned A' b ∨ F b) d v
  | 0, L, A, c, d, L', v, h, hh, hr => by cases h
  | n + 1, L, A, c, d, L', v, h, hh, hr => by
    simp only [fzC] at h
    split at h
    · rename_i id gen lo len
      split at h
      · rename_i e he
        split at h
        · rename_i hc
          obtain ⟨hbx, hg, hle⟩ := hc
          simp only [Option.some.injEq, Prod.mk.injEq] at h
          obtain ⟨rfl, rfl⟩ := h
          have hrow : rowsOf e.wd L (.rs id gen lo len) = some ((e.rows.drop lo).take len) := by simp [rowsOf, he, hbx, hg, hle]
          have hlv : live? L id gen = true := by simp [live?, he, hg]
          obtain ⟨e', he', hg', _, hfit, ad, cap, hv, hcap, hcase⟩ := rs_at hr hlv
          obtain rfl : e = e' := by rw [he] at he'; exact Option.some.inj he'
          have hlen : ((e.rows.drop lo).take len).length = len := by simp; omega
          have nx := retire_nx hh hF he
          refine ⟨A.set id none, nx, ?_⟩
          obtain ⟨ad', cap', hv', hcap', hcase'⟩ := rowsOf_rep hh hrow hr
          rw [hv'] at hv ⊢
          rcases hcase' with hnil | ⟨b, q, rfl, hat⟩
          · rw [hnil]; exact .sl0 _ _ _
          · injection hv with e1 e2 e3
            rcases hcase with ⟨k1, k3⟩ | ⟨k1, _, p, k2⟩ | ⟨p, k1, k0, k2, k3⟩
            · have hnil : (e.rows.drop lo).take len = [] := List.eq_nil_of_length_eq_zero (by omega)
              rw [hnil]; exact .sl0 _ _ _
            · have hnil : (e.rows.drop lo).take len = [] := List.eq_nil_of_length_eq_zero (by omega)
              rw [hnil]; exact .sl0 _ _ _
            · have hfree := retire_free hh k1
              rw [k2] at e1
              injection e1 with e1
              injection e1 with e1 _ _
              subst e1
              refine .sl e.wd _ _ q cap' (fun r j => (w.cell? ⟨p.b, q + r * e.wd + j, none⟩).getD undef) hcap' hat.blk hfree hat.wid (fun r row j c h1 h2 => ?_) (fun r row j c h1 h2 => ?_)
              · obtain ⟨u, hu, _⟩ := hat.cell r row j c h1 h2
                simp [hu]
              · obtain ⟨u, hu, hur⟩ := hat.cell r row j c h1 h2
                simp only [hu, Option.getD_some]
                exact hur.keep nx.keep
        · cases h
      · cases h
    · rename_i id gen row col
      split at h
      · rename_i e he
        split at h
        · rename_i hg
          split at h
          · rename_i r hrow
            split at h
            · rename_i cs L1 hcs
              simp only [Option.some.injEq, Prod.mk.injEq] at h
              obtain ⟨rfl, rfl⟩ := h
              have hlv : live? L id gen = true := by simp [live?, he, hg]
              obtain ⟨e', p, he', hg', hA, hv⟩ := np_at hr hlv
              obtain rfl : e = e' := by rw [he] at he'; exact Option.some.inj he'
              obtain ⟨hw0, arr, el, fz, hb, hn, hf, hfit, hrows⟩ := (hh.ent id e (some p) he hA).cells (np_k hr hlv he)
              obtain ⟨hl, hcell⟩ := hrows row r hrow
              have nx := retire_nx hh hF he
              have hfree := retire_free hh hA
              have hcl : ∀ (j : Nat) (c : Cv), (r.drop col)[j]? = some c → ∃ u, w.cell? ⟨p.b, p.o + row * e.wd + col + j, none⟩ = some u ∧ Rep w (fun b => Owned A b ∨ F b) A L c u := by
                intro j c hj
                rw [List.getElem?_drop] at hj
                obtain ⟨u, hu, hur⟩ := hcell (col + j) c hj
                refine ⟨u, ?_, ?_⟩
                · simp only [World.cell?, hb]
                  rw [show p.o + row * e.wd + col + j = p.o + row * e.wd + (col + j) by omega]
                  simpa using hu
                · split at hur
                  · exact hur
                  · exact .v _ _ hur
              obtain ⟨A', n2, l2, r2⟩ := fzLw_rep hF (fzC_rep hF n) (r.drop col) ((List.range (r.drop col).length).map fun j => (w.cell? ⟨p.b, p.o + row * e.wd + col + j, none⟩).getD undef) _ _ cs L1 hcs nx.heap (by simp) (fun i c u h1 h2 => by
                have hi := (List.getElem?_eq_some_iff.1 h1).1
                rw [List.getElem?_map, List.getElem?_range hi] at h2
                obtain rfl := Option.some.inj h2
                obtain ⟨u, hu, hur⟩ := hcl i c h1
                simp only [hu, Option.getD_some]
                exact hur.keep nx.keep nx.stab)
              refine ⟨A', nx.trans n2, ?_⟩
              rw [hv]
              have hb' := (Array.getElem?_eq_some_iff.1 hb).1
              refine .rp cs p.b _ (fun j => (w.cell? ⟨p.b, p.o + row * e.wd + col + j, none⟩).getD undef) hb' (fun h => hfree (n2.keep.less p.b hb' h)) (fun j c hj => ?_) (fun j c hj => ?_)
              · have hjl := (List.getElem?_eq_some_iff.1 hj).1
                rw [l2] at hjl
                simp only [List.length_map, List.length_range] at hjl
                obtain ⟨u, hu, _⟩ := hcl j _ (List.getElem?_eq_getElem hjl)
                simp [hu]
              · have hjl := (List.getElem?_eq_some_iff.1 hj).1
                rw [l2] at hjl
                refine r2 j c _ hj ?_
                simp only [List.length_map, List.length_range] at hjl
                rw [List.getElem?_map, List.getElem?_range hjl]
                rfl
            · cases h
          · cases h
        · cases h
      · cases h
    · rename_i t x
      split at h
      · rename_i y L1 hy
        simp only [Option.some.injEq, Prod.mk.injEq] at h
        obtain ⟨rfl, rfl⟩ := h
        obtain ⟨u, hu, hur⟩ : ∃ u, v = .iface t u ∧ Rep w (fun b => Owned A b ∨ F b) A L x u := by
          cases hr with
          | v _ _ h => cases h with | ifc _ _ u h => exact ⟨u, rfl, .v _ _ h⟩
          | ifc _ _ u h => exact ⟨u, rfl, h⟩
        obtain ⟨A', n1, r1⟩ := fzC_rep hF n L A x y L1 u hy hh hur
        exact ⟨A', n1, by rw [hu]; exact .ifc _ _ _ r1⟩
      · cases h
    · cases h
    · cases h
    · cases h
    · rename_i f caps
      split at h
      · rename_i hv
        simp only [Option.some.injEq, Prod.mk.injEq] at h
        obtain ⟨rfl, rfl⟩ := h
        exact ⟨A, Nx.refl hh, isV_rep (c := .fn f caps) hv hr⟩
      · cases h
    · simp only [Option.some.injEq, Prod.mk.injEq] at h
      obtain ⟨rfl, rfl⟩ := h
      exact ⟨A, Nx.refl hh, isV_rep rfl hr⟩
    · simp only [Option.some.injEq, Prod.mk.injEq] at h
      obtain ⟨rfl, rfl⟩ := h
      exact ⟨A, Nx.refl hh, isV_rep rfl hr⟩
    · simp only [Option.some.injEq, Prod.mk.injEq] at h
      obtain ⟨rfl, rfl⟩ := h
      exact ⟨A, Nx.refl hh, isV_rep rfl hr⟩

theorem fzS_rep (hF : ∀ b, F b → b < w.heap.size) {L : List Entry} {A : Pls} {s d : Sv} {L' : List Entry} {v : Value} (h : fzS L s = some (d, L')) (hh : HeapOK w F A L) (hr : SRep w (fun b => Owned A b ∨ F b) A L s v) :
    ∃ A', Nx F w A L w A' L' ∧ SRepV w (fun b => Owned A' b ∨ F b) d v := by
  cases s with
  | un => cases h
  | ud => cases h
  | tup xs => cases h
  | c x =>
    simp only [fzS] at h
    split at h
    · rename_i y L1 hy
      simp only [Option.some.injEq, Prod.mk.injEq] at h
      obtain ⟨rfl, rfl⟩ := h
      obtain ⟨A', n, r⟩ := fzC_rep hF 6 L A x y L1 v hy hh hr.inv_c
      exact ⟨A', n, .c _ _ r⟩
    · cases h
  | agg cs =>
    simp only [fzS, fzL] at h
    split at h
    · rename_i ds L1 hy
      simp only [Option.some.injEq, Prod.mk.injEq] at h
      obtain ⟨rfl, rfl⟩ := h
      obtain ⟨us, hn, rfl, hc⟩ := hr.inv_agg
      obtain ⟨A', n, l, r⟩ := fzLw_rep hF (fzC_rep hF 6) cs us L A ds L1 hy hh hn hc
      exact ⟨A', n, .agg _ _ l r⟩
    · cases h

theorem fzSL_rep (hF : ∀ b, F b → b < w.heap.size) : ∀ (ss : List Sv) (us : List Value) (L : List Entry) (A : Pls) (ds : List Sv) (L' : List Entry), fzSL L ss = some (ds, L') → HeapOK w F A L → ss.length = us.length →
      (∀ (i : Nat) (c : Sv) (u : Value), ss[i]? = some c → us[i]? = some u → SRep w (fun b => Owned A b ∨ F b) A L c u) →
      ∃ A', Nx F w A L w A' L' ∧ ds.length = us.length ∧ ∀ (i : Nat) (c : Sv) (u : Value), ds[i]? = some c → us[i]? = some u → SRepV w (fun b => Owned A' b ∨ F b) c u
  | [], us, L, A, ds, L', h, hh, hl, hr => by
    simp only [fzSL, Option.some.injEq, Prod.mk.injEq] at h
    obtain ⟨rfl, rfl⟩ := h
    exact ⟨A, Nx.refl hh, hl, fun i c u h1 h2 => by simp at h1⟩
  | c :: cs, [], L, A, ds, L', h, hh, hl, hr => by simp at hl
  | c :: cs, u :: us, L, A, ds, L', h, hh, hl, hr => by
    simp only [fzSL] at h
    split at h
    · rename_i d L1 h1
      split at h
      · rename_i s L2 h2
        simp only [Option.some.injEq, Prod.mk.injEq] at h
        obtain ⟨rfl, rfl⟩ := h
        obtain ⟨A1, n1, r1⟩ := fzS_rep hF h1 hh (hr 0 c u rfl rfl)
        obtain ⟨A2, n2, l2, r2⟩ := fzSL_rep hF cs us L1 A1 s L2 h2 n1.heap (by simpa using hl) (fun i c u h3 h4 => (hr (i + 1) c u (by simpa using h3) (by simpa using h4)).keep n1.keep n1.stab)
        refine ⟨A2, n1.trans n2, by simp [l2], fun i c' u' h3 h4 => ?_⟩
        cases i with
        | zero => obtain rfl := Option.some.inj h3; obtain rfl := Option.some.inj h4; exact r1.keep n2.keep
        | succ i => exact r2 i c' u' (by simpa using h3) (by simpa using h4)
      · cases h
    · cases h

theorem fzR_rep (hF : ∀ b, F b → b < w.heap.size) {L : List Entry} {A : Pls} {s d : Sv} {L' : List Entry} {v : Value} (h : fzR L s = some (d, L')) (hh : HeapOK w F A L) (hr : SRep w (fun b => Owned A b ∨ F b) A L s v) :
    ∃ A', Nx F w A L w A' L' ∧ SRepV w (fun b => Owned A' b ∨ F b) d v := by
  cases s with
  | tup xs =>
    simp only [fzR] at h
    split at h
    · rename_i ds L1 hy
      simp only [Option.some.injEq, Prod.mk.injEq] at h
      obtain ⟨rfl, rfl⟩ := h
      obtain ⟨us, hn, rfl, hc⟩ := hr.inv_tup
      obtain ⟨A', n, l, r⟩ := fzSL_rep hF xs us L A ds L1 hy hh hn hc
      exact ⟨A', n, .tup _ _ l r⟩
    · cases h
  | un => exact fzS_rep (s := .un) hF (by simpa [fzR] using h) hh hr
  | ud => exact fzS_rep (s := .ud) hF (by simpa [fzR] using h) hh hr
  | c x => exact fzS_rep (s := .c x) hF (by simpa [fzR] using h) hh hr
  | agg cs => exact fzS_rep (s := .agg cs) hF (by simpa [fzR] using h) hh hr
end
end Go.LH
