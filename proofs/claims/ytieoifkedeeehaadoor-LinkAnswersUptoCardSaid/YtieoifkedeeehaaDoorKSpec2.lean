/- Link: the calls, over the list of all letters. -/
import Derived.Test.YtieoifkedeeehaaDoorKSpec
namespace Go.LH.K
open Go Go.LH
/-- No error, or the variable of that number. -/
def errV (b : Nat → Addr) : Option Nat → Cv
  | none => .val .nilIface
  | some g => .val (sent b g)
/-- The document's number of an error. -/
def codeOf : Option Nat → Int
  | none => 0
  | some 0 => 12
  | some 1 => 11
  | some _ => 17
def mk (fr to : Int) (y : ByteArray) : LS := ⟨fr, to, y, false, false⟩
def sendS (s : Sg) (fr to : Int) (y : ByteArray) : Int × Option Nat × Sg :=
  if fr < 0 ∨ 1 < fr ∨ to ≠ 1 - fr then (0, some 0, s) else if y.size < 1 ∨ 4096 < y.size then (0, some 1, s) else (((s.length + 1 : Nat) : Int), none, s ++ [mk fr to y])
def lookS (s : Sg) (n : Int) : List Cv × Bool × Option Nat := match findS s n with
  | none => (zero3, false, some 12)
  | some x => (row3 x, x.spoilt, none)
def spend (x : LS) : LS := { x with spent := true }
def takeS (s : Sg) (n : Int) : List Cv × Option Nat × Sg := match findS s n with
  | none => (zero3, some 12, s)
  | some x => (row3 x, none, s.set (n - 1).toNat (spend x))
def copyS (s : Sg) (n : Int) : Int × Option Nat × Sg := match findS s n with
  | none => (0, some 12, s)
  | some x => (((s.length + 1 : Nat) : Int), none, s ++ [x])
def cutS (x : LS) (cut : Int) : LS := { x with by_ := x.by_.extract 0 (x.by_.size - cut.toNat), spoilt := true }
def trimS (s : Sg) (n cut : Int) : Option Nat × Sg := match findS s n with
  | none => (some 12, s)
  | some x => if x.spoilt = true ∨ cut < 1 then (some 0, s) else (none, s.set (n - 1).toNat (cutS x cut))
/-- The letters are small. -/
def Ok (s : Sg) : Prop := ∀ x ∈ s, x.by_.size ≤ 4096
theorem findS_mem {s : Sg} {n : Int} {x : LS} (h : findS s n = some x) : x ∈ s := List.mem_of_getElem? (es_some h).2.1
attribute [go_sem] LHp lrow row3 zero3 zero4
end Go.LH.K
