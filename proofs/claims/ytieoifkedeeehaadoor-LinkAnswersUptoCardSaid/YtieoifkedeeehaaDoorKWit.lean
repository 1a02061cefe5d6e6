/- Link: a world and an input that fit. -/
import Derived.Test.YtieoifkedeeehaaDoorRows
import Derived.Test.YtieoifkedeeehaaDoorKLaid
import Derived.WalkKit
import Derived.ProofKit
import Derived.OpenShut
import Derived.Deep.DeepHandedRow
import Derived.LaidHandle
namespace Go.LH.K
open Go Go.LH Go.Proofs Go.Proofs.YtieoifkedeeehaaDoor
set_option maxRecDepth 100000
set_option maxHeartbeats 4000000
noncomputable def zlow : Nat := (World.holding Tryd.prog default ⟨#[], #[], []⟩).heap.size
def zobj (x : String × Nat × List UInt8) : Obj := .cells #[.string ⟨x.2.2.toArray⟩] 165
def zput (low : Nat) : Nat → List (String × Nat × List UInt8) → Array Obj → Array Obj
  | _, [], h => h
  | i, x :: r, h => zput low (i + 1) r (h.modify x.2.1 fun
      | .cells _ t frozen => .cells #[.iface 145 (.pointer (some ⟨low + i, 0, none⟩))] t frozen
      | o => o)
noncomputable def laidWorld (os : Os) : World :=
  let w0 := World.holding Tryd.prog os ⟨(zlist.map zobj).toArray, #[], []⟩
  { w0 with heap := ((zput zlow 0 zlist w0.heap).modify 21 fun
      | .cells _ t frozen => .cells #[errT] t frozen
      | o => o).modify 20 fun
      | .cells _ t frozen => .cells (tzTab.map fun (n : Nat) => Value.int .u8 n).toArray t frozen
      | o => o }
def zarg : Value := .slice none 0 0
theorem laid_met (os : Os) : laidMetH Tryd.prog Rows.linkAnswersUptoRow.laid ((laidWorld os).forCall (fun _ _ => 0) ⟨#[], #[zarg], []⟩).memory :=
  laidMetH_of_parts (laidMet_of_run' 8 (by kernel_rfl) (by kernel_rfl)) (by kernel_rfl)
def zdat {H : Type} : DataW H := .nil
theorem reads (os : Os) {H : Type} (enc : TypeId × Value → H) : ∃ places, DataW.whole enc Tryd.prog ((laidWorld os).forCall (fun _ _ => 0) ⟨#[], #[zarg], []⟩).memory Tryd.f3.params.toList Rows.linkAnswersSpec.vars false #[zarg].toList 8 = some ([zdat], [], places) :=
  ⟨[], by kernel_rfl⟩
end Go.LH.K
