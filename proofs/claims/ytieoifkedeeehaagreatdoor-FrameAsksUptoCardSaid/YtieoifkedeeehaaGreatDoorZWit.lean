/- FrameAsks: a world and an input that fit. -/
import Derived.Test.YtieoifkedeeehaaGreatDoorRows
import Derived.Test.YtieoifkedeeehaaGreatDoorZLaid
import Derived.WalkKit
import Derived.ProofKit
import Derived.OpenShut
import Derived.Deep.DeepHandedRow
import Derived.LaidHandle
namespace Go.LH.Z
open Go Go.LH Go.Proofs Go.Proofs.YtieoifkedeeehaaGreatDoor
set_option maxRecDepth 100000
set_option maxHeartbeats 4000000
noncomputable def zlow : Nat := (World.holding Tryz.prog default ⟨#[], #[], []⟩).heap.size
def zobj (x : String × Nat × List UInt8) : Obj := .cells #[.string ⟨x.2.2.toArray⟩] 179
def zput (low : Nat) : Nat → List (String × Nat × List UInt8) → Array Obj → Array Obj
  | _, [], h => h
  | i, x :: r, h => zput low (i + 1) r (h.modify x.2.1 fun
      | .cells _ t frozen => .cells #[.iface 157 (.pointer (some ⟨low + i, 0, none⟩))] t frozen
      | o => o)
noncomputable def laidWorld (os : Os) : World :=
  let w0 := World.holding Tryz.prog os ⟨(zlist.map zobj).toArray, #[], []⟩
  { w0 with heap := (zput zlow 0 zlist w0.heap).modify 20 fun
      | .cells _ t frozen => .cells #[errT] t frozen
      | o => o }
def zarg : Value := .agg #[.int .i64 0, .slice none 0 0, .slice none 0 0, .slice none 0 0, .slice none 0 0, .int .i64 0, .int .i64 0, .slice none 0 0, .slice none 0 0, .slice none 0 0, .slice none 0 0, .int .i64 0, .slice none 0 0, .slice none 0 0, .slice none 0 0]
theorem laid_met (os : Os) : laidMetH Tryz.prog Rows.frameAsksUptoRow.laid ((laidWorld os).forCall (fun _ _ => 0) ⟨#[], #[zarg], []⟩).memory :=
  laidMetH_of_parts (laidMet_of_run' 8 (by kernel_rfl) (by kernel_rfl)) (by kernel_rfl)
def zdat {H : Type} : DataW H := .agg [.agg [.lit (.int .i64 0), .nil, .nil, .nil, .nil, .lit (.int .i64 0)], .agg [.lit (.int .i64 0), .nil, .nil, .nil, .nil, .lit (.int .i64 0)], .nil, .nil, .nil]
theorem reads (os : Os) {H : Type} (enc : TypeId × Value → H) : ∃ places, DataW.whole enc Tryz.prog ((laidWorld os).forCall (fun _ _ => 0) ⟨#[], #[zarg], []⟩).memory Tryz.f3.params.toList Rows.frameAsksSpec.vars false #[zarg].toList 8 = some ([zdat], [], places) :=
  ⟨[], by kernel_rfl⟩
end Go.LH.Z
