/- Link: slices.Sort at any list of numbers. -/
import Derived.Test.YtieoifkedeeehaaDoorKSort
import Derived.Test.YtieoifkedeeehaaDoorKRun
namespace Go.LH.K
open Go Go.LH Go.Proofs
set_option maxRecDepth 100000
theorem sort_nil {G : GEnv} (hP : Codes Tryd.prog) : AnsH G Tryd.prog 29 [.c (.rs 0 0 0 0)] [intsE []] (.tup []) [intsE []] :=
  run_ansH hP (zT_ok hP (ext := noX) (exth := noH) (fun _ _ _ h => by cases h) (fun _ _ _ _ _ h => by cases h)) 100 rfl rfl (by kernel_rfl)
end Go.LH.K
