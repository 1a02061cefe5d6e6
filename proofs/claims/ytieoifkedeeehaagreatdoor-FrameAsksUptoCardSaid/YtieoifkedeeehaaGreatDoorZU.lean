/- FrameAsks: functions run on known data. -/
import Derived.Test.YtieoifkedeeehaaGreatDoorZSpec
import Derived.Test.YtieoifkedeeehaaGreatDoorLhWalkD
namespace Go.LH.Z
open Go Go.LH
set_option maxRecDepth 100000
def zT : RTab := ⟨zcode, fun _ => false, fun _ _ => none⟩
def zok : FuncId → Bool := fun f => (zcode f).isSome
theorem zT_ok {P : Program} {G : GEnv} (hP : Codes P) : RunOK P G zT zok where
  code f rf h := (hP f rf h).2
  ok f h := by
    simp only [zok] at h
    cases hz : zcode f with
    | none => rw [hz] at h; cases h
    | some rf => exact (hP f rf hz).1
  ext f as r h := by cases h
def runTop (G : GEnv) (n : Nat) (rf : RF) (as : List Sv) : Option Sv :=
  match run zT zok G n 0 rf.body ⟨initS 0 as, []⟩ with
  | some (.exit _, _) => none
  | some (_, st) => match resS G st rf.res with
    | some r => match fzR st.L r with
      | some (x, _) => some x
      | none => none
    | none => none
  | none => none
theorem run_ans {P : Program} {G : GEnv} (hP : Codes P) {f : FuncId} {rf : RF} {as : List Sv} {v : Sv} (n : Nat) (hf : zcode f = some rf) (hn : Nat.ble as.length rf.nt = true) (h : runTop G n rf as = some v) : Ans G P f as v := by
  unfold runTop at h
  split at h
  · cases h
  · rename_i out st hx hrun
    split at h
    · rename_i r hr
      split at h
      · rename_i x L hz
        obtain rfl := Option.some.inj h
        refine good_z hP hf hn (run_ok (zT_ok hP) n _ _ _ _ _ hrun _ ?_)
        cases out with
        | exit i => exact (hx i rfl).elim
        | normal => simp only [endV, hr, hz]
        | ret => simp only [endV, hr, hz]
      · cases h
    · cases h
  · cases h
end Go.LH.Z
