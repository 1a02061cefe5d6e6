/- Functions run on known data. -/
import Derived.Test.YtieoifkedeeehaaDoorKBase
namespace Go.LH.K
open Go Go.LH
set_option maxRecDepth 100000
def zok : FuncId → Bool := fun f => (zcode f).isSome
/-- The codes, and answers told from elsewhere. -/
def zT (ext : FuncId → List Sv → Option Sv) (exth : FuncId → List Sv → List Entry → Option (Sv × List Entry)) : RTab := { code := zcode, sn := fun f => f == 1000000, ext := ext, exth := exth }
def noX : FuncId → List Sv → Option Sv := fun _ _ => none
def noH : FuncId → List Sv → List Entry → Option (Sv × List Entry) := fun _ _ _ => none
theorem zT_ok {P : Program} {G : GEnv} (hP : Codes P) {ext : FuncId → List Sv → Option Sv} {exth : FuncId → List Sv → List Entry → Option (Sv × List Entry)} (h1 : ∀ f as r, ext f as = some r → GoodV G P f as (fun x => x = r)) (h2 : ∀ f as L r L', exth f as L = some (r, L') → Good G P f as L (fun x Lx => x = r ∧ Lx = L')) : RunOK P G (zT ext exth) zok where
  code f rf h := (hP f rf h).2
  ok f h := by
    simp only [zok] at h
    cases hz : zcode f with
    | none => rw [hz] at h; cases h
    | some rf => exact (hP f rf hz).1
  ext := h1
  exth := h2
def runTop (T : RTab) (G : GEnv) (n : Nat) (rf : RF) (as : List Sv) : Option Sv :=
  match run T zok G n 0 rf.body ⟨initS 0 as, []⟩ with
  | some (.exit _, _) => none
  | some (_, st) => match resS G st rf.res with
    | some r => match fzR st.L r with
      | some (x, _) => some x
      | none => none
    | none => none
  | none => none
theorem run_ans {P : Program} {G : GEnv} {T : RTab} (hP : Codes P) (hT : RunOK P G T zok) {f : FuncId} {rf : RF} {as : List Sv} {v : Sv} (n : Nat) (hf : zcode f = some rf) (hn : Nat.ble as.length rf.nt = true) (h : runTop T G n rf as = some v) : Ans G P f as v := by
  unfold runTop at h
  split at h
  · cases h
  · rename_i out st hx hrun
    split at h
    · rename_i r hr
      split at h
      · rename_i x L hz
        obtain rfl := Option.some.inj h
        refine good_z hP hf hn (run_ok hT n _ _ _ _ _ hrun _ ?_)
        cases out with
        | exit i => exact (hx i rfl).elim
        | normal => simp only [endV, hr, hz]
        | ret => simp only [endV, hr, hz]
      · cases h
    · cases h
  · cases h
def runTopH (T : RTab) (G : GEnv) (n : Nat) (rf : RF) (as : List Sv) (L : List Entry) : Option (Sv × List Entry) :=
  match run T zok G n L.length rf.body ⟨initS 0 as, L⟩ with
  | some (.exit _, _) => none
  | some (_, st) => match resS G st rf.res with
    | some r => gcRes L.length r st.L
    | none => none
  | none => none
theorem run_ansH {P : Program} {G : GEnv} {T : RTab} (hP : Codes P) (hT : RunOK P G T zok) {f : FuncId} {rf : RF} {as : List Sv} {L L' : List Entry} {v : Sv} (n : Nat) (hf : zcode f = some rf) (hn : Nat.ble as.length rf.nt = true) (h : runTopH T G n rf as L = some (v, L')) : AnsH G P f as L v L' := by
  unfold runTopH at h
  split at h
  · cases h
  · rename_i out st hx hrun
    split at h
    · rename_i r hr
      refine good_h hP hf hn (run_ok hT n _ _ _ _ _ hrun _ ?_)
      cases out with
      | exit i => exact (hx i rfl).elim
      | normal => simp only [endQ, hr, h, and_self]
      | ret => simp only [endQ, hr, h, and_self]
    · cases h
  · cases h
end Go.LH.K
