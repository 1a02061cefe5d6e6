/- FrameAsks: every call's answers are the document's. -/
import Derived.Test.YtieoifkedeeehaaGreatDoorZQ
namespace Go.LH.Z
open Go Go.LH
set_option linter.unusedSimpArgs false
set_option linter.unusedVariables false
set_option maxRecDepth 10000
set_option maxHeartbeats 4000000
theorem SlP.sn {wd : Nat} {rows : List (List Cv)} {x : Cv} (h : SlP wd rows x) : ∀ L, snC L 6 x = some x := by
  intro L; cases h <;> rfl
/-- The codes that come up. -/
def CodeK (k : Int) : Prop := k = 0 ∨ k = 8 ∨ k = 12 ∨ k = 17
theorem codeK_own (c : Cfg) (p : Int) : CodeK (ownE c p) := by unfold ownE CodeK; split <;> (try split) <;> simp
theorem codeK_boots (c : Cfg) (p : Int) : CodeK (bootsE c p) := by unfold bootsE CodeK; split <;> (try split) <;> simp
theorem codeK_at (c : Cfg) (t : Int) : CodeK (atR c t).2 := by unfold atR CodeK; split <;> (try split) <;> (try split) <;> simp
theorem codeK_load (c : Cfg) (p : Int) : CodeK (loadR c p).2 := by unfold loadR CodeK; split <;> (try split) <;> simp
theorem codeK_idle (c : Cfg) : CodeK (idleR c).2 := by unfold idleR CodeK; split <;> simp
theorem codeK_join (c : Cfg) (p : Int) : CodeK (joinR c p).2 := by unfold joinR CodeK; split <;> (try split) <;> simp
theorem codeK_next (c : Cfg) (p t : Int) : CodeK (nextR c p t).2 := by unfold nextR CodeK; split <;> (try split) <;> (try split) <;> simp
/-- What api.Code and api.Place answer of the errors that come up. -/
structure ErrC (P : Program) (b : Nat → Addr) : Prop where
  code : ∀ k, CodeK k → Ans (zG b) P 15 [.c (.val (errV b k))] (.c (iC k))
  place : ∀ k, CodeK k → Ans (zG b) P 16 [.c (.val (errV b k))] (.c (iC (-1)))
attribute [go_sem] bne_self_eq_false
variable {P : Program} {b : Nat → Addr} (hP : Codes P)
include hP
theorem g26 (a : List Int) (x y : Cv) (hx : SlP 1 (a.map intE) x) (hy : SlP 1 (a.map intE) y) (hn : a.length ≤ 4294967296) : Ans (zG b) P 26 [.c x, .c y] (.c (bC true)) := by
  refine good_z hP rfl rfl ?_
  by_cases ha : a = []
  · subst ha
    cases hx <;> cases hy
    all_goals simp -implicitDefEqProofs only [go_sem, kbase, Nat.reduceBEq, Nat.reduceLT, Nat.reduceAdd, Nat.reduceEqDiff, Nat.reduceLeDiff, reduceIte, Int.reduceEq, Int.reduceLT, Int.reduceLE, Int.reduceToNat, Int.reduceAdd, r26]
    all_goals repeat' first | simp -implicitDefEqProofs only [go_sem, kbase, Nat.reduceBEq, Nat.reduceLT, Nat.reduceAdd, Nat.reduceEqDiff, Nat.reduceLeDiff, reduceIte, Int.reduceEq, Int.reduceLT, Int.reduceLE, Int.reduceToNat, Int.reduceAdd, *] | (with_reducible refine guard_intro (fun _ => ?_) (fun _ => ?_)) | (with_reducible refine cond_intro (fun _ => ?_) (fun _ => ?_)) | ((with_reducible apply gc_intro); exact rfl) | (with_reducible refine guardD_intro (fun _ => ?_) (fun _ => ?_))
    all_goals refine loop_slots () (fun i => 0) (fun i => True) (fun i s => s) rfl trivial ?_
    all_goals intro i hi
    all_goals repeat' first | simp -implicitDefEqProofs only [go_sem, kbase, Nat.reduceBEq, Nat.reduceLT, Nat.reduceAdd, Nat.reduceEqDiff, Nat.reduceLeDiff, reduceIte, Int.reduceEq, Int.reduceLT, Int.reduceLE, Int.reduceToNat, Int.reduceAdd, *] | (with_reducible refine guard_intro (fun _ => ?_) (fun _ => ?_)) | (with_reducible refine cond_intro (fun _ => ?_) (fun _ => ?_)) | ((with_reducible apply gc_intro); exact rfl) | (with_reducible refine guardD_intro (fun _ => ?_) (fun _ => ?_))
  · have hne : a.map intE ≠ [] := by simpa using ha
    cases hx with
    | s0 h => exact absurd h hne
    | nl h => exact absurd h hne
    | sl =>
    cases hy with
    | s0 h => exact absurd h hne
    | nl h => exact absurd h hne
    | sl =>
    clear hne ha
    simp -implicitDefEqProofs only [go_sem, kbase, Nat.reduceBEq, Nat.reduceLT, Nat.reduceAdd, Nat.reduceEqDiff, Nat.reduceLeDiff, reduceIte, Int.reduceEq, Int.reduceLT, Int.reduceLE, Int.reduceToNat, Int.reduceAdd, r26]
    repeat' first | simp -implicitDefEqProofs only [go_sem, kbase, Nat.reduceBEq, Nat.reduceLT, Nat.reduceAdd, Nat.reduceEqDiff, Nat.reduceLeDiff, reduceIte, Int.reduceEq, Int.reduceLT, Int.reduceLE, Int.reduceToNat, Int.reduceAdd, *] | (with_reducible refine guard_intro (fun _ => ?_) (fun _ => ?_)) | (with_reducible refine cond_intro (fun _ => ?_) (fun _ => ?_)) | ((with_reducible apply gc_intro); exact rfl) | (with_reducible refine guardD_intro (fun _ => ?_) (fun _ => ?_))
    refine loop_slots 0 (fun i => a.length - i) (fun i => i ≤ a.length) (fun i s => sset s 5 (.c (iC (i : Nat)))) rfl (by simp) ?_
    intro i hi
    simp -implicitDefEqProofs only [go_sem, kbase, Nat.reduceBEq, Nat.reduceLT, Nat.reduceAdd, Nat.reduceEqDiff, Nat.reduceLeDiff, reduceIte, Int.reduceEq, Int.reduceLT, Int.reduceLE, Int.reduceToNat, Int.reduceAdd]
    refine cond_intro (fun h => ?_) (fun h => ?_)
    · have hlt : i < a.length := by simpa using h
      have hrow := row_at (e := intE) hlt
      have hw := wrap_succ (n := i) (by omega)
      repeat' first | simp -implicitDefEqProofs only [go_sem, kbase, Nat.reduceBEq, Nat.reduceLT, Nat.reduceAdd, Nat.reduceEqDiff, Nat.reduceLeDiff, reduceIte, Int.reduceEq, Int.reduceLT, Int.reduceLE, Int.reduceToNat, Int.reduceAdd, *, intE, Int.natCast_nonneg] | (with_reducible refine guard_intro (fun _ => ?_) (fun _ => ?_)) | (with_reducible refine cond_intro (fun _ => ?_) (fun _ => ?_)) | ((with_reducible apply gc_intro); exact rfl) | (with_reducible refine guardD_intro (fun _ => ?_) (fun _ => ?_))
      exact ⟨i + 1, by omega, by omega, rfl⟩
    · repeat' first | simp -implicitDefEqProofs only [go_sem, kbase, Nat.reduceBEq, Nat.reduceLT, Nat.reduceAdd, Nat.reduceEqDiff, Nat.reduceLeDiff, reduceIte, Int.reduceEq, Int.reduceLT, Int.reduceLE, Int.reduceToNat, Int.reduceAdd, *] | (with_reducible refine guard_intro (fun _ => ?_) (fun _ => ?_)) | (with_reducible refine cond_intro (fun _ => ?_) (fun _ => ?_)) | ((with_reducible apply gc_intro); exact rfl) | (with_reducible refine guardD_intro (fun _ => ?_) (fun _ => ?_))
theorem g23 (a : List Win) (x y : Cv) (hx : SlP 3 (a.map Win.enc) x) (hy : SlP 3 (a.map Win.enc) y) (hn : a.length ≤ 4294967296) : Ans (zG b) P 23 [.c x, .c y] (.c (bC true)) := by
  refine good_z hP rfl rfl ?_
  by_cases ha : a = []
  · subst ha
    cases hx <;> cases hy
    all_goals simp -implicitDefEqProofs only [go_sem, kbase, Nat.reduceBEq, Nat.reduceLT, Nat.reduceAdd, Nat.reduceEqDiff, Nat.reduceLeDiff, reduceIte, Int.reduceEq, Int.reduceLT, Int.reduceLE, Int.reduceToNat, Int.reduceAdd, r23]
    all_goals repeat' first | simp -implicitDefEqProofs only [go_sem, kbase, Nat.reduceBEq, Nat.reduceLT, Nat.reduceAdd, Nat.reduceEqDiff, Nat.reduceLeDiff, reduceIte, Int.reduceEq, Int.reduceLT, Int.reduceLE, Int.reduceToNat, Int.reduceAdd, *] | (with_reducible refine guard_intro (fun _ => ?_) (fun _ => ?_)) | (with_reducible refine cond_intro (fun _ => ?_) (fun _ => ?_)) | ((with_reducible apply gc_intro); exact rfl) | (with_reducible refine guardD_intro (fun _ => ?_) (fun _ => ?_))
    all_goals refine loop_slots () (fun i => 0) (fun i => True) (fun i s => s) rfl trivial ?_
    all_goals intro i hi
    all_goals repeat' first | simp -implicitDefEqProofs only [go_sem, kbase, Nat.reduceBEq, Nat.reduceLT, Nat.reduceAdd, Nat.reduceEqDiff, Nat.reduceLeDiff, reduceIte, Int.reduceEq, Int.reduceLT, Int.reduceLE, Int.reduceToNat, Int.reduceAdd, *] | (with_reducible refine guard_intro (fun _ => ?_) (fun _ => ?_)) | (with_reducible refine cond_intro (fun _ => ?_) (fun _ => ?_)) | ((with_reducible apply gc_intro); exact rfl) | (with_reducible refine guardD_intro (fun _ => ?_) (fun _ => ?_))
  · have hne : a.map Win.enc ≠ [] := by simpa using ha
    cases hx with
    | s0 h => exact absurd h hne
    | nl h => exact absurd h hne
    | sl =>
    cases hy with
    | s0 h => exact absurd h hne
    | nl h => exact absurd h hne
    | sl =>
    clear hne ha
    simp -implicitDefEqProofs only [go_sem, kbase, Nat.reduceBEq, Nat.reduceLT, Nat.reduceAdd, Nat.reduceEqDiff, Nat.reduceLeDiff, reduceIte, Int.reduceEq, Int.reduceLT, Int.reduceLE, Int.reduceToNat, Int.reduceAdd, r23]
    repeat' first | simp -implicitDefEqProofs only [go_sem, kbase, Nat.reduceBEq, Nat.reduceLT, Nat.reduceAdd, Nat.reduceEqDiff, Nat.reduceLeDiff, reduceIte, Int.reduceEq, Int.reduceLT, Int.reduceLE, Int.reduceToNat, Int.reduceAdd, *] | (with_reducible refine guard_intro (fun _ => ?_) (fun _ => ?_)) | (with_reducible refine cond_intro (fun _ => ?_) (fun _ => ?_)) | ((with_reducible apply gc_intro); exact rfl) | (with_reducible refine guardD_intro (fun _ => ?_) (fun _ => ?_))
    refine loop_slots 0 (fun i => a.length - i) (fun i => i ≤ a.length) (fun i s => sset s 5 (.c (iC (i : Nat)))) rfl (by simp) ?_
    intro i hi
    simp -implicitDefEqProofs only [go_sem, kbase, Nat.reduceBEq, Nat.reduceLT, Nat.reduceAdd, Nat.reduceEqDiff, Nat.reduceLeDiff, reduceIte, Int.reduceEq, Int.reduceLT, Int.reduceLE, Int.reduceToNat, Int.reduceAdd]
    refine cond_intro (fun h => ?_) (fun h => ?_)
    · have hlt : i < a.length := by simpa using h
      have hrow := row_at (e := Win.enc) hlt
      have hw := wrap_succ (n := i) (by omega)
      repeat' first | simp -implicitDefEqProofs only [go_sem, kbase, Nat.reduceBEq, Nat.reduceLT, Nat.reduceAdd, Nat.reduceEqDiff, Nat.reduceLeDiff, reduceIte, Int.reduceEq, Int.reduceLT, Int.reduceLE, Int.reduceToNat, Int.reduceAdd, *, Win.enc, Int.natCast_nonneg] | (with_reducible refine guard_intro (fun _ => ?_) (fun _ => ?_)) | (with_reducible refine cond_intro (fun _ => ?_) (fun _ => ?_)) | ((with_reducible apply gc_intro); exact rfl) | (with_reducible refine guardD_intro (fun _ => ?_) (fun _ => ?_))
      exact ⟨i + 1, by omega, by omega, rfl⟩
    · repeat' first | simp -implicitDefEqProofs only [go_sem, kbase, Nat.reduceBEq, Nat.reduceLT, Nat.reduceAdd, Nat.reduceEqDiff, Nat.reduceLeDiff, reduceIte, Int.reduceEq, Int.reduceLT, Int.reduceLE, Int.reduceToNat, Int.reduceAdd, *] | (with_reducible refine guard_intro (fun _ => ?_) (fun _ => ?_)) | (with_reducible refine cond_intro (fun _ => ?_) (fun _ => ?_)) | ((with_reducible apply gc_intro); exact rfl) | (with_reducible refine guardD_intro (fun _ => ?_) (fun _ => ?_))
theorem g8 (hE : ErrC P b) (k : Int) (hk : CodeK k) : Ans (zG b) P 8 [.c (.val (errV b k)), .c (iC k)] (.c (bC true)) := by
  refine good_z hP rfl rfl ?_
  simp -implicitDefEqProofs only [go_sem, kbase, Nat.reduceBEq, Nat.reduceLT, Nat.reduceAdd, Nat.reduceEqDiff, Nat.reduceLeDiff, reduceIte, Int.reduceEq, Int.reduceLT, Int.reduceLE, Int.reduceToNat, Int.reduceAdd, r8]
  repeat' first | simp -implicitDefEqProofs only [go_sem, kbase, Nat.reduceBEq, Nat.reduceLT, Nat.reduceAdd, Nat.reduceEqDiff, Nat.reduceLeDiff, reduceIte, Int.reduceEq, Int.reduceLT, Int.reduceLE, Int.reduceToNat, Int.reduceAdd, *] | (with_reducible refine guard_intro (fun _ => ?_) (fun _ => ?_)) | (with_reducible refine cond_intro (fun _ => ?_) (fun _ => ?_)) | ((with_reducible apply gc_intro); exact rfl) | (with_reducible refine guardD_intro (fun _ => ?_) (fun _ => ?_)) | ((with_reducible apply call_eq (hE.code k hk)); exact rfl; exact rfl) | ((with_reducible apply call_fzeq (hE.code k hk)); exact rfl) | ((with_reducible apply call_eq (hE.place k hk)); exact rfl; exact rfl) | ((with_reducible apply call_fzeq (hE.place k hk)); exact rfl)
end Go.LH.Z
