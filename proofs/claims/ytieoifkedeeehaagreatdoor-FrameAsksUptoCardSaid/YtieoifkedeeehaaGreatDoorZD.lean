/- FrameAsks: Check of a plan, program and reference. -/
import Derived.Test.YtieoifkedeeehaaGreatDoorZC
namespace Go.LH.Z
open Go Go.LH
set_option linter.unusedSimpArgs false
set_option linter.unusedVariables false
set_option maxRecDepth 10000
set_option maxHeartbeats 4000000
variable {P : Program} {b : Nat → Addr} (hP : Codes P)
include hP
theorem g46 (p : PlanS) (hs : p.Ok) : GoodV (zG b) P 46 [.agg p.enc] (ErrP (planOk p)) := by
  refine good_z hP rfl rfl ?_
  simp -implicitDefEqProofs only [go_sem, kbase, Nat.reduceBEq, Nat.reduceLT, Nat.reduceAdd, Nat.reduceEqDiff, Nat.reduceLeDiff, reduceIte, Int.reduceEq, Int.reduceLT, Int.reduceLE, Int.reduceToNat, Int.reduceAdd, r46, PlanS.enc]
  repeat' first | simp -implicitDefEqProofs only [go_sem, kbase, Nat.reduceBEq, Nat.reduceLT, Nat.reduceAdd, Nat.reduceEqDiff, Nat.reduceLeDiff, reduceIte, Int.reduceEq, Int.reduceLT, Int.reduceLE, Int.reduceToNat, Int.reduceAdd, *] | (with_reducible refine guard_intro (fun _ => ?_) (fun _ => ?_)) | (with_reducible refine cond_intro (fun _ => ?_) (fun _ => ?_)) | ((with_reducible apply gc_intro); exact rfl) | (with_reducible refine guardD_intro (fun _ => ?_) (fun _ => ?_))
  all_goals try (first | ((with_reducible refine ErrP.bad ?_ _ ?_ ?_); (· grind [planOk]); (· exact rfl); (· exact fun _ => rfl)) | ((with_reducible refine ErrP.bad ?_ _ (by assumption) (by assumption)); (· grind [planOk])) | ((with_reducible refine ErrP.good ?_); (· grind [planOk])) | ((with_reducible refine CodeP.mk _ _ ?_); (· grind [planOk])) | ((with_reducible refine IdxP.mk _ ?_); (· grind [planOk])))
  refine loop_slots 0 (fun i => 3 - i) (fun i => i ≤ 3 ∧ (1 ≤ i → pagesOk p = true) ∧ (2 ≤ i → procsOk p = true) ∧ (3 ≤ i → restOk p = true)) (fun i s => sset s 17 (.c (iC (i : Nat)))) rfl ⟨by simp, by simp, by simp, by simp⟩ ?_
  rintro i ⟨hi, h1, h2, h3⟩
  simp -implicitDefEqProofs only [go_sem, kbase, Nat.reduceBEq, Nat.reduceLT, Nat.reduceAdd, Nat.reduceEqDiff, Nat.reduceLeDiff, reduceIte, Int.reduceEq, Int.reduceLT, Int.reduceLE, Int.reduceToNat, Int.reduceAdd]
  refine cond_intro (fun h => ?_) (fun h => ?_)
  · have hlt : i < 3 := by simp at h; omega
    obtain rfl | rfl | rfl : i = 0 ∨ i = 1 ∨ i = 2 := by omega
    · have hz : ((0 : Nat) : Int) = 0 := rfl
      have hw : IntKind.wrap .i64 ((0 : Int) + 1) = 1 := by decide
      simp -implicitDefEqProofs only [go_sem, kbase, Nat.reduceBEq, Nat.reduceLT, Nat.reduceAdd, Nat.reduceEqDiff, Nat.reduceLeDiff, reduceIte, Int.reduceEq, Int.reduceLT, Int.reduceLE, Int.reduceToNat, Int.reduceAdd, hz]
      refine ⟨(hP 65 r65 rfl).1, call_fz rfl (g65 hP p hs) ?_⟩
      intro v hv
      cases hv with
      | good ok =>
        repeat' first | simp -implicitDefEqProofs only [go_sem, kbase, Nat.reduceBEq, Nat.reduceLT, Nat.reduceAdd, Nat.reduceEqDiff, Nat.reduceLeDiff, reduceIte, Int.reduceEq, Int.reduceLT, Int.reduceLE, Int.reduceToNat, Int.reduceAdd, *] | (with_reducible refine guard_intro (fun _ => ?_) (fun _ => ?_)) | (with_reducible refine cond_intro (fun _ => ?_) (fun _ => ?_)) | ((with_reducible apply gc_intro); exact rfl) | (with_reducible refine guardD_intro (fun _ => ?_) (fun _ => ?_))
        exact ⟨1, by omega, by grind, rfl⟩
      | bad ok x hx hf =>
        repeat' first | simp -implicitDefEqProofs only [go_sem, kbase, Nat.reduceBEq, Nat.reduceLT, Nat.reduceAdd, Nat.reduceEqDiff, Nat.reduceLeDiff, reduceIte, Int.reduceEq, Int.reduceLT, Int.reduceLE, Int.reduceToNat, Int.reduceAdd, *] | (with_reducible refine guard_intro (fun _ => ?_) (fun _ => ?_)) | (with_reducible refine cond_intro (fun _ => ?_) (fun _ => ?_)) | ((with_reducible apply gc_intro); exact rfl) | (with_reducible refine guardD_intro (fun _ => ?_) (fun _ => ?_))
        exact ErrP.bad (by grind [planOk]) _ hx hf
    · have hz : ((1 : Nat) : Int) = 1 := rfl
      have hw : IntKind.wrap .i64 ((1 : Int) + 1) = 2 := by decide
      simp -implicitDefEqProofs only [go_sem, kbase, Nat.reduceBEq, Nat.reduceLT, Nat.reduceAdd, Nat.reduceEqDiff, Nat.reduceLeDiff, reduceIte, Int.reduceEq, Int.reduceLT, Int.reduceLE, Int.reduceToNat, Int.reduceAdd, hz]
      refine ⟨(hP 66 r66 rfl).1, call_fz rfl (g66 hP p hs) ?_⟩
      intro v hv
      cases hv with
      | good ok =>
        repeat' first | simp -implicitDefEqProofs only [go_sem, kbase, Nat.reduceBEq, Nat.reduceLT, Nat.reduceAdd, Nat.reduceEqDiff, Nat.reduceLeDiff, reduceIte, Int.reduceEq, Int.reduceLT, Int.reduceLE, Int.reduceToNat, Int.reduceAdd, *] | (with_reducible refine guard_intro (fun _ => ?_) (fun _ => ?_)) | (with_reducible refine cond_intro (fun _ => ?_) (fun _ => ?_)) | ((with_reducible apply gc_intro); exact rfl) | (with_reducible refine guardD_intro (fun _ => ?_) (fun _ => ?_))
        exact ⟨2, by omega, by grind, rfl⟩
      | bad ok x hx hf =>
        repeat' first | simp -implicitDefEqProofs only [go_sem, kbase, Nat.reduceBEq, Nat.reduceLT, Nat.reduceAdd, Nat.reduceEqDiff, Nat.reduceLeDiff, reduceIte, Int.reduceEq, Int.reduceLT, Int.reduceLE, Int.reduceToNat, Int.reduceAdd, *] | (with_reducible refine guard_intro (fun _ => ?_) (fun _ => ?_)) | (with_reducible refine cond_intro (fun _ => ?_) (fun _ => ?_)) | ((with_reducible apply gc_intro); exact rfl) | (with_reducible refine guardD_intro (fun _ => ?_) (fun _ => ?_))
        exact ErrP.bad (by grind [planOk]) _ hx hf
    · have hz : ((2 : Nat) : Int) = 2 := rfl
      have hw : IntKind.wrap .i64 ((2 : Int) + 1) = 3 := by decide
      simp -implicitDefEqProofs only [go_sem, kbase, Nat.reduceBEq, Nat.reduceLT, Nat.reduceAdd, Nat.reduceEqDiff, Nat.reduceLeDiff, reduceIte, Int.reduceEq, Int.reduceLT, Int.reduceLE, Int.reduceToNat, Int.reduceAdd, hz]
      refine ⟨(hP 67 r67 rfl).1, call_fz rfl (g67 hP p hs) ?_⟩
      intro v hv
      cases hv with
      | good ok =>
        repeat' first | simp -implicitDefEqProofs only [go_sem, kbase, Nat.reduceBEq, Nat.reduceLT, Nat.reduceAdd, Nat.reduceEqDiff, Nat.reduceLeDiff, reduceIte, Int.reduceEq, Int.reduceLT, Int.reduceLE, Int.reduceToNat, Int.reduceAdd, *] | (with_reducible refine guard_intro (fun _ => ?_) (fun _ => ?_)) | (with_reducible refine cond_intro (fun _ => ?_) (fun _ => ?_)) | ((with_reducible apply gc_intro); exact rfl) | (with_reducible refine guardD_intro (fun _ => ?_) (fun _ => ?_))
        exact ⟨3, by omega, by grind, rfl⟩
      | bad ok x hx hf =>
        repeat' first | simp -implicitDefEqProofs only [go_sem, kbase, Nat.reduceBEq, Nat.reduceLT, Nat.reduceAdd, Nat.reduceEqDiff, Nat.reduceLeDiff, reduceIte, Int.reduceEq, Int.reduceLT, Int.reduceLE, Int.reduceToNat, Int.reduceAdd, *] | (with_reducible refine guard_intro (fun _ => ?_) (fun _ => ?_)) | (with_reducible refine cond_intro (fun _ => ?_) (fun _ => ?_)) | ((with_reducible apply gc_intro); exact rfl) | (with_reducible refine guardD_intro (fun _ => ?_) (fun _ => ?_))
        exact ErrP.bad (by grind [planOk]) _ hx hf
  · repeat' first | simp -implicitDefEqProofs only [go_sem, kbase, Nat.reduceBEq, Nat.reduceLT, Nat.reduceAdd, Nat.reduceEqDiff, Nat.reduceLeDiff, reduceIte, Int.reduceEq, Int.reduceLT, Int.reduceLE, Int.reduceToNat, Int.reduceAdd, *] | (with_reducible refine guard_intro (fun _ => ?_) (fun _ => ?_)) | (with_reducible refine cond_intro (fun _ => ?_) (fun _ => ?_)) | ((with_reducible apply gc_intro); exact rfl) | (with_reducible refine guardD_intro (fun _ => ?_) (fun _ => ?_))
    have : 3 ≤ i := by simp at h; omega
    exact ErrP.good (by grind [planOk])
end Go.LH.Z
