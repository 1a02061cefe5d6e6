/- FrameAsks: Check of a plan, the reference. -/
import Derived.Test.YtieoifkedeeehaaGreatDoorZD
import Derived.Test.YtieoifkedeeehaaGreatDoorLhWalkB
namespace Go.LH.Z
open Go Go.LH
set_option linter.unusedSimpArgs false
set_option linter.unusedVariables false
set_option maxRecDepth 10000
set_option maxHeartbeats 4000000
variable {P : Program} {b : Nat → Addr} (hP : Codes P)
include hP
theorem g79 (p : PlanS) (hs : p.Ok) : GoodV (zG b) P 79 [.agg p.enc] (CodeP (planOk p)) := by
  refine good_z hP rfl rfl ?_
  simp -implicitDefEqProofs only [go_sem, kbase, Nat.reduceBEq, Nat.reduceLT, Nat.reduceAdd, Nat.reduceEqDiff, Nat.reduceLeDiff, reduceIte, Int.reduceEq, Int.reduceLT, Int.reduceLE, Int.reduceToNat, Int.reduceAdd, r79, PlanS.enc]
  repeat' first | simp -implicitDefEqProofs only [go_sem, kbase, Nat.reduceBEq, Nat.reduceLT, Nat.reduceAdd, Nat.reduceEqDiff, Nat.reduceLeDiff, reduceIte, Int.reduceEq, Int.reduceLT, Int.reduceLE, Int.reduceToNat, Int.reduceAdd, *] | (with_reducible refine guard_intro (fun _ => ?_) (fun _ => ?_)) | (with_reducible refine cond_intro (fun _ => ?_) (fun _ => ?_)) | ((with_reducible apply gc_intro); exact rfl) | (with_reducible refine guardD_intro (fun _ => ?_) (fun _ => ?_)) | ((with_reducible apply call_eq (g84 hP _)); exact rfl; exact rfl) | ((with_reducible apply call_fzeq (g84 hP _)); exact rfl)
  all_goals try (first | ((with_reducible refine ErrP.bad ?_ _ ?_ ?_); (· grind [planOk]); (· exact rfl); (· exact fun _ => rfl)) | ((with_reducible refine ErrP.bad ?_ _ (by assumption) (by assumption)); (· grind [planOk])) | ((with_reducible refine ErrP.good ?_); (· grind [planOk])) | ((with_reducible refine CodeP.mk _ _ ?_); (· grind [planOk])) | ((with_reducible refine IdxP.mk _ ?_); (· grind [planOk])))
  refine callO_sn rfl (g85 hP p hs) ?_
  rintro _ ⟨c1, p1, e1⟩
  refine ⟨rfl, ?_⟩
  simp -implicitDefEqProofs only [go_sem, kbase, Nat.reduceBEq, Nat.reduceLT, Nat.reduceAdd, Nat.reduceEqDiff, Nat.reduceLeDiff, reduceIte, Int.reduceEq, Int.reduceLT, Int.reduceLE, Int.reduceToNat, Int.reduceAdd]
  refine callO_sn rfl (g86 hP p hs) ?_
  rintro _ ⟨c2, p2, e2⟩
  refine ⟨rfl, ?_⟩
  simp -implicitDefEqProofs only [go_sem, kbase, Nat.reduceBEq, Nat.reduceLT, Nat.reduceAdd, Nat.reduceEqDiff, Nat.reduceLeDiff, reduceIte, Int.reduceEq, Int.reduceLT, Int.reduceLE, Int.reduceToNat, Int.reduceAdd]
  refine callO_sn rfl (g87 hP p hs) ?_
  rintro _ ⟨c3, p3, e3⟩
  refine ⟨rfl, ?_⟩
  simp -implicitDefEqProofs only [go_sem, kbase, Nat.reduceBEq, Nat.reduceLT, Nat.reduceAdd, Nat.reduceEqDiff, Nat.reduceLeDiff, reduceIte, Int.reduceEq, Int.reduceLT, Int.reduceLE, Int.reduceToNat, Int.reduceAdd]
  refine callO_sn rfl (g88 hP p hs) ?_
  rintro _ ⟨c4, p4, e4⟩
  refine ⟨rfl, ?_⟩
  simp -implicitDefEqProofs only [go_sem, kbase, Nat.reduceBEq, Nat.reduceLT, Nat.reduceAdd, Nat.reduceEqDiff, Nat.reduceLeDiff, reduceIte, Int.reduceEq, Int.reduceLT, Int.reduceLE, Int.reduceToNat, Int.reduceAdd]
  refine loop_slots 0 (fun i => 4 - i) (fun i => i ≤ 4 ∧ (1 ≤ i → c1 = 0) ∧ (2 ≤ i → c2 = 0) ∧ (3 ≤ i → c3 = 0) ∧ (4 ≤ i → c4 = 0)) (fun i s => sset s 4 (.c (iC (i : Nat)))) rfl ⟨by simp, by simp, by simp, by simp, by simp⟩ ?_
  rintro i ⟨hi, h1, h2, h3, h4⟩
  simp -implicitDefEqProofs only [go_sem, kbase, Nat.reduceBEq, Nat.reduceLT, Nat.reduceAdd, Nat.reduceEqDiff, Nat.reduceLeDiff, reduceIte, Int.reduceEq, Int.reduceLT, Int.reduceLE, Int.reduceToNat, Int.reduceAdd]
  refine cond_intro (fun h => ?_) (fun h => ?_)
  · have hlt : i < 4 := by simp at h; omega
    obtain rfl | rfl | rfl | rfl : i = 0 ∨ i = 1 ∨ i = 2 ∨ i = 3 := by omega
    · have hz : ((0 : Nat) : Int) = 0 := rfl
      have hw : IntKind.wrap .i64 ((0 : Int) + 1) = 1 := by decide
      repeat' first | simp -implicitDefEqProofs only [go_sem, kbase, Nat.reduceBEq, Nat.reduceLT, Nat.reduceAdd, Nat.reduceEqDiff, Nat.reduceLeDiff, reduceIte, Int.reduceEq, Int.reduceLT, Int.reduceLE, Int.reduceToNat, Int.reduceAdd, *] | (with_reducible refine guard_intro (fun _ => ?_) (fun _ => ?_)) | (with_reducible refine cond_intro (fun _ => ?_) (fun _ => ?_)) | ((with_reducible apply gc_intro); exact rfl) | (with_reducible refine guardD_intro (fun _ => ?_) (fun _ => ?_))
      trace_state
      · refine CodeP.mk _ _ ?_
        grind [planOk, restOk]
      · exact ⟨1, by omega, by grind, rfl⟩
    · have hz : ((1 : Nat) : Int) = 1 := rfl
      have hw : IntKind.wrap .i64 ((1 : Int) + 1) = 2 := by decide
      repeat' first | simp -implicitDefEqProofs only [go_sem, kbase, Nat.reduceBEq, Nat.reduceLT, Nat.reduceAdd, Nat.reduceEqDiff, Nat.reduceLeDiff, reduceIte, Int.reduceEq, Int.reduceLT, Int.reduceLE, Int.reduceToNat, Int.reduceAdd, *] | (with_reducible refine guard_intro (fun _ => ?_) (fun _ => ?_)) | (with_reducible refine cond_intro (fun _ => ?_) (fun _ => ?_)) | ((with_reducible apply gc_intro); exact rfl) | (with_reducible refine guardD_intro (fun _ => ?_) (fun _ => ?_))
      · refine CodeP.mk _ _ ?_
        grind [planOk, restOk]
      · exact ⟨2, by omega, by grind, rfl⟩
    · have hz : ((2 : Nat) : Int) = 2 := rfl
      have hw : IntKind.wrap .i64 ((2 : Int) + 1) = 3 := by decide
      repeat' first | simp -implicitDefEqProofs only [go_sem, kbase, Nat.reduceBEq, Nat.reduceLT, Nat.reduceAdd, Nat.reduceEqDiff, Nat.reduceLeDiff, reduceIte, Int.reduceEq, Int.reduceLT, Int.reduceLE, Int.reduceToNat, Int.reduceAdd, *] | (with_reducible refine guard_intro (fun _ => ?_) (fun _ => ?_)) | (with_reducible refine cond_intro (fun _ => ?_) (fun _ => ?_)) | ((with_reducible apply gc_intro); exact rfl) | (with_reducible refine guardD_intro (fun _ => ?_) (fun _ => ?_))
      · refine CodeP.mk _ _ ?_
        grind [planOk, restOk]
      · exact ⟨3, by omega, by grind, rfl⟩
    · have hz : ((3 : Nat) : Int) = 3 := rfl
      have hw : IntKind.wrap .i64 ((3 : Int) + 1) = 4 := by decide
      repeat' first | simp -implicitDefEqProofs only [go_sem, kbase, Nat.reduceBEq, Nat.reduceLT, Nat.reduceAdd, Nat.reduceEqDiff, Nat.reduceLeDiff, reduceIte, Int.reduceEq, Int.reduceLT, Int.reduceLE, Int.reduceToNat, Int.reduceAdd, *] | (with_reducible refine guard_intro (fun _ => ?_) (fun _ => ?_)) | (with_reducible refine cond_intro (fun _ => ?_) (fun _ => ?_)) | ((with_reducible apply gc_intro); exact rfl) | (with_reducible refine guardD_intro (fun _ => ?_) (fun _ => ?_))
      · refine CodeP.mk _ _ ?_
        grind [planOk, restOk]
      · exact ⟨4, by omega, by grind, rfl⟩
  · have hi4 : 4 ≤ i := by simp at h; omega
    have hpo : portsOk p = true := e3.1 (h3 (by omega))
    have hth : thingsOk p = true := e4.1 (h4 (by omega))
    have hports : p.ports.all portOk = true := by simp only [portsOk, Bool.and_eq_true] at hpo; exact hpo.2
    have hev : 0 ≤ p.events ∧ p.events ≤ 8 := by simp only [thingsOk, Bool.and_eq_true, decide_eq_true_eq] at hth; omega
    have q1 := e1.1 (h1 (by omega))
    have q2 := e2.1 (h2 (by omega))
    clear h1 h2 h3 h4 e1 e2 e3 e4
    repeat' first | simp -implicitDefEqProofs only [go_sem, kbase, Nat.reduceBEq, Nat.reduceLT, Nat.reduceAdd, Nat.reduceEqDiff, Nat.reduceLeDiff, reduceIte, Int.reduceEq, Int.reduceLT, Int.reduceLE, Int.reduceToNat, Int.reduceAdd, *] | (with_reducible refine guard_intro (fun _ => ?_) (fun _ => ?_)) | (with_reducible refine cond_intro (fun _ => ?_) (fun _ => ?_)) | ((with_reducible apply gc_intro); exact rfl) | (with_reducible refine guardD_intro (fun _ => ?_) (fun _ => ?_)) | ((with_reducible apply call_eq (g89 hP p hs hports hev)); exact rfl; exact rfl) | ((with_reducible apply call_fzeq (g89 hP p hs hports hev)); exact rfl) | ((with_reducible apply call_eq (g84 hP _)); exact rfl; exact rfl) | ((with_reducible apply call_fzeq (g84 hP _)); exact rfl) | ((with_reducible apply call_eq (g90 hP)); exact rfl; exact rfl) | ((with_reducible apply call_fzeq (g90 hP)); exact rfl)
    all_goals (refine CodeP.mk _ _ ?_; grind [planOk, restOk])
/-- Is the plan in form? -/
theorem g73 (p : PlanS) (hs : p.Ok) : Ans (zG b) P 73 [.agg p.enc] (.c (bC (planOk p))) := by
  refine good_z hP rfl rfl ?_
  simp -implicitDefEqProofs only [go_sem, kbase, Nat.reduceBEq, Nat.reduceLT, Nat.reduceAdd, Nat.reduceEqDiff, Nat.reduceLeDiff, reduceIte, Int.reduceEq, Int.reduceLT, Int.reduceLE, Int.reduceToNat, Int.reduceAdd, r73, PlanS.enc]
  refine call_sn rfl (g79 hP p hs) ?_
  rintro _ ⟨c, q, e⟩
  refine ⟨rfl, ?_⟩
  repeat' first | simp -implicitDefEqProofs only [go_sem, kbase, Nat.reduceBEq, Nat.reduceLT, Nat.reduceAdd, Nat.reduceEqDiff, Nat.reduceLeDiff, reduceIte, Int.reduceEq, Int.reduceLT, Int.reduceLE, Int.reduceToNat, Int.reduceAdd, *] | (with_reducible refine guard_intro (fun _ => ?_) (fun _ => ?_)) | (with_reducible refine cond_intro (fun _ => ?_) (fun _ => ?_)) | ((with_reducible apply gc_intro); exact rfl) | (with_reducible refine guardD_intro (fun _ => ?_) (fun _ => ?_))
  all_goals trace_state
  all_goals grind
end Go.LH.Z
