/- Link: New, Made, find, add. -/
import Derived.Test.YtieoifkedeeehaaDoorKSpec
namespace Go.LH.K
open Go Go.LH
set_option linter.unusedSimpArgs false
set_option linter.unusedVariables false
set_option maxRecDepth 10000
set_option maxHeartbeats 4000000
variable {P : Program} {b : Nat → Addr} (hP : Codes P)
include hP
theorem h_new : AnsH (zG b) P 6 [] [] (.c (.np 0 0 0 0)) (LHp []) := by
  refine good_h hP rfl rfl ?_
  simp -implicitDefEqProofs only [go_sem, kbase, Nat.reduceBEq, Nat.reduceLT, Nat.reduceAdd, Nat.reduceEqDiff, Nat.reduceLeDiff, reduceIte, Int.reduceEq, Int.reduceLT, Int.reduceLE, Int.reduceToNat, Int.reduceAdd, r6]
  repeat' first | simp -implicitDefEqProofs only [go_sem, kbase, Nat.reduceBEq, Nat.reduceLT, Nat.reduceAdd, Nat.reduceEqDiff, Nat.reduceLeDiff, reduceIte, Int.reduceEq, Int.reduceLT, Int.reduceLE, Int.reduceToNat, Int.reduceAdd, *] | (with_reducible refine guard_intro (fun _ => ?_) (fun _ => ?_)) | (with_reducible refine cond_intro (fun _ => ?_) (fun _ => ?_)) | ((with_reducible apply gc_intro); exact rfl) | ((with_reducible apply endE_intro); exact rfl; exact rfl) | (with_reducible refine guardD_intro (fun _ => ?_) (fun _ => ?_))
  all_goals first | exact rfl | exact ⟨rfl, rfl⟩ | (simp []; done)
theorem h_made (s : Sg) : AnsH (zG b) P 18 [.c (.np 0 0 0 0)] (LHp s) (.c (iC s.length)) (LHp s) := by
  refine good_h hP rfl rfl ?_
  simp -implicitDefEqProofs only [go_sem, kbase, Nat.reduceBEq, Nat.reduceLT, Nat.reduceAdd, Nat.reduceEqDiff, Nat.reduceLeDiff, reduceIte, Int.reduceEq, Int.reduceLT, Int.reduceLE, Int.reduceToNat, Int.reduceAdd, r18, LHp]
  repeat' first | simp -implicitDefEqProofs only [go_sem, kbase, Nat.reduceBEq, Nat.reduceLT, Nat.reduceAdd, Nat.reduceEqDiff, Nat.reduceLeDiff, reduceIte, Int.reduceEq, Int.reduceLT, Int.reduceLE, Int.reduceToNat, Int.reduceAdd, *, LHp] | (with_reducible refine guard_intro (fun _ => ?_) (fun _ => ?_)) | (with_reducible refine cond_intro (fun _ => ?_) (fun _ => ?_)) | ((with_reducible apply gc_intro); exact rfl) | ((with_reducible apply endE_intro); exact rfl; exact rfl) | (with_reducible refine guardD_intro (fun _ => ?_) (fun _ => ?_))
  all_goals first | exact rfl | exact ⟨rfl, rfl⟩ | (simp []; done)
theorem h_find_none {s : Sg} {n : Int} (h : findS s n = none) : AnsH (zG b) P 31 [.c (.np 0 0 0 0), .c (iC n)] (LHp s) (.tup [.agg zero4, .c (.val (sent b 12))]) (LHp s) := by
  have hm := es_none h
  refine good_h hP rfl rfl ?_
  simp -implicitDefEqProofs only [go_sem, kbase, Nat.reduceBEq, Nat.reduceLT, Nat.reduceAdd, Nat.reduceEqDiff, Nat.reduceLeDiff, reduceIte, Int.reduceEq, Int.reduceLT, Int.reduceLE, Int.reduceToNat, Int.reduceAdd, r31, LHp]
  repeat' first | simp -implicitDefEqProofs only [go_sem, kbase, Nat.reduceBEq, Nat.reduceLT, Nat.reduceAdd, Nat.reduceEqDiff, Nat.reduceLeDiff, reduceIte, Int.reduceEq, Int.reduceLT, Int.reduceLE, Int.reduceToNat, Int.reduceAdd, *] | (with_reducible refine guard_intro (fun _ => ?_) (fun _ => ?_)) | (with_reducible refine cond_intro (fun _ => ?_) (fun _ => ?_)) | ((with_reducible apply gc_intro); exact rfl) | ((with_reducible apply endE_intro); exact rfl; exact rfl) | (with_reducible refine guardD_intro (fun _ => ?_) (fun _ => ?_))
  all_goals first | exact rfl | exact ⟨rfl, rfl⟩ | (simp []; done)
theorem h_find_some {s : Sg} {n : Int} {x : LS} (h : findS s n = some x) : AnsH (zG b) P 31 [.c (.np 0 0 0 0), .c (iC n)] (LHp s) (.tup [.agg (lrow x), .c (.val .nilIface)]) (LHp s) := by
  obtain ⟨_, _, _, p, hm, _⟩ := es_some h
  refine good_h hP rfl rfl ?_
  simp -implicitDefEqProofs only [go_sem, kbase, Nat.reduceBEq, Nat.reduceLT, Nat.reduceAdd, Nat.reduceEqDiff, Nat.reduceLeDiff, reduceIte, Int.reduceEq, Int.reduceLT, Int.reduceLE, Int.reduceToNat, Int.reduceAdd, r31, LHp]
  repeat' first | simp -implicitDefEqProofs only [go_sem, kbase, Nat.reduceBEq, Nat.reduceLT, Nat.reduceAdd, Nat.reduceEqDiff, Nat.reduceLeDiff, reduceIte, Int.reduceEq, Int.reduceLT, Int.reduceLE, Int.reduceToNat, Int.reduceAdd, *, lrow] | (with_reducible refine guard_intro (fun _ => ?_) (fun _ => ?_)) | (with_reducible refine cond_intro (fun _ => ?_) (fun _ => ?_)) | ((with_reducible apply gc_intro); exact rfl) | ((with_reducible apply endE_intro); exact rfl; exact rfl) | (with_reducible refine guardD_intro (fun _ => ?_) (fun _ => ?_))
  all_goals first | exact rfl | exact ⟨rfl, rfl⟩ | (simp []; done)
theorem h_add {s : Sg} {x : LS} (h : x.spent = false) (hl : s.length < 1000000000000) : AnsH (zG b) P 30 [.c (.np 0 0 0 0), .agg (lrow x)] (LHp s) (.c (iC (s.length + 1 : Nat))) (LHp (s ++ [x])) := by
  have hm := es_new (s := s) h
  have hw := wrap_succ (n := s.length) (by omega)
  refine good_h hP rfl rfl ?_
  simp -implicitDefEqProofs only [go_sem, kbase, Nat.reduceBEq, Nat.reduceLT, Nat.reduceAdd, Nat.reduceEqDiff, Nat.reduceLeDiff, reduceIte, Int.reduceEq, Int.reduceLT, Int.reduceLE, Int.reduceToNat, Int.reduceAdd, r30, LHp]
  repeat' first | simp -implicitDefEqProofs only [go_sem, kbase, Nat.reduceBEq, Nat.reduceLT, Nat.reduceAdd, Nat.reduceEqDiff, Nat.reduceLeDiff, reduceIte, Int.reduceEq, Int.reduceLT, Int.reduceLE, Int.reduceToNat, Int.reduceAdd, *, lrow] | (with_reducible refine guard_intro (fun _ => ?_) (fun _ => ?_)) | (with_reducible refine cond_intro (fun _ => ?_) (fun _ => ?_)) | ((with_reducible apply gc_intro); exact rfl) | ((with_reducible apply endE_intro); exact rfl; exact rfl) | (with_reducible refine guardD_intro (fun _ => ?_) (fun _ => ?_))
  all_goals first | exact rfl | exact ⟨rfl, rfl⟩ | (simp [LHp]; done)
end Go.LH.K
