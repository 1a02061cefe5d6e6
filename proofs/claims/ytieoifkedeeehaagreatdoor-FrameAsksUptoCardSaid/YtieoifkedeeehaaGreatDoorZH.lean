/- FrameAsks: the configuration's rules: windows. -/
import Derived.Test.YtieoifkedeeehaaGreatDoorZG
namespace Go.LH.Z
open Go Go.LH
set_option linter.unusedSimpArgs false
set_option linter.unusedVariables false
set_option maxRecDepth 10000
set_option maxHeartbeats 4000000
def ownB (c : Cfg) (part : Int) : Bool := decide (-1 ≤ part) && decide (part < c.parts.length)
def rangeB (c : Cfg) (w : Win) : Bool := decide (0 ≤ w.start) && decide (1 ≤ w.len) && decide (w.start < c.ticks) && decide (w.len ≤ c.ticks - w.start)
def endOf (c : Cfg) : Nat → Int
  | 0 => 0
  | k + 1 => match c.wins[k]? with
    | some v => v.start + v.len
    | none => 0
def winOk (c : Cfg) (i : Nat) : Bool := match c.wins[i]? with
  | some w => ownB c w.part && rangeB c w && decide (endOf c i ≤ w.start)
  | none => true
theorem winOk_at {c : Cfg} {i : Nat} (h : i < c.wins.length) : winOk c i = (ownB c c.wins[i].part && rangeB c c.wins[i] && decide (endOf c i ≤ c.wins[i].start)) := by simp [winOk, h]
theorem endOf_succ {c : Cfg} {i : Nat} (h : i < c.wins.length) : endOf c (i + 1) = c.wins[i].start + c.wins[i].len := by simp [endOf, h]
def winsOk (c : Cfg) : Bool := decide (c.wins.length ≤ 32) && (List.range c.wins.length).all (winOk c) && (List.range c.parts.length).all (fun i => hasB c i)
theorem wsub {c : Cfg} (ht : 1 ≤ c.ticks ∧ c.ticks ≤ 10000) (w : Win) : 0 ≤ w.start → w.start < c.ticks → IntKind.wrap .i64 (c.ticks - w.start) = c.ticks - w.start := fun h1 h2 => wrap2 (by omega) (by omega)
theorem wadd {c : Cfg} (ht : 1 ≤ c.ticks ∧ c.ticks ≤ 10000) (w : Win) : 0 ≤ w.start → w.start < c.ticks → 1 ≤ w.len → w.len ≤ c.ticks - w.start → IntKind.wrap .i64 (w.start + w.len) = w.start + w.len := fun h1 h2 h3 h4 => wrap2 (by omega) (by omega)
variable {P : Program} {b : Nat → Addr} (hP : Codes P)
include hP
theorem g34 (c : Cfg) (hc : c.Ok) (ht : 1 ≤ c.ticks ∧ c.ticks ≤ 10000) : GoodV (zG b) P 34 [.agg c.enc] (ErrP (winsOk c)) := by
  refine good_z hP rfl rfl ?_
  simp -implicitDefEqProofs only [go_sem, kbase, Nat.reduceBEq, Nat.reduceLT, Nat.reduceAdd, Nat.reduceEqDiff, Nat.reduceLeDiff, reduceIte, Int.reduceEq, Int.reduceLT, Int.reduceLE, Int.reduceToNat, Int.reduceAdd, r34, Cfg.enc]
  repeat' first | simp -implicitDefEqProofs only [go_sem, kbase, Nat.reduceBEq, Nat.reduceLT, Nat.reduceAdd, Nat.reduceEqDiff, Nat.reduceLeDiff, reduceIte, Int.reduceEq, Int.reduceLT, Int.reduceLE, Int.reduceToNat, Int.reduceAdd, *] | (with_reducible refine guard_intro (fun _ => ?_) (fun _ => ?_)) | (with_reducible refine cond_intro (fun _ => ?_) (fun _ => ?_)) | ((with_reducible apply gc_intro); exact rfl) | (with_reducible refine guardD_intro (fun _ => ?_) (fun _ => ?_))
  all_goals try (first | ((with_reducible refine ErrP.bad ?_ _ ?_ ?_); (· grind [winsOk]); (· exact rfl); (· exact fun _ => rfl)) | ((with_reducible refine ErrP.bad ?_ _ (by assumption) (by assumption)); (· grind [winsOk])) | ((with_reducible refine ErrP.good ?_); (· grind [winsOk])) | ((with_reducible refine CodeP.mk _ _ ?_); (· grind [winsOk])) | ((with_reducible refine IdxP.mk _ ?_); (· grind [winsOk])))
  refine loop_slots 0 (fun i => c.wins.length - i) (fun i => i ≤ c.wins.length ∧ (List.range i).all (winOk c) = true) (fun i s => sset (sset s 3 (.c (iC (endOf c i)))) 15 (.c (iC (i : Nat)))) rfl ⟨by simp, by simp⟩ ?_
  rintro i ⟨hi, ha⟩
  simp -implicitDefEqProofs only [go_sem, kbase, Nat.reduceBEq, Nat.reduceLT, Nat.reduceAdd, Nat.reduceEqDiff, Nat.reduceLeDiff, reduceIte, Int.reduceEq, Int.reduceLT, Int.reduceLE, Int.reduceToNat, Int.reduceAdd]
  refine cond_intro (fun h => ?_) (fun h => ?_)
  · have hlt : i < c.wins.length := by simpa using h
    have hrow := row_at (e := Win.enc) hlt
    have hw := wrap_succ (n := i) (by have := hc.nwins; omega)
    repeat' first | simp -implicitDefEqProofs only [go_sem, kbase, Nat.reduceBEq, Nat.reduceLT, Nat.reduceAdd, Nat.reduceEqDiff, Nat.reduceLeDiff, reduceIte, Int.reduceEq, Int.reduceLT, Int.reduceLE, Int.reduceToNat, Int.reduceAdd, *, hrow, hw, Win.enc, Int.natCast_nonneg] | (with_reducible refine guard_intro (fun _ => ?_) (fun _ => ?_)) | (with_reducible refine cond_intro (fun _ => ?_) (fun _ => ?_)) | ((with_reducible apply gc_intro); exact rfl) | (with_reducible refine guardD_intro (fun _ => ?_) (fun _ => ?_)) | ((with_reducible apply call_eq (g42 hP c _)); exact rfl; exact rfl) | ((with_reducible apply call_fzeq (g42 hP c _)); exact rfl) | ((with_reducible apply call_eq (g47 hP _ _)); exact rfl; exact rfl) | ((with_reducible apply call_fzeq (g47 hP _ _)); exact rfl)
    all_goals have hwa := winOk_at hlt
    all_goals have hes := endOf_succ hlt
    all_goals have hw2 := wsub ht c.wins[i]
    all_goals have hw3 := wadd ht c.wins[i]
    all_goals try (first | ((with_reducible refine ErrP.bad ?_ _ ?_ ?_); (· grind [rall_no hlt, winsOk, ownB, rangeB]); (· exact rfl); (· exact fun _ => rfl)) | ((with_reducible refine ErrP.bad ?_ _ (by assumption) (by assumption)); (· grind [rall_no hlt, winsOk, ownB, rangeB])) | ((with_reducible refine ErrP.good ?_); (· grind [rall_no hlt, winsOk, ownB, rangeB])) | ((with_reducible refine CodeP.mk _ _ ?_); (· grind [rall_no hlt, winsOk, ownB, rangeB])) | ((with_reducible refine IdxP.mk _ ?_); (· grind [rall_no hlt, winsOk, ownB, rangeB])))
    refine ⟨i + 1, by omega, ⟨by omega, rall_step ha (by grind [ownB, rangeB])⟩, ?_⟩
    have e : IntKind.wrap .i64 (c.wins[i].start + c.wins[i].len) = endOf c (i + 1) := by grind
    rw [e]
  · have hwins := rall_end (by simpa using h) hi ha
    repeat' first | simp -implicitDefEqProofs only [go_sem, kbase, Nat.reduceBEq, Nat.reduceLT, Nat.reduceAdd, Nat.reduceEqDiff, Nat.reduceLeDiff, reduceIte, Int.reduceEq, Int.reduceLT, Int.reduceLE, Int.reduceToNat, Int.reduceAdd, *] | (with_reducible refine guard_intro (fun _ => ?_) (fun _ => ?_)) | (with_reducible refine cond_intro (fun _ => ?_) (fun _ => ?_)) | ((with_reducible apply gc_intro); exact rfl) | (with_reducible refine guardD_intro (fun _ => ?_) (fun _ => ?_))
    refine loop_slots 0 (fun i => c.parts.length - i) (fun i => i ≤ c.parts.length ∧ (List.range i).all (fun i => hasB c i) = true) (fun i s => sset s 75 (.c (iC (i : Nat)))) rfl ⟨by simp, by simp⟩ ?_
    rintro i ⟨hi, ha⟩
    simp -implicitDefEqProofs only [go_sem, kbase, Nat.reduceBEq, Nat.reduceLT, Nat.reduceAdd, Nat.reduceEqDiff, Nat.reduceLeDiff, reduceIte, Int.reduceEq, Int.reduceLT, Int.reduceLE, Int.reduceToNat, Int.reduceAdd]
    refine cond_intro (fun h => ?_) (fun h => ?_)
    · have hlt : i < c.parts.length := by simpa using h
      have hrow := row_at (e := PlanS.enc) hlt
      have hw := wrap_succ (n := i) (by have := hc.nparts; omega)
      repeat' first | simp -implicitDefEqProofs only [go_sem, kbase, Nat.reduceBEq, Nat.reduceLT, Nat.reduceAdd, Nat.reduceEqDiff, Nat.reduceLeDiff, reduceIte, Int.reduceEq, Int.reduceLT, Int.reduceLE, Int.reduceToNat, Int.reduceAdd, *, hrow, hw, PlanS.enc, Int.natCast_nonneg] | (with_reducible refine guard_intro (fun _ => ?_) (fun _ => ?_)) | (with_reducible refine cond_intro (fun _ => ?_) (fun _ => ?_)) | ((with_reducible apply gc_intro); exact rfl) | (with_reducible refine guardD_intro (fun _ => ?_) (fun _ => ?_)) | ((with_reducible apply call_eq (g48 hP c hc _)); exact rfl; exact rfl) | ((with_reducible apply call_fzeq (g48 hP c hc _)); exact rfl) | ((with_reducible apply call_eq (g47 hP _ _)); exact rfl; exact rfl) | ((with_reducible apply call_fzeq (g47 hP _ _)); exact rfl)
      all_goals first | ((with_reducible refine ⟨i + 1, ?_, ⟨?_, ?_⟩, ?_⟩); (· omega); (· omega); (· exact rall_step ha (by grind [winsOk])); (· exact rfl)) | ((with_reducible refine ErrP.bad ?_ _ ?_ ?_); (· grind [rall_no hlt, winsOk]); (· exact rfl); (· exact fun _ => rfl)) | ((with_reducible refine ErrP.bad ?_ _ (by assumption) (by assumption)); (· grind [rall_no hlt, winsOk])) | ((with_reducible refine ErrP.good ?_); (· grind [winsOk])) | ((with_reducible refine CodeP.mk _ _ ?_); (· grind [rall_no hlt, winsOk])) | ((with_reducible refine IdxP.mk _ ?_); (· grind [rall_no hlt, winsOk]))
    · have hall := rall_end (by simpa using h) hi ha
      repeat' first | simp -implicitDefEqProofs only [go_sem, kbase, Nat.reduceBEq, Nat.reduceLT, Nat.reduceAdd, Nat.reduceEqDiff, Nat.reduceLeDiff, reduceIte, Int.reduceEq, Int.reduceLT, Int.reduceLE, Int.reduceToNat, Int.reduceAdd, *] | (with_reducible refine guard_intro (fun _ => ?_) (fun _ => ?_)) | (with_reducible refine cond_intro (fun _ => ?_) (fun _ => ?_)) | ((with_reducible apply gc_intro); exact rfl) | (with_reducible refine guardD_intro (fun _ => ?_) (fun _ => ?_))
      all_goals first | ((with_reducible refine ErrP.bad ?_ _ ?_ ?_); (· grind [winsOk]); (· exact rfl); (· exact fun _ => rfl)) | ((with_reducible refine ErrP.bad ?_ _ (by assumption) (by assumption)); (· grind [winsOk])) | ((with_reducible refine ErrP.good ?_); (· grind [winsOk])) | ((with_reducible refine CodeP.mk _ _ ?_); (· grind [winsOk])) | ((with_reducible refine IdxP.mk _ ?_); (· grind [winsOk]))
theorem g60 (c : Cfg) (hc : c.Ok) (ht : 1 ≤ c.ticks ∧ c.ticks ≤ 10000) : GoodV (zG b) P 60 [.agg c.enc] (CodeP (winsOk c)) := by
  refine good_z hP rfl rfl ?_
  simp -implicitDefEqProofs only [go_sem, kbase, Nat.reduceBEq, Nat.reduceLT, Nat.reduceAdd, Nat.reduceEqDiff, Nat.reduceLeDiff, reduceIte, Int.reduceEq, Int.reduceLT, Int.reduceLE, Int.reduceToNat, Int.reduceAdd, r60, Cfg.enc]
  repeat' first | simp -implicitDefEqProofs only [go_sem, kbase, Nat.reduceBEq, Nat.reduceLT, Nat.reduceAdd, Nat.reduceEqDiff, Nat.reduceLeDiff, reduceIte, Int.reduceEq, Int.reduceLT, Int.reduceLE, Int.reduceToNat, Int.reduceAdd, *] | (with_reducible refine guard_intro (fun _ => ?_) (fun _ => ?_)) | (with_reducible refine cond_intro (fun _ => ?_) (fun _ => ?_)) | ((with_reducible apply gc_intro); exact rfl) | (with_reducible refine guardD_intro (fun _ => ?_) (fun _ => ?_)) | ((with_reducible apply call_eq (g58 hP _)); exact rfl; exact rfl) | ((with_reducible apply call_fzeq (g58 hP _)); exact rfl)
  all_goals try (first | ((with_reducible refine ErrP.bad ?_ _ ?_ ?_); (· grind [winsOk]); (· exact rfl); (· exact fun _ => rfl)) | ((with_reducible refine ErrP.bad ?_ _ (by assumption) (by assumption)); (· grind [winsOk])) | ((with_reducible refine ErrP.good ?_); (· grind [winsOk])) | ((with_reducible refine CodeP.mk _ _ ?_); (· grind [winsOk])) | ((with_reducible refine IdxP.mk _ ?_); (· grind [winsOk])))
  refine loop_slots 0 (fun i => c.wins.length - i) (fun i => i ≤ c.wins.length ∧ (List.range i).all (winOk c) = true) (fun i s => sset s 3 (.c (iC (i : Nat)))) rfl ⟨by simp, by simp⟩ ?_
  rintro i ⟨hi, ha⟩
  simp -implicitDefEqProofs only [go_sem, kbase, Nat.reduceBEq, Nat.reduceLT, Nat.reduceAdd, Nat.reduceEqDiff, Nat.reduceLeDiff, reduceIte, Int.reduceEq, Int.reduceLT, Int.reduceLE, Int.reduceToNat, Int.reduceAdd]
  refine cond_intro (fun h => ?_) (fun h => ?_)
  · have hlt : i < c.wins.length := by simpa using h
    have hrow := row_at (e := Win.enc) hlt
    have hw := wrap_succ (n := i) (by have := hc.nwins; omega)
    cases i with
    | zero =>
      have hrow0 : (c.wins.map Win.enc)[0]? = some c.wins[0].enc := by simp [hlt]
      have hw0 : IntKind.wrap .i64 ((0 : Int) + 1) = ((1 : Nat) : Int) := by decide
      have hw01 : IntKind.wrap .i64 (1 : Int) = ((1 : Nat) : Int) := by decide
      repeat' first | simp -implicitDefEqProofs only [go_sem, kbase, Nat.reduceBEq, Nat.reduceLT, Nat.reduceAdd, Nat.reduceEqDiff, Nat.reduceLeDiff, reduceIte, Int.reduceEq, Int.reduceLT, Int.reduceLE, Int.reduceToNat, Int.reduceAdd, *, hrow0, hrow, hw, Win.enc, Int.natCast_nonneg] | (with_reducible refine guard_intro (fun _ => ?_) (fun _ => ?_)) | (with_reducible refine cond_intro (fun _ => ?_) (fun _ => ?_)) | ((with_reducible apply gc_intro); exact rfl) | (with_reducible refine guardD_intro (fun _ => ?_) (fun _ => ?_)) | ((with_reducible apply call_eq (g41 hP c _)); exact rfl; exact rfl) | ((with_reducible apply call_fzeq (g41 hP c _)); exact rfl)
      all_goals have hwa := winOk_at hlt
      all_goals have hw2 := wsub ht c.wins[0]
      all_goals have he0 : endOf c 0 = 0 := rfl
      all_goals first | exact ⟨1, by omega, ⟨by omega, rall_step ha (by grind [ownB, rangeB])⟩, rfl⟩ | skip
      all_goals (first | ((with_reducible refine ErrP.bad ?_ _ ?_ ?_); (· grind [rall_no hlt, winsOk, ownB, rangeB]); (· exact rfl); (· exact fun _ => rfl)) | ((with_reducible refine ErrP.bad ?_ _ (by assumption) (by assumption)); (· grind [rall_no hlt, winsOk, ownB, rangeB])) | ((with_reducible refine ErrP.good ?_); (· grind [rall_no hlt, winsOk, ownB, rangeB])) | ((with_reducible refine CodeP.mk _ _ ?_); (· grind [rall_no hlt, winsOk, ownB, rangeB])) | ((with_reducible refine IdxP.mk _ ?_); (· grind [rall_no hlt, winsOk, ownB, rangeB])))
    | succ k =>
      have hlt2 : k < c.wins.length := by omega
      have hrow2 := row_at (e := Win.enc) hlt2
      have hs1 : IntKind.wrap .i64 (((k + 1 : Nat) : Int) - 1) = (k : Int) := by rw [wrap2 (by omega) (by have := hc.nwins; omega)]; omega
      repeat' first | simp -implicitDefEqProofs only [go_sem, kbase, Nat.reduceBEq, Nat.reduceLT, Nat.reduceAdd, Nat.reduceEqDiff, Nat.reduceLeDiff, reduceIte, Int.reduceEq, Int.reduceLT, Int.reduceLE, Int.reduceToNat, Int.reduceAdd, *, hrow, hw, hrow2, hs1, Win.enc, Int.natCast_nonneg] | (with_reducible refine guard_intro (fun _ => ?_) (fun _ => ?_)) | (with_reducible refine cond_intro (fun _ => ?_) (fun _ => ?_)) | ((with_reducible apply gc_intro); exact rfl) | (with_reducible refine guardD_intro (fun _ => ?_) (fun _ => ?_)) | ((with_reducible apply call_eq (g41 hP c _)); exact rfl; exact rfl) | ((with_reducible apply call_fzeq (g41 hP c _)); exact rfl)
      all_goals have hwa := winOk_at hlt
      all_goals have hw2 := wsub ht c.wins[k+1]
      all_goals have hpk : winOk c k = true := by rw [List.all_eq_true] at ha; exact ha k (List.mem_range.2 (by omega))
      all_goals have hwk := winOk_at hlt2
      all_goals have hw4 := wadd ht c.wins[k]
      all_goals have he1 := endOf_succ hlt2
      all_goals first | exact ⟨k + 1 + 1, by omega, ⟨by omega, rall_step ha (by grind [ownB, rangeB])⟩, rfl⟩ | skip
      all_goals (first | ((with_reducible refine ErrP.bad ?_ _ ?_ ?_); (· grind [rall_no hlt, winsOk, ownB, rangeB]); (· exact rfl); (· exact fun _ => rfl)) | ((with_reducible refine ErrP.bad ?_ _ (by assumption) (by assumption)); (· grind [rall_no hlt, winsOk, ownB, rangeB])) | ((with_reducible refine ErrP.good ?_); (· grind [rall_no hlt, winsOk, ownB, rangeB])) | ((with_reducible refine CodeP.mk _ _ ?_); (· grind [rall_no hlt, winsOk, ownB, rangeB])) | ((with_reducible refine IdxP.mk _ ?_); (· grind [rall_no hlt, winsOk, ownB, rangeB])))
  · have hwins := rall_end (by simpa using h) hi ha
    repeat' first | simp -implicitDefEqProofs only [go_sem, kbase, Nat.reduceBEq, Nat.reduceLT, Nat.reduceAdd, Nat.reduceEqDiff, Nat.reduceLeDiff, reduceIte, Int.reduceEq, Int.reduceLT, Int.reduceLE, Int.reduceToNat, Int.reduceAdd, *] | (with_reducible refine guard_intro (fun _ => ?_) (fun _ => ?_)) | (with_reducible refine cond_intro (fun _ => ?_) (fun _ => ?_)) | ((with_reducible apply gc_intro); exact rfl) | (with_reducible refine guardD_intro (fun _ => ?_) (fun _ => ?_))
    refine loop_slots 0 (fun i => c.parts.length - i) (fun i => i ≤ c.parts.length ∧ (List.range i).all (fun i => hasB c i) = true) (fun i s => sset s 5 (.c (iC (i : Nat)))) rfl ⟨by simp, by simp⟩ ?_
    rintro i ⟨hi, ha⟩
    simp -implicitDefEqProofs only [go_sem, kbase, Nat.reduceBEq, Nat.reduceLT, Nat.reduceAdd, Nat.reduceEqDiff, Nat.reduceLeDiff, reduceIte, Int.reduceEq, Int.reduceLT, Int.reduceLE, Int.reduceToNat, Int.reduceAdd]
    refine cond_intro (fun h => ?_) (fun h => ?_)
    · have hlt : i < c.parts.length := by simpa using h
      have hrow := row_at (e := PlanS.enc) hlt
      have hw := wrap_succ (n := i) (by have := hc.nparts; omega)
      repeat' first | simp -implicitDefEqProofs only [go_sem, kbase, Nat.reduceBEq, Nat.reduceLT, Nat.reduceAdd, Nat.reduceEqDiff, Nat.reduceLeDiff, reduceIte, Int.reduceEq, Int.reduceLT, Int.reduceLE, Int.reduceToNat, Int.reduceAdd, *, hrow, hw, PlanS.enc, Int.natCast_nonneg] | (with_reducible refine guard_intro (fun _ => ?_) (fun _ => ?_)) | (with_reducible refine cond_intro (fun _ => ?_) (fun _ => ?_)) | ((with_reducible apply gc_intro); exact rfl) | (with_reducible refine guardD_intro (fun _ => ?_) (fun _ => ?_)) | ((with_reducible apply call_eq (g62 hP c hc _)); exact rfl; exact rfl) | ((with_reducible apply call_fzeq (g62 hP c hc _)); exact rfl)
      all_goals first | ((with_reducible refine ⟨i + 1, ?_, ⟨?_, ?_⟩, ?_⟩); (· omega); (· omega); (· exact rall_step ha (by grind [winsOk, count_has])); (· exact rfl)) | ((with_reducible refine ErrP.bad ?_ _ ?_ ?_); (· grind [rall_no hlt, winsOk, count_has]); (· exact rfl); (· exact fun _ => rfl)) | ((with_reducible refine ErrP.bad ?_ _ (by assumption) (by assumption)); (· grind [rall_no hlt, winsOk, count_has])) | ((with_reducible refine ErrP.good ?_); (· grind [winsOk, count_has])) | ((with_reducible refine CodeP.mk _ _ ?_); (· grind [rall_no hlt, winsOk, count_has])) | ((with_reducible refine IdxP.mk _ ?_); (· grind [rall_no hlt, winsOk, count_has]))
    · have hall := rall_end (by simpa using h) hi ha
      repeat' first | simp -implicitDefEqProofs only [go_sem, kbase, Nat.reduceBEq, Nat.reduceLT, Nat.reduceAdd, Nat.reduceEqDiff, Nat.reduceLeDiff, reduceIte, Int.reduceEq, Int.reduceLT, Int.reduceLE, Int.reduceToNat, Int.reduceAdd, *] | (with_reducible refine guard_intro (fun _ => ?_) (fun _ => ?_)) | (with_reducible refine cond_intro (fun _ => ?_) (fun _ => ?_)) | ((with_reducible apply gc_intro); exact rfl) | (with_reducible refine guardD_intro (fun _ => ?_) (fun _ => ?_)) | ((with_reducible apply call_eq (g63 hP)); exact rfl; exact rfl) | ((with_reducible apply call_fzeq (g63 hP)); exact rfl)
      all_goals first | ((with_reducible refine ErrP.bad ?_ _ ?_ ?_); (· grind [winsOk, count_has]); (· exact rfl); (· exact fun _ => rfl)) | ((with_reducible refine ErrP.bad ?_ _ (by assumption) (by assumption)); (· grind [winsOk, count_has])) | ((with_reducible refine ErrP.good ?_); (· grind [winsOk, count_has])) | ((with_reducible refine CodeP.mk _ _ ?_); (· grind [winsOk, count_has])) | ((with_reducible refine IdxP.mk _ ?_); (· grind [winsOk, count_has]))
end Go.LH.Z
