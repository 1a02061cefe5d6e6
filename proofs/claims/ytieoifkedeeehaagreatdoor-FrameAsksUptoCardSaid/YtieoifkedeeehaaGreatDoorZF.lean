/- FrameAsks: searches. -/
import Derived.Test.YtieoifkedeeehaaGreatDoorZE
namespace Go.LH.Z
open Go Go.LH
set_option linter.unusedSimpArgs false
set_option linter.unusedVariables false
set_option maxRecDepth 10000
set_option maxHeartbeats 4000000
theorem rall_step {p : Nat → Bool} {i : Nat} (ha : (List.range i).all p = true) (hp : p i = true) : (List.range (i + 1)).all p = true := by
  rw [List.range_succ, List.all_append, ha]; simp [hp]
theorem rall_end {p : Nat → Bool} {i n : Nat} (h : n ≤ i) (hi : i ≤ n) (ha : (List.range i).all p = true) : (List.range n).all p = true := by
  have : i = n := by omega
  rwa [this] at ha
theorem rall_no {p : Nat → Bool} {i n : Nat} (h : i < n) (hp : p i = false) : (List.range n).all p = false := by
  rw [List.all_eq_false]; exact ⟨i, List.mem_range.2 h, by simp [hp]⟩
/-- A place, or -1. -/
inductive IdxP (a : Bool) : Sv → Prop
  | mk (k : Int) (h : 0 ≤ k ↔ a = true) : IdxP a (.c (iC k))
def anyB {α : Type} (p : α → Bool) (l : List α) : Bool := !(l.all fun x => !p x)
def hasB (c : Cfg) (i : Int) : Bool := anyB (fun w => w.part == i) c.wins
def joinB (c : Cfg) (i : Int) : Bool := anyB (fun l => l.src == i || l.dst == i) c.links
def mobB (c : Cfg) : Bool := anyB (fun p => p.mobile) c.parts
def countZ (c : Cfg) (part : Int) : Nat := c.wins.countP (fun w => w.part == part)
theorem count_has (c : Cfg) (part : Int) : countZ c part = 0 ↔ hasB c part = false := by
  simp [countZ, hasB, anyB, List.countP_eq_zero]
variable {P : Program} {b : Nat → Addr} (hP : Codes P)
include hP
theorem g78 (l : List Win) (part : Int) (hn : l.length ≤ 4294967296) : GoodV (zG b) P 78 [.c (.sl 3 (l.map Win.enc)), .c (.fn (.func 69) [.rp [iC part]])] (IdxP (anyB (fun w => w.part == part) l)) := by
  refine good_z hP rfl rfl ?_
  simp -implicitDefEqProofs only [go_sem, kbase, Nat.reduceBEq, Nat.reduceLT, Nat.reduceAdd, Nat.reduceEqDiff, Nat.reduceLeDiff, reduceIte, Int.reduceEq, Int.reduceLT, Int.reduceLE, Int.reduceToNat, Int.reduceAdd, r78]
  repeat' first | simp -implicitDefEqProofs only [go_sem, kbase, Nat.reduceBEq, Nat.reduceLT, Nat.reduceAdd, Nat.reduceEqDiff, Nat.reduceLeDiff, reduceIte, Int.reduceEq, Int.reduceLT, Int.reduceLE, Int.reduceToNat, Int.reduceAdd, *] | (with_reducible refine guard_intro (fun _ => ?_) (fun _ => ?_)) | (with_reducible refine cond_intro (fun _ => ?_) (fun _ => ?_)) | ((with_reducible apply gc_intro); exact rfl) | (with_reducible refine guardD_intro (fun _ => ?_) (fun _ => ?_))
  refine loop_slots 0 (fun i => l.length - i) (fun i => i ≤ l.length ∧ (l.take i).all (fun w => !(w.part == part)) = true) (fun i s => sset s 8 (.c (iC (i : Nat)))) rfl ⟨by simp, by simp⟩ ?_
  rintro i ⟨hi, ha⟩
  simp -implicitDefEqProofs only [go_sem, kbase, Nat.reduceBEq, Nat.reduceLT, Nat.reduceAdd, Nat.reduceEqDiff, Nat.reduceLeDiff, reduceIte, Int.reduceEq, Int.reduceLT, Int.reduceLE, Int.reduceToNat, Int.reduceAdd]
  refine cond_intro (fun h => ?_) (fun h => ?_)
  · have hlt : i < l.length := by simpa using h
    have hrow := row_at (e := Win.enc) hlt
    have hw := wrap_succ (n := i) (by have := hn; omega)
    have hcl : callable P 69 = true := (hP 69 r69 rfl).1
    repeat' first | simp -implicitDefEqProofs only [go_sem, kbase, Nat.reduceBEq, Nat.reduceLT, Nat.reduceAdd, Nat.reduceEqDiff, Nat.reduceLeDiff, reduceIte, Int.reduceEq, Int.reduceLT, Int.reduceLE, Int.reduceToNat, Int.reduceAdd, *, hrow, hw, Win.enc, Int.natCast_nonneg] | (with_reducible refine guard_intro (fun _ => ?_) (fun _ => ?_)) | (with_reducible refine cond_intro (fun _ => ?_) (fun _ => ?_)) | ((with_reducible apply gc_intro); exact rfl) | (with_reducible refine guardD_intro (fun _ => ?_) (fun _ => ?_)) | ((with_reducible apply call_eq (g69 hP _ part)); exact rfl; exact rfl) | ((with_reducible apply call_fzeq (g69 hP _ part)); exact rfl)
    all_goals first | ((with_reducible refine ⟨i + 1, ?_, ⟨?_, ?_⟩, ?_⟩); (· omega); (· omega); (· exact all_step hlt ha (by grind [anyB])); (· exact rfl)) | ((with_reducible refine ErrP.bad ?_ _ ?_ ?_); (· grind [all_no hlt, anyB]); (· exact rfl); (· exact fun _ => rfl)) | ((with_reducible refine ErrP.bad ?_ _ (by assumption) (by assumption)); (· grind [all_no hlt, anyB])) | ((with_reducible refine ErrP.good ?_); (· grind [anyB])) | ((with_reducible refine CodeP.mk _ _ ?_); (· grind [all_no hlt, anyB])) | ((with_reducible refine IdxP.mk _ ?_); (· grind [all_no hlt, anyB]))
  · have hall := all_end (by simpa using h) ha
    repeat' first | simp -implicitDefEqProofs only [go_sem, kbase, Nat.reduceBEq, Nat.reduceLT, Nat.reduceAdd, Nat.reduceEqDiff, Nat.reduceLeDiff, reduceIte, Int.reduceEq, Int.reduceLT, Int.reduceLE, Int.reduceToNat, Int.reduceAdd, *] | (with_reducible refine guard_intro (fun _ => ?_) (fun _ => ?_)) | (with_reducible refine cond_intro (fun _ => ?_) (fun _ => ?_)) | ((with_reducible apply gc_intro); exact rfl) | (with_reducible refine guardD_intro (fun _ => ?_) (fun _ => ?_))
    all_goals first | ((with_reducible refine ErrP.bad ?_ _ ?_ ?_); (· grind [anyB]); (· exact rfl); (· exact fun _ => rfl)) | ((with_reducible refine ErrP.bad ?_ _ (by assumption) (by assumption)); (· grind [anyB])) | ((with_reducible refine ErrP.good ?_); (· grind [anyB])) | ((with_reducible refine CodeP.mk _ _ ?_); (· grind [anyB])) | ((with_reducible refine IdxP.mk _ ?_); (· grind [anyB]))
theorem g68 (l : List Win) (part : Int) (hn : l.length ≤ 4294967296) : Ans (zG b) P 68 [.c (.sl 3 (l.map Win.enc)), .c (.fn (.func 69) [.rp [iC part]])] (.c (bC (anyB (fun w => w.part == part) l))) := by
  refine good_z hP rfl rfl ?_
  simp -implicitDefEqProofs only [go_sem, kbase, Nat.reduceBEq, Nat.reduceLT, Nat.reduceAdd, Nat.reduceEqDiff, Nat.reduceLeDiff, reduceIte, Int.reduceEq, Int.reduceLT, Int.reduceLE, Int.reduceToNat, Int.reduceAdd, r68]
  repeat' first | simp -implicitDefEqProofs only [go_sem, kbase, Nat.reduceBEq, Nat.reduceLT, Nat.reduceAdd, Nat.reduceEqDiff, Nat.reduceLeDiff, reduceIte, Int.reduceEq, Int.reduceLT, Int.reduceLE, Int.reduceToNat, Int.reduceAdd, *] | (with_reducible refine guard_intro (fun _ => ?_) (fun _ => ?_)) | (with_reducible refine cond_intro (fun _ => ?_) (fun _ => ?_)) | ((with_reducible apply gc_intro); exact rfl) | (with_reducible refine guardD_intro (fun _ => ?_) (fun _ => ?_)) | ((with_reducible apply call_sn (hg := g78 hP l part hn)); exact rfl; rintro _ hv; cases hv <;> refine ⟨rfl, ?_⟩)
  all_goals grind
theorem g48 (c : Cfg) (hc : c.Ok) (part : Int) : Ans (zG b) P 48 [.agg c.enc, .c (iC part)] (.c (bC (hasB c part))) := by
  refine good_z hP rfl rfl ?_
  simp -implicitDefEqProofs only [go_sem, kbase, Nat.reduceBEq, Nat.reduceLT, Nat.reduceAdd, Nat.reduceEqDiff, Nat.reduceLeDiff, reduceIte, Int.reduceEq, Int.reduceLT, Int.reduceLE, Int.reduceToNat, Int.reduceAdd, r48, Cfg.enc]
  repeat' first | simp -implicitDefEqProofs only [go_sem, kbase, Nat.reduceBEq, Nat.reduceLT, Nat.reduceAdd, Nat.reduceEqDiff, Nat.reduceLeDiff, reduceIte, Int.reduceEq, Int.reduceLT, Int.reduceLE, Int.reduceToNat, Int.reduceAdd, *] | (with_reducible refine guard_intro (fun _ => ?_) (fun _ => ?_)) | (with_reducible refine cond_intro (fun _ => ?_) (fun _ => ?_)) | ((with_reducible apply gc_intro); exact rfl) | (with_reducible refine guardD_intro (fun _ => ?_) (fun _ => ?_)) | ((with_reducible apply call_eq (g68 hP c.wins part hc.nwins)); exact rfl; exact rfl) | ((with_reducible apply call_fzeq (g68 hP c.wins part hc.nwins)); exact rfl)
  all_goals rfl
theorem g64 (l : List Lnk) (part : Int) (hn : l.length ≤ 4294967296) : GoodV (zG b) P 64 [.c (.sl 4 (l.map Lnk.enc)), .c (.fn (.func 45) [.rp [iC part]])] (IdxP (anyB (fun l => l.src == part || l.dst == part) l)) := by
  refine good_z hP rfl rfl ?_
  simp -implicitDefEqProofs only [go_sem, kbase, Nat.reduceBEq, Nat.reduceLT, Nat.reduceAdd, Nat.reduceEqDiff, Nat.reduceLeDiff, reduceIte, Int.reduceEq, Int.reduceLT, Int.reduceLE, Int.reduceToNat, Int.reduceAdd, r64]
  repeat' first | simp -implicitDefEqProofs only [go_sem, kbase, Nat.reduceBEq, Nat.reduceLT, Nat.reduceAdd, Nat.reduceEqDiff, Nat.reduceLeDiff, reduceIte, Int.reduceEq, Int.reduceLT, Int.reduceLE, Int.reduceToNat, Int.reduceAdd, *] | (with_reducible refine guard_intro (fun _ => ?_) (fun _ => ?_)) | (with_reducible refine cond_intro (fun _ => ?_) (fun _ => ?_)) | ((with_reducible apply gc_intro); exact rfl) | (with_reducible refine guardD_intro (fun _ => ?_) (fun _ => ?_))
  refine loop_slots 0 (fun i => l.length - i) (fun i => i ≤ l.length ∧ (l.take i).all (fun l => !(l.src == part || l.dst == part)) = true) (fun i s => sset s 8 (.c (iC (i : Nat)))) rfl ⟨by simp, by simp⟩ ?_
  rintro i ⟨hi, ha⟩
  simp -implicitDefEqProofs only [go_sem, kbase, Nat.reduceBEq, Nat.reduceLT, Nat.reduceAdd, Nat.reduceEqDiff, Nat.reduceLeDiff, reduceIte, Int.reduceEq, Int.reduceLT, Int.reduceLE, Int.reduceToNat, Int.reduceAdd]
  refine cond_intro (fun h => ?_) (fun h => ?_)
  · have hlt : i < l.length := by simpa using h
    have hrow := row_at (e := Lnk.enc) hlt
    have hw := wrap_succ (n := i) (by have := hn; omega)
    have hcl : callable P 45 = true := (hP 45 r45 rfl).1
    repeat' first | simp -implicitDefEqProofs only [go_sem, kbase, Nat.reduceBEq, Nat.reduceLT, Nat.reduceAdd, Nat.reduceEqDiff, Nat.reduceLeDiff, reduceIte, Int.reduceEq, Int.reduceLT, Int.reduceLE, Int.reduceToNat, Int.reduceAdd, *, hrow, hw, Lnk.enc, Int.natCast_nonneg] | (with_reducible refine guard_intro (fun _ => ?_) (fun _ => ?_)) | (with_reducible refine cond_intro (fun _ => ?_) (fun _ => ?_)) | ((with_reducible apply gc_intro); exact rfl) | (with_reducible refine guardD_intro (fun _ => ?_) (fun _ => ?_)) | ((with_reducible apply call_eq (g45 hP _ part)); exact rfl; exact rfl) | ((with_reducible apply call_fzeq (g45 hP _ part)); exact rfl)
    all_goals first | ((with_reducible refine ⟨i + 1, ?_, ⟨?_, ?_⟩, ?_⟩); (· omega); (· omega); (· exact all_step hlt ha (by grind [anyB])); (· exact rfl)) | ((with_reducible refine ErrP.bad ?_ _ ?_ ?_); (· grind [all_no hlt, anyB]); (· exact rfl); (· exact fun _ => rfl)) | ((with_reducible refine ErrP.bad ?_ _ (by assumption) (by assumption)); (· grind [all_no hlt, anyB])) | ((with_reducible refine ErrP.good ?_); (· grind [anyB])) | ((with_reducible refine CodeP.mk _ _ ?_); (· grind [all_no hlt, anyB])) | ((with_reducible refine IdxP.mk _ ?_); (· grind [all_no hlt, anyB]))
  · have hall := all_end (by simpa using h) ha
    repeat' first | simp -implicitDefEqProofs only [go_sem, kbase, Nat.reduceBEq, Nat.reduceLT, Nat.reduceAdd, Nat.reduceEqDiff, Nat.reduceLeDiff, reduceIte, Int.reduceEq, Int.reduceLT, Int.reduceLE, Int.reduceToNat, Int.reduceAdd, *] | (with_reducible refine guard_intro (fun _ => ?_) (fun _ => ?_)) | (with_reducible refine cond_intro (fun _ => ?_) (fun _ => ?_)) | ((with_reducible apply gc_intro); exact rfl) | (with_reducible refine guardD_intro (fun _ => ?_) (fun _ => ?_))
    all_goals first | ((with_reducible refine ErrP.bad ?_ _ ?_ ?_); (· grind [anyB]); (· exact rfl); (· exact fun _ => rfl)) | ((with_reducible refine ErrP.bad ?_ _ (by assumption) (by assumption)); (· grind [anyB])) | ((with_reducible refine ErrP.good ?_); (· grind [anyB])) | ((with_reducible refine CodeP.mk _ _ ?_); (· grind [anyB])) | ((with_reducible refine IdxP.mk _ ?_); (· grind [anyB]))
theorem g44 (l : List Lnk) (part : Int) (hn : l.length ≤ 4294967296) : Ans (zG b) P 44 [.c (.sl 4 (l.map Lnk.enc)), .c (.fn (.func 45) [.rp [iC part]])] (.c (bC (anyB (fun l => l.src == part || l.dst == part) l))) := by
  refine good_z hP rfl rfl ?_
  simp -implicitDefEqProofs only [go_sem, kbase, Nat.reduceBEq, Nat.reduceLT, Nat.reduceAdd, Nat.reduceEqDiff, Nat.reduceLeDiff, reduceIte, Int.reduceEq, Int.reduceLT, Int.reduceLE, Int.reduceToNat, Int.reduceAdd, r44]
  repeat' first | simp -implicitDefEqProofs only [go_sem, kbase, Nat.reduceBEq, Nat.reduceLT, Nat.reduceAdd, Nat.reduceEqDiff, Nat.reduceLeDiff, reduceIte, Int.reduceEq, Int.reduceLT, Int.reduceLE, Int.reduceToNat, Int.reduceAdd, *] | (with_reducible refine guard_intro (fun _ => ?_) (fun _ => ?_)) | (with_reducible refine cond_intro (fun _ => ?_) (fun _ => ?_)) | ((with_reducible apply gc_intro); exact rfl) | (with_reducible refine guardD_intro (fun _ => ?_) (fun _ => ?_)) | ((with_reducible apply call_sn (hg := g64 hP l part hn)); exact rfl; rintro _ hv; cases hv <;> refine ⟨rfl, ?_⟩)
  all_goals grind
theorem g70 (l : List PlanS) (hn : l.length ≤ 4294967296) : GoodV (zG b) P 70 [.c (.sl 7 (l.map PlanS.enc)), .c (.fn (.func 51) [])] (IdxP (anyB (fun p => p.mobile) l)) := by
  refine good_z hP rfl rfl ?_
  simp -implicitDefEqProofs only [go_sem, kbase, Nat.reduceBEq, Nat.reduceLT, Nat.reduceAdd, Nat.reduceEqDiff, Nat.reduceLeDiff, reduceIte, Int.reduceEq, Int.reduceLT, Int.reduceLE, Int.reduceToNat, Int.reduceAdd, r70]
  repeat' first | simp -implicitDefEqProofs only [go_sem, kbase, Nat.reduceBEq, Nat.reduceLT, Nat.reduceAdd, Nat.reduceEqDiff, Nat.reduceLeDiff, reduceIte, Int.reduceEq, Int.reduceLT, Int.reduceLE, Int.reduceToNat, Int.reduceAdd, *] | (with_reducible refine guard_intro (fun _ => ?_) (fun _ => ?_)) | (with_reducible refine cond_intro (fun _ => ?_) (fun _ => ?_)) | ((with_reducible apply gc_intro); exact rfl) | (with_reducible refine guardD_intro (fun _ => ?_) (fun _ => ?_))
  refine loop_slots 0 (fun i => l.length - i) (fun i => i ≤ l.length ∧ (l.take i).all (fun p => !p.mobile) = true) (fun i s => sset s 8 (.c (iC (i : Nat)))) rfl ⟨by simp, by simp⟩ ?_
  rintro i ⟨hi, ha⟩
  simp -implicitDefEqProofs only [go_sem, kbase, Nat.reduceBEq, Nat.reduceLT, Nat.reduceAdd, Nat.reduceEqDiff, Nat.reduceLeDiff, reduceIte, Int.reduceEq, Int.reduceLT, Int.reduceLE, Int.reduceToNat, Int.reduceAdd]
  refine cond_intro (fun h => ?_) (fun h => ?_)
  · have hlt : i < l.length := by simpa using h
    have hrow := row_at (e := PlanS.enc) hlt
    have hw := wrap_succ (n := i) (by have := hn; omega)
    have hcl : callable P 51 = true := (hP 51 r51 rfl).1
    repeat' first | simp -implicitDefEqProofs only [go_sem, kbase, Nat.reduceBEq, Nat.reduceLT, Nat.reduceAdd, Nat.reduceEqDiff, Nat.reduceLeDiff, reduceIte, Int.reduceEq, Int.reduceLT, Int.reduceLE, Int.reduceToNat, Int.reduceAdd, *, hrow, hw, PlanS.enc, Int.natCast_nonneg] | (with_reducible refine guard_intro (fun _ => ?_) (fun _ => ?_)) | (with_reducible refine cond_intro (fun _ => ?_) (fun _ => ?_)) | ((with_reducible apply gc_intro); exact rfl) | (with_reducible refine guardD_intro (fun _ => ?_) (fun _ => ?_)) | ((with_reducible apply call_eq (g51 hP l[i])); exact rfl; exact rfl) | ((with_reducible apply call_fzeq (g51 hP l[i])); exact rfl)
    all_goals first | ((with_reducible refine ⟨i + 1, ?_, ⟨?_, ?_⟩, ?_⟩); (· omega); (· omega); (· exact all_step hlt ha (by grind [anyB])); (· exact rfl)) | ((with_reducible refine ErrP.bad ?_ _ ?_ ?_); (· grind [all_no hlt, anyB]); (· exact rfl); (· exact fun _ => rfl)) | ((with_reducible refine ErrP.bad ?_ _ (by assumption) (by assumption)); (· grind [all_no hlt, anyB])) | ((with_reducible refine ErrP.good ?_); (· grind [anyB])) | ((with_reducible refine CodeP.mk _ _ ?_); (· grind [all_no hlt, anyB])) | ((with_reducible refine IdxP.mk _ ?_); (· grind [all_no hlt, anyB]))
  · have hall := all_end (by simpa using h) ha
    repeat' first | simp -implicitDefEqProofs only [go_sem, kbase, Nat.reduceBEq, Nat.reduceLT, Nat.reduceAdd, Nat.reduceEqDiff, Nat.reduceLeDiff, reduceIte, Int.reduceEq, Int.reduceLT, Int.reduceLE, Int.reduceToNat, Int.reduceAdd, *] | (with_reducible refine guard_intro (fun _ => ?_) (fun _ => ?_)) | (with_reducible refine cond_intro (fun _ => ?_) (fun _ => ?_)) | ((with_reducible apply gc_intro); exact rfl) | (with_reducible refine guardD_intro (fun _ => ?_) (fun _ => ?_))
    all_goals first | ((with_reducible refine ErrP.bad ?_ _ ?_ ?_); (· grind [anyB]); (· exact rfl); (· exact fun _ => rfl)) | ((with_reducible refine ErrP.bad ?_ _ (by assumption) (by assumption)); (· grind [anyB])) | ((with_reducible refine ErrP.good ?_); (· grind [anyB])) | ((with_reducible refine CodeP.mk _ _ ?_); (· grind [anyB])) | ((with_reducible refine IdxP.mk _ ?_); (· grind [anyB]))
theorem g50 (l : List PlanS) (hn : l.length ≤ 4294967296) : Ans (zG b) P 50 [.c (.sl 7 (l.map PlanS.enc)), .c (.fn (.func 51) [])] (.c (bC (anyB (fun p => p.mobile) l))) := by
  refine good_z hP rfl rfl ?_
  simp -implicitDefEqProofs only [go_sem, kbase, Nat.reduceBEq, Nat.reduceLT, Nat.reduceAdd, Nat.reduceEqDiff, Nat.reduceLeDiff, reduceIte, Int.reduceEq, Int.reduceLT, Int.reduceLE, Int.reduceToNat, Int.reduceAdd, r50]
  repeat' first | simp -implicitDefEqProofs only [go_sem, kbase, Nat.reduceBEq, Nat.reduceLT, Nat.reduceAdd, Nat.reduceEqDiff, Nat.reduceLeDiff, reduceIte, Int.reduceEq, Int.reduceLT, Int.reduceLE, Int.reduceToNat, Int.reduceAdd, *] | (with_reducible refine guard_intro (fun _ => ?_) (fun _ => ?_)) | (with_reducible refine cond_intro (fun _ => ?_) (fun _ => ?_)) | ((with_reducible apply gc_intro); exact rfl) | (with_reducible refine guardD_intro (fun _ => ?_) (fun _ => ?_)) | ((with_reducible apply call_sn (hg := g70 hP l hn)); exact rfl; rintro _ hv; cases hv <;> refine ⟨rfl, ?_⟩)
  all_goals grind
theorem g62 (c : Cfg) (hc : c.Ok) (part : Int) : Ans (zG b) P 62 [.agg c.enc, .c (iC part)] (.c (iC (countZ c part : Nat))) := by
  refine good_z hP rfl rfl ?_
  have hl := hc.nwins
  simp -implicitDefEqProofs only [go_sem, kbase, Nat.reduceBEq, Nat.reduceLT, Nat.reduceAdd, Nat.reduceEqDiff, Nat.reduceLeDiff, reduceIte, Int.reduceEq, Int.reduceLT, Int.reduceLE, Int.reduceToNat, Int.reduceAdd, r62, Cfg.enc]
  repeat' first | simp -implicitDefEqProofs only [go_sem, kbase, Nat.reduceBEq, Nat.reduceLT, Nat.reduceAdd, Nat.reduceEqDiff, Nat.reduceLeDiff, reduceIte, Int.reduceEq, Int.reduceLT, Int.reduceLE, Int.reduceToNat, Int.reduceAdd, *] | (with_reducible refine guard_intro (fun _ => ?_) (fun _ => ?_)) | (with_reducible refine cond_intro (fun _ => ?_) (fun _ => ?_)) | ((with_reducible apply gc_intro); exact rfl) | (with_reducible refine guardD_intro (fun _ => ?_) (fun _ => ?_))
  refine loop_slots 0 (fun i => c.wins.length - i) (fun i => i ≤ c.wins.length) (fun i s => sset (sset s 5 (.c (iC (((c.wins.take i).countP (fun w => w.part == part)) : Nat)))) 6 (.c (iC (i : Nat)))) rfl (by simp) ?_
  intro i hi
  simp -implicitDefEqProofs only [go_sem, kbase, Nat.reduceBEq, Nat.reduceLT, Nat.reduceAdd, Nat.reduceEqDiff, Nat.reduceLeDiff, reduceIte, Int.reduceEq, Int.reduceLT, Int.reduceLE, Int.reduceToNat, Int.reduceAdd]
  refine cond_intro (fun h => ?_) (fun h => ?_)
  · have hlt : i < c.wins.length := by simpa using h
    have hrow := row_at (e := Win.enc) hlt
    have hw := wrap_succ (n := i) (by omega)
    have hcn : (c.wins.take i).countP (fun w => w.part == part) ≤ i := by
      have := List.countP_le_length (p := fun w : Win => w.part == part) (l := c.wins.take i)
      simp at this; omega
    have hw2 := wrap_succ (n := (c.wins.take i).countP (fun w => w.part == part)) (by omega)
    have hs : (c.wins.take (i + 1)).countP (fun w => w.part == part) = (c.wins.take i).countP (fun w => w.part == part) + (if c.wins[i].part == part then 1 else 0) := by
      rw [List.take_succ_eq_append_getElem hlt, List.countP_append]; simp [List.countP_cons]
    repeat' first | simp -implicitDefEqProofs only [go_sem, kbase, Nat.reduceBEq, Nat.reduceLT, Nat.reduceAdd, Nat.reduceEqDiff, Nat.reduceLeDiff, reduceIte, Int.reduceEq, Int.reduceLT, Int.reduceLE, Int.reduceToNat, Int.reduceAdd, *, hrow, hw, hw2, Win.enc, Int.natCast_nonneg] | (with_reducible refine guard_intro (fun _ => ?_) (fun _ => ?_)) | (with_reducible refine cond_intro (fun _ => ?_) (fun _ => ?_)) | ((with_reducible apply gc_intro); exact rfl) | (with_reducible refine guardD_intro (fun _ => ?_) (fun _ => ?_))
    · refine ⟨i + 1, by omega, by omega, ?_⟩
      rw [hs]; simp_all
    · refine ⟨i + 1, by omega, by omega, ?_⟩
      rw [hs]; simp_all
  · have hge : c.wins.length ≤ i := by simpa using h
    repeat' first | simp -implicitDefEqProofs only [go_sem, kbase, Nat.reduceBEq, Nat.reduceLT, Nat.reduceAdd, Nat.reduceEqDiff, Nat.reduceLeDiff, reduceIte, Int.reduceEq, Int.reduceLT, Int.reduceLE, Int.reduceToNat, Int.reduceAdd, *] | (with_reducible refine guard_intro (fun _ => ?_) (fun _ => ?_)) | (with_reducible refine cond_intro (fun _ => ?_) (fun _ => ?_)) | ((with_reducible apply gc_intro); exact rfl) | (with_reducible refine guardD_intro (fun _ => ?_) (fun _ => ?_))
    rw [List.take_of_length_le hge]; rfl
end Go.LH.Z
