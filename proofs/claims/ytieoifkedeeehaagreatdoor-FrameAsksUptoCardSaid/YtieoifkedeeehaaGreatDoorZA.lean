/- FrameAsks: the functions without loops. -/
import Derived.Test.YtieoifkedeeehaaGreatDoorZSpec
namespace Go.LH.Z
open Go Go.LH
set_option linter.unusedSimpArgs false
set_option linter.unusedVariables false
set_option maxRecDepth 10000
set_option maxHeartbeats 4000000
def portCode (p : PortP) : Int := if p.kind < 1 ∨ 4 < p.kind then 7 else if p.size < 1 ∨ 32 < p.size then 11 else if p.depth < 1 ∨ 8 < p.depth ∨ (¬ 3 ≤ p.kind ∧ p.depth ≠ 1) then 4 else if p.refresh < 0 ∨ 255 < p.refresh ∨ (p.kind ≠ 1 ∧ p.refresh ≠ 0) then 4 else 0
theorem nilEq_sent {b : Nat → Addr} {g : Nat} : nilEq (.val (sent b g)) (.val .nilIface) = some false := rfl
attribute [go_sem] nilEq_sent
def portG (p : PortP) : Nat := if p.kind < 1 ∨ 4 < p.kind then 9 else if p.size < 1 ∨ 32 < p.size then 12 else 6
def mostP (p : PortP) : Int := if p.kind = 1 then 3 + p.size else if p.kind = 3 then 2 + p.depth * (1 + p.size) else 2
def isPortB (p : PlanS) (n a c : Int) : Bool := decide (0 ≤ n) && decide (n < p.ports.length) && (match p.ports[n.toNat]? with | some q => q.kind == a || q.kind == c | none => false)
def kindZ (c : Cfg) (part port : Int) : Int := match c.parts[part.toNat]? with
  | some p => if 0 ≤ port then match p.ports[port.toNat]? with | some q => q.kind | none => 0 else 0
  | none => 0
variable {P : Program} {b : Nat → Addr} (hP : Codes P)
include hP
theorem g63 : Ans (zG b) P 63 [] (.agg [iC 0, iC (-1)]) := by
  refine good_z hP rfl rfl ?_
  simp -implicitDefEqProofs only [go_sem, kbase, Nat.reduceBEq, Nat.reduceLT, Nat.reduceAdd, Nat.reduceEqDiff, Nat.reduceLeDiff, reduceIte, Int.reduceEq, Int.reduceLT, Int.reduceLE, Int.reduceToNat, Int.reduceAdd, r63]
theorem g90 : Ans (zG b) P 90 [] (.agg [iC 0, iC (-1)]) := by
  refine good_z hP rfl rfl ?_
  simp -implicitDefEqProofs only [go_sem, kbase, Nat.reduceBEq, Nat.reduceLT, Nat.reduceAdd, Nat.reduceEqDiff, Nat.reduceLeDiff, reduceIte, Int.reduceEq, Int.reduceLT, Int.reduceLE, Int.reduceToNat, Int.reduceAdd, r90]
theorem g58 (n : Int) : Ans (zG b) P 58 [.c (iC n)] (.agg [iC n, iC (-1)]) := by
  refine good_z hP rfl rfl ?_
  simp -implicitDefEqProofs only [go_sem, kbase, Nat.reduceBEq, Nat.reduceLT, Nat.reduceAdd, Nat.reduceEqDiff, Nat.reduceLeDiff, reduceIte, Int.reduceEq, Int.reduceLT, Int.reduceLE, Int.reduceToNat, Int.reduceAdd, r58]
theorem g84 (n : Int) : Ans (zG b) P 84 [.c (iC n)] (.agg [iC n, iC (-1)]) := by
  refine good_z hP rfl rfl ?_
  simp -implicitDefEqProofs only [go_sem, kbase, Nat.reduceBEq, Nat.reduceLT, Nat.reduceAdd, Nat.reduceEqDiff, Nat.reduceLeDiff, reduceIte, Int.reduceEq, Int.reduceLT, Int.reduceLE, Int.reduceToNat, Int.reduceAdd, r84]
theorem g41 (c : Cfg) (part : Int) : Ans (zG b) P 41 [.agg c.enc, .c (iC part)] (.c (bC (decide (-1 ≤ part) && decide (part < c.parts.length)))) := by
  refine good_z hP rfl rfl ?_
  simp -implicitDefEqProofs only [go_sem, kbase, Nat.reduceBEq, Nat.reduceLT, Nat.reduceAdd, Nat.reduceEqDiff, Nat.reduceLeDiff, reduceIte, Int.reduceEq, Int.reduceLT, Int.reduceLE, Int.reduceToNat, Int.reduceAdd, r41, Cfg.enc]
  repeat' first | simp -implicitDefEqProofs only [go_sem, kbase, Nat.reduceBEq, Nat.reduceLT, Nat.reduceAdd, Nat.reduceEqDiff, Nat.reduceLeDiff, reduceIte, Int.reduceEq, Int.reduceLT, Int.reduceLE, Int.reduceToNat, Int.reduceAdd, *, Bool.true_and, Bool.false_and] | (with_reducible refine guard_intro (fun _ => ?_) (fun _ => ?_)) | (with_reducible refine cond_intro (fun _ => ?_) (fun _ => ?_)) | ((with_reducible apply gc_intro); exact rfl) | (with_reducible refine guardD_intro (fun _ => ?_) (fun _ => ?_))
theorem g43 (c : Cfg) (part : Int) : Ans (zG b) P 43 [.agg c.enc, .c (iC part)] (.c (bC (decide (0 ≤ part) && decide (part < c.parts.length)))) := by
  refine good_z hP rfl rfl ?_
  simp -implicitDefEqProofs only [go_sem, kbase, Nat.reduceBEq, Nat.reduceLT, Nat.reduceAdd, Nat.reduceEqDiff, Nat.reduceLeDiff, reduceIte, Int.reduceEq, Int.reduceLT, Int.reduceLE, Int.reduceToNat, Int.reduceAdd, r43, Cfg.enc]
  repeat' first | simp -implicitDefEqProofs only [go_sem, kbase, Nat.reduceBEq, Nat.reduceLT, Nat.reduceAdd, Nat.reduceEqDiff, Nat.reduceLeDiff, reduceIte, Int.reduceEq, Int.reduceLT, Int.reduceLE, Int.reduceToNat, Int.reduceAdd, *, Bool.true_and, Bool.false_and] | (with_reducible refine guard_intro (fun _ => ?_) (fun _ => ?_)) | (with_reducible refine cond_intro (fun _ => ?_) (fun _ => ?_)) | ((with_reducible apply gc_intro); exact rfl) | (with_reducible refine guardD_intro (fun _ => ?_) (fun _ => ?_))
theorem g81 (p : PortP) : Ans (zG b) P 81 [.agg p.enc] (.c (bC (p.kind == 1 || p.kind == 3))) := by
  refine good_z hP rfl rfl ?_
  simp -implicitDefEqProofs only [go_sem, kbase, Nat.reduceBEq, Nat.reduceLT, Nat.reduceAdd, Nat.reduceEqDiff, Nat.reduceLeDiff, reduceIte, Int.reduceEq, Int.reduceLT, Int.reduceLE, Int.reduceToNat, Int.reduceAdd, r81, PortP.enc]
  repeat' first | simp -implicitDefEqProofs only [go_sem, kbase, Nat.reduceBEq, Nat.reduceLT, Nat.reduceAdd, Nat.reduceEqDiff, Nat.reduceLeDiff, reduceIte, Int.reduceEq, Int.reduceLT, Int.reduceLE, Int.reduceToNat, Int.reduceAdd, *, Bool.true_or, Bool.false_or] | (with_reducible refine guard_intro (fun _ => ?_) (fun _ => ?_)) | (with_reducible refine cond_intro (fun _ => ?_) (fun _ => ?_)) | ((with_reducible apply gc_intro); exact rfl) | (with_reducible refine guardD_intro (fun _ => ?_) (fun _ => ?_))
theorem g82 (p : PortP) : Ans (zG b) P 82 [.agg p.enc] (.c (bC (p.kind == 2 || p.kind == 4))) := by
  refine good_z hP rfl rfl ?_
  simp -implicitDefEqProofs only [go_sem, kbase, Nat.reduceBEq, Nat.reduceLT, Nat.reduceAdd, Nat.reduceEqDiff, Nat.reduceLeDiff, reduceIte, Int.reduceEq, Int.reduceLT, Int.reduceLE, Int.reduceToNat, Int.reduceAdd, r82, PortP.enc]
  repeat' first | simp -implicitDefEqProofs only [go_sem, kbase, Nat.reduceBEq, Nat.reduceLT, Nat.reduceAdd, Nat.reduceEqDiff, Nat.reduceLeDiff, reduceIte, Int.reduceEq, Int.reduceLT, Int.reduceLE, Int.reduceToNat, Int.reduceAdd, *, Bool.true_or, Bool.false_or] | (with_reducible refine guard_intro (fun _ => ?_) (fun _ => ?_)) | (with_reducible refine cond_intro (fun _ => ?_) (fun _ => ?_)) | ((with_reducible apply gc_intro); exact rfl) | (with_reducible refine guardD_intro (fun _ => ?_) (fun _ => ?_))
theorem g80 (p : PortP) : Ans (zG b) P 80 [.agg p.enc] (.c (bC (p.kind == 3 || p.kind == 4))) := by
  refine good_z hP rfl rfl ?_
  simp -implicitDefEqProofs only [go_sem, kbase, Nat.reduceBEq, Nat.reduceLT, Nat.reduceAdd, Nat.reduceEqDiff, Nat.reduceLeDiff, reduceIte, Int.reduceEq, Int.reduceLT, Int.reduceLE, Int.reduceToNat, Int.reduceAdd, r80, PortP.enc]
  repeat' first | simp -implicitDefEqProofs only [go_sem, kbase, Nat.reduceBEq, Nat.reduceLT, Nat.reduceAdd, Nat.reduceEqDiff, Nat.reduceLeDiff, reduceIte, Int.reduceEq, Int.reduceLT, Int.reduceLE, Int.reduceToNat, Int.reduceAdd, *, Bool.true_or, Bool.false_or] | (with_reducible refine guard_intro (fun _ => ?_) (fun _ => ?_)) | (with_reducible refine cond_intro (fun _ => ?_) (fun _ => ?_)) | ((with_reducible apply gc_intro); exact rfl) | (with_reducible refine guardD_intro (fun _ => ?_) (fun _ => ?_))
theorem g91 (p : PortP) : Ans (zG b) P 91 [.agg p.enc] (.c (iC (portCode p))) := by
  refine good_z hP rfl rfl ?_
  simp -implicitDefEqProofs only [go_sem, kbase, Nat.reduceBEq, Nat.reduceLT, Nat.reduceAdd, Nat.reduceEqDiff, Nat.reduceLeDiff, reduceIte, Int.reduceEq, Int.reduceLT, Int.reduceLE, Int.reduceToNat, Int.reduceAdd, r91, PortP.enc]
  repeat' first | simp -implicitDefEqProofs only [go_sem, kbase, Nat.reduceBEq, Nat.reduceLT, Nat.reduceAdd, Nat.reduceEqDiff, Nat.reduceLeDiff, reduceIte, Int.reduceEq, Int.reduceLT, Int.reduceLE, Int.reduceToNat, Int.reduceAdd, *, Bool.true_or, Bool.false_or] | (with_reducible refine guard_intro (fun _ => ?_) (fun _ => ?_)) | (with_reducible refine cond_intro (fun _ => ?_) (fun _ => ?_)) | ((with_reducible apply gc_intro); exact rfl) | (with_reducible refine guardD_intro (fun _ => ?_) (fun _ => ?_))
  all_goals first | with_reducible rfl | (simp_all [portCode]; done) | (simp_all [portCode]; omega) | (simp_all [portCode]; rw [Bool.eq_iff_iff]; simp; omega)
theorem g42 (c : Cfg) (part : Int) : Ans (zG b) P 42 [.agg c.enc, .c (iC part)] (.c (bC (decide (-1 ≤ part) && decide (part < c.parts.length)))) := by
  refine good_z hP rfl rfl ?_
  simp -implicitDefEqProofs only [go_sem, kbase, Nat.reduceBEq, Nat.reduceLT, Nat.reduceAdd, Nat.reduceEqDiff, Nat.reduceLeDiff, reduceIte, Int.reduceEq, Int.reduceLT, Int.reduceLE, Int.reduceToNat, Int.reduceAdd, r42, Cfg.enc]
  repeat' first | simp -implicitDefEqProofs only [go_sem, kbase, Nat.reduceBEq, Nat.reduceLT, Nat.reduceAdd, Nat.reduceEqDiff, Nat.reduceLeDiff, reduceIte, Int.reduceEq, Int.reduceLT, Int.reduceLE, Int.reduceToNat, Int.reduceAdd, *, Bool.true_or, Bool.false_or] | (with_reducible refine guard_intro (fun _ => ?_) (fun _ => ?_)) | (with_reducible refine cond_intro (fun _ => ?_) (fun _ => ?_)) | ((with_reducible apply gc_intro); exact rfl) | (with_reducible refine guardD_intro (fun _ => ?_) (fun _ => ?_)) | ((with_reducible apply call_eq (g43 hP c _)); exact rfl; exact rfl) | ((with_reducible apply call_fzeq (g43 hP c _)); exact rfl)
  all_goals first | with_reducible rfl | (simp_all []; done) | (simp_all []; omega) | (simp_all []; rw [Bool.eq_iff_iff]; simp; omega)
theorem g76' (p : PortP) : GoodV (zG b) P 76 [.agg p.enc] (fun r => (portCode p = 0 ∧ r = .c (.val .nilIface)) ∨ (portCode p ≠ 0 ∧ r = .c (.val (sent b (portG p))))) := by
  refine good_z hP rfl rfl ?_
  simp -implicitDefEqProofs only [go_sem, kbase, Nat.reduceBEq, Nat.reduceLT, Nat.reduceAdd, Nat.reduceEqDiff, Nat.reduceLeDiff, reduceIte, Int.reduceEq, Int.reduceLT, Int.reduceLE, Int.reduceToNat, Int.reduceAdd, r76, PortP.enc]
  repeat' first | simp -implicitDefEqProofs only [go_sem, kbase, Nat.reduceBEq, Nat.reduceLT, Nat.reduceAdd, Nat.reduceEqDiff, Nat.reduceLeDiff, reduceIte, Int.reduceEq, Int.reduceLT, Int.reduceLE, Int.reduceToNat, Int.reduceAdd, *] | (with_reducible refine guard_intro (fun _ => ?_) (fun _ => ?_)) | (with_reducible refine cond_intro (fun _ => ?_) (fun _ => ?_)) | ((with_reducible apply gc_intro); exact rfl) | (with_reducible refine guardD_intro (fun _ => ?_) (fun _ => ?_)) | ((with_reducible apply call_eq (g80 hP p)); exact rfl; exact rfl) | ((with_reducible apply call_fzeq (g80 hP p)); exact rfl) | ((with_reducible apply call_eq (g81 hP p)); exact rfl; exact rfl) | ((with_reducible apply call_fzeq (g81 hP p)); exact rfl) | ((with_reducible apply call_eq (g82 hP p)); exact rfl; exact rfl) | ((with_reducible apply call_fzeq (g82 hP p)); exact rfl)
  all_goals grind [portCode, portG]
theorem g76 (p : PortP) (h : portCode p = 0) : Ans (zG b) P 76 [.agg p.enc] (.c (.val .nilIface)) := by
  intro w X vs h1 h2 h3
  refine Calls.mono (g76' hP p w X vs h1 h2 h3) ?_
  grind
end Go.LH.Z
