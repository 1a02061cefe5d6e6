/- FrameAsks: more functions without loops. -/
import Derived.Test.YtieoifkedeeehaaGreatDoorZA
namespace Go.LH.Z
open Go Go.LH
set_option linter.unusedSimpArgs false
set_option linter.unusedVariables false
set_option maxRecDepth 10000
set_option maxHeartbeats 4000000
theorem port_ok {p : PortP} (h : portCode p = 0) : 1 ≤ p.kind ∧ p.kind ≤ 4 ∧ 1 ≤ p.size ∧ p.size ≤ 32 ∧ 1 ≤ p.depth ∧ p.depth ≤ 8 ∧ (p.kind < 3 → p.depth = 1) := by grind [portCode]
theorem port_mul {p : PortP} (h : portCode p = 0) : 0 ≤ p.depth * (1 + p.size) ∧ p.depth * (1 + p.size) ≤ 264 := by
  obtain ⟨h1, h2, h3, h4, h5, h6, h7⟩ := port_ok h
  refine ⟨Int.mul_nonneg (by omega) (by omega), ?_⟩
  have : p.depth * (1 + p.size) ≤ 8 * 33 := Int.mul_le_mul (by omega) (by omega) (by omega) (by omega)
  omega
theorem most_ok {p : PortP} (h : portCode p = 0) : 2 ≤ mostP p ∧ mostP p ≤ 266 := by
  have := port_ok h
  have := port_mul h
  grind [mostP]
theorem wrap2 {x : Int} (h : -9223372036854775808 ≤ x) (k : x ≤ 9223372036854775807) : IntKind.wrap .i64 x = x := wrap_id ⟨h, k⟩
variable {P : Program} {b : Nat → Addr} (hP : Codes P)
include hP
theorem g92 (p : PortP) (h : portCode p = 0) : Ans (zG b) P 92 [.agg p.enc] (.tup [.c (iC (mostP p)), .c (iC 0)]) := by
  have h1 := port_ok h
  have h2 := port_mul h
  have w1 : IntKind.wrap .i64 (1 + p.size) = 1 + p.size := wrap2 (by omega) (by omega)
  have w2 : IntKind.wrap .i64 (3 + p.size) = 3 + p.size := wrap2 (by omega) (by omega)
  have w3 : IntKind.wrap .i64 (p.depth * (1 + p.size)) = p.depth * (1 + p.size) := wrap2 (by omega) (by omega)
  have w4 : IntKind.wrap .i64 (2 + p.depth * (1 + p.size)) = 2 + p.depth * (1 + p.size) := wrap2 (by omega) (by omega)
  refine good_z hP rfl rfl ?_
  simp -implicitDefEqProofs only [go_sem, kbase, Nat.reduceBEq, Nat.reduceLT, Nat.reduceAdd, Nat.reduceEqDiff, Nat.reduceLeDiff, reduceIte, Int.reduceEq, Int.reduceLT, Int.reduceLE, Int.reduceToNat, Int.reduceAdd, r92, PortP.enc]
  repeat' first | simp -implicitDefEqProofs only [go_sem, kbase, Nat.reduceBEq, Nat.reduceLT, Nat.reduceAdd, Nat.reduceEqDiff, Nat.reduceLeDiff, reduceIte, Int.reduceEq, Int.reduceLT, Int.reduceLE, Int.reduceToNat, Int.reduceAdd, *, bne_self_eq_false, Int.reduceBNe] | (with_reducible refine guard_intro (fun _ => ?_) (fun _ => ?_)) | (with_reducible refine cond_intro (fun _ => ?_) (fun _ => ?_)) | ((with_reducible apply gc_intro); exact rfl) | (with_reducible refine guardD_intro (fun _ => ?_) (fun _ => ?_)) | ((with_reducible apply call_eq (g91 hP p)); exact rfl; exact rfl) | ((with_reducible apply call_fzeq (g91 hP p)); exact rfl)
  all_goals grind [mostP]
theorem g83 (p : PortP) (h : portCode p = 0) : Ans (zG b) P 83 [.agg p.enc] (.tup [.c (iC (mostP p)), .c (.val .nilIface)]) := by
  have h1 := port_ok h
  have h2 := port_mul h
  have w1 : IntKind.wrap .i64 (1 + p.size) = 1 + p.size := wrap2 (by omega) (by omega)
  have w3 : IntKind.wrap .i64 (p.depth * (1 + p.size)) = p.depth * (1 + p.size) := wrap2 (by omega) (by omega)
  have w4 : IntKind.wrap .i64 (2 + p.depth * (1 + p.size)) = 2 + p.depth * (1 + p.size) := wrap2 (by omega) (by omega)
  refine good_z hP rfl rfl ?_
  simp -implicitDefEqProofs only [go_sem, kbase, Nat.reduceBEq, Nat.reduceLT, Nat.reduceAdd, Nat.reduceEqDiff, Nat.reduceLeDiff, reduceIte, Int.reduceEq, Int.reduceLT, Int.reduceLE, Int.reduceToNat, Int.reduceAdd, r83, PortP.enc]
  repeat' first | simp -implicitDefEqProofs only [go_sem, kbase, Nat.reduceBEq, Nat.reduceLT, Nat.reduceAdd, Nat.reduceEqDiff, Nat.reduceLeDiff, reduceIte, Int.reduceEq, Int.reduceLT, Int.reduceLE, Int.reduceToNat, Int.reduceAdd, *, Bool.not_true, Bool.not_false] | (with_reducible refine guard_intro (fun _ => ?_) (fun _ => ?_)) | (with_reducible refine cond_intro (fun _ => ?_) (fun _ => ?_)) | ((with_reducible apply gc_intro); exact rfl) | (with_reducible refine guardD_intro (fun _ => ?_) (fun _ => ?_)) | ((with_reducible apply call_eq (g76 hP p h)); exact rfl; exact rfl) | ((with_reducible apply call_fzeq (g76 hP p h)); exact rfl) | ((with_reducible apply call_eq (g82 hP p)); exact rfl; exact rfl) | ((with_reducible apply call_fzeq (g82 hP p)); exact rfl)
  all_goals grind [mostP]
theorem g49 (p : PlanS) (n a c : Int) : Ans (zG b) P 49 [.agg p.enc, .c (iC n), .c (iC a), .c (iC c)] (.c (bC (isPortB p n a c))) := by
  refine good_z hP rfl rfl ?_
  by_cases hn : 0 ≤ n ∧ n < p.ports.length
  · obtain ⟨k, rfl⟩ : ∃ k : Nat, n = k := ⟨n.toNat, by omega⟩
    have hlt : k < p.ports.length := by omega
    have hrow := row_at (e := PortP.enc) hlt
    simp -implicitDefEqProofs only [go_sem, kbase, Nat.reduceBEq, Nat.reduceLT, Nat.reduceAdd, Nat.reduceEqDiff, Nat.reduceLeDiff, reduceIte, Int.reduceEq, Int.reduceLT, Int.reduceLE, Int.reduceToNat, Int.reduceAdd, r49, PlanS.enc]
    repeat' first | simp -implicitDefEqProofs only [go_sem, kbase, Nat.reduceBEq, Nat.reduceLT, Nat.reduceAdd, Nat.reduceEqDiff, Nat.reduceLeDiff, reduceIte, Int.reduceEq, Int.reduceLT, Int.reduceLE, Int.reduceToNat, Int.reduceAdd, *, PortP.enc, Int.natCast_nonneg] | (with_reducible refine guard_intro (fun _ => ?_) (fun _ => ?_)) | (with_reducible refine cond_intro (fun _ => ?_) (fun _ => ?_)) | ((with_reducible apply gc_intro); exact rfl) | (with_reducible refine guardD_intro (fun _ => ?_) (fun _ => ?_))
    all_goals grind [isPortB]
  · simp -implicitDefEqProofs only [go_sem, kbase, Nat.reduceBEq, Nat.reduceLT, Nat.reduceAdd, Nat.reduceEqDiff, Nat.reduceLeDiff, reduceIte, Int.reduceEq, Int.reduceLT, Int.reduceLE, Int.reduceToNat, Int.reduceAdd, r49, PlanS.enc]
    repeat' first | simp -implicitDefEqProofs only [go_sem, kbase, Nat.reduceBEq, Nat.reduceLT, Nat.reduceAdd, Nat.reduceEqDiff, Nat.reduceLeDiff, reduceIte, Int.reduceEq, Int.reduceLT, Int.reduceLE, Int.reduceToNat, Int.reduceAdd, *] | (with_reducible refine guard_intro (fun _ => ?_) (fun _ => ?_)) | (with_reducible refine cond_intro (fun _ => ?_) (fun _ => ?_)) | ((with_reducible apply gc_intro); exact rfl) | (with_reducible refine guardD_intro (fun _ => ?_) (fun _ => ?_))
    all_goals grind [isPortB]
theorem g74 (c : Cfg) (part port : Int) (h : 0 ≤ part) (h2 : part < c.parts.length) : Ans (zG b) P 74 [.agg c.enc, .c (iC part), .c (iC port)] (.c (iC (kindZ c part port))) := by
  refine good_z hP rfl rfl ?_
  obtain ⟨k, rfl⟩ : ∃ k : Nat, part = k := ⟨part.toNat, by omega⟩
  have hlt : k < c.parts.length := by omega
  have hrow := row_at (e := PlanS.enc) hlt
  have hk : c.parts[((k : Nat) : Int).toNat]? = some c.parts[k] := by simp [hlt]
  by_cases hn : 0 ≤ port ∧ port < c.parts[k].ports.length
  · obtain ⟨n, rfl⟩ : ∃ n : Nat, port = n := ⟨port.toNat, by omega⟩
    have hlt2 : n < c.parts[k].ports.length := by omega
    have hrow2 := row_at (e := PortP.enc) hlt2
    have hk2 : c.parts[k].ports[((n : Nat) : Int).toNat]? = some c.parts[k].ports[n] := by simp [hlt2]
    simp -implicitDefEqProofs only [go_sem, kbase, Nat.reduceBEq, Nat.reduceLT, Nat.reduceAdd, Nat.reduceEqDiff, Nat.reduceLeDiff, reduceIte, Int.reduceEq, Int.reduceLT, Int.reduceLE, Int.reduceToNat, Int.reduceAdd, r74, Cfg.enc]
    repeat' first | simp -implicitDefEqProofs only [go_sem, kbase, Nat.reduceBEq, Nat.reduceLT, Nat.reduceAdd, Nat.reduceEqDiff, Nat.reduceLeDiff, reduceIte, Int.reduceEq, Int.reduceLT, Int.reduceLE, Int.reduceToNat, Int.reduceAdd, *, PlanS.enc, PortP.enc, Int.natCast_nonneg] | (with_reducible refine guard_intro (fun _ => ?_) (fun _ => ?_)) | (with_reducible refine cond_intro (fun _ => ?_) (fun _ => ?_)) | ((with_reducible apply gc_intro); exact rfl) | (with_reducible refine guardD_intro (fun _ => ?_) (fun _ => ?_))
    all_goals grind [kindZ]
  · simp -implicitDefEqProofs only [go_sem, kbase, Nat.reduceBEq, Nat.reduceLT, Nat.reduceAdd, Nat.reduceEqDiff, Nat.reduceLeDiff, reduceIte, Int.reduceEq, Int.reduceLT, Int.reduceLE, Int.reduceToNat, Int.reduceAdd, r74, Cfg.enc]
    repeat' first | simp -implicitDefEqProofs only [go_sem, kbase, Nat.reduceBEq, Nat.reduceLT, Nat.reduceAdd, Nat.reduceEqDiff, Nat.reduceLeDiff, reduceIte, Int.reduceEq, Int.reduceLT, Int.reduceLE, Int.reduceToNat, Int.reduceAdd, *, PlanS.enc, Int.natCast_nonneg] | (with_reducible refine guard_intro (fun _ => ?_) (fun _ => ?_)) | (with_reducible refine cond_intro (fun _ => ?_) (fun _ => ?_)) | ((with_reducible apply gc_intro); exact rfl) | (with_reducible refine guardD_intro (fun _ => ?_) (fun _ => ?_))
    all_goals grind [kindZ]
theorem g45 (l : Lnk) (part : Int) : Ans (zG b) P 45 [.agg l.enc, .c (.rp [iC part])] (.c (bC (l.src == part || l.dst == part))) := by
  refine good_z hP rfl rfl ?_
  simp -implicitDefEqProofs only [go_sem, kbase, Nat.reduceBEq, Nat.reduceLT, Nat.reduceAdd, Nat.reduceEqDiff, Nat.reduceLeDiff, reduceIte, Int.reduceEq, Int.reduceLT, Int.reduceLE, Int.reduceToNat, Int.reduceAdd, r45, Lnk.enc]
  repeat' first | simp -implicitDefEqProofs only [go_sem, kbase, Nat.reduceBEq, Nat.reduceLT, Nat.reduceAdd, Nat.reduceEqDiff, Nat.reduceLeDiff, reduceIte, Int.reduceEq, Int.reduceLT, Int.reduceLE, Int.reduceToNat, Int.reduceAdd, *] | (with_reducible refine guard_intro (fun _ => ?_) (fun _ => ?_)) | (with_reducible refine cond_intro (fun _ => ?_) (fun _ => ?_)) | ((with_reducible apply gc_intro); exact rfl) | (with_reducible refine guardD_intro (fun _ => ?_) (fun _ => ?_))
  all_goals grind
theorem g69 (w : Win) (part : Int) : Ans (zG b) P 69 [.agg w.enc, .c (.rp [iC part])] (.c (bC (w.part == part))) := by
  refine good_z hP rfl rfl ?_
  simp -implicitDefEqProofs only [go_sem, kbase, Nat.reduceBEq, Nat.reduceLT, Nat.reduceAdd, Nat.reduceEqDiff, Nat.reduceLeDiff, reduceIte, Int.reduceEq, Int.reduceLT, Int.reduceLE, Int.reduceToNat, Int.reduceAdd, r69, Win.enc]
  repeat' first | simp -implicitDefEqProofs only [go_sem, kbase, Nat.reduceBEq, Nat.reduceLT, Nat.reduceAdd, Nat.reduceEqDiff, Nat.reduceLeDiff, reduceIte, Int.reduceEq, Int.reduceLT, Int.reduceLE, Int.reduceToNat, Int.reduceAdd, *] | (with_reducible refine guard_intro (fun _ => ?_) (fun _ => ?_)) | (with_reducible refine cond_intro (fun _ => ?_) (fun _ => ?_)) | ((with_reducible apply gc_intro); exact rfl) | (with_reducible refine guardD_intro (fun _ => ?_) (fun _ => ?_))
theorem g51 (p : PlanS) : Ans (zG b) P 51 [.agg p.enc] (.c (bC p.mobile)) := by
  refine good_z hP rfl rfl ?_
  simp -implicitDefEqProofs only [go_sem, kbase, Nat.reduceBEq, Nat.reduceLT, Nat.reduceAdd, Nat.reduceEqDiff, Nat.reduceLeDiff, reduceIte, Int.reduceEq, Int.reduceLT, Int.reduceLE, Int.reduceToNat, Int.reduceAdd, r51, PlanS.enc]
theorem g47 (n : Int) (e : Value) : Ans (zG b) P 47 [.c (iC n), .c (.val e)] (.c (.ifc 90 (.rp [iC n, .val e]))) := by
  refine good_z hP rfl rfl ?_
  simp -implicitDefEqProofs only [go_sem, kbase, Nat.reduceBEq, Nat.reduceLT, Nat.reduceAdd, Nat.reduceEqDiff, Nat.reduceLeDiff, reduceIte, Int.reduceEq, Int.reduceLT, Int.reduceLE, Int.reduceToNat, Int.reduceAdd, r47]
theorem g75 (n : Int) (e : Value) : Ans (zG b) P 75 [.c (iC n), .c (.val e)] (.c (.ifc 90 (.rp [iC n, .val e]))) := by
  refine good_z hP rfl rfl ?_
  simp -implicitDefEqProofs only [go_sem, kbase, Nat.reduceBEq, Nat.reduceLT, Nat.reduceAdd, Nat.reduceEqDiff, Nat.reduceLeDiff, reduceIte, Int.reduceEq, Int.reduceLT, Int.reduceLE, Int.reduceToNat, Int.reduceAdd, r75]
end Go.LH.Z
