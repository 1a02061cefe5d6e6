/- FrameAsks: the plan's rules, all together. -/
import Derived.Test.YtieoifkedeeehaaGreatDoorZB
namespace Go.LH.Z
open Go Go.LH
set_option linter.unusedSimpArgs false
set_option linter.unusedVariables false
set_option maxRecDepth 10000
set_option maxHeartbeats 4000000
def sumP : List PortP → Int
  | [] => 0
  | x :: l => 3 + mostP x + sumP l
theorem sumP_app (l r : List PortP) : sumP (l ++ r) = sumP l + sumP r := by
  induction l with
  | nil => simp [sumP]
  | cons x l ih => simp only [List.cons_append, sumP, ih]; omega
theorem sumP_take {l : List PortP} {i : Nat} (h : i < l.length) : sumP (l.take (i + 1)) = sumP (l.take i) + (3 + mostP l[i]) := by
  rw [List.take_succ_eq_append_getElem h, sumP_app]; simp [sumP]
theorem sumP_le {l : List PortP} (h : l.all portOk = true) : 0 ≤ sumP l ∧ sumP l ≤ 269 * l.length := by
  induction l with
  | nil => simp [sumP]
  | cons x l ih =>
    simp only [List.all_cons, Bool.and_eq_true] at h
    have h1 := most_ok (p := x) (by simpa [portOk] using h.1)
    have h2 := ih h.2
    simp only [sumP, List.length_cons]
    omega
theorem all_take {α : Type} {p : α → Bool} {l : List α} (i : Nat) (h : l.all p = true) : (l.take i).all p = true := by
  rw [List.all_eq_true] at h ⊢
  intro x hx; exact h x (List.mem_of_mem_take hx)
theorem all_get {α : Type} {p : α → Bool} {l : List α} {i : Nat} (h : l.all p = true) (hi : i < l.length) : p l[i] = true := by
  rw [List.all_eq_true] at h; exact h _ (List.getElem_mem hi)
def baseZ (p : PlanS) : Int := 58 + 76 * p.procs.length + 68 * p.pages.length + p.events + p.sems.length
def boundZ (p : PlanS) : Int := baseZ p + sumP p.ports
def restOk (p : PlanS) : Bool := portsOk p && thingsOk p && decide (boundZ p ≤ 4096)
def planOk (p : PlanS) : Bool := decide (0 ≤ p.id) && decide (p.id ≤ 2147483647) && pagesOk p && procsOk p && restOk p
variable {P : Program} {b : Nat → Addr} (hP : Codes P)
include hP
theorem g76b (p : PortP) (h : portCode p ≠ 0) : Ans (zG b) P 76 [.agg p.enc] (.c (.val (sent b (portG p)))) := by
  intro w X vs h1 h2 h3
  refine Calls.mono (g76' hP p w X vs h1 h2 h3) ?_
  grind
theorem g77 (p : PlanS) (hs : p.Ok) (ho : p.ports.all portOk = true) (he : 0 ≤ p.events ∧ p.events ≤ 8) : Ans (zG b) P 77 [.agg p.enc] (.c (iC (boundZ p))) := by
  have l1 := hs.npages
  have l2 := hs.nprocs
  have l3 := hs.nports
  have l4 := hs.nsems
  have w1 : IntKind.wrap .i64 (76 * (p.procs.length : Int)) = 76 * (p.procs.length : Int) := wrap2 (by omega) (by omega)
  have w2 : IntKind.wrap .i64 (58 + 76 * (p.procs.length : Int)) = 58 + 76 * (p.procs.length : Int) := wrap2 (by omega) (by omega)
  have w3 : IntKind.wrap .i64 (68 * (p.pages.length : Int)) = 68 * (p.pages.length : Int) := wrap2 (by omega) (by omega)
  have w4 : IntKind.wrap .i64 (58 + 76 * (p.procs.length : Int) + 68 * (p.pages.length : Int)) = 58 + 76 * (p.procs.length : Int) + 68 * (p.pages.length : Int) := wrap2 (by omega) (by omega)
  have w5 : IntKind.wrap .i64 (58 + 76 * (p.procs.length : Int) + 68 * (p.pages.length : Int) + p.events) = 58 + 76 * (p.procs.length : Int) + 68 * (p.pages.length : Int) + p.events := wrap2 (by omega) (by omega)
  have w6 : IntKind.wrap .i64 (58 + 76 * (p.procs.length : Int) + 68 * (p.pages.length : Int) + p.events + (p.sems.length : Int)) = baseZ p := wrap2 (by omega) (by omega)
  have hb : 0 ≤ baseZ p ∧ baseZ p ≤ 1000000000000 := by unfold baseZ; omega
  refine good_z hP rfl rfl ?_
  simp -implicitDefEqProofs only [go_sem, kbase, Nat.reduceBEq, Nat.reduceLT, Nat.reduceAdd, Nat.reduceEqDiff, Nat.reduceLeDiff, reduceIte, Int.reduceEq, Int.reduceLT, Int.reduceLE, Int.reduceToNat, Int.reduceAdd, r77, PlanS.enc]
  repeat' first | simp -implicitDefEqProofs only [go_sem, kbase, Nat.reduceBEq, Nat.reduceLT, Nat.reduceAdd, Nat.reduceEqDiff, Nat.reduceLeDiff, reduceIte, Int.reduceEq, Int.reduceLT, Int.reduceLE, Int.reduceToNat, Int.reduceAdd, *] | (with_reducible refine guard_intro (fun _ => ?_) (fun _ => ?_)) | (with_reducible refine cond_intro (fun _ => ?_) (fun _ => ?_)) | ((with_reducible apply gc_intro); exact rfl) | (with_reducible refine guardD_intro (fun _ => ?_) (fun _ => ?_))
  refine loop_slots ((0 : Nat), baseZ p) (fun x => p.ports.length - x.1) (fun x => x.1 ≤ p.ports.length ∧ x.2 = baseZ p + sumP (p.ports.take x.1)) (fun x s => sset (sset s 3 (.c (iC x.2))) 28 (.c (iC (x.1 : Nat)))) rfl ⟨by simp, by simp [sumP]⟩ ?_
  rintro ⟨i, z⟩ ⟨hi, hz⟩
  simp only at hi hz
  subst hz
  simp -implicitDefEqProofs only [go_sem, kbase, Nat.reduceBEq, Nat.reduceLT, Nat.reduceAdd, Nat.reduceEqDiff, Nat.reduceLeDiff, reduceIte, Int.reduceEq, Int.reduceLT, Int.reduceLE, Int.reduceToNat, Int.reduceAdd]
  refine cond_intro (fun h => ?_) (fun h => ?_)
  · have hlt : i < p.ports.length := by simpa using h
    have hrow := row_at (e := PortP.enc) hlt
    have hw := wrap_succ (n := i) (by omega)
    have hp : portCode p.ports[i] = 0 := by simpa [portOk] using all_get ho hlt
    have hm := most_ok hp
    have hle := sumP_le (all_take i ho)
    have hl : (p.ports.take i).length ≤ 4294967296 := by simp; omega
    have v1 : IntKind.wrap .i64 (3 + mostP p.ports[i]) = 3 + mostP p.ports[i] := wrap2 (by omega) (by omega)
    have v2 : IntKind.wrap .i64 (baseZ p + sumP (p.ports.take i) + (3 + mostP p.ports[i])) = baseZ p + sumP (p.ports.take i) + (3 + mostP p.ports[i]) := wrap2 (by omega) (by omega)
    repeat' first | simp -implicitDefEqProofs only [go_sem, kbase, Nat.reduceBEq, Nat.reduceLT, Nat.reduceAdd, Nat.reduceEqDiff, Nat.reduceLeDiff, reduceIte, Int.reduceEq, Int.reduceLT, Int.reduceLE, Int.reduceToNat, Int.reduceAdd, *, hrow, hw, PortP.enc, Int.natCast_nonneg] | (with_reducible refine guard_intro (fun _ => ?_) (fun _ => ?_)) | (with_reducible refine cond_intro (fun _ => ?_) (fun _ => ?_)) | ((with_reducible apply gc_intro); exact rfl) | (with_reducible refine guardD_intro (fun _ => ?_) (fun _ => ?_)) | ((with_reducible apply call_eq (g83 hP _ hp)); exact rfl; exact rfl) | ((with_reducible apply call_fzeq (g83 hP _ hp)); exact rfl)
    exact ⟨(i + 1, baseZ p + sumP (p.ports.take i) + (3 + mostP p.ports[i])), by simp only; omega, ⟨hlt, by simp only [sumP_take hlt]; omega⟩, rfl⟩
  · have hge : p.ports.length ≤ i := by simpa using h
    repeat' first | simp -implicitDefEqProofs only [go_sem, kbase, Nat.reduceBEq, Nat.reduceLT, Nat.reduceAdd, Nat.reduceEqDiff, Nat.reduceLeDiff, reduceIte, Int.reduceEq, Int.reduceLT, Int.reduceLE, Int.reduceToNat, Int.reduceAdd, *] | (with_reducible refine guard_intro (fun _ => ?_) (fun _ => ?_)) | (with_reducible refine cond_intro (fun _ => ?_) (fun _ => ?_)) | ((with_reducible apply gc_intro); exact rfl) | (with_reducible refine guardD_intro (fun _ => ?_) (fun _ => ?_))
    rw [List.take_of_length_le hge]; rfl
theorem g89 (p : PlanS) (hs : p.Ok) (ho : p.ports.all portOk = true) (he : 0 ≤ p.events ∧ p.events ≤ 8) : Ans (zG b) P 89 [.agg p.enc] (.c (iC (boundZ p))) := by
  have l1 := hs.npages
  have l2 := hs.nprocs
  have l3 := hs.nports
  have l4 := hs.nsems
  have w1 : IntKind.wrap .i64 (76 * (p.procs.length : Int)) = 76 * (p.procs.length : Int) := wrap2 (by omega) (by omega)
  have w2 : IntKind.wrap .i64 (58 + 76 * (p.procs.length : Int)) = 58 + 76 * (p.procs.length : Int) := wrap2 (by omega) (by omega)
  have w3 : IntKind.wrap .i64 (68 * (p.pages.length : Int)) = 68 * (p.pages.length : Int) := wrap2 (by omega) (by omega)
  have w4 : IntKind.wrap .i64 (58 + 76 * (p.procs.length : Int) + 68 * (p.pages.length : Int)) = 58 + 76 * (p.procs.length : Int) + 68 * (p.pages.length : Int) := wrap2 (by omega) (by omega)
  have w5 : IntKind.wrap .i64 (58 + 76 * (p.procs.length : Int) + 68 * (p.pages.length : Int) + p.events) = 58 + 76 * (p.procs.length : Int) + 68 * (p.pages.length : Int) + p.events := wrap2 (by omega) (by omega)
  have w6 : IntKind.wrap .i64 (58 + 76 * (p.procs.length : Int) + 68 * (p.pages.length : Int) + p.events + (p.sems.length : Int)) = baseZ p := wrap2 (by omega) (by omega)
  have hb : 0 ≤ baseZ p ∧ baseZ p ≤ 1000000000000 := by unfold baseZ; omega
  refine good_z hP rfl rfl ?_
  simp -implicitDefEqProofs only [go_sem, kbase, Nat.reduceBEq, Nat.reduceLT, Nat.reduceAdd, Nat.reduceEqDiff, Nat.reduceLeDiff, reduceIte, Int.reduceEq, Int.reduceLT, Int.reduceLE, Int.reduceToNat, Int.reduceAdd, r89, PlanS.enc]
  repeat' first | simp -implicitDefEqProofs only [go_sem, kbase, Nat.reduceBEq, Nat.reduceLT, Nat.reduceAdd, Nat.reduceEqDiff, Nat.reduceLeDiff, reduceIte, Int.reduceEq, Int.reduceLT, Int.reduceLE, Int.reduceToNat, Int.reduceAdd, *] | (with_reducible refine guard_intro (fun _ => ?_) (fun _ => ?_)) | (with_reducible refine cond_intro (fun _ => ?_) (fun _ => ?_)) | ((with_reducible apply gc_intro); exact rfl) | (with_reducible refine guardD_intro (fun _ => ?_) (fun _ => ?_))
  refine loop_slots ((0 : Nat), baseZ p) (fun x => p.ports.length - x.1) (fun x => x.1 ≤ p.ports.length ∧ x.2 = baseZ p + sumP (p.ports.take x.1)) (fun x s => sset (sset s 3 (.c (iC x.2))) 4 (.c (iC (x.1 : Nat)))) rfl ⟨by simp, by simp [sumP]⟩ ?_
  rintro ⟨i, z⟩ ⟨hi, hz⟩
  simp only at hi hz
  subst hz
  simp -implicitDefEqProofs only [go_sem, kbase, Nat.reduceBEq, Nat.reduceLT, Nat.reduceAdd, Nat.reduceEqDiff, Nat.reduceLeDiff, reduceIte, Int.reduceEq, Int.reduceLT, Int.reduceLE, Int.reduceToNat, Int.reduceAdd]
  refine cond_intro (fun h => ?_) (fun h => ?_)
  · have hlt : i < p.ports.length := by simpa using h
    have hrow := row_at (e := PortP.enc) hlt
    have hw := wrap_succ (n := i) (by omega)
    have hp : portCode p.ports[i] = 0 := by simpa [portOk] using all_get ho hlt
    have hm := most_ok hp
    have hle := sumP_le (all_take i ho)
    have hl : (p.ports.take i).length ≤ 4294967296 := by simp; omega
    have v1 : IntKind.wrap .i64 (3 + mostP p.ports[i]) = 3 + mostP p.ports[i] := wrap2 (by omega) (by omega)
    have v2 : IntKind.wrap .i64 (baseZ p + sumP (p.ports.take i) + (3 + mostP p.ports[i])) = baseZ p + sumP (p.ports.take i) + (3 + mostP p.ports[i]) := wrap2 (by omega) (by omega)
    repeat' first | simp -implicitDefEqProofs only [go_sem, kbase, Nat.reduceBEq, Nat.reduceLT, Nat.reduceAdd, Nat.reduceEqDiff, Nat.reduceLeDiff, reduceIte, Int.reduceEq, Int.reduceLT, Int.reduceLE, Int.reduceToNat, Int.reduceAdd, *, hrow, hw, PortP.enc, Int.natCast_nonneg] | (with_reducible refine guard_intro (fun _ => ?_) (fun _ => ?_)) | (with_reducible refine cond_intro (fun _ => ?_) (fun _ => ?_)) | ((with_reducible apply gc_intro); exact rfl) | (with_reducible refine guardD_intro (fun _ => ?_) (fun _ => ?_)) | ((with_reducible apply call_eq (g92 hP _ hp)); exact rfl; exact rfl) | ((with_reducible apply call_fzeq (g92 hP _ hp)); exact rfl)
    exact ⟨(i + 1, baseZ p + sumP (p.ports.take i) + (3 + mostP p.ports[i])), by simp only; omega, ⟨hlt, by simp only [sumP_take hlt]; omega⟩, rfl⟩
  · have hge : p.ports.length ≤ i := by simpa using h
    repeat' first | simp -implicitDefEqProofs only [go_sem, kbase, Nat.reduceBEq, Nat.reduceLT, Nat.reduceAdd, Nat.reduceEqDiff, Nat.reduceLeDiff, reduceIte, Int.reduceEq, Int.reduceLT, Int.reduceLE, Int.reduceToNat, Int.reduceAdd, *] | (with_reducible refine guard_intro (fun _ => ?_) (fun _ => ?_)) | (with_reducible refine cond_intro (fun _ => ?_) (fun _ => ?_)) | ((with_reducible apply gc_intro); exact rfl) | (with_reducible refine guardD_intro (fun _ => ?_) (fun _ => ?_))
    rw [List.take_of_length_le hge]; rfl
theorem g67 (p : PlanS) (hs : p.Ok) : GoodV (zG b) P 67 [.agg p.enc] (ErrP (restOk p)) := by
  refine good_z hP rfl rfl ?_
  simp -implicitDefEqProofs only [go_sem, kbase, Nat.reduceBEq, Nat.reduceLT, Nat.reduceAdd, Nat.reduceEqDiff, Nat.reduceLeDiff, reduceIte, Int.reduceEq, Int.reduceLT, Int.reduceLE, Int.reduceToNat, Int.reduceAdd, r67, PlanS.enc]
  repeat' first | simp -implicitDefEqProofs only [go_sem, kbase, Nat.reduceBEq, Nat.reduceLT, Nat.reduceAdd, Nat.reduceEqDiff, Nat.reduceLeDiff, reduceIte, Int.reduceEq, Int.reduceLT, Int.reduceLE, Int.reduceToNat, Int.reduceAdd, *] | (with_reducible refine guard_intro (fun _ => ?_) (fun _ => ?_)) | (with_reducible refine cond_intro (fun _ => ?_) (fun _ => ?_)) | ((with_reducible apply gc_intro); exact rfl) | (with_reducible refine guardD_intro (fun _ => ?_) (fun _ => ?_))
  all_goals try (first | ((with_reducible refine ErrP.bad ?_ _ ?_ ?_); (· grind [restOk, portsOk]); (· exact rfl); (· exact fun _ => rfl)) | ((with_reducible refine ErrP.bad ?_ _ (by assumption) (by assumption)); (· grind [restOk, portsOk])) | ((with_reducible refine ErrP.good ?_); (· grind [restOk, portsOk])) | ((with_reducible refine CodeP.mk _ _ ?_); (· grind [restOk, portsOk])) | ((with_reducible refine IdxP.mk _ ?_); (· grind [restOk, portsOk])))
  refine loop_slots 0 (fun i => p.ports.length - i) (fun i => i ≤ p.ports.length ∧ (p.ports.take i).all portOk = true) (fun i s => sset s 16 (.c (iC (i : Nat)))) rfl ⟨by simp, by simp⟩ ?_
  rintro i ⟨hi, ha⟩
  simp -implicitDefEqProofs only [go_sem, kbase, Nat.reduceBEq, Nat.reduceLT, Nat.reduceAdd, Nat.reduceEqDiff, Nat.reduceLeDiff, reduceIte, Int.reduceEq, Int.reduceLT, Int.reduceLE, Int.reduceToNat, Int.reduceAdd]
  refine cond_intro (fun h => ?_) (fun h => ?_)
  · have hlt : i < p.ports.length := by simpa using h
    have hrow := row_at (e := PortP.enc) hlt
    have hw := wrap_succ (n := i) (by have := hs.nports; omega)
    by_cases hsp : portCode p.ports[i] = 0
    · skip
      repeat' first | simp -implicitDefEqProofs only [go_sem, kbase, Nat.reduceBEq, Nat.reduceLT, Nat.reduceAdd, Nat.reduceEqDiff, Nat.reduceLeDiff, reduceIte, Int.reduceEq, Int.reduceLT, Int.reduceLE, Int.reduceToNat, Int.reduceAdd, *, hrow, hw, PortP.enc, Int.natCast_nonneg] | (with_reducible refine guard_intro (fun _ => ?_) (fun _ => ?_)) | (with_reducible refine cond_intro (fun _ => ?_) (fun _ => ?_)) | ((with_reducible apply gc_intro); exact rfl) | (with_reducible refine guardD_intro (fun _ => ?_) (fun _ => ?_)) | ((with_reducible apply call_eq (g76 hP _ hsp)); exact rfl; exact rfl) | ((with_reducible apply call_fzeq (g76 hP _ hsp)); exact rfl)
      all_goals first | ((with_reducible refine ⟨i + 1, ?_, ⟨?_, ?_⟩, ?_⟩); (· omega); (· omega); (· exact all_step hlt ha (by grind [restOk, portsOk, portOk])); (· exact rfl)) | ((with_reducible refine ErrP.bad ?_ _ ?_ ?_); (· grind [all_no hlt, restOk, portsOk, portOk]); (· exact rfl); (· exact fun _ => rfl)) | ((with_reducible refine ErrP.bad ?_ _ (by assumption) (by assumption)); (· grind [all_no hlt, restOk, portsOk, portOk])) | ((with_reducible refine ErrP.good ?_); (· grind [restOk, portsOk, portOk])) | ((with_reducible refine CodeP.mk _ _ ?_); (· grind [all_no hlt, restOk, portsOk, portOk])) | ((with_reducible refine IdxP.mk _ ?_); (· grind [all_no hlt, restOk, portsOk, portOk]))
    · skip
      repeat' first | simp -implicitDefEqProofs only [go_sem, kbase, Nat.reduceBEq, Nat.reduceLT, Nat.reduceAdd, Nat.reduceEqDiff, Nat.reduceLeDiff, reduceIte, Int.reduceEq, Int.reduceLT, Int.reduceLE, Int.reduceToNat, Int.reduceAdd, *, hrow, hw, PortP.enc, Int.natCast_nonneg] | (with_reducible refine guard_intro (fun _ => ?_) (fun _ => ?_)) | (with_reducible refine cond_intro (fun _ => ?_) (fun _ => ?_)) | ((with_reducible apply gc_intro); exact rfl) | (with_reducible refine guardD_intro (fun _ => ?_) (fun _ => ?_)) | ((with_reducible apply call_eq (g76b hP _ hsp)); exact rfl; exact rfl) | ((with_reducible apply call_fzeq (g76b hP _ hsp)); exact rfl) | ((with_reducible apply call_eq (g75 hP _ _)); exact rfl; exact rfl) | ((with_reducible apply call_fzeq (g75 hP _ _)); exact rfl)
      all_goals first | ((with_reducible refine ⟨i + 1, ?_, ⟨?_, ?_⟩, ?_⟩); (· omega); (· omega); (· exact all_step hlt ha (by grind [restOk, portsOk, portOk])); (· exact rfl)) | ((with_reducible refine ErrP.bad ?_ _ ?_ ?_); (· grind [all_no hlt, restOk, portsOk, portOk]); (· exact rfl); (· exact fun _ => rfl)) | ((with_reducible refine ErrP.bad ?_ _ (by assumption) (by assumption)); (· grind [all_no hlt, restOk, portsOk, portOk])) | ((with_reducible refine ErrP.good ?_); (· grind [restOk, portsOk, portOk])) | ((with_reducible refine CodeP.mk _ _ ?_); (· grind [all_no hlt, restOk, portsOk, portOk])) | ((with_reducible refine IdxP.mk _ ?_); (· grind [all_no hlt, restOk, portsOk, portOk]))
  · have hports := all_end (by simpa using h) ha
    repeat' first | simp -implicitDefEqProofs only [go_sem, kbase, Nat.reduceBEq, Nat.reduceLT, Nat.reduceAdd, Nat.reduceEqDiff, Nat.reduceLeDiff, reduceIte, Int.reduceEq, Int.reduceLT, Int.reduceLE, Int.reduceToNat, Int.reduceAdd, *] | (with_reducible refine guard_intro (fun _ => ?_) (fun _ => ?_)) | (with_reducible refine cond_intro (fun _ => ?_) (fun _ => ?_)) | ((with_reducible apply gc_intro); exact rfl) | (with_reducible refine guardD_intro (fun _ => ?_) (fun _ => ?_))
    all_goals try (first | ((with_reducible refine ErrP.bad ?_ _ ?_ ?_); (· grind [restOk, thingsOk]); (· exact rfl); (· exact fun _ => rfl)) | ((with_reducible refine ErrP.bad ?_ _ (by assumption) (by assumption)); (· grind [restOk, thingsOk])) | ((with_reducible refine ErrP.good ?_); (· grind [restOk, thingsOk])) | ((with_reducible refine CodeP.mk _ _ ?_); (· grind [restOk, thingsOk])) | ((with_reducible refine IdxP.mk _ ?_); (· grind [restOk, thingsOk])))
    refine loop_slots 0 (fun i => p.sems.length - i) (fun i => i ≤ p.sems.length ∧ (p.sems.take i).all semOk = true) (fun i s => sset s 46 (.c (iC (i : Nat)))) rfl ⟨by simp, by simp⟩ ?_
    rintro i ⟨hi, ha⟩
    simp -implicitDefEqProofs only [go_sem, kbase, Nat.reduceBEq, Nat.reduceLT, Nat.reduceAdd, Nat.reduceEqDiff, Nat.reduceLeDiff, reduceIte, Int.reduceEq, Int.reduceLT, Int.reduceLE, Int.reduceToNat, Int.reduceAdd]
    refine cond_intro (fun h => ?_) (fun h => ?_)
    · have hlt : i < p.sems.length := by simpa using h
      have hrow := row_at (e := intE) hlt
      have hw := wrap_succ (n := i) (by have := hs.nsems; omega)
      repeat' first | simp -implicitDefEqProofs only [go_sem, kbase, Nat.reduceBEq, Nat.reduceLT, Nat.reduceAdd, Nat.reduceEqDiff, Nat.reduceLeDiff, reduceIte, Int.reduceEq, Int.reduceLT, Int.reduceLE, Int.reduceToNat, Int.reduceAdd, *, hrow, hw, intE, Int.natCast_nonneg] | (with_reducible refine guard_intro (fun _ => ?_) (fun _ => ?_)) | (with_reducible refine cond_intro (fun _ => ?_) (fun _ => ?_)) | ((with_reducible apply gc_intro); exact rfl) | (with_reducible refine guardD_intro (fun _ => ?_) (fun _ => ?_)) | ((with_reducible apply call_eq (g75 hP _ _)); exact rfl; exact rfl) | ((with_reducible apply call_fzeq (g75 hP _ _)); exact rfl)
      all_goals first | ((with_reducible refine ⟨i + 1, ?_, ⟨?_, ?_⟩, ?_⟩); (· omega); (· omega); (· exact all_step hlt ha (by grind [restOk, thingsOk, semOk, portsOk])); (· exact rfl)) | ((with_reducible refine ErrP.bad ?_ _ ?_ ?_); (· grind [all_no hlt, restOk, thingsOk, semOk, portsOk]); (· exact rfl); (· exact fun _ => rfl)) | ((with_reducible refine ErrP.bad ?_ _ (by assumption) (by assumption)); (· grind [all_no hlt, restOk, thingsOk, semOk, portsOk])) | ((with_reducible refine ErrP.good ?_); (· grind [restOk, thingsOk, semOk, portsOk])) | ((with_reducible refine CodeP.mk _ _ ?_); (· grind [all_no hlt, restOk, thingsOk, semOk, portsOk])) | ((with_reducible refine IdxP.mk _ ?_); (· grind [all_no hlt, restOk, thingsOk, semOk, portsOk]))
    · have hall := all_end (by simpa using h) ha
      have hev : 0 ≤ p.events ∧ p.events ≤ 8 := by grind
      repeat' first | simp -implicitDefEqProofs only [go_sem, kbase, Nat.reduceBEq, Nat.reduceLT, Nat.reduceAdd, Nat.reduceEqDiff, Nat.reduceLeDiff, reduceIte, Int.reduceEq, Int.reduceLT, Int.reduceLE, Int.reduceToNat, Int.reduceAdd, *] | (with_reducible refine guard_intro (fun _ => ?_) (fun _ => ?_)) | (with_reducible refine cond_intro (fun _ => ?_) (fun _ => ?_)) | ((with_reducible apply gc_intro); exact rfl) | (with_reducible refine guardD_intro (fun _ => ?_) (fun _ => ?_)) | ((with_reducible apply call_eq (g77 hP p hs hports hev)); exact rfl; exact rfl) | ((with_reducible apply call_fzeq (g77 hP p hs hports hev)); exact rfl)
      all_goals first | ((with_reducible refine ErrP.bad ?_ _ ?_ ?_); (· grind [restOk, thingsOk, semOk, portsOk]); (· exact rfl); (· exact fun _ => rfl)) | ((with_reducible refine ErrP.bad ?_ _ (by assumption) (by assumption)); (· grind [restOk, thingsOk, semOk, portsOk])) | ((with_reducible refine ErrP.good ?_); (· grind [restOk, thingsOk, semOk, portsOk])) | ((with_reducible refine CodeP.mk _ _ ?_); (· grind [restOk, thingsOk, semOk, portsOk])) | ((with_reducible refine IdxP.mk _ ?_); (· grind [restOk, thingsOk, semOk, portsOk]))
end Go.LH.Z
