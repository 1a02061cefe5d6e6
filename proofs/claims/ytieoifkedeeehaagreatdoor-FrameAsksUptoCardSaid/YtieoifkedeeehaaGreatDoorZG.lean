/- FrameAsks: the configuration's rules: partitions. -/
import Derived.Test.YtieoifkedeeehaaGreatDoorZF
namespace Go.LH.Z
open Go Go.LH
set_option linter.unusedSimpArgs false
set_option linter.unusedVariables false
set_option maxRecDepth 10000
set_option maxHeartbeats 4000000
def headOk (c : Cfg) : Bool := decide (1 ≤ c.ticks) && decide (c.ticks ≤ 10000) && decide (1 ≤ c.tries) && decide (c.tries ≤ 64)
def partOk (c : Cfg) (i : Nat) : Bool := match c.parts[i]? with
  | some p => planOk p && (p.id == (i : Int))
  | none => true
theorem partOk_at {c : Cfg} {i : Nat} (h : i < c.parts.length) : partOk c i = (planOk c.parts[i] && (c.parts[i].id == (i : Int))) := by simp [partOk, h]
def homeOk (h : Int) : Bool := h == 0 || h == 1
def partsOk (c : Cfg) : Bool := decide (1 ≤ c.parts.length) && decide (c.parts.length ≤ 8) && (List.range c.parts.length).all (partOk c) && (c.homes.length == c.parts.length) && c.homes.all homeOk
variable {P : Program} {b : Nat → Addr} (hP : Codes P)
include hP
theorem g46g (p : PlanS) (hs : p.Ok) (h : planOk p = true) : Ans (zG b) P 46 [.agg p.enc] (.c (.val .nilIface)) := by
  intro w X vs h1 h2 h3
  refine Calls.mono (g46 hP p hs w X vs h1 h2 h3) ?_
  rintro e w' ⟨v, r, k1, k2, k3⟩
  refine ⟨v, r, k1, ?_, k3⟩
  cases k2 with
  | good => rfl
  | bad h' => rw [h] at h'; cases h'
inductive BadP : Sv → Prop
  | mk (x : Cv) (hx : nilEq x (.val .nilIface) = some false) (hf : ∀ L, fzC 6 L x = some (x, L)) : BadP (.c x)
theorem g46b (p : PlanS) (hs : p.Ok) (h : planOk p = false) : GoodV (zG b) P 46 [.agg p.enc] BadP := by
  intro w X vs h1 h2 h3
  refine Calls.mono (g46 hP p hs w X vs h1 h2 h3) ?_
  rintro e w' ⟨v, r, k1, k2, k3⟩
  refine ⟨v, r, k1, ?_, k3⟩
  cases k2 with
  | good h' => rw [h] at h'; cases h'
  | bad h' x hx hf => exact .mk x hx hf
theorem g33 (c : Cfg) (hc : c.Ok) : GoodV (zG b) P 33 [.agg c.enc] (ErrP (headOk c && partsOk c)) := by
  refine good_z hP rfl rfl ?_
  simp -implicitDefEqProofs only [go_sem, kbase, Nat.reduceBEq, Nat.reduceLT, Nat.reduceAdd, Nat.reduceEqDiff, Nat.reduceLeDiff, reduceIte, Int.reduceEq, Int.reduceLT, Int.reduceLE, Int.reduceToNat, Int.reduceAdd, r33, Cfg.enc]
  repeat' first | simp -implicitDefEqProofs only [go_sem, kbase, Nat.reduceBEq, Nat.reduceLT, Nat.reduceAdd, Nat.reduceEqDiff, Nat.reduceLeDiff, reduceIte, Int.reduceEq, Int.reduceLT, Int.reduceLE, Int.reduceToNat, Int.reduceAdd, *] | (with_reducible refine guard_intro (fun _ => ?_) (fun _ => ?_)) | (with_reducible refine cond_intro (fun _ => ?_) (fun _ => ?_)) | ((with_reducible apply gc_intro); exact rfl) | (with_reducible refine guardD_intro (fun _ => ?_) (fun _ => ?_))
  all_goals try (first | ((with_reducible refine ErrP.bad ?_ _ ?_ ?_); (· grind [headOk, partsOk]); (· exact rfl); (· exact fun _ => rfl)) | ((with_reducible refine ErrP.bad ?_ _ (by assumption) (by assumption)); (· grind [headOk, partsOk])) | ((with_reducible refine ErrP.good ?_); (· grind [headOk, partsOk])) | ((with_reducible refine CodeP.mk _ _ ?_); (· grind [headOk, partsOk])) | ((with_reducible refine IdxP.mk _ ?_); (· grind [headOk, partsOk])))
  refine loop_slots 0 (fun i => c.parts.length - i) (fun i => i ≤ c.parts.length ∧ (List.range i).all (partOk c) = true) (fun i s => sset s 40 (.c (iC (i : Nat)))) rfl ⟨by simp, by simp⟩ ?_
  rintro i ⟨hi, ha⟩
  simp -implicitDefEqProofs only [go_sem, kbase, Nat.reduceBEq, Nat.reduceLT, Nat.reduceAdd, Nat.reduceEqDiff, Nat.reduceLeDiff, reduceIte, Int.reduceEq, Int.reduceLT, Int.reduceLE, Int.reduceToNat, Int.reduceAdd]
  refine cond_intro (fun h => ?_) (fun h => ?_)
  · have hlt : i < c.parts.length := by simpa using h
    have hrow := row_at (e := PlanS.enc) hlt
    have hw := wrap_succ (n := i) (by have := hc.nparts; omega)
    have hok := hc.parts c.parts[i] (List.getElem_mem hlt)
    have hpa := partOk_at hlt
    by_cases hsp : planOk c.parts[i] = true
    · skip
      repeat' first | simp -implicitDefEqProofs only [go_sem, kbase, Nat.reduceBEq, Nat.reduceLT, Nat.reduceAdd, Nat.reduceEqDiff, Nat.reduceLeDiff, reduceIte, Int.reduceEq, Int.reduceLT, Int.reduceLE, Int.reduceToNat, Int.reduceAdd, *, hrow, hw, PlanS.enc, Int.natCast_nonneg] | (with_reducible refine guard_intro (fun _ => ?_) (fun _ => ?_)) | (with_reducible refine cond_intro (fun _ => ?_) (fun _ => ?_)) | ((with_reducible apply gc_intro); exact rfl) | (with_reducible refine guardD_intro (fun _ => ?_) (fun _ => ?_)) | ((with_reducible apply call_eq (g46g hP c.parts[i] hok hsp)); exact rfl; exact rfl) | ((with_reducible apply call_fzeq (g46g hP c.parts[i] hok hsp)); exact rfl) | ((with_reducible apply call_eq (g47 hP _ _)); exact rfl; exact rfl) | ((with_reducible apply call_fzeq (g47 hP _ _)); exact rfl)
      all_goals first | ((with_reducible refine ⟨i + 1, ?_, ⟨?_, ?_⟩, ?_⟩); (· omega); (· omega); (· exact rall_step ha (by grind [partsOk])); (· exact rfl)) | ((with_reducible refine ErrP.bad ?_ _ ?_ ?_); (· grind [rall_no hlt, partsOk]); (· exact rfl); (· exact fun _ => rfl)) | ((with_reducible refine ErrP.bad ?_ _ (by assumption) (by assumption)); (· grind [rall_no hlt, partsOk])) | ((with_reducible refine ErrP.good ?_); (· grind [partsOk])) | ((with_reducible refine CodeP.mk _ _ ?_); (· grind [rall_no hlt, partsOk])) | ((with_reducible refine IdxP.mk _ ?_); (· grind [rall_no hlt, partsOk]))
    · skip
      repeat' first | simp -implicitDefEqProofs only [go_sem, kbase, Nat.reduceBEq, Nat.reduceLT, Nat.reduceAdd, Nat.reduceEqDiff, Nat.reduceLeDiff, reduceIte, Int.reduceEq, Int.reduceLT, Int.reduceLE, Int.reduceToNat, Int.reduceAdd, *, hrow, hw, PlanS.enc, Int.natCast_nonneg] | (with_reducible refine guard_intro (fun _ => ?_) (fun _ => ?_)) | (with_reducible refine cond_intro (fun _ => ?_) (fun _ => ?_)) | ((with_reducible apply gc_intro); exact rfl) | (with_reducible refine guardD_intro (fun _ => ?_) (fun _ => ?_)) | ((with_reducible apply call_fz (hg := g46b hP c.parts[i] hok (by simpa using hsp))); exact rfl; rintro _ hv; cases hv) | ((with_reducible apply call_eq (g47 hP _ _)); exact rfl; exact rfl) | ((with_reducible apply call_fzeq (g47 hP _ _)); exact rfl)
      all_goals first | ((with_reducible refine ⟨i + 1, ?_, ⟨?_, ?_⟩, ?_⟩); (· omega); (· omega); (· exact rall_step ha (by grind [partsOk])); (· exact rfl)) | ((with_reducible refine ErrP.bad ?_ _ ?_ ?_); (· grind [rall_no hlt, partsOk]); (· exact rfl); (· exact fun _ => rfl)) | ((with_reducible refine ErrP.bad ?_ _ (by assumption) (by assumption)); (· grind [rall_no hlt, partsOk])) | ((with_reducible refine ErrP.good ?_); (· grind [partsOk])) | ((with_reducible refine CodeP.mk _ _ ?_); (· grind [rall_no hlt, partsOk])) | ((with_reducible refine IdxP.mk _ ?_); (· grind [rall_no hlt, partsOk]))
  · have hparts := rall_end (by simpa using h) hi ha
    repeat' first | simp -implicitDefEqProofs only [go_sem, kbase, Nat.reduceBEq, Nat.reduceLT, Nat.reduceAdd, Nat.reduceEqDiff, Nat.reduceLeDiff, reduceIte, Int.reduceEq, Int.reduceLT, Int.reduceLE, Int.reduceToNat, Int.reduceAdd, *] | (with_reducible refine guard_intro (fun _ => ?_) (fun _ => ?_)) | (with_reducible refine cond_intro (fun _ => ?_) (fun _ => ?_)) | ((with_reducible apply gc_intro); exact rfl) | (with_reducible refine guardD_intro (fun _ => ?_) (fun _ => ?_))
    all_goals try (first | ((with_reducible refine ErrP.bad ?_ _ ?_ ?_); (· grind [partsOk]); (· exact rfl); (· exact fun _ => rfl)) | ((with_reducible refine ErrP.bad ?_ _ (by assumption) (by assumption)); (· grind [partsOk])) | ((with_reducible refine ErrP.good ?_); (· grind [partsOk])) | ((with_reducible refine CodeP.mk _ _ ?_); (· grind [partsOk])) | ((with_reducible refine IdxP.mk _ ?_); (· grind [partsOk])))
    refine loop_slots 0 (fun i => c.homes.length - i) (fun i => i ≤ c.homes.length ∧ (c.homes.take i).all homeOk = true) (fun i s => sset s 70 (.c (iC (i : Nat)))) rfl ⟨by simp, by simp⟩ ?_
    rintro i ⟨hi, ha⟩
    simp -implicitDefEqProofs only [go_sem, kbase, Nat.reduceBEq, Nat.reduceLT, Nat.reduceAdd, Nat.reduceEqDiff, Nat.reduceLeDiff, reduceIte, Int.reduceEq, Int.reduceLT, Int.reduceLE, Int.reduceToNat, Int.reduceAdd]
    refine cond_intro (fun h => ?_) (fun h => ?_)
    · have hlt : i < c.homes.length := by simpa using h
      have hrow := row_at (e := intE) hlt
      have hw := wrap_succ (n := i) (by have := hc.nhomes; omega)
      repeat' first | simp -implicitDefEqProofs only [go_sem, kbase, Nat.reduceBEq, Nat.reduceLT, Nat.reduceAdd, Nat.reduceEqDiff, Nat.reduceLeDiff, reduceIte, Int.reduceEq, Int.reduceLT, Int.reduceLE, Int.reduceToNat, Int.reduceAdd, *, hrow, hw, intE, Int.natCast_nonneg] | (with_reducible refine guard_intro (fun _ => ?_) (fun _ => ?_)) | (with_reducible refine cond_intro (fun _ => ?_) (fun _ => ?_)) | ((with_reducible apply gc_intro); exact rfl) | (with_reducible refine guardD_intro (fun _ => ?_) (fun _ => ?_)) | ((with_reducible apply call_eq (g47 hP _ _)); exact rfl; exact rfl) | ((with_reducible apply call_fzeq (g47 hP _ _)); exact rfl)
      all_goals first | ((with_reducible refine ⟨i + 1, ?_, ⟨?_, ?_⟩, ?_⟩); (· omega); (· omega); (· exact all_step hlt ha (by grind [headOk, partsOk, homeOk])); (· exact rfl)) | ((with_reducible refine ErrP.bad ?_ _ ?_ ?_); (· grind [all_no hlt, headOk, partsOk, homeOk]); (· exact rfl); (· exact fun _ => rfl)) | ((with_reducible refine ErrP.bad ?_ _ (by assumption) (by assumption)); (· grind [all_no hlt, headOk, partsOk, homeOk])) | ((with_reducible refine ErrP.good ?_); (· grind [headOk, partsOk, homeOk])) | ((with_reducible refine CodeP.mk _ _ ?_); (· grind [all_no hlt, headOk, partsOk, homeOk])) | ((with_reducible refine IdxP.mk _ ?_); (· grind [all_no hlt, headOk, partsOk, homeOk]))
    · have hall := all_end (by simpa using h) ha
      repeat' first | simp -implicitDefEqProofs only [go_sem, kbase, Nat.reduceBEq, Nat.reduceLT, Nat.reduceAdd, Nat.reduceEqDiff, Nat.reduceLeDiff, reduceIte, Int.reduceEq, Int.reduceLT, Int.reduceLE, Int.reduceToNat, Int.reduceAdd, *] | (with_reducible refine guard_intro (fun _ => ?_) (fun _ => ?_)) | (with_reducible refine cond_intro (fun _ => ?_) (fun _ => ?_)) | ((with_reducible apply gc_intro); exact rfl) | (with_reducible refine guardD_intro (fun _ => ?_) (fun _ => ?_))
      all_goals first | ((with_reducible refine ErrP.bad ?_ _ ?_ ?_); (· grind [headOk, partsOk, homeOk]); (· exact rfl); (· exact fun _ => rfl)) | ((with_reducible refine ErrP.bad ?_ _ (by assumption) (by assumption)); (· grind [headOk, partsOk, homeOk])) | ((with_reducible refine ErrP.good ?_); (· grind [headOk, partsOk, homeOk])) | ((with_reducible refine CodeP.mk _ _ ?_); (· grind [headOk, partsOk, homeOk])) | ((with_reducible refine IdxP.mk _ ?_); (· grind [headOk, partsOk, homeOk]))
theorem g59 (c : Cfg) (hc : c.Ok) : GoodV (zG b) P 59 [.agg c.enc] (CodeP (partsOk c)) := by
  refine good_z hP rfl rfl ?_
  simp -implicitDefEqProofs only [go_sem, kbase, Nat.reduceBEq, Nat.reduceLT, Nat.reduceAdd, Nat.reduceEqDiff, Nat.reduceLeDiff, reduceIte, Int.reduceEq, Int.reduceLT, Int.reduceLE, Int.reduceToNat, Int.reduceAdd, r59, Cfg.enc]
  repeat' first | simp -implicitDefEqProofs only [go_sem, kbase, Nat.reduceBEq, Nat.reduceLT, Nat.reduceAdd, Nat.reduceEqDiff, Nat.reduceLeDiff, reduceIte, Int.reduceEq, Int.reduceLT, Int.reduceLE, Int.reduceToNat, Int.reduceAdd, *] | (with_reducible refine guard_intro (fun _ => ?_) (fun _ => ?_)) | (with_reducible refine cond_intro (fun _ => ?_) (fun _ => ?_)) | ((with_reducible apply gc_intro); exact rfl) | (with_reducible refine guardD_intro (fun _ => ?_) (fun _ => ?_)) | ((with_reducible apply call_eq (g58 hP _)); exact rfl; exact rfl) | ((with_reducible apply call_fzeq (g58 hP _)); exact rfl)
  all_goals try (first | ((with_reducible refine ErrP.bad ?_ _ ?_ ?_); (· grind [partsOk]); (· exact rfl); (· exact fun _ => rfl)) | ((with_reducible refine ErrP.bad ?_ _ (by assumption) (by assumption)); (· grind [partsOk])) | ((with_reducible refine ErrP.good ?_); (· grind [partsOk])) | ((with_reducible refine CodeP.mk _ _ ?_); (· grind [partsOk])) | ((with_reducible refine IdxP.mk _ ?_); (· grind [partsOk])))
  refine loop_slots 0 (fun i => c.parts.length - i) (fun i => i ≤ c.parts.length ∧ (List.range i).all (partOk c) = true) (fun i s => sset s 3 (.c (iC (i : Nat)))) rfl ⟨by simp, by simp⟩ ?_
  rintro i ⟨hi, ha⟩
  simp -implicitDefEqProofs only [go_sem, kbase, Nat.reduceBEq, Nat.reduceLT, Nat.reduceAdd, Nat.reduceEqDiff, Nat.reduceLeDiff, reduceIte, Int.reduceEq, Int.reduceLT, Int.reduceLE, Int.reduceToNat, Int.reduceAdd]
  refine cond_intro (fun h => ?_) (fun h => ?_)
  · have hlt : i < c.parts.length := by simpa using h
    have hrow := row_at (e := PlanS.enc) hlt
    have hw := wrap_succ (n := i) (by have := hc.nparts; omega)
    have hok := hc.parts c.parts[i] (List.getElem_mem hlt)
    have hpa := partOk_at hlt
    repeat' first | simp -implicitDefEqProofs only [go_sem, kbase, Nat.reduceBEq, Nat.reduceLT, Nat.reduceAdd, Nat.reduceEqDiff, Nat.reduceLeDiff, reduceIte, Int.reduceEq, Int.reduceLT, Int.reduceLE, Int.reduceToNat, Int.reduceAdd, *, hrow, hw, PlanS.enc, Int.natCast_nonneg] | (with_reducible refine guard_intro (fun _ => ?_) (fun _ => ?_)) | (with_reducible refine cond_intro (fun _ => ?_) (fun _ => ?_)) | ((with_reducible apply gc_intro); exact rfl) | (with_reducible refine guardD_intro (fun _ => ?_) (fun _ => ?_)) | ((with_reducible apply call_eq (g73 hP c.parts[i] hok)); exact rfl; exact rfl) | ((with_reducible apply call_fzeq (g73 hP c.parts[i] hok)); exact rfl)
    all_goals first | ((with_reducible refine ⟨i + 1, ?_, ⟨?_, ?_⟩, ?_⟩); (· omega); (· omega); (· exact rall_step ha (by grind [partsOk])); (· exact rfl)) | ((with_reducible refine ErrP.bad ?_ _ ?_ ?_); (· grind [rall_no hlt, partsOk]); (· exact rfl); (· exact fun _ => rfl)) | ((with_reducible refine ErrP.bad ?_ _ (by assumption) (by assumption)); (· grind [rall_no hlt, partsOk])) | ((with_reducible refine ErrP.good ?_); (· grind [partsOk])) | ((with_reducible refine CodeP.mk _ _ ?_); (· grind [rall_no hlt, partsOk])) | ((with_reducible refine IdxP.mk _ ?_); (· grind [rall_no hlt, partsOk]))
  · have hparts := rall_end (by simpa using h) hi ha
    repeat' first | simp -implicitDefEqProofs only [go_sem, kbase, Nat.reduceBEq, Nat.reduceLT, Nat.reduceAdd, Nat.reduceEqDiff, Nat.reduceLeDiff, reduceIte, Int.reduceEq, Int.reduceLT, Int.reduceLE, Int.reduceToNat, Int.reduceAdd, *] | (with_reducible refine guard_intro (fun _ => ?_) (fun _ => ?_)) | (with_reducible refine cond_intro (fun _ => ?_) (fun _ => ?_)) | ((with_reducible apply gc_intro); exact rfl) | (with_reducible refine guardD_intro (fun _ => ?_) (fun _ => ?_)) | ((with_reducible apply call_eq (g58 hP _)); exact rfl; exact rfl) | ((with_reducible apply call_fzeq (g58 hP _)); exact rfl)
    all_goals try (first | ((with_reducible refine ErrP.bad ?_ _ ?_ ?_); (· grind [partsOk]); (· exact rfl); (· exact fun _ => rfl)) | ((with_reducible refine ErrP.bad ?_ _ (by assumption) (by assumption)); (· grind [partsOk])) | ((with_reducible refine ErrP.good ?_); (· grind [partsOk])) | ((with_reducible refine CodeP.mk _ _ ?_); (· grind [partsOk])) | ((with_reducible refine IdxP.mk _ ?_); (· grind [partsOk])))
    refine loop_slots 0 (fun i => c.homes.length - i) (fun i => i ≤ c.homes.length ∧ (c.homes.take i).all homeOk = true) (fun i s => sset s 4 (.c (iC (i : Nat)))) rfl ⟨by simp, by simp⟩ ?_
    rintro i ⟨hi, ha⟩
    simp -implicitDefEqProofs only [go_sem, kbase, Nat.reduceBEq, Nat.reduceLT, Nat.reduceAdd, Nat.reduceEqDiff, Nat.reduceLeDiff, reduceIte, Int.reduceEq, Int.reduceLT, Int.reduceLE, Int.reduceToNat, Int.reduceAdd]
    refine cond_intro (fun h => ?_) (fun h => ?_)
    · have hlt : i < c.homes.length := by simpa using h
      have hrow := row_at (e := intE) hlt
      have hw := wrap_succ (n := i) (by have := hc.nhomes; omega)
      repeat' first | simp -implicitDefEqProofs only [go_sem, kbase, Nat.reduceBEq, Nat.reduceLT, Nat.reduceAdd, Nat.reduceEqDiff, Nat.reduceLeDiff, reduceIte, Int.reduceEq, Int.reduceLT, Int.reduceLE, Int.reduceToNat, Int.reduceAdd, *, hrow, hw, intE, Int.natCast_nonneg] | (with_reducible refine guard_intro (fun _ => ?_) (fun _ => ?_)) | (with_reducible refine cond_intro (fun _ => ?_) (fun _ => ?_)) | ((with_reducible apply gc_intro); exact rfl) | (with_reducible refine guardD_intro (fun _ => ?_) (fun _ => ?_))
      all_goals first | ((with_reducible refine ⟨i + 1, ?_, ⟨?_, ?_⟩, ?_⟩); (· omega); (· omega); (· exact all_step hlt ha (by grind [partsOk, homeOk])); (· exact rfl)) | ((with_reducible refine ErrP.bad ?_ _ ?_ ?_); (· grind [all_no hlt, partsOk, homeOk]); (· exact rfl); (· exact fun _ => rfl)) | ((with_reducible refine ErrP.bad ?_ _ (by assumption) (by assumption)); (· grind [all_no hlt, partsOk, homeOk])) | ((with_reducible refine ErrP.good ?_); (· grind [partsOk, homeOk])) | ((with_reducible refine CodeP.mk _ _ ?_); (· grind [all_no hlt, partsOk, homeOk])) | ((with_reducible refine IdxP.mk _ ?_); (· grind [all_no hlt, partsOk, homeOk]))
    · have hall := all_end (by simpa using h) ha
      repeat' first | simp -implicitDefEqProofs only [go_sem, kbase, Nat.reduceBEq, Nat.reduceLT, Nat.reduceAdd, Nat.reduceEqDiff, Nat.reduceLeDiff, reduceIte, Int.reduceEq, Int.reduceLT, Int.reduceLE, Int.reduceToNat, Int.reduceAdd, *] | (with_reducible refine guard_intro (fun _ => ?_) (fun _ => ?_)) | (with_reducible refine cond_intro (fun _ => ?_) (fun _ => ?_)) | ((with_reducible apply gc_intro); exact rfl) | (with_reducible refine guardD_intro (fun _ => ?_) (fun _ => ?_)) | ((with_reducible apply call_eq (g63 hP)); exact rfl; exact rfl) | ((with_reducible apply call_fzeq (g63 hP)); exact rfl)
      all_goals first | ((with_reducible refine ErrP.bad ?_ _ ?_ ?_); (· grind [partsOk, homeOk]); (· exact rfl); (· exact fun _ => rfl)) | ((with_reducible refine ErrP.bad ?_ _ (by assumption) (by assumption)); (· grind [partsOk, homeOk])) | ((with_reducible refine ErrP.good ?_); (· grind [partsOk, homeOk])) | ((with_reducible refine CodeP.mk _ _ ?_); (· grind [partsOk, homeOk])) | ((with_reducible refine IdxP.mk _ ?_); (· grind [partsOk, homeOk]))
end Go.LH.Z
