/- FrameAsks: Check of a configuration. -/
import Derived.Test.YtieoifkedeeehaaGreatDoorZI
namespace Go.LH.Z
open Go Go.LH
set_option linter.unusedSimpArgs false
set_option linter.unusedVariables false
set_option maxRecDepth 10000
set_option maxHeartbeats 4000000
def cfgOk (c : Cfg) : Bool := (headOk c && partsOk c) && winsOk c && (linksOk c && (!mobB c || hasB c (-1)))
theorem head_ticks {c : Cfg} (h : (headOk c && partsOk c) = true) : 1 ≤ c.ticks ∧ c.ticks ≤ 10000 := by
  simp only [headOk, Bool.and_eq_true, decide_eq_true_eq] at h; omega
def mobP (c : Cfg) (p : PlanS) : Bool := !(p.mobile && !hasB c (-1))
theorem mob_all (c : Cfg) : c.parts.all (mobP c) = (!mobB c || hasB c (-1)) := by
  have hm : mobP c = fun p => !(p.mobile && !hasB c (-1)) := rfl
  rw [hm]
  simp only [mobB, anyB]
  cases h : hasB c (-1) <;> simp
inductive CodeQ (ok : Bool) : Sv → Prop
  | good (h : ok = true) (place : Int) : CodeQ ok (.agg [iC 0, iC place])
  | bad (h : ok = false) (code place : Int) (h1 : (code == 0) = false) (h2 : (code != 0) = true) (h3 : code ≠ 0) : CodeQ ok (.agg [iC code, iC place])
theorem CodeP.q {ok : Bool} {r : Sv} (h : CodeP ok r) : CodeQ ok r := by
  cases h with
  | mk code place h =>
    by_cases hc : code = 0
    · subst hc; exact .good (h.1 rfl) place
    · cases ok with
      | false => exact .bad rfl code place (by simp [hc]) (by simp [hc]) hc
      | true => exact absurd (h.2 rfl) hc
theorem goodq {G : GEnv} {P : Program} {f : FuncId} {as : List Sv} {ok : Bool} (h : GoodV G P f as (CodeP ok)) : GoodV G P f as (CodeQ ok) := by
  intro w X vs h1 h2 h3
  refine Calls.mono (h w X vs h1 h2 h3) ?_
  rintro e w' ⟨v, r, k1, k2, k3⟩
  exact ⟨v, r, k1, k2.q, k3⟩
variable {P : Program} {b : Nat → Addr} (hP : Codes P)
include hP
theorem g12 (c : Cfg) (hc : c.Ok) : GoodV (zG b) P 12 [.agg c.enc] (ErrP (cfgOk c)) := by
  refine good_z hP rfl rfl ?_
  simp -implicitDefEqProofs only [go_sem, kbase, Nat.reduceBEq, Nat.reduceLT, Nat.reduceAdd, Nat.reduceEqDiff, Nat.reduceLeDiff, reduceIte, Int.reduceEq, Int.reduceLT, Int.reduceLE, Int.reduceToNat, Int.reduceAdd, r12, Cfg.enc]
  repeat' first | simp -implicitDefEqProofs only [go_sem, kbase, Nat.reduceBEq, Nat.reduceLT, Nat.reduceAdd, Nat.reduceEqDiff, Nat.reduceLeDiff, reduceIte, Int.reduceEq, Int.reduceLT, Int.reduceLE, Int.reduceToNat, Int.reduceAdd, *] | (with_reducible refine guard_intro (fun _ => ?_) (fun _ => ?_)) | (with_reducible refine cond_intro (fun _ => ?_) (fun _ => ?_)) | ((with_reducible apply gc_intro); exact rfl) | (with_reducible refine guardD_intro (fun _ => ?_) (fun _ => ?_))
  refine loop_slots 0 (fun i => 3 - i) (fun i => i ≤ 3 ∧ (1 ≤ i → (headOk c && partsOk c) = true) ∧ (2 ≤ i → winsOk c = true) ∧ (3 ≤ i → (linksOk c && (!mobB c || hasB c (-1))) = true)) (fun i s => sset s 8 (.c (iC (i : Nat)))) rfl ⟨by simp, by simp, by simp, by simp⟩ ?_
  rintro i ⟨hi, h1, h2, h3⟩
  simp -implicitDefEqProofs only [go_sem, kbase, Nat.reduceBEq, Nat.reduceLT, Nat.reduceAdd, Nat.reduceEqDiff, Nat.reduceLeDiff, reduceIte, Int.reduceEq, Int.reduceLT, Int.reduceLE, Int.reduceToNat, Int.reduceAdd]
  refine cond_intro (fun h => ?_) (fun h => ?_)
  · have hlt : i < 3 := by simp at h; omega
    obtain rfl | rfl | rfl : i = 0 ∨ i = 1 ∨ i = 2 := by omega
    · have hz : ((0 : Nat) : Int) = 0 := rfl
      have hw : IntKind.wrap .i64 ((0 : Int) + 1) = 1 := by decide
      simp -implicitDefEqProofs only [go_sem, kbase, Nat.reduceBEq, Nat.reduceLT, Nat.reduceAdd, Nat.reduceEqDiff, Nat.reduceLeDiff, reduceIte, Int.reduceEq, Int.reduceLT, Int.reduceLE, Int.reduceToNat, Int.reduceAdd, hz]
      refine ⟨(hP 33 r33 rfl).1, call_fz rfl (g33 hP c hc) ?_⟩
      intro v hv
      cases hv with
      | good ok =>
        repeat' first | simp -implicitDefEqProofs only [go_sem, kbase, Nat.reduceBEq, Nat.reduceLT, Nat.reduceAdd, Nat.reduceEqDiff, Nat.reduceLeDiff, reduceIte, Int.reduceEq, Int.reduceLT, Int.reduceLE, Int.reduceToNat, Int.reduceAdd, *] | (with_reducible refine guard_intro (fun _ => ?_) (fun _ => ?_)) | (with_reducible refine cond_intro (fun _ => ?_) (fun _ => ?_)) | ((with_reducible apply gc_intro); exact rfl) | (with_reducible refine guardD_intro (fun _ => ?_) (fun _ => ?_))
        exact ⟨1, by omega, by grind, rfl⟩
      | bad ok x hx hf =>
        repeat' first | simp -implicitDefEqProofs only [go_sem, kbase, Nat.reduceBEq, Nat.reduceLT, Nat.reduceAdd, Nat.reduceEqDiff, Nat.reduceLeDiff, reduceIte, Int.reduceEq, Int.reduceLT, Int.reduceLE, Int.reduceToNat, Int.reduceAdd, *] | (with_reducible refine guard_intro (fun _ => ?_) (fun _ => ?_)) | (with_reducible refine cond_intro (fun _ => ?_) (fun _ => ?_)) | ((with_reducible apply gc_intro); exact rfl) | (with_reducible refine guardD_intro (fun _ => ?_) (fun _ => ?_))
        exact ErrP.bad (by grind [cfgOk]) _ hx hf
    · have hz : ((1 : Nat) : Int) = 1 := rfl
      have hw : IntKind.wrap .i64 ((1 : Int) + 1) = 2 := by decide
      simp -implicitDefEqProofs only [go_sem, kbase, Nat.reduceBEq, Nat.reduceLT, Nat.reduceAdd, Nat.reduceEqDiff, Nat.reduceLeDiff, reduceIte, Int.reduceEq, Int.reduceLT, Int.reduceLE, Int.reduceToNat, Int.reduceAdd, hz]
      refine ⟨(hP 34 r34 rfl).1, call_fz rfl (g34 hP c hc (head_ticks (h1 (by omega)))) ?_⟩
      intro v hv
      cases hv with
      | good ok =>
        repeat' first | simp -implicitDefEqProofs only [go_sem, kbase, Nat.reduceBEq, Nat.reduceLT, Nat.reduceAdd, Nat.reduceEqDiff, Nat.reduceLeDiff, reduceIte, Int.reduceEq, Int.reduceLT, Int.reduceLE, Int.reduceToNat, Int.reduceAdd, *] | (with_reducible refine guard_intro (fun _ => ?_) (fun _ => ?_)) | (with_reducible refine cond_intro (fun _ => ?_) (fun _ => ?_)) | ((with_reducible apply gc_intro); exact rfl) | (with_reducible refine guardD_intro (fun _ => ?_) (fun _ => ?_))
        exact ⟨2, by omega, by grind, rfl⟩
      | bad ok x hx hf =>
        repeat' first | simp -implicitDefEqProofs only [go_sem, kbase, Nat.reduceBEq, Nat.reduceLT, Nat.reduceAdd, Nat.reduceEqDiff, Nat.reduceLeDiff, reduceIte, Int.reduceEq, Int.reduceLT, Int.reduceLE, Int.reduceToNat, Int.reduceAdd, *] | (with_reducible refine guard_intro (fun _ => ?_) (fun _ => ?_)) | (with_reducible refine cond_intro (fun _ => ?_) (fun _ => ?_)) | ((with_reducible apply gc_intro); exact rfl) | (with_reducible refine guardD_intro (fun _ => ?_) (fun _ => ?_))
        exact ErrP.bad (by grind [cfgOk]) _ hx hf
    · have hz : ((2 : Nat) : Int) = 2 := rfl
      have hw : IntKind.wrap .i64 ((2 : Int) + 1) = 3 := by decide
      simp -implicitDefEqProofs only [go_sem, kbase, Nat.reduceBEq, Nat.reduceLT, Nat.reduceAdd, Nat.reduceEqDiff, Nat.reduceLeDiff, reduceIte, Int.reduceEq, Int.reduceLT, Int.reduceLE, Int.reduceToNat, Int.reduceAdd, hz]
      refine ⟨(hP 35 r35 rfl).1, call_fz rfl (g35 hP c hc) ?_⟩
      intro v hv
      cases hv with
      | good ok =>
        repeat' first | simp -implicitDefEqProofs only [go_sem, kbase, Nat.reduceBEq, Nat.reduceLT, Nat.reduceAdd, Nat.reduceEqDiff, Nat.reduceLeDiff, reduceIte, Int.reduceEq, Int.reduceLT, Int.reduceLE, Int.reduceToNat, Int.reduceAdd, *] | (with_reducible refine guard_intro (fun _ => ?_) (fun _ => ?_)) | (with_reducible refine cond_intro (fun _ => ?_) (fun _ => ?_)) | ((with_reducible apply gc_intro); exact rfl) | (with_reducible refine guardD_intro (fun _ => ?_) (fun _ => ?_))
        exact ⟨3, by omega, by grind, rfl⟩
      | bad ok x hx hf =>
        repeat' first | simp -implicitDefEqProofs only [go_sem, kbase, Nat.reduceBEq, Nat.reduceLT, Nat.reduceAdd, Nat.reduceEqDiff, Nat.reduceLeDiff, reduceIte, Int.reduceEq, Int.reduceLT, Int.reduceLE, Int.reduceToNat, Int.reduceAdd, *] | (with_reducible refine guard_intro (fun _ => ?_) (fun _ => ?_)) | (with_reducible refine cond_intro (fun _ => ?_) (fun _ => ?_)) | ((with_reducible apply gc_intro); exact rfl) | (with_reducible refine guardD_intro (fun _ => ?_) (fun _ => ?_))
        exact ErrP.bad (by grind [cfgOk]) _ hx hf
  · repeat' first | simp -implicitDefEqProofs only [go_sem, kbase, Nat.reduceBEq, Nat.reduceLT, Nat.reduceAdd, Nat.reduceEqDiff, Nat.reduceLeDiff, reduceIte, Int.reduceEq, Int.reduceLT, Int.reduceLE, Int.reduceToNat, Int.reduceAdd, *] | (with_reducible refine guard_intro (fun _ => ?_) (fun _ => ?_)) | (with_reducible refine cond_intro (fun _ => ?_) (fun _ => ?_)) | ((with_reducible apply gc_intro); exact rfl) | (with_reducible refine guardD_intro (fun _ => ?_) (fun _ => ?_))
    have : 3 ≤ i := by simp at h; omega
    exact ErrP.good (by grind [cfgOk])
theorem g39 (c : Cfg) (hc : c.Ok) : GoodV (zG b) P 39 [.agg c.enc] (CodeP (cfgOk c)) := by
  have hma := mob_all c
  have hch := count_has c (-1)
  refine good_z hP rfl rfl ?_
  cases hh : headOk c with
  | false =>
    simp -implicitDefEqProofs only [go_sem, kbase, Nat.reduceBEq, Nat.reduceLT, Nat.reduceAdd, Nat.reduceEqDiff, Nat.reduceLeDiff, reduceIte, Int.reduceEq, Int.reduceLT, Int.reduceLE, Int.reduceToNat, Int.reduceAdd, r39, Cfg.enc]
    repeat' first | simp -implicitDefEqProofs only [go_sem, kbase, Nat.reduceBEq, Nat.reduceLT, Nat.reduceAdd, Nat.reduceEqDiff, Nat.reduceLeDiff, reduceIte, Int.reduceEq, Int.reduceLT, Int.reduceLE, Int.reduceToNat, Int.reduceAdd, *] | (with_reducible refine guard_intro (fun _ => ?_) (fun _ => ?_)) | (with_reducible refine cond_intro (fun _ => ?_) (fun _ => ?_)) | ((with_reducible apply gc_intro); exact rfl) | (with_reducible refine guardD_intro (fun _ => ?_) (fun _ => ?_)) | ((with_reducible apply call_eq (g58 hP _)); exact rfl; exact rfl) | ((with_reducible apply call_fzeq (g58 hP _)); exact rfl)
    all_goals try (refine CodeP.mk _ _ ?_; grind [cfgOk])
    all_goals (exfalso; grind [headOk])
  | true =>
    have ht : 1 ≤ c.ticks ∧ c.ticks ≤ 10000 := by simp only [headOk, Bool.and_eq_true, decide_eq_true_eq] at hh; omega
    have d1 : decide (c.ticks < 1) = false := by grind [headOk]
    have d2 : decide (10000 < c.ticks) = false := by grind [headOk]
    have d3 : decide (c.tries < 1) = false := by grind [headOk]
    have d4 : decide (64 < c.tries) = false := by grind [headOk]
    clear hma hch
    simp -implicitDefEqProofs only [go_sem, kbase, Nat.reduceBEq, Nat.reduceLT, Nat.reduceAdd, Nat.reduceEqDiff, Nat.reduceLeDiff, reduceIte, Int.reduceEq, Int.reduceLT, Int.reduceLE, Int.reduceToNat, Int.reduceAdd, r39, Cfg.enc]
    repeat' first | simp -implicitDefEqProofs only [go_sem, kbase, Nat.reduceBEq, Nat.reduceLT, Nat.reduceAdd, Nat.reduceEqDiff, Nat.reduceLeDiff, reduceIte, Int.reduceEq, Int.reduceLT, Int.reduceLE, Int.reduceToNat, Int.reduceAdd, *, bne_self_eq_false, beq_self_eq_true] | (with_reducible refine guard_intro (fun _ => ?_) (fun _ => ?_)) | (with_reducible refine cond_intro (fun _ => ?_) (fun _ => ?_)) | ((with_reducible apply gc_intro); exact rfl) | (with_reducible refine guardD_intro (fun _ => ?_) (fun _ => ?_)) | ((with_reducible apply call_eq (g58 hP _)); exact rfl; exact rfl) | ((with_reducible apply call_fzeq (g58 hP _)); exact rfl) | ((with_reducible apply call_sn (hg := goodq (g59 hP c hc))); exact rfl; rintro _ hv; cases hv <;> refine ⟨rfl, ?_⟩) | ((with_reducible apply call_sn (hg := goodq (g60 hP c hc ht))); exact rfl; rintro _ hv; cases hv <;> refine ⟨rfl, ?_⟩) | ((with_reducible apply call_sn (hg := goodq (g61 hP c hc))); exact rfl; rintro _ hv; cases hv <;> refine ⟨rfl, ?_⟩)
    all_goals try (refine CodeP.mk _ _ ?_; grind [cfgOk])
    have hma := mob_all c
    have hch := count_has c (-1)
    clear hma hch
    refine loop_slots 0 (fun i => c.parts.length - i) (fun i => i ≤ c.parts.length ∧ (c.parts.take i).all (mobP c) = true) (fun i s => sset s 4 (.c (iC (i : Nat)))) rfl ⟨by simp, by simp⟩ ?_
    rintro i ⟨hi, ha⟩
    simp -implicitDefEqProofs only [go_sem, kbase, Nat.reduceBEq, Nat.reduceLT, Nat.reduceAdd, Nat.reduceEqDiff, Nat.reduceLeDiff, reduceIte, Int.reduceEq, Int.reduceLT, Int.reduceLE, Int.reduceToNat, Int.reduceAdd]
    refine cond_intro (fun h => ?_) (fun h => ?_)
    · have hlt : i < c.parts.length := by simpa using h
      have hrow := row_at (e := PlanS.enc) hlt
      have hw := wrap_succ (n := i) (by have := hc.nparts; omega)
      repeat' first | simp -implicitDefEqProofs only [go_sem, kbase, Nat.reduceBEq, Nat.reduceLT, Nat.reduceAdd, Nat.reduceEqDiff, Nat.reduceLeDiff, reduceIte, Int.reduceEq, Int.reduceLT, Int.reduceLE, Int.reduceToNat, Int.reduceAdd, *, PlanS.enc, Int.natCast_nonneg] | (with_reducible refine guard_intro (fun _ => ?_) (fun _ => ?_)) | (with_reducible refine cond_intro (fun _ => ?_) (fun _ => ?_)) | ((with_reducible apply gc_intro); exact rfl) | (with_reducible refine guardD_intro (fun _ => ?_) (fun _ => ?_)) | ((with_reducible apply call_eq (g62 hP c hc _)); exact rfl; exact rfl) | ((with_reducible apply call_fzeq (g62 hP c hc _)); exact rfl) | ((with_reducible apply call_eq (g58 hP _)); exact rfl; exact rfl) | ((with_reducible apply call_fzeq (g58 hP _)); exact rfl)
      all_goals have hma := mob_all c
      all_goals have hch := count_has c (-1)
      all_goals (first | ((with_reducible refine ⟨i + 1, ?_, ⟨?_, ?_⟩, ?_⟩); (· omega); (· omega); (· exact all_step hlt ha (by grind [cfgOk, mobP])); (· exact rfl)) | ((with_reducible refine ErrP.bad ?_ _ ?_ ?_); (· grind [all_no hlt, cfgOk, mobP]); (· exact rfl); (· exact fun _ => rfl)) | ((with_reducible refine ErrP.bad ?_ _ (by assumption) (by assumption)); (· grind [all_no hlt, cfgOk, mobP])) | ((with_reducible refine ErrP.good ?_); (· grind [cfgOk, mobP])) | ((with_reducible refine CodeP.mk _ _ ?_); (· grind [all_no hlt, cfgOk, mobP])) | ((with_reducible refine IdxP.mk _ ?_); (· grind [all_no hlt, cfgOk, mobP])))
    · have hall := all_end (by simpa using h) ha
      repeat' first | simp -implicitDefEqProofs only [go_sem, kbase, Nat.reduceBEq, Nat.reduceLT, Nat.reduceAdd, Nat.reduceEqDiff, Nat.reduceLeDiff, reduceIte, Int.reduceEq, Int.reduceLT, Int.reduceLE, Int.reduceToNat, Int.reduceAdd, *] | (with_reducible refine guard_intro (fun _ => ?_) (fun _ => ?_)) | (with_reducible refine cond_intro (fun _ => ?_) (fun _ => ?_)) | ((with_reducible apply gc_intro); exact rfl) | (with_reducible refine guardD_intro (fun _ => ?_) (fun _ => ?_)) | ((with_reducible apply call_eq (g63 hP)); exact rfl; exact rfl) | ((with_reducible apply call_fzeq (g63 hP)); exact rfl)
      all_goals have hma := mob_all c
      all_goals (first | ((with_reducible refine ErrP.bad ?_ _ ?_ ?_); (· grind [cfgOk]); (· exact rfl); (· exact fun _ => rfl)) | ((with_reducible refine ErrP.bad ?_ _ (by assumption) (by assumption)); (· grind [cfgOk])) | ((with_reducible refine ErrP.good ?_); (· grind [cfgOk])) | ((with_reducible refine CodeP.mk _ _ ?_); (· grind [cfgOk])) | ((with_reducible refine IdxP.mk _ ?_); (· grind [cfgOk])))
/-- Is the configuration in form? -/
theorem g17 (c : Cfg) (hc : c.Ok) : Ans (zG b) P 17 [.agg c.enc] (.c (bC (cfgOk c))) := by
  refine good_z hP rfl rfl ?_
  simp -implicitDefEqProofs only [go_sem, kbase, Nat.reduceBEq, Nat.reduceLT, Nat.reduceAdd, Nat.reduceEqDiff, Nat.reduceLeDiff, reduceIte, Int.reduceEq, Int.reduceLT, Int.reduceLE, Int.reduceToNat, Int.reduceAdd, r17, Cfg.enc]
  refine call_sn rfl (g39 hP c hc) ?_
  rintro _ ⟨k, q, e⟩
  refine ⟨rfl, ?_⟩
  repeat' first | simp -implicitDefEqProofs only [go_sem, kbase, Nat.reduceBEq, Nat.reduceLT, Nat.reduceAdd, Nat.reduceEqDiff, Nat.reduceLeDiff, reduceIte, Int.reduceEq, Int.reduceLT, Int.reduceLE, Int.reduceToNat, Int.reduceAdd, *] | (with_reducible refine guard_intro (fun _ => ?_) (fun _ => ?_)) | (with_reducible refine cond_intro (fun _ => ?_) (fun _ => ?_)) | ((with_reducible apply gc_intro); exact rfl) | (with_reducible refine guardD_intro (fun _ => ?_) (fun _ => ?_))
  all_goals grind
theorem g12g (c : Cfg) (hc : c.Ok) (h : cfgOk c = true) : Ans (zG b) P 12 [.agg c.enc] (.c (.val .nilIface)) := by
  intro w X vs h1 h2 h3
  refine Calls.mono (g12 hP c hc w X vs h1 h2 h3) ?_
  rintro e w' ⟨v, r, k1, k2, k3⟩
  refine ⟨v, r, k1, ?_, k3⟩
  cases k2 with
  | good => rfl
  | bad h' => rw [h] at h'; cases h'
theorem g12b (c : Cfg) (hc : c.Ok) (h : cfgOk c = false) : GoodV (zG b) P 12 [.agg c.enc] BadP := by
  intro w X vs h1 h2 h3
  refine Calls.mono (g12 hP c hc w X vs h1 h2 h3) ?_
  rintro e w' ⟨v, r, k1, k2, k3⟩
  refine ⟨v, r, k1, ?_, k3⟩
  cases k2 with
  | good h' => rw [h] at h'; cases h'
  | bad h' x hx hf => exact .mk x hx hf
end Go.LH.Z
