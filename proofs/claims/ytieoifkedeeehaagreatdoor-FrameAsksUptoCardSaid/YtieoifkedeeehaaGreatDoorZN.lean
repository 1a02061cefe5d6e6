/- FrameAsks: the program's answers. -/
import Derived.Test.YtieoifkedeeehaaGreatDoorZM
namespace Go.LH.Z
open Go Go.LH
set_option linter.unusedSimpArgs false
set_option linter.unusedVariables false
set_option maxRecDepth 10000
set_option maxHeartbeats 4000000
theorem errV_0 {b : Nat → Addr} : errV b 0 = .nilIface := rfl
theorem errV_8 {b : Nat → Addr} : errV b 8 = sent b 0 := rfl
theorem errV_12 {b : Nat → Addr} : errV b 12 = sent b 1 := rfl
theorem errV_17 {b : Nat → Addr} : errV b 17 = sent b 2 := rfl
theorem wins_sum {c : Cfg} (h : cfgOk c = true) : ∀ w ∈ c.wins, 0 ≤ w.len ∧ w.len ≤ 10000 := by
  intro w hw
  have := wins_len h w hw
  have := cfg_ticks h
  omega
theorem winL_sum {c : Cfg} (h : cfgOk c = true) (p : Int) : ∀ w ∈ winL c p c.wins.length, 0 ≤ w.len ∧ w.len ≤ 10000 := fun w hw => wins_sum h w (mem_winL.1 hw).1
theorem winL_le {c : Cfg} (h : cfgOk c = true) (p : Int) : (winL c p c.wins.length).length ≤ 32 := by
  have := winL_len c p c.wins.length
  have := cfg_nwins h
  omega
theorem ownB_ne {c : Cfg} {p : Int} (h : ownB c p = true) : p ≠ -2 := by
  simp only [ownB, Bool.and_eq_true, decide_eq_true_eq] at h; omega
def nextR (c : Cfg) (p t : Int) : Int × Int := if cfgOk c then if ownB c p ∧ 0 ≤ t ∧ t < c.ticks then match nextN c p (c.ticks - t).toNat t with
    | some j => (j, 0)
    | none => (0, 17)
  else (0, 12) else (0, 8)
variable {P : Program} {b : Nat → Addr} (hP : Codes P)
include hP
theorem g11 (c : Cfg) (hc : c.Ok) (p : Int) : Ans (zG b) P 11 [.agg c.enc, .c (iC p)] (.tup [.c (iC (loadR c p).1), .c (.val (errV b (loadR c p).2))]) := by
  refine good_z hP rfl rfl ?_
  have hsm : (winsOf c p).length ≤ 32 ∧ (∀ w ∈ winsOf c p, 0 ≤ w.len ∧ w.len ≤ 10000) ∧ sumZ (winsOf c p) = (loadR c p).1 ∧ ownE c p = (loadR c p).2 := by
    cases hok : cfgOk c with
    | true =>
      cases ho : ownB c p with
      | true =>
        have e : winsOf c p = winL c p c.wins.length := by simp [winsOf, hok, ho]
        rw [e]
        refine ⟨winL_le hok p, winL_sum hok p, ?_, by simp [ownE, loadR, hok, ho]⟩
        simp only [loadR, hok, ho, if_true]
        exact (ticks_own hok (ownB_ne ho)).symm
      | false =>
        have e : winsOf c p = [] := by simp [winsOf, hok, ho]
        rw [e]
        simp [sumZ, loadR, ownE, hok, ho]
    | false =>
      have e : winsOf c p = [] := by simp [winsOf, hok]
      rw [e]
      simp [sumZ, loadR, ownE, hok]
  obtain ⟨h1, h2, h3, h4⟩ := hsm
  rw [← h3, ← h4]
  clear h3 h4
  simp -implicitDefEqProofs only [go_sem, kbase, Nat.reduceBEq, Nat.reduceLT, Nat.reduceAdd, Nat.reduceEqDiff, Nat.reduceLeDiff, reduceIte, Int.reduceEq, Int.reduceLT, Int.reduceLE, Int.reduceToNat, Int.reduceAdd, r11, Cfg.enc]
  refine call_fz rfl (g22 hP c hc p) ?_
  rintro _ ⟨x, hx⟩
  cases hx with
  | sl => repeat' first | simp -implicitDefEqProofs only [go_sem, kbase, Nat.reduceBEq, Nat.reduceLT, Nat.reduceAdd, Nat.reduceEqDiff, Nat.reduceLeDiff, reduceIte, Int.reduceEq, Int.reduceLT, Int.reduceLE, Int.reduceToNat, Int.reduceAdd, *] | (with_reducible refine guard_intro (fun _ => ?_) (fun _ => ?_)) | (with_reducible refine cond_intro (fun _ => ?_) (fun _ => ?_)) | ((with_reducible apply gc_intro); exact rfl) | (with_reducible refine guardD_intro (fun _ => ?_) (fun _ => ?_)) | ((with_reducible apply call_eq (g19 hP (winsOf c p) _ .sl h1 h2)); exact rfl; exact rfl) | ((with_reducible apply call_fzeq (g19 hP (winsOf c p) _ .sl h1 h2)); exact rfl)
  | s0 h => repeat' first | simp -implicitDefEqProofs only [go_sem, kbase, Nat.reduceBEq, Nat.reduceLT, Nat.reduceAdd, Nat.reduceEqDiff, Nat.reduceLeDiff, reduceIte, Int.reduceEq, Int.reduceLT, Int.reduceLE, Int.reduceToNat, Int.reduceAdd, *] | (with_reducible refine guard_intro (fun _ => ?_) (fun _ => ?_)) | (with_reducible refine cond_intro (fun _ => ?_) (fun _ => ?_)) | ((with_reducible apply gc_intro); exact rfl) | (with_reducible refine guardD_intro (fun _ => ?_) (fun _ => ?_)) | ((with_reducible apply call_eq (g19 hP (winsOf c p) _ (.s0 h) h1 h2)); exact rfl; exact rfl) | ((with_reducible apply call_fzeq (g19 hP (winsOf c p) _ (.s0 h) h1 h2)); exact rfl)
  | nl h => repeat' first | simp -implicitDefEqProofs only [go_sem, kbase, Nat.reduceBEq, Nat.reduceLT, Nat.reduceAdd, Nat.reduceEqDiff, Nat.reduceLeDiff, reduceIte, Int.reduceEq, Int.reduceLT, Int.reduceLE, Int.reduceToNat, Int.reduceAdd, *] | (with_reducible refine guard_intro (fun _ => ?_) (fun _ => ?_)) | (with_reducible refine cond_intro (fun _ => ?_) (fun _ => ?_)) | ((with_reducible apply gc_intro); exact rfl) | (with_reducible refine guardD_intro (fun _ => ?_) (fun _ => ?_)) | ((with_reducible apply call_eq (g19 hP (winsOf c p) _ (.nl h) h1 h2)); exact rfl; exact rfl) | ((with_reducible apply call_fzeq (g19 hP (winsOf c p) _ (.nl h) h1 h2)); exact rfl)
theorem g6 (c : Cfg) (hc : c.Ok) : Ans (zG b) P 6 [.agg c.enc] (.tup [.c (iC (idleR c).1), .c (.val (errV b (idleR c).2))]) := by
  refine good_z hP rfl rfl ?_
  cases hok : cfgOk c with
  | true =>
    have ht := cfg_ticks hok
    have hs := sumZ_le (wins_sum hok)
    have hl := cfg_nwins hok
    have e : idleR c = (c.ticks - sumZ c.wins, 0) := by simp only [idleR, hok, if_true, ticks_idle hok]
    have hw : IntKind.wrap .i64 (c.ticks - sumZ c.wins) = c.ticks - sumZ c.wins := wrap2 (by omega) (by omega)
    rw [e]; clear e ht hs
    simp -implicitDefEqProofs only [go_sem, kbase, Nat.reduceBEq, Nat.reduceLT, Nat.reduceAdd, Nat.reduceEqDiff, Nat.reduceLeDiff, reduceIte, Int.reduceEq, Int.reduceLT, Int.reduceLE, Int.reduceToNat, Int.reduceAdd, r6, Cfg.enc]
    repeat' first | simp -implicitDefEqProofs only [go_sem, kbase, Nat.reduceBEq, Nat.reduceLT, Nat.reduceAdd, Nat.reduceEqDiff, Nat.reduceLeDiff, reduceIte, Int.reduceEq, Int.reduceLT, Int.reduceLE, Int.reduceToNat, Int.reduceAdd, *, errV_0] | (with_reducible refine guard_intro (fun _ => ?_) (fun _ => ?_)) | (with_reducible refine cond_intro (fun _ => ?_) (fun _ => ?_)) | ((with_reducible apply gc_intro); exact rfl) | (with_reducible refine guardD_intro (fun _ => ?_) (fun _ => ?_)) | (with_reducible refine gl_intro (fun _ => ?_) (fun _ => ?_)) | (with_reducible refine gm_intro (fun _ => ?_) (fun _ => ?_)) | ((with_reducible apply call_eq (g12g hP c hc hok)); exact rfl; exact rfl) | ((with_reducible apply call_fzeq (g12g hP c hc hok)); exact rfl) | ((with_reducible apply callO_eq (g19 hP c.wins _ .sl hl (wins_sum hok))); exact rfl; exact rfl)
  | false =>
    have e : idleR c = (0, 8) := by simp [idleR, hok]
    rw [e]; clear e
    simp -implicitDefEqProofs only [go_sem, kbase, Nat.reduceBEq, Nat.reduceLT, Nat.reduceAdd, Nat.reduceEqDiff, Nat.reduceLeDiff, reduceIte, Int.reduceEq, Int.reduceLT, Int.reduceLE, Int.reduceToNat, Int.reduceAdd, r6, Cfg.enc]
    repeat' first | simp -implicitDefEqProofs only [go_sem, kbase, Nat.reduceBEq, Nat.reduceLT, Nat.reduceAdd, Nat.reduceEqDiff, Nat.reduceLeDiff, reduceIte, Int.reduceEq, Int.reduceLT, Int.reduceLE, Int.reduceToNat, Int.reduceAdd, *, errV_8] | (with_reducible refine guard_intro (fun _ => ?_) (fun _ => ?_)) | (with_reducible refine cond_intro (fun _ => ?_) (fun _ => ?_)) | ((with_reducible apply gc_intro); exact rfl) | (with_reducible refine guardD_intro (fun _ => ?_) (fun _ => ?_)) | ((with_reducible apply call_fz (hg := g12b hP c hc hok)); exact rfl; rintro _ hv; cases hv)
theorem g32 (c : Cfg) (hc : c.Ok) (p : Int) : Ans (zG b) P 32 [.agg c.enc, .c (iC p)] (.tup [.c (bC (joinR c p).1), .c (.val (errV b (joinR c p).2))]) := by
  refine good_z hP rfl rfl ?_
  cases hok : cfgOk c with
  | true =>
    cases ht : thB c p with
    | true =>
      have e : joinR c p = (joinB c p, 0) := by simp [joinR, hok, ht]
      rw [e]; clear e
      simp only [thB] at ht
      simp -implicitDefEqProofs only [go_sem, kbase, Nat.reduceBEq, Nat.reduceLT, Nat.reduceAdd, Nat.reduceEqDiff, Nat.reduceLeDiff, reduceIte, Int.reduceEq, Int.reduceLT, Int.reduceLE, Int.reduceToNat, Int.reduceAdd, r32, Cfg.enc]
      repeat' first | simp -implicitDefEqProofs only [go_sem, kbase, Nat.reduceBEq, Nat.reduceLT, Nat.reduceAdd, Nat.reduceEqDiff, Nat.reduceLeDiff, reduceIte, Int.reduceEq, Int.reduceLT, Int.reduceLE, Int.reduceToNat, Int.reduceAdd, *, errV_0] | (with_reducible refine guard_intro (fun _ => ?_) (fun _ => ?_)) | (with_reducible refine cond_intro (fun _ => ?_) (fun _ => ?_)) | ((with_reducible apply gc_intro); exact rfl) | (with_reducible refine guardD_intro (fun _ => ?_) (fun _ => ?_)) | ((with_reducible apply call_eq (g12g hP c hc hok)); exact rfl; exact rfl) | ((with_reducible apply call_fzeq (g12g hP c hc hok)); exact rfl) | ((with_reducible apply call_eq (g43 hP c _)); exact rfl; exact rfl) | ((with_reducible apply call_fzeq (g43 hP c _)); exact rfl) | ((with_reducible apply call_eq (g44 hP c.links p hc.nlinks)); exact rfl; exact rfl) | ((with_reducible apply call_fzeq (g44 hP c.links p hc.nlinks)); exact rfl)
      all_goals rfl
    | false =>
      have e : joinR c p = (false, 12) := by simp [joinR, hok, ht]
      rw [e]; clear e
      simp only [thB] at ht
      simp -implicitDefEqProofs only [go_sem, kbase, Nat.reduceBEq, Nat.reduceLT, Nat.reduceAdd, Nat.reduceEqDiff, Nat.reduceLeDiff, reduceIte, Int.reduceEq, Int.reduceLT, Int.reduceLE, Int.reduceToNat, Int.reduceAdd, r32, Cfg.enc]
      repeat' first | simp -implicitDefEqProofs only [go_sem, kbase, Nat.reduceBEq, Nat.reduceLT, Nat.reduceAdd, Nat.reduceEqDiff, Nat.reduceLeDiff, reduceIte, Int.reduceEq, Int.reduceLT, Int.reduceLE, Int.reduceToNat, Int.reduceAdd, *, errV_12] | (with_reducible refine guard_intro (fun _ => ?_) (fun _ => ?_)) | (with_reducible refine cond_intro (fun _ => ?_) (fun _ => ?_)) | ((with_reducible apply gc_intro); exact rfl) | (with_reducible refine guardD_intro (fun _ => ?_) (fun _ => ?_)) | ((with_reducible apply call_eq (g12g hP c hc hok)); exact rfl; exact rfl) | ((with_reducible apply call_fzeq (g12g hP c hc hok)); exact rfl) | ((with_reducible apply call_eq (g43 hP c _)); exact rfl; exact rfl) | ((with_reducible apply call_fzeq (g43 hP c _)); exact rfl)
  | false =>
    have e : joinR c p = (false, 8) := by simp [joinR, hok]
    rw [e]; clear e
    simp -implicitDefEqProofs only [go_sem, kbase, Nat.reduceBEq, Nat.reduceLT, Nat.reduceAdd, Nat.reduceEqDiff, Nat.reduceLeDiff, reduceIte, Int.reduceEq, Int.reduceLT, Int.reduceLE, Int.reduceToNat, Int.reduceAdd, r32, Cfg.enc]
    repeat' first | simp -implicitDefEqProofs only [go_sem, kbase, Nat.reduceBEq, Nat.reduceLT, Nat.reduceAdd, Nat.reduceEqDiff, Nat.reduceLeDiff, reduceIte, Int.reduceEq, Int.reduceLT, Int.reduceLE, Int.reduceToNat, Int.reduceAdd, *, errV_8] | (with_reducible refine guard_intro (fun _ => ?_) (fun _ => ?_)) | (with_reducible refine cond_intro (fun _ => ?_) (fun _ => ?_)) | ((with_reducible apply gc_intro); exact rfl) | (with_reducible refine guardD_intro (fun _ => ?_) (fun _ => ?_)) | ((with_reducible apply call_fz (hg := g12b hP c hc hok)); exact rfl; rintro _ hv; cases hv)
theorem g28 (c : Cfg) (hc : c.Ok) (t : Int) : Ans (zG b) P 28 [.agg c.enc, .c (iC t)] (.tup [.c (iC (atR c t).1), .c (.val (errV b (atR c t).2))]) := by
  refine good_z hP rfl rfl ?_
  cases hok : cfgOk c with
  | true =>
    by_cases h0 : 0 ≤ t ∧ t < c.ticks
    · have e : atR c t = if ownT c t = -2 then (0, 17) else (ownT c t, 0) := by simp [atR, hok, h0]
      rw [e]; clear e
      have n2 : decide (t < 0) = false := by simp; omega
      have n3 : decide (c.ticks ≤ t) = false := by simp; omega
      clear h0
      simp -implicitDefEqProofs only [go_sem, kbase, Nat.reduceBEq, Nat.reduceLT, Nat.reduceAdd, Nat.reduceEqDiff, Nat.reduceLeDiff, reduceIte, Int.reduceEq, Int.reduceLT, Int.reduceLE, Int.reduceToNat, Int.reduceAdd, r28, Cfg.enc]
      repeat' first | simp -implicitDefEqProofs only [go_sem, kbase, Nat.reduceBEq, Nat.reduceLT, Nat.reduceAdd, Nat.reduceEqDiff, Nat.reduceLeDiff, reduceIte, Int.reduceEq, Int.reduceLT, Int.reduceLE, Int.reduceToNat, Int.reduceAdd, *] | (with_reducible refine guard_intro (fun _ => ?_) (fun _ => ?_)) | (with_reducible refine cond_intro (fun _ => ?_) (fun _ => ?_)) | ((with_reducible apply gc_intro); exact rfl) | (with_reducible refine guardD_intro (fun _ => ?_) (fun _ => ?_)) | ((with_reducible apply call_eq (g12g hP c hc hok)); exact rfl; exact rfl) | ((with_reducible apply call_fzeq (g12g hP c hc hok)); exact rfl)
      refine loop_slots 0 (fun i => c.wins.length - i) (fun i => i ≤ c.wins.length ∧ Hid ((c.wins.take i).all (fun w => !decide (inW w t)) = true)) (fun i s => sset s 24 (.c (iC (i : Nat)))) rfl ⟨by simp, by simp [Hid]⟩ ?_
      rintro i ⟨hi, ha⟩
      simp -implicitDefEqProofs only [go_sem, kbase, Nat.reduceBEq, Nat.reduceLT, Nat.reduceAdd, Nat.reduceEqDiff, Nat.reduceLeDiff, reduceIte, Int.reduceEq, Int.reduceLT, Int.reduceLE, Int.reduceToNat, Int.reduceAdd]
      refine cond_intro (fun h => ?_) (fun h => ?_)
      · have hlt : i < c.wins.length := by simpa using h
        have hrow := row_at (e := Win.enc) hlt
        have hw := wrap_succ (n := i) (by have := hc.nwins; omega)
        obtain ⟨c1, c2, c3, c4, c5⟩ := cfg_win hok hlt
        have ht := cfg_ticks hok
        have hw3 : IntKind.wrap .i64 (c.wins[i].start + c.wins[i].len) = c.wins[i].start + c.wins[i].len := wrap2 (by omega) (by omega)
        clear c1 c2 c3 c5 ht
        repeat' first | simp -implicitDefEqProofs only [go_sem, kbase, Nat.reduceBEq, Nat.reduceLT, Nat.reduceAdd, Nat.reduceEqDiff, Nat.reduceLeDiff, reduceIte, Int.reduceEq, Int.reduceLT, Int.reduceLE, Int.reduceToNat, Int.reduceAdd, *, Win.enc, Int.natCast_nonneg] | (with_reducible refine guard_intro (fun _ => ?_) (fun _ => ?_)) | (with_reducible refine cond_intro (fun _ => ?_) (fun _ => ?_)) | ((with_reducible apply gc_intro); exact rfl) | (with_reducible refine guardD_intro (fun _ => ?_) (fun _ => ?_))
        · rename_i q1 q2
          simp only [decide_eq_true_eq] at q1 q2
          have ho := own_in hok (List.getElem_mem hlt) (t := t) ⟨q1, q2⟩
          have hne := ownB_ne c4
          rw [ho, if_neg hne]; rfl
        · rename_i q1 q2
          simp only [decide_eq_true_eq, decide_eq_false_iff_not] at q1 q2
          exact ⟨i + 1, by omega, ⟨by omega, all_step hlt ha (by simp only [Bool.not_eq_true', decide_eq_false_iff_not]; unfold inW; omega)⟩, rfl⟩
        · rename_i q1
          simp only [decide_eq_false_iff_not] at q1
          exact ⟨i + 1, by omega, ⟨by omega, all_step hlt ha (by simp only [Bool.not_eq_true', decide_eq_false_iff_not]; unfold inW; omega)⟩, rfl⟩
      · have hall := all_end (by simpa using h) ha
        have ho : ownT c t = -2 := by
          refine own_out fun w hw hi => ?_
          rw [List.all_eq_true] at hall
          have := hall w hw
          simp [hi] at this
        clear hall
        repeat' first | simp -implicitDefEqProofs only [go_sem, kbase, Nat.reduceBEq, Nat.reduceLT, Nat.reduceAdd, Nat.reduceEqDiff, Nat.reduceLeDiff, reduceIte, Int.reduceEq, Int.reduceLT, Int.reduceLE, Int.reduceToNat, Int.reduceAdd, *, errV_17] | (with_reducible refine guard_intro (fun _ => ?_) (fun _ => ?_)) | (with_reducible refine cond_intro (fun _ => ?_) (fun _ => ?_)) | ((with_reducible apply gc_intro); exact rfl) | (with_reducible refine guardD_intro (fun _ => ?_) (fun _ => ?_))
    · have e : atR c t = (0, 12) := by simp only [atR, hok, if_true]; rw [if_neg h0]
      rw [e]; clear e
      have h1 : t < 0 ∨ c.ticks ≤ t := by omega
      clear h0
      simp -implicitDefEqProofs only [go_sem, kbase, Nat.reduceBEq, Nat.reduceLT, Nat.reduceAdd, Nat.reduceEqDiff, Nat.reduceLeDiff, reduceIte, Int.reduceEq, Int.reduceLT, Int.reduceLE, Int.reduceToNat, Int.reduceAdd, r28, Cfg.enc]
      repeat' first | simp -implicitDefEqProofs only [go_sem, kbase, Nat.reduceBEq, Nat.reduceLT, Nat.reduceAdd, Nat.reduceEqDiff, Nat.reduceLeDiff, reduceIte, Int.reduceEq, Int.reduceLT, Int.reduceLE, Int.reduceToNat, Int.reduceAdd, *, errV_12] | (with_reducible refine guard_intro (fun _ => ?_) (fun _ => ?_)) | (with_reducible refine cond_intro (fun _ => ?_) (fun _ => ?_)) | ((with_reducible apply gc_intro); exact rfl) | (with_reducible refine guardD_intro (fun _ => ?_) (fun _ => ?_)) | ((with_reducible apply call_eq (g12g hP c hc hok)); exact rfl; exact rfl) | ((with_reducible apply call_fzeq (g12g hP c hc hok)); exact rfl)
      all_goals first | rfl | (exfalso; grind)
  | false =>
    have e : atR c t = (0, 8) := by simp [atR, hok]
    rw [e]; clear e
    simp -implicitDefEqProofs only [go_sem, kbase, Nat.reduceBEq, Nat.reduceLT, Nat.reduceAdd, Nat.reduceEqDiff, Nat.reduceLeDiff, reduceIte, Int.reduceEq, Int.reduceLT, Int.reduceLE, Int.reduceToNat, Int.reduceAdd, r28, Cfg.enc]
    repeat' first | simp -implicitDefEqProofs only [go_sem, kbase, Nat.reduceBEq, Nat.reduceLT, Nat.reduceAdd, Nat.reduceEqDiff, Nat.reduceLeDiff, reduceIte, Int.reduceEq, Int.reduceLT, Int.reduceLE, Int.reduceToNat, Int.reduceAdd, *, errV_8] | (with_reducible refine guard_intro (fun _ => ?_) (fun _ => ?_)) | (with_reducible refine cond_intro (fun _ => ?_) (fun _ => ?_)) | ((with_reducible apply gc_intro); exact rfl) | (with_reducible refine guardD_intro (fun _ => ?_) (fun _ => ?_)) | ((with_reducible apply call_fz (hg := g12b hP c hc hok)); exact rfl; rintro _ hv; cases hv)
theorem g29 (c : Cfg) (hc : c.Ok) (p t : Int) : Ans (zG b) P 29 [.agg c.enc, .c (iC p), .c (iC t)] (.tup [.c (iC (nextR c p t).1), .c (iC (nextR c p t).2)]) := by
  refine good_z hP rfl rfl ?_
  cases hok : cfgOk c with
  | true =>
    by_cases h0 : ownB c p = true ∧ 0 ≤ t ∧ t < c.ticks
    · have hct := cfg_ticks hok
      obtain ⟨T, hT⟩ : ∃ T : Nat, c.ticks = T := ⟨c.ticks.toNat, by omega⟩
      obtain ⟨k, rfl⟩ : ∃ k : Nat, t = k := ⟨t.toNat, by omega⟩
      have e : nextR c p (k : Int) = match nextN c p (T - k) (k : Int) with
          | some j => (j, 0)
          | none => (0, 17) := by
        simp only [nextR, hok, if_true]
        rw [if_pos h0, hT, show ((T : Int) - (k : Int)).toNat = T - k by omega]
      have n0 : (decide (-1 ≤ p) && decide (p < (c.parts.length : Int))) = true := h0.1
      have n2 : decide (((k : Nat) : Int) < 0) = false := by simp
      have n3 : decide (c.ticks ≤ (k : Int)) = false := by simp; omega
      have hkT : k ≤ T := by omega
      have hT1 : T ≤ 10000 := by omega
      rw [e]
      have hT' : Hid (c.ticks = T) := hT
      clear e h0 hct hT
      simp -implicitDefEqProofs only [go_sem, kbase, Nat.reduceBEq, Nat.reduceLT, Nat.reduceAdd, Nat.reduceEqDiff, Nat.reduceLeDiff, reduceIte, Int.reduceEq, Int.reduceLT, Int.reduceLE, Int.reduceToNat, Int.reduceAdd, r29, Cfg.enc]
      repeat' first | simp -implicitDefEqProofs only [go_sem, kbase, Nat.reduceBEq, Nat.reduceLT, Nat.reduceAdd, Nat.reduceEqDiff, Nat.reduceLeDiff, reduceIte, Int.reduceEq, Int.reduceLT, Int.reduceLE, Int.reduceToNat, Int.reduceAdd, *] | (with_reducible refine guard_intro (fun _ => ?_) (fun _ => ?_)) | (with_reducible refine cond_intro (fun _ => ?_) (fun _ => ?_)) | ((with_reducible apply gc_intro); exact rfl) | (with_reducible refine guardD_intro (fun _ => ?_) (fun _ => ?_)) | ((with_reducible apply call_eq (g17 hP c hc)); exact rfl; exact rfl) | ((with_reducible apply call_fzeq (g17 hP c hc)); exact rfl) | ((with_reducible apply call_eq (g41 hP c _)); exact rfl; exact rfl) | ((with_reducible apply call_fzeq (g41 hP c _)); exact rfl) | ((with_reducible apply call_eq (g40 hP c hc hok)); exact rfl; exact rfl) | ((with_reducible apply call_fzeq (g40 hP c hc hok)); exact rfl)
      refine loop_slots k (fun i => T - i) (fun i => i ≤ T ∧ Hid (nextN c p (T - i) (i : Int) = nextN c p (T - k) (k : Int))) (fun i s => sset s 9 (.c (iC (i : Nat)))) ?_ ⟨by omega, rfl⟩ ?_
      · rfl
      rintro i ⟨hi, hn⟩
      simp -implicitDefEqProofs only [go_sem, kbase, Nat.reduceBEq, Nat.reduceLT, Nat.reduceAdd, Nat.reduceEqDiff, Nat.reduceLeDiff, reduceIte, Int.reduceEq, Int.reduceLT, Int.reduceLE, Int.reduceToNat, Int.reduceAdd]
      refine cond_intro (fun h => ?_) (fun h => ?_)
      · have hT : c.ticks = T := hT'
        have hlt : i < T := by simp at h; omega
        have hltl : i < (ownersL c).length := by rw [ownersL_len]; omega
        clear hT
        have hrow := row_at (e := intE) hltl
        have hv : (ownersL c)[i] = ownT c (i : Int) := by simp [ownersL]
        have hw := wrap_succ (n := i) (by omega)
        have hstep : nextN c p (T - i) (i : Int) = if ownT c (i : Int) = p then some (i : Int) else nextN c p (T - (i + 1)) ((i + 1 : Nat) : Int) := by
          rw [show T - i = (T - (i + 1)) + 1 by omega]; rfl
        have hstep : Hid (nextN c p (T - i) (i : Int) = if ownT c (i : Int) = p then some (i : Int) else nextN c p (T - (i + 1)) ((i + 1 : Nat) : Int)) := hstep
        repeat' first | simp -implicitDefEqProofs only [go_sem, kbase, Nat.reduceBEq, Nat.reduceLT, Nat.reduceAdd, Nat.reduceEqDiff, Nat.reduceLeDiff, reduceIte, Int.reduceEq, Int.reduceLT, Int.reduceLE, Int.reduceToNat, Int.reduceAdd, *, intE, Int.natCast_nonneg] | (with_reducible refine guard_intro (fun _ => ?_) (fun _ => ?_)) | (with_reducible refine cond_intro (fun _ => ?_) (fun _ => ?_)) | ((with_reducible apply gc_intro); exact rfl) | (with_reducible refine guardD_intro (fun _ => ?_) (fun _ => ?_))
        · rename_i q
          simp only [beq_iff_eq] at q
          have h1 : nextN c p (T - k) (k : Int) = some (i : Int) := by rw [← show _ = _ from hn, show _ = _ from hstep, if_pos q]
          rw [h1]
        · rename_i q
          have q' : ¬ ownT c (i : Int) = p := by simpa using q
          refine ⟨i + 1, by omega, ⟨by omega, ?_⟩, rfl⟩
          show _ = _
          rw [← show _ = _ from hn, show nextN c p (T - i) (i : Int) = _ from hstep, if_neg q']
      · have hT : c.ticks = T := hT'
        have hge : T ≤ i := by simp at h; omega
        clear hT
        have h1 : nextN c p (T - k) (k : Int) = none := by
          rw [← show _ = _ from hn, show T - i = 0 by omega]; rfl
        rw [h1]
        repeat' first | simp -implicitDefEqProofs only [go_sem, kbase, Nat.reduceBEq, Nat.reduceLT, Nat.reduceAdd, Nat.reduceEqDiff, Nat.reduceLeDiff, reduceIte, Int.reduceEq, Int.reduceLT, Int.reduceLE, Int.reduceToNat, Int.reduceAdd, *] | (with_reducible refine guard_intro (fun _ => ?_) (fun _ => ?_)) | (with_reducible refine cond_intro (fun _ => ?_) (fun _ => ?_)) | ((with_reducible apply gc_intro); exact rfl) | (with_reducible refine guardD_intro (fun _ => ?_) (fun _ => ?_))
    · have e : nextR c p t = (0, 12) := by simp only [nextR, hok, if_true]; rw [if_neg h0]
      rw [e]; clear e
      have h1 : (decide (-1 ≤ p) && decide (p < (c.parts.length : Int))) = false ∨ t < 0 ∨ c.ticks ≤ t := by
        unfold ownB at h0
        cases hq : (decide (-1 ≤ p) && decide (p < (c.parts.length : Int))) with
        | true =>
          rw [hq] at h0
          right
          by_cases hl : t < 0
          · exact .inl hl
          · by_cases hr : c.ticks ≤ t
            · exact .inr hr
            · exact absurd ⟨rfl, by omega, by omega⟩ h0
        | false => left; rfl
      clear h0
      simp -implicitDefEqProofs only [go_sem, kbase, Nat.reduceBEq, Nat.reduceLT, Nat.reduceAdd, Nat.reduceEqDiff, Nat.reduceLeDiff, reduceIte, Int.reduceEq, Int.reduceLT, Int.reduceLE, Int.reduceToNat, Int.reduceAdd, r29, Cfg.enc]
      repeat' first | simp -implicitDefEqProofs only [go_sem, kbase, Nat.reduceBEq, Nat.reduceLT, Nat.reduceAdd, Nat.reduceEqDiff, Nat.reduceLeDiff, reduceIte, Int.reduceEq, Int.reduceLT, Int.reduceLE, Int.reduceToNat, Int.reduceAdd, *] | (with_reducible refine guard_intro (fun _ => ?_) (fun _ => ?_)) | (with_reducible refine cond_intro (fun _ => ?_) (fun _ => ?_)) | ((with_reducible apply gc_intro); exact rfl) | (with_reducible refine guardD_intro (fun _ => ?_) (fun _ => ?_)) | ((with_reducible apply call_eq (g17 hP c hc)); exact rfl; exact rfl) | ((with_reducible apply call_fzeq (g17 hP c hc)); exact rfl) | ((with_reducible apply call_eq (g41 hP c _)); exact rfl; exact rfl) | ((with_reducible apply call_fzeq (g41 hP c _)); exact rfl)
      all_goals (exfalso; grind)
  | false =>
    have e : nextR c p t = (0, 8) := by simp [nextR, hok]
    rw [e]; clear e
    simp -implicitDefEqProofs only [go_sem, kbase, Nat.reduceBEq, Nat.reduceLT, Nat.reduceAdd, Nat.reduceEqDiff, Nat.reduceLeDiff, reduceIte, Int.reduceEq, Int.reduceLT, Int.reduceLE, Int.reduceToNat, Int.reduceAdd, r29, Cfg.enc]
    repeat' first | simp -implicitDefEqProofs only [go_sem, kbase, Nat.reduceBEq, Nat.reduceLT, Nat.reduceAdd, Nat.reduceEqDiff, Nat.reduceLeDiff, reduceIte, Int.reduceEq, Int.reduceLT, Int.reduceLE, Int.reduceToNat, Int.reduceAdd, *] | (with_reducible refine guard_intro (fun _ => ?_) (fun _ => ?_)) | (with_reducible refine cond_intro (fun _ => ?_) (fun _ => ?_)) | ((with_reducible apply gc_intro); exact rfl) | (with_reducible refine guardD_intro (fun _ => ?_) (fun _ => ?_)) | ((with_reducible apply call_eq (g17 hP c hc)); exact rfl; exact rfl) | ((with_reducible apply call_fzeq (g17 hP c hc)); exact rfl)
end Go.LH.Z
