/- FrameAsks: Next, the program. -/
import Derived.Test.YtieoifkedeeehaaGreatDoorZN
namespace Go.LH.Z
open Go Go.LH
set_option linter.unusedSimpArgs false
set_option linter.unusedVariables false
set_option maxRecDepth 10000
set_option maxHeartbeats 4000000
attribute [go_sem] maxC
variable {P : Program} {b : Nat → Addr} (hP : Codes P)
include hP
theorem g13 (c : Cfg) (hc : c.Ok) (p t : Int) : Ans (zG b) P 13 [.agg c.enc, .c (iC p), .c (iC t)] (.tup [.c (iC (nextR c p t).1), .c (.val (errV b (nextR c p t).2))]) := by
  refine good_z hP rfl rfl ?_
  have hg := g22 hP (b := b) c hc p
  cases hok : cfgOk c with
  | true =>
    cases ho : ownB c p with
    | true =>
      have e1 : ownE c p = 0 := by simp [ownE, hok, ho]
      have e2 : winsOf c p = winL c p c.wins.length := by simp [winsOf, hok, ho]
      rw [e1, e2] at hg
      have hwl := winL_le hok p
      have hws : ∀ w ∈ winL c p c.wins.length, 0 ≤ w.start ∧ 1 ≤ w.len ∧ w.start + w.len ≤ c.ticks := fun w hw => by
        have := wins_len hok w (mem_winL.1 hw).1
        omega
      have hct := cfg_ticks hok
      by_cases h0 : 0 ≤ t ∧ t < c.ticks
      · have e : nextR c p t = match nextN c p (c.ticks - t).toNat t with
            | some j => (j, 0)
            | none => (0, 17) := by
          simp only [nextR, hok, if_true]
          rw [if_pos ⟨ho, h0⟩]
          cases nextN c p (c.ticks - t).toNat t <;> rfl
        rw [e]
        clear e
        have n2 : decide (t < 0) = false := by simp; omega
        have n3 : decide (c.ticks ≤ t) = false := by simp; omega
        have hmiss := next_miss hok (ownB_ne ho) h0
        have hhit := @next_hit c hok p t (ownB_ne ho) h0
        have h0' : Hid (0 ≤ t ∧ t < c.ticks) := h0
        generalize hL : winL c p c.wins.length = l at *
        clear h0 e1 e2 hL
        simp -implicitDefEqProofs only [go_sem, kbase, Nat.reduceBEq, Nat.reduceLT, Nat.reduceAdd, Nat.reduceEqDiff, Nat.reduceLeDiff, reduceIte, Int.reduceEq, Int.reduceLT, Int.reduceLE, Int.reduceToNat, Int.reduceAdd, r13, Cfg.enc]
        refine call_fz rfl hg ?_
        rintro _ ⟨x, hx⟩
        cases hx with
        | sl =>
          repeat' first | simp -implicitDefEqProofs only [go_sem, kbase, Nat.reduceBEq, Nat.reduceLT, Nat.reduceAdd, Nat.reduceEqDiff, Nat.reduceLeDiff, reduceIte, Int.reduceEq, Int.reduceLT, Int.reduceLE, Int.reduceToNat, Int.reduceAdd, *, errV_0] | (with_reducible refine guard_intro (fun _ => ?_) (fun _ => ?_)) | (with_reducible refine cond_intro (fun _ => ?_) (fun _ => ?_)) | ((with_reducible apply gc_intro); exact rfl) | (with_reducible refine guardD_intro (fun _ => ?_) (fun _ => ?_))
          refine loop_slots 0 (fun i => l.length - i) (fun i => i ≤ l.length ∧ Hid (∀ w ∈ l.take i, w.start + w.len ≤ t)) (fun i s => sset s 32 (.c (iC (i : Nat)))) rfl ⟨by simp, by simp [Hid]⟩ ?_
          rintro i ⟨hi, ha⟩
          simp -implicitDefEqProofs only [go_sem, kbase, Nat.reduceBEq, Nat.reduceLT, Nat.reduceAdd, Nat.reduceEqDiff, Nat.reduceLeDiff, reduceIte, Int.reduceEq, Int.reduceLT, Int.reduceLE, Int.reduceToNat, Int.reduceAdd]
          refine cond_intro (fun h => ?_) (fun h => ?_)
          · have hlt : i < l.length := by simpa using h
            have hrow := row_at (e := Win.enc) hlt
            have hw := wrap_succ (n := i) (by omega)
            obtain ⟨c1, c2, c3⟩ := hws _ (List.getElem_mem hlt)
            have hw3 : IntKind.wrap .i64 (l[i].start + l[i].len) = l[i].start + l[i].len := wrap2 (by omega) (by omega)
            clear c1 c2 c3 hmiss
            repeat' first | simp -implicitDefEqProofs only [go_sem, kbase, Nat.reduceBEq, Nat.reduceLT, Nat.reduceAdd, Nat.reduceEqDiff, Nat.reduceLeDiff, reduceIte, Int.reduceEq, Int.reduceLT, Int.reduceLE, Int.reduceToNat, Int.reduceAdd, *, Win.enc, Int.natCast_nonneg] | (with_reducible refine guard_intro (fun _ => ?_) (fun _ => ?_)) | (with_reducible refine cond_intro (fun _ => ?_) (fun _ => ?_)) | ((with_reducible apply gc_intro); exact rfl) | (with_reducible refine guardD_intro (fun _ => ?_) (fun _ => ?_))
            · rename_i q
              have hq := hhit hlt ha (by simpa using q)
              rw [hq]
              have hmx : (if l[i].start > t then l[i].start else t) = max t l[i].start := by
                split <;> omega
              rw [hmx]; rfl
            · rename_i q
              simp only [decide_eq_false_iff_not] at q
              refine ⟨i + 1, by omega, ⟨by omega, ?_⟩, rfl⟩
              intro w hw
              rw [List.take_succ_eq_append_getElem hlt] at hw
              rcases List.mem_append.1 hw with hw | hw
              · exact ha w hw
              · simp only [List.mem_singleton] at hw; subst hw; omega
          · have hge : l.length ≤ i := by simpa using h
            have h1 := hmiss (by rw [show Hid (∀ w ∈ l.take i, w.start + w.len ≤ t) = _ from rfl, List.take_of_length_le hge] at ha; exact ha)
            repeat' first | simp -implicitDefEqProofs only [go_sem, kbase, Nat.reduceBEq, Nat.reduceLT, Nat.reduceAdd, Nat.reduceEqDiff, Nat.reduceLeDiff, reduceIte, Int.reduceEq, Int.reduceLT, Int.reduceLE, Int.reduceToNat, Int.reduceAdd, *, errV_17] | (with_reducible refine guard_intro (fun _ => ?_) (fun _ => ?_)) | (with_reducible refine cond_intro (fun _ => ?_) (fun _ => ?_)) | ((with_reducible apply gc_intro); exact rfl) | (with_reducible refine guardD_intro (fun _ => ?_) (fun _ => ?_))
        | s0 h =>
          have hl : l = [] := by simpa using h
          subst hl
          have h1 := hmiss (by simp)
          repeat' first | simp -implicitDefEqProofs only [go_sem, kbase, Nat.reduceBEq, Nat.reduceLT, Nat.reduceAdd, Nat.reduceEqDiff, Nat.reduceLeDiff, reduceIte, Int.reduceEq, Int.reduceLT, Int.reduceLE, Int.reduceToNat, Int.reduceAdd, *, errV_0, errV_17] | (with_reducible refine guard_intro (fun _ => ?_) (fun _ => ?_)) | (with_reducible refine cond_intro (fun _ => ?_) (fun _ => ?_)) | ((with_reducible apply gc_intro); exact rfl) | (with_reducible refine guardD_intro (fun _ => ?_) (fun _ => ?_))
          refine loop_slots () (fun i => 0) (fun i => True) (fun i s => s) rfl trivial ?_
          intro i hi
          repeat' first | simp -implicitDefEqProofs only [go_sem, kbase, Nat.reduceBEq, Nat.reduceLT, Nat.reduceAdd, Nat.reduceEqDiff, Nat.reduceLeDiff, reduceIte, Int.reduceEq, Int.reduceLT, Int.reduceLE, Int.reduceToNat, Int.reduceAdd, *, errV_17] | (with_reducible refine guard_intro (fun _ => ?_) (fun _ => ?_)) | (with_reducible refine cond_intro (fun _ => ?_) (fun _ => ?_)) | ((with_reducible apply gc_intro); exact rfl) | (with_reducible refine guardD_intro (fun _ => ?_) (fun _ => ?_))
        | nl h =>
          have hl : l = [] := by simpa using h
          subst hl
          have h1 := hmiss (by simp)
          repeat' first | simp -implicitDefEqProofs only [go_sem, kbase, Nat.reduceBEq, Nat.reduceLT, Nat.reduceAdd, Nat.reduceEqDiff, Nat.reduceLeDiff, reduceIte, Int.reduceEq, Int.reduceLT, Int.reduceLE, Int.reduceToNat, Int.reduceAdd, *, errV_0, errV_17] | (with_reducible refine guard_intro (fun _ => ?_) (fun _ => ?_)) | (with_reducible refine cond_intro (fun _ => ?_) (fun _ => ?_)) | ((with_reducible apply gc_intro); exact rfl) | (with_reducible refine guardD_intro (fun _ => ?_) (fun _ => ?_))
          refine loop_slots () (fun i => 0) (fun i => True) (fun i s => s) rfl trivial ?_
          intro i hi
          repeat' first | simp -implicitDefEqProofs only [go_sem, kbase, Nat.reduceBEq, Nat.reduceLT, Nat.reduceAdd, Nat.reduceEqDiff, Nat.reduceLeDiff, reduceIte, Int.reduceEq, Int.reduceLT, Int.reduceLE, Int.reduceToNat, Int.reduceAdd, *, errV_17] | (with_reducible refine guard_intro (fun _ => ?_) (fun _ => ?_)) | (with_reducible refine cond_intro (fun _ => ?_) (fun _ => ?_)) | ((with_reducible apply gc_intro); exact rfl) | (with_reducible refine guardD_intro (fun _ => ?_) (fun _ => ?_))
      · have e : nextR c p t = (0, 12) := by
          simp only [nextR, hok, if_true]; rw [if_neg (fun h => h0 h.2)]
        rw [e]; clear e
        have h1 : t < 0 ∨ c.ticks ≤ t := by omega
        clear h0
        simp -implicitDefEqProofs only [go_sem, kbase, Nat.reduceBEq, Nat.reduceLT, Nat.reduceAdd, Nat.reduceEqDiff, Nat.reduceLeDiff, reduceIte, Int.reduceEq, Int.reduceLT, Int.reduceLE, Int.reduceToNat, Int.reduceAdd, r13, Cfg.enc]
        refine call_fz rfl hg ?_
        rintro _ ⟨x, hx⟩
        cases hx with
        | sl =>
          repeat' first | simp -implicitDefEqProofs only [go_sem, kbase, Nat.reduceBEq, Nat.reduceLT, Nat.reduceAdd, Nat.reduceEqDiff, Nat.reduceLeDiff, reduceIte, Int.reduceEq, Int.reduceLT, Int.reduceLE, Int.reduceToNat, Int.reduceAdd, *, errV_0, errV_12] | (with_reducible refine guard_intro (fun _ => ?_) (fun _ => ?_)) | (with_reducible refine cond_intro (fun _ => ?_) (fun _ => ?_)) | ((with_reducible apply gc_intro); exact rfl) | (with_reducible refine guardD_intro (fun _ => ?_) (fun _ => ?_))
          all_goals (exfalso; grind)
        | s0 h =>
          repeat' first | simp -implicitDefEqProofs only [go_sem, kbase, Nat.reduceBEq, Nat.reduceLT, Nat.reduceAdd, Nat.reduceEqDiff, Nat.reduceLeDiff, reduceIte, Int.reduceEq, Int.reduceLT, Int.reduceLE, Int.reduceToNat, Int.reduceAdd, *, errV_0, errV_12] | (with_reducible refine guard_intro (fun _ => ?_) (fun _ => ?_)) | (with_reducible refine cond_intro (fun _ => ?_) (fun _ => ?_)) | ((with_reducible apply gc_intro); exact rfl) | (with_reducible refine guardD_intro (fun _ => ?_) (fun _ => ?_))
          all_goals (exfalso; grind)
        | nl h =>
          repeat' first | simp -implicitDefEqProofs only [go_sem, kbase, Nat.reduceBEq, Nat.reduceLT, Nat.reduceAdd, Nat.reduceEqDiff, Nat.reduceLeDiff, reduceIte, Int.reduceEq, Int.reduceLT, Int.reduceLE, Int.reduceToNat, Int.reduceAdd, *, errV_0, errV_12] | (with_reducible refine guard_intro (fun _ => ?_) (fun _ => ?_)) | (with_reducible refine cond_intro (fun _ => ?_) (fun _ => ?_)) | ((with_reducible apply gc_intro); exact rfl) | (with_reducible refine guardD_intro (fun _ => ?_) (fun _ => ?_))
          all_goals (exfalso; grind)
    | false =>
      have e1 : ownE c p = 12 := by simp [ownE, hok, ho]
      have e : nextR c p t = (0, 12) := by simp [nextR, hok, ho]
      rw [e1] at hg
      rw [e]; clear e e1
      simp -implicitDefEqProofs only [go_sem, kbase, Nat.reduceBEq, Nat.reduceLT, Nat.reduceAdd, Nat.reduceEqDiff, Nat.reduceLeDiff, reduceIte, Int.reduceEq, Int.reduceLT, Int.reduceLE, Int.reduceToNat, Int.reduceAdd, r13, Cfg.enc]
      refine call_fz rfl hg ?_
      rintro _ ⟨x, hx⟩
      cases hx with
      | sl => repeat' first | simp -implicitDefEqProofs only [go_sem, kbase, Nat.reduceBEq, Nat.reduceLT, Nat.reduceAdd, Nat.reduceEqDiff, Nat.reduceLeDiff, reduceIte, Int.reduceEq, Int.reduceLT, Int.reduceLE, Int.reduceToNat, Int.reduceAdd, *, errV_12] | (with_reducible refine guard_intro (fun _ => ?_) (fun _ => ?_)) | (with_reducible refine cond_intro (fun _ => ?_) (fun _ => ?_)) | ((with_reducible apply gc_intro); exact rfl) | (with_reducible refine guardD_intro (fun _ => ?_) (fun _ => ?_))
      | s0 h => repeat' first | simp -implicitDefEqProofs only [go_sem, kbase, Nat.reduceBEq, Nat.reduceLT, Nat.reduceAdd, Nat.reduceEqDiff, Nat.reduceLeDiff, reduceIte, Int.reduceEq, Int.reduceLT, Int.reduceLE, Int.reduceToNat, Int.reduceAdd, *, errV_12] | (with_reducible refine guard_intro (fun _ => ?_) (fun _ => ?_)) | (with_reducible refine cond_intro (fun _ => ?_) (fun _ => ?_)) | ((with_reducible apply gc_intro); exact rfl) | (with_reducible refine guardD_intro (fun _ => ?_) (fun _ => ?_))
      | nl h => repeat' first | simp -implicitDefEqProofs only [go_sem, kbase, Nat.reduceBEq, Nat.reduceLT, Nat.reduceAdd, Nat.reduceEqDiff, Nat.reduceLeDiff, reduceIte, Int.reduceEq, Int.reduceLT, Int.reduceLE, Int.reduceToNat, Int.reduceAdd, *, errV_12] | (with_reducible refine guard_intro (fun _ => ?_) (fun _ => ?_)) | (with_reducible refine cond_intro (fun _ => ?_) (fun _ => ?_)) | ((with_reducible apply gc_intro); exact rfl) | (with_reducible refine guardD_intro (fun _ => ?_) (fun _ => ?_))
  | false =>
      have e1 : ownE c p = 8 := by simp [ownE, hok]
      have e : nextR c p t = (0, 8) := by simp [nextR, hok]
      rw [e1] at hg
      rw [e]; clear e e1
      simp -implicitDefEqProofs only [go_sem, kbase, Nat.reduceBEq, Nat.reduceLT, Nat.reduceAdd, Nat.reduceEqDiff, Nat.reduceLeDiff, reduceIte, Int.reduceEq, Int.reduceLT, Int.reduceLE, Int.reduceToNat, Int.reduceAdd, r13, Cfg.enc]
      refine call_fz rfl hg ?_
      rintro _ ⟨x, hx⟩
      cases hx with
      | sl => repeat' first | simp -implicitDefEqProofs only [go_sem, kbase, Nat.reduceBEq, Nat.reduceLT, Nat.reduceAdd, Nat.reduceEqDiff, Nat.reduceLeDiff, reduceIte, Int.reduceEq, Int.reduceLT, Int.reduceLE, Int.reduceToNat, Int.reduceAdd, *, errV_8] | (with_reducible refine guard_intro (fun _ => ?_) (fun _ => ?_)) | (with_reducible refine cond_intro (fun _ => ?_) (fun _ => ?_)) | ((with_reducible apply gc_intro); exact rfl) | (with_reducible refine guardD_intro (fun _ => ?_) (fun _ => ?_))
      | s0 h => repeat' first | simp -implicitDefEqProofs only [go_sem, kbase, Nat.reduceBEq, Nat.reduceLT, Nat.reduceAdd, Nat.reduceEqDiff, Nat.reduceLeDiff, reduceIte, Int.reduceEq, Int.reduceLT, Int.reduceLE, Int.reduceToNat, Int.reduceAdd, *, errV_8] | (with_reducible refine guard_intro (fun _ => ?_) (fun _ => ?_)) | (with_reducible refine cond_intro (fun _ => ?_) (fun _ => ?_)) | ((with_reducible apply gc_intro); exact rfl) | (with_reducible refine guardD_intro (fun _ => ?_) (fun _ => ?_))
      | nl h => repeat' first | simp -implicitDefEqProofs only [go_sem, kbase, Nat.reduceBEq, Nat.reduceLT, Nat.reduceAdd, Nat.reduceEqDiff, Nat.reduceLeDiff, reduceIte, Int.reduceEq, Int.reduceLT, Int.reduceLE, Int.reduceToNat, Int.reduceAdd, *, errV_8] | (with_reducible refine guard_intro (fun _ => ?_) (fun _ => ?_)) | (with_reducible refine cond_intro (fun _ => ?_) (fun _ => ?_)) | ((with_reducible apply gc_intro); exact rfl) | (with_reducible refine guardD_intro (fun _ => ?_) (fun _ => ?_))
end Go.LH.Z
