/- FrameAsks: At, Load, Idle, Joined: the reference's and the program's answers. -/
import Derived.Test.YtieoifkedeeehaaGreatDoorZP
namespace Go.LH.Z
open Go Go.LH
set_option linter.unusedSimpArgs false
set_option linter.unusedVariables false
set_option maxRecDepth 10000
set_option maxHeartbeats 4000000
def atR (c : Cfg) (t : Int) : Int × Int := if cfgOk c then if 0 ≤ t ∧ t < c.ticks then if ownT c t = -2 then (0, 17) else (ownT c t, 0) else (0, 12) else (0, 8)
def loadR (c : Cfg) (p : Int) : Int × Int := if cfgOk c then if ownB c p then ((ticksZ c p : Nat), 0) else (0, 12) else (0, 8)
def idleR (c : Cfg) : Int × Int := if cfgOk c then ((ticksZ c (-2) : Nat), 0) else (0, 8)
def joinR (c : Cfg) (p : Int) : Bool × Int := if cfgOk c then if thB c p then (joinB c p, 0) else (false, 12) else (false, 8)
theorem sumZ_take {l : List Win} {i : Nat} (h : i < l.length) : sumZ (l.take (i + 1)) = sumZ (l.take i) + l[i].len := by
  rw [List.take_succ_eq_append_getElem h, sumZ_app]; simp [sumZ]
theorem sumZ_le {l : List Win} (hw : ∀ w ∈ l, 0 ≤ w.len ∧ w.len ≤ 10000) : 0 ≤ sumZ l ∧ sumZ l ≤ 10000 * l.length := by
  induction l with
  | nil => simp [sumZ]
  | cons x l ih =>
    have h1 := hw x (List.mem_cons_self ..)
    have h2 := ih fun w h => hw w (List.mem_cons_of_mem _ h)
    simp only [sumZ, List.length_cons]; omega
theorem ownersL_len (c : Cfg) : (ownersL c).length = c.ticks.toNat := by simp [ownersL]
variable {P : Program} {b : Nat → Addr} (hP : Codes P)
include hP
theorem g18 (c : Cfg) (hc : c.Ok) (hok : cfgOk c = true) (p : Int) : Ans (zG b) P 18 [.agg c.enc, .c (iC p)] (.c (iC (ticksZ c p : Nat))) := by
  have ht := cfg_ticks hok
  have hln := ownersL_len c
  refine good_z hP rfl rfl ?_
  clear hln
  simp -implicitDefEqProofs only [go_sem, kbase, Nat.reduceBEq, Nat.reduceLT, Nat.reduceAdd, Nat.reduceEqDiff, Nat.reduceLeDiff, reduceIte, Int.reduceEq, Int.reduceLT, Int.reduceLE, Int.reduceToNat, Int.reduceAdd, r18, Cfg.enc]
  repeat' first | simp -implicitDefEqProofs only [go_sem, kbase, Nat.reduceBEq, Nat.reduceLT, Nat.reduceAdd, Nat.reduceEqDiff, Nat.reduceLeDiff, reduceIte, Int.reduceEq, Int.reduceLT, Int.reduceLE, Int.reduceToNat, Int.reduceAdd, *] | (with_reducible refine guard_intro (fun _ => ?_) (fun _ => ?_)) | (with_reducible refine cond_intro (fun _ => ?_) (fun _ => ?_)) | ((with_reducible apply gc_intro); exact rfl) | (with_reducible refine guardD_intro (fun _ => ?_) (fun _ => ?_)) | ((with_reducible apply call_eq (g40 hP c hc hok)); exact rfl; exact rfl) | ((with_reducible apply call_fzeq (g40 hP c hc hok)); exact rfl)
  refine loop_slots 0 (fun i => (ownersL c).length - i) (fun i => i ≤ (ownersL c).length) (fun i s => sset (sset s 6 (.c (iC ((((ownersL c).take i).countP (fun x => x == p)) : Nat)))) 7 (.c (iC (i : Nat)))) rfl (by simp) ?_
  intro i hi
  simp -implicitDefEqProofs only [go_sem, kbase, Nat.reduceBEq, Nat.reduceLT, Nat.reduceAdd, Nat.reduceEqDiff, Nat.reduceLeDiff, reduceIte, Int.reduceEq, Int.reduceLT, Int.reduceLE, Int.reduceToNat, Int.reduceAdd]
  refine cond_intro (fun h => ?_) (fun h => ?_)
  · have hlt : i < (ownersL c).length := by simpa using h
    have hrow := row_at (e := intE) hlt
    have hlen : (ownersL c).length ≤ 10000 := by rw [ownersL_len]; omega
    have hw := wrap_succ (n := i) (by omega)
    have hcn : ((ownersL c).take i).countP (fun x => x == p) ≤ i := by
      have := List.countP_le_length (p := fun x : Int => x == p) (l := (ownersL c).take i)
      simp at this; omega
    have hw2 := wrap_succ (n := ((ownersL c).take i).countP (fun x => x == p)) (by omega)
    have hs : ((ownersL c).take (i + 1)).countP (fun x => x == p) = ((ownersL c).take i).countP (fun x => x == p) + (if (ownersL c)[i] == p then 1 else 0) := by
      rw [List.take_succ_eq_append_getElem hlt, List.countP_append]; simp [List.countP_cons]
    repeat' first | simp -implicitDefEqProofs only [go_sem, kbase, Nat.reduceBEq, Nat.reduceLT, Nat.reduceAdd, Nat.reduceEqDiff, Nat.reduceLeDiff, reduceIte, Int.reduceEq, Int.reduceLT, Int.reduceLE, Int.reduceToNat, Int.reduceAdd, *, hrow, hw, hw2, intE, Int.natCast_nonneg] | (with_reducible refine guard_intro (fun _ => ?_) (fun _ => ?_)) | (with_reducible refine cond_intro (fun _ => ?_) (fun _ => ?_)) | ((with_reducible apply gc_intro); exact rfl) | (with_reducible refine guardD_intro (fun _ => ?_) (fun _ => ?_))
    · refine ⟨i + 1, by omega, by omega, ?_⟩
      rw [hs]; simp_all
    · refine ⟨i + 1, by omega, by omega, ?_⟩
      rw [hs]; simp_all
  · have hge : (ownersL c).length ≤ i := by simpa using h
    repeat' first | simp -implicitDefEqProofs only [go_sem, kbase, Nat.reduceBEq, Nat.reduceLT, Nat.reduceAdd, Nat.reduceEqDiff, Nat.reduceLeDiff, reduceIte, Int.reduceEq, Int.reduceLT, Int.reduceLE, Int.reduceToNat, Int.reduceAdd, *] | (with_reducible refine guard_intro (fun _ => ?_) (fun _ => ?_)) | (with_reducible refine cond_intro (fun _ => ?_) (fun _ => ?_)) | ((with_reducible apply gc_intro); exact rfl) | (with_reducible refine guardD_intro (fun _ => ?_) (fun _ => ?_))
    rw [List.take_of_length_le hge]; rfl
theorem g30 (c : Cfg) (hc : c.Ok) (p : Int) : Ans (zG b) P 30 [.agg c.enc, .c (iC p)] (.tup [.c (iC (loadR c p).1), .c (iC (loadR c p).2)]) := by
  refine good_z hP rfl rfl ?_
  cases hok : cfgOk c with
  | true =>
    have e : loadR c p = if ownB c p then (((ticksZ c p : Nat) : Int), 0) else (0, 12) := by simp [loadR, hok]
    rw [e]; clear e
    simp -implicitDefEqProofs only [go_sem, kbase, Nat.reduceBEq, Nat.reduceLT, Nat.reduceAdd, Nat.reduceEqDiff, Nat.reduceLeDiff, reduceIte, Int.reduceEq, Int.reduceLT, Int.reduceLE, Int.reduceToNat, Int.reduceAdd, r30, Cfg.enc]
    repeat' first | simp -implicitDefEqProofs only [go_sem, kbase, Nat.reduceBEq, Nat.reduceLT, Nat.reduceAdd, Nat.reduceEqDiff, Nat.reduceLeDiff, reduceIte, Int.reduceEq, Int.reduceLT, Int.reduceLE, Int.reduceToNat, Int.reduceAdd, *] | (with_reducible refine guard_intro (fun _ => ?_) (fun _ => ?_)) | (with_reducible refine cond_intro (fun _ => ?_) (fun _ => ?_)) | ((with_reducible apply gc_intro); exact rfl) | (with_reducible refine guardD_intro (fun _ => ?_) (fun _ => ?_)) | ((with_reducible apply call_eq (g17 hP c hc)); exact rfl; exact rfl) | ((with_reducible apply call_fzeq (g17 hP c hc)); exact rfl) | ((with_reducible apply call_eq (g41 hP c _)); exact rfl; exact rfl) | ((with_reducible apply call_fzeq (g41 hP c _)); exact rfl) | ((with_reducible apply call_eq (g18 hP c hc hok p)); exact rfl; exact rfl) | ((with_reducible apply call_fzeq (g18 hP c hc hok p)); exact rfl)
    all_goals grind [ownB]
  | false =>
    have e : loadR c p = (0, 8) := by simp [loadR, hok]
    rw [e]; clear e
    simp -implicitDefEqProofs only [go_sem, kbase, Nat.reduceBEq, Nat.reduceLT, Nat.reduceAdd, Nat.reduceEqDiff, Nat.reduceLeDiff, reduceIte, Int.reduceEq, Int.reduceLT, Int.reduceLE, Int.reduceToNat, Int.reduceAdd, r30, Cfg.enc]
    repeat' first | simp -implicitDefEqProofs only [go_sem, kbase, Nat.reduceBEq, Nat.reduceLT, Nat.reduceAdd, Nat.reduceEqDiff, Nat.reduceLeDiff, reduceIte, Int.reduceEq, Int.reduceLT, Int.reduceLE, Int.reduceToNat, Int.reduceAdd, *] | (with_reducible refine guard_intro (fun _ => ?_) (fun _ => ?_)) | (with_reducible refine cond_intro (fun _ => ?_) (fun _ => ?_)) | ((with_reducible apply gc_intro); exact rfl) | (with_reducible refine guardD_intro (fun _ => ?_) (fun _ => ?_)) | ((with_reducible apply call_eq (g17 hP c hc)); exact rfl; exact rfl) | ((with_reducible apply call_fzeq (g17 hP c hc)); exact rfl)
theorem g5 (c : Cfg) (hc : c.Ok) : Ans (zG b) P 5 [.agg c.enc] (.tup [.c (iC (idleR c).1), .c (iC (idleR c).2)]) := by
  refine good_z hP rfl rfl ?_
  cases hok : cfgOk c with
  | true =>
    have e : idleR c = (((ticksZ c (-2) : Nat) : Int), 0) := by simp [idleR, hok]
    rw [e]; clear e
    simp -implicitDefEqProofs only [go_sem, kbase, Nat.reduceBEq, Nat.reduceLT, Nat.reduceAdd, Nat.reduceEqDiff, Nat.reduceLeDiff, reduceIte, Int.reduceEq, Int.reduceLT, Int.reduceLE, Int.reduceToNat, Int.reduceAdd, r5, Cfg.enc]
    repeat' first | simp -implicitDefEqProofs only [go_sem, kbase, Nat.reduceBEq, Nat.reduceLT, Nat.reduceAdd, Nat.reduceEqDiff, Nat.reduceLeDiff, reduceIte, Int.reduceEq, Int.reduceLT, Int.reduceLE, Int.reduceToNat, Int.reduceAdd, *] | (with_reducible refine guard_intro (fun _ => ?_) (fun _ => ?_)) | (with_reducible refine cond_intro (fun _ => ?_) (fun _ => ?_)) | ((with_reducible apply gc_intro); exact rfl) | (with_reducible refine guardD_intro (fun _ => ?_) (fun _ => ?_)) | ((with_reducible apply call_eq (g17 hP c hc)); exact rfl; exact rfl) | ((with_reducible apply call_fzeq (g17 hP c hc)); exact rfl) | ((with_reducible apply call_eq (g18 hP c hc hok (-2))); exact rfl; exact rfl) | ((with_reducible apply call_fzeq (g18 hP c hc hok (-2))); exact rfl)
  | false =>
    have e : idleR c = (0, 8) := by simp [idleR, hok]
    rw [e]; clear e
    simp -implicitDefEqProofs only [go_sem, kbase, Nat.reduceBEq, Nat.reduceLT, Nat.reduceAdd, Nat.reduceEqDiff, Nat.reduceLeDiff, reduceIte, Int.reduceEq, Int.reduceLT, Int.reduceLE, Int.reduceToNat, Int.reduceAdd, r5, Cfg.enc]
    repeat' first | simp -implicitDefEqProofs only [go_sem, kbase, Nat.reduceBEq, Nat.reduceLT, Nat.reduceAdd, Nat.reduceEqDiff, Nat.reduceLeDiff, reduceIte, Int.reduceEq, Int.reduceLT, Int.reduceLE, Int.reduceToNat, Int.reduceAdd, *] | (with_reducible refine guard_intro (fun _ => ?_) (fun _ => ?_)) | (with_reducible refine cond_intro (fun _ => ?_) (fun _ => ?_)) | ((with_reducible apply gc_intro); exact rfl) | (with_reducible refine guardD_intro (fun _ => ?_) (fun _ => ?_)) | ((with_reducible apply call_eq (g17 hP c hc)); exact rfl; exact rfl) | ((with_reducible apply call_fzeq (g17 hP c hc)); exact rfl)
theorem g27 (c : Cfg) (hc : c.Ok) (t : Int) : Ans (zG b) P 27 [.agg c.enc, .c (iC t)] (.tup [.c (iC (atR c t).1), .c (iC (atR c t).2)]) := by
  refine good_z hP rfl rfl ?_
  cases hok : cfgOk c with
  | true =>
    by_cases h0 : 0 ≤ t ∧ t < c.ticks
    · obtain ⟨k, rfl⟩ : ∃ k : Nat, t = k := ⟨t.toNat, by omega⟩
      have hlt : k < (ownersL c).length := by rw [ownersL_len]; omega
      have hrow := row_at (e := intE) hlt
      have hv : (ownersL c)[k] = ownT c (k : Int) := by simp [ownersL]
      have e : atR c (k : Int) = if ownT c (k : Int) = -2 then (0, 17) else (ownT c (k : Int), 0) := by simp [atR, hok, h0]
      rw [e]; clear e
      have n1 : ((k : Nat) : Int) < c.ticks := h0.2
      have n2 : decide (((k : Nat) : Int) < 0) = false := by simp
      have n3 : decide (c.ticks ≤ ((k : Nat) : Int)) = false := by simp; omega
      clear h0 n1
      simp -implicitDefEqProofs only [go_sem, kbase, Nat.reduceBEq, Nat.reduceLT, Nat.reduceAdd, Nat.reduceEqDiff, Nat.reduceLeDiff, reduceIte, Int.reduceEq, Int.reduceLT, Int.reduceLE, Int.reduceToNat, Int.reduceAdd, r27, Cfg.enc]
      repeat' first | simp -implicitDefEqProofs only [go_sem, kbase, Nat.reduceBEq, Nat.reduceLT, Nat.reduceAdd, Nat.reduceEqDiff, Nat.reduceLeDiff, reduceIte, Int.reduceEq, Int.reduceLT, Int.reduceLE, Int.reduceToNat, Int.reduceAdd, *, intE, Int.natCast_nonneg] | (with_reducible refine guard_intro (fun _ => ?_) (fun _ => ?_)) | (with_reducible refine cond_intro (fun _ => ?_) (fun _ => ?_)) | ((with_reducible apply gc_intro); exact rfl) | (with_reducible refine guardD_intro (fun _ => ?_) (fun _ => ?_)) | ((with_reducible apply call_eq (g17 hP c hc)); exact rfl; exact rfl) | ((with_reducible apply call_fzeq (g17 hP c hc)); exact rfl) | ((with_reducible apply call_eq (g40 hP c hc hok)); exact rfl; exact rfl) | ((with_reducible apply call_fzeq (g40 hP c hc hok)); exact rfl)
      all_goals grind
    · have e : atR c t = (0, 12) := by simp only [atR, hok, if_true]; rw [if_neg h0]
      rw [e]; clear e
      have h1 : t < 0 ∨ c.ticks ≤ t := by omega
      clear h0
      simp -implicitDefEqProofs only [go_sem, kbase, Nat.reduceBEq, Nat.reduceLT, Nat.reduceAdd, Nat.reduceEqDiff, Nat.reduceLeDiff, reduceIte, Int.reduceEq, Int.reduceLT, Int.reduceLE, Int.reduceToNat, Int.reduceAdd, r27, Cfg.enc]
      repeat' first | simp -implicitDefEqProofs only [go_sem, kbase, Nat.reduceBEq, Nat.reduceLT, Nat.reduceAdd, Nat.reduceEqDiff, Nat.reduceLeDiff, reduceIte, Int.reduceEq, Int.reduceLT, Int.reduceLE, Int.reduceToNat, Int.reduceAdd, *] | (with_reducible refine guard_intro (fun _ => ?_) (fun _ => ?_)) | (with_reducible refine cond_intro (fun _ => ?_) (fun _ => ?_)) | ((with_reducible apply gc_intro); exact rfl) | (with_reducible refine guardD_intro (fun _ => ?_) (fun _ => ?_)) | ((with_reducible apply call_eq (g17 hP c hc)); exact rfl; exact rfl) | ((with_reducible apply call_fzeq (g17 hP c hc)); exact rfl)
      all_goals (exfalso; grind)
  | false =>
    have e : atR c t = (0, 8) := by simp [atR, hok]
    rw [e]; clear e
    simp -implicitDefEqProofs only [go_sem, kbase, Nat.reduceBEq, Nat.reduceLT, Nat.reduceAdd, Nat.reduceEqDiff, Nat.reduceLeDiff, reduceIte, Int.reduceEq, Int.reduceLT, Int.reduceLE, Int.reduceToNat, Int.reduceAdd, r27, Cfg.enc]
    repeat' first | simp -implicitDefEqProofs only [go_sem, kbase, Nat.reduceBEq, Nat.reduceLT, Nat.reduceAdd, Nat.reduceEqDiff, Nat.reduceLeDiff, reduceIte, Int.reduceEq, Int.reduceLT, Int.reduceLE, Int.reduceToNat, Int.reduceAdd, *] | (with_reducible refine guard_intro (fun _ => ?_) (fun _ => ?_)) | (with_reducible refine cond_intro (fun _ => ?_) (fun _ => ?_)) | ((with_reducible apply gc_intro); exact rfl) | (with_reducible refine guardD_intro (fun _ => ?_) (fun _ => ?_)) | ((with_reducible apply call_eq (g17 hP c hc)); exact rfl; exact rfl) | ((with_reducible apply call_fzeq (g17 hP c hc)); exact rfl)
theorem g31 (c : Cfg) (hc : c.Ok) (p : Int) : Ans (zG b) P 31 [.agg c.enc, .c (iC p)] (.tup [.c (bC (joinR c p).1), .c (iC (joinR c p).2)]) := by
  refine good_z hP rfl rfl ?_
  cases hok : cfgOk c with
  | true =>
    cases ht : thB c p with
    | true =>
      have e : joinR c p = (joinB c p, 0) := by simp [joinR, hok, ht]
      rw [e]; clear e
      simp only [thB, Bool.and_eq_true, decide_eq_true_eq] at ht
      obtain ⟨t1, t2⟩ := ht
      have n1 : decide (p < 0) = false := by simp; omega
      have n2 : decide (-1 ≤ p) = true := by simp; omega
      have n3 : -1 ≤ p := by omega
      simp -implicitDefEqProofs only [go_sem, kbase, Nat.reduceBEq, Nat.reduceLT, Nat.reduceAdd, Nat.reduceEqDiff, Nat.reduceLeDiff, reduceIte, Int.reduceEq, Int.reduceLT, Int.reduceLE, Int.reduceToNat, Int.reduceAdd, r31, Cfg.enc]
      repeat' first | simp -implicitDefEqProofs only [go_sem, kbase, Nat.reduceBEq, Nat.reduceLT, Nat.reduceAdd, Nat.reduceEqDiff, Nat.reduceLeDiff, reduceIte, Int.reduceEq, Int.reduceLT, Int.reduceLE, Int.reduceToNat, Int.reduceAdd, *] | (with_reducible refine guard_intro (fun _ => ?_) (fun _ => ?_)) | (with_reducible refine cond_intro (fun _ => ?_) (fun _ => ?_)) | ((with_reducible apply gc_intro); exact rfl) | (with_reducible refine guardD_intro (fun _ => ?_) (fun _ => ?_)) | ((with_reducible apply call_eq (g17 hP c hc)); exact rfl; exact rfl) | ((with_reducible apply call_fzeq (g17 hP c hc)); exact rfl) | ((with_reducible apply call_eq (g41 hP c _)); exact rfl; exact rfl) | ((with_reducible apply call_fzeq (g41 hP c _)); exact rfl)
      refine loop_slots 0 (fun i => c.links.length - i) (fun i => i ≤ c.links.length ∧ Hid ((c.links.take i).all (fun l => !(l.src == p || l.dst == p)) = true)) (fun i s => sset s 6 (.c (iC (i : Nat)))) rfl ⟨by simp, by simp [Hid]⟩ ?_
      rintro i ⟨hi, ha⟩
      simp -implicitDefEqProofs only [go_sem, kbase, Nat.reduceBEq, Nat.reduceLT, Nat.reduceAdd, Nat.reduceEqDiff, Nat.reduceLeDiff, reduceIte, Int.reduceEq, Int.reduceLT, Int.reduceLE, Int.reduceToNat, Int.reduceAdd]
      refine cond_intro (fun h => ?_) (fun h => ?_)
      · have hlt : i < c.links.length := by simpa using h
        have hrow := row_at (e := Lnk.enc) hlt
        have hw := wrap_succ (n := i) (by have := hc.nlinks; omega)
        repeat' first | simp -implicitDefEqProofs only [go_sem, kbase, Nat.reduceBEq, Nat.reduceLT, Nat.reduceAdd, Nat.reduceEqDiff, Nat.reduceLeDiff, reduceIte, Int.reduceEq, Int.reduceLT, Int.reduceLE, Int.reduceToNat, Int.reduceAdd, *, Lnk.enc, Int.natCast_nonneg] | (with_reducible refine guard_intro (fun _ => ?_) (fun _ => ?_)) | (with_reducible refine cond_intro (fun _ => ?_) (fun _ => ?_)) | ((with_reducible apply gc_intro); exact rfl) | (with_reducible refine guardD_intro (fun _ => ?_) (fun _ => ?_))
        · rename_i q
          have := all_no (p := fun l : Lnk => !(l.src == p || l.dst == p)) hlt (by simp [q])
          simp only [joinB, anyB, this]; rfl
        · rename_i q1 q2
          have := all_no (p := fun l : Lnk => !(l.src == p || l.dst == p)) hlt (by simp [q2])
          simp only [joinB, anyB, this]; rfl
        · rename_i q1 q2
          exact ⟨i + 1, by omega, ⟨by omega, all_step hlt ha (by simp [q1, q2])⟩, rfl⟩
      · have hall := all_end (by simpa using h) ha
        repeat' first | simp -implicitDefEqProofs only [go_sem, kbase, Nat.reduceBEq, Nat.reduceLT, Nat.reduceAdd, Nat.reduceEqDiff, Nat.reduceLeDiff, reduceIte, Int.reduceEq, Int.reduceLT, Int.reduceLE, Int.reduceToNat, Int.reduceAdd, *] | (with_reducible refine guard_intro (fun _ => ?_) (fun _ => ?_)) | (with_reducible refine cond_intro (fun _ => ?_) (fun _ => ?_)) | ((with_reducible apply gc_intro); exact rfl) | (with_reducible refine guardD_intro (fun _ => ?_) (fun _ => ?_))
        simp only [joinB, anyB, hall]; rfl
    | false =>
      have e : joinR c p = (false, 12) := by simp [joinR, hok, ht]
      rw [e]; clear e
      simp only [thB] at ht
      simp -implicitDefEqProofs only [go_sem, kbase, Nat.reduceBEq, Nat.reduceLT, Nat.reduceAdd, Nat.reduceEqDiff, Nat.reduceLeDiff, reduceIte, Int.reduceEq, Int.reduceLT, Int.reduceLE, Int.reduceToNat, Int.reduceAdd, r31, Cfg.enc]
      repeat' first | simp -implicitDefEqProofs only [go_sem, kbase, Nat.reduceBEq, Nat.reduceLT, Nat.reduceAdd, Nat.reduceEqDiff, Nat.reduceLeDiff, reduceIte, Int.reduceEq, Int.reduceLT, Int.reduceLE, Int.reduceToNat, Int.reduceAdd, *] | (with_reducible refine guard_intro (fun _ => ?_) (fun _ => ?_)) | (with_reducible refine cond_intro (fun _ => ?_) (fun _ => ?_)) | ((with_reducible apply gc_intro); exact rfl) | (with_reducible refine guardD_intro (fun _ => ?_) (fun _ => ?_)) | ((with_reducible apply call_eq (g17 hP c hc)); exact rfl; exact rfl) | ((with_reducible apply call_fzeq (g17 hP c hc)); exact rfl) | ((with_reducible apply call_eq (g41 hP c _)); exact rfl; exact rfl) | ((with_reducible apply call_fzeq (g41 hP c _)); exact rfl)
      all_goals (exfalso; grind)
  | false =>
    have e : joinR c p = (false, 8) := by simp [joinR, hok]
    rw [e]; clear e
    simp -implicitDefEqProofs only [go_sem, kbase, Nat.reduceBEq, Nat.reduceLT, Nat.reduceAdd, Nat.reduceEqDiff, Nat.reduceLeDiff, reduceIte, Int.reduceEq, Int.reduceLT, Int.reduceLE, Int.reduceToNat, Int.reduceAdd, r31, Cfg.enc]
    repeat' first | simp -implicitDefEqProofs only [go_sem, kbase, Nat.reduceBEq, Nat.reduceLT, Nat.reduceAdd, Nat.reduceEqDiff, Nat.reduceLeDiff, reduceIte, Int.reduceEq, Int.reduceLT, Int.reduceLE, Int.reduceToNat, Int.reduceAdd, *] | (with_reducible refine guard_intro (fun _ => ?_) (fun _ => ?_)) | (with_reducible refine cond_intro (fun _ => ?_) (fun _ => ?_)) | ((with_reducible apply gc_intro); exact rfl) | (with_reducible refine guardD_intro (fun _ => ?_) (fun _ => ?_)) | ((with_reducible apply call_eq (g17 hP c hc)); exact rfl; exact rfl) | ((with_reducible apply call_fzeq (g17 hP c hc)); exact rfl)
theorem g19 (l : List Win) (x : Cv) (hx : SlP 3 (l.map Win.enc) x) (hl : l.length ≤ 32) (hw : ∀ w ∈ l, 0 ≤ w.len ∧ w.len ≤ 10000) : Ans (zG b) P 19 [.c x] (.c (iC (sumZ l))) := by
  refine good_z hP rfl rfl ?_
  cases hx with
  | sl =>
    simp -implicitDefEqProofs only [go_sem, kbase, Nat.reduceBEq, Nat.reduceLT, Nat.reduceAdd, Nat.reduceEqDiff, Nat.reduceLeDiff, reduceIte, Int.reduceEq, Int.reduceLT, Int.reduceLE, Int.reduceToNat, Int.reduceAdd, r19]
    repeat' first | simp -implicitDefEqProofs only [go_sem, kbase, Nat.reduceBEq, Nat.reduceLT, Nat.reduceAdd, Nat.reduceEqDiff, Nat.reduceLeDiff, reduceIte, Int.reduceEq, Int.reduceLT, Int.reduceLE, Int.reduceToNat, Int.reduceAdd, *] | (with_reducible refine guard_intro (fun _ => ?_) (fun _ => ?_)) | (with_reducible refine cond_intro (fun _ => ?_) (fun _ => ?_)) | ((with_reducible apply gc_intro); exact rfl) | (with_reducible refine guardD_intro (fun _ => ?_) (fun _ => ?_))
    refine loop_slots 0 (fun i => l.length - i) (fun i => i ≤ l.length) (fun i s => sset (sset s 3 (.c (iC (sumZ (l.take i))))) 8 (.c (iC (i : Nat)))) rfl (by simp) ?_
    intro i hi
    simp -implicitDefEqProofs only [go_sem, kbase, Nat.reduceBEq, Nat.reduceLT, Nat.reduceAdd, Nat.reduceEqDiff, Nat.reduceLeDiff, reduceIte, Int.reduceEq, Int.reduceLT, Int.reduceLE, Int.reduceToNat, Int.reduceAdd]
    refine cond_intro (fun h => ?_) (fun h => ?_)
    · have hlt : i < l.length := by simpa using h
      have hrow := row_at (e := Win.enc) hlt
      have hw1 := wrap_succ (n := i) (by omega)
      have hm := hw l[i] (List.getElem_mem hlt)
      have hle := sumZ_le (l := l.take i) fun w h => hw w (List.mem_of_mem_take h)
      have hll : (l.take i).length ≤ 32 := by simp; omega
      have hw2 : IntKind.wrap .i64 (sumZ (l.take i) + l[i].len) = sumZ (l.take i) + l[i].len := wrap2 (by omega) (by omega)
      clear hm hle hll
      repeat' first | simp -implicitDefEqProofs only [go_sem, kbase, Nat.reduceBEq, Nat.reduceLT, Nat.reduceAdd, Nat.reduceEqDiff, Nat.reduceLeDiff, reduceIte, Int.reduceEq, Int.reduceLT, Int.reduceLE, Int.reduceToNat, Int.reduceAdd, *, hrow, Win.enc, Int.natCast_nonneg] | (with_reducible refine guard_intro (fun _ => ?_) (fun _ => ?_)) | (with_reducible refine cond_intro (fun _ => ?_) (fun _ => ?_)) | ((with_reducible apply gc_intro); exact rfl) | (with_reducible refine guardD_intro (fun _ => ?_) (fun _ => ?_))
      refine ⟨i + 1, by omega, by omega, ?_⟩
      rw [sumZ_take hlt]
    · have hge : l.length ≤ i := by simpa using h
      repeat' first | simp -implicitDefEqProofs only [go_sem, kbase, Nat.reduceBEq, Nat.reduceLT, Nat.reduceAdd, Nat.reduceEqDiff, Nat.reduceLeDiff, reduceIte, Int.reduceEq, Int.reduceLT, Int.reduceLE, Int.reduceToNat, Int.reduceAdd, *] | (with_reducible refine guard_intro (fun _ => ?_) (fun _ => ?_)) | (with_reducible refine cond_intro (fun _ => ?_) (fun _ => ?_)) | ((with_reducible apply gc_intro); exact rfl) | (with_reducible refine guardD_intro (fun _ => ?_) (fun _ => ?_))
      rw [List.take_of_length_le hge]
  | s0 h =>
    have hn : l = [] := by simpa using h
    subst hn
    simp -implicitDefEqProofs only [go_sem, kbase, Nat.reduceBEq, Nat.reduceLT, Nat.reduceAdd, Nat.reduceEqDiff, Nat.reduceLeDiff, reduceIte, Int.reduceEq, Int.reduceLT, Int.reduceLE, Int.reduceToNat, Int.reduceAdd, r19]
    repeat' first | simp -implicitDefEqProofs only [go_sem, kbase, Nat.reduceBEq, Nat.reduceLT, Nat.reduceAdd, Nat.reduceEqDiff, Nat.reduceLeDiff, reduceIte, Int.reduceEq, Int.reduceLT, Int.reduceLE, Int.reduceToNat, Int.reduceAdd, *] | (with_reducible refine guard_intro (fun _ => ?_) (fun _ => ?_)) | (with_reducible refine cond_intro (fun _ => ?_) (fun _ => ?_)) | ((with_reducible apply gc_intro); exact rfl) | (with_reducible refine guardD_intro (fun _ => ?_) (fun _ => ?_))
    refine loop_slots () (fun i => 0) (fun i => True) (fun i s => s) rfl trivial ?_
    intro i hi
    repeat' first | simp -implicitDefEqProofs only [go_sem, kbase, Nat.reduceBEq, Nat.reduceLT, Nat.reduceAdd, Nat.reduceEqDiff, Nat.reduceLeDiff, reduceIte, Int.reduceEq, Int.reduceLT, Int.reduceLE, Int.reduceToNat, Int.reduceAdd, *] | (with_reducible refine guard_intro (fun _ => ?_) (fun _ => ?_)) | (with_reducible refine cond_intro (fun _ => ?_) (fun _ => ?_)) | ((with_reducible apply gc_intro); exact rfl) | (with_reducible refine guardD_intro (fun _ => ?_) (fun _ => ?_))
    rfl
  | nl h =>
    have hn : l = [] := by simpa using h
    subst hn
    simp -implicitDefEqProofs only [go_sem, kbase, Nat.reduceBEq, Nat.reduceLT, Nat.reduceAdd, Nat.reduceEqDiff, Nat.reduceLeDiff, reduceIte, Int.reduceEq, Int.reduceLT, Int.reduceLE, Int.reduceToNat, Int.reduceAdd, r19]
    repeat' first | simp -implicitDefEqProofs only [go_sem, kbase, Nat.reduceBEq, Nat.reduceLT, Nat.reduceAdd, Nat.reduceEqDiff, Nat.reduceLeDiff, reduceIte, Int.reduceEq, Int.reduceLT, Int.reduceLE, Int.reduceToNat, Int.reduceAdd, *] | (with_reducible refine guard_intro (fun _ => ?_) (fun _ => ?_)) | (with_reducible refine cond_intro (fun _ => ?_) (fun _ => ?_)) | ((with_reducible apply gc_intro); exact rfl) | (with_reducible refine guardD_intro (fun _ => ?_) (fun _ => ?_))
    refine loop_slots () (fun i => 0) (fun i => True) (fun i s => s) rfl trivial ?_
    intro i hi
    repeat' first | simp -implicitDefEqProofs only [go_sem, kbase, Nat.reduceBEq, Nat.reduceLT, Nat.reduceAdd, Nat.reduceEqDiff, Nat.reduceLeDiff, reduceIte, Int.reduceEq, Int.reduceLT, Int.reduceLE, Int.reduceToNat, Int.reduceAdd, *] | (with_reducible refine guard_intro (fun _ => ?_) (fun _ => ?_)) | (with_reducible refine cond_intro (fun _ => ?_) (fun _ => ?_)) | ((with_reducible apply gc_intro); exact rfl) | (with_reducible refine guardD_intro (fun _ => ?_) (fun _ => ?_))
    rfl
end Go.LH.Z
