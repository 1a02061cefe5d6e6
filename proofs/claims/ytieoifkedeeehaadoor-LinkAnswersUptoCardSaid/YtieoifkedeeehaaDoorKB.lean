/- Link: Send, Look, Take, Drop, Copy, Trim. -/
import Derived.Test.YtieoifkedeeehaaDoorKSpec2
import Derived.Test.YtieoifkedeeehaaDoorKA
namespace Go.LH.K
open Go Go.LH
set_option linter.unusedSimpArgs false
set_option linter.unusedVariables false
set_option maxRecDepth 10000
set_option maxHeartbeats 4000000
variable {P : Program} {b : Nat → Addr} (hP : Codes P)
include hP
theorem h_send {s : Sg} {fr to : Int} {y : ByteArray} (hl : s.length < 1000000000000) : AnsH (zG b) P 11 [.c (.np 0 0 0 0), .agg [iC fr, iC to, sC y]] (LHp s) (.tup [.c (iC (sendS s fr to y).1), .c (errV b (sendS s fr to y).2.1)]) (LHp (sendS s fr to y).2.2) := by
  have w1 : IntKind.wrap .i64 (1 - 0) = 1 := by decide
  have w2 : IntKind.wrap .i64 (1 - 1) = 0 := by decide
  have b1 : ((1 : Int) != 1) = false := rfl
  have b0 : ((0 : Int) != 0) = false := rfl
  by_cases c1 : fr < 0
  · rw [show sendS s fr to y = (0, some 0, s) by simp [sendS, c1]]
    refine good_h hP rfl rfl ?_
    simp -implicitDefEqProofs only [go_sem, kbase, Nat.reduceBEq, Nat.reduceLT, Nat.reduceAdd, Nat.reduceEqDiff, Nat.reduceLeDiff, reduceIte, Int.reduceEq, Int.reduceLT, Int.reduceLE, Int.reduceToNat, Int.reduceAdd, r11, LHp]
    repeat' first | simp -implicitDefEqProofs only [go_sem, kbase, Nat.reduceBEq, Nat.reduceLT, Nat.reduceAdd, Nat.reduceEqDiff, Nat.reduceLeDiff, reduceIte, Int.reduceEq, Int.reduceLT, Int.reduceLE, Int.reduceToNat, Int.reduceAdd, *] | (with_reducible refine guard_intro (fun _ => ?_) (fun _ => ?_)) | (with_reducible refine cond_intro (fun _ => ?_) (fun _ => ?_)) | ((with_reducible apply gc_intro); exact rfl) | ((with_reducible apply endE_intro); exact rfl; exact rfl) | (with_reducible refine guardD_intro (fun _ => ?_) (fun _ => ?_))
    all_goals first | exact rfl | exact ⟨rfl, rfl⟩ | (simp []; done)
  by_cases c2 : 1 < fr
  · rw [show sendS s fr to y = (0, some 0, s) by simp [sendS, c2]]
    refine good_h hP rfl rfl ?_
    simp -implicitDefEqProofs only [go_sem, kbase, Nat.reduceBEq, Nat.reduceLT, Nat.reduceAdd, Nat.reduceEqDiff, Nat.reduceLeDiff, reduceIte, Int.reduceEq, Int.reduceLT, Int.reduceLE, Int.reduceToNat, Int.reduceAdd, r11, LHp]
    repeat' first | simp -implicitDefEqProofs only [go_sem, kbase, Nat.reduceBEq, Nat.reduceLT, Nat.reduceAdd, Nat.reduceEqDiff, Nat.reduceLeDiff, reduceIte, Int.reduceEq, Int.reduceLT, Int.reduceLE, Int.reduceToNat, Int.reduceAdd, *] | (with_reducible refine guard_intro (fun _ => ?_) (fun _ => ?_)) | (with_reducible refine cond_intro (fun _ => ?_) (fun _ => ?_)) | ((with_reducible apply gc_intro); exact rfl) | ((with_reducible apply endE_intro); exact rfl; exact rfl) | (with_reducible refine guardD_intro (fun _ => ?_) (fun _ => ?_))
    all_goals first | exact rfl | exact ⟨rfl, rfl⟩ | (simp []; done)
  have c3 : fr = 0 ∨ fr = 1 := by omega
  by_cases c4 : to = 1 - fr
  · by_cases c5 : (y.size : Int) < 1
    · rw [show sendS s fr to y = (0, some 1, s) by unfold sendS; rw [if_neg (by omega)]; first | rw [if_pos (by omega)] | rw [if_neg (by omega)]]
      rcases c3 with rfl | rfl <;> refine good_h hP rfl rfl ?_
      · obtain rfl : to = 1 := by omega
        clear c4
        simp -implicitDefEqProofs only [go_sem, kbase, Nat.reduceBEq, Nat.reduceLT, Nat.reduceAdd, Nat.reduceEqDiff, Nat.reduceLeDiff, reduceIte, Int.reduceEq, Int.reduceLT, Int.reduceLE, Int.reduceToNat, Int.reduceAdd, r11, LHp]
        repeat' first | simp -implicitDefEqProofs only [go_sem, kbase, Nat.reduceBEq, Nat.reduceLT, Nat.reduceAdd, Nat.reduceEqDiff, Nat.reduceLeDiff, reduceIte, Int.reduceEq, Int.reduceLT, Int.reduceLE, Int.reduceToNat, Int.reduceAdd, *] | (with_reducible refine guard_intro (fun _ => ?_) (fun _ => ?_)) | (with_reducible refine cond_intro (fun _ => ?_) (fun _ => ?_)) | ((with_reducible apply gc_intro); exact rfl) | ((with_reducible apply endE_intro); exact rfl; exact rfl) | (with_reducible refine guardD_intro (fun _ => ?_) (fun _ => ?_))
        all_goals first | exact rfl | exact ⟨rfl, rfl⟩ | (simp []; done)
      · obtain rfl : to = 0 := by omega
        clear c4
        simp -implicitDefEqProofs only [go_sem, kbase, Nat.reduceBEq, Nat.reduceLT, Nat.reduceAdd, Nat.reduceEqDiff, Nat.reduceLeDiff, reduceIte, Int.reduceEq, Int.reduceLT, Int.reduceLE, Int.reduceToNat, Int.reduceAdd, r11, LHp]
        repeat' first | simp -implicitDefEqProofs only [go_sem, kbase, Nat.reduceBEq, Nat.reduceLT, Nat.reduceAdd, Nat.reduceEqDiff, Nat.reduceLeDiff, reduceIte, Int.reduceEq, Int.reduceLT, Int.reduceLE, Int.reduceToNat, Int.reduceAdd, *] | (with_reducible refine guard_intro (fun _ => ?_) (fun _ => ?_)) | (with_reducible refine cond_intro (fun _ => ?_) (fun _ => ?_)) | ((with_reducible apply gc_intro); exact rfl) | ((with_reducible apply endE_intro); exact rfl; exact rfl) | (with_reducible refine guardD_intro (fun _ => ?_) (fun _ => ?_))
        all_goals first | exact rfl | exact ⟨rfl, rfl⟩ | (simp []; done)
    by_cases c6 : (4096 : Int) < y.size
    · rw [show sendS s fr to y = (0, some 1, s) by unfold sendS; rw [if_neg (by omega)]; first | rw [if_pos (by omega)] | rw [if_neg (by omega)]]
      rcases c3 with rfl | rfl <;> refine good_h hP rfl rfl ?_
      · obtain rfl : to = 1 := by omega
        clear c4
        simp -implicitDefEqProofs only [go_sem, kbase, Nat.reduceBEq, Nat.reduceLT, Nat.reduceAdd, Nat.reduceEqDiff, Nat.reduceLeDiff, reduceIte, Int.reduceEq, Int.reduceLT, Int.reduceLE, Int.reduceToNat, Int.reduceAdd, r11, LHp]
        repeat' first | simp -implicitDefEqProofs only [go_sem, kbase, Nat.reduceBEq, Nat.reduceLT, Nat.reduceAdd, Nat.reduceEqDiff, Nat.reduceLeDiff, reduceIte, Int.reduceEq, Int.reduceLT, Int.reduceLE, Int.reduceToNat, Int.reduceAdd, *] | (with_reducible refine guard_intro (fun _ => ?_) (fun _ => ?_)) | (with_reducible refine cond_intro (fun _ => ?_) (fun _ => ?_)) | ((with_reducible apply gc_intro); exact rfl) | ((with_reducible apply endE_intro); exact rfl; exact rfl) | (with_reducible refine guardD_intro (fun _ => ?_) (fun _ => ?_))
        all_goals first | exact rfl | exact ⟨rfl, rfl⟩ | (simp []; done)
      · obtain rfl : to = 0 := by omega
        clear c4
        simp -implicitDefEqProofs only [go_sem, kbase, Nat.reduceBEq, Nat.reduceLT, Nat.reduceAdd, Nat.reduceEqDiff, Nat.reduceLeDiff, reduceIte, Int.reduceEq, Int.reduceLT, Int.reduceLE, Int.reduceToNat, Int.reduceAdd, r11, LHp]
        repeat' first | simp -implicitDefEqProofs only [go_sem, kbase, Nat.reduceBEq, Nat.reduceLT, Nat.reduceAdd, Nat.reduceEqDiff, Nat.reduceLeDiff, reduceIte, Int.reduceEq, Int.reduceLT, Int.reduceLE, Int.reduceToNat, Int.reduceAdd, *] | (with_reducible refine guard_intro (fun _ => ?_) (fun _ => ?_)) | (with_reducible refine cond_intro (fun _ => ?_) (fun _ => ?_)) | ((with_reducible apply gc_intro); exact rfl) | ((with_reducible apply endE_intro); exact rfl; exact rfl) | (with_reducible refine guardD_intro (fun _ => ?_) (fun _ => ?_))
        all_goals first | exact rfl | exact ⟨rfl, rfl⟩ | (simp []; done)
    · rw [show sendS s fr to y = (((s.length + 1 : Nat) : Int), none, s ++ [mk fr to y]) by unfold sendS; rw [if_neg (by omega)]; first | rw [if_pos (by omega)] | rw [if_neg (by omega)]]
      have ha := h_add (b := b) hP (s := s) (x := mk fr to y) rfl hl
      rcases c3 with rfl | rfl <;> refine good_h hP rfl rfl ?_
      · obtain rfl : to = 1 := by omega
        clear c4
        simp -implicitDefEqProofs only [go_sem, kbase, Nat.reduceBEq, Nat.reduceLT, Nat.reduceAdd, Nat.reduceEqDiff, Nat.reduceLeDiff, reduceIte, Int.reduceEq, Int.reduceLT, Int.reduceLE, Int.reduceToNat, Int.reduceAdd, r11, LHp]
        repeat' first | simp -implicitDefEqProofs only [go_sem, kbase, Nat.reduceBEq, Nat.reduceLT, Nat.reduceAdd, Nat.reduceEqDiff, Nat.reduceLeDiff, reduceIte, Int.reduceEq, Int.reduceLT, Int.reduceLE, Int.reduceToNat, Int.reduceAdd, *] | (with_reducible refine guard_intro (fun _ => ?_) (fun _ => ?_)) | (with_reducible refine cond_intro (fun _ => ?_) (fun _ => ?_)) | ((with_reducible apply gc_intro); exact rfl) | ((with_reducible apply endE_intro); exact rfl; exact rfl) | (with_reducible refine guardD_intro (fun _ => ?_) (fun _ => ?_)) | ((with_reducible apply call_h (hg := ha)); exact rfl)
        all_goals first | exact rfl | exact ⟨rfl, rfl⟩ | (simp []; done)
      · obtain rfl : to = 0 := by omega
        clear c4
        simp -implicitDefEqProofs only [go_sem, kbase, Nat.reduceBEq, Nat.reduceLT, Nat.reduceAdd, Nat.reduceEqDiff, Nat.reduceLeDiff, reduceIte, Int.reduceEq, Int.reduceLT, Int.reduceLE, Int.reduceToNat, Int.reduceAdd, r11, LHp]
        repeat' first | simp -implicitDefEqProofs only [go_sem, kbase, Nat.reduceBEq, Nat.reduceLT, Nat.reduceAdd, Nat.reduceEqDiff, Nat.reduceLeDiff, reduceIte, Int.reduceEq, Int.reduceLT, Int.reduceLE, Int.reduceToNat, Int.reduceAdd, *] | (with_reducible refine guard_intro (fun _ => ?_) (fun _ => ?_)) | (with_reducible refine cond_intro (fun _ => ?_) (fun _ => ?_)) | ((with_reducible apply gc_intro); exact rfl) | ((with_reducible apply endE_intro); exact rfl; exact rfl) | (with_reducible refine guardD_intro (fun _ => ?_) (fun _ => ?_)) | ((with_reducible apply call_h (hg := ha)); exact rfl)
        all_goals first | exact rfl | exact ⟨rfl, rfl⟩ | (simp []; done)
  · rw [show sendS s fr to y = (0, some 0, s) by simp [sendS, c4]]
    rcases c3 with rfl | rfl
    · have c7 : (to != 1) = true := by simpa using c4
      refine good_h hP rfl rfl ?_
      simp -implicitDefEqProofs only [go_sem, kbase, Nat.reduceBEq, Nat.reduceLT, Nat.reduceAdd, Nat.reduceEqDiff, Nat.reduceLeDiff, reduceIte, Int.reduceEq, Int.reduceLT, Int.reduceLE, Int.reduceToNat, Int.reduceAdd, r11, LHp]
      repeat' first | simp -implicitDefEqProofs only [go_sem, kbase, Nat.reduceBEq, Nat.reduceLT, Nat.reduceAdd, Nat.reduceEqDiff, Nat.reduceLeDiff, reduceIte, Int.reduceEq, Int.reduceLT, Int.reduceLE, Int.reduceToNat, Int.reduceAdd, *] | (with_reducible refine guard_intro (fun _ => ?_) (fun _ => ?_)) | (with_reducible refine cond_intro (fun _ => ?_) (fun _ => ?_)) | ((with_reducible apply gc_intro); exact rfl) | ((with_reducible apply endE_intro); exact rfl; exact rfl) | (with_reducible refine guardD_intro (fun _ => ?_) (fun _ => ?_))
      all_goals first | exact rfl | exact ⟨rfl, rfl⟩ | (simp []; done)
    · have c7 : (to != 0) = true := by simpa using c4
      refine good_h hP rfl rfl ?_
      simp -implicitDefEqProofs only [go_sem, kbase, Nat.reduceBEq, Nat.reduceLT, Nat.reduceAdd, Nat.reduceEqDiff, Nat.reduceLeDiff, reduceIte, Int.reduceEq, Int.reduceLT, Int.reduceLE, Int.reduceToNat, Int.reduceAdd, r11, LHp]
      repeat' first | simp -implicitDefEqProofs only [go_sem, kbase, Nat.reduceBEq, Nat.reduceLT, Nat.reduceAdd, Nat.reduceEqDiff, Nat.reduceLeDiff, reduceIte, Int.reduceEq, Int.reduceLT, Int.reduceLE, Int.reduceToNat, Int.reduceAdd, *] | (with_reducible refine guard_intro (fun _ => ?_) (fun _ => ?_)) | (with_reducible refine cond_intro (fun _ => ?_) (fun _ => ?_)) | ((with_reducible apply gc_intro); exact rfl) | ((with_reducible apply endE_intro); exact rfl; exact rfl) | (with_reducible refine guardD_intro (fun _ => ?_) (fun _ => ?_))
      all_goals first | exact rfl | exact ⟨rfl, rfl⟩ | (simp []; done)
theorem h_look {s : Sg} {n : Int} : AnsH (zG b) P 16 [.c (.np 0 0 0 0), .c (iC n)] (LHp s) (.tup [.agg (lookS s n).1, .c (bC (lookS s n).2.1), .c (errV b (lookS s n).2.2)]) (LHp s) := by
  cases h : findS s n with
  | none =>
    have hf := h_find_none (b := b) hP h
    rw [show lookS s n = (zero3, false, some 12) by simp [lookS, h]]
    refine good_h hP rfl rfl ?_
    simp -implicitDefEqProofs only [go_sem, kbase, Nat.reduceBEq, Nat.reduceLT, Nat.reduceAdd, Nat.reduceEqDiff, Nat.reduceLeDiff, reduceIte, Int.reduceEq, Int.reduceLT, Int.reduceLE, Int.reduceToNat, Int.reduceAdd, r16, LHp]
    repeat' first | simp -implicitDefEqProofs only [go_sem, kbase, Nat.reduceBEq, Nat.reduceLT, Nat.reduceAdd, Nat.reduceEqDiff, Nat.reduceLeDiff, reduceIte, Int.reduceEq, Int.reduceLT, Int.reduceLE, Int.reduceToNat, Int.reduceAdd, *, zero4] | (with_reducible refine guard_intro (fun _ => ?_) (fun _ => ?_)) | (with_reducible refine cond_intro (fun _ => ?_) (fun _ => ?_)) | ((with_reducible apply gc_intro); exact rfl) | ((with_reducible apply endE_intro); exact rfl; exact rfl) | (with_reducible refine guardD_intro (fun _ => ?_) (fun _ => ?_)) | ((with_reducible apply call_h (hg := hf)); exact rfl)
    all_goals first | exact rfl | exact ⟨rfl, rfl⟩ | (simp []; done)
  | some x =>
    have hf := h_find_some (b := b) hP h
    rw [show lookS s n = (row3 x, x.spoilt, none) by simp [lookS, h]]
    refine good_h hP rfl rfl ?_
    simp -implicitDefEqProofs only [go_sem, kbase, Nat.reduceBEq, Nat.reduceLT, Nat.reduceAdd, Nat.reduceEqDiff, Nat.reduceLeDiff, reduceIte, Int.reduceEq, Int.reduceLT, Int.reduceLE, Int.reduceToNat, Int.reduceAdd, r16, LHp]
    repeat' first | simp -implicitDefEqProofs only [go_sem, kbase, Nat.reduceBEq, Nat.reduceLT, Nat.reduceAdd, Nat.reduceEqDiff, Nat.reduceLeDiff, reduceIte, Int.reduceEq, Int.reduceLT, Int.reduceLE, Int.reduceToNat, Int.reduceAdd, *, lrow] | (with_reducible refine guard_intro (fun _ => ?_) (fun _ => ?_)) | (with_reducible refine cond_intro (fun _ => ?_) (fun _ => ?_)) | ((with_reducible apply gc_intro); exact rfl) | ((with_reducible apply endE_intro); exact rfl; exact rfl) | (with_reducible refine guardD_intro (fun _ => ?_) (fun _ => ?_)) | ((with_reducible apply call_h (hg := hf)); exact rfl)
    all_goals first | exact rfl | exact ⟨rfl, rfl⟩ | (simp []; done)
theorem h_take {s : Sg} {n : Int} : AnsH (zG b) P 17 [.c (.np 0 0 0 0), .c (iC n)] (LHp s) (.tup [.agg (takeS s n).1, .c (errV b (takeS s n).2.1)]) (LHp (takeS s n).2.2) := by
  cases h : findS s n with
  | none =>
    have hf := h_find_none (b := b) hP h
    have hm := es_none h
    rw [show takeS s n = (zero3, some 12, s) by simp [takeS, h]]
    refine good_h hP rfl rfl ?_
    simp -implicitDefEqProofs only [go_sem, kbase, Nat.reduceBEq, Nat.reduceLT, Nat.reduceAdd, Nat.reduceEqDiff, Nat.reduceLeDiff, reduceIte, Int.reduceEq, Int.reduceLT, Int.reduceLE, Int.reduceToNat, Int.reduceAdd, r17, LHp]
    repeat' first | simp -implicitDefEqProofs only [go_sem, kbase, Nat.reduceBEq, Nat.reduceLT, Nat.reduceAdd, Nat.reduceEqDiff, Nat.reduceLeDiff, reduceIte, Int.reduceEq, Int.reduceLT, Int.reduceLE, Int.reduceToNat, Int.reduceAdd, *, zero4] | (with_reducible refine guard_intro (fun _ => ?_) (fun _ => ?_)) | (with_reducible refine cond_intro (fun _ => ?_) (fun _ => ?_)) | ((with_reducible apply gc_intro); exact rfl) | ((with_reducible apply endE_intro); exact rfl; exact rfl) | (with_reducible refine guardD_intro (fun _ => ?_) (fun _ => ?_)) | ((with_reducible apply call_h (hg := hf)); exact rfl)
    all_goals first | exact rfl | exact ⟨rfl, rfl⟩ | (simp []; done)
  | some x =>
    have hf := h_find_some (b := b) hP h
    obtain ⟨hn, hx, _, p, hm, _, he⟩ := es_some h
    have he := he (spend x) rfl
    rw [show takeS s n = (row3 x, none, s.set (n - 1).toNat (spend x)) by simp [takeS, h]]
    refine good_h hP rfl rfl ?_
    simp -implicitDefEqProofs only [go_sem, kbase, Nat.reduceBEq, Nat.reduceLT, Nat.reduceAdd, Nat.reduceEqDiff, Nat.reduceLeDiff, reduceIte, Int.reduceEq, Int.reduceLT, Int.reduceLE, Int.reduceToNat, Int.reduceAdd, r17, LHp]
    repeat' first | simp -implicitDefEqProofs only [go_sem, kbase, Nat.reduceBEq, Nat.reduceLT, Nat.reduceAdd, Nat.reduceEqDiff, Nat.reduceLeDiff, reduceIte, Int.reduceEq, Int.reduceLT, Int.reduceLE, Int.reduceToNat, Int.reduceAdd, *, lrow] | (with_reducible refine guard_intro (fun _ => ?_) (fun _ => ?_)) | (with_reducible refine cond_intro (fun _ => ?_) (fun _ => ?_)) | ((with_reducible apply gc_intro); exact rfl) | ((with_reducible apply endE_intro); exact rfl; exact rfl) | (with_reducible refine guardD_intro (fun _ => ?_) (fun _ => ?_)) | ((with_reducible apply call_h (hg := hf)); exact rfl)
    all_goals first | exact rfl | exact ⟨rfl, rfl⟩ | (simp [LHp, errV, cutS]; done)
theorem h_drop {s : Sg} {n : Int} : AnsH (zG b) P 24 [.c (.np 0 0 0 0), .c (iC n)] (LHp s) (.c (errV b (takeS s n).2.1)) (LHp (takeS s n).2.2) := by
  have hf := h_take (b := b) hP (s := s) (n := n)
  cases h : findS s n with
  | none =>
    rw [show takeS s n = (zero3, some 12, s) by simp [takeS, h]] at hf ⊢
    simp only [] at hf
    refine good_h hP rfl rfl ?_
    simp -implicitDefEqProofs only [go_sem, kbase, Nat.reduceBEq, Nat.reduceLT, Nat.reduceAdd, Nat.reduceEqDiff, Nat.reduceLeDiff, reduceIte, Int.reduceEq, Int.reduceLT, Int.reduceLE, Int.reduceToNat, Int.reduceAdd, r24, LHp]
    repeat' first | simp -implicitDefEqProofs only [go_sem, kbase, Nat.reduceBEq, Nat.reduceLT, Nat.reduceAdd, Nat.reduceEqDiff, Nat.reduceLeDiff, reduceIte, Int.reduceEq, Int.reduceLT, Int.reduceLE, Int.reduceToNat, Int.reduceAdd, *, zero3] | (with_reducible refine guard_intro (fun _ => ?_) (fun _ => ?_)) | (with_reducible refine cond_intro (fun _ => ?_) (fun _ => ?_)) | ((with_reducible apply gc_intro); exact rfl) | ((with_reducible apply endE_intro); exact rfl; exact rfl) | (with_reducible refine guardD_intro (fun _ => ?_) (fun _ => ?_)) | ((with_reducible apply call_h (hg := hf)); exact rfl)
    all_goals first | exact rfl | exact ⟨rfl, rfl⟩ | (simp []; done)
  | some x =>
    rw [show takeS s n = (row3 x, none, s.set (n - 1).toNat (spend x)) by simp [takeS, h]] at hf ⊢
    refine good_h hP rfl rfl ?_
    simp -implicitDefEqProofs only [go_sem, kbase, Nat.reduceBEq, Nat.reduceLT, Nat.reduceAdd, Nat.reduceEqDiff, Nat.reduceLeDiff, reduceIte, Int.reduceEq, Int.reduceLT, Int.reduceLE, Int.reduceToNat, Int.reduceAdd, r24, LHp]
    repeat' first | simp -implicitDefEqProofs only [go_sem, kbase, Nat.reduceBEq, Nat.reduceLT, Nat.reduceAdd, Nat.reduceEqDiff, Nat.reduceLeDiff, reduceIte, Int.reduceEq, Int.reduceLT, Int.reduceLE, Int.reduceToNat, Int.reduceAdd, *, row3] | (with_reducible refine guard_intro (fun _ => ?_) (fun _ => ?_)) | (with_reducible refine cond_intro (fun _ => ?_) (fun _ => ?_)) | ((with_reducible apply gc_intro); exact rfl) | ((with_reducible apply endE_intro); exact rfl; exact rfl) | (with_reducible refine guardD_intro (fun _ => ?_) (fun _ => ?_)) | ((with_reducible apply call_h (hg := hf)); exact rfl)
    all_goals first | exact rfl | exact ⟨rfl, rfl⟩ | (simp [LHp, errV, cutS]; done)
theorem h_copy {s : Sg} {n : Int} (hl : s.length < 1000000000000) : AnsH (zG b) P 12 [.c (.np 0 0 0 0), .c (iC n)] (LHp s) (.tup [.c (iC (copyS s n).1), .c (errV b (copyS s n).2.1)]) (LHp (copyS s n).2.2) := by
  cases h : findS s n with
  | none =>
    have hf := h_find_none (b := b) hP h
    rw [show copyS s n = (0, some 12, s) by simp [copyS, h]]
    refine good_h hP rfl rfl ?_
    simp -implicitDefEqProofs only [go_sem, kbase, Nat.reduceBEq, Nat.reduceLT, Nat.reduceAdd, Nat.reduceEqDiff, Nat.reduceLeDiff, reduceIte, Int.reduceEq, Int.reduceLT, Int.reduceLE, Int.reduceToNat, Int.reduceAdd, r12, LHp]
    repeat' first | simp -implicitDefEqProofs only [go_sem, kbase, Nat.reduceBEq, Nat.reduceLT, Nat.reduceAdd, Nat.reduceEqDiff, Nat.reduceLeDiff, reduceIte, Int.reduceEq, Int.reduceLT, Int.reduceLE, Int.reduceToNat, Int.reduceAdd, *, zero4, nilEq_sent] | (with_reducible refine guard_intro (fun _ => ?_) (fun _ => ?_)) | (with_reducible refine cond_intro (fun _ => ?_) (fun _ => ?_)) | ((with_reducible apply gc_intro); exact rfl) | ((with_reducible apply endE_intro); exact rfl; exact rfl) | (with_reducible refine guardD_intro (fun _ => ?_) (fun _ => ?_)) | ((with_reducible apply call_h (hg := hf)); exact rfl)
    all_goals first | exact rfl | exact ⟨rfl, rfl⟩ | (simp []; done)
  | some x =>
    have hf := h_find_some (b := b) hP h
    have ha := h_add (b := b) hP (s := s) (x := x) (es_some h).2.2.1 hl
    rw [show copyS s n = (((s.length + 1 : Nat) : Int), none, s ++ [x]) by simp [copyS, h]]
    refine good_h hP rfl rfl ?_
    simp -implicitDefEqProofs only [go_sem, kbase, Nat.reduceBEq, Nat.reduceLT, Nat.reduceAdd, Nat.reduceEqDiff, Nat.reduceLeDiff, reduceIte, Int.reduceEq, Int.reduceLT, Int.reduceLE, Int.reduceToNat, Int.reduceAdd, r12, LHp]
    repeat' first | simp -implicitDefEqProofs only [go_sem, kbase, Nat.reduceBEq, Nat.reduceLT, Nat.reduceAdd, Nat.reduceEqDiff, Nat.reduceLeDiff, reduceIte, Int.reduceEq, Int.reduceLT, Int.reduceLE, Int.reduceToNat, Int.reduceAdd, *, lrow] | (with_reducible refine guard_intro (fun _ => ?_) (fun _ => ?_)) | (with_reducible refine cond_intro (fun _ => ?_) (fun _ => ?_)) | ((with_reducible apply gc_intro); exact rfl) | ((with_reducible apply endE_intro); exact rfl; exact rfl) | (with_reducible refine guardD_intro (fun _ => ?_) (fun _ => ?_)) | ((with_reducible apply call_h (hg := hf)); exact rfl) | ((with_reducible apply call_h (hg := ha)); exact rfl)
    all_goals first | exact rfl | exact ⟨rfl, rfl⟩ | (simp [LHp, errV, cutS]; done)
theorem h_trim {s : Sg} {n cut : Int} (hk : Ok s) (hc : i64 cut) : AnsH (zG b) P 13 [.c (.np 0 0 0 0), .c (iC n), .c (iC cut)] (LHp s) (.c (errV b (trimS s n cut).1)) (LHp (trimS s n cut).2) := by
  cases h : findS s n with
  | none =>
    have hf := h_find_none (b := b) hP h
    rw [show trimS s n cut = (some 12, s) by simp [trimS, h]]
    refine good_h hP rfl rfl ?_
    simp -implicitDefEqProofs only [go_sem, kbase, Nat.reduceBEq, Nat.reduceLT, Nat.reduceAdd, Nat.reduceEqDiff, Nat.reduceLeDiff, reduceIte, Int.reduceEq, Int.reduceLT, Int.reduceLE, Int.reduceToNat, Int.reduceAdd, r13, LHp]
    repeat' first | simp -implicitDefEqProofs only [go_sem, kbase, Nat.reduceBEq, Nat.reduceLT, Nat.reduceAdd, Nat.reduceEqDiff, Nat.reduceLeDiff, reduceIte, Int.reduceEq, Int.reduceLT, Int.reduceLE, Int.reduceToNat, Int.reduceAdd, *, zero4, nilEq_sent] | (with_reducible refine guard_intro (fun _ => ?_) (fun _ => ?_)) | (with_reducible refine cond_intro (fun _ => ?_) (fun _ => ?_)) | ((with_reducible apply gc_intro); exact rfl) | ((with_reducible apply endE_intro); exact rfl; exact rfl) | (with_reducible refine guardD_intro (fun _ => ?_) (fun _ => ?_)) | ((with_reducible apply call_h (hg := hf)); exact rfl)
    all_goals first | exact rfl | exact ⟨rfl, rfl⟩ | (simp []; done)
  | some x =>
    have hf := h_find_some (b := b) hP h
    have hsz := hk x (findS_mem h)
    cases h1 : x.spoilt with
    | true =>
      rw [show trimS s n cut = (some 0, s) by simp [trimS, h, h1]]
      refine good_h hP rfl rfl ?_
      simp -implicitDefEqProofs only [go_sem, kbase, Nat.reduceBEq, Nat.reduceLT, Nat.reduceAdd, Nat.reduceEqDiff, Nat.reduceLeDiff, reduceIte, Int.reduceEq, Int.reduceLT, Int.reduceLE, Int.reduceToNat, Int.reduceAdd, r13, LHp]
      repeat' first | simp -implicitDefEqProofs only [go_sem, kbase, Nat.reduceBEq, Nat.reduceLT, Nat.reduceAdd, Nat.reduceEqDiff, Nat.reduceLeDiff, reduceIte, Int.reduceEq, Int.reduceLT, Int.reduceLE, Int.reduceToNat, Int.reduceAdd, *, lrow] | (with_reducible refine guard_intro (fun _ => ?_) (fun _ => ?_)) | (with_reducible refine cond_intro (fun _ => ?_) (fun _ => ?_)) | ((with_reducible apply gc_intro); exact rfl) | ((with_reducible apply endE_intro); exact rfl; exact rfl) | (with_reducible refine guardD_intro (fun _ => ?_) (fun _ => ?_)) | ((with_reducible apply call_h (hg := hf)); exact rfl)
      all_goals first | exact rfl | exact ⟨rfl, rfl⟩ | (simp []; done)
    | false =>
      by_cases h2 : cut < 1
      · rw [show trimS s n cut = (some 0, s) by simp [trimS, h, h1, h2]]
        refine good_h hP rfl rfl ?_
        simp -implicitDefEqProofs only [go_sem, kbase, Nat.reduceBEq, Nat.reduceLT, Nat.reduceAdd, Nat.reduceEqDiff, Nat.reduceLeDiff, reduceIte, Int.reduceEq, Int.reduceLT, Int.reduceLE, Int.reduceToNat, Int.reduceAdd, r13, LHp]
        repeat' first | simp -implicitDefEqProofs only [go_sem, kbase, Nat.reduceBEq, Nat.reduceLT, Nat.reduceAdd, Nat.reduceEqDiff, Nat.reduceLeDiff, reduceIte, Int.reduceEq, Int.reduceLT, Int.reduceLE, Int.reduceToNat, Int.reduceAdd, *, lrow] | (with_reducible refine guard_intro (fun _ => ?_) (fun _ => ?_)) | (with_reducible refine cond_intro (fun _ => ?_) (fun _ => ?_)) | ((with_reducible apply gc_intro); exact rfl) | ((with_reducible apply endE_intro); exact rfl; exact rfl) | (with_reducible refine guardD_intro (fun _ => ?_) (fun _ => ?_)) | ((with_reducible apply call_h (hg := hf)); exact rfl)
        all_goals first | exact rfl | exact ⟨rfl, rfl⟩ | (simp []; done)
      · rw [show trimS s n cut = (none, s.set (n - 1).toNat (cutS x cut)) by simp [trimS, h, h1, h2]]
        have hw : IntKind.wrap .i64 ((x.by_.size : Int) - cut) = (x.by_.size : Int) - cut := wrap_id (by unfold i64 at *; omega)
        have hm : (if (0 : Int) > (x.by_.size : Int) - cut then (0 : Int) else (x.by_.size : Int) - cut) = ((x.by_.size - cut.toNat : Nat) : Int) := by split <;> omega
        have hp := es_put (y := cutS x cut) h (es_some h).2.2.1
        have hb : (0 : Int) ≤ ((x.by_.size - cut.toNat : Nat) : Int) ∧ ((x.by_.size - cut.toNat : Nat) : Int) ≤ (x.by_.size : Int) := by omega
        refine good_h hP rfl rfl ?_
        simp -implicitDefEqProofs only [go_sem, kbase, Nat.reduceBEq, Nat.reduceLT, Nat.reduceAdd, Nat.reduceEqDiff, Nat.reduceLeDiff, reduceIte, Int.reduceEq, Int.reduceLT, Int.reduceLE, Int.reduceToNat, Int.reduceAdd, r13, LHp]
        simp only [cutS] at hp
        repeat' first | simp -implicitDefEqProofs only [go_sem, kbase, Nat.reduceBEq, Nat.reduceLT, Nat.reduceAdd, Nat.reduceEqDiff, Nat.reduceLeDiff, reduceIte, Int.reduceEq, Int.reduceLT, Int.reduceLE, Int.reduceToNat, Int.reduceAdd, *, lrow, maxC, boundC, Int.toNat_natCast] | (with_reducible refine guard_intro (fun _ => ?_) (fun _ => ?_)) | (with_reducible refine cond_intro (fun _ => ?_) (fun _ => ?_)) | ((with_reducible apply gc_intro); exact rfl) | ((with_reducible apply endE_intro); exact rfl; exact rfl) | (with_reducible refine guardD_intro (fun _ => ?_) (fun _ => ?_)) | ((with_reducible apply call_h (hg := hf)); exact rfl)
        all_goals first | exact rfl | exact ⟨rfl, rfl⟩ | (simp [LHp, errV, cutS]; done)
end Go.LH.K
