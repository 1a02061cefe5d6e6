/- Link: the document's Send, Look, Take, Copy, Trim. -/
import Derived.Test.YtieoifkedeeehaaDoorKR
namespace Go.LH.K
open Go Go.LH
set_option linter.unusedSimpArgs false
set_option linter.unusedVariables false
set_option maxRecDepth 10000
set_option maxHeartbeats 4000000
theorem wdR_app {s : Sg} {x : LS} : wdR (s ++ [x]) = 5 := by cases s <;> rfl
theorem wdR_or (s : Sg) : wdR s = 5 ∨ wdR s = 0 ∧ s.map rrow = [] := by
  cases s with
  | nil => exact .inr ⟨rfl, rfl⟩
  | cons y r => exact .inl rfl
variable {P : Program} {b : Nat → Addr} (hP : Codes P)
include hP
theorem r_send {s : Sg} {fr to : Int} {y : ByteArray} (hl : s.length < 1000000000) (h1 : i64 fr) (h2 : i64 to) : AnsH (zG b) P 20 [.c (.np 0 0 0 0), .agg [iC fr, iC to, sC y]] (RHp s) (.tup [.c (iC (sendS s fr to y).1), .c (iC (codeOf (sendS s fr to y).2.1))]) (RHp (sendS s fr to y).2.2) := by
  by_cases c0 : (fr = 0 ∧ to = 1) ∨ (fr = 1 ∧ to = 0)
  · by_cases c5 : (y.size : Int) < 1
    · rw [show sendS s fr to y = (0, some 1, s) by unfold sendS; rw [if_neg (by omega), if_pos (by omega)]]
      rcases c0 with ⟨rfl, rfl⟩ | ⟨rfl, rfl⟩ <;> refine good_h hP rfl rfl ?_
      · have w1 : IntKind.wrap .i64 1 = 1 := by decide
        have w2 : ((1 : Int) != 1) = false := rfl
        have w3 : ((0 : Int) != 0) = false := rfl
        simp -implicitDefEqProofs only [go_sem, kbase, Nat.reduceBEq, Nat.reduceLT, Nat.reduceAdd, Nat.reduceEqDiff, Nat.reduceLeDiff, reduceIte, Int.reduceEq, Int.reduceLT, Int.reduceLE, Int.reduceToNat, Int.reduceAdd, r20]
        repeat' first | simp -implicitDefEqProofs only [go_sem, kbase, Nat.reduceBEq, Nat.reduceLT, Nat.reduceAdd, Nat.reduceEqDiff, Nat.reduceLeDiff, reduceIte, Int.reduceEq, Int.reduceLT, Int.reduceLE, Int.reduceToNat, Int.reduceAdd, *] | (with_reducible refine guard_intro (fun _ => ?_) (fun _ => ?_)) | (with_reducible refine cond_intro (fun _ => ?_) (fun _ => ?_)) | ((with_reducible apply gc_intro); exact rfl) | ((with_reducible apply endE_intro); exact rfl; exact rfl) | (with_reducible refine guardD_intro (fun _ => ?_) (fun _ => ?_))
        all_goals first | exact rfl | exact ⟨rfl, rfl⟩ | (simp [codeOf]; done)
      · have w1 : IntKind.wrap .i64 1 = 1 := by decide
        have w2 : ((1 : Int) != 1) = false := rfl
        have w3 : ((1 : Int) != 0) = true := rfl
        simp -implicitDefEqProofs only [go_sem, kbase, Nat.reduceBEq, Nat.reduceLT, Nat.reduceAdd, Nat.reduceEqDiff, Nat.reduceLeDiff, reduceIte, Int.reduceEq, Int.reduceLT, Int.reduceLE, Int.reduceToNat, Int.reduceAdd, r20]
        repeat' first | simp -implicitDefEqProofs only [go_sem, kbase, Nat.reduceBEq, Nat.reduceLT, Nat.reduceAdd, Nat.reduceEqDiff, Nat.reduceLeDiff, reduceIte, Int.reduceEq, Int.reduceLT, Int.reduceLE, Int.reduceToNat, Int.reduceAdd, *] | (with_reducible refine guard_intro (fun _ => ?_) (fun _ => ?_)) | (with_reducible refine cond_intro (fun _ => ?_) (fun _ => ?_)) | ((with_reducible apply gc_intro); exact rfl) | ((with_reducible apply endE_intro); exact rfl; exact rfl) | (with_reducible refine guardD_intro (fun _ => ?_) (fun _ => ?_))
        all_goals first | exact rfl | exact ⟨rfl, rfl⟩ | (simp [codeOf]; done)
    by_cases c6 : (4096 : Int) < y.size
    · rw [show sendS s fr to y = (0, some 1, s) by unfold sendS; rw [if_neg (by omega), if_pos (by omega)]]
      rcases c0 with ⟨rfl, rfl⟩ | ⟨rfl, rfl⟩ <;> refine good_h hP rfl rfl ?_
      · have w1 : IntKind.wrap .i64 1 = 1 := by decide
        have w2 : ((1 : Int) != 1) = false := rfl
        have w3 : ((0 : Int) != 0) = false := rfl
        simp -implicitDefEqProofs only [go_sem, kbase, Nat.reduceBEq, Nat.reduceLT, Nat.reduceAdd, Nat.reduceEqDiff, Nat.reduceLeDiff, reduceIte, Int.reduceEq, Int.reduceLT, Int.reduceLE, Int.reduceToNat, Int.reduceAdd, r20]
        repeat' first | simp -implicitDefEqProofs only [go_sem, kbase, Nat.reduceBEq, Nat.reduceLT, Nat.reduceAdd, Nat.reduceEqDiff, Nat.reduceLeDiff, reduceIte, Int.reduceEq, Int.reduceLT, Int.reduceLE, Int.reduceToNat, Int.reduceAdd, *] | (with_reducible refine guard_intro (fun _ => ?_) (fun _ => ?_)) | (with_reducible refine cond_intro (fun _ => ?_) (fun _ => ?_)) | ((with_reducible apply gc_intro); exact rfl) | ((with_reducible apply endE_intro); exact rfl; exact rfl) | (with_reducible refine guardD_intro (fun _ => ?_) (fun _ => ?_))
        all_goals first | exact rfl | exact ⟨rfl, rfl⟩ | (simp [codeOf]; done)
      · have w1 : IntKind.wrap .i64 1 = 1 := by decide
        have w2 : ((1 : Int) != 1) = false := rfl
        have w3 : ((1 : Int) != 0) = true := rfl
        simp -implicitDefEqProofs only [go_sem, kbase, Nat.reduceBEq, Nat.reduceLT, Nat.reduceAdd, Nat.reduceEqDiff, Nat.reduceLeDiff, reduceIte, Int.reduceEq, Int.reduceLT, Int.reduceLE, Int.reduceToNat, Int.reduceAdd, r20]
        repeat' first | simp -implicitDefEqProofs only [go_sem, kbase, Nat.reduceBEq, Nat.reduceLT, Nat.reduceAdd, Nat.reduceEqDiff, Nat.reduceLeDiff, reduceIte, Int.reduceEq, Int.reduceLT, Int.reduceLE, Int.reduceToNat, Int.reduceAdd, *] | (with_reducible refine guard_intro (fun _ => ?_) (fun _ => ?_)) | (with_reducible refine cond_intro (fun _ => ?_) (fun _ => ?_)) | ((with_reducible apply gc_intro); exact rfl) | ((with_reducible apply endE_intro); exact rfl; exact rfl) | (with_reducible refine guardD_intro (fun _ => ?_) (fun _ => ?_))
        all_goals first | exact rfl | exact ⟨rfl, rfl⟩ | (simp [codeOf]; done)
    · rw [show sendS s fr to y = (((s.length + 1 : Nat) : Int), none, s ++ [mk fr to y]) by unfold sendS; rw [if_neg (by omega), if_neg (by omega)]]
      have hwd := wdR_or s
      have hm : s.length + 1 ≤ most := by unfold most; omega
      rcases c0 with ⟨rfl, rfl⟩ | ⟨rfl, rfl⟩ <;> refine good_h hP rfl rfl ?_
      · have w1 : IntKind.wrap .i64 1 = 1 := by decide
        have w2 : ((1 : Int) != 1) = false := rfl
        have w3 : ((0 : Int) != 0) = false := rfl
        simp -implicitDefEqProofs only [go_sem, kbase, Nat.reduceBEq, Nat.reduceLT, Nat.reduceAdd, Nat.reduceEqDiff, Nat.reduceLeDiff, reduceIte, Int.reduceEq, Int.reduceLT, Int.reduceLE, Int.reduceToNat, Int.reduceAdd, r20]
        repeat' first | simp -implicitDefEqProofs only [go_sem, kbase, Nat.reduceBEq, Nat.reduceLT, Nat.reduceAdd, Nat.reduceEqDiff, Nat.reduceLeDiff, reduceIte, Int.reduceEq, Int.reduceLT, Int.reduceLE, Int.reduceToNat, Int.reduceAdd, *] | (with_reducible refine guard_intro (fun _ => ?_) (fun _ => ?_)) | (with_reducible refine cond_intro (fun _ => ?_) (fun _ => ?_)) | ((with_reducible apply gc_intro); exact rfl) | ((with_reducible apply endE_intro); exact rfl; exact rfl) | (with_reducible refine guardD_intro (fun _ => ?_) (fun _ => ?_))
        all_goals first | exact rfl | exact ⟨rfl, rfl⟩ | (simp [codeOf, RHp, wdR_app, mk, rrow]; done)
      · have w1 : IntKind.wrap .i64 1 = 1 := by decide
        have w2 : ((1 : Int) != 1) = false := rfl
        have w3 : ((1 : Int) != 0) = true := rfl
        simp -implicitDefEqProofs only [go_sem, kbase, Nat.reduceBEq, Nat.reduceLT, Nat.reduceAdd, Nat.reduceEqDiff, Nat.reduceLeDiff, reduceIte, Int.reduceEq, Int.reduceLT, Int.reduceLE, Int.reduceToNat, Int.reduceAdd, r20]
        repeat' first | simp -implicitDefEqProofs only [go_sem, kbase, Nat.reduceBEq, Nat.reduceLT, Nat.reduceAdd, Nat.reduceEqDiff, Nat.reduceLeDiff, reduceIte, Int.reduceEq, Int.reduceLT, Int.reduceLE, Int.reduceToNat, Int.reduceAdd, *] | (with_reducible refine guard_intro (fun _ => ?_) (fun _ => ?_)) | (with_reducible refine cond_intro (fun _ => ?_) (fun _ => ?_)) | ((with_reducible apply gc_intro); exact rfl) | ((with_reducible apply endE_intro); exact rfl; exact rfl) | (with_reducible refine guardD_intro (fun _ => ?_) (fun _ => ?_))
        all_goals first | exact rfl | exact ⟨rfl, rfl⟩ | (simp [codeOf, RHp, wdR_app, mk, rrow]; done)
  · rw [show sendS s fr to y = (0, some 0, s) by unfold sendS; rw [if_pos (by omega)]]
    by_cases d : IntKind.wrap .i64 (fr + to) = 1
    · have e : fr + to = 1 ∨ fr + to = 1 + 18446744073709551616 ∨ fr + to = 1 - 18446744073709551616 := by
        simp only [IntKind.wrap, IntKind.bits, IntKind.signed] at d
        unfold i64 at h1 h2
        simp at d
        omega
      have w0 : ((1 : Int) != 1) = false := rfl
      have w3 : (fr != 0) = true := by unfold i64 at h1 h2; simp; omega
      have w4 : (fr != 1) = true := by unfold i64 at h1 h2; simp; omega
      refine good_h hP rfl rfl ?_
      simp -implicitDefEqProofs only [go_sem, kbase, Nat.reduceBEq, Nat.reduceLT, Nat.reduceAdd, Nat.reduceEqDiff, Nat.reduceLeDiff, reduceIte, Int.reduceEq, Int.reduceLT, Int.reduceLE, Int.reduceToNat, Int.reduceAdd, r20]
      repeat' first | simp -implicitDefEqProofs only [go_sem, kbase, Nat.reduceBEq, Nat.reduceLT, Nat.reduceAdd, Nat.reduceEqDiff, Nat.reduceLeDiff, reduceIte, Int.reduceEq, Int.reduceLT, Int.reduceLE, Int.reduceToNat, Int.reduceAdd, *] | (with_reducible refine guard_intro (fun _ => ?_) (fun _ => ?_)) | (with_reducible refine cond_intro (fun _ => ?_) (fun _ => ?_)) | ((with_reducible apply gc_intro); exact rfl) | ((with_reducible apply endE_intro); exact rfl; exact rfl) | (with_reducible refine guardD_intro (fun _ => ?_) (fun _ => ?_))
      all_goals first | exact rfl | exact ⟨rfl, rfl⟩ | (simp [codeOf]; done)
    · have w2 : (IntKind.wrap .i64 (fr + to) != 1) = true := by simpa using d
      refine good_h hP rfl rfl ?_
      simp -implicitDefEqProofs only [go_sem, kbase, Nat.reduceBEq, Nat.reduceLT, Nat.reduceAdd, Nat.reduceEqDiff, Nat.reduceLeDiff, reduceIte, Int.reduceEq, Int.reduceLT, Int.reduceLE, Int.reduceToNat, Int.reduceAdd, r20]
      repeat' first | simp -implicitDefEqProofs only [go_sem, kbase, Nat.reduceBEq, Nat.reduceLT, Nat.reduceAdd, Nat.reduceEqDiff, Nat.reduceLeDiff, reduceIte, Int.reduceEq, Int.reduceLT, Int.reduceLE, Int.reduceToNat, Int.reduceAdd, *] | (with_reducible refine guard_intro (fun _ => ?_) (fun _ => ?_)) | (with_reducible refine cond_intro (fun _ => ?_) (fun _ => ?_)) | ((with_reducible apply gc_intro); exact rfl) | ((with_reducible apply endE_intro); exact rfl; exact rfl) | (with_reducible refine guardD_intro (fun _ => ?_) (fun _ => ?_))
      all_goals first | exact rfl | exact ⟨rfl, rfl⟩ | (simp [codeOf]; done)
theorem r_look {s : Sg} {n : Int} (hn : i64 n) : AnsH (zG b) P 22 [.c (.np 0 0 0 0), .c (iC n)] (RHp s) (.tup [.agg (lookS s n).1, .c (bC (lookS s n).2.1), .c (iC (codeOf (lookS s n).2.2))]) (RHp s) := by
  cases h : findS s n with
  | none =>
    have hf := r_find_none (b := b) hP hn h
    rw [show lookS s n = (zero3, false, some 12) by simp [lookS, h]]
    have d1 : (-1 : Int) < 0 := by omega
    refine good_h hP rfl rfl ?_
    simp -implicitDefEqProofs only [go_sem, kbase, Nat.reduceBEq, Nat.reduceLT, Nat.reduceAdd, Nat.reduceEqDiff, Nat.reduceLeDiff, reduceIte, Int.reduceEq, Int.reduceLT, Int.reduceLE, Int.reduceToNat, Int.reduceAdd, r22]
    repeat' first | simp -implicitDefEqProofs only [go_sem, kbase, Nat.reduceBEq, Nat.reduceLT, Nat.reduceAdd, Nat.reduceEqDiff, Nat.reduceLeDiff, reduceIte, Int.reduceEq, Int.reduceLT, Int.reduceLE, Int.reduceToNat, Int.reduceAdd, *] | (with_reducible refine guard_intro (fun _ => ?_) (fun _ => ?_)) | (with_reducible refine cond_intro (fun _ => ?_) (fun _ => ?_)) | ((with_reducible apply gc_intro); exact rfl) | ((with_reducible apply endE_intro); exact rfl; exact rfl) | (with_reducible refine guardD_intro (fun _ => ?_) (fun _ => ?_)) | ((with_reducible apply call_h (hg := hf)); exact rfl)
    all_goals first | exact rfl | exact ⟨rfl, rfl⟩ | (simp [codeOf]; done)
  | some x =>
    have hf := r_find_some (b := b) hP hn h
    obtain ⟨⟨c1, c2⟩, hx, hsp, _⟩ := es_some h
    have c3 : (0 : Int) ≤ n - 1 := by omega
    have c4 : n - 1 < (s.length : Int) := by omega
    have c5 : ¬ n - 1 < 0 := by omega
    have hwd := wdR_5 hx
    simp only [RHp, hwd] at hf
    have hr := row_r hx
    rw [show lookS s n = (row3 x, x.spoilt, none) by simp [lookS, h]]
    refine good_h hP rfl rfl ?_
    simp -implicitDefEqProofs only [go_sem, kbase, Nat.reduceBEq, Nat.reduceLT, Nat.reduceAdd, Nat.reduceEqDiff, Nat.reduceLeDiff, reduceIte, Int.reduceEq, Int.reduceLT, Int.reduceLE, Int.reduceToNat, Int.reduceAdd, r22]
    repeat' first | simp -implicitDefEqProofs only [go_sem, kbase, Nat.reduceBEq, Nat.reduceLT, Nat.reduceAdd, Nat.reduceEqDiff, Nat.reduceLeDiff, reduceIte, Int.reduceEq, Int.reduceLT, Int.reduceLE, Int.reduceToNat, Int.reduceAdd, *] | (with_reducible refine guard_intro (fun _ => ?_) (fun _ => ?_)) | (with_reducible refine cond_intro (fun _ => ?_) (fun _ => ?_)) | ((with_reducible apply gc_intro); exact rfl) | ((with_reducible apply endE_intro); exact rfl; exact rfl) | (with_reducible refine guardD_intro (fun _ => ?_) (fun _ => ?_)) | ((with_reducible apply call_h (hg := hf)); exact rfl)
    all_goals first | exact rfl | exact ⟨rfl, rfl⟩ | (simp [codeOf]; done)
theorem r_take {s : Sg} {n : Int} (hn : i64 n) : AnsH (zG b) P 23 [.c (.np 0 0 0 0), .c (iC n)] (RHp s) (.tup [.agg (takeS s n).1, .c (iC (codeOf (takeS s n).2.1))]) (RHp (takeS s n).2.2) := by
  have hf := r_look (b := b) hP (s := s) hn
  cases h : findS s n with
  | none =>
    rw [show lookS s n = (zero3, false, some 12) by simp [lookS, h]] at hf
    rw [show takeS s n = (zero3, some 12, s) by simp [takeS, h]]
    have d1 : ((17 : Int) == 0) = false := rfl
    refine good_h hP rfl rfl ?_
    simp -implicitDefEqProofs only [go_sem, kbase, Nat.reduceBEq, Nat.reduceLT, Nat.reduceAdd, Nat.reduceEqDiff, Nat.reduceLeDiff, reduceIte, Int.reduceEq, Int.reduceLT, Int.reduceLE, Int.reduceToNat, Int.reduceAdd, r23]
    repeat' first | simp -implicitDefEqProofs only [go_sem, kbase, Nat.reduceBEq, Nat.reduceLT, Nat.reduceAdd, Nat.reduceEqDiff, Nat.reduceLeDiff, reduceIte, Int.reduceEq, Int.reduceLT, Int.reduceLE, Int.reduceToNat, Int.reduceAdd, *, codeOf] | (with_reducible refine guard_intro (fun _ => ?_) (fun _ => ?_)) | (with_reducible refine cond_intro (fun _ => ?_) (fun _ => ?_)) | ((with_reducible apply gc_intro); exact rfl) | ((with_reducible apply endE_intro); exact rfl; exact rfl) | (with_reducible refine guardD_intro (fun _ => ?_) (fun _ => ?_)) | ((with_reducible apply call_h (hg := hf)); exact rfl)
    all_goals first | exact rfl | exact ⟨rfl, rfl⟩ | (simp [codeOf]; done)
  | some x =>
    obtain ⟨⟨c1, c2⟩, hx, hsp, _⟩ := es_some h
    have hw : IntKind.wrap .i64 (n - 1) = n - 1 := wrap_id (by unfold i64 at *; omega)
    have c3 : (0 : Int) ≤ n - 1 := by omega
    have c4 : n - 1 < (s.length : Int) := by omega
    have c5 : ¬ n - 1 < 0 := by omega
    have hwd := wdR_5 hx
    simp only [RHp, hwd] at hf
    have hr := row_r hx
    have hs : (s.map rrow).set (n - 1).toNat [iC x.fr, iC x.to, sC x.by_, bC x.spoilt, bC true] = (s.set (n - 1).toNat (spend x)).map rrow := map_set (y := spend x)
    rw [show lookS s n = (row3 x, x.spoilt, none) by simp [lookS, h]] at hf
    simp only [] at hf
    rw [show takeS s n = (row3 x, none, s.set (n - 1).toNat (spend x)) by simp [takeS, h]]
    refine good_h hP rfl rfl ?_
    simp -implicitDefEqProofs only [go_sem, kbase, Nat.reduceBEq, Nat.reduceLT, Nat.reduceAdd, Nat.reduceEqDiff, Nat.reduceLeDiff, reduceIte, Int.reduceEq, Int.reduceLT, Int.reduceLE, Int.reduceToNat, Int.reduceAdd, r23]
    repeat' first | simp -implicitDefEqProofs only [go_sem, kbase, Nat.reduceBEq, Nat.reduceLT, Nat.reduceAdd, Nat.reduceEqDiff, Nat.reduceLeDiff, reduceIte, Int.reduceEq, Int.reduceLT, Int.reduceLE, Int.reduceToNat, Int.reduceAdd, *, codeOf] | (with_reducible refine guard_intro (fun _ => ?_) (fun _ => ?_)) | (with_reducible refine cond_intro (fun _ => ?_) (fun _ => ?_)) | ((with_reducible apply gc_intro); exact rfl) | ((with_reducible apply endE_intro); exact rfl; exact rfl) | (with_reducible refine guardD_intro (fun _ => ?_) (fun _ => ?_)) | ((with_reducible apply call_h (hg := hf)); exact rfl)
    all_goals first | exact rfl | exact ⟨rfl, rfl⟩ | (simp [codeOf, RHp, wdR_set, hwd]; done)
theorem r_copy {s : Sg} {n : Int} (hl : s.length < 1000000000) (hn : i64 n) : AnsH (zG b) P 25 [.c (.np 0 0 0 0), .c (iC n)] (RHp s) (.tup [.c (iC (copyS s n).1), .c (iC (codeOf (copyS s n).2.1))]) (RHp (copyS s n).2.2) := by
  cases h : findS s n with
  | none =>
    have hf := r_find_none (b := b) hP hn h
    rw [show copyS s n = (0, some 12, s) by simp [copyS, h]]
    have d1 : (-1 : Int) < 0 := by omega
    refine good_h hP rfl rfl ?_
    simp -implicitDefEqProofs only [go_sem, kbase, Nat.reduceBEq, Nat.reduceLT, Nat.reduceAdd, Nat.reduceEqDiff, Nat.reduceLeDiff, reduceIte, Int.reduceEq, Int.reduceLT, Int.reduceLE, Int.reduceToNat, Int.reduceAdd, r25]
    repeat' first | simp -implicitDefEqProofs only [go_sem, kbase, Nat.reduceBEq, Nat.reduceLT, Nat.reduceAdd, Nat.reduceEqDiff, Nat.reduceLeDiff, reduceIte, Int.reduceEq, Int.reduceLT, Int.reduceLE, Int.reduceToNat, Int.reduceAdd, *] | (with_reducible refine guard_intro (fun _ => ?_) (fun _ => ?_)) | (with_reducible refine cond_intro (fun _ => ?_) (fun _ => ?_)) | ((with_reducible apply gc_intro); exact rfl) | ((with_reducible apply endE_intro); exact rfl; exact rfl) | (with_reducible refine guardD_intro (fun _ => ?_) (fun _ => ?_)) | ((with_reducible apply call_h (hg := hf)); exact rfl)
    all_goals first | exact rfl | exact ⟨rfl, rfl⟩ | (simp [codeOf]; done)
  | some x =>
    have hf := r_find_some (b := b) hP hn h
    obtain ⟨⟨c1, c2⟩, hx, hsp, _⟩ := es_some h
    have c3 : (0 : Int) ≤ n - 1 := by omega
    have c4 : n - 1 < (s.length : Int) := by omega
    have c5 : ¬ n - 1 < 0 := by omega
    have hwd := wdR_5 hx
    simp only [RHp, hwd] at hf
    have hr := row_r hx
    have hm : s.length + 1 ≤ most := by unfold most; omega
    rw [show copyS s n = (((s.length + 1 : Nat) : Int), none, s ++ [x]) by simp [copyS, h]]
    refine good_h hP rfl rfl ?_
    simp -implicitDefEqProofs only [go_sem, kbase, Nat.reduceBEq, Nat.reduceLT, Nat.reduceAdd, Nat.reduceEqDiff, Nat.reduceLeDiff, reduceIte, Int.reduceEq, Int.reduceLT, Int.reduceLE, Int.reduceToNat, Int.reduceAdd, r25]
    repeat' first | simp -implicitDefEqProofs only [go_sem, kbase, Nat.reduceBEq, Nat.reduceLT, Nat.reduceAdd, Nat.reduceEqDiff, Nat.reduceLeDiff, reduceIte, Int.reduceEq, Int.reduceLT, Int.reduceLE, Int.reduceToNat, Int.reduceAdd, *] | (with_reducible refine guard_intro (fun _ => ?_) (fun _ => ?_)) | (with_reducible refine cond_intro (fun _ => ?_) (fun _ => ?_)) | ((with_reducible apply gc_intro); exact rfl) | ((with_reducible apply endE_intro); exact rfl; exact rfl) | (with_reducible refine guardD_intro (fun _ => ?_) (fun _ => ?_)) | ((with_reducible apply call_h (hg := hf)); exact rfl)
    all_goals first | exact rfl | exact ⟨rfl, rfl⟩ | (simp [codeOf, RHp, wdR_app, rrow, hsp]; done)
theorem r_trim {s : Sg} {n cut : Int} (hk : Ok s) (hn : i64 n) (hc : i64 cut) : AnsH (zG b) P 26 [.c (.np 0 0 0 0), .c (iC n), .c (iC cut)] (RHp s) (.c (iC (codeOf (trimS s n cut).1))) (RHp (trimS s n cut).2) := by
  cases h : findS s n with
  | none =>
    have hf := r_find_none (b := b) hP hn h
    rw [show trimS s n cut = (some 12, s) by simp [trimS, h]]
    have d1 : (-1 : Int) < 0 := by omega
    refine good_h hP rfl rfl ?_
    simp -implicitDefEqProofs only [go_sem, kbase, Nat.reduceBEq, Nat.reduceLT, Nat.reduceAdd, Nat.reduceEqDiff, Nat.reduceLeDiff, reduceIte, Int.reduceEq, Int.reduceLT, Int.reduceLE, Int.reduceToNat, Int.reduceAdd, r26]
    repeat' first | simp -implicitDefEqProofs only [go_sem, kbase, Nat.reduceBEq, Nat.reduceLT, Nat.reduceAdd, Nat.reduceEqDiff, Nat.reduceLeDiff, reduceIte, Int.reduceEq, Int.reduceLT, Int.reduceLE, Int.reduceToNat, Int.reduceAdd, *] | (with_reducible refine guard_intro (fun _ => ?_) (fun _ => ?_)) | (with_reducible refine cond_intro (fun _ => ?_) (fun _ => ?_)) | ((with_reducible apply gc_intro); exact rfl) | ((with_reducible apply endE_intro); exact rfl; exact rfl) | (with_reducible refine guardD_intro (fun _ => ?_) (fun _ => ?_)) | ((with_reducible apply call_h (hg := hf)); exact rfl)
    all_goals first | exact rfl | exact ⟨rfl, rfl⟩ | (simp [codeOf]; done)
  | some x =>
    have hf := r_find_some (b := b) hP hn h
    obtain ⟨⟨c1, c2⟩, hx, hsp, _⟩ := es_some h
    have c3 : (0 : Int) ≤ n - 1 := by omega
    have c4 : n - 1 < (s.length : Int) := by omega
    have c5 : ¬ n - 1 < 0 := by omega
    have hwd := wdR_5 hx
    simp only [RHp, hwd] at hf
    have hr := row_r hx
    have hsz := hk x (findS_mem h)
    cases h1 : x.spoilt with
    | true =>
      rw [show trimS s n cut = (some 0, s) by simp [trimS, h, h1]]
      refine good_h hP rfl rfl ?_
      simp -implicitDefEqProofs only [go_sem, kbase, Nat.reduceBEq, Nat.reduceLT, Nat.reduceAdd, Nat.reduceEqDiff, Nat.reduceLeDiff, reduceIte, Int.reduceEq, Int.reduceLT, Int.reduceLE, Int.reduceToNat, Int.reduceAdd, r26]
      repeat' first | simp -implicitDefEqProofs only [go_sem, kbase, Nat.reduceBEq, Nat.reduceLT, Nat.reduceAdd, Nat.reduceEqDiff, Nat.reduceLeDiff, reduceIte, Int.reduceEq, Int.reduceLT, Int.reduceLE, Int.reduceToNat, Int.reduceAdd, *] | (with_reducible refine guard_intro (fun _ => ?_) (fun _ => ?_)) | (with_reducible refine cond_intro (fun _ => ?_) (fun _ => ?_)) | ((with_reducible apply gc_intro); exact rfl) | ((with_reducible apply endE_intro); exact rfl; exact rfl) | (with_reducible refine guardD_intro (fun _ => ?_) (fun _ => ?_)) | ((with_reducible apply call_h (hg := hf)); exact rfl)
      all_goals first | exact rfl | exact ⟨rfl, rfl⟩ | (simp [codeOf]; done)
    | false =>
      by_cases h2 : cut < 1
      · rw [show trimS s n cut = (some 0, s) by simp [trimS, h, h1, h2]]
        refine good_h hP rfl rfl ?_
        simp -implicitDefEqProofs only [go_sem, kbase, Nat.reduceBEq, Nat.reduceLT, Nat.reduceAdd, Nat.reduceEqDiff, Nat.reduceLeDiff, reduceIte, Int.reduceEq, Int.reduceLT, Int.reduceLE, Int.reduceToNat, Int.reduceAdd, r26]
        repeat' first | simp -implicitDefEqProofs only [go_sem, kbase, Nat.reduceBEq, Nat.reduceLT, Nat.reduceAdd, Nat.reduceEqDiff, Nat.reduceLeDiff, reduceIte, Int.reduceEq, Int.reduceLT, Int.reduceLE, Int.reduceToNat, Int.reduceAdd, *] | (with_reducible refine guard_intro (fun _ => ?_) (fun _ => ?_)) | (with_reducible refine cond_intro (fun _ => ?_) (fun _ => ?_)) | ((with_reducible apply gc_intro); exact rfl) | ((with_reducible apply endE_intro); exact rfl; exact rfl) | (with_reducible refine guardD_intro (fun _ => ?_) (fun _ => ?_)) | ((with_reducible apply call_h (hg := hf)); exact rfl)
        all_goals first | exact rfl | exact ⟨rfl, rfl⟩ | (simp [codeOf]; done)
      · rw [show trimS s n cut = (none, s.set (n - 1).toNat (cutS x cut)) by simp [trimS, h, h1, h2]]
        have hm : (if (x.by_.size : Int) < cut then (x.by_.size : Int) else cut) = ((min cut.toNat x.by_.size : Nat) : Int) := by split <;> omega
        have hw : IntKind.wrap .i64 ((x.by_.size : Int) - ((min cut.toNat x.by_.size : Nat) : Int)) = ((x.by_.size - cut.toNat : Nat) : Int) := by
          rw [wrap_id (by unfold i64 at *; omega)]; omega
        have hb : (0 : Int) ≤ ((x.by_.size - cut.toNat : Nat) : Int) ∧ ((x.by_.size - cut.toNat : Nat) : Int) ≤ (x.by_.size : Int) := by omega
        have hlt : (n - 1).toNat < (s.map rrow).length := by simp; omega
        have hg1 : ((s.map rrow).set (n - 1).toNat [iC x.fr, iC x.to, sC (x.by_.extract 0 (x.by_.size - cut.toNat)), bC false, bC false])[(n - 1).toNat]? = some [iC x.fr, iC x.to, sC (x.by_.extract 0 (x.by_.size - cut.toNat)), bC false, bC false] := by rw [List.getElem?_set]; simp [hlt]; omega
        have hg2 : ((s.map rrow).set (n - 1).toNat [iC x.fr, iC x.to, sC (x.by_.extract 0 (x.by_.size - cut.toNat)), bC false, bC false]).set (n - 1).toNat [iC x.fr, iC x.to, sC (x.by_.extract 0 (x.by_.size - cut.toNat)), bC true, bC false] = (s.set (n - 1).toNat (cutS x cut)).map rrow := by
          rw [List.set_set, ← map_set]; simp [cutS, hsp]
        have hlen : ((s.map rrow).set (n - 1).toNat [iC x.fr, iC x.to, sC (x.by_.extract 0 (x.by_.size - cut.toNat)), bC false, bC false]).length = s.length := by simp
        refine good_h hP rfl rfl ?_
        simp -implicitDefEqProofs only [go_sem, kbase, Nat.reduceBEq, Nat.reduceLT, Nat.reduceAdd, Nat.reduceEqDiff, Nat.reduceLeDiff, reduceIte, Int.reduceEq, Int.reduceLT, Int.reduceLE, Int.reduceToNat, Int.reduceAdd, r26]
        repeat' first | simp -implicitDefEqProofs only [go_sem, kbase, Nat.reduceBEq, Nat.reduceLT, Nat.reduceAdd, Nat.reduceEqDiff, Nat.reduceLeDiff, reduceIte, Int.reduceEq, Int.reduceLT, Int.reduceLE, Int.reduceToNat, Int.reduceAdd, *, maxC, boundC, Int.toNat_natCast] | (with_reducible refine guard_intro (fun _ => ?_) (fun _ => ?_)) | (with_reducible refine cond_intro (fun _ => ?_) (fun _ => ?_)) | ((with_reducible apply gc_intro); exact rfl) | ((with_reducible apply endE_intro); exact rfl; exact rfl) | (with_reducible refine guardD_intro (fun _ => ?_) (fun _ => ?_)) | ((with_reducible apply call_h (hg := hf)); exact rfl)
        all_goals first | exact rfl | exact ⟨rfl, rfl⟩ | (simp [codeOf, RHp, wdR_set, hwd, cutS]; done)
end Go.LH.K
