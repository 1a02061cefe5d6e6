/- Link: Flip, the program's and the document's. -/
import Derived.Test.YtieoifkedeeehaaDoorKTn
import Derived.Test.YtieoifkedeeehaaDoorKB
import Derived.Test.YtieoifkedeeehaaDoorKR2
namespace Go.LH.K
open Go Go.LH
set_option linter.unusedSimpArgs false
set_option linter.unusedVariables false
set_option maxRecDepth 10000
set_option maxHeartbeats 4000000
def flipL (x : LS) (q : List UInt8) : LS := { x with by_ := ⟨q.toArray⟩, spoilt := true }
def flipS (s : Sg) (n a : Int) (m : Nat) : Option Nat × Sg := match findS s n with
  | none => (some 12, s)
  | some x => if x.spoilt = true then (some 0, s) else match turnL x.by_.data.toList a m with
    | none => (some 0, s)
    | some q => (none, s.set (n - 1).toNat (flipL x q))
theorem take_bR {y : List UInt8} : List.take y.length (bR y) = bR y := List.take_of_length_le (by rw [bR_len]; exact Nat.le_refl _)
theorem bR_map {y : List UInt8} : (y.map fun b : UInt8 => [Cv.val (.int .u8 b.toNat)]) = bR y := rfl
theorem sz_bR {y : List UInt8} : ByteArray.size ⟨y.toArray⟩ = y.length := rfl
theorem fz_by {L : List Entry} {id : Nat} {y : List UInt8} {a m : Int} (h : L[id]? = some ⟨false, y.length, 1, bR y⟩) : fzSL L [.c (.rs id y.length 0 y.length), .c (iC a), .c (uC m)] = some ([.c (.sl 1 (bR y)), .c (iC a), .c (uC m)], L.set id (Entry.retire ⟨false, y.length, 1, bR y⟩)) := by
  simp [fzSL, fzS, fzC, h, bR_len, take_bR]
variable {P : Program} {b : Nat → Addr} (hP : Codes P)
include hP
theorem h_flip {s : Sg} {n a : Int} {m : Nat} (hk : Ok s) (ha : i64 a) (hm : m < 4294967296) : AnsH (zG b) P 14 [.c (.np 0 0 0 0), .c (iC n), .c (iC a), .c (uC m)] (LHp s) (.c (errV b (flipS s n a m).1)) (LHp (flipS s n a m).2) := by
  cases h : findS s n with
  | none =>
    have hf := h_find_none (b := b) hP h
    rw [show flipS s n a m = (some 12, s) by simp [flipS, h]]
    refine good_h hP rfl rfl ?_
    simp -implicitDefEqProofs only [go_sem, kbase, Nat.reduceBEq, Nat.reduceLT, Nat.reduceAdd, Nat.reduceEqDiff, Nat.reduceLeDiff, reduceIte, Int.reduceEq, Int.reduceLT, Int.reduceLE, Int.reduceToNat, Int.reduceAdd, r14, LHp]
    repeat' first | simp -implicitDefEqProofs only [go_sem, kbase, Nat.reduceBEq, Nat.reduceLT, Nat.reduceAdd, Nat.reduceEqDiff, Nat.reduceLeDiff, reduceIte, Int.reduceEq, Int.reduceLT, Int.reduceLE, Int.reduceToNat, Int.reduceAdd, *, zero4, nilEq_sent] | (with_reducible refine guard_intro (fun _ => ?_) (fun _ => ?_)) | (with_reducible refine cond_intro (fun _ => ?_) (fun _ => ?_)) | ((with_reducible apply gc_intro); exact rfl) | ((with_reducible apply endE_intro); exact rfl; exact rfl) | (with_reducible refine guardD_intro (fun _ => ?_) (fun _ => ?_)) | ((with_reducible apply call_h (hg := hf)); exact rfl)
    all_goals first | exact rfl | exact ⟨rfl, rfl⟩ | (simp []; done)
  | some x =>
    have hf := h_find_some (b := b) hP h
    have hsz := hk x (findS_mem h)
    have hsp := (es_some h).2.2.1
    cases h1 : x.spoilt with
    | true =>
      rw [show flipS s n a m = (some 0, s) by simp [flipS, h, h1]]
      refine good_h hP rfl rfl ?_
      simp -implicitDefEqProofs only [go_sem, kbase, Nat.reduceBEq, Nat.reduceLT, Nat.reduceAdd, Nat.reduceEqDiff, Nat.reduceLeDiff, reduceIte, Int.reduceEq, Int.reduceLT, Int.reduceLE, Int.reduceToNat, Int.reduceAdd, r14, LHp]
      repeat' first | simp -implicitDefEqProofs only [go_sem, kbase, Nat.reduceBEq, Nat.reduceLT, Nat.reduceAdd, Nat.reduceEqDiff, Nat.reduceLeDiff, reduceIte, Int.reduceEq, Int.reduceLT, Int.reduceLE, Int.reduceToNat, Int.reduceAdd, *, lrow] | (with_reducible refine guard_intro (fun _ => ?_) (fun _ => ?_)) | (with_reducible refine cond_intro (fun _ => ?_) (fun _ => ?_)) | ((with_reducible apply gc_intro); exact rfl) | ((with_reducible apply endE_intro); exact rfl; exact rfl) | (with_reducible refine guardD_intro (fun _ => ?_) (fun _ => ?_)) | ((with_reducible apply call_h (hg := hf)); exact rfl)
      all_goals first | exact rfl | exact ⟨rfl, rfl⟩ | (simp []; done)
    | false =>
      have ht := z_turn (b := b) hP (y := x.by_.data.toList) (a := a) (m := m) hsz ha hm
      cases h2 : turnL x.by_.data.toList a m with
      | none =>
        rw [show flipS s n a m = (some 0, s) by simp [flipS, h, h1, h2]]
        rw [h2] at ht
        obtain ⟨fr, to, by_, sp, st⟩ := x
        obtain ⟨⟨y⟩⟩ := by_
        simp only at ht h1
        clear h h2
        subst h1
        refine good_h hP rfl rfl ?_
        simp -implicitDefEqProofs only [go_sem, kbase, Nat.reduceBEq, Nat.reduceLT, Nat.reduceAdd, Nat.reduceEqDiff, Nat.reduceLeDiff, reduceIte, Int.reduceEq, Int.reduceLT, Int.reduceLE, Int.reduceToNat, Int.reduceAdd, r14, LHp]
        repeat' first | simp -implicitDefEqProofs only [go_sem, kbase, Nat.reduceBEq, Nat.reduceLT, Nat.reduceAdd, Nat.reduceEqDiff, Nat.reduceLeDiff, reduceIte, Int.reduceEq, Int.reduceLT, Int.reduceLE, Int.reduceToNat, Int.reduceAdd, *, lrow, nilEq_sent, bR_map, sz_bR, take_bR, bR_len, turnA, Entry.retire] | (with_reducible refine guard_intro (fun _ => ?_) (fun _ => ?_)) | (with_reducible refine cond_intro (fun _ => ?_) (fun _ => ?_)) | ((with_reducible apply gc_intro); exact rfl) | ((with_reducible apply endE_intro); exact rfl; exact rfl) | (with_reducible refine guardD_intro (fun _ => ?_) (fun _ => ?_)) | ((with_reducible apply call_h (hg := hf)); exact rfl) | ((with_reducible refine call_fzeq ht (fz_by rfl) ?_))
        all_goals first | exact rfl | exact ⟨rfl, rfl⟩ | (simp []; done)
      | some q =>
        rw [show flipS s n a m = (none, s.set (n - 1).toNat (flipL x q)) by simp [flipS, h, h1, h2]]
        rw [h2] at ht
        have hp := es_put (y := flipL x q) h hsp
        obtain ⟨fr, to, by_, sp, st⟩ := x
        obtain ⟨⟨y⟩⟩ := by_
        simp only [flipL] at ht h1 hp
        clear h h2
        subst h1
        refine good_h hP rfl rfl ?_
        simp -implicitDefEqProofs only [go_sem, kbase, Nat.reduceBEq, Nat.reduceLT, Nat.reduceAdd, Nat.reduceEqDiff, Nat.reduceLeDiff, reduceIte, Int.reduceEq, Int.reduceLT, Int.reduceLE, Int.reduceToNat, Int.reduceAdd, r14, LHp]
        repeat' first | simp -implicitDefEqProofs only [go_sem, kbase, Nat.reduceBEq, Nat.reduceLT, Nat.reduceAdd, Nat.reduceEqDiff, Nat.reduceLeDiff, reduceIte, Int.reduceEq, Int.reduceLT, Int.reduceLE, Int.reduceToNat, Int.reduceAdd, *, lrow, nilEq_sent, bR_map, sz_bR, take_bR, bR_len, turnA, bytes_bR, Entry.retire] | (with_reducible refine guard_intro (fun _ => ?_) (fun _ => ?_)) | (with_reducible refine cond_intro (fun _ => ?_) (fun _ => ?_)) | ((with_reducible apply gc_intro); exact rfl) | ((with_reducible apply endE_intro); exact rfl; exact rfl) | (with_reducible refine guardD_intro (fun _ => ?_) (fun _ => ?_)) | ((with_reducible apply call_h (hg := hf)); exact rfl) | ((with_reducible refine call_fzeq ht (fz_by rfl) ?_))
        all_goals first | exact rfl | exact ⟨rfl, rfl⟩ | (simp [LHp, errV, flipL]; done)
theorem r_flip {s : Sg} {n a : Int} {m : Nat} (hk : Ok s) (hn : i64 n) (ha : i64 a) (hm : m < 4294967296) : AnsH (zG b) P 27 [.c (.np 0 0 0 0), .c (iC n), .c (iC a), .c (uC m)] (RHp s) (.c (iC (codeOf (flipS s n a m).1))) (RHp (flipS s n a m).2) := by
  cases h : findS s n with
  | none =>
    have hf := r_find_none (b := b) hP hn h
    rw [show flipS s n a m = (some 12, s) by simp [flipS, h]]
    have d1 : (-1 : Int) < 0 := by omega
    refine good_h hP rfl rfl ?_
    simp -implicitDefEqProofs only [go_sem, kbase, Nat.reduceBEq, Nat.reduceLT, Nat.reduceAdd, Nat.reduceEqDiff, Nat.reduceLeDiff, reduceIte, Int.reduceEq, Int.reduceLT, Int.reduceLE, Int.reduceToNat, Int.reduceAdd, r27]
    repeat' first | simp -implicitDefEqProofs only [go_sem, kbase, Nat.reduceBEq, Nat.reduceLT, Nat.reduceAdd, Nat.reduceEqDiff, Nat.reduceLeDiff, reduceIte, Int.reduceEq, Int.reduceLT, Int.reduceLE, Int.reduceToNat, Int.reduceAdd, *] | (with_reducible refine guard_intro (fun _ => ?_) (fun _ => ?_)) | (with_reducible refine cond_intro (fun _ => ?_) (fun _ => ?_)) | ((with_reducible apply gc_intro); exact rfl) | ((with_reducible apply endE_intro); exact rfl; exact rfl) | (with_reducible refine guardD_intro (fun _ => ?_) (fun _ => ?_)) | ((with_reducible apply call_h (hg := hf)); exact rfl)
    all_goals first | exact rfl | exact ⟨rfl, rfl⟩ | (simp [codeOf]; done)
  | some x =>
    have hf := r_find_some (b := b) hP hn h
    obtain ⟨⟨c1, c2⟩, hx, hsp, _⟩ := es_some h
    have c3 : (0 : Int) ≤ n - 1 := by omega
    have c4 : n - 1 < (s.length : Int) := by omega
    have c5 : ¬ n - 1 < 0 := by omega
    have hwd := wdR_5 hx
    simp only [RHp, hwd] at hf
    have hr := row_r hx
    have hsz := hk x (findS_mem h)
    cases h1 : x.spoilt with
    | true =>
      rw [show flipS s n a m = (some 0, s) by simp [flipS, h, h1]]
      refine good_h hP rfl rfl ?_
      simp -implicitDefEqProofs only [go_sem, kbase, Nat.reduceBEq, Nat.reduceLT, Nat.reduceAdd, Nat.reduceEqDiff, Nat.reduceLeDiff, reduceIte, Int.reduceEq, Int.reduceLT, Int.reduceLE, Int.reduceToNat, Int.reduceAdd, r27]
      repeat' first | simp -implicitDefEqProofs only [go_sem, kbase, Nat.reduceBEq, Nat.reduceLT, Nat.reduceAdd, Nat.reduceEqDiff, Nat.reduceLeDiff, reduceIte, Int.reduceEq, Int.reduceLT, Int.reduceLE, Int.reduceToNat, Int.reduceAdd, *] | (with_reducible refine guard_intro (fun _ => ?_) (fun _ => ?_)) | (with_reducible refine cond_intro (fun _ => ?_) (fun _ => ?_)) | ((with_reducible apply gc_intro); exact rfl) | ((with_reducible apply endE_intro); exact rfl; exact rfl) | (with_reducible refine guardD_intro (fun _ => ?_) (fun _ => ?_)) | ((with_reducible apply call_h (hg := hf)); exact rfl)
      all_goals first | exact rfl | exact ⟨rfl, rfl⟩ | (simp [codeOf]; done)
    | false =>
      have ht := r_turn (b := b) hP (y := x.by_.data.toList) (a := a) (m := m) hsz ha hm
      have hlt : (n - 1).toNat < (s.map rrow).length := by simp; omega
      cases h2 : turnL x.by_.data.toList a m with
      | none =>
        rw [show flipS s n a m = (some 0, s) by simp [flipS, h, h1, h2]]
        rw [h2] at ht
        have hne : ((12 : Int) != 0) = true := rfl
        obtain ⟨fr, to, by_, sp, st⟩ := x
        obtain ⟨⟨y⟩⟩ := by_
        simp only at ht h1 hr
        clear h h2 hlt
        subst h1
        refine good_h hP rfl rfl ?_
        simp -implicitDefEqProofs only [go_sem, kbase, Nat.reduceBEq, Nat.reduceLT, Nat.reduceAdd, Nat.reduceEqDiff, Nat.reduceLeDiff, reduceIte, Int.reduceEq, Int.reduceLT, Int.reduceLE, Int.reduceToNat, Int.reduceAdd, r27]
        repeat' first | simp -implicitDefEqProofs only [go_sem, kbase, Nat.reduceBEq, Nat.reduceLT, Nat.reduceAdd, Nat.reduceEqDiff, Nat.reduceLeDiff, reduceIte, Int.reduceEq, Int.reduceLT, Int.reduceLE, Int.reduceToNat, Int.reduceAdd, *, Int.toNat_natCast, bR_map, sz_bR, take_bR, bR_len, turnR, Entry.retire] | (with_reducible refine guard_intro (fun _ => ?_) (fun _ => ?_)) | (with_reducible refine cond_intro (fun _ => ?_) (fun _ => ?_)) | ((with_reducible apply gc_intro); exact rfl) | ((with_reducible apply endE_intro); exact rfl; exact rfl) | (with_reducible refine guardD_intro (fun _ => ?_) (fun _ => ?_)) | ((with_reducible apply call_h (hg := hf)); exact rfl) | ((with_reducible refine call_fzeq ht (fz_by rfl) ?_))
        all_goals first | exact rfl | exact ⟨rfl, rfl⟩ | (simp [codeOf]; done)
      | some q =>
        rw [show flipS s n a m = (none, s.set (n - 1).toNat (flipL x q)) by simp [flipS, h, h1, h2]]
        rw [h2] at ht
        have hne : ((0 : Int) != 0) = false := rfl
        have hg1 : ((s.map rrow).set (n - 1).toNat [iC x.fr, iC x.to, sC ⟨q.toArray⟩, bC false, bC false])[(n - 1).toNat]? = some [iC x.fr, iC x.to, sC ⟨q.toArray⟩, bC false, bC false] := by rw [List.getElem?_set]; simp [hlt]; omega
        have hg2 : ((s.map rrow).set (n - 1).toNat [iC x.fr, iC x.to, sC ⟨q.toArray⟩, bC false, bC false]).set (n - 1).toNat [iC x.fr, iC x.to, sC ⟨q.toArray⟩, bC true, bC false] = (s.set (n - 1).toNat (flipL x q)).map rrow := by
          rw [List.set_set, ← map_set]; simp [flipL, hsp]
        have hlen : ((s.map rrow).set (n - 1).toNat [iC x.fr, iC x.to, sC ⟨q.toArray⟩, bC false, bC false]).length = s.length := by simp
        obtain ⟨fr, to, by_, sp, st⟩ := x
        obtain ⟨⟨y⟩⟩ := by_
        simp only [flipL] at ht h1 hr hg1 hg2 hlen
        clear h h2 hlt hx
        subst h1
        have hsp : st = false := hsp
        subst hsp
        refine good_h hP rfl rfl ?_
        simp -implicitDefEqProofs only [go_sem, kbase, Nat.reduceBEq, Nat.reduceLT, Nat.reduceAdd, Nat.reduceEqDiff, Nat.reduceLeDiff, reduceIte, Int.reduceEq, Int.reduceLT, Int.reduceLE, Int.reduceToNat, Int.reduceAdd, r27]
        repeat' first | simp -implicitDefEqProofs only [go_sem, kbase, Nat.reduceBEq, Nat.reduceLT, Nat.reduceAdd, Nat.reduceEqDiff, Nat.reduceLeDiff, reduceIte, Int.reduceEq, Int.reduceLT, Int.reduceLE, Int.reduceToNat, Int.reduceAdd, *, Int.toNat_natCast, bR_map, sz_bR, take_bR, bR_len, turnR, bytes_bR, Entry.retire] | (with_reducible refine guard_intro (fun _ => ?_) (fun _ => ?_)) | (with_reducible refine cond_intro (fun _ => ?_) (fun _ => ?_)) | ((with_reducible apply gc_intro); exact rfl) | ((with_reducible apply endE_intro); exact rfl; exact rfl) | (with_reducible refine guardD_intro (fun _ => ?_) (fun _ => ?_)) | ((with_reducible apply call_h (hg := hf)); exact rfl) | ((with_reducible refine call_fzeq ht (fz_by rfl) ?_))
        all_goals first | exact rfl | exact ⟨rfl, rfl⟩ | (simp [codeOf, RHp, wdR_set, hwd, flipL]; done)
end Go.LH.K
