/- Link: Flush, the program's and the document's. -/
import Derived.Test.YtieoifkedeeehaaDoorKSpec5
import Derived.Test.YtieoifkedeeehaaDoorKW
import Derived.Test.YtieoifkedeeehaaDoorKW2
import Derived.Test.YtieoifkedeeehaaDoorKR2
namespace Go.LH.K
open Go Go.LH Go.Proofs
set_option linter.unusedSimpArgs false
set_option linter.unusedVariables false
set_option maxRecDepth 10000
set_option maxHeartbeats 4000000
theorem h_flush (hP : Codes Tryd.prog) {b : Nat → Addr} {s : Sg} {t : Int} (hl : s.length < 1000000000) : AnsH (zG b) Tryd.prog 19 [.c (.np 0 0 0 0), .c (iC t)] (LHp s) (.c (iC (waitS s t).length)) (LHp (flushS s t)) := by
  have hw := h_wait hP (b := b) (s := s) (t := t) hl
  have hwl := wait_len t s 0
  have hwl' : (waitS s t).length ≤ s.length := hwl
  refine good_h hP rfl rfl ?_
  simp -implicitDefEqProofs only [go_sem, kbase, Nat.reduceBEq, Nat.reduceLT, Nat.reduceAdd, Nat.reduceEqDiff, Nat.reduceLeDiff, reduceIte, Int.reduceEq, Int.reduceLT, Int.reduceLE, Int.reduceToNat, Int.reduceAdd, r19, LHp]
  repeat' first | simp -implicitDefEqProofs only [go_sem, kbase, Nat.reduceBEq, Nat.reduceLT, Nat.reduceAdd, Nat.reduceEqDiff, Nat.reduceLeDiff, reduceIte, Int.reduceEq, Int.reduceLT, Int.reduceLE, Int.reduceToNat, Int.reduceAdd, *, intsE] | (with_reducible refine guard_intro (fun _ => ?_) (fun _ => ?_)) | (with_reducible refine cond_intro (fun _ => ?_) (fun _ => ?_)) | ((with_reducible apply gc_intro); exact rfl) | ((with_reducible apply endE_intro); exact rfl; exact rfl) | (with_reducible refine guardD_intro (fun _ => ?_) (fun _ => ?_)) | ((with_reducible apply call_h (hg := hw)); exact rfl)
  refine loop_heap 0 (fun k => (waitS s t).length - k) (fun k => k ≤ (waitS s t).length) (fun k sl => sset sl 13 (.c (iC (k : Nat)))) (fun k => LHp (flushL s ((waitS s t).take k)) ++ [intsE (waitS s t)]) rfl (by simp [flushL_nil, LHp, intsE]) (by simp) ?_
  intro k hk
  have hfl := flushL_len s ((waitS s t).take k)
  simp -implicitDefEqProofs only [go_sem, kbase, Nat.reduceBEq, Nat.reduceLT, Nat.reduceAdd, Nat.reduceEqDiff, Nat.reduceLeDiff, reduceIte, Int.reduceEq, Int.reduceLT, Int.reduceLE, Int.reduceToNat, Int.reduceAdd, LHp, hfl, intsE]
  refine cond_intro (fun h => ?_) (fun h => ?_)
  · have hlt : k < (waitS s t).length := by simpa using h
    have hlt2 : ((k : Nat) : Int) < (((waitS s t).length : Nat) : Int) := by omega
    obtain ⟨n, hn⟩ : ∃ n, (waitS s t)[k]? = some n := ⟨_, List.getElem?_eq_getElem hlt⟩
    obtain ⟨x, hf, hst, h1, h2, hx⟩ := flush_step hn
    obtain ⟨_, _, _, p, hm, _, he⟩ := es_some hf
    have he := he (spend x) rfl
    rw [hst] at he
    have hwd : wdI (waitS s t) = 1 := wdI_1 hlt
    have hrow : ((waitS s t).map intE)[k]? = some [iC n] := by simp [hn, intE]
    have hws := wrap_succ (n := k) (by omega)
    have hfl2 := flushL_len s ((waitS s t).take (k + 1))
    clear hf hst hn h hx
    repeat' first | simp -implicitDefEqProofs only [go_sem, kbase, Nat.reduceBEq, Nat.reduceLT, Nat.reduceAdd, Nat.reduceEqDiff, Nat.reduceLeDiff, reduceIte, Int.reduceEq, Int.reduceLT, Int.reduceLE, Int.reduceToNat, Int.reduceAdd, *, Int.natCast_nonneg, intsE, Int.toNat_natCast] | (with_reducible refine guard_intro (fun _ => ?_) (fun _ => ?_)) | (with_reducible refine cond_intro (fun _ => ?_) (fun _ => ?_)) | ((with_reducible apply gc_intro); exact rfl) | ((with_reducible apply endE_intro); exact rfl; exact rfl) | (with_reducible refine guardD_intro (fun _ => ?_) (fun _ => ?_))
    all_goals (refine ⟨k + 1, by omega, by omega, ?_⟩; simp [hfl2, intsE])
  · have e : (waitS s t).take k = waitS s t := List.take_of_length_le (by simpa using h)
    rw [e, flushL_all]
    have hfl3 := flushL_len s (waitS s t)
    rw [flushL_all] at hfl3
    repeat' first | simp -implicitDefEqProofs only [go_sem, kbase, Nat.reduceBEq, Nat.reduceLT, Nat.reduceAdd, Nat.reduceEqDiff, Nat.reduceLeDiff, reduceIte, Int.reduceEq, Int.reduceLT, Int.reduceLE, Int.reduceToNat, Int.reduceAdd, *, intsE] | (with_reducible refine guard_intro (fun _ => ?_) (fun _ => ?_)) | (with_reducible refine cond_intro (fun _ => ?_) (fun _ => ?_)) | ((with_reducible apply gc_intro); exact rfl) | ((with_reducible apply endE_intro); exact rfl; exact rfl) | (with_reducible refine guardD_intro (fun _ => ?_) (fun _ => ?_))
    all_goals first | exact rfl | exact ⟨rfl, rfl⟩ | (simp [hfl3]; done)
theorem r_flush {P : Program} (hP : Codes P) {b : Nat → Addr} {s : Sg} {t : Int} (hl : s.length < 1000000000) : AnsH (zG b) P 28 [.c (.np 0 0 0 0), .c (iC t)] (RHp s) (.c (iC (waitS s t).length)) (RHp (flushS s t)) := by
  have hw := r_wait (b := b) hP (s := s) (t := t) hl
  have hwl := wait_len t s 0
  have hwl' : (waitS s t).length ≤ s.length := hwl
  refine good_h hP rfl rfl ?_
  simp -implicitDefEqProofs only [go_sem, kbase, Nat.reduceBEq, Nat.reduceLT, Nat.reduceAdd, Nat.reduceEqDiff, Nat.reduceLeDiff, reduceIte, Int.reduceEq, Int.reduceLT, Int.reduceLE, Int.reduceToNat, Int.reduceAdd, r28]
  repeat' first | simp -implicitDefEqProofs only [go_sem, kbase, Nat.reduceBEq, Nat.reduceLT, Nat.reduceAdd, Nat.reduceEqDiff, Nat.reduceLeDiff, reduceIte, Int.reduceEq, Int.reduceLT, Int.reduceLE, Int.reduceToNat, Int.reduceAdd, *, intsE] | (with_reducible refine guard_intro (fun _ => ?_) (fun _ => ?_)) | (with_reducible refine cond_intro (fun _ => ?_) (fun _ => ?_)) | ((with_reducible apply gc_intro); exact rfl) | ((with_reducible apply endE_intro); exact rfl; exact rfl) | (with_reducible refine guardD_intro (fun _ => ?_) (fun _ => ?_)) | ((with_reducible apply call_h (hg := hw)); exact rfl)
  refine loop_heap 0 (fun k => (waitS s t).length - k) (fun k => k ≤ (waitS s t).length) (fun k sl => sset sl 6 (.c (iC (k : Nat)))) (fun k => [⟨true, 0, 1, [[.rs 1 s.length 0 s.length]]⟩, ⟨false, s.length, wdR s, (flushL s ((waitS s t).take k)).map rrow⟩] ++ [intsE (waitS s t)]) rfl (by simp [flushL_nil, intsE]) (by simp) ?_
  intro k hk
  have hfl := flushL_len s ((waitS s t).take k)
  simp -implicitDefEqProofs only [go_sem, kbase, Nat.reduceBEq, Nat.reduceLT, Nat.reduceAdd, Nat.reduceEqDiff, Nat.reduceLeDiff, reduceIte, Int.reduceEq, Int.reduceLT, Int.reduceLE, Int.reduceToNat, Int.reduceAdd, hfl, intsE]
  refine cond_intro (fun h => ?_) (fun h => ?_)
  · have hlt : k < (waitS s t).length := by simpa using h
    have hlt2 : ((k : Nat) : Int) < (((waitS s t).length : Nat) : Int) := by omega
    obtain ⟨n, hn⟩ : ∃ n, (waitS s t)[k]? = some n := ⟨_, List.getElem?_eq_getElem hlt⟩
    obtain ⟨x, hf, hst, h1, h2, hx⟩ := flush_step hn
    have hwd : wdI (waitS s t) = 1 := wdI_1 hlt
    have hwr : wdR s = 5 := by
      cases s with
      | nil => simp at h2; omega
      | cons y r => rfl
    have hrow : ((waitS s t).map intE)[k]? = some [iC n] := by simp [hn, intE]
    have hws := wrap_succ (n := k) (by omega)
    have hwn : IntKind.wrap .i64 (n - 1) = n - 1 := wrap_id (by unfold i64; omega)
    have c3 : (0 : Int) ≤ n - 1 := by omega
    have c4 : n - 1 < (s.length : Int) := by omega
    have hr := row_r hx
    have hs : ((flushL s ((waitS s t).take k)).map rrow).set (n - 1).toNat [iC x.fr, iC x.to, sC x.by_, bC x.spoilt, bC true] = (flushL s ((waitS s t).take (k + 1))).map rrow := by rw [← hst]; exact map_set (y := spend x)
    have hfl2 := flushL_len s ((waitS s t).take (k + 1))
    clear hf hst hn h hx h1 h2
    repeat' first | simp -implicitDefEqProofs only [go_sem, kbase, Nat.reduceBEq, Nat.reduceLT, Nat.reduceAdd, Nat.reduceEqDiff, Nat.reduceLeDiff, reduceIte, Int.reduceEq, Int.reduceLT, Int.reduceLE, Int.reduceToNat, Int.reduceAdd, *, Int.natCast_nonneg, intsE, Int.toNat_natCast] | (with_reducible refine guard_intro (fun _ => ?_) (fun _ => ?_)) | (with_reducible refine cond_intro (fun _ => ?_) (fun _ => ?_)) | ((with_reducible apply gc_intro); exact rfl) | ((with_reducible apply endE_intro); exact rfl; exact rfl) | (with_reducible refine guardD_intro (fun _ => ?_) (fun _ => ?_))
    all_goals (refine ⟨k + 1, by omega, by omega, ?_⟩; simp [hfl2, intsE])
  · have e : (waitS s t).take k = waitS s t := List.take_of_length_le (by simpa using h)
    rw [e, flushL_all]
    have hfl3 := flushL_len s (waitS s t)
    rw [flushL_all] at hfl3
    have hwd3 : wdR (flushS s t) = wdR s := by cases s <;> rfl
    repeat' first | simp -implicitDefEqProofs only [go_sem, kbase, Nat.reduceBEq, Nat.reduceLT, Nat.reduceAdd, Nat.reduceEqDiff, Nat.reduceLeDiff, reduceIte, Int.reduceEq, Int.reduceLT, Int.reduceLE, Int.reduceToNat, Int.reduceAdd, *, intsE] | (with_reducible refine guard_intro (fun _ => ?_) (fun _ => ?_)) | (with_reducible refine cond_intro (fun _ => ?_) (fun _ => ?_)) | ((with_reducible apply gc_intro); exact rfl) | ((with_reducible apply endE_intro); exact rfl; exact rfl) | (with_reducible refine guardD_intro (fun _ => ?_) (fun _ => ?_))
    all_goals first | exact rfl | exact ⟨rfl, rfl⟩ | (simp [hfl3, hwd3]; done)
end Go.LH.K
