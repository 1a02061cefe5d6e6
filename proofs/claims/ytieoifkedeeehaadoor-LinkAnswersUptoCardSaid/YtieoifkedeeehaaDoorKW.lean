/- Link: the document's Waiting; sameInts. -/
import Derived.Test.YtieoifkedeeehaaDoorKSpec3
import Derived.Test.YtieoifkedeeehaaDoorKR
namespace Go.LH.K
open Go Go.LH
set_option linter.unusedSimpArgs false
set_option linter.unusedVariables false
set_option maxRecDepth 10000
set_option maxHeartbeats 4000000
theorem wdI_1 {l : List Int} {i : Nat} (h : i < l.length) : wdI l = 1 := by
  cases l with
  | nil => simp at h
  | cons x r => rfl
variable {P : Program} {b : Nat → Addr} (hP : Codes P)
include hP
theorem r_wait {s : Sg} {t : Int} (hl : s.length < 1000000000) : AnsH (zG b) P 8 [.c (.np 0 0 0 0), .c (iC t)] (RHp s) (.c (.rs 2 (waitS s t).length 0 (waitS s t).length)) (RHp s ++ [intsE (waitS s t)]) := by
  refine good_h hP rfl rfl ?_
  simp -implicitDefEqProofs only [go_sem, kbase, Nat.reduceBEq, Nat.reduceLT, Nat.reduceAdd, Nat.reduceEqDiff, Nat.reduceLeDiff, reduceIte, Int.reduceEq, Int.reduceLT, Int.reduceLE, Int.reduceToNat, Int.reduceAdd, r8]
  repeat' first | simp -implicitDefEqProofs only [go_sem, kbase, Nat.reduceBEq, Nat.reduceLT, Nat.reduceAdd, Nat.reduceEqDiff, Nat.reduceLeDiff, reduceIte, Int.reduceEq, Int.reduceLT, Int.reduceLE, Int.reduceToNat, Int.reduceAdd, *] | (with_reducible refine guard_intro (fun _ => ?_) (fun _ => ?_)) | (with_reducible refine cond_intro (fun _ => ?_) (fun _ => ?_)) | ((with_reducible apply gc_intro); exact rfl) | ((with_reducible apply endE_intro); exact rfl; exact rfl) | (with_reducible refine guardD_intro (fun _ => ?_) (fun _ => ?_))
  refine loop_heap 0 (fun k => s.length - k) (fun k => k ≤ s.length) (fun k sl => sset (sset sl 5 (.c (.rs 2 (waitS (s.take k) t).length 0 (waitS (s.take k) t).length))) 6 (.c (iC (k : Nat)))) (fun k => RHp s ++ [intsE (waitS (s.take k) t)]) rfl rfl (by simp) ?_
  intro k hk
  simp -implicitDefEqProofs only [go_sem, kbase, Nat.reduceBEq, Nat.reduceLT, Nat.reduceAdd, Nat.reduceEqDiff, Nat.reduceLeDiff, reduceIte, Int.reduceEq, Int.reduceLT, Int.reduceLE, Int.reduceToNat, Int.reduceAdd]
  refine cond_intro (fun h => ?_) (fun h => ?_)
  · have hlt : k < s.length := by simpa using h
    have hlt2 : ((k : Nat) : Int) < ((s.length : Nat) : Int) := by omega
    obtain ⟨x, hx⟩ : ∃ x, s[k]? = some x := ⟨s[k], List.getElem?_eq_getElem hlt⟩
    have hwd := wdR_5 hx
    have hr := row_r hx
    have hw := wrap_succ (n := k) (by omega)
    have hst := wait_step (t := t) hx
    have hln := wait_len t (s.take k) 0
    have hln' : (waitS (s.take k) t).length ≤ k := by unfold waitS; simp at hln; omega
    have hm : (waitS (s.take k) t).length + 1 ≤ most := by unfold most; omega
    have hwd2 := wdI_or (waitS (s.take k) t)
    cases h1 : x.spent with
    | true =>
      rw [show isFor t x = false by simp [isFor, h1]] at hst
      simp only [Bool.false_eq_true, if_false] at hst
      repeat' first | simp -implicitDefEqProofs only [go_sem, kbase, Nat.reduceBEq, Nat.reduceLT, Nat.reduceAdd, Nat.reduceEqDiff, Nat.reduceLeDiff, reduceIte, Int.reduceEq, Int.reduceLT, Int.reduceLE, Int.reduceToNat, Int.reduceAdd, *, Int.natCast_nonneg, intsE, Int.toNat_natCast] | (with_reducible refine guard_intro (fun _ => ?_) (fun _ => ?_)) | (with_reducible refine cond_intro (fun _ => ?_) (fun _ => ?_)) | ((with_reducible apply gc_intro); exact rfl) | ((with_reducible apply endE_intro); exact rfl; exact rfl) | (with_reducible refine guardD_intro (fun _ => ?_) (fun _ => ?_))
      all_goals (refine ⟨k + 1, by omega, by omega, ?_⟩; simp [hst, intsE, wdI_app, RHp, hwd, intE])
    | false =>
      by_cases h2 : x.to = t
      · have h3 : (x.to == t) = true := by simpa using h2
        rw [show isFor t x = true by simp [isFor, h1, h2]] at hst
        simp only [if_true] at hst
        repeat' first | simp -implicitDefEqProofs only [go_sem, kbase, Nat.reduceBEq, Nat.reduceLT, Nat.reduceAdd, Nat.reduceEqDiff, Nat.reduceLeDiff, reduceIte, Int.reduceEq, Int.reduceLT, Int.reduceLE, Int.reduceToNat, Int.reduceAdd, *, Int.natCast_nonneg, intsE, Int.toNat_natCast] | (with_reducible refine guard_intro (fun _ => ?_) (fun _ => ?_)) | (with_reducible refine cond_intro (fun _ => ?_) (fun _ => ?_)) | ((with_reducible apply gc_intro); exact rfl) | ((with_reducible apply endE_intro); exact rfl; exact rfl) | (with_reducible refine guardD_intro (fun _ => ?_) (fun _ => ?_))
        all_goals (refine ⟨k + 1, by omega, by omega, ?_⟩; simp [hst, intsE, wdI_app, RHp, hwd, intE])
      · have h3 : (x.to == t) = false := by simpa using h2
        rw [show isFor t x = false by simp [isFor, h1, h2]] at hst
        simp only [Bool.false_eq_true, if_false] at hst
        repeat' first | simp -implicitDefEqProofs only [go_sem, kbase, Nat.reduceBEq, Nat.reduceLT, Nat.reduceAdd, Nat.reduceEqDiff, Nat.reduceLeDiff, reduceIte, Int.reduceEq, Int.reduceLT, Int.reduceLE, Int.reduceToNat, Int.reduceAdd, *, Int.natCast_nonneg, intsE, Int.toNat_natCast] | (with_reducible refine guard_intro (fun _ => ?_) (fun _ => ?_)) | (with_reducible refine cond_intro (fun _ => ?_) (fun _ => ?_)) | ((with_reducible apply gc_intro); exact rfl) | ((with_reducible apply endE_intro); exact rfl; exact rfl) | (with_reducible refine guardD_intro (fun _ => ?_) (fun _ => ?_))
        all_goals (refine ⟨k + 1, by omega, by omega, ?_⟩; simp [hst, intsE, wdI_app, RHp, hwd, intE])
  · have e : s.take k = s := List.take_of_length_le (by simpa using h)
    rw [e]
    repeat' first | simp -implicitDefEqProofs only [go_sem, kbase, Nat.reduceBEq, Nat.reduceLT, Nat.reduceAdd, Nat.reduceEqDiff, Nat.reduceLeDiff, reduceIte, Int.reduceEq, Int.reduceLT, Int.reduceLE, Int.reduceToNat, Int.reduceAdd, *, intsE] | (with_reducible refine guard_intro (fun _ => ?_) (fun _ => ?_)) | (with_reducible refine cond_intro (fun _ => ?_) (fun _ => ?_)) | ((with_reducible apply gc_intro); exact rfl) | ((with_reducible apply endE_intro); exact rfl; exact rfl) | (with_reducible refine guardD_intro (fun _ => ?_) (fun _ => ?_))
    all_goals first | exact rfl | exact ⟨rfl, rfl⟩ | (simp []; done)
theorem z_same (l m : List Int) (hl : l.length < 1000000000) : Ans (zG b) P 10 [.c (.sl (wdI l) (l.map intE)), .c (.sl (wdI m) (m.map intE))] (.c (bC (l == m))) := by
  refine good_z hP rfl rfl ?_
  by_cases h : (l.length : Int) = m.length
  · have hb : ((l.length : Int) != m.length) = false := by simpa using h
    have hlm : Hid (l.length = m.length) := by show l.length = m.length; omega
    clear h
    simp -implicitDefEqProofs only [go_sem, kbase, Nat.reduceBEq, Nat.reduceLT, Nat.reduceAdd, Nat.reduceEqDiff, Nat.reduceLeDiff, reduceIte, Int.reduceEq, Int.reduceLT, Int.reduceLE, Int.reduceToNat, Int.reduceAdd, r10]
    repeat' first | simp -implicitDefEqProofs only [go_sem, kbase, Nat.reduceBEq, Nat.reduceLT, Nat.reduceAdd, Nat.reduceEqDiff, Nat.reduceLeDiff, reduceIte, Int.reduceEq, Int.reduceLT, Int.reduceLE, Int.reduceToNat, Int.reduceAdd, *] | (with_reducible refine guard_intro (fun _ => ?_) (fun _ => ?_)) | (with_reducible refine cond_intro (fun _ => ?_) (fun _ => ?_)) | ((with_reducible apply gc_intro); exact rfl) | ((with_reducible apply endE_intro); exact rfl; exact rfl) | (with_reducible refine guardD_intro (fun _ => ?_) (fun _ => ?_))
    refine loop_slots 0 (fun k => l.length - k) (fun k => k ≤ l.length ∧ l.take k = m.take k) (fun k sl => sset sl 5 (.c (iC (k : Nat)))) rfl ⟨by simp, rfl⟩ ?_
    rintro k ⟨hk, he⟩
    simp -implicitDefEqProofs only [go_sem, kbase, Nat.reduceBEq, Nat.reduceLT, Nat.reduceAdd, Nat.reduceEqDiff, Nat.reduceLeDiff, reduceIte, Int.reduceEq, Int.reduceLT, Int.reduceLE, Int.reduceToNat, Int.reduceAdd]
    refine cond_intro (fun h => ?_) (fun h => ?_)
    · have hlt : k < l.length := by simpa using h
      have hlt' : k < m.length := by have : l.length = m.length := hlm; omega
      have h1 := wdI_1 hlt
      have h2 := wdI_1 hlt'
      have hr1 : (l.map intE)[k]? = some [iC l[k]] := by simp [hlt, intE]
      have hr2 : (m.map intE)[k]? = some [iC m[k]] := by simp [hlt', intE]
      have hw := wrap_succ (n := k) (by omega)
      by_cases hq : l[k] = m[k]
      · have hq' : (l[k] != m[k]) = false := by simpa using hq
        have hqq : Hid (l[k] = m[k]) := hq
        clear hq
        repeat' first | simp -implicitDefEqProofs only [go_sem, kbase, Nat.reduceBEq, Nat.reduceLT, Nat.reduceAdd, Nat.reduceEqDiff, Nat.reduceLeDiff, reduceIte, Int.reduceEq, Int.reduceLT, Int.reduceLE, Int.reduceToNat, Int.reduceAdd, *, Int.natCast_nonneg, Int.toNat_natCast] | (with_reducible refine guard_intro (fun _ => ?_) (fun _ => ?_)) | (with_reducible refine cond_intro (fun _ => ?_) (fun _ => ?_)) | ((with_reducible apply gc_intro); exact rfl) | ((with_reducible apply endE_intro); exact rfl; exact rfl) | (with_reducible refine guardD_intro (fun _ => ?_) (fun _ => ?_))
        all_goals (refine ⟨k + 1, by omega, ⟨by omega, ?_⟩, by simp⟩; rw [List.take_add_one, List.take_add_one, he, List.getElem?_eq_getElem hlt, List.getElem?_eq_getElem hlt', show l[k] = m[k] from hqq])
      · have hq' : (l[k] != m[k]) = true := by simpa using hq
        have hne : (l == m) = false := by
          simp only [beq_eq_false_iff_ne, ne_eq]
          rintro rfl
          exact hq rfl
        repeat' first | simp -implicitDefEqProofs only [go_sem, kbase, Nat.reduceBEq, Nat.reduceLT, Nat.reduceAdd, Nat.reduceEqDiff, Nat.reduceLeDiff, reduceIte, Int.reduceEq, Int.reduceLT, Int.reduceLE, Int.reduceToNat, Int.reduceAdd, *, Int.natCast_nonneg, Int.toNat_natCast] | (with_reducible refine guard_intro (fun _ => ?_) (fun _ => ?_)) | (with_reducible refine cond_intro (fun _ => ?_) (fun _ => ?_)) | ((with_reducible apply gc_intro); exact rfl) | ((with_reducible apply endE_intro); exact rfl; exact rfl) | (with_reducible refine guardD_intro (fun _ => ?_) (fun _ => ?_))
    · have e1 : l.take k = l := List.take_of_length_le (by simpa using h)
      have e2 : m.take k = m := List.take_of_length_le (by have : l.length ≤ k := by simpa using h
                                                           have : l.length = m.length := hlm
                                                           omega)
      have hne : (l == m) = true := by rw [beq_iff_eq, ← e1, ← e2]; exact he
      repeat' first | simp -implicitDefEqProofs only [go_sem, kbase, Nat.reduceBEq, Nat.reduceLT, Nat.reduceAdd, Nat.reduceEqDiff, Nat.reduceLeDiff, reduceIte, Int.reduceEq, Int.reduceLT, Int.reduceLE, Int.reduceToNat, Int.reduceAdd, *] | (with_reducible refine guard_intro (fun _ => ?_) (fun _ => ?_)) | (with_reducible refine cond_intro (fun _ => ?_) (fun _ => ?_)) | ((with_reducible apply gc_intro); exact rfl) | ((with_reducible apply endE_intro); exact rfl; exact rfl) | (with_reducible refine guardD_intro (fun _ => ?_) (fun _ => ?_))
  · have hb : ((l.length : Int) != m.length) = true := by simpa using h
    have hne : (l == m) = false := by
      simp only [beq_eq_false_iff_ne, ne_eq]
      rintro rfl
      exact h rfl
    simp -implicitDefEqProofs only [go_sem, kbase, Nat.reduceBEq, Nat.reduceLT, Nat.reduceAdd, Nat.reduceEqDiff, Nat.reduceLeDiff, reduceIte, Int.reduceEq, Int.reduceLT, Int.reduceLE, Int.reduceToNat, Int.reduceAdd, r10]
    repeat' first | simp -implicitDefEqProofs only [go_sem, kbase, Nat.reduceBEq, Nat.reduceLT, Nat.reduceAdd, Nat.reduceEqDiff, Nat.reduceLeDiff, reduceIte, Int.reduceEq, Int.reduceLT, Int.reduceLE, Int.reduceToNat, Int.reduceAdd, *] | (with_reducible refine guard_intro (fun _ => ?_) (fun _ => ?_)) | (with_reducible refine cond_intro (fun _ => ?_) (fun _ => ?_)) | ((with_reducible apply gc_intro); exact rfl) | ((with_reducible apply endE_intro); exact rfl; exact rfl) | (with_reducible refine guardD_intro (fun _ => ?_) (fun _ => ?_))
end Go.LH.K
