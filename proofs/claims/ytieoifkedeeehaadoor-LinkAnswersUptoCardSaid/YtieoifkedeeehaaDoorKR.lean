/- Link: the document's find, Send, Look, Take, Copy, Trim. -/
import Derived.Test.YtieoifkedeeehaaDoorKSpec2
namespace Go.LH.K
open Go Go.LH
set_option linter.unusedSimpArgs false
set_option linter.unusedVariables false
set_option maxRecDepth 10000
set_option maxHeartbeats 4000000
theorem wdR_5 {s : Sg} {i : Nat} {x : LS} (h : s[i]? = some x) : wdR s = 5 := by
  cases s with
  | nil => simp at h
  | cons y r => rfl
theorem row_r {s : Sg} {i : Nat} {x : LS} (h : s[i]? = some x) : (s.map rrow)[i]? = some [iC x.fr, iC x.to, sC x.by_, bC x.spoilt, bC x.spent] := by
  rw [List.getElem?_map, h]; rfl
theorem map_set {s : Sg} {i : Nat} {y : LS} : (s.map rrow).set i [iC y.fr, iC y.to, sC y.by_, bC y.spoilt, bC y.spent] = (s.set i y).map rrow := by
  rw [List.map_set]; rfl
theorem wdR_set {s : Sg} {i : Nat} {y : LS} : wdR (s.set i y) = wdR s := by
  cases s with
  | nil => rfl
  | cons x r => cases i <;> rfl
attribute [go_sem] RHp
variable {P : Program} {b : Nat → Addr} (hP : Codes P)
include hP
theorem r_find_none {s : Sg} {n : Int} (hn : i64 n) (h : findS s n = none) : AnsH (zG b) P 36 [.c (.np 0 0 0 0), .c (iC n)] (RHp s) (.c (iC (-1))) (RHp s) := by
  by_cases c1 : n < 1
  · refine good_h hP rfl rfl ?_
    simp -implicitDefEqProofs only [go_sem, kbase, Nat.reduceBEq, Nat.reduceLT, Nat.reduceAdd, Nat.reduceEqDiff, Nat.reduceLeDiff, reduceIte, Int.reduceEq, Int.reduceLT, Int.reduceLE, Int.reduceToNat, Int.reduceAdd, r36]
    repeat' first | simp -implicitDefEqProofs only [go_sem, kbase, Nat.reduceBEq, Nat.reduceLT, Nat.reduceAdd, Nat.reduceEqDiff, Nat.reduceLeDiff, reduceIte, Int.reduceEq, Int.reduceLT, Int.reduceLE, Int.reduceToNat, Int.reduceAdd, *] | (with_reducible refine guard_intro (fun _ => ?_) (fun _ => ?_)) | (with_reducible refine cond_intro (fun _ => ?_) (fun _ => ?_)) | ((with_reducible apply gc_intro); exact rfl) | ((with_reducible apply endE_intro); exact rfl; exact rfl) | (with_reducible refine guardD_intro (fun _ => ?_) (fun _ => ?_))
    all_goals first | exact rfl | exact ⟨rfl, rfl⟩ | (simp []; done)
  by_cases c2 : (s.length : Int) < n
  · refine good_h hP rfl rfl ?_
    simp -implicitDefEqProofs only [go_sem, kbase, Nat.reduceBEq, Nat.reduceLT, Nat.reduceAdd, Nat.reduceEqDiff, Nat.reduceLeDiff, reduceIte, Int.reduceEq, Int.reduceLT, Int.reduceLE, Int.reduceToNat, Int.reduceAdd, r36]
    repeat' first | simp -implicitDefEqProofs only [go_sem, kbase, Nat.reduceBEq, Nat.reduceLT, Nat.reduceAdd, Nat.reduceEqDiff, Nat.reduceLeDiff, reduceIte, Int.reduceEq, Int.reduceLT, Int.reduceLE, Int.reduceToNat, Int.reduceAdd, *] | (with_reducible refine guard_intro (fun _ => ?_) (fun _ => ?_)) | (with_reducible refine cond_intro (fun _ => ?_) (fun _ => ?_)) | ((with_reducible apply gc_intro); exact rfl) | ((with_reducible apply endE_intro); exact rfl; exact rfl) | (with_reducible refine guardD_intro (fun _ => ?_) (fun _ => ?_))
    all_goals first | exact rfl | exact ⟨rfl, rfl⟩ | (simp []; done)
  have hw : IntKind.wrap .i64 (n - 1) = n - 1 := wrap_id (by unfold i64 at *; omega)
  have c3 : (0 : Int) ≤ n - 1 := by omega
  have c4 : n - 1 < (s.length : Int) := by omega
  obtain ⟨x, hx, hsp⟩ : ∃ x, s[(n - 1).toNat]? = some x ∧ x.spent = true := by
    unfold findS at h
    rw [if_pos (by omega)] at h
    have hlt : (n - 1).toNat < s.length := by omega
    rw [List.getElem?_eq_getElem hlt] at h
    refine ⟨_, List.getElem?_eq_getElem hlt, ?_⟩
    simp only at h
    split at h
    · assumption
    · cases h
  have hwd := wdR_5 hx
  have hr := row_r hx
  refine good_h hP rfl rfl ?_
  simp -implicitDefEqProofs only [go_sem, kbase, Nat.reduceBEq, Nat.reduceLT, Nat.reduceAdd, Nat.reduceEqDiff, Nat.reduceLeDiff, reduceIte, Int.reduceEq, Int.reduceLT, Int.reduceLE, Int.reduceToNat, Int.reduceAdd, r36]
  repeat' first | simp -implicitDefEqProofs only [go_sem, kbase, Nat.reduceBEq, Nat.reduceLT, Nat.reduceAdd, Nat.reduceEqDiff, Nat.reduceLeDiff, reduceIte, Int.reduceEq, Int.reduceLT, Int.reduceLE, Int.reduceToNat, Int.reduceAdd, *] | (with_reducible refine guard_intro (fun _ => ?_) (fun _ => ?_)) | (with_reducible refine cond_intro (fun _ => ?_) (fun _ => ?_)) | ((with_reducible apply gc_intro); exact rfl) | ((with_reducible apply endE_intro); exact rfl; exact rfl) | (with_reducible refine guardD_intro (fun _ => ?_) (fun _ => ?_))
  all_goals first | exact rfl | exact ⟨rfl, rfl⟩ | (simp []; done)
theorem r_find_some {s : Sg} {n : Int} {x : LS} (hn : i64 n) (h : findS s n = some x) : AnsH (zG b) P 36 [.c (.np 0 0 0 0), .c (iC n)] (RHp s) (.c (iC (n - 1))) (RHp s) := by
  obtain ⟨⟨c1, c2⟩, hx, hsp, _⟩ := es_some h
  have d1 : ¬ n < 1 := by omega
  have d2 : ¬ (s.length : Int) < n := by omega
  have hw : IntKind.wrap .i64 (n - 1) = n - 1 := wrap_id (by unfold i64 at *; omega)
  have c3 : (0 : Int) ≤ n - 1 := by omega
  have c4 : n - 1 < (s.length : Int) := by omega
  have hwd := wdR_5 hx
  have hr := row_r hx
  refine good_h hP rfl rfl ?_
  simp -implicitDefEqProofs only [go_sem, kbase, Nat.reduceBEq, Nat.reduceLT, Nat.reduceAdd, Nat.reduceEqDiff, Nat.reduceLeDiff, reduceIte, Int.reduceEq, Int.reduceLT, Int.reduceLE, Int.reduceToNat, Int.reduceAdd, r36]
  repeat' first | simp -implicitDefEqProofs only [go_sem, kbase, Nat.reduceBEq, Nat.reduceLT, Nat.reduceAdd, Nat.reduceEqDiff, Nat.reduceLeDiff, reduceIte, Int.reduceEq, Int.reduceLT, Int.reduceLE, Int.reduceToNat, Int.reduceAdd, *] | (with_reducible refine guard_intro (fun _ => ?_) (fun _ => ?_)) | (with_reducible refine cond_intro (fun _ => ?_) (fun _ => ?_)) | ((with_reducible apply gc_intro); exact rfl) | ((with_reducible apply endE_intro); exact rfl; exact rfl) | (with_reducible refine guardD_intro (fun _ => ?_) (fun _ => ?_))
  all_goals first | exact rfl | exact ⟨rfl, rfl⟩ | (simp []; done)
end Go.LH.K
