/- Link: fixed, the calls on known data. -/
import Derived.Test.YtieoifkedeeehaaDoorKP
namespace Go.LH.K
open Go Go.LH Go.Proofs
set_option linter.unusedSimpArgs false
set_option linter.unusedVariables false
set_option maxRecDepth 10000
set_option maxHeartbeats 4000000
instance : DecidableEq LS := fun a c =>
  if h : a.fr = c.fr ∧ a.to = c.to ∧ a.by_ = c.by_ ∧ a.spoilt = c.spoilt ∧ a.spent = c.spent then .isTrue (by
    obtain ⟨h1, h2, h3, h4, h5⟩ := h
    cases a; cases c
    simp only at h1 h2 h3 h4 h5
    subst h1 h2 h3 h4 h5; rfl)
  else .isFalse (by intro e; subst e; exact h ⟨rfl, rfl, rfl, rfl, rfl⟩)
def t4 : ByteArray := ⟨⟨[97, 98, 99, 100]⟩⟩
def t4' : ByteArray := ⟨⟨[97, 99, 99, 100]⟩⟩
def t2 : ByteArray := ⟨⟨[97, 98]⟩⟩
def f1 : Sg := [⟨0, 1, t4, false, false⟩]
def f2 : Sg := [⟨0, 1, t4, false, false⟩, ⟨0, 1, t4, false, false⟩]
def f3 : Sg := [⟨0, 1, t2, true, false⟩, ⟨0, 1, t4, false, false⟩]
def f4 : Sg := [⟨0, 1, t2, true, false⟩, ⟨0, 1, t4', true, false⟩]
def f5 : Sg := [⟨0, 1, t2, true, true⟩, ⟨0, 1, t4', true, false⟩]
def f6 : Sg := [⟨0, 1, t2, true, true⟩, ⟨0, 1, t4', true, true⟩]
theorem e_1 : sendS [] 0 1 t4 = (1, none, f1) := by decide +kernel
theorem e_2 : copyS f1 1 = (2, none, f2) := by decide +kernel
theorem e_3 : trimS f2 1 2 = (none, f3) := by decide +kernel
theorem e_4 : flipS f3 2 8 1 = (none, f4) := by decide +kernel
theorem e_5 : flipS f4 2 8 1 = (some 0, f4) := by decide +kernel
theorem e_6 : findS f4 2 = some ⟨0, 1, t4', true, false⟩ := by decide +kernel
theorem e_7 : findS f4 1 = some ⟨0, 1, t2, true, false⟩ := by decide +kernel
theorem e_7s : f4.set (1 - 1 : Int).toNat (spend ⟨0, 1, t2, true, false⟩) = f5 := by decide +kernel
theorem e_8 : findS f5 1 = none := by decide +kernel
theorem e_9 : waitS f5 1 = [2] := by decide +kernel
theorem z_fixed (hP : Codes Tryd.prog) {b : Nat → Addr} (hI : ErrI Tryd.prog b) : Ans (zG b) Tryd.prog 5 [] (.c (bC true)) := by
  have ok2 : Ok f2 := by intro x hx; simp [f2] at hx; subst hx; decide
  have ok3 : Ok f3 := by intro x hx; simp [f3] at hx; rcases hx with rfl | rfl <;> decide
  have ok4 : Ok f4 := by intro x hx; simp [f4] at hx; rcases hx with rfl | rfl <;> decide
  have h0 := h_new (b := b) hP
  have h1 := h_send (b := b) hP (s := []) (fr := 0) (to := 1) (y := t4) (by decide)
  have h2 := h_copy (b := b) hP (s := f1) (n := 1) (by decide)
  have h3 := h_trim (b := b) hP (s := f2) (n := 1) (cut := 2) ok2 (by unfold i64; omega)
  have h4 := h_flip (b := b) hP (s := f3) (n := 2) (a := 8) (m := 1) ok3 (by unfold i64; omega) (by decide)
  have h5 := h_flip (b := b) hP (s := f4) (n := 2) (a := 8) (m := 1) ok4 (by unfold i64; omega) (by decide)
  have h6 := h_look (b := b) hP (s := f4) (n := 2)
  have h7 := h_take (b := b) hP (s := f4) (n := 1)
  have h8 := h_take (b := b) hP (s := f5) (n := 1)
  have h9 := h_made (b := b) hP f5
  have h10 := h_flush (b := b) hP (s := f5) (t := 1) (by decide)
  have c0 := code_0 (b := b) hP hI
  have c12 := code_12 (b := b) hP hI
  rw [e_1] at h1
  rw [e_2] at h2
  rw [e_3] at h3
  rw [e_4] at h4
  rw [e_5] at h5
  rw [show lookS f4 2 = (row3 ⟨0, 1, t4', true, false⟩, true, none) by unfold lookS; rw [e_6]] at h6
  rw [show takeS f4 1 = (row3 ⟨0, 1, t2, true, false⟩, none, f5) by unfold takeS; rw [e_7]; simp only [e_7s]] at h7
  rw [show takeS f5 1 = (zero3, some 12, f5) by unfold takeS; rw [e_8]] at h8
  rw [e_9] at h10
  have hl5 : (((f5.length : Nat) : Int) == 2) = true := rfl
  have hl0 : Hid (LHp [] = [⟨true, 0, 2, [[.mp 1 0, iC 0]]⟩, mapE 0 0 []]) := rfl
  simp only [errV, row3, zero3, List.length_cons, List.length_nil, Nat.zero_add, Int.natCast_one] at h1 h2 h3 h4 h5 h6 h7 h8 h9 h10
  generalize f1 = s1 at *
  generalize f2 = s2 at *
  generalize f3 = s3 at *
  generalize f4 = s4 at *
  generalize f5 = s5 at *
  generalize ([] : Sg) = s0 at h0 h1
  clear ok2 ok3 ok4
  refine good_z hP rfl rfl ?_
  simp -implicitDefEqProofs only [go_sem, kbase, Nat.reduceBEq, Nat.reduceLT, Nat.reduceAdd, Nat.reduceEqDiff, Nat.reduceLeDiff, reduceIte, Int.reduceEq, Int.reduceLT, Int.reduceLE, Int.reduceToNat, Int.reduceAdd, r5]
  repeat' first | simp -implicitDefEqProofs only [go_sem, kbase, Nat.reduceBEq, Nat.reduceLT, Nat.reduceAdd, Nat.reduceEqDiff, Nat.reduceLeDiff, reduceIte, Int.reduceEq, Int.reduceLT, Int.reduceLE, Int.reduceToNat, Int.reduceAdd, *, LHp, nilOf, Int.reduceBNe, t2, t4, t4', Int.reduceBEq, beq_self_eq_true, ba_self, nilEq_sent] | (with_reducible refine guard_intro (fun _ => ?_) (fun _ => ?_)) | (with_reducible refine cond_intro (fun _ => ?_) (fun _ => ?_)) | ((with_reducible apply gc_intro); exact rfl) | ((with_reducible apply endE_intro); exact rfl; exact rfl) | (with_reducible refine guardD_intro (fun _ => ?_) (fun _ => ?_)) | ((with_reducible apply call_h (hg := h0)); exact rfl) | ((with_reducible apply call_h (hg := h1)); exact rfl) | ((with_reducible apply call_h (hg := h2)); exact rfl) | ((with_reducible apply call_h (hg := h3)); exact rfl) | ((with_reducible apply call_h (hg := h4)); exact rfl) | ((with_reducible apply call_h (hg := h5)); exact rfl) | ((with_reducible apply call_h (hg := h6)); exact rfl) | ((with_reducible apply call_h (hg := h7)); exact rfl) | ((with_reducible apply call_h (hg := h8)); exact rfl) | ((with_reducible apply call_h (hg := h9)); exact rfl) | ((with_reducible apply call_h (hg := h10)); exact rfl) | ((with_reducible apply call_eq (c0)); exact rfl; exact rfl) | ((with_reducible apply call_fzeq (c0)); exact rfl) | ((with_reducible apply call_eq (c12)); exact rfl; exact rfl) | ((with_reducible apply call_fzeq (c12)); exact rfl)
  done
end Go.LH.K
