/- Link: same; plays, one call on both sides. -/
import Derived.Test.YtieoifkedeeehaaDoorKKT
import Derived.Test.YtieoifkedeeehaaDoorKFl
import Derived.Test.YtieoifkedeeehaaDoorKF
namespace Go.LH.K
open Go Go.LH Go.Proofs
set_option linter.unusedSimpArgs false
set_option linter.unusedVariables false
set_option maxRecDepth 10000
set_option maxHeartbeats 4000000
/-- The errors that the link gives. -/
def EOk (e : Option Nat) : Prop := e = none ∨ e = some 0 ∨ e = some 1 ∨ e = some 12
/-- Both links in memory. -/
def PHp (s : Sg) : List Entry := [⟨true, 0, 2, [[.mp 2 0, iC s.length]]⟩, ⟨true, 0, 1, [[.rs 3 s.length 0 s.length]]⟩, mapE 0 s.length (esOf s), ⟨false, s.length, wdR s, s.map rrow⟩]
theorem send_e {s : Sg} {f t : Int} {y : ByteArray} : EOk (sendS s f t y).2.1 := by
  unfold sendS EOk; split
  · simp
  · split <;> simp
theorem look_e {s : Sg} {n : Int} : EOk (lookS s n).2.2 := by unfold lookS EOk; split <;> simp
theorem take_e {s : Sg} {n : Int} : EOk (takeS s n).2.1 := by unfold takeS EOk; split <;> simp
theorem copy_e {s : Sg} {n : Int} : EOk (copyS s n).2.1 := by unfold copyS EOk; split <;> simp
theorem trim_e {s : Sg} {n c : Int} : EOk (trimS s n c).1 := by
  unfold trimS EOk; split
  · simp
  · split <;> simp
theorem flip_e {s : Sg} {n a : Int} {m : Nat} : EOk (flipS s n a m).1 := by
  unfold flipS EOk; split
  · simp
  · split
    · simp
    · split <;> simp
theorem look_row {s : Sg} {n : Int} : ∃ f t y, (lookS s n).1 = [iC f, iC t, sC y] := by
  unfold lookS; split
  · exact ⟨_, _, _, rfl⟩
  · exact ⟨_, _, _, rfl⟩
theorem take_row {s : Sg} {n : Int} : ∃ f t y, (takeS s n).1 = [iC f, iC t, sC y] := by
  unfold takeS; split
  · exact ⟨_, _, _, rfl⟩
  · exact ⟨_, _, _, rfl⟩
theorem ren_err {f : Nat → Nat} {b : Nat → Addr} {e : Option Nat} : ren f (errV b e) = errV b e := by cases e <;> rfl
theorem sn_err {L : List Entry} {b : Nat → Addr} {e : Option Nat} {n : Int} : snSL L [.c (errV b e), .c (iC n)] = some [.c (errV b e), .c (iC n)] := by cases e <;> rfl
theorem ba_self (a : ByteArray) : (a == a) = true := by
  obtain ⟨d⟩ := a
  show (d == d) = true
  simp
theorem sn_two {L : List Entry} {i j : Nat} {w : List Int} (h1 : L[i]? = some ⟨false, w.length, wdI w, w.map intE⟩) (h2 : L[j]? = some ⟨false, w.length, wdI w, w.map intE⟩) : snSL L [.c (.rs i w.length 0 w.length), .c (.rs j w.length 0 w.length)] = some [.c (.sl (wdI w) (w.map intE)), .c (.sl (wdI w) (w.map intE))] := by
  have ht : List.take w.length (w.map intE) = w.map intE := List.take_of_length_le (by simp)
  simp [snSL, snS, snC, h1, h2, ht]
section
variable {P : Program} {b : Nat → Addr} (hP : Codes P)
include hP
theorem z_ok (hI : ErrI P b) {e : Option Nat} (h : EOk e) : Ans (zG b) P 21 [.c (errV b e), .c (iC (codeOf e))] (.c (bC true)) := by
  have p0 := hI.pNil
  have ps := hI.pSent
  rcases h with rfl | rfl | rfl | rfl
  · have hc := code_nil (b := b) hP
    refine good_z hP rfl rfl ?_
    simp only [errV, codeOf]
    simp -implicitDefEqProofs only [go_sem, kbase, Nat.reduceBEq, Nat.reduceLT, Nat.reduceAdd, Nat.reduceEqDiff, Nat.reduceLeDiff, reduceIte, Int.reduceEq, Int.reduceLT, Int.reduceLE, Int.reduceToNat, Int.reduceAdd, r21]
    repeat' first | simp -implicitDefEqProofs only [go_sem, kbase, Nat.reduceBEq, Nat.reduceLT, Nat.reduceAdd, Nat.reduceEqDiff, Nat.reduceLeDiff, reduceIte, Int.reduceEq, Int.reduceLT, Int.reduceLE, Int.reduceToNat, Int.reduceAdd, *] | (with_reducible refine guard_intro (fun _ => ?_) (fun _ => ?_)) | (with_reducible refine cond_intro (fun _ => ?_) (fun _ => ?_)) | ((with_reducible apply gc_intro); exact rfl) | ((with_reducible apply endE_intro); exact rfl; exact rfl) | (with_reducible refine guardD_intro (fun _ => ?_) (fun _ => ?_)) | ((with_reducible apply call_eq (hc)); exact rfl; exact rfl) | ((with_reducible apply call_fzeq (hc)); exact rfl) | ((with_reducible apply call_eq (p0)); exact rfl; exact rfl) | ((with_reducible apply call_fzeq (p0)); exact rfl)
    all_goals first | exact rfl | exact ⟨rfl, rfl⟩ | (simp []; done)
  · have hc := code_0 (b := b) hP hI
    have p1 := ps 0 (by decide)
    refine good_z hP rfl rfl ?_
    simp only [errV, codeOf]
    simp -implicitDefEqProofs only [go_sem, kbase, Nat.reduceBEq, Nat.reduceLT, Nat.reduceAdd, Nat.reduceEqDiff, Nat.reduceLeDiff, reduceIte, Int.reduceEq, Int.reduceLT, Int.reduceLE, Int.reduceToNat, Int.reduceAdd, r21]
    repeat' first | simp -implicitDefEqProofs only [go_sem, kbase, Nat.reduceBEq, Nat.reduceLT, Nat.reduceAdd, Nat.reduceEqDiff, Nat.reduceLeDiff, reduceIte, Int.reduceEq, Int.reduceLT, Int.reduceLE, Int.reduceToNat, Int.reduceAdd, *] | (with_reducible refine guard_intro (fun _ => ?_) (fun _ => ?_)) | (with_reducible refine cond_intro (fun _ => ?_) (fun _ => ?_)) | ((with_reducible apply gc_intro); exact rfl) | ((with_reducible apply endE_intro); exact rfl; exact rfl) | (with_reducible refine guardD_intro (fun _ => ?_) (fun _ => ?_)) | ((with_reducible apply call_eq (hc)); exact rfl; exact rfl) | ((with_reducible apply call_fzeq (hc)); exact rfl) | ((with_reducible apply call_eq (p1)); exact rfl; exact rfl) | ((with_reducible apply call_fzeq (p1)); exact rfl)
    all_goals first | exact rfl | exact ⟨rfl, rfl⟩ | (simp []; done)
  · have hc := code_1 (b := b) hP hI
    have p1 := ps 1 (by decide)
    refine good_z hP rfl rfl ?_
    simp only [errV, codeOf]
    simp -implicitDefEqProofs only [go_sem, kbase, Nat.reduceBEq, Nat.reduceLT, Nat.reduceAdd, Nat.reduceEqDiff, Nat.reduceLeDiff, reduceIte, Int.reduceEq, Int.reduceLT, Int.reduceLE, Int.reduceToNat, Int.reduceAdd, r21]
    repeat' first | simp -implicitDefEqProofs only [go_sem, kbase, Nat.reduceBEq, Nat.reduceLT, Nat.reduceAdd, Nat.reduceEqDiff, Nat.reduceLeDiff, reduceIte, Int.reduceEq, Int.reduceLT, Int.reduceLE, Int.reduceToNat, Int.reduceAdd, *] | (with_reducible refine guard_intro (fun _ => ?_) (fun _ => ?_)) | (with_reducible refine cond_intro (fun _ => ?_) (fun _ => ?_)) | ((with_reducible apply gc_intro); exact rfl) | ((with_reducible apply endE_intro); exact rfl; exact rfl) | (with_reducible refine guardD_intro (fun _ => ?_) (fun _ => ?_)) | ((with_reducible apply call_eq (hc)); exact rfl; exact rfl) | ((with_reducible apply call_fzeq (hc)); exact rfl) | ((with_reducible apply call_eq (p1)); exact rfl; exact rfl) | ((with_reducible apply call_fzeq (p1)); exact rfl)
    all_goals first | exact rfl | exact ⟨rfl, rfl⟩ | (simp []; done)
  · have hc := code_12 (b := b) hP hI
    have p1 := ps 12 (by decide)
    refine good_z hP rfl rfl ?_
    simp only [errV, codeOf]
    simp -implicitDefEqProofs only [go_sem, kbase, Nat.reduceBEq, Nat.reduceLT, Nat.reduceAdd, Nat.reduceEqDiff, Nat.reduceLeDiff, reduceIte, Int.reduceEq, Int.reduceLT, Int.reduceLE, Int.reduceToNat, Int.reduceAdd, r21]
    repeat' first | simp -implicitDefEqProofs only [go_sem, kbase, Nat.reduceBEq, Nat.reduceLT, Nat.reduceAdd, Nat.reduceEqDiff, Nat.reduceLeDiff, reduceIte, Int.reduceEq, Int.reduceLT, Int.reduceLE, Int.reduceToNat, Int.reduceAdd, *] | (with_reducible refine guard_intro (fun _ => ?_) (fun _ => ?_)) | (with_reducible refine cond_intro (fun _ => ?_) (fun _ => ?_)) | ((with_reducible apply gc_intro); exact rfl) | ((with_reducible apply endE_intro); exact rfl; exact rfl) | (with_reducible refine guardD_intro (fun _ => ?_) (fun _ => ?_)) | ((with_reducible apply call_eq (hc)); exact rfl; exact rfl) | ((with_reducible apply call_fzeq (hc)); exact rfl) | ((with_reducible apply call_eq (p1)); exact rfl; exact rfl) | ((with_reducible apply call_fzeq (p1)); exact rfl)
    all_goals first | exact rfl | exact ⟨rfl, rfl⟩ | (simp []; done)
def opA (kind : Int) (sec : Bool) (n x y : Int) (m : Nat) (t : ByteArray) : Sv := .agg [iC kind, bC sec, iC n, iC x, iC y, uC m, sC t]
theorem p_1 (hI : ErrI P b) {s : Sg} {sec : Bool} {n x y : Int} {m : Nat} {t : ByteArray} (hl : s.length < 100000000) (hx : i64 x) (hy : i64 y) : AnsH (zG b) P 7 [.c (.np 0 0 0 0), .c (.np 1 0 0 0), opA 1 sec n x y m t] (PHp s) (.c (bC true)) (PHp (sendS s x y t).2.2) := by
  have h1 := r_send (b := b) hP (s := s) (fr := x) (to := y) (y := t) (by omega) hx hy
  have h2 := h_send (b := b) hP (s := s) (fr := x) (to := y) (y := t) (by omega)
  have h3 := z_ok hP hI (send_e (s := s) (f := x) (t := y) (y := t))
  generalize sendS s x y t = z at *
  obtain ⟨z1, z2, z3⟩ := z
  simp only at h1 h2 h3
  refine good_h hP rfl rfl ?_
  simp -implicitDefEqProofs only [go_sem, kbase, Nat.reduceBEq, Nat.reduceLT, Nat.reduceAdd, Nat.reduceEqDiff, Nat.reduceLeDiff, reduceIte, Int.reduceEq, Int.reduceLT, Int.reduceLE, Int.reduceToNat, Int.reduceAdd, r7, opA, PHp]
  repeat' first | simp -implicitDefEqProofs only [go_sem, kbase, Nat.reduceBEq, Nat.reduceLT, Nat.reduceAdd, Nat.reduceEqDiff, Nat.reduceLeDiff, reduceIte, Int.reduceEq, Int.reduceLT, Int.reduceLE, Int.reduceToNat, Int.reduceAdd, *, RHp, beq_self_eq_true, ren_err] | (with_reducible refine guard_intro (fun _ => ?_) (fun _ => ?_)) | (with_reducible refine cond_intro (fun _ => ?_) (fun _ => ?_)) | ((with_reducible apply gc_intro); exact rfl) | ((with_reducible apply endE_intro); exact rfl; exact rfl) | (with_reducible refine guardD_intro (fun _ => ?_) (fun _ => ?_)) | ((with_reducible apply call_h (hg := h1)); exact rfl) | ((with_reducible apply call_h (hg := h2)); exact rfl) | ((with_reducible refine call_eq h3 sn_err rfl ?_))
  all_goals first | exact rfl | exact ⟨rfl, rfl⟩ | (simp []; done)
theorem p_2 (hI : ErrI P b) {s : Sg} {sec : Bool} {n x y : Int} {m : Nat} {t : ByteArray} (hn : i64 n) : AnsH (zG b) P 7 [.c (.np 0 0 0 0), .c (.np 1 0 0 0), opA 2 sec n x y m t] (PHp s) (.c (bC true)) (PHp s) := by
  have h1 := r_look (b := b) hP (s := s) (n := n) hn
  have h2 := h_look (b := b) hP (s := s) (n := n)
  have h3 := z_ok hP hI (look_e (s := s) (n := n))
  obtain ⟨r1, r2, r3, hr⟩ := look_row (s := s) (n := n)
  rw [hr] at h1 h2
  clear hr
  generalize lookS s n = z at *
  obtain ⟨z1, z2, z3⟩ := z
  simp only at h1 h2 h3
  refine good_h hP rfl rfl ?_
  simp -implicitDefEqProofs only [go_sem, kbase, Nat.reduceBEq, Nat.reduceLT, Nat.reduceAdd, Nat.reduceEqDiff, Nat.reduceLeDiff, reduceIte, Int.reduceEq, Int.reduceLT, Int.reduceLE, Int.reduceToNat, Int.reduceAdd, r7, opA, PHp, Int.reduceBEq]
  repeat' first | simp -implicitDefEqProofs only [go_sem, kbase, Nat.reduceBEq, Nat.reduceLT, Nat.reduceAdd, Nat.reduceEqDiff, Nat.reduceLeDiff, reduceIte, Int.reduceEq, Int.reduceLT, Int.reduceLE, Int.reduceToNat, Int.reduceAdd, *, RHp, LHp, Int.reduceBEq, beq_self_eq_true, ba_self, ren_err] | (with_reducible refine guard_intro (fun _ => ?_) (fun _ => ?_)) | (with_reducible refine cond_intro (fun _ => ?_) (fun _ => ?_)) | ((with_reducible apply gc_intro); exact rfl) | ((with_reducible apply endE_intro); exact rfl; exact rfl) | (with_reducible refine guardD_intro (fun _ => ?_) (fun _ => ?_)) | ((with_reducible apply call_h (hg := h1)); exact rfl) | ((with_reducible apply call_h (hg := h2)); exact rfl) | ((with_reducible refine call_eq h3 sn_err rfl ?_))
  all_goals first | exact rfl | exact ⟨rfl, rfl⟩ | (simp []; done)
theorem p_3 (hI : ErrI P b) {s : Sg} {sec : Bool} {n x y : Int} {m : Nat} {t : ByteArray} (hn : i64 n) : AnsH (zG b) P 7 [.c (.np 0 0 0 0), .c (.np 1 0 0 0), opA 3 sec n x y m t] (PHp s) (.c (bC true)) (PHp (takeS s n).2.2) := by
  have h1 := r_take (b := b) hP (s := s) (n := n) hn
  have h2 := h_take (b := b) hP (s := s) (n := n)
  have h3 := z_ok hP hI (take_e (s := s) (n := n))
  obtain ⟨r1, r2, r3, hr⟩ := take_row (s := s) (n := n)
  rw [hr] at h1 h2
  clear hr
  generalize takeS s n = z at *
  obtain ⟨z1, z2, z3⟩ := z
  simp only at h1 h2 h3
  refine good_h hP rfl rfl ?_
  simp -implicitDefEqProofs only [go_sem, kbase, Nat.reduceBEq, Nat.reduceLT, Nat.reduceAdd, Nat.reduceEqDiff, Nat.reduceLeDiff, reduceIte, Int.reduceEq, Int.reduceLT, Int.reduceLE, Int.reduceToNat, Int.reduceAdd, r7, opA, PHp, Int.reduceBEq]
  repeat' first | simp -implicitDefEqProofs only [go_sem, kbase, Nat.reduceBEq, Nat.reduceLT, Nat.reduceAdd, Nat.reduceEqDiff, Nat.reduceLeDiff, reduceIte, Int.reduceEq, Int.reduceLT, Int.reduceLE, Int.reduceToNat, Int.reduceAdd, *, RHp, LHp, Int.reduceBEq, beq_self_eq_true, ba_self, ren_err] | (with_reducible refine guard_intro (fun _ => ?_) (fun _ => ?_)) | (with_reducible refine cond_intro (fun _ => ?_) (fun _ => ?_)) | ((with_reducible apply gc_intro); exact rfl) | ((with_reducible apply endE_intro); exact rfl; exact rfl) | (with_reducible refine guardD_intro (fun _ => ?_) (fun _ => ?_)) | ((with_reducible apply call_h (hg := h1)); exact rfl) | ((with_reducible apply call_h (hg := h2)); exact rfl) | ((with_reducible refine call_eq h3 sn_err rfl ?_))
  all_goals first | exact rfl | exact ⟨rfl, rfl⟩ | (simp []; done)
theorem p_4 (hI : ErrI P b) {s : Sg} {sec : Bool} {n x y : Int} {m : Nat} {t : ByteArray} (hn : i64 n) : AnsH (zG b) P 7 [.c (.np 0 0 0 0), .c (.np 1 0 0 0), opA 4 sec n x y m t] (PHp s) (.c (bC true)) (PHp (takeS s n).2.2) := by
  have h1 := r_take (b := b) hP (s := s) (n := n) hn
  have h2 := h_drop (b := b) hP (s := s) (n := n)
  have h3 := z_ok hP hI (take_e (s := s) (n := n))
  obtain ⟨r1, r2, r3, hr⟩ := take_row (s := s) (n := n)
  rw [hr] at h1
  clear hr
  generalize takeS s n = z at *
  obtain ⟨z1, z2, z3⟩ := z
  simp only at h1 h2 h3
  refine good_h hP rfl rfl ?_
  simp -implicitDefEqProofs only [go_sem, kbase, Nat.reduceBEq, Nat.reduceLT, Nat.reduceAdd, Nat.reduceEqDiff, Nat.reduceLeDiff, reduceIte, Int.reduceEq, Int.reduceLT, Int.reduceLE, Int.reduceToNat, Int.reduceAdd, r7, opA, PHp, Int.reduceBEq]
  repeat' first | simp -implicitDefEqProofs only [go_sem, kbase, Nat.reduceBEq, Nat.reduceLT, Nat.reduceAdd, Nat.reduceEqDiff, Nat.reduceLeDiff, reduceIte, Int.reduceEq, Int.reduceLT, Int.reduceLE, Int.reduceToNat, Int.reduceAdd, *, RHp, LHp, Int.reduceBEq, beq_self_eq_true, ba_self, ren_err] | (with_reducible refine guard_intro (fun _ => ?_) (fun _ => ?_)) | (with_reducible refine cond_intro (fun _ => ?_) (fun _ => ?_)) | ((with_reducible apply gc_intro); exact rfl) | ((with_reducible apply endE_intro); exact rfl; exact rfl) | (with_reducible refine guardD_intro (fun _ => ?_) (fun _ => ?_)) | ((with_reducible apply call_h (hg := h1)); exact rfl) | ((with_reducible apply call_h (hg := h2)); exact rfl) | ((with_reducible refine call_eq h3 sn_err rfl ?_))
  all_goals first | exact rfl | exact ⟨rfl, rfl⟩ | (simp []; done)
theorem p_5 (hI : ErrI P b) {s : Sg} {sec : Bool} {n x y : Int} {m : Nat} {t : ByteArray} (hl : s.length < 100000000) (hn : i64 n) : AnsH (zG b) P 7 [.c (.np 0 0 0 0), .c (.np 1 0 0 0), opA 5 sec n x y m t] (PHp s) (.c (bC true)) (PHp (copyS s n).2.2) := by
  have h1 := r_copy (b := b) hP (s := s) (n := n) (by omega) hn
  have h2 := h_copy (b := b) hP (s := s) (n := n) (by omega)
  have h3 := z_ok hP hI (copy_e (s := s) (n := n))
  generalize copyS s n = z at *
  obtain ⟨z1, z2, z3⟩ := z
  simp only at h1 h2 h3
  refine good_h hP rfl rfl ?_
  simp -implicitDefEqProofs only [go_sem, kbase, Nat.reduceBEq, Nat.reduceLT, Nat.reduceAdd, Nat.reduceEqDiff, Nat.reduceLeDiff, reduceIte, Int.reduceEq, Int.reduceLT, Int.reduceLE, Int.reduceToNat, Int.reduceAdd, r7, opA, PHp, Int.reduceBEq]
  repeat' first | simp -implicitDefEqProofs only [go_sem, kbase, Nat.reduceBEq, Nat.reduceLT, Nat.reduceAdd, Nat.reduceEqDiff, Nat.reduceLeDiff, reduceIte, Int.reduceEq, Int.reduceLT, Int.reduceLE, Int.reduceToNat, Int.reduceAdd, *, RHp, LHp, Int.reduceBEq, beq_self_eq_true, ba_self, ren_err] | (with_reducible refine guard_intro (fun _ => ?_) (fun _ => ?_)) | (with_reducible refine cond_intro (fun _ => ?_) (fun _ => ?_)) | ((with_reducible apply gc_intro); exact rfl) | ((with_reducible apply endE_intro); exact rfl; exact rfl) | (with_reducible refine guardD_intro (fun _ => ?_) (fun _ => ?_)) | ((with_reducible apply call_h (hg := h1)); exact rfl) | ((with_reducible apply call_h (hg := h2)); exact rfl) | ((with_reducible refine call_eq h3 sn_err rfl ?_))
  all_goals first | exact rfl | exact ⟨rfl, rfl⟩ | (simp []; done)
theorem p_6 (hI : ErrI P b) {s : Sg} {sec : Bool} {n x y : Int} {m : Nat} {t : ByteArray} (hk : Ok s) (hn : i64 n) (hx : i64 x) : AnsH (zG b) P 7 [.c (.np 0 0 0 0), .c (.np 1 0 0 0), opA 6 sec n x y m t] (PHp s) (.c (bC true)) (PHp (trimS s n x).2) := by
  have h1 := r_trim (b := b) hP (s := s) (n := n) (cut := x) hk hn hx
  have h2 := h_trim (b := b) hP (s := s) (n := n) (cut := x) hk hx
  have h3 := z_ok hP hI (trim_e (s := s) (n := n) (c := x))
  generalize trimS s n x = z at *
  obtain ⟨z1, z2⟩ := z
  simp only at h1 h2 h3
  refine good_h hP rfl rfl ?_
  simp -implicitDefEqProofs only [go_sem, kbase, Nat.reduceBEq, Nat.reduceLT, Nat.reduceAdd, Nat.reduceEqDiff, Nat.reduceLeDiff, reduceIte, Int.reduceEq, Int.reduceLT, Int.reduceLE, Int.reduceToNat, Int.reduceAdd, r7, opA, PHp, Int.reduceBEq]
  repeat' first | simp -implicitDefEqProofs only [go_sem, kbase, Nat.reduceBEq, Nat.reduceLT, Nat.reduceAdd, Nat.reduceEqDiff, Nat.reduceLeDiff, reduceIte, Int.reduceEq, Int.reduceLT, Int.reduceLE, Int.reduceToNat, Int.reduceAdd, *, RHp, LHp, Int.reduceBEq, beq_self_eq_true, ba_self, ren_err] | (with_reducible refine guard_intro (fun _ => ?_) (fun _ => ?_)) | (with_reducible refine cond_intro (fun _ => ?_) (fun _ => ?_)) | ((with_reducible apply gc_intro); exact rfl) | ((with_reducible apply endE_intro); exact rfl; exact rfl) | (with_reducible refine guardD_intro (fun _ => ?_) (fun _ => ?_)) | ((with_reducible apply call_h (hg := h1)); exact rfl) | ((with_reducible apply call_h (hg := h2)); exact rfl) | ((with_reducible refine call_eq h3 sn_err rfl ?_))
  all_goals first | exact rfl | exact ⟨rfl, rfl⟩ | (simp []; done)
theorem p_7 (hI : ErrI P b) {s : Sg} {sec : Bool} {n x y : Int} {m : Nat} {t : ByteArray} (hk : Ok s) (hn : i64 n) (hx : i64 x) (hm : m < 4294967296) : AnsH (zG b) P 7 [.c (.np 0 0 0 0), .c (.np 1 0 0 0), opA 7 sec n x y m t] (PHp s) (.c (bC true)) (PHp (flipS s n x m).2) := by
  have h1 := r_flip (b := b) hP (s := s) (n := n) (a := x) (m := m) hk hn hx hm
  have h2 := h_flip (b := b) hP (s := s) (n := n) (a := x) (m := m) hk hx hm
  have h3 := z_ok hP hI (flip_e (s := s) (n := n) (a := x) (m := m))
  generalize flipS s n x m = z at *
  obtain ⟨z1, z2⟩ := z
  simp only at h1 h2 h3
  refine good_h hP rfl rfl ?_
  simp -implicitDefEqProofs only [go_sem, kbase, Nat.reduceBEq, Nat.reduceLT, Nat.reduceAdd, Nat.reduceEqDiff, Nat.reduceLeDiff, reduceIte, Int.reduceEq, Int.reduceLT, Int.reduceLE, Int.reduceToNat, Int.reduceAdd, r7, opA, PHp, Int.reduceBEq]
  repeat' first | simp -implicitDefEqProofs only [go_sem, kbase, Nat.reduceBEq, Nat.reduceLT, Nat.reduceAdd, Nat.reduceEqDiff, Nat.reduceLeDiff, reduceIte, Int.reduceEq, Int.reduceLT, Int.reduceLE, Int.reduceToNat, Int.reduceAdd, *, RHp, LHp, Int.reduceBEq, beq_self_eq_true, ba_self, ren_err] | (with_reducible refine guard_intro (fun _ => ?_) (fun _ => ?_)) | (with_reducible refine cond_intro (fun _ => ?_) (fun _ => ?_)) | ((with_reducible apply gc_intro); exact rfl) | ((with_reducible apply endE_intro); exact rfl; exact rfl) | (with_reducible refine guardD_intro (fun _ => ?_) (fun _ => ?_)) | ((with_reducible apply call_h (hg := h1)); exact rfl) | ((with_reducible apply call_h (hg := h2)); exact rfl) | ((with_reducible refine call_eq h3 sn_err rfl ?_))
  all_goals first | exact rfl | exact ⟨rfl, rfl⟩ | (simp []; done)
theorem p_0 {s : Sg} {k : Int} {sec : Bool} {n x y : Int} {m : Nat} {t : ByteArray} (h : k < 1 ∨ 9 < k) : AnsH (zG b) P 7 [.c (.np 0 0 0 0), .c (.np 1 0 0 0), opA k sec n x y m t] (PHp s) (.c (bC true)) (PHp s) := by
  have c1 : (k == 1) = false := by simp; omega
  have c2 : (k == 2) = false := by simp; omega
  have c3 : (k == 3) = false := by simp; omega
  have c4 : (k == 4) = false := by simp; omega
  have c5 : (k == 5) = false := by simp; omega
  have c6 : (k == 6) = false := by simp; omega
  have c7 : (k == 7) = false := by simp; omega
  have c8 : (k == 8) = false := by simp; omega
  have c9 : (k == 9) = false := by simp; omega
  refine good_h hP rfl rfl ?_
  simp -implicitDefEqProofs only [go_sem, kbase, Nat.reduceBEq, Nat.reduceLT, Nat.reduceAdd, Nat.reduceEqDiff, Nat.reduceLeDiff, reduceIte, Int.reduceEq, Int.reduceLT, Int.reduceLE, Int.reduceToNat, Int.reduceAdd, r7, opA, PHp, Int.reduceBEq]
  repeat' first | simp -implicitDefEqProofs only [go_sem, kbase, Nat.reduceBEq, Nat.reduceLT, Nat.reduceAdd, Nat.reduceEqDiff, Nat.reduceLeDiff, reduceIte, Int.reduceEq, Int.reduceLT, Int.reduceLE, Int.reduceToNat, Int.reduceAdd, *] | (with_reducible refine guard_intro (fun _ => ?_) (fun _ => ?_)) | (with_reducible refine cond_intro (fun _ => ?_) (fun _ => ?_)) | ((with_reducible apply gc_intro); exact rfl) | ((with_reducible apply endE_intro); exact rfl; exact rfl) | (with_reducible refine guardD_intro (fun _ => ?_) (fun _ => ?_))
  done
end
theorem p_8 (hP : Codes Tryd.prog) {b : Nat → Addr} {s : Sg} {sec : Bool} {n x y : Int} {m : Nat} {t : ByteArray} (hl : s.length < 100000000) : AnsH (zG b) Tryd.prog 7 [.c (.np 0 0 0 0), .c (.np 1 0 0 0), opA 8 sec n x y m t] (PHp s) (.c (bC true)) (PHp s) := by
  have h1 := r_wait (b := b) hP (s := s) (t := n) (by omega)
  have h2 := h_wait (b := b) hP (s := s) (t := n) (by omega)
  have h3 := h_made (b := b) hP s
  have hw : (waitS s n).length ≤ s.length := wait_len n s 0
  have h4 := z_same (b := b) hP (waitS s n) (waitS s n) (by omega)
  rw [beq_self_eq_true] at h4
  generalize waitS s n = w at *
  clear hw
  refine good_h hP rfl rfl ?_
  simp -implicitDefEqProofs only [go_sem, kbase, Nat.reduceBEq, Nat.reduceLT, Nat.reduceAdd, Nat.reduceEqDiff, Nat.reduceLeDiff, reduceIte, Int.reduceEq, Int.reduceLT, Int.reduceLE, Int.reduceToNat, Int.reduceAdd, r7, opA, PHp, Int.reduceBEq]
  repeat' first | simp -implicitDefEqProofs only [go_sem, kbase, Nat.reduceBEq, Nat.reduceLT, Nat.reduceAdd, Nat.reduceEqDiff, Nat.reduceLeDiff, reduceIte, Int.reduceEq, Int.reduceLT, Int.reduceLE, Int.reduceToNat, Int.reduceAdd, *, RHp, LHp, intsE, Int.reduceBEq, beq_self_eq_true, ren_err] | (with_reducible refine guard_intro (fun _ => ?_) (fun _ => ?_)) | (with_reducible refine cond_intro (fun _ => ?_) (fun _ => ?_)) | ((with_reducible apply gc_intro); exact rfl) | ((with_reducible apply endE_intro); exact rfl; exact rfl) | (with_reducible refine guardD_intro (fun _ => ?_) (fun _ => ?_)) | (with_reducible refine gl_intro (fun _ => ?_) (fun _ => ?_)) | (with_reducible refine gm_intro (fun _ => ?_) (fun _ => ?_)) | ((with_reducible apply callO_h (hg := h1)); exact rfl) | ((with_reducible apply callO_h (hg := h2)); exact rfl) | ((with_reducible apply callO_h (hg := h3)); exact rfl) | ((with_reducible refine callO_eq h4 (sn_two rfl rfl) rfl ?_))
  done
theorem p_9 (hP : Codes Tryd.prog) {b : Nat → Addr} {s : Sg} {sec : Bool} {n x y : Int} {m : Nat} {t : ByteArray} (hl : s.length < 100000000) : AnsH (zG b) Tryd.prog 7 [.c (.np 0 0 0 0), .c (.np 1 0 0 0), opA 9 sec n x y m t] (PHp s) (.c (bC true)) (PHp (flushS s n)) := by
  have h1 := r_flush (b := b) hP (s := s) (t := n) (by omega)
  have h2 := h_flush (b := b) hP (s := s) (t := n) (by omega)
  generalize flushS s n = z at *
  refine good_h hP rfl rfl ?_
  simp -implicitDefEqProofs only [go_sem, kbase, Nat.reduceBEq, Nat.reduceLT, Nat.reduceAdd, Nat.reduceEqDiff, Nat.reduceLeDiff, reduceIte, Int.reduceEq, Int.reduceLT, Int.reduceLE, Int.reduceToNat, Int.reduceAdd, r7, opA, PHp, Int.reduceBEq]
  repeat' first | simp -implicitDefEqProofs only [go_sem, kbase, Nat.reduceBEq, Nat.reduceLT, Nat.reduceAdd, Nat.reduceEqDiff, Nat.reduceLeDiff, reduceIte, Int.reduceEq, Int.reduceLT, Int.reduceLE, Int.reduceToNat, Int.reduceAdd, *, RHp, LHp, Int.reduceBEq, beq_self_eq_true, ren_err] | (with_reducible refine guard_intro (fun _ => ?_) (fun _ => ?_)) | (with_reducible refine cond_intro (fun _ => ?_) (fun _ => ?_)) | ((with_reducible apply gc_intro); exact rfl) | ((with_reducible apply endE_intro); exact rfl; exact rfl) | (with_reducible refine guardD_intro (fun _ => ?_) (fun _ => ?_)) | (with_reducible refine gl_intro (fun _ => ?_) (fun _ => ?_)) | (with_reducible refine gm_intro (fun _ => ?_) (fun _ => ?_)) | ((with_reducible apply callO_h (hg := h1)); exact rfl) | ((with_reducible apply callO_h (hg := h2)); exact rfl)
  done
end Go.LH.K
