/- FrameAsks: the configuration's rules: links. -/
import Derived.Test.YtieoifkedeeehaaGreatDoorZH
import Derived.Test.YtieoifkedeeehaaGreatDoorLhWalkC
namespace Go.LH.Z
open Go Go.LH
set_option linter.unusedSimpArgs false
set_option linter.unusedVariables false
set_option maxRecDepth 10000
set_option maxHeartbeats 4000000
def thB (c : Cfg) (k : Int) : Bool := decide (0 ≤ k) && decide (k < c.parts.length)
def mobAt (c : Cfg) (k : Int) : Bool := match c.parts[k.toNat]? with
  | some p => p.mobile
  | none => false
def linkOk (c : Cfg) (l : Lnk) : Bool := thB c l.src && thB c l.dst && !(l.src == l.dst) && !(mobAt c l.src) && !(mobAt c l.dst) && (kindZ c l.src l.out == 2 || kindZ c l.src l.out == 4) && (kindZ c l.dst l.inn == 1 || kindZ c l.dst l.inn == 3)
def linksOk (c : Cfg) : Bool := decide (c.links.length ≤ 16) && c.links.all (linkOk c)
theorem kind_port {c : Cfg} {k n : Int} {p : PlanS} (h : c.parts[k.toNat]? = some p) {x y : Int} (hx : x ≠ 0) (hy : y ≠ 0) : isPortB p n x y = (kindZ c k n == x || kindZ c k n == y) := by
  simp only [isPortB, kindZ, h]
  by_cases h0 : 0 ≤ n
  · by_cases h1 : n < p.ports.length
    · obtain ⟨m, rfl⟩ : ∃ m : Nat, n = m := ⟨n.toNat, by omega⟩
      have : m < p.ports.length := by omega
      simp [h1, this]
    · have : p.ports[n.toNat]? = none := by rw [List.getElem?_eq_none_iff]; omega
      simp [h0, h1, this]; grind
  · simp [h0]; grind
variable {P : Program} {b : Nat → Addr} (hP : Codes P)
include hP
theorem g35 (c : Cfg) (hc : c.Ok) : GoodV (zG b) P 35 [.agg c.enc] (ErrP (linksOk c && (!mobB c || hasB c (-1)))) := by
  refine good_z hP rfl rfl ?_
  have hm := g50 hP (b := b) c.parts hc.nparts
  simp -implicitDefEqProofs only [go_sem, kbase, Nat.reduceBEq, Nat.reduceLT, Nat.reduceAdd, Nat.reduceEqDiff, Nat.reduceLeDiff, reduceIte, Int.reduceEq, Int.reduceLT, Int.reduceLE, Int.reduceToNat, Int.reduceAdd, r35, Cfg.enc]
  repeat' first | simp -implicitDefEqProofs only [go_sem, kbase, Nat.reduceBEq, Nat.reduceLT, Nat.reduceAdd, Nat.reduceEqDiff, Nat.reduceLeDiff, reduceIte, Int.reduceEq, Int.reduceLT, Int.reduceLE, Int.reduceToNat, Int.reduceAdd, *] | (with_reducible refine guard_intro (fun _ => ?_) (fun _ => ?_)) | (with_reducible refine cond_intro (fun _ => ?_) (fun _ => ?_)) | ((with_reducible apply gc_intro); exact rfl) | (with_reducible refine guardD_intro (fun _ => ?_) (fun _ => ?_))
  all_goals try (first | ((with_reducible refine ErrP.bad ?_ _ ?_ ?_); (· grind [linksOk]); (· exact rfl); (· exact fun _ => rfl)) | ((with_reducible refine ErrP.bad ?_ _ (by assumption) (by assumption)); (· grind [linksOk])) | ((with_reducible refine ErrP.good ?_); (· grind [linksOk])) | ((with_reducible refine CodeP.mk _ _ ?_); (· grind [linksOk])) | ((with_reducible refine IdxP.mk _ ?_); (· grind [linksOk])))
  refine loop_slots 0 (fun i => c.links.length - i) (fun i => i ≤ c.links.length ∧ (c.links.take i).all (linkOk c) = true) (fun i s => sset s 14 (.c (iC (i : Nat)))) rfl ⟨by simp, by simp⟩ ?_
  rintro i ⟨hi, ha⟩
  simp -implicitDefEqProofs only [go_sem, kbase, Nat.reduceBEq, Nat.reduceLT, Nat.reduceAdd, Nat.reduceEqDiff, Nat.reduceLeDiff, reduceIte, Int.reduceEq, Int.reduceLT, Int.reduceLE, Int.reduceToNat, Int.reduceAdd]
  refine cond_intro (fun h => ?_) (fun h => ?_)
  · have hlt : i < c.links.length := by simpa using h
    have hrow := row_at (e := Lnk.enc) hlt
    have hw := wrap_succ (n := i) (by have := hc.nlinks; omega)
    cases q1 : (decide (0 ≤ c.links[i].src) && decide (c.links[i].src < c.parts.length)) with
    | false =>
      repeat' first | simp -implicitDefEqProofs only [go_sem, kbase, Nat.reduceBEq, Nat.reduceLT, Nat.reduceAdd, Nat.reduceEqDiff, Nat.reduceLeDiff, reduceIte, Int.reduceEq, Int.reduceLT, Int.reduceLE, Int.reduceToNat, Int.reduceAdd, *, Lnk.enc, Int.natCast_nonneg] | (with_reducible refine guard_intro (fun _ => ?_) (fun _ => ?_)) | (with_reducible refine cond_intro (fun _ => ?_) (fun _ => ?_)) | ((with_reducible apply gc_intro); exact rfl) | (with_reducible refine guardD_intro (fun _ => ?_) (fun _ => ?_)) | ((with_reducible apply call_eq (g43 hP c _)); exact rfl; exact rfl) | ((with_reducible apply call_fzeq (g43 hP c _)); exact rfl) | ((with_reducible apply call_eq (g47 hP _ _)); exact rfl; exact rfl) | ((with_reducible apply call_fzeq (g47 hP _ _)); exact rfl)
      all_goals have hbad : linkOk c c.links[i] = false := by simp [linkOk, thB, q1]
      all_goals have hall := all_no hlt hbad
      all_goals (first | ((with_reducible refine ErrP.bad ?_ _ ?_ ?_); (· grind [linksOk]); (· exact rfl); (· exact fun _ => rfl)) | ((with_reducible refine ErrP.bad ?_ _ (by assumption) (by assumption)); (· grind [linksOk])) | ((with_reducible refine ErrP.good ?_); (· grind [linksOk])) | ((with_reducible refine CodeP.mk _ _ ?_); (· grind [linksOk])) | ((with_reducible refine IdxP.mk _ ?_); (· grind [linksOk])))
    | true =>
    cases q2 : (decide (0 ≤ c.links[i].dst) && decide (c.links[i].dst < c.parts.length)) with
    | false =>
      repeat' first | simp -implicitDefEqProofs only [go_sem, kbase, Nat.reduceBEq, Nat.reduceLT, Nat.reduceAdd, Nat.reduceEqDiff, Nat.reduceLeDiff, reduceIte, Int.reduceEq, Int.reduceLT, Int.reduceLE, Int.reduceToNat, Int.reduceAdd, *, Lnk.enc, Int.natCast_nonneg] | (with_reducible refine guard_intro (fun _ => ?_) (fun _ => ?_)) | (with_reducible refine cond_intro (fun _ => ?_) (fun _ => ?_)) | ((with_reducible apply gc_intro); exact rfl) | (with_reducible refine guardD_intro (fun _ => ?_) (fun _ => ?_)) | ((with_reducible apply call_eq (g43 hP c _)); exact rfl; exact rfl) | ((with_reducible apply call_fzeq (g43 hP c _)); exact rfl) | ((with_reducible apply call_eq (g47 hP _ _)); exact rfl; exact rfl) | ((with_reducible apply call_fzeq (g47 hP _ _)); exact rfl)
      all_goals have hbad : linkOk c c.links[i] = false := by simp [linkOk, thB, q2]
      all_goals have hall := all_no hlt hbad
      all_goals (first | ((with_reducible refine ErrP.bad ?_ _ ?_ ?_); (· grind [linksOk]); (· exact rfl); (· exact fun _ => rfl)) | ((with_reducible refine ErrP.bad ?_ _ (by assumption) (by assumption)); (· grind [linksOk])) | ((with_reducible refine ErrP.good ?_); (· grind [linksOk])) | ((with_reducible refine CodeP.mk _ _ ?_); (· grind [linksOk])) | ((with_reducible refine IdxP.mk _ ?_); (· grind [linksOk])))
    | true =>
    simp only [Bool.and_eq_true, decide_eq_true_eq] at q1 q2
    have k1 : (c.links[i].src).toNat < c.parts.length := by omega
    have k2 : (c.links[i].dst).toNat < c.parts.length := by omega
    have hr1 : (c.parts.map PlanS.enc)[(c.links[i].src).toNat]? = some (c.parts[(c.links[i].src).toNat].enc) := by simp [k1]
    have hr2 : (c.parts.map PlanS.enc)[(c.links[i].dst).toNat]? = some (c.parts[(c.links[i].dst).toNat].enc) := by simp [k2]
    have hp1 : c.parts[(c.links[i].src).toNat]? = some (c.parts[(c.links[i].src).toNat]) := by simp [k1]
    have hp2 : c.parts[(c.links[i].dst).toNat]? = some (c.parts[(c.links[i].dst).toNat]) := by simp [k2]
    obtain ⟨q1a, q1b⟩ := q1
    obtain ⟨q2a, q2b⟩ := q2
    have t1 : thB c c.links[i].src = true := by simp [thB, q1a, q1b]
    have t2 : thB c c.links[i].dst = true := by simp [thB, q2a, q2b]
    have m1 : mobAt c c.links[i].src = (c.parts[(c.links[i].src).toNat]).mobile := by simp [mobAt, hp1]
    have m2 : mobAt c c.links[i].dst = (c.parts[(c.links[i].dst).toNat]).mobile := by simp [mobAt, hp2]
    have s1 := kind_port (n := c.links[i].out) hp1 (x := 2) (y := 4) (by decide) (by decide)
    have s2 := kind_port (n := c.links[i].inn) hp2 (x := 1) (y := 3) (by decide) (by decide)
    have s3 : isPortB {c.parts[(c.links[i].src).toNat] with mobile := false} c.links[i].out 2 4 = (kindZ c c.links[i].src c.links[i].out == 2 || kindZ c c.links[i].src c.links[i].out == 4) := s1
    have s4 : isPortB {c.parts[(c.links[i].dst).toNat] with mobile := false} c.links[i].inn 1 3 = (kindZ c c.links[i].dst c.links[i].inn == 1 || kindZ c c.links[i].dst c.links[i].inn == 3) := s2
    repeat' first | simp -implicitDefEqProofs only [go_sem, kbase, Nat.reduceBEq, Nat.reduceLT, Nat.reduceAdd, Nat.reduceEqDiff, Nat.reduceLeDiff, reduceIte, Int.reduceEq, Int.reduceLT, Int.reduceLE, Int.reduceToNat, Int.reduceAdd, *, Lnk.enc, PlanS.enc, Int.natCast_nonneg] | (with_reducible refine guard_intro (fun _ => ?_) (fun _ => ?_)) | (with_reducible refine cond_intro (fun _ => ?_) (fun _ => ?_)) | ((with_reducible apply gc_intro); exact rfl) | (with_reducible refine guardD_intro (fun _ => ?_) (fun _ => ?_)) | (with_reducible refine gl_intro (fun _ => ?_) (fun _ => ?_)) | (with_reducible refine gm_intro (fun _ => ?_) (fun _ => ?_)) | ((with_reducible apply call_eq (g43 hP c _)); exact rfl; exact rfl) | ((with_reducible apply call_fzeq (g43 hP c _)); exact rfl) | ((with_reducible apply call_eq (g47 hP _ _)); exact rfl; exact rfl) | ((with_reducible apply call_fzeq (g47 hP _ _)); exact rfl) | ((with_reducible apply callO_eq (g49 hP {c.parts[(c.links[i].src).toNat] with mobile := false} _ _ _)); exact rfl; exact rfl) | ((with_reducible apply callO_eq (g49 hP {c.parts[(c.links[i].dst).toNat] with mobile := false} _ _ _)); exact rfl; exact rfl)
    all_goals (first | ((with_reducible refine ⟨i + 1, ?_, ⟨?_, ?_⟩, ?_⟩); (· omega); (· omega); (· exact all_step hlt ha (by grind [linksOk, linkOk])); (· exact rfl)) | ((with_reducible refine ErrP.bad ?_ _ ?_ ?_); (· grind [all_no hlt, linksOk, linkOk]); (· exact rfl); (· exact fun _ => rfl)) | ((with_reducible refine ErrP.bad ?_ _ (by assumption) (by assumption)); (· grind [all_no hlt, linksOk, linkOk])) | ((with_reducible refine ErrP.good ?_); (· grind [linksOk, linkOk])) | ((with_reducible refine CodeP.mk _ _ ?_); (· grind [all_no hlt, linksOk, linkOk])) | ((with_reducible refine IdxP.mk _ ?_); (· grind [all_no hlt, linksOk, linkOk])))
  · have hlinks := all_end (by simpa using h) ha
    repeat' first | simp -implicitDefEqProofs only [go_sem, kbase, Nat.reduceBEq, Nat.reduceLT, Nat.reduceAdd, Nat.reduceEqDiff, Nat.reduceLeDiff, reduceIte, Int.reduceEq, Int.reduceLT, Int.reduceLE, Int.reduceToNat, Int.reduceAdd, *] | (with_reducible refine guard_intro (fun _ => ?_) (fun _ => ?_)) | (with_reducible refine cond_intro (fun _ => ?_) (fun _ => ?_)) | ((with_reducible apply gc_intro); exact rfl) | (with_reducible refine guardD_intro (fun _ => ?_) (fun _ => ?_)) | ((with_reducible apply call_eq (g50 hP c.parts hc.nparts)); exact rfl; exact rfl) | ((with_reducible apply call_fzeq (g50 hP c.parts hc.nparts)); exact rfl) | ((with_reducible apply call_eq (g48 hP c hc _)); exact rfl; exact rfl) | ((with_reducible apply call_fzeq (g48 hP c hc _)); exact rfl)
    all_goals (first | ((with_reducible refine ErrP.bad ?_ _ ?_ ?_); (· grind [linksOk, mobB]); (· exact rfl); (· exact fun _ => rfl)) | ((with_reducible refine ErrP.bad ?_ _ (by assumption) (by assumption)); (· grind [linksOk, mobB])) | ((with_reducible refine ErrP.good ?_); (· grind [linksOk, mobB])) | ((with_reducible refine CodeP.mk _ _ ?_); (· grind [linksOk, mobB])) | ((with_reducible refine IdxP.mk _ ?_); (· grind [linksOk, mobB])))
theorem g61 (c : Cfg) (hc : c.Ok) : GoodV (zG b) P 61 [.agg c.enc] (CodeP (linksOk c)) := by
  refine good_z hP rfl rfl ?_
  simp -implicitDefEqProofs only [go_sem, kbase, Nat.reduceBEq, Nat.reduceLT, Nat.reduceAdd, Nat.reduceEqDiff, Nat.reduceLeDiff, reduceIte, Int.reduceEq, Int.reduceLT, Int.reduceLE, Int.reduceToNat, Int.reduceAdd, r61, Cfg.enc]
  repeat' first | simp -implicitDefEqProofs only [go_sem, kbase, Nat.reduceBEq, Nat.reduceLT, Nat.reduceAdd, Nat.reduceEqDiff, Nat.reduceLeDiff, reduceIte, Int.reduceEq, Int.reduceLT, Int.reduceLE, Int.reduceToNat, Int.reduceAdd, *] | (with_reducible refine guard_intro (fun _ => ?_) (fun _ => ?_)) | (with_reducible refine cond_intro (fun _ => ?_) (fun _ => ?_)) | ((with_reducible apply gc_intro); exact rfl) | (with_reducible refine guardD_intro (fun _ => ?_) (fun _ => ?_)) | ((with_reducible apply call_eq (g58 hP _)); exact rfl; exact rfl) | ((with_reducible apply call_fzeq (g58 hP _)); exact rfl)
  all_goals try (first | ((with_reducible refine ErrP.bad ?_ _ ?_ ?_); (· grind [linksOk]); (· exact rfl); (· exact fun _ => rfl)) | ((with_reducible refine ErrP.bad ?_ _ (by assumption) (by assumption)); (· grind [linksOk])) | ((with_reducible refine ErrP.good ?_); (· grind [linksOk])) | ((with_reducible refine CodeP.mk _ _ ?_); (· grind [linksOk])) | ((with_reducible refine IdxP.mk _ ?_); (· grind [linksOk])))
  refine loop_slots 0 (fun i => c.links.length - i) (fun i => i ≤ c.links.length ∧ (c.links.take i).all (linkOk c) = true) (fun i s => sset s 3 (.c (iC (i : Nat)))) rfl ⟨by simp, by simp⟩ ?_
  rintro i ⟨hi, ha⟩
  simp -implicitDefEqProofs only [go_sem, kbase, Nat.reduceBEq, Nat.reduceLT, Nat.reduceAdd, Nat.reduceEqDiff, Nat.reduceLeDiff, reduceIte, Int.reduceEq, Int.reduceLT, Int.reduceLE, Int.reduceToNat, Int.reduceAdd]
  refine cond_intro (fun h => ?_) (fun h => ?_)
  · have hlt : i < c.links.length := by simpa using h
    have hrow := row_at (e := Lnk.enc) hlt
    have hw := wrap_succ (n := i) (by have := hc.nlinks; omega)
    cases q1 : (decide (0 ≤ c.links[i].src) && decide (c.links[i].src < c.parts.length)) with
    | false =>
      repeat' first | simp -implicitDefEqProofs only [go_sem, kbase, Nat.reduceBEq, Nat.reduceLT, Nat.reduceAdd, Nat.reduceEqDiff, Nat.reduceLeDiff, reduceIte, Int.reduceEq, Int.reduceLT, Int.reduceLE, Int.reduceToNat, Int.reduceAdd, *, Lnk.enc, Int.natCast_nonneg] | (with_reducible refine guard_intro (fun _ => ?_) (fun _ => ?_)) | (with_reducible refine cond_intro (fun _ => ?_) (fun _ => ?_)) | ((with_reducible apply gc_intro); exact rfl) | (with_reducible refine guardD_intro (fun _ => ?_) (fun _ => ?_)) | ((with_reducible apply call_eq (g41 hP c _)); exact rfl; exact rfl) | ((with_reducible apply call_fzeq (g41 hP c _)); exact rfl)
      all_goals have hbad : linkOk c c.links[i] = false := by simp [linkOk, thB, q1]
      all_goals have hall := all_no hlt hbad
      all_goals try (refine CodeP.mk _ _ ?_; grind [linksOk])
      all_goals (exfalso; grind)
    | true =>
    cases q2 : (decide (0 ≤ c.links[i].dst) && decide (c.links[i].dst < c.parts.length)) with
    | false =>
      repeat' first | simp -implicitDefEqProofs only [go_sem, kbase, Nat.reduceBEq, Nat.reduceLT, Nat.reduceAdd, Nat.reduceEqDiff, Nat.reduceLeDiff, reduceIte, Int.reduceEq, Int.reduceLT, Int.reduceLE, Int.reduceToNat, Int.reduceAdd, *, Lnk.enc, Int.natCast_nonneg] | (with_reducible refine guard_intro (fun _ => ?_) (fun _ => ?_)) | (with_reducible refine cond_intro (fun _ => ?_) (fun _ => ?_)) | ((with_reducible apply gc_intro); exact rfl) | (with_reducible refine guardD_intro (fun _ => ?_) (fun _ => ?_)) | ((with_reducible apply call_eq (g41 hP c _)); exact rfl; exact rfl) | ((with_reducible apply call_fzeq (g41 hP c _)); exact rfl)
      all_goals have hbad : linkOk c c.links[i] = false := by simp [linkOk, thB, q2]
      all_goals have hall := all_no hlt hbad
      all_goals try (refine CodeP.mk _ _ ?_; grind [linksOk])
      all_goals (exfalso; grind)
    | true =>
    simp only [Bool.and_eq_true, decide_eq_true_eq] at q1 q2
    have k1 : (c.links[i].src).toNat < c.parts.length := by omega
    have k2 : (c.links[i].dst).toNat < c.parts.length := by omega
    have hr1 : (c.parts.map PlanS.enc)[(c.links[i].src).toNat]? = some (c.parts[(c.links[i].src).toNat].enc) := by simp [k1]
    have hr2 : (c.parts.map PlanS.enc)[(c.links[i].dst).toNat]? = some (c.parts[(c.links[i].dst).toNat].enc) := by simp [k2]
    have hp1 : c.parts[(c.links[i].src).toNat]? = some (c.parts[(c.links[i].src).toNat]) := by simp [k1]
    have hp2 : c.parts[(c.links[i].dst).toNat]? = some (c.parts[(c.links[i].dst).toNat]) := by simp [k2]
    obtain ⟨q1a, q1b⟩ := q1
    obtain ⟨q2a, q2b⟩ := q2
    have t1 : thB c c.links[i].src = true := by simp [thB, q1a, q1b]
    have t2 : thB c c.links[i].dst = true := by simp [thB, q2a, q2b]
    have m1 : mobAt c c.links[i].src = (c.parts[(c.links[i].src).toNat]).mobile := by simp [mobAt, hp1]
    have m2 : mobAt c c.links[i].dst = (c.parts[(c.links[i].dst).toNat]).mobile := by simp [mobAt, hp2]
    have n1 : decide (c.links[i].src < 0) = false := by simp; omega
    have n2 : decide (c.links[i].dst < 0) = false := by simp; omega
    have n3 : -1 ≤ c.links[i].src := by omega
    have n4 : -1 ≤ c.links[i].dst := by omega
    repeat' first | simp -implicitDefEqProofs only [go_sem, kbase, Nat.reduceBEq, Nat.reduceLT, Nat.reduceAdd, Nat.reduceEqDiff, Nat.reduceLeDiff, reduceIte, Int.reduceEq, Int.reduceLT, Int.reduceLE, Int.reduceToNat, Int.reduceAdd, *, Lnk.enc, PlanS.enc, Int.natCast_nonneg] | (with_reducible refine guard_intro (fun _ => ?_) (fun _ => ?_)) | (with_reducible refine cond_intro (fun _ => ?_) (fun _ => ?_)) | ((with_reducible apply gc_intro); exact rfl) | (with_reducible refine guardD_intro (fun _ => ?_) (fun _ => ?_)) | (with_reducible refine gl_intro (fun _ => ?_) (fun _ => ?_)) | (with_reducible refine gm_intro (fun _ => ?_) (fun _ => ?_)) | ((with_reducible apply call_eq (g41 hP c _)); exact rfl; exact rfl) | ((with_reducible apply call_fzeq (g41 hP c _)); exact rfl) | ((with_reducible apply callO_eq (g74 hP c c.links[i].src _ q1a q1b)); exact rfl; exact rfl) | ((with_reducible apply callO_eq (g74 hP c c.links[i].dst _ q2a q2b)); exact rfl; exact rfl)
    all_goals (first | ((with_reducible refine ⟨i + 1, ?_, ⟨?_, ?_⟩, ?_⟩); (· omega); (· omega); (· exact all_step hlt ha (by grind [linksOk, linkOk])); (· exact rfl)) | ((with_reducible refine ErrP.bad ?_ _ ?_ ?_); (· grind [all_no hlt, linksOk, linkOk]); (· exact rfl); (· exact fun _ => rfl)) | ((with_reducible refine ErrP.bad ?_ _ (by assumption) (by assumption)); (· grind [all_no hlt, linksOk, linkOk])) | ((with_reducible refine ErrP.good ?_); (· grind [linksOk, linkOk])) | ((with_reducible refine CodeP.mk _ _ ?_); (· grind [all_no hlt, linksOk, linkOk])) | ((with_reducible refine IdxP.mk _ ?_); (· grind [all_no hlt, linksOk, linkOk])))
  · have hlinks := all_end (by simpa using h) ha
    repeat' first | simp -implicitDefEqProofs only [go_sem, kbase, Nat.reduceBEq, Nat.reduceLT, Nat.reduceAdd, Nat.reduceEqDiff, Nat.reduceLeDiff, reduceIte, Int.reduceEq, Int.reduceLT, Int.reduceLE, Int.reduceToNat, Int.reduceAdd, *] | (with_reducible refine guard_intro (fun _ => ?_) (fun _ => ?_)) | (with_reducible refine cond_intro (fun _ => ?_) (fun _ => ?_)) | ((with_reducible apply gc_intro); exact rfl) | (with_reducible refine guardD_intro (fun _ => ?_) (fun _ => ?_)) | ((with_reducible apply call_eq (g63 hP)); exact rfl; exact rfl) | ((with_reducible apply call_fzeq (g63 hP)); exact rfl)
    all_goals (first | ((with_reducible refine ErrP.bad ?_ _ ?_ ?_); (· grind [linksOk]); (· exact rfl); (· exact fun _ => rfl)) | ((with_reducible refine ErrP.bad ?_ _ (by assumption) (by assumption)); (· grind [linksOk])) | ((with_reducible refine ErrP.good ?_); (· grind [linksOk])) | ((with_reducible refine CodeP.mk _ _ ?_); (· grind [linksOk])) | ((with_reducible refine IdxP.mk _ ?_); (· grind [linksOk])))
end Go.LH.Z
