/- FrameAsks: Copy. -/
import Derived.Test.YtieoifkedeeehaaGreatDoorZO
namespace Go.LH.Z
open Go Go.LH
set_option linter.unusedSimpArgs false
set_option linter.unusedVariables false
set_option maxRecDepth 10000
set_option maxHeartbeats 4000000
attribute [go_sem] or_true or_false true_or false_or
theorem tk {α : Type} {e : α → List Cv} {l : List α} : (l.map e).take l.length = l.map e := List.take_of_length_le (by simp)
theorem most_of {n : Nat} (h : n ≤ 4294967296) : n ≤ most := h
theorem nil7 {w : World} {X : Nat → Prop} {k k' : Nat} {v : Value} (h : RepV w X (.sl k []) v) : RepV w X (.sl k' []) v := by
  cases h with
  | sl0 _ a cap => exact .sl0 k' a cap
  | sl _ rows b o cap us hcap hb hX hwd hc hr => exact .sl0 k' _ cap
variable {P : Program} {b : Nat → Addr} (hP : Codes P)
include hP
theorem g20 (p : PlanS) (hs : p.Ok) : Ans (zG b) P 20 [.agg p.enc] (.agg p.enc) := by
  refine good_z hP rfl rfl ?_
  have m1 := most_of hs.npages
  have m2 := most_of hs.nprocs
  have m3 := most_of hs.nports
  have m4 := most_of hs.nsems
  simp -implicitDefEqProofs only [go_sem, kbase, Nat.reduceBEq, Nat.reduceLT, Nat.reduceAdd, Nat.reduceEqDiff, Nat.reduceLeDiff, reduceIte, Int.reduceEq, Int.reduceLT, Int.reduceLE, Int.reduceToNat, Int.reduceAdd, r20, PlanS.enc]
  repeat' first | simp -implicitDefEqProofs only [go_sem, kbase, Nat.reduceBEq, Nat.reduceLT, Nat.reduceAdd, Nat.reduceEqDiff, Nat.reduceLeDiff, reduceIte, Int.reduceEq, Int.reduceLT, Int.reduceLE, Int.reduceToNat, Int.reduceAdd, *, tk] | (with_reducible refine guard_intro (fun _ => ?_) (fun _ => ?_)) | (with_reducible refine cond_intro (fun _ => ?_) (fun _ => ?_)) | ((with_reducible apply gc_intro); exact rfl) | (with_reducible refine guardD_intro (fun _ => ?_) (fun _ => ?_))
theorem g7' (c : Cfg) (hc : c.Ok) : GoodV (zG b) P 7 [.agg c.enc] (fun r => ∃ w, (w = 7 ∨ w = 0 ∧ c.parts.map PlanS.enc = []) ∧ r = .agg [iC c.ticks, .sl w (c.parts.map PlanS.enc), .sl 1 (c.homes.map intE), .sl 3 (c.wins.map Win.enc), .sl 4 (c.links.map Lnk.enc), iC c.tries]) := by
  refine good_z hP rfl rfl ?_
  have m2 := most_of hc.nhomes
  have m3 := most_of hc.nwins
  have m4 := most_of hc.nlinks
  simp -implicitDefEqProofs only [go_sem, kbase, Nat.reduceBEq, Nat.reduceLT, Nat.reduceAdd, Nat.reduceEqDiff, Nat.reduceLeDiff, reduceIte, Int.reduceEq, Int.reduceLT, Int.reduceLE, Int.reduceToNat, Int.reduceAdd, r7, Cfg.enc]
  repeat' first | simp -implicitDefEqProofs only [go_sem, kbase, Nat.reduceBEq, Nat.reduceLT, Nat.reduceAdd, Nat.reduceEqDiff, Nat.reduceLeDiff, reduceIte, Int.reduceEq, Int.reduceLT, Int.reduceLE, Int.reduceToNat, Int.reduceAdd, *] | (with_reducible refine guard_intro (fun _ => ?_) (fun _ => ?_)) | (with_reducible refine cond_intro (fun _ => ?_) (fun _ => ?_)) | ((with_reducible apply gc_intro); exact rfl) | (with_reducible refine guardD_intro (fun _ => ?_) (fun _ => ?_))
  refine loop_heap ((0 : Nat), (0 : Nat), (0 : Nat), ([] : List (List Cv))) (fun x => c.parts.length - x.1) (fun x => x.1 ≤ c.parts.length ∧ x.2.2.2.length = x.2.1 ∧ (x.2.2.1 = 7 ∨ x.2.2.1 = 0 ∧ x.2.2.2 = []) ∧ Hid (x.2.2.2 = (c.parts.take x.1).map PlanS.enc)) (fun x s => sset (sset s 3 (.c (.rs 2 x.2.1 0 x.2.1))) 4 (.c (iC (x.1 : Nat)))) (fun x => [⟨true, 0, 6, [[iC c.ticks, .sl 7 (c.parts.map PlanS.enc), .sl 1 (c.homes.map intE), .sl 3 (c.wins.map Win.enc), .sl 4 (c.links.map Lnk.enc), iC c.tries]]⟩, ⟨true, 0, 6, [[iC 0, .rs 3 0 0 0, .rs 4 0 0 0, .rs 5 0 0 0, .rs 6 0 0 0, iC 0]]⟩, ⟨false, x.2.1, x.2.2.1, x.2.2.2⟩, ⟨false, 0, 0, []⟩, ⟨false, 0, 0, []⟩, ⟨false, 0, 0, []⟩, ⟨false, 0, 0, []⟩]) rfl rfl ⟨by simp, by simp, by simp, by simp [Hid]⟩ ?_
  rintro ⟨i, n, w, rows⟩ ⟨hi, hn, hwd, hr⟩
  simp only at hi hn hwd hr
  simp -implicitDefEqProofs only [go_sem, kbase, Nat.reduceBEq, Nat.reduceLT, Nat.reduceAdd, Nat.reduceEqDiff, Nat.reduceLeDiff, reduceIte, Int.reduceEq, Int.reduceLT, Int.reduceLE, Int.reduceToNat, Int.reduceAdd]
  refine cond_intro (fun h => ?_) (fun h => ?_)
  · have hlt : i < c.parts.length := by simpa using h
    have hrow := row_at (e := PlanS.enc) hlt
    have hw := wrap_succ (n := i) (by have := hc.nparts; omega)
    have hnl : n ≤ i := by rw [← hn, show rows = _ from hr]; simp; omega
    have hmost : n + 1 ≤ most := by have := hc.nparts; simp only [most]; omega
    have hg := g20 hP (b := b) c.parts[i] (hc.parts _ (List.getElem_mem hlt))
    clear hnl hg
    repeat' first | simp -implicitDefEqProofs only [go_sem, kbase, Nat.reduceBEq, Nat.reduceLT, Nat.reduceAdd, Nat.reduceEqDiff, Nat.reduceLeDiff, reduceIte, Int.reduceEq, Int.reduceLT, Int.reduceLE, Int.reduceToNat, Int.reduceAdd, *, PlanS.enc, Int.natCast_nonneg] | (with_reducible refine guard_intro (fun _ => ?_) (fun _ => ?_)) | (with_reducible refine cond_intro (fun _ => ?_) (fun _ => ?_)) | ((with_reducible apply gc_intro); exact rfl) | (with_reducible refine guardD_intro (fun _ => ?_) (fun _ => ?_)) | ((with_reducible apply call_eq (g20 hP c.parts[i] (hc.parts _ (List.getElem_mem hlt)))); exact rfl; exact rfl) | ((with_reducible apply call_fzeq (g20 hP c.parts[i] (hc.parts _ (List.getElem_mem hlt)))); exact rfl)
    refine ⟨(i + 1, n + 1, 7, rows ++ [c.parts[i].enc]), by simp only; omega, ⟨by simp only; omega, by simp [hn], by simp, ?_⟩, rfl⟩
    show _ = _
    rw [show rows = _ from hr, List.take_succ_eq_append_getElem hlt, List.map_append]; rfl
  · have hge : c.parts.length ≤ i := by simpa using h
    have hr2 : rows = c.parts.map PlanS.enc := by rw [show rows = _ from hr, List.take_of_length_le hge]
    subst hr2
    have hz : n ≤ (c.parts.map PlanS.enc).length := by omega
    have hz2 : n ≤ c.parts.length := by simpa using hz
    have htk : (c.parts.map PlanS.enc).take n = c.parts.map PlanS.enc := List.take_of_length_le (by omega)
    clear hn
    repeat' first | simp -implicitDefEqProofs only [go_sem, kbase, Nat.reduceBEq, Nat.reduceLT, Nat.reduceAdd, Nat.reduceEqDiff, Nat.reduceLeDiff, reduceIte, Int.reduceEq, Int.reduceLT, Int.reduceLE, Int.reduceToNat, Int.reduceAdd, *, tk] | (with_reducible refine guard_intro (fun _ => ?_) (fun _ => ?_)) | (with_reducible refine cond_intro (fun _ => ?_) (fun _ => ?_)) | ((with_reducible apply gc_intro); exact rfl) | (with_reducible refine guardD_intro (fun _ => ?_) (fun _ => ?_))
    exact ⟨w, hwd, rfl⟩
theorem g7 (c : Cfg) (hc : c.Ok) : Ans (zG b) P 7 [.agg c.enc] (.agg c.enc) := by
  intro w X vs h1 h2 h3
  refine Calls.mono (g7' hP c hc w X vs h1 h2 h3) ?_
  rintro e w' ⟨v, r, k1, ⟨wd, hwd, rfl⟩, k3, k4⟩
  refine ⟨v, .agg c.enc, k1, rfl, ?_, k4⟩
  rcases hwd with rfl | ⟨rfl, hn⟩
  · exact k3
  · rw [hn] at k3
    unfold Cfg.enc
    rw [hn]
    cases k3 with
    | agg _ us hl hr =>
      refine .agg _ us hl fun i c' u hi hu => ?_
      match i, hi with
      | 0, hi => exact hr 0 _ u hi hu
      | 1, hi =>
        simp only [List.getElem?_cons_succ, List.getElem?_cons_zero, Option.some.injEq] at hi
        subst hi
        exact nil7 (hr 1 _ u rfl hu)
      | i + 2, hi => exact hr (i + 2) _ u hi hu
end Go.LH.Z
