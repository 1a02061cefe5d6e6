/- FrameAsks: whose a tick is, the reference. -/
import Derived.Test.YtieoifkedeeehaaGreatDoorZK
namespace Go.LH.Z
open Go Go.LH
set_option linter.unusedSimpArgs false
set_option linter.unusedVariables false
set_option maxRecDepth 10000
set_option maxHeartbeats 4000000
def ownK (c : Cfg) (t : Int) (k : Nat) : Int := (c.wins.take k).foldl (fun a w => if w.start ≤ t ∧ t < w.start + w.len then w.part else a) (-2)
theorem ownK_succ {c : Cfg} {t : Int} {k : Nat} (h : k < c.wins.length) : ownK c t (k + 1) = if c.wins[k].start ≤ t ∧ t < c.wins[k].start + c.wins[k].len then c.wins[k].part else ownK c t k := by
  simp only [ownK, List.take_succ_eq_append_getElem h, List.foldl_append, List.foldl_cons, List.foldl_nil]
def ownT (c : Cfg) (t : Int) : Int := ownK c t c.wins.length
def ownersL (c : Cfg) : List Int := (List.range c.ticks.toNat).map (fun j : Nat => ownT c j)
theorem cfg_ticks {c : Cfg} (h : cfgOk c = true) : 1 ≤ c.ticks ∧ c.ticks ≤ 10000 := by
  simp only [cfgOk, headOk, Bool.and_eq_true, decide_eq_true_eq] at h; omega
theorem cfg_win {c : Cfg} (h : cfgOk c = true) {i : Nat} (hi : i < c.wins.length) : 0 ≤ c.wins[i].start ∧ 1 ≤ c.wins[i].len ∧ c.wins[i].start + c.wins[i].len ≤ c.ticks ∧ ownB c c.wins[i].part = true ∧ endOf c i ≤ c.wins[i].start := by
  simp only [cfgOk, winsOk, Bool.and_eq_true, decide_eq_true_eq] at h
  have h1 := h.1.2.1.2
  rw [List.all_eq_true] at h1
  have h2 := h1 i (List.mem_range.2 hi)
  rw [winOk_at hi] at h2
  simp only [rangeB, Bool.and_eq_true, decide_eq_true_eq] at h2
  obtain ⟨⟨h3, ⟨⟨⟨h4, h5⟩, h6⟩, h7⟩⟩, h8⟩ := h2
  exact ⟨h4, h5, by omega, h3, h8⟩
theorem cfg_nwins {c : Cfg} (h : cfgOk c = true) : c.wins.length ≤ 32 := by
  simp only [cfgOk, winsOk, Bool.and_eq_true, decide_eq_true_eq] at h; exact h.1.2.1.1
variable {P : Program} {b : Nat → Addr} (hP : Codes P)
include hP
theorem g40 (c : Cfg) (hc : c.Ok) (hok : cfgOk c = true) : Ans (zG b) P 40 [.agg c.enc] (.c (.sl 1 ((ownersL c).map intE))) := by
  have ht := cfg_ticks hok
  have hnw := cfg_nwins hok
  obtain ⟨T, hT⟩ : ∃ T : Nat, c.ticks = T := ⟨c.ticks.toNat, by omega⟩
  have hT1 : 1 ≤ T := by omega
  have hT2 : T ≤ 10000 := by omega
  have hTn : c.ticks.toNat = T := by omega
  have q1 : (0 : Int) ≤ (T : Int) := by omega
  have q2 : (T : Int) ≤ 4294967296 := by omega
  have q3 : (T : Int) ≤ (T : Int) := by omega
  have q4 : ((T : Nat) : Int).toNat = T := by simp
  refine good_z hP rfl rfl ?_
  simp -implicitDefEqProofs only [go_sem, kbase, Nat.reduceBEq, Nat.reduceLT, Nat.reduceAdd, Nat.reduceEqDiff, Nat.reduceLeDiff, reduceIte, Int.reduceEq, Int.reduceLT, Int.reduceLE, Int.reduceToNat, Int.reduceAdd, r40, Cfg.enc, hT, q1, q2, q3, q4]
  refine gc_intro rfl ?_
  simp -implicitDefEqProofs only [go_sem, kbase, Nat.reduceBEq, Nat.reduceLT, Nat.reduceAdd, Nat.reduceEqDiff, Nat.reduceLeDiff, reduceIte, Int.reduceEq, Int.reduceLT, Int.reduceLE, Int.reduceToNat, Int.reduceAdd, r40, Cfg.enc, hT, q1, q2, q3, q4]
  refine loop_heap ((0 : Nat), List.replicate T (0 : Int)) (fun x => T - x.1) (fun x => x.1 ≤ T ∧ x.2.length = T ∧ Hid (∀ j < x.1, x.2[j]? = some (ownT c j))) (fun x s => sset s 4 (.c (iC (x.1 : Nat)))) (fun x => [⟨true, 0, 6, [[iC (T : Nat), .sl 7 (c.parts.map PlanS.enc), .sl 1 (c.homes.map intE), .sl 3 (c.wins.map Win.enc), .sl 4 (c.links.map Lnk.enc), iC c.tries]]⟩, ⟨false, T, 1, x.2.map intE⟩]) rfl (by simp [intE]) ⟨by simp, by simp, by intro j hj; exact absurd hj (Nat.not_lt_zero j)⟩ ?_
  rintro ⟨t, f⟩ ⟨hi, hf, ho⟩
  simp only at hi hf ho
  simp -implicitDefEqProofs only [go_sem, kbase, Nat.reduceBEq, Nat.reduceLT, Nat.reduceAdd, Nat.reduceEqDiff, Nat.reduceLeDiff, reduceIte, Int.reduceEq, Int.reduceLT, Int.reduceLE, Int.reduceToNat, Int.reduceAdd]
  refine cond_intro (fun h => ?_) (fun h => ?_)
  · have hlt : t < T := by simpa using h
    have hltf : t < f.length := by omega
    have hrow := row_at (e := intE) hltf
    have hw := wrap_succ (n := t) (by omega)
    have v1 : (t : Int) < (T : Int) := by omega
    repeat' first | simp -implicitDefEqProofs only [go_sem, kbase, Nat.reduceBEq, Nat.reduceLT, Nat.reduceAdd, Nat.reduceEqDiff, Nat.reduceLeDiff, reduceIte, Int.reduceEq, Int.reduceLT, Int.reduceLE, Int.reduceToNat, Int.reduceAdd, *, hrow, intE, Int.natCast_nonneg] | (with_reducible refine guard_intro (fun _ => ?_) (fun _ => ?_)) | (with_reducible refine cond_intro (fun _ => ?_) (fun _ => ?_)) | ((with_reducible apply gc_intro); exact rfl) | (with_reducible refine guardD_intro (fun _ => ?_) (fun _ => ?_))
    refine loop_heap ((0 : Nat), f.set t (-2)) (fun x => c.wins.length - x.1) (fun x => x.1 ≤ c.wins.length ∧ x.2.length = T ∧ Hid (∀ j < t, x.2[j]? = some (ownT c j)) ∧ Hid (x.2[t]? = some (ownK c t x.1))) (fun x s => sset s 5 (.c (iC (x.1 : Nat)))) (fun x => [⟨true, 0, 6, [[iC (T : Nat), .sl 7 (c.parts.map PlanS.enc), .sl 1 (c.homes.map intE), .sl 3 (c.wins.map Win.enc), .sl 4 (c.links.map Lnk.enc), iC c.tries]]⟩, ⟨false, T, 1, x.2.map intE⟩]) ?_ ?_ ⟨by simp, by simp [hf], ?_, ?_⟩ ?_
    · rfl
    · simp [List.map_set, intE]
    · intro j hj
      simp only
      rw [List.getElem?_set_ne (by omega)]; exact ho j hj
    · show _ = _
      simp [hltf, ownK]
    · rintro ⟨k, g⟩ ⟨ki, kf, ko, kt⟩
      simp only at ki kf ko kt
      simp -implicitDefEqProofs only [go_sem, kbase, Nat.reduceBEq, Nat.reduceLT, Nat.reduceAdd, Nat.reduceEqDiff, Nat.reduceLeDiff, reduceIte, Int.reduceEq, Int.reduceLT, Int.reduceLE, Int.reduceToNat, Int.reduceAdd]
      refine cond_intro (fun h2 => ?_) (fun h2 => ?_)
      · have hlt2 : k < c.wins.length := by simpa using h2
        have hltg : t < g.length := by omega
        have hrow2 := row_at (e := Win.enc) hlt2
        have hrow3 := row_at (e := intE) hltg
        have hw2 := wrap_succ (n := k) (by omega)
        obtain ⟨c1, c2, c3, c4, c5⟩ := cfg_win hok hlt2
        have hw3 : IntKind.wrap .i64 (c.wins[k].start + c.wins[k].len) = c.wins[k].start + c.wins[k].len := wrap2 (by omega) (by omega)
        clear c1 c2 c3 c4 c5 hrow
        repeat' first | simp -implicitDefEqProofs only [go_sem, kbase, Nat.reduceBEq, Nat.reduceLT, Nat.reduceAdd, Nat.reduceEqDiff, Nat.reduceLeDiff, reduceIte, Int.reduceEq, Int.reduceLT, Int.reduceLE, Int.reduceToNat, Int.reduceAdd, *, hrow3, Win.enc, intE, Int.natCast_nonneg] | (with_reducible refine guard_intro (fun _ => ?_) (fun _ => ?_)) | (with_reducible refine cond_intro (fun _ => ?_) (fun _ => ?_)) | ((with_reducible apply gc_intro); exact rfl) | (with_reducible refine guardD_intro (fun _ => ?_) (fun _ => ?_))
        · rename_i d1 d2
          refine ⟨(k + 1, g.set t c.wins[k].part), by simp only; omega, ⟨by simp only; omega, by simp [kf], ?_, ?_⟩, ?_⟩
          · intro j hj
            simp only
            rw [List.getElem?_set_ne (by omega)]; exact ko j hj
          · show _ = _
            simp only [decide_eq_true_eq] at d1 d2
            simp [hltg, ownK_succ hlt2, d1, d2]
          · simp [List.map_set, intE, sset]
        · rename_i d1 d2
          refine ⟨(k + 1, g), by simp only; omega, ⟨by simp only; omega, kf, ko, ?_⟩, rfl⟩
          show _ = _
          simp only [decide_eq_false_iff_not] at d2
          simp only [ownK_succ hlt2, d2, and_false, if_false]
          exact kt
        · rename_i d1
          refine ⟨(k + 1, g), by simp only; omega, ⟨by simp only; omega, kf, ko, ?_⟩, rfl⟩
          show _ = _
          simp only [decide_eq_false_iff_not] at d1
          simp only [ownK_succ hlt2, d1, false_and, if_false]
          exact kt
      · have hge : c.wins.length ≤ k := by simpa using h2
        have hke : k = c.wins.length := by omega
        repeat' first | simp -implicitDefEqProofs only [go_sem, kbase, Nat.reduceBEq, Nat.reduceLT, Nat.reduceAdd, Nat.reduceEqDiff, Nat.reduceLeDiff, reduceIte, Int.reduceEq, Int.reduceLT, Int.reduceLE, Int.reduceToNat, Int.reduceAdd, *] | (with_reducible refine guard_intro (fun _ => ?_) (fun _ => ?_)) | (with_reducible refine cond_intro (fun _ => ?_) (fun _ => ?_)) | ((with_reducible apply gc_intro); exact rfl) | (with_reducible refine guardD_intro (fun _ => ?_) (fun _ => ?_))
        refine ⟨(t + 1, g), by simp only; omega, ⟨by simp only; omega, kf, ?_⟩, rfl⟩
        intro j hj
        simp only
        by_cases hjt : j = t
        · subst hjt; rw [show g[j]? = _ from kt, hke]; rfl
        · exact ko j (by simp only at hj; omega)
  · have hge : T ≤ t := by simpa using h
    have hfe : f = ownersL c := by
      apply List.ext_getElem?
      intro j
      by_cases hj : j < T
      · rw [ho j (by omega)]
        simp [ownersL, hTn, hj]
      · rw [List.getElem?_eq_none (by omega), List.getElem?_eq_none (by simp [ownersL, hTn]; omega)]
    subst hfe
    have hfl : T ≤ (ownersL c).length := by omega
    have htk : ((ownersL c).map intE).take T = (ownersL c).map intE := List.take_of_length_le (by simp; omega)
    clear hge hf
    repeat' first | simp -implicitDefEqProofs only [go_sem, kbase, Nat.reduceBEq, Nat.reduceLT, Nat.reduceAdd, Nat.reduceEqDiff, Nat.reduceLeDiff, reduceIte, Int.reduceEq, Int.reduceLT, Int.reduceLE, Int.reduceToNat, Int.reduceAdd, *] | (with_reducible refine guard_intro (fun _ => ?_) (fun _ => ?_)) | (with_reducible refine cond_intro (fun _ => ?_) (fun _ => ?_)) | ((with_reducible apply gc_intro); exact rfl) | (with_reducible refine guardD_intro (fun _ => ?_) (fun _ => ?_))
    all_goals try rfl
end Go.LH.Z
