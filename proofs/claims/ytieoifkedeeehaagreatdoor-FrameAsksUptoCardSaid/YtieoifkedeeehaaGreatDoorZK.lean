/- FrameAsks: Boots and Windows. -/
import Derived.Test.YtieoifkedeeehaaGreatDoorZJ
import Derived.Test.YtieoifkedeeehaaGreatDoorLhWalkD
namespace Go.LH.Z
open Go Go.LH
set_option linter.unusedSimpArgs false
set_option linter.unusedVariables false
set_option maxRecDepth 10000
set_option maxHeartbeats 4000000
/-- A list of rows, empty in any way. -/
inductive SlP (wd : Nat) (rows : List (List Cv)) : Cv → Prop
  | sl : SlP wd rows (.sl wd rows)
  | s0 (h : rows = []) : SlP wd rows (.sl 0 [])
  | nl (h : rows = []) : SlP wd rows (.val (.slice none 0 0))
theorem SlP.of {wd w : Nat} {rows : List (List Cv)} (h : w = wd ∨ w = 0 ∧ rows = []) : SlP wd rows (.sl w rows) := by
  rcases h with rfl | ⟨rfl, rfl⟩
  · exact .sl
  · exact .s0 rfl
inductive ResSl (wd : Nat) (rows : List (List Cv)) (e : Cv) : Sv → Prop
  | mk (x : Cv) (h : SlP wd rows x) : ResSl wd rows e (.tup [.c x, .c e])
def Hid (p : Prop) : Prop := p
def bootL (c : Cfg) (m : Int) (i : Nat) : List Int := ((List.range i).filter (fun j : Nat => c.homes[j]? == some m)).map (fun j : Nat => (j : Int))
theorem bootL_succ {c : Cfg} {m : Int} {i : Nat} (h : i < c.homes.length) : bootL c m (i + 1) = bootL c m i ++ (if c.homes[i] == m then [(i : Int)] else []) := by
  simp only [bootL, List.range_succ, List.filter_append, List.map_append]
  congr 1
  simp only [List.filter_cons, List.filter_nil, List.getElem?_eq_getElem h]
  by_cases hm : c.homes[i] = m <;> simp [hm]
theorem bootL_len (c : Cfg) (m : Int) (i : Nat) : (bootL c m i).length ≤ i := by
  simp only [bootL, List.length_map]
  have := List.length_filter_le (fun j : Nat => c.homes[j]? == some m) (List.range i)
  simpa using this
def winL (c : Cfg) (m : Int) (i : Nat) : List Win := (c.wins.take i).filter (fun w => w.part == m)
theorem winL_succ {c : Cfg} {m : Int} {i : Nat} (h : i < c.wins.length) : winL c m (i + 1) = winL c m i ++ (if c.wins[i].part == m then [c.wins[i]] else []) := by
  simp only [winL, List.take_succ_eq_append_getElem h, List.filter_append, List.filter_cons, List.filter_nil]
theorem winL_len (c : Cfg) (m : Int) (i : Nat) : (winL c m i).length ≤ i := by
  simp only [winL]
  have := List.length_filter_le (fun w : Win => w.part == m) (c.wins.take i)
  simp at this; omega
def bootsOf (c : Cfg) (m : Int) : List Int := if cfgOk c then if m = 0 ∨ m = 1 then bootL c m c.homes.length else [] else []
/-- How it ends: 0, 8, 12 or 17. -/
def bootsE (c : Cfg) (m : Int) : Int := if cfgOk c then if m = 0 ∨ m = 1 then 0 else 12 else 8
def winsOf (c : Cfg) (m : Int) : List Win := if cfgOk c then if ownB c m then winL c m c.wins.length else [] else []
def ownE (c : Cfg) (m : Int) : Int := if cfgOk c then if ownB c m then 0 else 12 else 8
/-- The program's error for a code. -/
def errV (b : Nat → Addr) (k : Int) : Value := if k = 0 then .nilIface else if k = 8 then sent b 0 else if k = 12 then sent b 1 else sent b 2
variable {P : Program} {b : Nat → Addr} (hP : Codes P)
include hP
theorem g24 (c : Cfg) (hc : c.Ok) (m : Int) : GoodV (zG b) P 24 [.agg c.enc, .c (iC m)] (ResSl 1 ((bootsOf c m).map intE) (iC (bootsE c m))) := by
  refine good_z hP rfl rfl ?_
  cases hok : cfgOk c with
  | true =>
    by_cases hm : m = 0 ∨ m = 1
    · have e1 : bootsE c m = 0 := by simp [bootsE, hok, hm]
      have e2 : bootsOf c m = bootL c m c.homes.length := by simp [bootsOf, hok, hm]
      rw [e1, e2]
      clear e1 e2
      simp -implicitDefEqProofs only [go_sem, kbase, Nat.reduceBEq, Nat.reduceLT, Nat.reduceAdd, Nat.reduceEqDiff, Nat.reduceLeDiff, reduceIte, Int.reduceEq, Int.reduceLT, Int.reduceLE, Int.reduceToNat, Int.reduceAdd, r24, Cfg.enc]
      repeat' first | simp -implicitDefEqProofs only [go_sem, kbase, Nat.reduceBEq, Nat.reduceLT, Nat.reduceAdd, Nat.reduceEqDiff, Nat.reduceLeDiff, reduceIte, Int.reduceEq, Int.reduceLT, Int.reduceLE, Int.reduceToNat, Int.reduceAdd, *] | (with_reducible refine guard_intro (fun _ => ?_) (fun _ => ?_)) | (with_reducible refine cond_intro (fun _ => ?_) (fun _ => ?_)) | ((with_reducible apply gc_intro); exact rfl) | (with_reducible refine guardD_intro (fun _ => ?_) (fun _ => ?_)) | ((with_reducible apply call_eq (g17 hP c hc)); exact rfl; exact rfl) | ((with_reducible apply call_fzeq (g17 hP c hc)); exact rfl)
      all_goals try (exfalso; grind [ownB])
      all_goals refine loop_heap ((0 : Nat), (0 : Nat), (0 : Nat), ([] : List (List Cv))) (fun x => c.homes.length - x.1) (fun x => x.1 ≤ c.homes.length ∧ x.2.2.2.length = x.2.1 ∧ (x.2.2.1 = 1 ∨ x.2.2.1 = 0 ∧ x.2.2.2 = []) ∧ Hid (x.2.2.2 = (bootL c m x.1).map intE)) (fun x s => sset (sset s 6 (.c (.rs 1 x.2.1 0 x.2.1))) 7 (.c (iC (x.1 : Nat)))) (fun x => [⟨true, 0, 6, [c.enc]⟩, ⟨false, x.2.1, x.2.2.1, x.2.2.2⟩]) rfl rfl ⟨by simp, by simp, by simp, by simp [Hid, bootL, winL]⟩ ?_
      all_goals rintro ⟨i, n, w, rows⟩ ⟨hi, hn, hwd, hr⟩
      all_goals simp only at hi hn hwd hr
      all_goals simp -implicitDefEqProofs only [go_sem, kbase, Nat.reduceBEq, Nat.reduceLT, Nat.reduceAdd, Nat.reduceEqDiff, Nat.reduceLeDiff, reduceIte, Int.reduceEq, Int.reduceLT, Int.reduceLE, Int.reduceToNat, Int.reduceAdd, Cfg.enc]
      all_goals (
        refine cond_intro (fun h => ?_) (fun h => ?_)
        · have hlt : i < c.homes.length := by simpa using h
          have hrow := row_at (e := intE) hlt
          have hw := wrap_succ (n := i) (by have := hc.nhomes; omega)
          have hnl : n ≤ i := by rw [← hn, show rows = _ from hr]; simp only [List.length_map]; exact bootL_len c m i
          have hmost : n + 1 ≤ most := by have := hc.nhomes; simp only [most]; omega
          repeat' first | simp -implicitDefEqProofs only [go_sem, kbase, Nat.reduceBEq, Nat.reduceLT, Nat.reduceAdd, Nat.reduceEqDiff, Nat.reduceLeDiff, reduceIte, Int.reduceEq, Int.reduceLT, Int.reduceLE, Int.reduceToNat, Int.reduceAdd, *, Cfg.enc, intE, Int.natCast_nonneg] | (with_reducible refine guard_intro (fun _ => ?_) (fun _ => ?_)) | (with_reducible refine cond_intro (fun _ => ?_) (fun _ => ?_)) | ((with_reducible apply gc_intro); exact rfl) | (with_reducible refine guardD_intro (fun _ => ?_) (fun _ => ?_))
          · refine ⟨(i + 1, n + 1, 1, rows ++ [[iC (i : Nat)]]), by simp only; omega, ⟨by simp only; omega, by simp [hn], by simp, ?_⟩, rfl⟩
            show _ = _
            rw [bootL_succ hlt, show rows = _ from hr]; simp_all [intE]
          · refine ⟨(i + 1, n, w, rows), by simp only; omega, ⟨by simp only; omega, hn, hwd, ?_⟩, rfl⟩
            show _ = _
            rw [bootL_succ hlt, show rows = _ from hr]; simp_all [intE]
        · have hge : c.homes.length ≤ i := by simpa using h
          have hie : i = c.homes.length := by omega
          have hz : 0 + n ≤ rows.length := by omega
          have htk : rows.take n = rows := List.take_of_length_le (by omega)
          repeat' first | simp -implicitDefEqProofs only [go_sem, kbase, Nat.reduceBEq, Nat.reduceLT, Nat.reduceAdd, Nat.reduceEqDiff, Nat.reduceLeDiff, reduceIte, Int.reduceEq, Int.reduceLT, Int.reduceLE, Int.reduceToNat, Int.reduceAdd, *] | (with_reducible refine guard_intro (fun _ => ?_) (fun _ => ?_)) | (with_reducible refine cond_intro (fun _ => ?_) (fun _ => ?_)) | ((with_reducible apply gc_intro); exact rfl) | (with_reducible refine guardD_intro (fun _ => ?_) (fun _ => ?_))
          have hr2 : rows = (bootL c m c.homes.length).map intE := by rw [show rows = _ from hr, hie]
          rw [← hr2]
          exact ResSl.mk _ (SlP.of hwd))
    · have e1 : bootsE c m = 12 := by simp [bootsE, hok, hm]
      have e2 : bootsOf c m = [] := by simp [bootsOf, hok, hm]
      rw [e1, e2]
      clear e1 e2
      simp -implicitDefEqProofs only [go_sem, kbase, Nat.reduceBEq, Nat.reduceLT, Nat.reduceAdd, Nat.reduceEqDiff, Nat.reduceLeDiff, reduceIte, Int.reduceEq, Int.reduceLT, Int.reduceLE, Int.reduceToNat, Int.reduceAdd, r24, Cfg.enc]
      repeat' first | simp -implicitDefEqProofs only [go_sem, kbase, Nat.reduceBEq, Nat.reduceLT, Nat.reduceAdd, Nat.reduceEqDiff, Nat.reduceLeDiff, reduceIte, Int.reduceEq, Int.reduceLT, Int.reduceLE, Int.reduceToNat, Int.reduceAdd, *] | (with_reducible refine guard_intro (fun _ => ?_) (fun _ => ?_)) | (with_reducible refine cond_intro (fun _ => ?_) (fun _ => ?_)) | ((with_reducible apply gc_intro); exact rfl) | (with_reducible refine guardD_intro (fun _ => ?_) (fun _ => ?_)) | ((with_reducible apply call_eq (g17 hP c hc)); exact rfl; exact rfl) | ((with_reducible apply call_fzeq (g17 hP c hc)); exact rfl)
      all_goals first | (exfalso; grind [ownB]; done) | exact ResSl.mk _ (SlP.nl rfl)
  | false =>
    have e1 : bootsE c m = 8 := by simp [bootsE, hok]
    have e2 : bootsOf c m = [] := by simp [bootsOf, hok]
    rw [e1, e2]
    clear e1 e2
    simp -implicitDefEqProofs only [go_sem, kbase, Nat.reduceBEq, Nat.reduceLT, Nat.reduceAdd, Nat.reduceEqDiff, Nat.reduceLeDiff, reduceIte, Int.reduceEq, Int.reduceLT, Int.reduceLE, Int.reduceToNat, Int.reduceAdd, r24, Cfg.enc]
    repeat' first | simp -implicitDefEqProofs only [go_sem, kbase, Nat.reduceBEq, Nat.reduceLT, Nat.reduceAdd, Nat.reduceEqDiff, Nat.reduceLeDiff, reduceIte, Int.reduceEq, Int.reduceLT, Int.reduceLE, Int.reduceToNat, Int.reduceAdd, *] | (with_reducible refine guard_intro (fun _ => ?_) (fun _ => ?_)) | (with_reducible refine cond_intro (fun _ => ?_) (fun _ => ?_)) | ((with_reducible apply gc_intro); exact rfl) | (with_reducible refine guardD_intro (fun _ => ?_) (fun _ => ?_)) | ((with_reducible apply call_eq (g17 hP c hc)); exact rfl; exact rfl) | ((with_reducible apply call_fzeq (g17 hP c hc)); exact rfl)
    all_goals exact ResSl.mk _ (SlP.nl rfl)
theorem g25 (c : Cfg) (hc : c.Ok) (m : Int) : GoodV (zG b) P 25 [.agg c.enc, .c (iC m)] (ResSl 1 ((bootsOf c m).map intE) (.val (errV b (bootsE c m)))) := by
  refine good_z hP rfl rfl ?_
  cases hok : cfgOk c with
  | true =>
    by_cases hm : m = 0 ∨ m = 1
    · have e1 : bootsE c m = 0 := by simp [bootsE, hok, hm]
      have e2 : bootsOf c m = bootL c m c.homes.length := by simp [bootsOf, hok, hm]
      rw [e1, e2]
      clear e1 e2
      simp -implicitDefEqProofs only [go_sem, kbase, Nat.reduceBEq, Nat.reduceLT, Nat.reduceAdd, Nat.reduceEqDiff, Nat.reduceLeDiff, reduceIte, Int.reduceEq, Int.reduceLT, Int.reduceLE, Int.reduceToNat, Int.reduceAdd, r25, Cfg.enc]
      repeat' first | simp -implicitDefEqProofs only [go_sem, kbase, Nat.reduceBEq, Nat.reduceLT, Nat.reduceAdd, Nat.reduceEqDiff, Nat.reduceLeDiff, reduceIte, Int.reduceEq, Int.reduceLT, Int.reduceLE, Int.reduceToNat, Int.reduceAdd, *] | (with_reducible refine guard_intro (fun _ => ?_) (fun _ => ?_)) | (with_reducible refine cond_intro (fun _ => ?_) (fun _ => ?_)) | ((with_reducible apply gc_intro); exact rfl) | (with_reducible refine guardD_intro (fun _ => ?_) (fun _ => ?_)) | ((with_reducible apply call_eq (g12g hP c hc hok)); exact rfl; exact rfl) | ((with_reducible apply call_fzeq (g12g hP c hc hok)); exact rfl)
      all_goals try (exfalso; grind [ownB])
      all_goals refine loop_heap ((0 : Nat), (0 : Nat), (0 : Nat), ([] : List (List Cv))) (fun x => c.homes.length - x.1) (fun x => x.1 ≤ c.homes.length ∧ x.2.2.2.length = x.2.1 ∧ (x.2.2.1 = 1 ∨ x.2.2.1 = 0 ∧ x.2.2.2 = []) ∧ Hid (x.2.2.2 = (bootL c m x.1).map intE)) (fun x s => sset (sset s 6 (.c (.rs 0 x.2.1 0 x.2.1))) 23 (.c (iC (x.1 : Nat)))) (fun x => [⟨false, x.2.1, x.2.2.1, x.2.2.2⟩]) rfl rfl ⟨by simp, by simp, by simp, by simp [Hid, bootL, winL]⟩ ?_
      all_goals rintro ⟨i, n, w, rows⟩ ⟨hi, hn, hwd, hr⟩
      all_goals simp only at hi hn hwd hr
      all_goals simp -implicitDefEqProofs only [go_sem, kbase, Nat.reduceBEq, Nat.reduceLT, Nat.reduceAdd, Nat.reduceEqDiff, Nat.reduceLeDiff, reduceIte, Int.reduceEq, Int.reduceLT, Int.reduceLE, Int.reduceToNat, Int.reduceAdd, Cfg.enc]
      all_goals (
        refine cond_intro (fun h => ?_) (fun h => ?_)
        · have hlt : i < c.homes.length := by simpa using h
          have hrow := row_at (e := intE) hlt
          have hw := wrap_succ (n := i) (by have := hc.nhomes; omega)
          have hnl : n ≤ i := by rw [← hn, show rows = _ from hr]; simp only [List.length_map]; exact bootL_len c m i
          have hmost : n + 1 ≤ most := by have := hc.nhomes; simp only [most]; omega
          repeat' first | simp -implicitDefEqProofs only [go_sem, kbase, Nat.reduceBEq, Nat.reduceLT, Nat.reduceAdd, Nat.reduceEqDiff, Nat.reduceLeDiff, reduceIte, Int.reduceEq, Int.reduceLT, Int.reduceLE, Int.reduceToNat, Int.reduceAdd, *, Cfg.enc, intE, Int.natCast_nonneg] | (with_reducible refine guard_intro (fun _ => ?_) (fun _ => ?_)) | (with_reducible refine cond_intro (fun _ => ?_) (fun _ => ?_)) | ((with_reducible apply gc_intro); exact rfl) | (with_reducible refine guardD_intro (fun _ => ?_) (fun _ => ?_))
          · refine ⟨(i + 1, n + 1, 1, rows ++ [[iC (i : Nat)]]), by simp only; omega, ⟨by simp only; omega, by simp [hn], by simp, ?_⟩, rfl⟩
            show _ = _
            rw [bootL_succ hlt, show rows = _ from hr]; simp_all [intE]
          · refine ⟨(i + 1, n, w, rows), by simp only; omega, ⟨by simp only; omega, hn, hwd, ?_⟩, rfl⟩
            show _ = _
            rw [bootL_succ hlt, show rows = _ from hr]; simp_all [intE]
        · have hge : c.homes.length ≤ i := by simpa using h
          have hie : i = c.homes.length := by omega
          have hz : 0 + n ≤ rows.length := by omega
          have htk : rows.take n = rows := List.take_of_length_le (by omega)
          repeat' first | simp -implicitDefEqProofs only [go_sem, kbase, Nat.reduceBEq, Nat.reduceLT, Nat.reduceAdd, Nat.reduceEqDiff, Nat.reduceLeDiff, reduceIte, Int.reduceEq, Int.reduceLT, Int.reduceLE, Int.reduceToNat, Int.reduceAdd, *] | (with_reducible refine guard_intro (fun _ => ?_) (fun _ => ?_)) | (with_reducible refine cond_intro (fun _ => ?_) (fun _ => ?_)) | ((with_reducible apply gc_intro); exact rfl) | (with_reducible refine guardD_intro (fun _ => ?_) (fun _ => ?_))
          have hr2 : rows = (bootL c m c.homes.length).map intE := by rw [show rows = _ from hr, hie]
          rw [← hr2]
          exact ResSl.mk _ (SlP.of hwd))
    · have e1 : bootsE c m = 12 := by simp [bootsE, hok, hm]
      have e2 : bootsOf c m = [] := by simp [bootsOf, hok, hm]
      rw [e1, e2]
      clear e1 e2
      simp -implicitDefEqProofs only [go_sem, kbase, Nat.reduceBEq, Nat.reduceLT, Nat.reduceAdd, Nat.reduceEqDiff, Nat.reduceLeDiff, reduceIte, Int.reduceEq, Int.reduceLT, Int.reduceLE, Int.reduceToNat, Int.reduceAdd, r25, Cfg.enc]
      repeat' first | simp -implicitDefEqProofs only [go_sem, kbase, Nat.reduceBEq, Nat.reduceLT, Nat.reduceAdd, Nat.reduceEqDiff, Nat.reduceLeDiff, reduceIte, Int.reduceEq, Int.reduceLT, Int.reduceLE, Int.reduceToNat, Int.reduceAdd, *] | (with_reducible refine guard_intro (fun _ => ?_) (fun _ => ?_)) | (with_reducible refine cond_intro (fun _ => ?_) (fun _ => ?_)) | ((with_reducible apply gc_intro); exact rfl) | (with_reducible refine guardD_intro (fun _ => ?_) (fun _ => ?_)) | ((with_reducible apply call_eq (g12g hP c hc hok)); exact rfl; exact rfl) | ((with_reducible apply call_fzeq (g12g hP c hc hok)); exact rfl)
      all_goals first | (exfalso; grind [ownB]; done) | exact ResSl.mk _ (SlP.nl rfl)
  | false =>
    have e1 : bootsE c m = 8 := by simp [bootsE, hok]
    have e2 : bootsOf c m = [] := by simp [bootsOf, hok]
    rw [e1, e2]
    clear e1 e2
    simp -implicitDefEqProofs only [go_sem, kbase, Nat.reduceBEq, Nat.reduceLT, Nat.reduceAdd, Nat.reduceEqDiff, Nat.reduceLeDiff, reduceIte, Int.reduceEq, Int.reduceLT, Int.reduceLE, Int.reduceToNat, Int.reduceAdd, r25, Cfg.enc]
    repeat' first | simp -implicitDefEqProofs only [go_sem, kbase, Nat.reduceBEq, Nat.reduceLT, Nat.reduceAdd, Nat.reduceEqDiff, Nat.reduceLeDiff, reduceIte, Int.reduceEq, Int.reduceLT, Int.reduceLE, Int.reduceToNat, Int.reduceAdd, *] | (with_reducible refine guard_intro (fun _ => ?_) (fun _ => ?_)) | (with_reducible refine cond_intro (fun _ => ?_) (fun _ => ?_)) | ((with_reducible apply gc_intro); exact rfl) | (with_reducible refine guardD_intro (fun _ => ?_) (fun _ => ?_)) | ((with_reducible apply call_fz (hg := g12b hP c hc hok)); exact rfl; rintro _ hv; cases hv)
    all_goals exact ResSl.mk _ (SlP.nl rfl)
theorem g21 (c : Cfg) (hc : c.Ok) (m : Int) : GoodV (zG b) P 21 [.agg c.enc, .c (iC m)] (ResSl 3 ((winsOf c m).map Win.enc) (iC (ownE c m))) := by
  refine good_z hP rfl rfl ?_
  cases hok : cfgOk c with
  | true =>
    by_cases hm : ownB c m = true
    · have e1 : ownE c m = 0 := by simp [ownE, hok, hm]
      have e2 : winsOf c m = winL c m c.wins.length := by simp [winsOf, hok, hm]
      rw [e1, e2]
      clear e1 e2
      simp -implicitDefEqProofs only [go_sem, kbase, Nat.reduceBEq, Nat.reduceLT, Nat.reduceAdd, Nat.reduceEqDiff, Nat.reduceLeDiff, reduceIte, Int.reduceEq, Int.reduceLT, Int.reduceLE, Int.reduceToNat, Int.reduceAdd, r21, Cfg.enc]
      repeat' first | simp -implicitDefEqProofs only [go_sem, kbase, Nat.reduceBEq, Nat.reduceLT, Nat.reduceAdd, Nat.reduceEqDiff, Nat.reduceLeDiff, reduceIte, Int.reduceEq, Int.reduceLT, Int.reduceLE, Int.reduceToNat, Int.reduceAdd, *] | (with_reducible refine guard_intro (fun _ => ?_) (fun _ => ?_)) | (with_reducible refine cond_intro (fun _ => ?_) (fun _ => ?_)) | ((with_reducible apply gc_intro); exact rfl) | (with_reducible refine guardD_intro (fun _ => ?_) (fun _ => ?_)) | ((with_reducible apply call_eq (g17 hP c hc)); exact rfl; exact rfl) | ((with_reducible apply call_fzeq (g17 hP c hc)); exact rfl) | ((with_reducible apply call_eq (g41 hP c _)); exact rfl; exact rfl) | ((with_reducible apply call_fzeq (g41 hP c _)); exact rfl)
      all_goals try (exfalso; grind [ownB])
      all_goals refine loop_heap ((0 : Nat), (0 : Nat), (0 : Nat), ([] : List (List Cv))) (fun x => c.wins.length - x.1) (fun x => x.1 ≤ c.wins.length ∧ x.2.2.2.length = x.2.1 ∧ (x.2.2.1 = 3 ∨ x.2.2.1 = 0 ∧ x.2.2.2 = []) ∧ Hid (x.2.2.2 = (winL c m x.1).map Win.enc)) (fun x s => sset (sset s 6 (.c (.rs 1 x.2.1 0 x.2.1))) 7 (.c (iC (x.1 : Nat)))) (fun x => [⟨true, 0, 6, [c.enc]⟩, ⟨false, x.2.1, x.2.2.1, x.2.2.2⟩]) rfl rfl ⟨by simp, by simp, by simp, by simp [Hid, bootL, winL]⟩ ?_
      all_goals rintro ⟨i, n, w, rows⟩ ⟨hi, hn, hwd, hr⟩
      all_goals simp only at hi hn hwd hr
      all_goals simp -implicitDefEqProofs only [go_sem, kbase, Nat.reduceBEq, Nat.reduceLT, Nat.reduceAdd, Nat.reduceEqDiff, Nat.reduceLeDiff, reduceIte, Int.reduceEq, Int.reduceLT, Int.reduceLE, Int.reduceToNat, Int.reduceAdd, Cfg.enc]
      all_goals (
        refine cond_intro (fun h => ?_) (fun h => ?_)
        · have hlt : i < c.wins.length := by simpa using h
          have hrow := row_at (e := Win.enc) hlt
          have hw := wrap_succ (n := i) (by have := hc.nwins; omega)
          have hnl : n ≤ i := by rw [← hn, show rows = _ from hr]; simp only [List.length_map]; exact winL_len c m i
          have hmost : n + 1 ≤ most := by have := hc.nwins; simp only [most]; omega
          repeat' first | simp -implicitDefEqProofs only [go_sem, kbase, Nat.reduceBEq, Nat.reduceLT, Nat.reduceAdd, Nat.reduceEqDiff, Nat.reduceLeDiff, reduceIte, Int.reduceEq, Int.reduceLT, Int.reduceLE, Int.reduceToNat, Int.reduceAdd, *, Cfg.enc, Win.enc, Int.natCast_nonneg] | (with_reducible refine guard_intro (fun _ => ?_) (fun _ => ?_)) | (with_reducible refine cond_intro (fun _ => ?_) (fun _ => ?_)) | ((with_reducible apply gc_intro); exact rfl) | (with_reducible refine guardD_intro (fun _ => ?_) (fun _ => ?_))
          · refine ⟨(i + 1, n + 1, 3, rows ++ [c.wins[i].enc]), by simp only; omega, ⟨by simp only; omega, by simp [hn], by simp, ?_⟩, rfl⟩
            show _ = _
            rw [winL_succ hlt, show rows = _ from hr]; simp_all [Win.enc]
          · refine ⟨(i + 1, n, w, rows), by simp only; omega, ⟨by simp only; omega, hn, hwd, ?_⟩, rfl⟩
            show _ = _
            rw [winL_succ hlt, show rows = _ from hr]; simp_all [Win.enc]
        · have hge : c.wins.length ≤ i := by simpa using h
          have hie : i = c.wins.length := by omega
          have hz : 0 + n ≤ rows.length := by omega
          have htk : rows.take n = rows := List.take_of_length_le (by omega)
          repeat' first | simp -implicitDefEqProofs only [go_sem, kbase, Nat.reduceBEq, Nat.reduceLT, Nat.reduceAdd, Nat.reduceEqDiff, Nat.reduceLeDiff, reduceIte, Int.reduceEq, Int.reduceLT, Int.reduceLE, Int.reduceToNat, Int.reduceAdd, *] | (with_reducible refine guard_intro (fun _ => ?_) (fun _ => ?_)) | (with_reducible refine cond_intro (fun _ => ?_) (fun _ => ?_)) | ((with_reducible apply gc_intro); exact rfl) | (with_reducible refine guardD_intro (fun _ => ?_) (fun _ => ?_))
          have hr2 : rows = (winL c m c.wins.length).map Win.enc := by rw [show rows = _ from hr, hie]
          rw [← hr2]
          exact ResSl.mk _ (SlP.of hwd))
    · have e1 : ownE c m = 12 := by simp [ownE, hok, hm]
      have e2 : winsOf c m = [] := by simp [winsOf, hok, hm]
      rw [e1, e2]
      clear e1 e2
      simp -implicitDefEqProofs only [go_sem, kbase, Nat.reduceBEq, Nat.reduceLT, Nat.reduceAdd, Nat.reduceEqDiff, Nat.reduceLeDiff, reduceIte, Int.reduceEq, Int.reduceLT, Int.reduceLE, Int.reduceToNat, Int.reduceAdd, r21, Cfg.enc]
      repeat' first | simp -implicitDefEqProofs only [go_sem, kbase, Nat.reduceBEq, Nat.reduceLT, Nat.reduceAdd, Nat.reduceEqDiff, Nat.reduceLeDiff, reduceIte, Int.reduceEq, Int.reduceLT, Int.reduceLE, Int.reduceToNat, Int.reduceAdd, *] | (with_reducible refine guard_intro (fun _ => ?_) (fun _ => ?_)) | (with_reducible refine cond_intro (fun _ => ?_) (fun _ => ?_)) | ((with_reducible apply gc_intro); exact rfl) | (with_reducible refine guardD_intro (fun _ => ?_) (fun _ => ?_)) | ((with_reducible apply call_eq (g17 hP c hc)); exact rfl; exact rfl) | ((with_reducible apply call_fzeq (g17 hP c hc)); exact rfl) | ((with_reducible apply call_eq (g41 hP c _)); exact rfl; exact rfl) | ((with_reducible apply call_fzeq (g41 hP c _)); exact rfl)
      all_goals first | (exfalso; grind [ownB]; done) | exact ResSl.mk _ (SlP.nl rfl)
  | false =>
    have e1 : ownE c m = 8 := by simp [ownE, hok]
    have e2 : winsOf c m = [] := by simp [winsOf, hok]
    rw [e1, e2]
    clear e1 e2
    simp -implicitDefEqProofs only [go_sem, kbase, Nat.reduceBEq, Nat.reduceLT, Nat.reduceAdd, Nat.reduceEqDiff, Nat.reduceLeDiff, reduceIte, Int.reduceEq, Int.reduceLT, Int.reduceLE, Int.reduceToNat, Int.reduceAdd, r21, Cfg.enc]
    repeat' first | simp -implicitDefEqProofs only [go_sem, kbase, Nat.reduceBEq, Nat.reduceLT, Nat.reduceAdd, Nat.reduceEqDiff, Nat.reduceLeDiff, reduceIte, Int.reduceEq, Int.reduceLT, Int.reduceLE, Int.reduceToNat, Int.reduceAdd, *] | (with_reducible refine guard_intro (fun _ => ?_) (fun _ => ?_)) | (with_reducible refine cond_intro (fun _ => ?_) (fun _ => ?_)) | ((with_reducible apply gc_intro); exact rfl) | (with_reducible refine guardD_intro (fun _ => ?_) (fun _ => ?_)) | ((with_reducible apply call_eq (g17 hP c hc)); exact rfl; exact rfl) | ((with_reducible apply call_fzeq (g17 hP c hc)); exact rfl) | ((with_reducible apply call_eq (g41 hP c _)); exact rfl; exact rfl) | ((with_reducible apply call_fzeq (g41 hP c _)); exact rfl)
    all_goals exact ResSl.mk _ (SlP.nl rfl)
theorem g22 (c : Cfg) (hc : c.Ok) (m : Int) : GoodV (zG b) P 22 [.agg c.enc, .c (iC m)] (ResSl 3 ((winsOf c m).map Win.enc) (.val (errV b (ownE c m)))) := by
  refine good_z hP rfl rfl ?_
  cases hok : cfgOk c with
  | true =>
    by_cases hm : ownB c m = true
    · have e1 : ownE c m = 0 := by simp [ownE, hok, hm]
      have e2 : winsOf c m = winL c m c.wins.length := by simp [winsOf, hok, hm]
      rw [e1, e2]
      clear e1 e2
      simp -implicitDefEqProofs only [go_sem, kbase, Nat.reduceBEq, Nat.reduceLT, Nat.reduceAdd, Nat.reduceEqDiff, Nat.reduceLeDiff, reduceIte, Int.reduceEq, Int.reduceLT, Int.reduceLE, Int.reduceToNat, Int.reduceAdd, r22, Cfg.enc]
      repeat' first | simp -implicitDefEqProofs only [go_sem, kbase, Nat.reduceBEq, Nat.reduceLT, Nat.reduceAdd, Nat.reduceEqDiff, Nat.reduceLeDiff, reduceIte, Int.reduceEq, Int.reduceLT, Int.reduceLE, Int.reduceToNat, Int.reduceAdd, *] | (with_reducible refine guard_intro (fun _ => ?_) (fun _ => ?_)) | (with_reducible refine cond_intro (fun _ => ?_) (fun _ => ?_)) | ((with_reducible apply gc_intro); exact rfl) | (with_reducible refine guardD_intro (fun _ => ?_) (fun _ => ?_)) | ((with_reducible apply call_eq (g12g hP c hc hok)); exact rfl; exact rfl) | ((with_reducible apply call_fzeq (g12g hP c hc hok)); exact rfl) | ((with_reducible apply call_eq (g42 hP c _)); exact rfl; exact rfl) | ((with_reducible apply call_fzeq (g42 hP c _)); exact rfl)
      all_goals try (exfalso; grind [ownB])
      all_goals refine loop_heap ((0 : Nat), (0 : Nat), (0 : Nat), ([] : List (List Cv))) (fun x => c.wins.length - x.1) (fun x => x.1 ≤ c.wins.length ∧ x.2.2.2.length = x.2.1 ∧ (x.2.2.1 = 3 ∨ x.2.2.1 = 0 ∧ x.2.2.2 = []) ∧ Hid (x.2.2.2 = (winL c m x.1).map Win.enc)) (fun x s => sset (sset s 6 (.c (.rs 0 x.2.1 0 x.2.1))) 21 (.c (iC (x.1 : Nat)))) (fun x => [⟨false, x.2.1, x.2.2.1, x.2.2.2⟩]) rfl rfl ⟨by simp, by simp, by simp, by simp [Hid, bootL, winL]⟩ ?_
      all_goals rintro ⟨i, n, w, rows⟩ ⟨hi, hn, hwd, hr⟩
      all_goals simp only at hi hn hwd hr
      all_goals simp -implicitDefEqProofs only [go_sem, kbase, Nat.reduceBEq, Nat.reduceLT, Nat.reduceAdd, Nat.reduceEqDiff, Nat.reduceLeDiff, reduceIte, Int.reduceEq, Int.reduceLT, Int.reduceLE, Int.reduceToNat, Int.reduceAdd, Cfg.enc]
      all_goals (
        refine cond_intro (fun h => ?_) (fun h => ?_)
        · have hlt : i < c.wins.length := by simpa using h
          have hrow := row_at (e := Win.enc) hlt
          have hw := wrap_succ (n := i) (by have := hc.nwins; omega)
          have hnl : n ≤ i := by rw [← hn, show rows = _ from hr]; simp only [List.length_map]; exact winL_len c m i
          have hmost : n + 1 ≤ most := by have := hc.nwins; simp only [most]; omega
          repeat' first | simp -implicitDefEqProofs only [go_sem, kbase, Nat.reduceBEq, Nat.reduceLT, Nat.reduceAdd, Nat.reduceEqDiff, Nat.reduceLeDiff, reduceIte, Int.reduceEq, Int.reduceLT, Int.reduceLE, Int.reduceToNat, Int.reduceAdd, *, Cfg.enc, Win.enc, Int.natCast_nonneg] | (with_reducible refine guard_intro (fun _ => ?_) (fun _ => ?_)) | (with_reducible refine cond_intro (fun _ => ?_) (fun _ => ?_)) | ((with_reducible apply gc_intro); exact rfl) | (with_reducible refine guardD_intro (fun _ => ?_) (fun _ => ?_))
          · refine ⟨(i + 1, n + 1, 3, rows ++ [c.wins[i].enc]), by simp only; omega, ⟨by simp only; omega, by simp [hn], by simp, ?_⟩, rfl⟩
            show _ = _
            rw [winL_succ hlt, show rows = _ from hr]; simp_all [Win.enc]
          · refine ⟨(i + 1, n, w, rows), by simp only; omega, ⟨by simp only; omega, hn, hwd, ?_⟩, rfl⟩
            show _ = _
            rw [winL_succ hlt, show rows = _ from hr]; simp_all [Win.enc]
        · have hge : c.wins.length ≤ i := by simpa using h
          have hie : i = c.wins.length := by omega
          have hz : 0 + n ≤ rows.length := by omega
          have htk : rows.take n = rows := List.take_of_length_le (by omega)
          repeat' first | simp -implicitDefEqProofs only [go_sem, kbase, Nat.reduceBEq, Nat.reduceLT, Nat.reduceAdd, Nat.reduceEqDiff, Nat.reduceLeDiff, reduceIte, Int.reduceEq, Int.reduceLT, Int.reduceLE, Int.reduceToNat, Int.reduceAdd, *] | (with_reducible refine guard_intro (fun _ => ?_) (fun _ => ?_)) | (with_reducible refine cond_intro (fun _ => ?_) (fun _ => ?_)) | ((with_reducible apply gc_intro); exact rfl) | (with_reducible refine guardD_intro (fun _ => ?_) (fun _ => ?_))
          have hr2 : rows = (winL c m c.wins.length).map Win.enc := by rw [show rows = _ from hr, hie]
          rw [← hr2]
          exact ResSl.mk _ (SlP.of hwd))
    · have e1 : ownE c m = 12 := by simp [ownE, hok, hm]
      have e2 : winsOf c m = [] := by simp [winsOf, hok, hm]
      rw [e1, e2]
      clear e1 e2
      simp -implicitDefEqProofs only [go_sem, kbase, Nat.reduceBEq, Nat.reduceLT, Nat.reduceAdd, Nat.reduceEqDiff, Nat.reduceLeDiff, reduceIte, Int.reduceEq, Int.reduceLT, Int.reduceLE, Int.reduceToNat, Int.reduceAdd, r22, Cfg.enc]
      repeat' first | simp -implicitDefEqProofs only [go_sem, kbase, Nat.reduceBEq, Nat.reduceLT, Nat.reduceAdd, Nat.reduceEqDiff, Nat.reduceLeDiff, reduceIte, Int.reduceEq, Int.reduceLT, Int.reduceLE, Int.reduceToNat, Int.reduceAdd, *] | (with_reducible refine guard_intro (fun _ => ?_) (fun _ => ?_)) | (with_reducible refine cond_intro (fun _ => ?_) (fun _ => ?_)) | ((with_reducible apply gc_intro); exact rfl) | (with_reducible refine guardD_intro (fun _ => ?_) (fun _ => ?_)) | ((with_reducible apply call_eq (g12g hP c hc hok)); exact rfl; exact rfl) | ((with_reducible apply call_fzeq (g12g hP c hc hok)); exact rfl) | ((with_reducible apply call_eq (g42 hP c _)); exact rfl; exact rfl) | ((with_reducible apply call_fzeq (g42 hP c _)); exact rfl)
      all_goals first | (exfalso; grind [ownB]; done) | exact ResSl.mk _ (SlP.nl rfl)
  | false =>
    have e1 : ownE c m = 8 := by simp [ownE, hok]
    have e2 : winsOf c m = [] := by simp [winsOf, hok]
    rw [e1, e2]
    clear e1 e2
    simp -implicitDefEqProofs only [go_sem, kbase, Nat.reduceBEq, Nat.reduceLT, Nat.reduceAdd, Nat.reduceEqDiff, Nat.reduceLeDiff, reduceIte, Int.reduceEq, Int.reduceLT, Int.reduceLE, Int.reduceToNat, Int.reduceAdd, r22, Cfg.enc]
    repeat' first | simp -implicitDefEqProofs only [go_sem, kbase, Nat.reduceBEq, Nat.reduceLT, Nat.reduceAdd, Nat.reduceEqDiff, Nat.reduceLeDiff, reduceIte, Int.reduceEq, Int.reduceLT, Int.reduceLE, Int.reduceToNat, Int.reduceAdd, *] | (with_reducible refine guard_intro (fun _ => ?_) (fun _ => ?_)) | (with_reducible refine cond_intro (fun _ => ?_) (fun _ => ?_)) | ((with_reducible apply gc_intro); exact rfl) | (with_reducible refine guardD_intro (fun _ => ?_) (fun _ => ?_)) | ((with_reducible apply call_fz (hg := g12b hP c hc hok)); exact rfl; rintro _ hv; cases hv) | ((with_reducible apply call_eq (g42 hP c _)); exact rfl; exact rfl) | ((with_reducible apply call_fzeq (g42 hP c _)); exact rfl)
    all_goals exact ResSl.mk _ (SlP.nl rfl)
end Go.LH.Z
