/- Link: LinkAnswers. -/
import Derived.Test.YtieoifkedeeehaaDoorKFx
namespace Go.LH.K
open Go Go.LH Go.Proofs
set_option linter.unusedSimpArgs false
set_option linter.unusedVariables false
set_option maxRecDepth 10000
set_option maxHeartbeats 4000000
structure OpV where
  k : Int
  sec : Bool
  n : Int
  x : Int
  y : Int
  m : Nat
  t : ByteArray
  deriving Inhabited
structure OpB (o : OpV) : Prop where
  n : i64 o.n
  x : i64 o.x
  y : i64 o.y
  m : o.m < 4294967296
def rowO (o : OpV) : List Cv := [iC o.k, bC o.sec, iC o.n, iC o.x, iC o.y, uC o.m, sC o.t]
def playS (s : Sg) (o : OpV) : Sg := if o.k = 1 then (sendS s o.x o.y o.t).2.2 else if o.k = 3 then (takeS s o.n).2.2 else if o.k = 4 then (takeS s o.n).2.2 else if o.k = 5 then (copyS s o.n).2.2 else if o.k = 6 then (trimS s o.n o.x).2 else if o.k = 7 then (flipS s o.n o.x o.m).2 else if o.k = 9 then flushS s o.n else s
theorem ok_set {s : Sg} {i : Nat} {y : LS} (h : Ok s) (hy : y.by_.size ≤ 4096) : Ok (s.set i y) := by
  intro z hz
  rcases List.mem_or_eq_of_mem_set hz with h1 | h1
  · exact h z h1
  · rw [h1]; exact hy
theorem ok_app {s : Sg} {y : LS} (h : Ok s) (hy : y.by_.size ≤ 4096) : Ok (s ++ [y]) := by
  intro z hz
  rcases List.mem_append.1 hz with h1 | h1
  · exact h z h1
  · simp at h1; rw [h1]; exact hy
theorem play_ok {s : Sg} {o : OpV} (h : Ok s) : Ok (playS s o) ∧ (playS s o).length ≤ s.length + 1 := by
  unfold playS
  split
  · unfold sendS
    split
    · exact ⟨h, by simp⟩
    · split
      · exact ⟨h, by simp⟩
      · exact ⟨ok_app h (by simp only [mk]; omega), by simp⟩
  have htk : Ok (takeS s o.n).2.2 ∧ (takeS s o.n).2.2.length ≤ s.length + 1 := by
    unfold takeS
    split
    · exact ⟨h, by simp⟩
    · rename_i x hx
      exact ⟨ok_set h (h x (findS_mem hx)), by simp⟩
  split
  · exact htk
  split
  · exact htk
  split
  · unfold copyS
    split
    · exact ⟨h, by simp⟩
    · rename_i x hx
      exact ⟨ok_app h (h x (findS_mem hx)), by simp⟩
  split
  · unfold trimS
    split
    · exact ⟨h, by simp⟩
    · rename_i x hx
      split
      · exact ⟨h, by simp⟩
      · refine ⟨ok_set h ?_, by simp⟩
        have := h x (findS_mem hx)
        simp only [cutS, ByteArray.size_extract]
        omega
  split
  · unfold flipS
    split
    · exact ⟨h, by simp⟩
    · rename_i x hx
      split
      · exact ⟨h, by simp⟩
      · split
        · exact ⟨h, by simp⟩
        · rename_i q hq
          refine ⟨ok_set h ?_, by simp⟩
          have := h x (findS_mem hx)
          have hq2 : q.length = x.by_.data.toList.length := by
            unfold turnL at hq
            split at hq
            · cases hq
            · rw [← Option.some.inj hq, turnN_len]
          show q.length ≤ 4096
          rw [hq2]
          exact this
  split
  · unfold flushS
    refine ⟨?_, by simp⟩
    intro z hz
    obtain ⟨w, hw, rfl⟩ := List.mem_map.1 hz
    split
    · exact h w hw
    · exact h w hw
  · exact ⟨h, by omega⟩
theorem h_plays (hP : Codes Tryd.prog) {b : Nat → Addr} (hI : ErrI Tryd.prog b) {s : Sg} {o : OpV} (hl : s.length < 100000000) (hk : Ok s) (ho : OpB o) : AnsH (zG b) Tryd.prog 7 [.c (.np 0 0 0 0), .c (.np 1 0 0 0), .agg (rowO o)] (PHp s) (.c (bC true)) (PHp (playS s o)) := by
  obtain ⟨k, sec, n, x, y, m, t⟩ := o
  obtain ⟨b1, b2, b3, b4⟩ := ho
  unfold playS
  simp only at *
  by_cases c1 : k = 1
  · subst c1; rw [if_pos rfl]; exact p_1 hP hI hl b2 b3
  rw [if_neg c1]
  by_cases c3 : k = 3
  · subst c3; rw [if_pos rfl]; exact p_3 hP hI b1
  rw [if_neg c3]
  by_cases c4 : k = 4
  · subst c4; rw [if_pos rfl]; exact p_4 hP hI b1
  rw [if_neg c4]
  by_cases c5 : k = 5
  · subst c5; rw [if_pos rfl]; exact p_5 hP hI hl b1
  rw [if_neg c5]
  by_cases c6 : k = 6
  · subst c6; rw [if_pos rfl]; exact p_6 hP hI hk b1 b2
  rw [if_neg c6]
  by_cases c7 : k = 7
  · subst c7; rw [if_pos rfl]; exact p_7 hP hI hk b1 b2 b4
  rw [if_neg c7]
  by_cases c9 : k = 9
  · subst c9; rw [if_pos rfl]; exact p_9 hP hl
  rw [if_neg c9]
  by_cases c2 : k = 2
  · subst c2; exact p_2 hP hI b1
  by_cases c8 : k = 8
  · subst c8; exact p_8 hP hl
  exact p_0 (k := k) hP (by omega)
/-- Both pairs of links in memory. -/
def MH (a c : Sg) : List Entry := [⟨true, 0, 2, [[.mp 4 0, iC a.length]]⟩, ⟨true, 0, 2, [[.mp 5 0, iC c.length]]⟩, ⟨true, 0, 1, [[.rs 6 a.length 0 a.length]]⟩, ⟨true, 0, 1, [[.rs 7 c.length 0 c.length]]⟩, mapE 0 a.length (esOf a), mapE 0 c.length (esOf c), ⟨false, a.length, wdR a, a.map rrow⟩, ⟨false, c.length, wdR c, c.map rrow⟩]
def stepP (p : Sg × Sg) (o : OpV) : Sg × Sg := if o.sec = true then (p.1, playS p.2 o) else (playS p.1 o, p.2)
def runP (l : List OpV) (i : Nat) : Sg × Sg := (l.take i).foldl stepP ([], [])
theorem run_step {l : List OpV} {i : Nat} {o : OpV} (h : l[i]? = some o) : runP l (i + 1) = stepP (runP l i) o := by
  unfold runP
  rw [List.take_add_one, h]
  simp
theorem run_ok (l : List OpV) : ∀ i, Ok (runP l i).1 ∧ Ok (runP l i).2 ∧ (runP l i).1.length ≤ i ∧ (runP l i).2.length ≤ i
  | 0 => ⟨by intro x hx; simp [runP] at hx, by intro x hx; simp [runP] at hx, by simp [runP], by simp [runP]⟩
  | i + 1 => by
    obtain ⟨h1, h2, h3, h4⟩ := run_ok l i
    cases h : l[i]? with
    | none =>
      have e : runP l (i + 1) = runP l i := by
        unfold runP; rw [List.take_add_one, h]; simp
      rw [e]
      exact ⟨h1, h2, by omega, by omega⟩
    | some o =>
      rw [run_step h]
      unfold stepP
      split
      · obtain ⟨g1, g2⟩ := play_ok (o := o) h2
        exact ⟨h1, g1, by simp only; omega, by simp only; omega⟩
      · obtain ⟨g1, g2⟩ := play_ok (o := o) h1
        exact ⟨g1, h2, by simp only; omega, by simp only; omega⟩
theorem z64 : i64 0 := by unfold i64; omega
theorem z_link (hP : Codes Tryd.prog) {b : Nat → Addr} (hI : ErrI Tryd.prog b) {l : List OpV} (hl : l.length < 1000000000000) (ho : ∀ o ∈ l, OpB o) : Ans (zG b) Tryd.prog 3 [.c (.sl 7 (l.map rowO))] (.c (bC true)) := by
  have hf := z_fixed hP hI
  by_cases c1 : (2000 : Int) < l.length
  · refine good_z hP rfl rfl ?_
    simp -implicitDefEqProofs only [go_sem, kbase, Nat.reduceBEq, Nat.reduceLT, Nat.reduceAdd, Nat.reduceEqDiff, Nat.reduceLeDiff, reduceIte, Int.reduceEq, Int.reduceLT, Int.reduceLE, Int.reduceToNat, Int.reduceAdd, r3]
    repeat' first | simp -implicitDefEqProofs only [go_sem, kbase, Nat.reduceBEq, Nat.reduceLT, Nat.reduceAdd, Nat.reduceEqDiff, Nat.reduceLeDiff, reduceIte, Int.reduceEq, Int.reduceLT, Int.reduceLE, Int.reduceToNat, Int.reduceAdd, *] | (with_reducible refine guard_intro (fun _ => ?_) (fun _ => ?_)) | (with_reducible refine cond_intro (fun _ => ?_) (fun _ => ?_)) | ((with_reducible apply gc_intro); exact rfl) | ((with_reducible apply endE_intro); exact rfl; exact rfl) | (with_reducible refine guardD_intro (fun _ => ?_) (fun _ => ?_)) | ((with_reducible apply call_eq (hf)); exact rfl; exact rfl) | ((with_reducible apply call_fzeq (hf)); exact rfl)
    all_goals first | exact rfl | exact ⟨rfl, rfl⟩ | (simp []; done)
  have hn := h_new (b := b) hP
  simp only [LHp, esOf, esF, List.length_nil] at hn
  refine good_z hP rfl rfl ?_
  simp -implicitDefEqProofs only [go_sem, kbase, Nat.reduceBEq, Nat.reduceLT, Nat.reduceAdd, Nat.reduceEqDiff, Nat.reduceLeDiff, reduceIte, Int.reduceEq, Int.reduceLT, Int.reduceLE, Int.reduceToNat, Int.reduceAdd, r3]
  repeat' first | simp -implicitDefEqProofs only [go_sem, kbase, Nat.reduceBEq, Nat.reduceLT, Nat.reduceAdd, Nat.reduceEqDiff, Nat.reduceLeDiff, reduceIte, Int.reduceEq, Int.reduceLT, Int.reduceLE, Int.reduceToNat, Int.reduceAdd, *, nilOf] | (with_reducible refine guard_intro (fun _ => ?_) (fun _ => ?_)) | (with_reducible refine cond_intro (fun _ => ?_) (fun _ => ?_)) | ((with_reducible apply gc_intro); exact rfl) | ((with_reducible apply endE_intro); exact rfl; exact rfl) | (with_reducible refine guardD_intro (fun _ => ?_) (fun _ => ?_)) | ((with_reducible apply call_eq (hf)); exact rfl; exact rfl) | ((with_reducible apply call_fzeq (hf)); exact rfl) | ((with_reducible apply call_h (hg := hn)); exact rfl)
  have he0 : IntKind.wrap .i64 (l.length : Int) = l.length := wrap_nat (by omega)
  refine loop_heap 0 (fun i => l.length - i) (fun i => i ≤ l.length) (fun i sl => sset sl 7 (.c (iC (i : Nat)))) (fun i => MH (runP l i).1 (runP l i).2) rfl rfl (by simp) ?_
  intro i hi
  obtain ⟨k1, k2, k3, k4⟩ := run_ok l i
  simp -implicitDefEqProofs only [go_sem, kbase, Nat.reduceBEq, Nat.reduceLT, Nat.reduceAdd, Nat.reduceEqDiff, Nat.reduceLeDiff, reduceIte, Int.reduceEq, Int.reduceLT, Int.reduceLE, Int.reduceToNat, Int.reduceAdd, MH]
  refine cond_intro (fun h => ?_) (fun h => ?_)
  · have hlt : i < l.length := by simpa using h
    have hlt2 : ((i : Nat) : Int) < ((l.length : Nat) : Int) := by omega
    obtain ⟨o, hx⟩ : ∃ o, l[i]? = some o := ⟨l[i], List.getElem?_eq_getElem hlt⟩
    have hob := ho o (List.mem_of_getElem? hx)
    have hr : (l.map rowO)[i]? = some [iC o.k, bC o.sec, iC o.n, iC o.x, iC o.y, uC o.m, sC o.t] := by rw [List.getElem?_map, hx]; rfl
    have hw := wrap_succ (n := i) (by omega)
    have hst := run_step hx
    unfold stepP at hst
    cases hs : o.sec with
    | true =>
      have hp := h_plays hP (b := b) hI (s := (runP l i).2) (o := o) (by omega) k2 hob
      rw [hs, if_pos rfl] at hst
      rw [hs] at hr
      simp only [rowO, hs] at hp
      have g1 : (runP l (i + 1)).1 = (runP l i).1 := by rw [hst]
      have g2 : (runP l (i + 1)).2 = playS (runP l i).2 o := by rw [hst]
      clear hst hx hob k1 k2 h
      generalize playS (runP l i).2 o = c' at *
      generalize (runP l i).1 = a at *
      generalize (runP l i).2 = c at *
      repeat' first | simp -implicitDefEqProofs only [go_sem, kbase, Nat.reduceBEq, Nat.reduceLT, Nat.reduceAdd, Nat.reduceEqDiff, Nat.reduceLeDiff, reduceIte, Int.reduceEq, Int.reduceLT, Int.reduceLE, Int.reduceToNat, Int.reduceAdd, *, Int.natCast_nonneg, Int.toNat_natCast, PHp] | (with_reducible refine guard_intro (fun _ => ?_) (fun _ => ?_)) | (with_reducible refine cond_intro (fun _ => ?_) (fun _ => ?_)) | ((with_reducible apply gc_intro); exact rfl) | ((with_reducible apply endE_intro); exact rfl; exact rfl) | (with_reducible refine guardD_intro (fun _ => ?_) (fun _ => ?_)) | ((with_reducible apply call_h (hg := hp)); exact rfl)
      all_goals (refine ⟨i + 1, by omega, by omega, ?_⟩; simp [MH, g1, g2])
    | false =>
      have hp := h_plays hP (b := b) hI (s := (runP l i).1) (o := o) (by omega) k1 hob
      rw [hs, if_neg (by simp)] at hst
      rw [hs] at hr
      simp only [rowO, hs] at hp
      have g1 : (runP l (i + 1)).1 = playS (runP l i).1 o := by rw [hst]
      have g2 : (runP l (i + 1)).2 = (runP l i).2 := by rw [hst]
      clear hst hx hob k1 k2 h
      generalize playS (runP l i).1 o = a' at *
      generalize (runP l i).1 = a at *
      generalize (runP l i).2 = c at *
      repeat' first | simp -implicitDefEqProofs only [go_sem, kbase, Nat.reduceBEq, Nat.reduceLT, Nat.reduceAdd, Nat.reduceEqDiff, Nat.reduceLeDiff, reduceIte, Int.reduceEq, Int.reduceLT, Int.reduceLE, Int.reduceToNat, Int.reduceAdd, *, Int.natCast_nonneg, Int.toNat_natCast, PHp] | (with_reducible refine guard_intro (fun _ => ?_) (fun _ => ?_)) | (with_reducible refine cond_intro (fun _ => ?_) (fun _ => ?_)) | ((with_reducible apply gc_intro); exact rfl) | ((with_reducible apply endE_intro); exact rfl; exact rfl) | (with_reducible refine guardD_intro (fun _ => ?_) (fun _ => ?_)) | ((with_reducible apply call_h (hg := hp)); exact rfl)
      all_goals (refine ⟨i + 1, by omega, by omega, ?_⟩; simp [MH, g1, g2])
  · have hq : ∀ n, i64 n → ∀ k, k = 2 ∨ k = 8 → AnsH (zG b) Tryd.prog 7 [.c (.np 0 0 0 0), .c (.np 1 0 0 0), .agg [iC k, bC false, iC n, iC 0, iC 0, uC 0, sC ⟨⟨[]⟩⟩]] (PHp (runP l i).1) (.c (bC true)) (PHp (runP l i).1) := by
      intro n hn k hk
      have := h_plays hP (b := b) hI (s := (runP l i).1) (o := ⟨k, false, n, 0, 0, 0, ⟨⟨[]⟩⟩⟩) (by omega) k1 ⟨hn, z64, z64, by simp⟩
      rcases hk with rfl | rfl <;> exact this
    have hq2 : ∀ n, i64 n → AnsH (zG b) Tryd.prog 7 [.c (.np 0 0 0 0), .c (.np 1 0 0 0), .agg [iC 8, bC false, iC n, iC 0, iC 0, uC 0, sC ⟨⟨[]⟩⟩]] (PHp (runP l i).2) (.c (bC true)) (PHp (runP l i).2) := by
      intro n hn
      exact h_plays hP (b := b) hI (s := (runP l i).2) (o := ⟨8, false, n, 0, 0, 0, ⟨⟨[]⟩⟩⟩) (by omega) k2 ⟨hn, z64, z64, by simp⟩
    have q0 := hq2 0 (by unfold i64; omega)
    have q1 := hq2 1 (by unfold i64; omega)
    generalize (runP l i).1 = a at *
    generalize (runP l i).2 = c at *
    clear hq2 k1 k2 ho h
    have hw1 := wrap_succ (n := a.length) (by omega)
    repeat' first | simp -implicitDefEqProofs only [go_sem, kbase, Nat.reduceBEq, Nat.reduceLT, Nat.reduceAdd, Nat.reduceEqDiff, Nat.reduceLeDiff, reduceIte, Int.reduceEq, Int.reduceLT, Int.reduceLE, Int.reduceToNat, Int.reduceAdd, *] | (with_reducible refine guard_intro (fun _ => ?_) (fun _ => ?_)) | (with_reducible refine cond_intro (fun _ => ?_) (fun _ => ?_)) | ((with_reducible apply gc_intro); exact rfl) | ((with_reducible apply endE_intro); exact rfl; exact rfl) | (with_reducible refine guardD_intro (fun _ => ?_) (fun _ => ?_))
    refine loop_slots 0 (fun j => a.length + 3 - j) (fun j => j ≤ a.length + 3) (fun j sl => sset sl 9 (.c (iC ((j : Nat) - 1 : Int)))) rfl (by omega) ?_
    intro j hj
    by_cases h : (j : Int) - 1 ≤ ((a.length + 1 : Nat) : Int)
    · have r1 := hq ((j : Int) - 1) (by unfold i64; omega) 2 (.inl rfl)
      have r2 := hq ((j : Int) - 1) (by unfold i64; omega) 8 (.inr rfl)
      have hw2 : IntKind.wrap .i64 ((j : Int) - 1 + 1) = ((j + 1 : Nat) : Int) - 1 := by rw [wrap_id (by unfold i64; omega)]; omega
      clear hq q0 q1
      simp -implicitDefEqProofs only [go_sem, kbase, Nat.reduceBEq, Nat.reduceLT, Nat.reduceAdd, Nat.reduceEqDiff, Nat.reduceLeDiff, reduceIte, Int.reduceEq, Int.reduceLT, Int.reduceLE, Int.reduceToNat, Int.reduceAdd]
      repeat' first | simp -implicitDefEqProofs only [go_sem, kbase, Nat.reduceBEq, Nat.reduceLT, Nat.reduceAdd, Nat.reduceEqDiff, Nat.reduceLeDiff, reduceIte, Int.reduceEq, Int.reduceLT, Int.reduceLE, Int.reduceToNat, Int.reduceAdd, *, PHp] | (with_reducible refine guard_intro (fun _ => ?_) (fun _ => ?_)) | (with_reducible refine cond_intro (fun _ => ?_) (fun _ => ?_)) | ((with_reducible apply gc_intro); exact rfl) | ((with_reducible apply endE_intro); exact rfl; exact rfl) | (with_reducible refine guardD_intro (fun _ => ?_) (fun _ => ?_)) | ((with_reducible apply call_h (hg := r1)); exact rfl) | ((with_reducible apply call_h (hg := r2)); exact rfl)
      all_goals (refine ⟨j + 1, by omega, by omega, ?_⟩; simp)
    · clear hq
      simp -implicitDefEqProofs only [go_sem, kbase, Nat.reduceBEq, Nat.reduceLT, Nat.reduceAdd, Nat.reduceEqDiff, Nat.reduceLeDiff, reduceIte, Int.reduceEq, Int.reduceLT, Int.reduceLE, Int.reduceToNat, Int.reduceAdd]
      repeat' first | simp -implicitDefEqProofs only [go_sem, kbase, Nat.reduceBEq, Nat.reduceLT, Nat.reduceAdd, Nat.reduceEqDiff, Nat.reduceLeDiff, reduceIte, Int.reduceEq, Int.reduceLT, Int.reduceLE, Int.reduceToNat, Int.reduceAdd, *, PHp] | (with_reducible refine guard_intro (fun _ => ?_) (fun _ => ?_)) | (with_reducible refine cond_intro (fun _ => ?_) (fun _ => ?_)) | ((with_reducible apply gc_intro); exact rfl) | ((with_reducible apply endE_intro); exact rfl; exact rfl) | (with_reducible refine guardD_intro (fun _ => ?_) (fun _ => ?_)) | ((with_reducible apply call_h (hg := q0)); exact rfl) | ((with_reducible apply call_h (hg := q1)); exact rfl)
end Go.LH.K
