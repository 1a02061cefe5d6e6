/- Link: the program's Waiting. -/
import Derived.Test.YtieoifkedeeehaaDoorKSort2
import Derived.Test.YtieoifkedeeehaaDoorKA
namespace Go.LH.K
open Go Go.LH Go.Proofs
set_option linter.unusedSimpArgs false
set_option linter.unusedVariables false
set_option maxRecDepth 10000
set_option maxHeartbeats 4000000
/-- The places seen are of letters under way, none twice. -/
structure Seen (s : Sg) (a : List Nat) : Prop where
  nd : a.Nodup
  live : ∀ j ∈ a, ∃ x : LS, s[j]? = some x ∧ x.spent = false
theorem Seen.len {s : Sg} {a : List Nat} (h : Seen s a) : a.length ≤ s.length := by
  have hs : a ⊆ List.range s.length := fun j hj => by
    obtain ⟨x, hx, _⟩ := h.live j hj
    have := (List.getElem?_eq_some_iff.1 hx).1
    simpa using this
  have := h.nd.length_le_of_subset hs
  simpa using this
def bsE (a : List Nat) : List Cv := a.map fun b => .sl b []
theorem seen_iff {b : Nat} {a : List Nat} : seenB b (bsE a) = a.contains b := seenB_iff
theorem bsE_app {a : List Nat} {j : Nat} : bsE a ++ [.sl j []] = bsE (a ++ [j]) := by simp [bsE]
theorem bsE_last {a : List Nat} {j : Nat} : (bsE (a ++ [j])).getLast? = some (.sl j []) := by simp [bsE]
def itE (n : Nat) (a : List Nat) : Entry := ⟨false, 0, 0, [[.sl n []], bsE a]⟩
theorem iterAt_3 {n : Nat} {a : List Nat} {x y z : Entry} {r : List Entry} : iterAt (x :: y :: z :: ⟨false, 0, 0, [[.sl n []], bsE a]⟩ :: r) 3 0 = some (n, bsE a) := by simp [iterAt]
theorem h_wait (hP : Codes Tryd.prog) {b : Nat → Addr} {s : Sg} {t : Int} (hl : s.length < 1000000000) : AnsH (zG b) Tryd.prog 9 [.c (.np 0 0 0 0), .c (iC t)] (LHp s) (.c (.rs 2 (waitS s t).length 0 (waitS s t).length)) (LHp s ++ [intsE (waitS s t)]) := by
  refine good_h hP rfl rfl ?_
  simp -implicitDefEqProofs only [go_sem, kbase, Nat.reduceBEq, Nat.reduceLT, Nat.reduceAdd, Nat.reduceEqDiff, Nat.reduceLeDiff, reduceIte, Int.reduceEq, Int.reduceLT, Int.reduceLE, Int.reduceToNat, Int.reduceAdd, r9, LHp]
  repeat' first | simp -implicitDefEqProofs only [go_sem, kbase, Nat.reduceBEq, Nat.reduceLT, Nat.reduceAdd, Nat.reduceEqDiff, Nat.reduceLeDiff, reduceIte, Int.reduceEq, Int.reduceLT, Int.reduceLE, Int.reduceToNat, Int.reduceAdd, *] | (with_reducible refine guard_intro (fun _ => ?_) (fun _ => ?_)) | (with_reducible refine cond_intro (fun _ => ?_) (fun _ => ?_)) | ((with_reducible apply gc_intro); exact rfl) | ((with_reducible apply endE_intro); exact rfl; exact rfl) | (with_reducible refine guardD_intro (fun _ => ?_) (fun _ => ?_))
  refine loop_heap [] (fun a => s.length - a.length) (fun a => Seen s a) (fun a sl => sset sl 5 (.c (.rs 2 (accW s t a).length 0 (accW s t a).length))) (fun a => LHp s ++ [intsE (accW s t a), itE s.length a]) rfl rfl ⟨by simp, by simp⟩ ?_
  intro a ha
  have hal := ha.len
  simp -implicitDefEqProofs only [go_sem, kbase, Nat.reduceBEq, Nat.reduceLT, Nat.reduceAdd, Nat.reduceEqDiff, Nat.reduceLeDiff, reduceIte, Int.reduceEq, Int.reduceLT, Int.reduceLE, Int.reduceToNat, Int.reduceAdd, LHp, itE]
  refine next_intro (c := s.length) (es := esOf s) (seen := bsE a) mapAt_1 iterAt_3 ?_ ?_
  · intro i g k cs bn v hi hsn hpk
    obtain ⟨x, hx, hxs, rfl, rfl, rfl⟩ := es_at hi
    simp only [beq_self_eq_true, packS, if_true, Option.some.injEq] at hpk
    subst hpk
    rw [seen_iff] at hsn
    have hnm : bn ∉ a := by simpa using hsn
    have hbn := (List.getElem?_eq_some_iff.1 hx).1
    have ha' : Seen s (a ++ [bn]) := ⟨List.nodup_append.2 ⟨ha.nd, by simp, fun p hp q hq => by simp at hq; subst hq; rintro rfl; exact hnm hp⟩, fun j hj => by
      rcases List.mem_append.1 hj with hj | hj
      · exact ha.live j hj
      · simp at hj; subst hj; exact ⟨x, hx, hxs⟩⟩
    have hal' := ha'.len
    simp only [List.length_append, List.length_cons, List.length_nil] at hal'
    have hme := mAtB_es hx hxs
    have hln := accW_len s t a
    have hm : (accW s t a).length + 1 ≤ most := by unfold most; omega
    have hwd := wdI_or (accW s t a)
    rw [bsE_app]
    have hlast := bsE_last (a := a) (j := bn)
    cases h1 : (x.to == t) with
    | false =>
      have hst := accW_none (a := a) hx h1
      clear hi hsn ha
      repeat' first | simp -implicitDefEqProofs only [go_sem, kbase, Nat.reduceBEq, Nat.reduceLT, Nat.reduceAdd, Nat.reduceEqDiff, Nat.reduceLeDiff, reduceIte, Int.reduceEq, Int.reduceLT, Int.reduceLE, Int.reduceToNat, Int.reduceAdd, *, iterAt_3, mapAt_1, lrow] | (with_reducible refine guard_intro (fun _ => ?_) (fun _ => ?_)) | (with_reducible refine cond_intro (fun _ => ?_) (fun _ => ?_)) | ((with_reducible apply gc_intro); exact rfl) | ((with_reducible apply endE_intro); exact rfl; exact rfl) | (with_reducible refine guardD_intro (fun _ => ?_) (fun _ => ?_))
      all_goals (refine ⟨a ++ [bn], by simp; omega, ha', ?_⟩; simp [hst])
    | true =>
      have hst := accW_some (a := a) hx h1
      clear hi hsn ha
      repeat' first | simp -implicitDefEqProofs only [go_sem, kbase, Nat.reduceBEq, Nat.reduceLT, Nat.reduceAdd, Nat.reduceEqDiff, Nat.reduceLeDiff, reduceIte, Int.reduceEq, Int.reduceLT, Int.reduceLE, Int.reduceToNat, Int.reduceAdd, *, iterAt_3, mapAt_1, lrow, intsE] | (with_reducible refine guard_intro (fun _ => ?_) (fun _ => ?_)) | (with_reducible refine cond_intro (fun _ => ?_) (fun _ => ?_)) | ((with_reducible apply gc_intro); exact rfl) | ((with_reducible apply endE_intro); exact rfl; exact rfl) | (with_reducible refine guardD_intro (fun _ => ?_) (fun _ => ?_))
      all_goals (refine ⟨a ++ [bn], by simp; omega, ha', ?_⟩; simp [hst, wdI_app, intE])
  · intro hall
    have hp : (accW s t a).Perm (waitS s t) := accW_perm ha.nd ha.live fun j x hj hx => by
      obtain ⟨p, hp⟩ := es_in hj hx
      have := hall p 1 _ _ j hp
      rw [seen_iff] at this
      simpa using this
    have hs := sorted_wait hp
    by_cases hne : accW s t a = []
    · have hw : waitS s t = [] := by rw [hne] at hp; exact hp.symm.eq_nil
      have hc := sort_nil (G := zG b) hP
      rw [hne, hw]
      repeat' first | simp -implicitDefEqProofs only [go_sem, kbase, Nat.reduceBEq, Nat.reduceLT, Nat.reduceAdd, Nat.reduceEqDiff, Nat.reduceLeDiff, reduceIte, Int.reduceEq, Int.reduceLT, Int.reduceLE, Int.reduceToNat, Int.reduceAdd, *] | (with_reducible refine guard_intro (fun _ => ?_) (fun _ => ?_)) | (with_reducible refine cond_intro (fun _ => ?_) (fun _ => ?_)) | ((with_reducible apply gc_intro); exact rfl) | ((with_reducible apply endE_intro); exact rfl; exact rfl) | (with_reducible refine guardD_intro (fun _ => ?_) (fun _ => ?_)) | ((with_reducible apply call_h (hg := hc)); exact rfl)
      all_goals first | exact rfl | exact ⟨rfl, rfl⟩ | (simp []; done)
    · have hc := sort_ne (G := zG b) (accW s t a) hne (by have := accW_len s t a; omega)
      have hlen : (accW s t a).length = (waitS s t).length := hp.length_eq
      rw [hs, hlen] at hc
      repeat' first | simp -implicitDefEqProofs only [go_sem, kbase, Nat.reduceBEq, Nat.reduceLT, Nat.reduceAdd, Nat.reduceEqDiff, Nat.reduceLeDiff, reduceIte, Int.reduceEq, Int.reduceLT, Int.reduceLE, Int.reduceToNat, Int.reduceAdd, *] | (with_reducible refine guard_intro (fun _ => ?_) (fun _ => ?_)) | (with_reducible refine cond_intro (fun _ => ?_) (fun _ => ?_)) | ((with_reducible apply gc_intro); exact rfl) | ((with_reducible apply endE_intro); exact rfl; exact rfl) | (with_reducible refine guardD_intro (fun _ => ?_) (fun _ => ?_)) | ((with_reducible apply call_h (hg := hc)); exact rfl)
      all_goals first | exact rfl | exact ⟨rfl, rfl⟩ | (simp []; done)
end Go.LH.K
