/- FrameAsks: asks, and the law itself but for its fixed answers. -/
import Derived.Test.YtieoifkedeeehaaGreatDoorZR
namespace Go.LH.Z
open Go Go.LH
set_option linter.unusedSimpArgs false
set_option linter.unusedVariables false
set_option maxRecDepth 10000
set_option maxHeartbeats 4000000
theorem winsOf_len (c : Cfg) (hc : c.Ok) (p : Int) : (winsOf c p).length ≤ 4294967296 := by
  have := winL_len c p c.wins.length
  have := hc.nwins
  unfold winsOf; split <;> (try split) <;> simp <;> omega
theorem bootsOf_len (c : Cfg) (hc : c.Ok) (p : Int) : (bootsOf c p).length ≤ 4294967296 := by
  have := bootL_len c p c.homes.length
  have := hc.nhomes
  unfold bootsOf; split <;> (try split) <;> simp <;> omega
variable {P : Program} {b : Nat → Addr} (hP : Codes P)
include hP
theorem g9 (hE : ErrC P b) (c : Cfg) (hc : c.Ok) (n m : Int) : Ans (zG b) P 9 [.agg c.enc, .c (iC n), .c (iC m)] (.c (bC true)) := by
  refine good_z hP rfl rfl ?_
  simp -implicitDefEqProofs only [go_sem, kbase, Nat.reduceBEq, Nat.reduceLT, Nat.reduceAdd, Nat.reduceEqDiff, Nat.reduceLeDiff, reduceIte, Int.reduceEq, Int.reduceLT, Int.reduceLE, Int.reduceToNat, Int.reduceAdd, r9, Cfg.enc]
  refine call_fz rfl (g21 hP c hc n) ?_
  rintro _ ⟨x, hx⟩
  have hxs := hx.sn
  repeat' first | simp -implicitDefEqProofs only [go_sem, kbase, Nat.reduceBEq, Nat.reduceLT, Nat.reduceAdd, Nat.reduceEqDiff, Nat.reduceLeDiff, reduceIte, Int.reduceEq, Int.reduceLT, Int.reduceLE, Int.reduceToNat, Int.reduceAdd, *] | (with_reducible refine guard_intro (fun _ => ?_) (fun _ => ?_)) | (with_reducible refine cond_intro (fun _ => ?_) (fun _ => ?_)) | ((with_reducible apply gc_intro); exact rfl) | (with_reducible refine guardD_intro (fun _ => ?_) (fun _ => ?_)) | ((with_reducible apply call_eq (g7 hP c hc)); exact rfl; exact rfl) | ((with_reducible apply call_fzeq (g7 hP c hc)); exact rfl)
  refine call_fz rfl (g22 hP c hc n) ?_
  rintro _ ⟨y, hy⟩
  have hys := hy.sn
  repeat' first | simp -implicitDefEqProofs only [go_sem, kbase, Nat.reduceBEq, Nat.reduceLT, Nat.reduceAdd, Nat.reduceEqDiff, Nat.reduceLeDiff, reduceIte, Int.reduceEq, Int.reduceLT, Int.reduceLE, Int.reduceToNat, Int.reduceAdd, *] | (with_reducible refine guard_intro (fun _ => ?_) (fun _ => ?_)) | (with_reducible refine cond_intro (fun _ => ?_) (fun _ => ?_)) | ((with_reducible apply gc_intro); exact rfl) | (with_reducible refine guardD_intro (fun _ => ?_) (fun _ => ?_)) | (((with_reducible apply call_eq (g23 hP (winsOf c n) y x hy hx (winsOf_len c hc n))); (simp only [snSL, snS, hxs, hys]); exact rfl)) | ((with_reducible apply call_eq (g8 hP hE _ (codeK_own c n))); exact rfl; exact rfl) | ((with_reducible apply call_fzeq (g8 hP hE _ (codeK_own c n))); exact rfl)
  refine call_fz rfl (g24 hP c hc n) ?_
  rintro _ ⟨x2, hx2⟩
  have hxs2 := hx2.sn
  repeat' first | simp -implicitDefEqProofs only [go_sem, kbase, Nat.reduceBEq, Nat.reduceLT, Nat.reduceAdd, Nat.reduceEqDiff, Nat.reduceLeDiff, reduceIte, Int.reduceEq, Int.reduceLT, Int.reduceLE, Int.reduceToNat, Int.reduceAdd, *] | (with_reducible refine guard_intro (fun _ => ?_) (fun _ => ?_)) | (with_reducible refine cond_intro (fun _ => ?_) (fun _ => ?_)) | ((with_reducible apply gc_intro); exact rfl) | (with_reducible refine guardD_intro (fun _ => ?_) (fun _ => ?_)) | ((with_reducible apply call_eq (g7 hP c hc)); exact rfl; exact rfl) | ((with_reducible apply call_fzeq (g7 hP c hc)); exact rfl)
  refine call_fz rfl (g25 hP c hc n) ?_
  rintro _ ⟨y2, hy2⟩
  have hys2 := hy2.sn
  repeat' first | simp -implicitDefEqProofs only [go_sem, kbase, Nat.reduceBEq, Nat.reduceLT, Nat.reduceAdd, Nat.reduceEqDiff, Nat.reduceLeDiff, reduceIte, Int.reduceEq, Int.reduceLT, Int.reduceLE, Int.reduceToNat, Int.reduceAdd, *] | (with_reducible refine guard_intro (fun _ => ?_) (fun _ => ?_)) | (with_reducible refine cond_intro (fun _ => ?_) (fun _ => ?_)) | ((with_reducible apply gc_intro); exact rfl) | (with_reducible refine guardD_intro (fun _ => ?_) (fun _ => ?_)) | (((with_reducible apply call_eq (g26 hP (bootsOf c n) y2 x2 hy2 hx2 (bootsOf_len c hc n))); (simp only [snSL, snS, hxs2, hys2]); exact rfl)) | ((with_reducible apply call_eq (g8 hP hE _ (codeK_boots c n))); exact rfl; exact rfl) | ((with_reducible apply call_fzeq (g8 hP hE _ (codeK_boots c n))); exact rfl) | ((with_reducible apply call_eq (g7 hP c hc)); exact rfl; exact rfl) | ((with_reducible apply call_fzeq (g7 hP c hc)); exact rfl) | ((with_reducible apply call_eq (g27 hP c hc m)); exact rfl; exact rfl) | ((with_reducible apply call_fzeq (g27 hP c hc m)); exact rfl) | ((with_reducible apply call_eq (g28 hP c hc m)); exact rfl; exact rfl) | ((with_reducible apply call_fzeq (g28 hP c hc m)); exact rfl) | ((with_reducible apply call_eq (g8 hP hE _ (codeK_at c m))); exact rfl; exact rfl) | ((with_reducible apply call_fzeq (g8 hP hE _ (codeK_at c m))); exact rfl) | ((with_reducible apply call_eq (g29 hP c hc n m)); exact rfl; exact rfl) | ((with_reducible apply call_fzeq (g29 hP c hc n m)); exact rfl) | ((with_reducible apply call_eq (g13 hP c hc n m)); exact rfl; exact rfl) | ((with_reducible apply call_fzeq (g13 hP c hc n m)); exact rfl) | ((with_reducible apply call_eq (g8 hP hE _ (codeK_next c n m))); exact rfl; exact rfl) | ((with_reducible apply call_fzeq (g8 hP hE _ (codeK_next c n m))); exact rfl) | ((with_reducible apply call_eq (g30 hP c hc n)); exact rfl; exact rfl) | ((with_reducible apply call_fzeq (g30 hP c hc n)); exact rfl) | ((with_reducible apply call_eq (g11 hP c hc n)); exact rfl; exact rfl) | ((with_reducible apply call_fzeq (g11 hP c hc n)); exact rfl) | ((with_reducible apply call_eq (g8 hP hE _ (codeK_load c n))); exact rfl; exact rfl) | ((with_reducible apply call_fzeq (g8 hP hE _ (codeK_load c n))); exact rfl) | ((with_reducible apply call_eq (g31 hP c hc n)); exact rfl; exact rfl) | ((with_reducible apply call_fzeq (g31 hP c hc n)); exact rfl) | ((with_reducible apply call_eq (g32 hP c hc n)); exact rfl; exact rfl) | ((with_reducible apply call_fzeq (g32 hP c hc n)); exact rfl) | ((with_reducible apply call_eq (g8 hP hE _ (codeK_join c n))); exact rfl; exact rfl) | ((with_reducible apply call_fzeq (g8 hP hE _ (codeK_join c n))); exact rfl)
/-- The law. -/
theorem g3 (hE : ErrC P b) (h4 : Ans (zG b) P 4 [] (.c (bC true))) (c : Cfg) (hc : c.Ok) (ns : List Int) (d0 d1 d2 d3 d4 d5 e1 e2 : Value) :
    Ans (zG b) P 3 [.agg [iC c.ticks, .sl 7 (c.parts.map PlanS.enc), .sl 1 (c.homes.map intE), .sl 3 (c.wins.map Win.enc), .sl 4 (c.links.map Lnk.enc), iC c.tries, .val d0, .val d1, .val d2, .val d3, .val d4, .val d5, .sl 1 (ns.map intE), .val e1, .val e2]] (.c (bC true)) := by
  refine good_z hP rfl rfl ?_
  simp -implicitDefEqProofs only [go_sem, kbase, Nat.reduceBEq, Nat.reduceLT, Nat.reduceAdd, Nat.reduceEqDiff, Nat.reduceLeDiff, reduceIte, Int.reduceEq, Int.reduceLT, Int.reduceLE, Int.reduceToNat, Int.reduceAdd, r3]
  repeat' first | simp -implicitDefEqProofs only [go_sem, kbase, Nat.reduceBEq, Nat.reduceLT, Nat.reduceAdd, Nat.reduceEqDiff, Nat.reduceLeDiff, reduceIte, Int.reduceEq, Int.reduceLT, Int.reduceLE, Int.reduceToNat, Int.reduceAdd, *] | (with_reducible refine guard_intro (fun _ => ?_) (fun _ => ?_)) | (with_reducible refine cond_intro (fun _ => ?_) (fun _ => ?_)) | ((with_reducible apply gc_intro); exact rfl) | (with_reducible refine guardD_intro (fun _ => ?_) (fun _ => ?_)) | (((with_reducible apply call_eq h4); exact rfl; exact rfl)) | ((with_reducible apply call_eq (g5 hP c hc)); exact rfl; exact rfl) | ((with_reducible apply call_fzeq (g5 hP c hc)); exact rfl) | ((with_reducible apply call_eq (g7 hP c hc)); exact rfl; exact rfl) | ((with_reducible apply call_fzeq (g7 hP c hc)); exact rfl) | ((with_reducible apply call_eq (g6 hP c hc)); exact rfl; exact rfl) | ((with_reducible apply call_fzeq (g6 hP c hc)); exact rfl) | ((with_reducible apply call_eq (g8 hP hE _ (codeK_idle c))); exact rfl; exact rfl) | ((with_reducible apply call_fzeq (g8 hP hE _ (codeK_idle c))); exact rfl)
  refine loop_slots 0 (fun i => ns.length - i) (fun i => i ≤ ns.length ∧ ns.length ≤ 1000) (fun i s => sset s 7 (.c (iC (i : Nat)))) rfl ⟨by simp, by grind⟩ ?_
  rintro i ⟨hi, hn⟩
  have hw := wrap_succ (n := i) (by omega)
  simp -implicitDefEqProofs only [go_sem, kbase, Nat.reduceBEq, Nat.reduceLT, Nat.reduceAdd, Nat.reduceEqDiff, Nat.reduceLeDiff, reduceIte, Int.reduceEq, Int.reduceLT, Int.reduceLE, Int.reduceToNat, Int.reduceAdd, hw]
  refine cond_intro (fun h => ?_) (fun h => ?_)
  · have hlt : i + 1 < ns.length := by simp only [decide_eq_true_eq] at h; omega
    have hrow := row_at (e := intE) (show i < ns.length by omega)
    have hrow2 := row_at (e := intE) hlt
    repeat' first | simp -implicitDefEqProofs only [go_sem, kbase, Nat.reduceBEq, Nat.reduceLT, Nat.reduceAdd, Nat.reduceEqDiff, Nat.reduceLeDiff, reduceIte, Int.reduceEq, Int.reduceLT, Int.reduceLE, Int.reduceToNat, Int.reduceAdd, *, intE, Int.natCast_nonneg] | (with_reducible refine guard_intro (fun _ => ?_) (fun _ => ?_)) | (with_reducible refine cond_intro (fun _ => ?_) (fun _ => ?_)) | ((with_reducible apply gc_intro); exact rfl) | (with_reducible refine guardD_intro (fun _ => ?_) (fun _ => ?_)) | (with_reducible refine gl_intro (fun _ => ?_) (fun _ => ?_)) | (with_reducible refine gm_intro (fun _ => ?_) (fun _ => ?_)) | ((with_reducible apply callO_eq (g9 hP hE c hc ns[i] ns[i + 1])); exact rfl; exact rfl)
    exact ⟨i + 1, by omega, by omega, rfl⟩
  · repeat' first | simp -implicitDefEqProofs only [go_sem, kbase, Nat.reduceBEq, Nat.reduceLT, Nat.reduceAdd, Nat.reduceEqDiff, Nat.reduceLeDiff, reduceIte, Int.reduceEq, Int.reduceLT, Int.reduceLE, Int.reduceToNat, Int.reduceAdd, *] | (with_reducible refine guard_intro (fun _ => ?_) (fun _ => ?_)) | (with_reducible refine cond_intro (fun _ => ?_) (fun _ => ?_)) | ((with_reducible apply gc_intro); exact rfl) | (with_reducible refine guardD_intro (fun _ => ?_) (fun _ => ?_))
end Go.LH.Z
