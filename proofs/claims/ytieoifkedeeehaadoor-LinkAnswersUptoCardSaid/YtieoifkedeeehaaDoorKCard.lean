/-
  LinkAnswers returns true for every input whose reading is of bulk at most 1048576 (the second form), and its argument reads behind the call as before. Conditions: none beyond the given statement's own.
-/
import Derived.Test.YtieoifkedeeehaaDoorCards
import Derived.Test.YtieoifkedeeehaaDoorTie
import Derived.Test.YtieoifkedeeehaaDoorKL
import Derived.Test.YtieoifkedeeehaaDoorKErr3
import Derived.Test.YtieoifkedeeehaaDoorKErr4
import Derived.Test.YtieoifkedeeehaaDoorKLaid
import Derived.Test.YtieoifkedeeehaaDoorKDec
import Derived.Test.YtieoifkedeeehaaDoorKCodes
import Derived.Test.YtieoifkedeeehaaDoorKWit
import Derived.WalkKit
import Derived.ProofKit
import Derived.OpenShut
import Derived.Deep.DeepHandedRow
import Derived.WideKeyArgs
import Derived.Lib.LaidTab
namespace Go.LH.K
open Go Go.LH Go.Proofs Go.ChangeShapes Go.WideShapes Go.ChangeAt Go.RowKit Go.Proofs.YtieoifkedeeehaaDoor
set_option maxRecDepth 100000
set_option maxHeartbeats 4000000
theorem errI (b : Nat → Addr) (hb : ∀ g h, g < 20 → h < 20 → b g = b h → g = h) (hP : Codes Tryd.prog) : ErrI Tryd.prog b where
  is := e_is hb
  isAt := e_isAt hb
  pNil := p_nil hP
  pSent g _ := p_sent hP g
  pAt n g _ _ := p_at hP n g
theorem c_own : ownKnob Tryd.prog.godebug = none := by kernel_rfl
theorem c_laid : laidOutB Tryd.prog = true := by kernel_rfl
theorem c_read : Tryd.prog.readableRec 22 = true := by kernel_rfl
theorem c_row : 22 < Tryd.prog.types.size := of_decide_eq_true (by kernel_rfl)
theorem fr_kept {w w' : World} (h : Fr w (fun _ => False) w') (may : MemPlace → Prop) : w.keptBut w' may := by
  refine ⟨h.os, h.output, fun i hi => ?_⟩
  have e := h.block i hi (fun h => h)
  rw [e]
  cases hx : w.heap[i]? with
  | none => simp
  | some o => cases o <;> simp
theorem fr_same {w w' : World} (h : Fr w (fun _ => False) w') {p : MemPlace} (hp : p.block < w.heap.size) : w.sameAt w' p := by
  cases p with
  | cell b off =>
    have e := h.block b hp (fun h => h)
    simp only [World.sameAt, World.cell?, e]
  | map b =>
    exact h.block b hp (fun h => h)
theorem contract (hP : Codes Tryd.prog) (base : Nat) (H : Type) (enc : TypeId × Value → H) (W : World) (args : Array Value) (ds gs : List (DataW H)) (before : List MemPlace)
    (hval : ∀ (j : Nat) t v, Tryd.f3.params[j]? = some t → args[j]? = some v → Value.okWide Tryd.prog W .any base t v)
    (hW : DataW.Whole enc Tryd.prog Tryd.f3.params.toList Rows.linkAnswersSpec.vars false W args.toList ds gs before) (hB : Rows.uptoSmall H (ds ++ gs) = true) (hL : laidMetH Tryd.prog Rows.linkAnswersUptoRow.laid W) :
    Calls Tryd.prog 3 args W fun e W' => ∃ v, e = .returned v ∧ Rows.linkAnswersSpec.post enc Tryd.prog Tryd.f3 false true false false W args v W' := by
  have hW' := hW
  obtain ⟨p, q, hA0, hV, rfl, hfz, hnd⟩ := hW
  have hA : DataW.TrodAll enc Tryd.prog W 0 (fun _ => true) true Tryd.f3.params.toList args.toList ds p := hA0
  rw [Tryd.params3] at hA
  obtain ⟨v0, vs0, d0, ds0, p0, q0, hargs, rfl, rfl, h0, r0⟩ := trodAll_cons hA
  obtain ⟨rfl, rfl, rfl⟩ := trodAll_nil r0
  obtain rfl : args = #[v0] := by cases args; simp_all
  obtain ⟨rfl, rfl⟩ := trodVars_none hV
  have hs : bulkS d0 := by
    simp only [Rows.uptoSmall, List.append_nil, Rows.uptoBulkAll, Nat.add_zero, decide_eq_true_eq] at hB
    exact hB
  have hv0 : Value.okWide Tryd.prog W .any base 22 v0 := hval 0 22 v0 (by rw [Tryd.params3]; rfl) rfl
  obtain ⟨l, lo, ll, hrep⟩ := dec_case bulk_small hv0 h0 hs
  obtain ⟨b, hb, hG⟩ := laid_all hL
  have hI := errI b hb hP
  have hgood := z_link hP hI (l := l) (by omega) lo
  have hcall := hgood W no [v0] (fun _ h => h.elim) hG ⟨rfl, fun i s v h1 h2 => by
    match i, h1, h2 with
    | 0, h1, h2 =>
      simp at h1 h2; subst h1; subst h2; exact hrep⟩
  refine Calls.mono hcall ?_
  rintro e W' ⟨v, r, rfl, rfl, hr, hf⟩
  obtain rfl := val_eq hr
  have hlt : ∀ x ∈ p0, x.block < W.heap.size := fun x hx => hW'.lt x (by simpa using hx)
  have harg : DataW.TrodAll enc Tryd.prog W' 0 (fun b => decide (b < W.heap.size)) true Tryd.f3.params.toList (#[v0] : Array Value).toList [d0] p0 := by
    rw [Tryd.params3]
    exact ⟨p0, [], WideElems.Trod_stays c_laid c_read c_row h0 (fun x hx => fr_same hf (hlt x hx)) (fun x hx => by simpa using hlt x hx), rfl, by simp⟩
  exact ⟨_, rfl, [d0], [], p0 ++ [] ++ [], [], p0, [], hW', trodAll_cons_mk (shut_bool Tryd.underlying4 _) trodAll_mk0, harg, rfl, fr_kept hf _, fun h => by cases h⟩
/-- THE SECOND FORM's STEP. -/
theorem liftedUpto (os : Os) (started : os.Started) (H : Type) (enc : TypeId × Value → H) (F : Stop.Interp) :
    ReturnsInHanded {} Tryd.checked os 3 .any ((Rows.OpenSpec.upto Rows.linkAnswersSpec).preRow enc Tryd.prog Tryd.f3 Rows.linkAnswersUptoRow.domain false Rows.linkAnswersUptoRow.laid) (((Rows.OpenSpec.upto Rows.linkAnswersSpec).at F).post enc Tryd.prog Tryd.f3 false true false false) := by
  obtain ⟨places, hx⟩ := reads os enc
  refine returnsInHanded_of_row (C := Tryd.checked) (s := Rows.OpenSpec.upto Rows.linkAnswersSpec) c_own started (by kernel_rfl) Tryd.func3
    (witness_row_at (enc := enc) (C := Tryd.checked) false (laidWorld os) #[zarg] rfl (by kernel_rfl) (by kernel_rfl) (by kernel_rfl)
      (OpenSpec.preRow_of_cond 8 hx (by kernel_rfl) (fun k hk => by cases hk; kernel_rfl) (by kernel_rfl) (laid_met os))) ?_
  intro W base args ds gs before hval hW _ hcond _ hL _ _
  exact contract codes base H enc W args ds gs before hval hW (hcond _ rfl) hL
theorem saidUpto : Rows.LinkAnswersUptoSaid :=
  OpenClaim.holds_of_cond 3 Tryd.f3 rfl rfl rfl rfl rfl rfl rfl ⟨rfl, rfl, rfl, rfl, rfl⟩ rfl rfl rfl rfl rfl (by kernel_rfl) Tryd.func3 (by kernel_rfl)
    (of_decide_eq_true (by kernel_rfl)) (by unfold Func.isWrapper; first | (rw [if_pos (by decide +kernel)]; kernel_rfl) | (rw [if_neg (by decide +kernel)]; exact ⟨rfl, rfl⟩))
    (fun os started H enc _ F => by rw [OpenClaim.pre_eq_preRow]; exact liftedUpto os started H enc F)
/-- No parameter wants a stand-in; the program's own looks are off. -/
theorem plain (f : FuncId) (fn : Func) (hf : Tryd.pinned.checked.prog.funcNamed "ferry/ferrylaw21.LinkAnswers" = some f) (hfn : Tryd.pinned.checked.prog.funcs[f]? = some fn) :
    true = Tryd.pinned.checked.prog.looks [] ∧ ∀ (j : Nat) t, fn.params[j]? = some t → Tryd.pinned.checked.prog.wantsStandIn t = false := by
  obtain rfl : f = 3 := Option.some.inj ((show Tryd.prog.funcNamed "ferry/ferrylaw21.LinkAnswers" = some 3 by kernel_rfl).symm.trans hf) |>.symm
  obtain rfl : fn = Tryd.f3 := (Option.some.inj (Tryd.func3.symm.trans hfn)).symm
  refine ⟨by kernel_rfl, fun j t ht => ?_⟩
  rw [Tryd.params3] at ht
  obtain rfl : t = 22 := by simpa using Array.mem_of_getElem? ht
  exact (show Tryd.prog.wantsStandIn 22 = false by kernel_rfl)
/-- THE SECOND FORM's CARD. -/
theorem cardUpto : Rows.LinkAnswersUptoCardSaid :=
  Claim7.holds_tied_plain_at .later [] _ _ _ _ saidUpto (fun _ h => by cases h) (by kernel_rfl) (fun _ h => by cases h) linkAnswersUpto_row_tie rfl ⟨rfl, rfl⟩ (by kernel_rfl) rfl plain (by kernel_rfl)
end Go.LH.K
namespace Go.Proofs.YtieoifkedeeehaaDoor
/-- LinkAnswers, the second form, with its card. -/
theorem linkAnswers_card : Rows.LinkAnswersUptoCardSaid := Go.LH.K.cardUpto
end Go.Proofs.YtieoifkedeeehaaDoor
