/- LH: lemmas of the walk: guards in a region whose order is open. -/
import Derived.Test.YtieoifkedeeehaaDoorLhWalkB
namespace Go.LH
open Go
def gmE (x : Sv) (w : Bool) (o : Rop) (hi : Nat) (G : GEnv) (P : Program) (d : Option Nat) (l : List (ROper × Bool × Nat)) (e : Nat) (p : Pend) (K : St → Prop) (s : Slots) (L : List Entry) : Prop := match x with
  | .ud => again G (e + 1) L p ∧ VCo G P l (e + 1) p K (put ⟨s, L⟩ d .ud)
  | .c (.val (.bool t)) => (t = w → VCo G P ((⟨d, none, o⟩, true, hi) :: l) e p K ⟨s, L⟩) ∧ (t = !w → again G (e + 1) L p ∧ VCo G P l (e + 1) p K (put ⟨s, L⟩ d .ud))
  | _ => False
def glE (x : Sv) (g : Nat) (w : Bool) (o : Rop) (hi : Nat) (G : GEnv) (P : Program) (d : Option Nat) (l : List (ROper × Bool × Nat)) (e : Nat) (p : Pend) (K : St → Prop) (s : Slots) (L : List Entry) : Prop := match x with
  | .ud => VCo G P l e (if Nat.blt e hi then (hi, s, ⟨d, some (g, w), o⟩, .ud) :: p else p) K (put ⟨s, L⟩ d .ud)
  | .c (.val (.bool t)) => (t = w → opL (evalOp G ⟨s, L⟩ o) ⟨d, some (g, w), o⟩ hi G P d l e p K s L) ∧ (t = !w → VCo G P l e (if Nat.blt e hi then (hi, s, ⟨d, some (g, w), o⟩, .ud) :: p else p) K (put ⟨s, L⟩ d .ud))
  | _ => False
def agE (x : Sv) (w : Bool) (y : Option (Sv × List Entry)) (v : Sv) : Prop := match x with
  | .ud => Sv.ud = v
  | .c (.val (.bool t)) => (t = w → againE y v) ∧ (t = !w → Sv.ud = v)
  | _ => False
section
variable {G : GEnv} {P : Program} {s : Slots} {L : List Entry} {d : Option Nat} {K : St → Prop} {l : List (ROper × Bool × Nat)} {e hi : Nat} {p : Pend}
theorem vo_gmain (g : Nat) (w : Bool) (o : Rop) : VCo G P ((⟨d, some (g, w), o⟩, true, hi) :: l) e p K ⟨s, L⟩ = gmE (sget s g) w o hi G P d l e p K s L := by
  have hp : (put ⟨s, L⟩ d .ud).L = L := by cases d <;> rfl
  simp only [VCo, if_true, stepG, gmE, hp]
  rfl
theorem vo_glook (g : Nat) (w : Bool) (o : Rop) : VCo G P ((⟨d, some (g, w), o⟩, false, hi) :: l) e p K ⟨s, L⟩ = glE (sget s g) g w o hi G P d l e p K s L := by
  simp only [VCo, stepQ, glE, opL, Bool.false_eq_true, if_false]
  rfl
theorem again_g (g : Nat) (w : Bool) (o : Rop) (v : Sv) : again G e L ((hi, s, ⟨d, some (g, w), o⟩, v) :: p) = ((if Nat.ble e hi then agE (sget s g) w (evalOp G ⟨s, L⟩ o) v else True) ∧ again G e L p) := by
  simp only [again, stepQ, agE]
  rfl
theorem gm_ud {w : Bool} {o : Rop} : gmE .ud w o hi G P d l e p K s L = (again G (e + 1) L p ∧ VCo G P l (e + 1) p K (put ⟨s, L⟩ d .ud)) := (rfl)
theorem gm_tt {o : Rop} : gmE (.c (.val (.bool true))) true o hi G P d l e p K s L = VCo G P ((⟨d, none, o⟩, true, hi) :: l) e p K ⟨s, L⟩ := by simp [gmE]
theorem gm_ff {o : Rop} : gmE (.c (.val (.bool false))) false o hi G P d l e p K s L = VCo G P ((⟨d, none, o⟩, true, hi) :: l) e p K ⟨s, L⟩ := by simp [gmE]
theorem gm_tf {o : Rop} : gmE (.c (.val (.bool true))) false o hi G P d l e p K s L = (again G (e + 1) L p ∧ VCo G P l (e + 1) p K (put ⟨s, L⟩ d .ud)) := by simp [gmE]
theorem gm_ft {o : Rop} : gmE (.c (.val (.bool false))) true o hi G P d l e p K s L = (again G (e + 1) L p ∧ VCo G P l (e + 1) p K (put ⟨s, L⟩ d .ud)) := by simp [gmE]
theorem gm_intro {t w : Bool} {o : Rop} (h : t = true → gmE (.c (.val (.bool true))) w o hi G P d l e p K s L) (k : t = false → gmE (.c (.val (.bool false))) w o hi G P d l e p K s L) : gmE (.c (.val (.bool t))) w o hi G P d l e p K s L := by
  cases t
  · exact k rfl
  · exact h rfl
theorem gl_ud {g : Nat} {w : Bool} {o : Rop} : glE .ud g w o hi G P d l e p K s L = VCo G P l e (if Nat.blt e hi then (hi, s, ⟨d, some (g, w), o⟩, .ud) :: p else p) K (put ⟨s, L⟩ d .ud) := (rfl)
theorem gl_tt {g : Nat} {o : Rop} : glE (.c (.val (.bool true))) g true o hi G P d l e p K s L = opL (evalOp G ⟨s, L⟩ o) ⟨d, some (g, true), o⟩ hi G P d l e p K s L := by simp [glE]
theorem gl_ff {g : Nat} {o : Rop} : glE (.c (.val (.bool false))) g false o hi G P d l e p K s L = opL (evalOp G ⟨s, L⟩ o) ⟨d, some (g, false), o⟩ hi G P d l e p K s L := by simp [glE]
theorem gl_tf {g : Nat} {o : Rop} : glE (.c (.val (.bool true))) g false o hi G P d l e p K s L = VCo G P l e (if Nat.blt e hi then (hi, s, ⟨d, some (g, false), o⟩, .ud) :: p else p) K (put ⟨s, L⟩ d .ud) := by simp [glE]
theorem gl_ft {g : Nat} {o : Rop} : glE (.c (.val (.bool false))) g true o hi G P d l e p K s L = VCo G P l e (if Nat.blt e hi then (hi, s, ⟨d, some (g, true), o⟩, .ud) :: p else p) K (put ⟨s, L⟩ d .ud) := by simp [glE]
theorem gl_intro {t w : Bool} {g : Nat} {o : Rop} (h : t = true → glE (.c (.val (.bool true))) g w o hi G P d l e p K s L) (k : t = false → glE (.c (.val (.bool false))) g w o hi G P d l e p K s L) : glE (.c (.val (.bool t))) g w o hi G P d l e p K s L := by
  cases t
  · exact k rfl
  · exact h rfl
theorem ag_ud {w : Bool} {y : Option (Sv × List Entry)} {v : Sv} : agE .ud w y v = (Sv.ud = v) := (rfl)
theorem ag_tt {y : Option (Sv × List Entry)} {v : Sv} : agE (.c (.val (.bool true))) true y v = againE y v := by simp [agE]
theorem ag_ff {y : Option (Sv × List Entry)} {v : Sv} : agE (.c (.val (.bool false))) false y v = againE y v := by simp [agE]
theorem ag_tf {y : Option (Sv × List Entry)} {v : Sv} : agE (.c (.val (.bool true))) false y v = (Sv.ud = v) := by simp [agE]
theorem ag_ft {y : Option (Sv × List Entry)} {v : Sv} : agE (.c (.val (.bool false))) true y v = (Sv.ud = v) := by simp [agE]
theorem callO_eq {f : FuncId} {args as : List Sv} {v : Sv} (hg : Ans G P f as v) (h : snSL L args = some as) (hp : plainR v = true) (hk : again G (e + 1) L p ∧ VCo G P l (e + 1) p K (put ⟨s, L⟩ d v)) : callO G P f args L d l e p K s :=
  callO_sn h hg fun x hx => by subst hx; exact ⟨hp, hk⟩
end
attribute [go_sem] vo_gmain vo_glook again_g gm_ud gm_tt gm_ff gm_tf gm_ft gl_ud gl_tt gl_ff gl_tf gl_ft ag_ud ag_tt ag_ff ag_tf ag_ft
end Go.LH
