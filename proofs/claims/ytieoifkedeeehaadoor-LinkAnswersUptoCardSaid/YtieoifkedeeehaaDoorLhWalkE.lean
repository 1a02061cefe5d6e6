/- LH: lemmas of the walk: maps. -/
import Derived.Test.YtieoifkedeeehaaDoorLhWalkD
namespace Go.LH
open Go
def nextE (x : Sv) (G : GEnv) (P : Program) (L : List Entry) (d : Option Nat) (r : List ROper) (K : St → Prop) (s : Slots) : Prop := stepNext L x fun v L' => VCops G P r K (put ⟨s, L'⟩ d v)
section
variable {G : GEnv} {P : Program} {s : Slots} {L : List Entry} {d : Option Nat} {r : List ROper} {K : St → Prop} {l : List (ROper × Bool × Nat)} {e hi : Nat} {p : Pend}
theorem so_next (x : Opd) : VCops G P (⟨d, none, .next x⟩ :: r) K ⟨s, L⟩ = nextE (St.opd ⟨s, L⟩ x) G P L d r K s := (rfl)
/-- The next one: whichever it is. -/
theorem next_intro {id gen mid mg c : Nat} {es seen : List Cv} (h1 : mapAt L mid mg = some (c, es)) (h2 : iterAt L id gen = some (c, seen))
    (hy : ∀ (i : Nat) (g : Nat) (k : Cv) (cs : List Cv) (b : Nat) (v : Sv), es[i]? = some (mElem g k cs b) → seenB b seen = false → packS (g == 1) cs = some v → VCops G P r K (put ⟨s, L.set id ⟨false, gen, 0, [[.sl c []], seen ++ [.sl b []]]⟩⟩ d (.tup [.c (.val (.bool true)), .c k, v])))
    (hn : (∀ (i : Nat) (g : Nat) (k : Cv) (cs : List Cv) (b : Nat), es[i]? = some (mElem g k cs b) → seenB b seen = true) → VCops G P r K (put ⟨s, L⟩ d (.tup [.c (.val (.bool false))]))) :
    nextE (.c (.it id gen mid mg)) G P L d r K s := by
  simp only [nextE, stepNext, h1, h2]
  exact ⟨trivial, hy, hn⟩
theorem soR_isnil : ∀ {x0 x1 x2}, VCops G P (⟨d, none, .isnil x0 x1 x2⟩ :: r) K ⟨s, L⟩ = opE (evalOp G ⟨s, L⟩ (.isnil x0 x1 x2)) G P d r K s := by intros; exact so_flat rfl
theorem voR_isnil : ∀ {x0 x1 x2}, VCo G P ((⟨d, none, .isnil x0 x1 x2⟩, true, hi) :: l) e p K ⟨s, L⟩ = opO (evalOp G ⟨s, L⟩ (.isnil x0 x1 x2)) G P d l e p K s := by intros; exact vo_main rfl
theorem sdR_isnil : ∀ {x0 x1 x2}, VCd G P (⟨d, none, .isnil x0 x1 x2⟩ :: r) K ⟨s, L⟩ = opD (evalOp G ⟨s, L⟩ (.isnil x0 x1 x2)) G P d r K s L := by intros; exact sd_flat rfl
theorem soR_slice3 : ∀ {x0 x1 x2 x3 x4}, VCops G P (⟨d, none, .slice3 x0 x1 x2 x3 x4⟩ :: r) K ⟨s, L⟩ = opE (evalOp G ⟨s, L⟩ (.slice3 x0 x1 x2 x3 x4)) G P d r K s := by intros; exact so_flat rfl
theorem voR_slice3 : ∀ {x0 x1 x2 x3 x4}, VCo G P ((⟨d, none, .slice3 x0 x1 x2 x3 x4⟩, true, hi) :: l) e p K ⟨s, L⟩ = opO (evalOp G ⟨s, L⟩ (.slice3 x0 x1 x2 x3 x4)) G P d l e p K s := by intros; exact vo_main rfl
theorem sdR_slice3 : ∀ {x0 x1 x2 x3 x4}, VCd G P (⟨d, none, .slice3 x0 x1 x2 x3 x4⟩ :: r) K ⟨s, L⟩ = opD (evalOp G ⟨s, L⟩ (.slice3 x0 x1 x2 x3 x4)) G P d r K s L := by intros; exact sd_flat rfl
theorem soR_mkmap : VCops G P (⟨d, none, .mkmap⟩ :: r) K ⟨s, L⟩ = opE (evalOp G ⟨s, L⟩ .mkmap) G P d r K s := by exact so_flat rfl
theorem voR_mkmap : VCo G P ((⟨d, none, .mkmap⟩, true, hi) :: l) e p K ⟨s, L⟩ = opO (evalOp G ⟨s, L⟩ .mkmap) G P d l e p K s := by exact vo_main rfl
theorem sdR_mkmap : VCd G P (⟨d, none, .mkmap⟩ :: r) K ⟨s, L⟩ = opD (evalOp G ⟨s, L⟩ .mkmap) G P d r K s L := by exact sd_flat rfl
theorem soR_mget : ∀ {x0 x1 x2 x3 x4}, VCops G P (⟨d, none, .mget x0 x1 x2 x3 x4⟩ :: r) K ⟨s, L⟩ = opE (evalOp G ⟨s, L⟩ (.mget x0 x1 x2 x3 x4)) G P d r K s := by intros; exact so_flat rfl
theorem voR_mget : ∀ {x0 x1 x2 x3 x4}, VCo G P ((⟨d, none, .mget x0 x1 x2 x3 x4⟩, true, hi) :: l) e p K ⟨s, L⟩ = opO (evalOp G ⟨s, L⟩ (.mget x0 x1 x2 x3 x4)) G P d l e p K s := by intros; exact vo_main rfl
theorem sdR_mget : ∀ {x0 x1 x2 x3 x4}, VCd G P (⟨d, none, .mget x0 x1 x2 x3 x4⟩ :: r) K ⟨s, L⟩ = opD (evalOp G ⟨s, L⟩ (.mget x0 x1 x2 x3 x4)) G P d r K s L := by intros; exact sd_flat rfl
theorem soR_mset : ∀ {x0 x1 x2 x3}, VCops G P (⟨d, none, .mset x0 x1 x2 x3⟩ :: r) K ⟨s, L⟩ = opE (evalOp G ⟨s, L⟩ (.mset x0 x1 x2 x3)) G P d r K s := by intros; exact so_flat rfl
theorem voR_mset : ∀ {x0 x1 x2 x3}, VCo G P ((⟨d, none, .mset x0 x1 x2 x3⟩, true, hi) :: l) e p K ⟨s, L⟩ = opO (evalOp G ⟨s, L⟩ (.mset x0 x1 x2 x3)) G P d l e p K s := by intros; exact vo_main rfl
theorem sdR_mset : ∀ {x0 x1 x2 x3}, VCd G P (⟨d, none, .mset x0 x1 x2 x3⟩ :: r) K ⟨s, L⟩ = opD (evalOp G ⟨s, L⟩ (.mset x0 x1 x2 x3)) G P d r K s L := by intros; exact sd_flat rfl
theorem soR_ment : ∀ {x0 x1 x2 x3}, VCops G P (⟨d, none, .ment x0 x1 x2 x3⟩ :: r) K ⟨s, L⟩ = opE (evalOp G ⟨s, L⟩ (.ment x0 x1 x2 x3)) G P d r K s := by intros; exact so_flat rfl
theorem voR_ment : ∀ {x0 x1 x2 x3}, VCo G P ((⟨d, none, .ment x0 x1 x2 x3⟩, true, hi) :: l) e p K ⟨s, L⟩ = opO (evalOp G ⟨s, L⟩ (.ment x0 x1 x2 x3)) G P d l e p K s := by intros; exact vo_main rfl
theorem sdR_ment : ∀ {x0 x1 x2 x3}, VCd G P (⟨d, none, .ment x0 x1 x2 x3⟩ :: r) K ⟨s, L⟩ = opD (evalOp G ⟨s, L⟩ (.ment x0 x1 x2 x3)) G P d r K s L := by intros; exact sd_flat rfl
theorem soR_mest : ∀ {x0 x1 x2}, VCops G P (⟨d, none, .mest x0 x1 x2⟩ :: r) K ⟨s, L⟩ = opE (evalOp G ⟨s, L⟩ (.mest x0 x1 x2)) G P d r K s := by intros; exact so_flat rfl
theorem voR_mest : ∀ {x0 x1 x2}, VCo G P ((⟨d, none, .mest x0 x1 x2⟩, true, hi) :: l) e p K ⟨s, L⟩ = opO (evalOp G ⟨s, L⟩ (.mest x0 x1 x2)) G P d l e p K s := by intros; exact vo_main rfl
theorem sdR_mest : ∀ {x0 x1 x2}, VCd G P (⟨d, none, .mest x0 x1 x2⟩ :: r) K ⟨s, L⟩ = opD (evalOp G ⟨s, L⟩ (.mest x0 x1 x2)) G P d r K s L := by intros; exact sd_flat rfl
theorem soR_mdel : ∀ {x0 x1 x2}, VCops G P (⟨d, none, .mdel x0 x1 x2⟩ :: r) K ⟨s, L⟩ = opE (evalOp G ⟨s, L⟩ (.mdel x0 x1 x2)) G P d r K s := by intros; exact so_flat rfl
theorem voR_mdel : ∀ {x0 x1 x2}, VCo G P ((⟨d, none, .mdel x0 x1 x2⟩, true, hi) :: l) e p K ⟨s, L⟩ = opO (evalOp G ⟨s, L⟩ (.mdel x0 x1 x2)) G P d l e p K s := by intros; exact vo_main rfl
theorem sdR_mdel : ∀ {x0 x1 x2}, VCd G P (⟨d, none, .mdel x0 x1 x2⟩ :: r) K ⟨s, L⟩ = opD (evalOp G ⟨s, L⟩ (.mdel x0 x1 x2)) G P d r K s L := by intros; exact sd_flat rfl
theorem soR_lenM : ∀ {x0}, VCops G P (⟨d, none, .lenM x0⟩ :: r) K ⟨s, L⟩ = opE (evalOp G ⟨s, L⟩ (.lenM x0)) G P d r K s := by intros; exact so_flat rfl
theorem voR_lenM : ∀ {x0}, VCo G P ((⟨d, none, .lenM x0⟩, true, hi) :: l) e p K ⟨s, L⟩ = opO (evalOp G ⟨s, L⟩ (.lenM x0)) G P d l e p K s := by intros; exact vo_main rfl
theorem sdR_lenM : ∀ {x0}, VCd G P (⟨d, none, .lenM x0⟩ :: r) K ⟨s, L⟩ = opD (evalOp G ⟨s, L⟩ (.lenM x0)) G P d r K s L := by intros; exact sd_flat rfl
theorem soR_range : ∀ {x0}, VCops G P (⟨d, none, .range x0⟩ :: r) K ⟨s, L⟩ = opE (evalOp G ⟨s, L⟩ (.range x0)) G P d r K s := by intros; exact so_flat rfl
theorem voR_range : ∀ {x0}, VCo G P ((⟨d, none, .range x0⟩, true, hi) :: l) e p K ⟨s, L⟩ = opO (evalOp G ⟨s, L⟩ (.range x0)) G P d l e p K s := by intros; exact vo_main rfl
theorem sdR_range : ∀ {x0}, VCd G P (⟨d, none, .range x0⟩ :: r) K ⟨s, L⟩ = opD (evalOp G ⟨s, L⟩ (.range x0)) G P d r K s L := by intros; exact sd_flat rfl
theorem soR_entry : ∀ {x0}, VCops G P (⟨d, none, .entry x0⟩ :: r) K ⟨s, L⟩ = opE (evalOp G ⟨s, L⟩ (.entry x0)) G P d r K s := by intros; exact so_flat rfl
theorem voR_entry : ∀ {x0}, VCo G P ((⟨d, none, .entry x0⟩, true, hi) :: l) e p K ⟨s, L⟩ = opO (evalOp G ⟨s, L⟩ (.entry x0)) G P d l e p K s := by intros; exact vo_main rfl
theorem sdR_entry : ∀ {x0}, VCd G P (⟨d, none, .entry x0⟩ :: r) K ⟨s, L⟩ = opD (evalOp G ⟨s, L⟩ (.entry x0)) G P d r K s L := by intros; exact sd_flat rfl
end
attribute [go_sem] so_next soR_isnil voR_isnil sdR_isnil soR_slice3 voR_slice3 sdR_slice3 soR_mkmap voR_mkmap sdR_mkmap soR_mget voR_mget sdR_mget soR_mset voR_mset sdR_mset soR_ment voR_ment sdR_ment soR_mest voR_mest sdR_mest soR_mdel voR_mdel sdR_mdel soR_lenM voR_lenM sdR_lenM soR_range voR_range sdR_range soR_entry voR_entry sdR_entry
end Go.LH
