/- LH: more lemmas of the walk. -/
import Derived.Test.YtieoifkedeeehaaDoorLhFour
namespace Go.LH
open Go
section
variable {G : GEnv} {P : Program} {s : Slots} {L : List Entry} {d : Option Nat} {r : List ROper} {K : St → Prop} {l : List (ROper × Bool × Nat)} {e hi : Nat} {p : Pend}
theorem voR_mv : ∀ {x0}, VCo G P ((⟨d, none, .mv x0⟩, true, hi) :: l) e p K ⟨s, L⟩ = opO (evalOp G ⟨s, L⟩ (.mv x0)) G P d l e p K s := by intros; exact vo_main rfl
theorem sdR_mv : ∀ {x0}, VCd G P (⟨d, none, .mv x0⟩ :: r) K ⟨s, L⟩ = opD (evalOp G ⟨s, L⟩ (.mv x0)) G P d r K s L := by intros; exact sd_flat rfl
theorem voR_pick : ∀ {x0 x1 x2}, VCo G P ((⟨d, none, .pick x0 x1 x2⟩, true, hi) :: l) e p K ⟨s, L⟩ = opO (evalOp G ⟨s, L⟩ (.pick x0 x1 x2)) G P d l e p K s := by intros; exact vo_main rfl
theorem sdR_pick : ∀ {x0 x1 x2}, VCd G P (⟨d, none, .pick x0 x1 x2⟩ :: r) K ⟨s, L⟩ = opD (evalOp G ⟨s, L⟩ (.pick x0 x1 x2)) G P d r K s L := by intros; exact sd_flat rfl
theorem voR_alloc : ∀ {x0 x1 x2}, VCo G P ((⟨d, none, .alloc x0 x1 x2⟩, true, hi) :: l) e p K ⟨s, L⟩ = opO (evalOp G ⟨s, L⟩ (.alloc x0 x1 x2)) G P d l e p K s := by intros; exact vo_main rfl
theorem sdR_alloc : ∀ {x0 x1 x2}, VCd G P (⟨d, none, .alloc x0 x1 x2⟩ :: r) K ⟨s, L⟩ = opD (evalOp G ⟨s, L⟩ (.alloc x0 x1 x2)) G P d r K s L := by intros; exact sd_flat rfl
theorem voR_box : ∀ {x0 x1 x2}, VCo G P ((⟨d, none, .box x0 x1 x2⟩, true, hi) :: l) e p K ⟨s, L⟩ = opO (evalOp G ⟨s, L⟩ (.box x0 x1 x2)) G P d l e p K s := by intros; exact vo_main rfl
theorem sdR_box : ∀ {x0 x1 x2}, VCd G P (⟨d, none, .box x0 x1 x2⟩ :: r) K ⟨s, L⟩ = opD (evalOp G ⟨s, L⟩ (.box x0 x1 x2)) G P d r K s L := by intros; exact sd_flat rfl
theorem voR_build : ∀ {x0 x1}, VCo G P ((⟨d, none, .build x0 x1⟩, true, hi) :: l) e p K ⟨s, L⟩ = opO (evalOp G ⟨s, L⟩ (.build x0 x1)) G P d l e p K s := by intros; exact vo_main rfl
theorem sdR_build : ∀ {x0 x1}, VCd G P (⟨d, none, .build x0 x1⟩ :: r) K ⟨s, L⟩ = opD (evalOp G ⟨s, L⟩ (.build x0 x1)) G P d r K s L := by intros; exact sd_flat rfl
theorem voR_bslice : ∀ {x0 x1 x2 x3 x4}, VCo G P ((⟨d, none, .bslice x0 x1 x2 x3 x4⟩, true, hi) :: l) e p K ⟨s, L⟩ = opO (evalOp G ⟨s, L⟩ (.bslice x0 x1 x2 x3 x4)) G P d l e p K s := by intros; exact vo_main rfl
theorem sdR_bslice : ∀ {x0 x1 x2 x3 x4}, VCd G P (⟨d, none, .bslice x0 x1 x2 x3 x4⟩ :: r) K ⟨s, L⟩ = opD (evalOp G ⟨s, L⟩ (.bslice x0 x1 x2 x3 x4)) G P d r K s L := by intros; exact sd_flat rfl
theorem voR_load : ∀ {x0 x1 x2}, VCo G P ((⟨d, none, .load x0 x1 x2⟩, true, hi) :: l) e p K ⟨s, L⟩ = opO (evalOp G ⟨s, L⟩ (.load x0 x1 x2)) G P d l e p K s := by intros; exact vo_main rfl
theorem sdR_load : ∀ {x0 x1 x2}, VCd G P (⟨d, none, .load x0 x1 x2⟩ :: r) K ⟨s, L⟩ = opD (evalOp G ⟨s, L⟩ (.load x0 x1 x2)) G P d r K s L := by intros; exact sd_flat rfl
theorem voR_store : ∀ {x0 x1 x2}, VCo G P ((⟨d, none, .store x0 x1 x2⟩, true, hi) :: l) e p K ⟨s, L⟩ = opO (evalOp G ⟨s, L⟩ (.store x0 x1 x2)) G P d l e p K s := by intros; exact vo_main rfl
theorem sdR_store : ∀ {x0 x1 x2}, VCd G P (⟨d, none, .store x0 x1 x2⟩ :: r) K ⟨s, L⟩ = opD (evalOp G ⟨s, L⟩ (.store x0 x1 x2)) G P d r K s L := by intros; exact sd_flat rfl
theorem voR_nilchk : ∀ {x0}, VCo G P ((⟨d, none, .nilchk x0⟩, true, hi) :: l) e p K ⟨s, L⟩ = opO (evalOp G ⟨s, L⟩ (.nilchk x0)) G P d l e p K s := by intros; exact vo_main rfl
theorem sdR_nilchk : ∀ {x0}, VCd G P (⟨d, none, .nilchk x0⟩ :: r) K ⟨s, L⟩ = opD (evalOp G ⟨s, L⟩ (.nilchk x0)) G P d r K s L := by intros; exact sd_flat rfl
theorem voR_bin : ∀ {x0 x1 x2}, VCo G P ((⟨d, none, .bin x0 x1 x2⟩, true, hi) :: l) e p K ⟨s, L⟩ = opO (evalOp G ⟨s, L⟩ (.bin x0 x1 x2)) G P d l e p K s := by intros; exact vo_main rfl
theorem sdR_bin : ∀ {x0 x1 x2}, VCd G P (⟨d, none, .bin x0 x1 x2⟩ :: r) K ⟨s, L⟩ = opD (evalOp G ⟨s, L⟩ (.bin x0 x1 x2)) G P d r K s L := by intros; exact sd_flat rfl
theorem voR_eqB : ∀ {x0 x1 x2}, VCo G P ((⟨d, none, .eqB x0 x1 x2⟩, true, hi) :: l) e p K ⟨s, L⟩ = opO (evalOp G ⟨s, L⟩ (.eqB x0 x1 x2)) G P d l e p K s := by intros; exact vo_main rfl
theorem sdR_eqB : ∀ {x0 x1 x2}, VCd G P (⟨d, none, .eqB x0 x1 x2⟩ :: r) K ⟨s, L⟩ = opD (evalOp G ⟨s, L⟩ (.eqB x0 x1 x2)) G P d r K s L := by intros; exact sd_flat rfl
theorem voR_eq : ∀ {x0 x1 x2 x3}, VCo G P ((⟨d, none, .eq x0 x1 x2 x3⟩, true, hi) :: l) e p K ⟨s, L⟩ = opO (evalOp G ⟨s, L⟩ (.eq x0 x1 x2 x3)) G P d l e p K s := by intros; exact vo_main rfl
theorem sdR_eq : ∀ {x0 x1 x2 x3}, VCd G P (⟨d, none, .eq x0 x1 x2 x3⟩ :: r) K ⟨s, L⟩ = opD (evalOp G ⟨s, L⟩ (.eq x0 x1 x2 x3)) G P d r K s L := by intros; exact sd_flat rfl
theorem voR_un : ∀ {x0 x1}, VCo G P ((⟨d, none, .un x0 x1⟩, true, hi) :: l) e p K ⟨s, L⟩ = opO (evalOp G ⟨s, L⟩ (.un x0 x1)) G P d l e p K s := by intros; exact vo_main rfl
theorem sdR_un : ∀ {x0 x1}, VCd G P (⟨d, none, .un x0 x1⟩ :: r) K ⟨s, L⟩ = opD (evalOp G ⟨s, L⟩ (.un x0 x1)) G P d r K s L := by intros; exact sd_flat rfl
theorem voR_convI : ∀ {x0 x1}, VCo G P ((⟨d, none, .convI x0 x1⟩, true, hi) :: l) e p K ⟨s, L⟩ = opO (evalOp G ⟨s, L⟩ (.convI x0 x1)) G P d l e p K s := by intros; exact vo_main rfl
theorem sdR_convI : ∀ {x0 x1}, VCd G P (⟨d, none, .convI x0 x1⟩ :: r) K ⟨s, L⟩ = opD (evalOp G ⟨s, L⟩ (.convI x0 x1)) G P d r K s L := by intros; exact sd_flat rfl
theorem voR_convSame : ∀ {x0}, VCo G P ((⟨d, none, .convSame x0⟩, true, hi) :: l) e p K ⟨s, L⟩ = opO (evalOp G ⟨s, L⟩ (.convSame x0)) G P d l e p K s := by intros; exact vo_main rfl
theorem sdR_convSame : ∀ {x0}, VCd G P (⟨d, none, .convSame x0⟩ :: r) K ⟨s, L⟩ = opD (evalOp G ⟨s, L⟩ (.convSame x0)) G P d r K s L := by intros; exact sd_flat rfl
theorem voR_bytesToStr : ∀ {x0}, VCo G P ((⟨d, none, .bytesToStr x0⟩, true, hi) :: l) e p K ⟨s, L⟩ = opO (evalOp G ⟨s, L⟩ (.bytesToStr x0)) G P d l e p K s := by intros; exact vo_main rfl
theorem sdR_bytesToStr : ∀ {x0}, VCd G P (⟨d, none, .bytesToStr x0⟩ :: r) K ⟨s, L⟩ = opD (evalOp G ⟨s, L⟩ (.bytesToStr x0)) G P d r K s L := by intros; exact sd_flat rfl
theorem voR_strToBytes : ∀ {x0 x1}, VCo G P ((⟨d, none, .strToBytes x0 x1⟩, true, hi) :: l) e p K ⟨s, L⟩ = opO (evalOp G ⟨s, L⟩ (.strToBytes x0 x1)) G P d l e p K s := by intros; exact vo_main rfl
theorem sdR_strToBytes : ∀ {x0 x1}, VCd G P (⟨d, none, .strToBytes x0 x1⟩ :: r) K ⟨s, L⟩ = opD (evalOp G ⟨s, L⟩ (.strToBytes x0 x1)) G P d r K s L := by intros; exact sd_flat rfl
theorem voR_mkif : ∀ {x0 x1}, VCo G P ((⟨d, none, .mkif x0 x1⟩, true, hi) :: l) e p K ⟨s, L⟩ = opO (evalOp G ⟨s, L⟩ (.mkif x0 x1)) G P d l e p K s := by intros; exact vo_main rfl
theorem sdR_mkif : ∀ {x0 x1}, VCd G P (⟨d, none, .mkif x0 x1⟩ :: r) K ⟨s, L⟩ = opD (evalOp G ⟨s, L⟩ (.mkif x0 x1)) G P d r K s L := by intros; exact sd_flat rfl
theorem voR_mkfn : ∀ {x0 x1}, VCo G P ((⟨d, none, .mkfn x0 x1⟩, true, hi) :: l) e p K ⟨s, L⟩ = opO (evalOp G ⟨s, L⟩ (.mkfn x0 x1)) G P d l e p K s := by intros; exact vo_main rfl
theorem sdR_mkfn : ∀ {x0 x1}, VCd G P (⟨d, none, .mkfn x0 x1⟩ :: r) K ⟨s, L⟩ = opD (evalOp G ⟨s, L⟩ (.mkfn x0 x1)) G P d r K s L := by intros; exact sd_flat rfl
theorem voR_mksl : ∀ {x0 x1 x2 x3 x4 x5}, VCo G P ((⟨d, none, .mksl x0 x1 x2 x3 x4 x5⟩, true, hi) :: l) e p K ⟨s, L⟩ = opO (evalOp G ⟨s, L⟩ (.mksl x0 x1 x2 x3 x4 x5)) G P d l e p K s := by intros; exact vo_main rfl
theorem sdR_mksl : ∀ {x0 x1 x2 x3 x4 x5}, VCd G P (⟨d, none, .mksl x0 x1 x2 x3 x4 x5⟩ :: r) K ⟨s, L⟩ = opD (evalOp G ⟨s, L⟩ (.mksl x0 x1 x2 x3 x4 x5)) G P d r K s L := by intros; exact sd_flat rfl
theorem voR_slice : ∀ {x0 x1 x2 x3}, VCo G P ((⟨d, none, .slice x0 x1 x2 x3⟩, true, hi) :: l) e p K ⟨s, L⟩ = opO (evalOp G ⟨s, L⟩ (.slice x0 x1 x2 x3)) G P d l e p K s := by intros; exact vo_main rfl
theorem sdR_slice : ∀ {x0 x1 x2 x3}, VCd G P (⟨d, none, .slice x0 x1 x2 x3⟩ :: r) K ⟨s, L⟩ = opD (evalOp G ⟨s, L⟩ (.slice x0 x1 x2 x3)) G P d r K s L := by intros; exact sd_flat rfl
theorem voR_sliceS : ∀ {x0 x1 x2}, VCo G P ((⟨d, none, .sliceS x0 x1 x2⟩, true, hi) :: l) e p K ⟨s, L⟩ = opO (evalOp G ⟨s, L⟩ (.sliceS x0 x1 x2)) G P d l e p K s := by intros; exact vo_main rfl
theorem sdR_sliceS : ∀ {x0 x1 x2}, VCd G P (⟨d, none, .sliceS x0 x1 x2⟩ :: r) K ⟨s, L⟩ = opD (evalOp G ⟨s, L⟩ (.sliceS x0 x1 x2)) G P d r K s L := by intros; exact sd_flat rfl
theorem voR_sliceA : ∀ {x0 x1 x2 x3}, VCo G P ((⟨d, none, .sliceA x0 x1 x2 x3⟩, true, hi) :: l) e p K ⟨s, L⟩ = opO (evalOp G ⟨s, L⟩ (.sliceA x0 x1 x2 x3)) G P d l e p K s := by intros; exact vo_main rfl
theorem sdR_sliceA : ∀ {x0 x1 x2 x3}, VCd G P (⟨d, none, .sliceA x0 x1 x2 x3⟩ :: r) K ⟨s, L⟩ = opD (evalOp G ⟨s, L⟩ (.sliceA x0 x1 x2 x3)) G P d r K s L := by intros; exact sd_flat rfl
theorem voR_faddr : ∀ {x0 x1}, VCo G P ((⟨d, none, .faddr x0 x1⟩, true, hi) :: l) e p K ⟨s, L⟩ = opO (evalOp G ⟨s, L⟩ (.faddr x0 x1)) G P d l e p K s := by intros; exact vo_main rfl
theorem sdR_faddr : ∀ {x0 x1}, VCd G P (⟨d, none, .faddr x0 x1⟩ :: r) K ⟨s, L⟩ = opD (evalOp G ⟨s, L⟩ (.faddr x0 x1)) G P d r K s L := by intros; exact sd_flat rfl
theorem voR_field : ∀ {x0 x1 x2 x3}, VCo G P ((⟨d, none, .field x0 x1 x2 x3⟩, true, hi) :: l) e p K ⟨s, L⟩ = opO (evalOp G ⟨s, L⟩ (.field x0 x1 x2 x3)) G P d l e p K s := by intros; exact vo_main rfl
theorem sdR_field : ∀ {x0 x1 x2 x3}, VCd G P (⟨d, none, .field x0 x1 x2 x3⟩ :: r) K ⟨s, L⟩ = opD (evalOp G ⟨s, L⟩ (.field x0 x1 x2 x3)) G P d r K s L := by intros; exact sd_flat rfl
theorem voR_iaddr : ∀ {x0 x1 x2}, VCo G P ((⟨d, none, .iaddr x0 x1 x2⟩, true, hi) :: l) e p K ⟨s, L⟩ = opO (evalOp G ⟨s, L⟩ (.iaddr x0 x1 x2)) G P d l e p K s := by intros; exact vo_main rfl
theorem sdR_iaddr : ∀ {x0 x1 x2}, VCd G P (⟨d, none, .iaddr x0 x1 x2⟩ :: r) K ⟨s, L⟩ = opD (evalOp G ⟨s, L⟩ (.iaddr x0 x1 x2)) G P d r K s L := by intros; exact sd_flat rfl
theorem voR_iaddrA : ∀ {x0 x1 x2 x3}, VCo G P ((⟨d, none, .iaddrA x0 x1 x2 x3⟩, true, hi) :: l) e p K ⟨s, L⟩ = opO (evalOp G ⟨s, L⟩ (.iaddrA x0 x1 x2 x3)) G P d l e p K s := by intros; exact vo_main rfl
theorem sdR_iaddrA : ∀ {x0 x1 x2 x3}, VCd G P (⟨d, none, .iaddrA x0 x1 x2 x3⟩ :: r) K ⟨s, L⟩ = opD (evalOp G ⟨s, L⟩ (.iaddrA x0 x1 x2 x3)) G P d r K s L := by intros; exact sd_flat rfl
theorem voR_idxA : ∀ {x0 x1 x2 x3 x4}, VCo G P ((⟨d, none, .idxA x0 x1 x2 x3 x4⟩, true, hi) :: l) e p K ⟨s, L⟩ = opO (evalOp G ⟨s, L⟩ (.idxA x0 x1 x2 x3 x4)) G P d l e p K s := by intros; exact vo_main rfl
theorem sdR_idxA : ∀ {x0 x1 x2 x3 x4}, VCd G P (⟨d, none, .idxA x0 x1 x2 x3 x4⟩ :: r) K ⟨s, L⟩ = opD (evalOp G ⟨s, L⟩ (.idxA x0 x1 x2 x3 x4)) G P d r K s L := by intros; exact sd_flat rfl
theorem voR_idxS : ∀ {x0 x1}, VCo G P ((⟨d, none, .idxS x0 x1⟩, true, hi) :: l) e p K ⟨s, L⟩ = opO (evalOp G ⟨s, L⟩ (.idxS x0 x1)) G P d l e p K s := by intros; exact vo_main rfl
theorem sdR_idxS : ∀ {x0 x1}, VCd G P (⟨d, none, .idxS x0 x1⟩ :: r) K ⟨s, L⟩ = opD (evalOp G ⟨s, L⟩ (.idxS x0 x1)) G P d r K s L := by intros; exact sd_flat rfl
theorem voR_tas : ∀ {x0 x1 x2 x3}, VCo G P ((⟨d, none, .tas x0 x1 x2 x3⟩, true, hi) :: l) e p K ⟨s, L⟩ = opO (evalOp G ⟨s, L⟩ (.tas x0 x1 x2 x3)) G P d l e p K s := by intros; exact vo_main rfl
theorem sdR_tas : ∀ {x0 x1 x2 x3}, VCd G P (⟨d, none, .tas x0 x1 x2 x3⟩ :: r) K ⟨s, L⟩ = opD (evalOp G ⟨s, L⟩ (.tas x0 x1 x2 x3)) G P d r K s L := by intros; exact sd_flat rfl
theorem voR_extr : ∀ {x0 x1}, VCo G P ((⟨d, none, .extr x0 x1⟩, true, hi) :: l) e p K ⟨s, L⟩ = opO (evalOp G ⟨s, L⟩ (.extr x0 x1)) G P d l e p K s := by intros; exact vo_main rfl
theorem sdR_extr : ∀ {x0 x1}, VCd G P (⟨d, none, .extr x0 x1⟩ :: r) K ⟨s, L⟩ = opD (evalOp G ⟨s, L⟩ (.extr x0 x1)) G P d r K s L := by intros; exact sd_flat rfl
theorem voR_len : ∀ {x0}, VCo G P ((⟨d, none, .len x0⟩, true, hi) :: l) e p K ⟨s, L⟩ = opO (evalOp G ⟨s, L⟩ (.len x0)) G P d l e p K s := by intros; exact vo_main rfl
theorem sdR_len : ∀ {x0}, VCd G P (⟨d, none, .len x0⟩ :: r) K ⟨s, L⟩ = opD (evalOp G ⟨s, L⟩ (.len x0)) G P d r K s L := by intros; exact sd_flat rfl
theorem voR_lenS : ∀ {x0}, VCo G P ((⟨d, none, .lenS x0⟩, true, hi) :: l) e p K ⟨s, L⟩ = opO (evalOp G ⟨s, L⟩ (.lenS x0)) G P d l e p K s := by intros; exact vo_main rfl
theorem sdR_lenS : ∀ {x0}, VCd G P (⟨d, none, .lenS x0⟩ :: r) K ⟨s, L⟩ = opD (evalOp G ⟨s, L⟩ (.lenS x0)) G P d r K s L := by intros; exact sd_flat rfl
theorem voR_lenA : ∀ {x0}, VCo G P ((⟨d, none, .lenA x0⟩, true, hi) :: l) e p K ⟨s, L⟩ = opO (evalOp G ⟨s, L⟩ (.lenA x0)) G P d l e p K s := by intros; exact vo_main rfl
theorem sdR_lenA : ∀ {x0}, VCd G P (⟨d, none, .lenA x0⟩ :: r) K ⟨s, L⟩ = opD (evalOp G ⟨s, L⟩ (.lenA x0)) G P d r K s L := by intros; exact sd_flat rfl
theorem voR_app : ∀ {x0 x1 x2 x3 x4}, VCo G P ((⟨d, none, .app x0 x1 x2 x3 x4⟩, true, hi) :: l) e p K ⟨s, L⟩ = opO (evalOp G ⟨s, L⟩ (.app x0 x1 x2 x3 x4)) G P d l e p K s := by intros; exact vo_main rfl
theorem sdR_app : ∀ {x0 x1 x2 x3 x4}, VCd G P (⟨d, none, .app x0 x1 x2 x3 x4⟩ :: r) K ⟨s, L⟩ = opD (evalOp G ⟨s, L⟩ (.app x0 x1 x2 x3 x4)) G P d r K s L := by intros; exact sd_flat rfl
theorem voR_cpy : ∀ {x0 x1 x2}, VCo G P ((⟨d, none, .cpy x0 x1 x2⟩, true, hi) :: l) e p K ⟨s, L⟩ = opO (evalOp G ⟨s, L⟩ (.cpy x0 x1 x2)) G P d l e p K s := by intros; exact vo_main rfl
theorem sdR_cpy : ∀ {x0 x1 x2}, VCd G P (⟨d, none, .cpy x0 x1 x2⟩ :: r) K ⟨s, L⟩ = opD (evalOp G ⟨s, L⟩ (.cpy x0 x1 x2)) G P d r K s L := by intros; exact sd_flat rfl
theorem soR_cpy : ∀ {x0 x1 x2}, VCops G P (⟨d, none, .cpy x0 x1 x2⟩ :: r) K ⟨s, L⟩ = opE (evalOp G ⟨s, L⟩ (.cpy x0 x1 x2)) G P d r K s := by intros; exact so_flat rfl
theorem voR_maxmin : ∀ {x0 x1}, VCo G P ((⟨d, none, .maxmin x0 x1⟩, true, hi) :: l) e p K ⟨s, L⟩ = opO (evalOp G ⟨s, L⟩ (.maxmin x0 x1)) G P d l e p K s := by intros; exact vo_main rfl
theorem sdR_maxmin : ∀ {x0 x1}, VCd G P (⟨d, none, .maxmin x0 x1⟩ :: r) K ⟨s, L⟩ = opD (evalOp G ⟨s, L⟩ (.maxmin x0 x1)) G P d r K s L := by intros; exact sd_flat rfl
end
theorem cast0 : ((0 : Nat) : Int) = 0 := rfl
theorem cast1 : ((1 : Nat) : Int) = 1 := rfl
theorem cast2 : ((2 : Nat) : Int) = 2 := rfl
theorem cast3 : ((3 : Nat) : Int) = 3 := rfl
theorem cast4 : ((4 : Nat) : Int) = 4 := rfl
theorem cast5 : ((5 : Nat) : Int) = 5 := rfl
theorem cast6 : ((6 : Nat) : Int) = 6 := rfl
theorem cast7 : ((7 : Nat) : Int) = 7 := rfl
theorem cast8 : ((8 : Nat) : Int) = 8 := rfl
theorem cast9 : ((9 : Nat) : Int) = 9 := rfl
attribute [go_sem] allC liveW Bool.and_true Bool.true_and Bool.and_self cast0 cast1 cast2 cast3 cast4 cast5 cast6 cast7 cast8 cast9 List.zip_cons_cons List.zip_nil_left List.zip_nil_right List.replicate_succ List.replicate_zero voR_mv sdR_mv voR_pick sdR_pick voR_alloc sdR_alloc voR_box sdR_box voR_build sdR_build voR_bslice sdR_bslice voR_load sdR_load voR_store sdR_store voR_nilchk sdR_nilchk voR_bin sdR_bin voR_eqB sdR_eqB voR_eq sdR_eq voR_un sdR_un voR_convI sdR_convI voR_convSame sdR_convSame voR_bytesToStr sdR_bytesToStr voR_strToBytes sdR_strToBytes voR_mkif sdR_mkif voR_mkfn sdR_mkfn voR_mksl sdR_mksl voR_slice sdR_slice voR_sliceS sdR_sliceS voR_sliceA sdR_sliceA voR_faddr sdR_faddr voR_field sdR_field voR_iaddr sdR_iaddr voR_iaddrA sdR_iaddrA voR_idxA sdR_idxA voR_idxS sdR_idxS voR_tas sdR_tas voR_extr sdR_extr voR_len sdR_len voR_lenS sdR_lenS voR_lenA sdR_lenA voR_app sdR_app voR_cpy sdR_cpy soR_cpy voR_maxmin sdR_maxmin
end Go.LH
