/- FrameAsks: the whole argument. -/
import Derived.Test.YtieoifkedeeehaaGreatDoorZDec
import Derived.Test.YtieoifkedeeehaaGreatDoorRows
namespace Go.LH.Z
open Go Go.LH Go.Proofs
set_option maxRecDepth 100000
section
variable {H : Type} {enc : TypeId × Value → H} {w : World} {S : DataW H → Prop}
theorem dec_raw {P : Program} {t e : TypeId} (ht : P.underlying t = some (.slice e)) : Dec enc P w S t (fun v : Value => [.val v]) (fun _ => True) := by
  intro n cs x h hs
  rcases DataW.trod_slice ht h with ⟨rfl, rfl⟩ | ⟨a, len, cap, elems, rest, m, _, rfl, _⟩
  · exact ⟨_, trivial, dec_one (.val _ rfl)⟩
  · exact ⟨_, trivial, dec_one (.val _ rfl)⟩
theorem raw_cells {row : List Cv} {cs : List Value} (h : CellsRep w row cs) : CellsRep w (cs.map Cv.val) cs := by
  obtain ⟨h1, h2⟩ := h
  refine ⟨by simp, fun j c u hc hu => ?_⟩
  rw [List.getElem?_map, hu] at hc
  simp at hc; subst hc
  have hj : j < row.length := by rw [h1]; exact (List.getElem?_eq_some_iff.1 hu).1
  exact .val _ (h2 j _ u (List.getElem?_eq_getElem hj) hu).one
theorem dec_rawCfg (hS : SmallP S) : Dec enc Tryz.prog w S 27 (fun l : List Value => l.map Cv.val) (fun l => l.length = 6) := by
  intro n cs x h hs
  obtain ⟨c, _, hc⟩ := dec_Cfg hS n cs x h hs
  exact ⟨cs, hc.1.symm, raw_cells hc⟩
theorem dec_case (hS : SmallP S) {v : Value} {d : DataW H} {p : List MemPlace} (h0 : DataW.Trod enc Tryz.prog w 0 (fun _ => true) true 31 v d p) (hs : S d) :
    ∃ (c : Cfg) (ns : List Int) (d0 d1 d2 d3 d4 d5 e1 e2 : Value), c.Ok ∧
      SRepV w no (.agg [iC c.ticks, .sl 7 (c.parts.map PlanS.enc), .sl 1 (c.homes.map intE), .sl 3 (c.wins.map Win.enc), .sl 4 (c.links.map Lnk.enc), iC c.tries, .val d0, .val d1, .val d2, .val d3, .val d4, .val d5, .sl 1 (ns.map intE), .val e1, .val e2]) v := by
  obtain ⟨n, h⟩ := h0
  generalize hcs : v.cells.toList = cs at h
  obtain ⟨xs, m, _, hx, hl, hlen, hf⟩ := DataW.trod_struct Tryz.underlying31 h
  have hd : d = .agg (xs.map (·.1)) := by injection hx
  rw [hd] at hs
  have hcl : cs.length = 15 := by rw [hl]; kernel_rfl
  obtain ⟨c, co, cc⟩ := fld hf hlen hS hs 0 _ rfl 0 rfl 6 (by kernel_rfl) (dec_Cfg hS)
  obtain ⟨l, lo, lc⟩ := fld hf hlen hS hs 1 _ rfl 6 rfl 6 (by kernel_rfl) (dec_rawCfg hS)
  obtain ⟨ns, no', nc⟩ := fld hf hlen hS hs 2 _ rfl 12 rfl 1 (by kernel_rfl) (dec_slice (wd := 1) hS Tryz.underlying23 (by kernel_rfl) (by decide) (fun _ => rfl) (dec_int Tryz.underlying3))
  obtain ⟨e1, _, ec⟩ := fld hf hlen hS hs 3 _ rfl 13 rfl 1 (by kernel_rfl) (dec_raw Tryz.underlying28)
  obtain ⟨e2, _, fc⟩ := fld hf hlen hS hs 4 _ rfl 14 rfl 1 (by kernel_rfl) (dec_raw Tryz.underlying29)
  have hall := dec_cons cc (o' := 6) rfl (by omega) (dec_cons lc (o' := 12) rfl (by omega) (dec_cons nc (o' := 13) rfl (by omega) (dec_cons ec (o' := 14) rfl (by omega) (dec_last fc (by omega)))))
  rw [List.drop_zero] at hall
  match l, lo with
  | [d0, d1, d2, d3, d4, d5], _ =>
    refine ⟨c, ns, d0, d1, d2, d3, d4, d5, e1, e2, co, ?_⟩
    have hv : ∃ arr, v = .agg arr := by
      cases v with
      | agg arr => exact ⟨arr, rfl⟩
      | _ => exfalso; rw [← hcs] at hcl; simp [Value.cells] at hcl
    obtain ⟨arr, rfl⟩ := hv
    have he : arr.toList = cs := hcs
    have : (Value.agg arr) = .agg cs.toArray := by rw [← he]
    rw [this]
    exact .agg _ cs hall.1 hall.2
end
/-- The bound of the second form. -/
def bulkS {H : Type} (d : DataW H) : Prop := YtieoifkedeeehaaGreatDoor.Rows.uptoBulk d ≤ 1048576
open YtieoifkedeeehaaGreatDoor.Rows in
theorem bulk_pos {H : Type} (d : DataW H) : 1 ≤ uptoBulk d := by
  cases d with
  | lit l => cases l <;> simp [uptoBulk]
  | _ => simp [uptoBulk]
open YtieoifkedeeehaaGreatDoor.Rows in
theorem bulk_all {H : Type} : ∀ (l : List (DataW H)), l.length ≤ uptoBulkAll l ∧ ∀ d ∈ l, uptoBulk d ≤ uptoBulkAll l
  | [] => by simp [uptoBulkAll]
  | d :: l => by
    obtain ⟨h1, h2⟩ := bulk_all l
    have h3 := bulk_pos d
    simp only [uptoBulkAll, List.length_cons]
    refine ⟨by omega, fun x hx => ?_⟩
    rcases List.mem_cons.1 hx with rfl | hx
    · omega
    · have := h2 x hx; omega
open YtieoifkedeeehaaGreatDoor.Rows in
theorem bulk_small {H : Type} : SmallP (bulkS (H := H)) where
  sl es sp h := by
    obtain ⟨h1, h2⟩ := bulk_all es
    simp only [bulkS, uptoBulk] at h
    exact ⟨by omega, fun e he => by have := h2 e he; simp only [bulkS]; omega⟩
  ag ps h p hp := by
    obtain ⟨h1, h2⟩ := bulk_all ps
    simp only [bulkS, uptoBulk] at h
    have := h2 p hp; simp only [bulkS]; omega
  st l h := by
    simp only [bulkS, uptoBulk] at h
    omega
end Go.LH.Z
