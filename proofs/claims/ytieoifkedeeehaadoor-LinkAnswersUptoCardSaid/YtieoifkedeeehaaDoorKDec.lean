/- Link: what the row's reading gives: a script. -/
import Derived.Test.YtieoifkedeeehaaDoorKL
import Derived.Test.YtieoifkedeeehaaDoorLhDec
import Derived.Test.YtieoifkedeeehaaDoorRows
namespace Go.LH.K
open Go Go.LH Go.Proofs
set_option maxRecDepth 100000
section
variable {H : Type} {enc : TypeId × Value → H} {w : World} {S : DataW H → Prop}
theorem fld {P : Program} {fs : Array Field} {xs : List (DataW H × List MemPlace)} {m : Nat} {cs : List Value} (hf : ∀ (i : Nat) (f : Field), fs[i]? = some f → DataW.trod enc P w 0 (fun _ => true) true m f.type ((cs.drop f.offset).take (P.cellsOf f.type)) = xs[i]?)
    (hlen : xs.length = fs.size) (hS : SmallP S) (hs : S (.agg (xs.map (·.1)))) (i : Nat) (f : Field) (hi : fs[i]? = some f) (o : Nat) (ho : f.offset = o) (k : Nat) (hk : P.cellsOf f.type = k) {α : Type} {en : α → List Cv} {ok : α → Prop} (hd : Dec enc P w S f.type en ok) :
    ∃ a, ok a ∧ CellsRep w (en a) ((cs.drop o).take k) := by
  have h1 := hf i f hi
  rw [ho] at h1
  rw [hk] at h1
  have hil : i < xs.length := by
    rw [hlen]; exact (Array.getElem?_eq_some_iff.1 hi).1
  rw [List.getElem?_eq_getElem hil] at h1
  exact hd m _ _ h1 (hS.ag _ hs _ (List.mem_map.2 ⟨_, List.getElem_mem hil, rfl⟩))
theorem dec_u32 {P : Program} {t : TypeId} (ht : P.underlying t = some (.int .u32)) : Dec enc P w S t (fun n : Nat => [.val (.int .u32 n)]) (fun n => n < 4294967296) := by
  intro n cs x h hs
  obtain ⟨k, rfl, rfl, hw⟩ := DataW.trod_int ht h
  simp only [Lit.wf, IntKind.min, IntKind.max, IntKind.signed, IntKind.bits, Bool.and_eq_true, decide_eq_true_eq] at hw
  have hw : 0 ≤ k ∧ k ≤ 4294967295 := by simpa using hw
  obtain ⟨j, rfl⟩ : ∃ j : Nat, k = j := ⟨k.toNat, by omega⟩
  exact ⟨j, by omega, dec_one (.val _ rfl)⟩
theorem dec_Op (hS : SmallP S) : Dec enc Tryd.prog w S 31 rowO OpB := by
  intro n cs x h hs
  obtain ⟨xs, m, _, rfl, hl, hlen, hf⟩ := DataW.trod_struct Tryd.underlying31 h
  have hcs : cs.length = 7 := by rw [hl]; kernel_rfl
  obtain ⟨a0, a0o, a0c⟩ := fld hf hlen hS hs 0 _ rfl 0 rfl 1 (by kernel_rfl) (dec_int Tryd.underlying3)
  obtain ⟨a1, a1o, a1c⟩ := fld hf hlen hS hs 1 _ rfl 1 rfl 1 (by kernel_rfl) (dec_bool Tryd.underlying4)
  obtain ⟨a2, a2o, a2c⟩ := fld hf hlen hS hs 2 _ rfl 2 rfl 1 (by kernel_rfl) (dec_int Tryd.underlying3)
  obtain ⟨a3, a3o, a3c⟩ := fld hf hlen hS hs 3 _ rfl 3 rfl 1 (by kernel_rfl) (dec_int Tryd.underlying3)
  obtain ⟨a4, a4o, a4c⟩ := fld hf hlen hS hs 4 _ rfl 4 rfl 1 (by kernel_rfl) (dec_int Tryd.underlying3)
  obtain ⟨a5, a5o, a5c⟩ := fld hf hlen hS hs 5 _ rfl 5 rfl 1 (by kernel_rfl) (dec_u32 Tryd.underlying29)
  obtain ⟨a6, a6o, a6c⟩ := fld hf hlen hS hs 6 _ rfl 6 rfl 1 (by kernel_rfl) (dec_string hS Tryd.underlying9)
  have c := dec_cons a0c (o' := 1) rfl (by omega) (dec_cons a1c (o' := 2) rfl (by omega) (dec_cons a2c (o' := 3) rfl (by omega) (dec_cons a3c (o' := 4) rfl (by omega) (dec_cons a4c (o' := 5) rfl (by omega) (dec_cons a5c (o' := 6) rfl (by omega) (dec_last a6c (by omega)))))))
  rw [List.drop_zero] at c
  exact ⟨⟨a0, a1, a2, a3, a4, a5, a6⟩, ⟨a2o, a3o, a4o, a5o⟩, c⟩
theorem dec_case {base : Nat} {r : Reach} (hS : SmallP S) {v : Value} {d : DataW H} {p : List MemPlace} (hv : Value.okWide Tryd.prog w r base 22 v) (h0 : DataW.Trod enc Tryd.prog w 0 (fun _ => true) true 22 v d p) (hs : S d) :
    ∃ l : List OpV, (∀ o ∈ l, OpB o) ∧ l.length ≤ 4294967296 ∧ SRepV w no (.c (.sl 7 (l.map rowO))) v := by
  obtain ⟨n, h⟩ := h0
  obtain ⟨l, ⟨lo, ll⟩, lc⟩ := dec_slice (wd := 7) hS Tryd.underlying22 (by kernel_rfl) (by decide) (fun _ => rfl) (dec_Op hS) n _ (d, p) h hs
  refine ⟨l, lo, ll, ?_⟩
  have hna : ∀ arr, v ≠ .agg arr := by
    rintro arr rfl
    simp [Value.okWide, Tryd.underlying22, Cell.okWide, Cell.ok] at hv
  have hcell : v.cells.toList = [v] := by
    cases v with
    | agg arr => exact absurd rfl (hna arr)
    | _ => rfl
  rw [hcell] at lc
  exact .c _ _ (lc.2 0 _ _ rfl rfl)
end
/-- The bound of the second form. -/
def bulkS {H : Type} (d : DataW H) : Prop := YtieoifkedeeehaaDoor.Rows.uptoBulk d ≤ 1048576
open YtieoifkedeeehaaDoor.Rows in
theorem bulk_pos {H : Type} (d : DataW H) : 1 ≤ uptoBulk d := by
  cases d with
  | lit l => cases l <;> simp [uptoBulk]
  | _ => simp [uptoBulk]
open YtieoifkedeeehaaDoor.Rows in
theorem bulk_all {H : Type} : ∀ (l : List (DataW H)), l.length ≤ uptoBulkAll l ∧ ∀ d ∈ l, uptoBulk d ≤ uptoBulkAll l
  | [] => by simp [uptoBulkAll]
  | d :: l => by
    obtain ⟨h1, h2⟩ := bulk_all l
    have h3 := bulk_pos d
    simp only [uptoBulkAll, List.length_cons]
    refine ⟨by omega, fun x hx => ?_⟩
    rcases List.mem_cons.1 hx with rfl | hx
    · omega
    · have := h2 x hx; omega
open YtieoifkedeeehaaDoor.Rows in
theorem bulk_small {H : Type} : SmallP (bulkS (H := H)) where
  sl es sp h := by
    obtain ⟨h1, h2⟩ := bulk_all es
    simp only [bulkS, uptoBulk] at h
    exact ⟨by omega, fun e he => by have := h2 e he; simp only [bulkS]; omega⟩
  ag ps h p hp := by
    obtain ⟨h1, h2⟩ := bulk_all ps
    simp only [bulkS, uptoBulk] at h
    have := h2 p hp; simp only [bulkS]; omega
  st l h := by
    simp only [bulkS, uptoBulk] at h
    omega
end Go.LH.K
