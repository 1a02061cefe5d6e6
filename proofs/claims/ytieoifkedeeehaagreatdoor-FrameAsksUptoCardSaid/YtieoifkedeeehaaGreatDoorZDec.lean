/- FrameAsks: what the row's reading gives. -/
import Derived.Test.YtieoifkedeeehaaGreatDoorZSpec
import Derived.Test.YtieoifkedeeehaaGreatDoorLhDec
import Derived.Test.YtieoifkedeeehaaGreatDoorProg
namespace Go.LH.Z
open Go Go.LH Go.Proofs
set_option maxRecDepth 100000
section
variable {H : Type} {enc : TypeId × Value → H} {w : World} {S : DataW H → Prop}
theorem fld {P : Program} {fs : Array Field} {xs : List (DataW H × List MemPlace)} {m : Nat} {cs : List Value} (hf : ∀ (i : Nat) (f : Field), fs[i]? = some f → DataW.trod enc P w 0 (fun _ => true) true m f.type ((cs.drop f.offset).take (P.cellsOf f.type)) = xs[i]?)
    (hlen : xs.length = fs.size) (hS : SmallP S) (hs : S (.agg (xs.map (·.1)))) (i : Nat) (f : Field) (hi : fs[i]? = some f) (o : Nat) (ho : f.offset = o) (k : Nat) (hk : P.cellsOf f.type = k) {α : Type} {en : α → List Cv} {ok : α → Prop} (hd : Dec enc P w S f.type en ok) :
    ∃ a, ok a ∧ CellsRep w (en a) ((cs.drop o).take k) := by
  have h1 := hf i f hi
  rw [ho] at h1
  rw [hk] at h1
  have hil : i < xs.length := by
    rw [hlen]; exact (Array.getElem?_eq_some_iff.1 hi).1
  rw [List.getElem?_eq_getElem hil] at h1
  exact hd m _ _ h1 (hS.ag _ hs _ (List.mem_map.2 ⟨_, List.getElem_mem hil, rfl⟩))
theorem dec_PageP (hS : SmallP S) : Dec enc Tryz.prog w S 79 PageP.enc PageP.Ok := by
  intro n cs x h hs
  obtain ⟨xs, m, _, rfl, hl, hlen, hf⟩ := DataW.trod_struct Tryz.underlying79 h
  have hcs : cs.length = 2 := by rw [hl]; kernel_rfl
  obtain ⟨a0, a0o, a0c⟩ := fld hf hlen hS hs 0 _ rfl 0 rfl 1 (by kernel_rfl) (dec_int Tryz.underlying3)
  obtain ⟨a1, a1o, a1c⟩ := fld hf hlen hS hs 1 _ rfl 1 rfl 1 (by kernel_rfl) (dec_string hS Tryz.underlying9)
  have c := dec_cons a0c (o' := 1) rfl (by omega) (dec_last a1c (by omega))
  rw [List.drop_zero] at c
  exact ⟨⟨a0, a1⟩, ⟨a0o, a1o⟩, c⟩
theorem dec_ProcP (hS : SmallP S) : Dec enc Tryz.prog w S 81 ProcP.enc ProcP.Ok := by
  intro n cs x h hs
  obtain ⟨xs, m, _, rfl, hl, hlen, hf⟩ := DataW.trod_struct Tryz.underlying81 h
  have hcs : cs.length = 3 := by rw [hl]; kernel_rfl
  obtain ⟨a0, a0o, a0c⟩ := fld hf hlen hS hs 0 _ rfl 0 rfl 1 (by kernel_rfl) (dec_int Tryz.underlying3)
  obtain ⟨a1, a1o, a1c⟩ := fld hf hlen hS hs 1 _ rfl 1 rfl 1 (by kernel_rfl) (dec_int Tryz.underlying3)
  obtain ⟨a2, a2o, a2c⟩ := fld hf hlen hS hs 2 _ rfl 2 rfl 1 (by kernel_rfl) (dec_bool Tryz.underlying4)
  have c := dec_cons a0c (o' := 1) rfl (by omega) (dec_cons a1c (o' := 2) rfl (by omega) (dec_last a2c (by omega)))
  rw [List.drop_zero] at c
  exact ⟨⟨a0, a1, a2⟩, ⟨a0o, a1o⟩, c⟩
theorem dec_PortP (hS : SmallP S) : Dec enc Tryz.prog w S 83 PortP.enc PortP.Ok := by
  intro n cs x h hs
  obtain ⟨xs, m, _, rfl, hl, hlen, hf⟩ := DataW.trod_struct Tryz.underlying83 h
  have hcs : cs.length = 4 := by rw [hl]; kernel_rfl
  obtain ⟨a0, a0o, a0c⟩ := fld hf hlen hS hs 0 _ rfl 0 rfl 1 (by kernel_rfl) (dec_int Tryz.underlying3)
  obtain ⟨a1, a1o, a1c⟩ := fld hf hlen hS hs 1 _ rfl 1 rfl 1 (by kernel_rfl) (dec_int Tryz.underlying3)
  obtain ⟨a2, a2o, a2c⟩ := fld hf hlen hS hs 2 _ rfl 2 rfl 1 (by kernel_rfl) (dec_int Tryz.underlying3)
  obtain ⟨a3, a3o, a3c⟩ := fld hf hlen hS hs 3 _ rfl 3 rfl 1 (by kernel_rfl) (dec_int Tryz.underlying3)
  have c := dec_cons a0c (o' := 1) rfl (by omega) (dec_cons a1c (o' := 2) rfl (by omega) (dec_cons a2c (o' := 3) rfl (by omega) (dec_last a3c (by omega))))
  rw [List.drop_zero] at c
  exact ⟨⟨a0, a1, a2, a3⟩, ⟨a0o, a1o, a2o, a3o⟩, c⟩
theorem dec_Win (hS : SmallP S) : Dec enc Tryz.prog w S 85 Win.enc Win.Ok := by
  intro n cs x h hs
  obtain ⟨xs, m, _, rfl, hl, hlen, hf⟩ := DataW.trod_struct Tryz.underlying85 h
  have hcs : cs.length = 3 := by rw [hl]; kernel_rfl
  obtain ⟨a0, a0o, a0c⟩ := fld hf hlen hS hs 0 _ rfl 0 rfl 1 (by kernel_rfl) (dec_int Tryz.underlying3)
  obtain ⟨a1, a1o, a1c⟩ := fld hf hlen hS hs 1 _ rfl 1 rfl 1 (by kernel_rfl) (dec_int Tryz.underlying3)
  obtain ⟨a2, a2o, a2c⟩ := fld hf hlen hS hs 2 _ rfl 2 rfl 1 (by kernel_rfl) (dec_int Tryz.underlying3)
  have c := dec_cons a0c (o' := 1) rfl (by omega) (dec_cons a1c (o' := 2) rfl (by omega) (dec_last a2c (by omega)))
  rw [List.drop_zero] at c
  exact ⟨⟨a0, a1, a2⟩, ⟨a0o, a1o, a2o⟩, c⟩
theorem dec_Lnk (hS : SmallP S) : Dec enc Tryz.prog w S 87 Lnk.enc Lnk.Ok := by
  intro n cs x h hs
  obtain ⟨xs, m, _, rfl, hl, hlen, hf⟩ := DataW.trod_struct Tryz.underlying87 h
  have hcs : cs.length = 4 := by rw [hl]; kernel_rfl
  obtain ⟨a0, a0o, a0c⟩ := fld hf hlen hS hs 0 _ rfl 0 rfl 1 (by kernel_rfl) (dec_int Tryz.underlying3)
  obtain ⟨a1, a1o, a1c⟩ := fld hf hlen hS hs 1 _ rfl 1 rfl 1 (by kernel_rfl) (dec_int Tryz.underlying3)
  obtain ⟨a2, a2o, a2c⟩ := fld hf hlen hS hs 2 _ rfl 2 rfl 1 (by kernel_rfl) (dec_int Tryz.underlying3)
  obtain ⟨a3, a3o, a3c⟩ := fld hf hlen hS hs 3 _ rfl 3 rfl 1 (by kernel_rfl) (dec_int Tryz.underlying3)
  have c := dec_cons a0c (o' := 1) rfl (by omega) (dec_cons a1c (o' := 2) rfl (by omega) (dec_cons a2c (o' := 3) rfl (by omega) (dec_last a3c (by omega))))
  rw [List.drop_zero] at c
  exact ⟨⟨a0, a1, a2, a3⟩, ⟨a0o, a1o, a2o, a3o⟩, c⟩
theorem dec_PlanS (hS : SmallP S) : Dec enc Tryz.prog w S 60 PlanS.enc PlanS.Ok := by
  intro n cs x h hs
  obtain ⟨xs, m, _, rfl, hl, hlen, hf⟩ := DataW.trod_struct Tryz.underlying60 h
  have hcs : cs.length = 7 := by rw [hl]; kernel_rfl
  obtain ⟨a0, a0o, a0c⟩ := fld hf hlen hS hs 0 _ rfl 0 rfl 1 (by kernel_rfl) (dec_int Tryz.underlying3)
  obtain ⟨a1, a1o, a1c⟩ := fld hf hlen hS hs 1 _ rfl 1 rfl 1 (by kernel_rfl) (dec_bool Tryz.underlying4)
  obtain ⟨a2, a2o, a2c⟩ := fld hf hlen hS hs 2 _ rfl 2 rfl 1 (by kernel_rfl) (dec_slice (wd := 2) hS Tryz.underlying56 (by kernel_rfl) (by decide) (fun _ => rfl) (dec_PageP hS))
  obtain ⟨a3, a3o, a3c⟩ := fld hf hlen hS hs 3 _ rfl 3 rfl 1 (by kernel_rfl) (dec_slice (wd := 3) hS Tryz.underlying57 (by kernel_rfl) (by decide) (fun _ => rfl) (dec_ProcP hS))
  obtain ⟨a4, a4o, a4c⟩ := fld hf hlen hS hs 4 _ rfl 4 rfl 1 (by kernel_rfl) (dec_slice (wd := 4) hS Tryz.underlying58 (by kernel_rfl) (by decide) (fun _ => rfl) (dec_PortP hS))
  obtain ⟨a5, a5o, a5c⟩ := fld hf hlen hS hs 5 _ rfl 5 rfl 1 (by kernel_rfl) (dec_int Tryz.underlying3)
  obtain ⟨a6, a6o, a6c⟩ := fld hf hlen hS hs 6 _ rfl 6 rfl 1 (by kernel_rfl) (dec_slice (wd := 1) hS Tryz.underlying23 (by kernel_rfl) (by decide) (fun _ => rfl) (dec_int Tryz.underlying3))
  have c := dec_cons a0c (o' := 1) rfl (by omega) (dec_cons a1c (o' := 2) rfl (by omega) (dec_cons a2c (o' := 3) rfl (by omega) (dec_cons a3c (o' := 4) rfl (by omega) (dec_cons a4c (o' := 5) rfl (by omega) (dec_cons a5c (o' := 6) rfl (by omega) (dec_last a6c (by omega)))))))
  rw [List.drop_zero] at c
  exact ⟨⟨a0, a1, a2, a3, a4, a5, a6⟩, { id := a0o, events := a5o, pages := a2o.1, procs := a3o.1, ports := a4o.1, sems := a6o.1, npages := a2o.2, nprocs := a3o.2, nports := a4o.2, nsems := a6o.2 }, c⟩
theorem dec_Cfg (hS : SmallP S) : Dec enc Tryz.prog w S 27 Cfg.enc Cfg.Ok := by
  intro n cs x h hs
  obtain ⟨xs, m, _, rfl, hl, hlen, hf⟩ := DataW.trod_struct Tryz.underlying27 h
  have hcs : cs.length = 6 := by rw [hl]; kernel_rfl
  obtain ⟨a0, a0o, a0c⟩ := fld hf hlen hS hs 0 _ rfl 0 rfl 1 (by kernel_rfl) (dec_int Tryz.underlying3)
  obtain ⟨a1, a1o, a1c⟩ := fld hf hlen hS hs 1 _ rfl 1 rfl 1 (by kernel_rfl) (dec_slice (wd := 7) hS Tryz.underlying22 (by kernel_rfl) (by decide) (fun _ => rfl) (dec_PlanS hS))
  obtain ⟨a2, a2o, a2c⟩ := fld hf hlen hS hs 2 _ rfl 2 rfl 1 (by kernel_rfl) (dec_slice (wd := 1) hS Tryz.underlying23 (by kernel_rfl) (by decide) (fun _ => rfl) (dec_int Tryz.underlying3))
  obtain ⟨a3, a3o, a3c⟩ := fld hf hlen hS hs 3 _ rfl 3 rfl 1 (by kernel_rfl) (dec_slice (wd := 3) hS Tryz.underlying24 (by kernel_rfl) (by decide) (fun _ => rfl) (dec_Win hS))
  obtain ⟨a4, a4o, a4c⟩ := fld hf hlen hS hs 4 _ rfl 4 rfl 1 (by kernel_rfl) (dec_slice (wd := 4) hS Tryz.underlying25 (by kernel_rfl) (by decide) (fun _ => rfl) (dec_Lnk hS))
  obtain ⟨a5, a5o, a5c⟩ := fld hf hlen hS hs 5 _ rfl 5 rfl 1 (by kernel_rfl) (dec_int Tryz.underlying3)
  have c := dec_cons a0c (o' := 1) rfl (by omega) (dec_cons a1c (o' := 2) rfl (by omega) (dec_cons a2c (o' := 3) rfl (by omega) (dec_cons a3c (o' := 4) rfl (by omega) (dec_cons a4c (o' := 5) rfl (by omega) (dec_last a5c (by omega))))))
  rw [List.drop_zero] at c
  exact ⟨⟨a0, a1, a2, a3, a4, a5⟩, { ticks := a0o, tries := a5o, parts := a1o.1, homes := a2o.1, wins := a3o.1, links := a4o.1, nparts := a1o.2, nhomes := a2o.2, nwins := a3o.2, nlinks := a4o.2 }, c⟩
end
end Go.LH.Z
