/- How the arguments of the laws read. Written by frame.py. -/
import Derived.Test.YtfogmplpaopciabRows
import Derived.Test.YtfogmplpaopciabRead
namespace Go.Proofs.Ytfogmplpaopciab
open Go.RowKit Go.ChangeShapes Go.WideShapes Go.Deep

theorem cells_22 : Try.prog.cellsOf 22 = 1 := by kernel_rfl
theorem cells_63 : Try.prog.cellsOf 63 = 3 := by kernel_rfl
theorem cells_9 : Try.prog.cellsOf 9 = 1 := by kernel_rfl
theorem rd_9 {H : Type} {enc : TypeId × Value → H} {W : World} : Rd enc Try.prog W 9 RStr := rd_string Try.underlying9

theorem cells_3 : Try.prog.cellsOf 3 = 1 := by kernel_rfl
theorem rd_3 {H : Type} {enc : TypeId × Value → H} {W : World} : Rd enc Try.prog W 3 RInt := rd_int Try.underlying3

theorem rd_63 {H : Type} {enc : TypeId × Value → H} {W : World} : Rd enc Try.prog W 63 RAccount := by
  intro fuel cs x h
  obtain ⟨ys, n, _, _, hlen, hyl, hf⟩ := DataW.trod_struct Try.underlying63 h
  rw [cells_63] at hlen
  simp at hyl
  have h0 : DataW.trod enc Try.prog W 0 (fun _ => true) true n 9 ((cs.drop 0).take (Try.prog.cellsOf 9)) = ys[0]? := hf 0 _ rfl
  rw [cells_9, List.getElem?_eq_getElem (by omega)] at h0
  obtain ⟨a0, r0⟩ := rd_9 _ _ _ h0
  have h1 : DataW.trod enc Try.prog W 0 (fun _ => true) true n 3 ((cs.drop 1).take (Try.prog.cellsOf 3)) = ys[1]? := hf 1 _ rfl
  rw [cells_3, List.getElem?_eq_getElem (by omega)] at h1
  obtain ⟨a1, r1⟩ := rd_3 _ _ _ h1
  have h2 : DataW.trod enc Try.prog W 0 (fun _ => true) true n 3 ((cs.drop 2).take (Try.prog.cellsOf 3)) = ys[2]? := hf 2 _ rfl
  rw [cells_3, List.getElem?_eq_getElem (by omega)] at h2
  obtain ⟨a2, r2⟩ := rd_3 _ _ _ h2
  have e0 : cs.drop 0 = (cs.drop 0).take 1 ++ cs.drop 1 := cut_cells cs 0 1
  have e1 : cs.drop 1 = (cs.drop 1).take 1 ++ cs.drop 2 := cut_cells cs 1 1
  have e2 : cs.drop 2 = (cs.drop 2).take 1 ++ cs.drop 3 := cut_cells cs 2 1
  have hend : cs.drop 3 = [] := List.drop_eq_nil_of_le (by omega)
  have hcs : cs = (cs.drop 0).take 1 ++ ((cs.drop 1).take 1 ++ ((cs.drop 2).take 1)) :=
    (List.drop_zero (l := cs)).symm.trans (e0.trans (congrArg (_ ++ ·) (e1.trans (congrArg (_ ++ ·) (e2.trans (by rw [hend, List.append_nil]))))))
  refine ⟨⟨a0, a1, a2⟩, ?_, ?_⟩
  · rw [hcs, show (cs.drop 0).take 1 = _ from r0.1, show (cs.drop 1).take 1 = _ from r1.1, show (cs.drop 2).take 1 = _ from r2.1]; rfl
  · exact ⟨r0.2, r1.2, r2.2⟩

theorem rd_22 {H : Type} {enc : TypeId × Value → H} {W : World} : Rd enc Try.prog W 22 (RSl RAccount 3) := rd_slice Try.underlying22 cells_63 (by decide) rd_63

theorem cells_33 : Try.prog.cellsOf 33 = 1 := by kernel_rfl
theorem cells_5 : Try.prog.cellsOf 5 = 1 := by kernel_rfl
theorem rd_5 {H : Type} {enc : TypeId × Value → H} {W : World} : Rd enc Try.prog W 5 RU8 := rd_u8 Try.underlying5

theorem rd_33 {H : Type} {enc : TypeId × Value → H} {W : World} : Rd enc Try.prog W 33 (RSl RU8 1) := rd_slice Try.underlying33 cells_5 (by decide) rd_5

theorem cells_46 : Try.prog.cellsOf 46 = 1 := by kernel_rfl
theorem cells_92 : Try.prog.cellsOf 92 = 7 := by kernel_rfl
theorem cells_90 : Try.prog.cellsOf 90 = 3 := by kernel_rfl
theorem rd_90 {H : Type} {enc : TypeId × Value → H} {W : World} : Rd enc Try.prog W 90 RVec := by
  intro fuel cs x h
  obtain ⟨ys, n, _, _, hlen, hyl, hf⟩ := DataW.trod_struct Try.underlying90 h
  rw [cells_90] at hlen
  simp at hyl
  have h0 : DataW.trod enc Try.prog W 0 (fun _ => true) true n 3 ((cs.drop 0).take (Try.prog.cellsOf 3)) = ys[0]? := hf 0 _ rfl
  rw [cells_3, List.getElem?_eq_getElem (by omega)] at h0
  obtain ⟨a0, r0⟩ := rd_3 _ _ _ h0
  have h1 : DataW.trod enc Try.prog W 0 (fun _ => true) true n 3 ((cs.drop 1).take (Try.prog.cellsOf 3)) = ys[1]? := hf 1 _ rfl
  rw [cells_3, List.getElem?_eq_getElem (by omega)] at h1
  obtain ⟨a1, r1⟩ := rd_3 _ _ _ h1
  have h2 : DataW.trod enc Try.prog W 0 (fun _ => true) true n 3 ((cs.drop 2).take (Try.prog.cellsOf 3)) = ys[2]? := hf 2 _ rfl
  rw [cells_3, List.getElem?_eq_getElem (by omega)] at h2
  obtain ⟨a2, r2⟩ := rd_3 _ _ _ h2
  have e0 : cs.drop 0 = (cs.drop 0).take 1 ++ cs.drop 1 := cut_cells cs 0 1
  have e1 : cs.drop 1 = (cs.drop 1).take 1 ++ cs.drop 2 := cut_cells cs 1 1
  have e2 : cs.drop 2 = (cs.drop 2).take 1 ++ cs.drop 3 := cut_cells cs 2 1
  have hend : cs.drop 3 = [] := List.drop_eq_nil_of_le (by omega)
  have hcs : cs = (cs.drop 0).take 1 ++ ((cs.drop 1).take 1 ++ ((cs.drop 2).take 1)) :=
    (List.drop_zero (l := cs)).symm.trans (e0.trans (congrArg (_ ++ ·) (e1.trans (congrArg (_ ++ ·) (e2.trans (by rw [hend, List.append_nil]))))))
  refine ⟨⟨a0, a1, a2⟩, ?_, ?_⟩
  · rw [hcs, show (cs.drop 0).take 1 = _ from r0.1, show (cs.drop 1).take 1 = _ from r1.1, show (cs.drop 2).take 1 = _ from r2.1]; rfl
  · exact ⟨r0.2, r1.2, r2.2⟩

theorem rd_92 {H : Type} {enc : TypeId × Value → H} {W : World} : Rd enc Try.prog W 92 RBill := by
  intro fuel cs x h
  obtain ⟨ys, n, _, _, hlen, hyl, hf⟩ := DataW.trod_struct Try.underlying92 h
  rw [cells_92] at hlen
  simp at hyl
  have h0 : DataW.trod enc Try.prog W 0 (fun _ => true) true n 3 ((cs.drop 0).take (Try.prog.cellsOf 3)) = ys[0]? := hf 0 _ rfl
  rw [cells_3, List.getElem?_eq_getElem (by omega)] at h0
  obtain ⟨a0, r0⟩ := rd_3 _ _ _ h0
  have h1 : DataW.trod enc Try.prog W 0 (fun _ => true) true n 3 ((cs.drop 1).take (Try.prog.cellsOf 3)) = ys[1]? := hf 1 _ rfl
  rw [cells_3, List.getElem?_eq_getElem (by omega)] at h1
  obtain ⟨a1, r1⟩ := rd_3 _ _ _ h1
  have h2 : DataW.trod enc Try.prog W 0 (fun _ => true) true n 3 ((cs.drop 2).take (Try.prog.cellsOf 3)) = ys[2]? := hf 2 _ rfl
  rw [cells_3, List.getElem?_eq_getElem (by omega)] at h2
  obtain ⟨a2, r2⟩ := rd_3 _ _ _ h2
  have h3 : DataW.trod enc Try.prog W 0 (fun _ => true) true n 3 ((cs.drop 3).take (Try.prog.cellsOf 3)) = ys[3]? := hf 3 _ rfl
  rw [cells_3, List.getElem?_eq_getElem (by omega)] at h3
  obtain ⟨a3, r3⟩ := rd_3 _ _ _ h3
  have h4 : DataW.trod enc Try.prog W 0 (fun _ => true) true n 90 ((cs.drop 4).take (Try.prog.cellsOf 90)) = ys[4]? := hf 4 _ rfl
  rw [cells_90, List.getElem?_eq_getElem (by omega)] at h4
  obtain ⟨a4, r4⟩ := rd_90 _ _ _ h4
  have e0 : cs.drop 0 = (cs.drop 0).take 1 ++ cs.drop 1 := cut_cells cs 0 1
  have e1 : cs.drop 1 = (cs.drop 1).take 1 ++ cs.drop 2 := cut_cells cs 1 1
  have e2 : cs.drop 2 = (cs.drop 2).take 1 ++ cs.drop 3 := cut_cells cs 2 1
  have e3 : cs.drop 3 = (cs.drop 3).take 1 ++ cs.drop 4 := cut_cells cs 3 1
  have e4 : cs.drop 4 = (cs.drop 4).take 3 ++ cs.drop 7 := cut_cells cs 4 3
  have hend : cs.drop 7 = [] := List.drop_eq_nil_of_le (by omega)
  have hcs : cs = (cs.drop 0).take 1 ++ ((cs.drop 1).take 1 ++ ((cs.drop 2).take 1 ++ ((cs.drop 3).take 1 ++ ((cs.drop 4).take 3)))) :=
    (List.drop_zero (l := cs)).symm.trans (e0.trans (congrArg (_ ++ ·) (e1.trans (congrArg (_ ++ ·) (e2.trans (congrArg (_ ++ ·) (e3.trans (congrArg (_ ++ ·) (e4.trans (by rw [hend, List.append_nil]))))))))))
  refine ⟨⟨a0, a1, a2, a3, a4⟩, ?_, ?_⟩
  · rw [hcs, show (cs.drop 0).take 1 = _ from r0.1, show (cs.drop 1).take 1 = _ from r1.1, show (cs.drop 2).take 1 = _ from r2.1, show (cs.drop 3).take 1 = _ from r3.1, show (cs.drop 4).take 3 = _ from r4.1]; rfl
  · exact ⟨r0.2, r1.2, r2.2, r3.2, r4.2.1, r4.2.2.1, r4.2.2.2⟩

theorem rd_46 {H : Type} {enc : TypeId × Value → H} {W : World} : Rd enc Try.prog W 46 (RSl RBill 7) := rd_slice Try.underlying46 cells_92 (by decide) rd_92

theorem cells_47 : Try.prog.cellsOf 47 = 1 := by kernel_rfl
theorem cells_80 : Try.prog.cellsOf 80 = 2 := by kernel_rfl
theorem rd_80 {H : Type} {enc : TypeId × Value → H} {W : World} : Rd enc Try.prog W 80 ROwner := by
  intro fuel cs x h
  obtain ⟨ys, n, _, _, hlen, hyl, hf⟩ := DataW.trod_struct Try.underlying80 h
  rw [cells_80] at hlen
  simp at hyl
  have h0 : DataW.trod enc Try.prog W 0 (fun _ => true) true n 3 ((cs.drop 0).take (Try.prog.cellsOf 3)) = ys[0]? := hf 0 _ rfl
  rw [cells_3, List.getElem?_eq_getElem (by omega)] at h0
  obtain ⟨a0, r0⟩ := rd_3 _ _ _ h0
  have h1 : DataW.trod enc Try.prog W 0 (fun _ => true) true n 9 ((cs.drop 1).take (Try.prog.cellsOf 9)) = ys[1]? := hf 1 _ rfl
  rw [cells_9, List.getElem?_eq_getElem (by omega)] at h1
  obtain ⟨a1, r1⟩ := rd_9 _ _ _ h1
  have e0 : cs.drop 0 = (cs.drop 0).take 1 ++ cs.drop 1 := cut_cells cs 0 1
  have e1 : cs.drop 1 = (cs.drop 1).take 1 ++ cs.drop 2 := cut_cells cs 1 1
  have hend : cs.drop 2 = [] := List.drop_eq_nil_of_le (by omega)
  have hcs : cs = (cs.drop 0).take 1 ++ ((cs.drop 1).take 1) :=
    (List.drop_zero (l := cs)).symm.trans (e0.trans (congrArg (_ ++ ·) (e1.trans (by rw [hend, List.append_nil]))))
  refine ⟨⟨a0, a1⟩, ?_, ?_⟩
  · rw [hcs, show (cs.drop 0).take 1 = _ from r0.1, show (cs.drop 1).take 1 = _ from r1.1]; rfl
  · exact ⟨r0.2, r1.2⟩

theorem rd_47 {H : Type} {enc : TypeId × Value → H} {W : World} : Rd enc Try.prog W 47 (RSl ROwner 2) := rd_slice Try.underlying47 cells_80 (by decide) rd_80

end Go.Proofs.Ytfogmplpaopciab
