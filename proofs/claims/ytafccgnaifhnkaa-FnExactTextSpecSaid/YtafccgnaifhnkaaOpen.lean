/- How the arguments of the laws read. Written by frame.py. -/
import Derived.Test.YtafccgnaifhnkaaRows
import Derived.Test.YtafccgnaifhnkaaRead
import Derived.Test.YtafccgnaifhnkaaNest
import Derived.Test.YtafccgnaifhnkaaNest2
namespace Go.Proofs.Ytafccgnaifhnkaa
open Go.RowKit Go.ChangeShapes Go.WideShapes Go.Deep

theorem cells_25 : Try.prog.cellsOf 25 = 2 := by kernel_rfl
theorem cells_22 : Try.prog.cellsOf 22 = 1 := by kernel_rfl
theorem cells_3 : Try.prog.cellsOf 3 = 1 := by kernel_rfl
theorem rd_3 {H : Type} {enc : TypeId × Value → H} {W : World} : Rd enc Try.prog W 3 RInt := rd_int Try.underlying3

theorem rd_22 {H : Type} {enc : TypeId × Value → H} {W : World} : Rd enc Try.prog W 22 (RSl RInt 1) := rd_slice Try.underlying22 cells_3 (by decide) rd_3

theorem cells_23 : Try.prog.cellsOf 23 = 1 := by kernel_rfl
theorem cells_108 : Try.prog.cellsOf 108 = 4 := by kernel_rfl
theorem cells_106 : Try.prog.cellsOf 106 = 3 := by kernel_rfl
theorem rd_106 {H : Type} {enc : TypeId × Value → H} {W : World} : Rd enc Try.prog W 106 RVec := by
  intro fuel cs x h
  obtain ⟨ys, n, _, _, hlen, hyl, hf⟩ := DataW.trod_struct Try.underlying106 h
  rw [cells_106] at hlen
  simp at hyl
  have h0 : DataW.trod enc Try.prog W 0 (fun _ => true) true n 3 ((cs.drop 0).take (Try.prog.cellsOf 3)) = ys[0]? := hf 0 _ rfl
  rw [cells_3, List.getElem?_eq_getElem (by omega)] at h0
  obtain ⟨a0, r0⟩ := rd_3 _ _ _ h0
  have h1 : DataW.trod enc Try.prog W 0 (fun _ => true) true n 3 ((cs.drop 1).take (Try.prog.cellsOf 3)) = ys[1]? := hf 1 _ rfl
  rw [cells_3, List.getElem?_eq_getElem (by omega)] at h1
  obtain ⟨a1, r1⟩ := rd_3 _ _ _ h1
  have h2 : DataW.trod enc Try.prog W 0 (fun _ => true) true n 3 ((cs.drop 2).take (Try.prog.cellsOf 3)) = ys[2]? := hf 2 _ rfl
  rw [cells_3, List.getElem?_eq_getElem (by omega)] at h2
  obtain ⟨a2, r2⟩ := rd_3 _ _ _ h2
  have e0 : cs.drop 0 = (cs.drop 0).take 1 ++ cs.drop 1 := cut_cells cs 0 1
  have e1 : cs.drop 1 = (cs.drop 1).take 1 ++ cs.drop 2 := cut_cells cs 1 1
  have e2 : cs.drop 2 = (cs.drop 2).take 1 ++ cs.drop 3 := cut_cells cs 2 1
  have hend : cs.drop 3 = [] := List.drop_eq_nil_of_le (by omega)
  have hcs : cs = (cs.drop 0).take 1 ++ ((cs.drop 1).take 1 ++ ((cs.drop 2).take 1)) :=
    (List.drop_zero (l := cs)).symm.trans (e0.trans (congrArg (_ ++ ·) (e1.trans (congrArg (_ ++ ·) (e2.trans (by rw [hend, List.append_nil]))))))
  refine ⟨⟨a0, a1, a2⟩, ?_, ?_⟩
  · rw [hcs, show (cs.drop 0).take 1 = _ from r0.1, show (cs.drop 1).take 1 = _ from r1.1, show (cs.drop 2).take 1 = _ from r2.1]; rfl
  · exact ⟨r0.2, r1.2, r2.2⟩

theorem rd_108 {H : Type} {enc : TypeId × Value → H} {W : World} : Rd enc Try.prog W 108 RNode := by
  intro fuel cs x h
  obtain ⟨ys, n, _, _, hlen, hyl, hf⟩ := DataW.trod_struct Try.underlying108 h
  rw [cells_108] at hlen
  simp at hyl
  have h0 : DataW.trod enc Try.prog W 0 (fun _ => true) true n 3 ((cs.drop 0).take (Try.prog.cellsOf 3)) = ys[0]? := hf 0 _ rfl
  rw [cells_3, List.getElem?_eq_getElem (by omega)] at h0
  obtain ⟨a0, r0⟩ := rd_3 _ _ _ h0
  have h1 : DataW.trod enc Try.prog W 0 (fun _ => true) true n 106 ((cs.drop 1).take (Try.prog.cellsOf 106)) = ys[1]? := hf 1 _ rfl
  rw [cells_106, List.getElem?_eq_getElem (by omega)] at h1
  obtain ⟨a1, r1⟩ := rd_106 _ _ _ h1
  have e0 : cs.drop 0 = (cs.drop 0).take 1 ++ cs.drop 1 := cut_cells cs 0 1
  have e1 : cs.drop 1 = (cs.drop 1).take 3 ++ cs.drop 4 := cut_cells cs 1 3
  have hend : cs.drop 4 = [] := List.drop_eq_nil_of_le (by omega)
  have hcs : cs = (cs.drop 0).take 1 ++ ((cs.drop 1).take 3) :=
    (List.drop_zero (l := cs)).symm.trans (e0.trans (congrArg (_ ++ ·) (e1.trans (by rw [hend, List.append_nil]))))
  refine ⟨⟨a0, a1⟩, ?_, ?_⟩
  · rw [hcs, show (cs.drop 0).take 1 = _ from r0.1, show (cs.drop 1).take 3 = _ from r1.1]; rfl
  · exact ⟨r0.2, r1.2.1, r1.2.2.1, r1.2.2.2⟩

theorem rd_23 {H : Type} {enc : TypeId × Value → H} {W : World} : Rd enc Try.prog W 23 (RSl RNode 4) := rd_slice Try.underlying23 cells_108 (by decide) rd_108

theorem rd_25 {H : Type} {enc : TypeId × Value → H} {W : World} : Rd enc Try.prog W 25 RTopo := by
  intro fuel cs x h
  obtain ⟨ys, n, _, _, hlen, hyl, hf⟩ := DataW.trod_struct Try.underlying25 h
  rw [cells_25] at hlen
  simp at hyl
  have h0 : DataW.trod enc Try.prog W 0 (fun _ => true) true n 22 ((cs.drop 0).take (Try.prog.cellsOf 22)) = ys[0]? := hf 0 _ rfl
  rw [cells_22, List.getElem?_eq_getElem (by omega)] at h0
  obtain ⟨a0, r0⟩ := rd_22 _ _ _ h0
  have h1 : DataW.trod enc Try.prog W 0 (fun _ => true) true n 23 ((cs.drop 1).take (Try.prog.cellsOf 23)) = ys[1]? := hf 1 _ rfl
  rw [cells_23, List.getElem?_eq_getElem (by omega)] at h1
  obtain ⟨a1, r1⟩ := rd_23 _ _ _ h1
  have e0 : cs.drop 0 = (cs.drop 0).take 1 ++ cs.drop 1 := cut_cells cs 0 1
  have e1 : cs.drop 1 = (cs.drop 1).take 1 ++ cs.drop 2 := cut_cells cs 1 1
  have hend : cs.drop 2 = [] := List.drop_eq_nil_of_le (by omega)
  have hcs : cs = (cs.drop 0).take 1 ++ ((cs.drop 1).take 1) :=
    (List.drop_zero (l := cs)).symm.trans (e0.trans (congrArg (_ ++ ·) (e1.trans (by rw [hend, List.append_nil]))))
  exact ⟨⟨a0, a1⟩, _, _, hcs, r0, r1⟩

theorem cells_26 : Try.prog.cellsOf 26 = 1 := by kernel_rfl
theorem cells_63 : Try.prog.cellsOf 63 = 3 := by kernel_rfl
theorem rd_63 {H : Type} {enc : TypeId × Value → H} {W : World} : Rd enc Try.prog W 63 RWindow := by
  intro fuel cs x h
  obtain ⟨ys, n, _, _, hlen, hyl, hf⟩ := DataW.trod_struct Try.underlying63 h
  rw [cells_63] at hlen
  simp at hyl
  have h0 : DataW.trod enc Try.prog W 0 (fun _ => true) true n 3 ((cs.drop 0).take (Try.prog.cellsOf 3)) = ys[0]? := hf 0 _ rfl
  rw [cells_3, List.getElem?_eq_getElem (by omega)] at h0
  obtain ⟨a0, r0⟩ := rd_3 _ _ _ h0
  have h1 : DataW.trod enc Try.prog W 0 (fun _ => true) true n 3 ((cs.drop 1).take (Try.prog.cellsOf 3)) = ys[1]? := hf 1 _ rfl
  rw [cells_3, List.getElem?_eq_getElem (by omega)] at h1
  obtain ⟨a1, r1⟩ := rd_3 _ _ _ h1
  have h2 : DataW.trod enc Try.prog W 0 (fun _ => true) true n 22 ((cs.drop 2).take (Try.prog.cellsOf 22)) = ys[2]? := hf 2 _ rfl
  rw [cells_22, List.getElem?_eq_getElem (by omega)] at h2
  obtain ⟨a2, r2⟩ := rd_22 _ _ _ h2
  have e0 : cs.drop 0 = (cs.drop 0).take 1 ++ cs.drop 1 := cut_cells cs 0 1
  have e1 : cs.drop 1 = (cs.drop 1).take 1 ++ cs.drop 2 := cut_cells cs 1 1
  have e2 : cs.drop 2 = (cs.drop 2).take 1 ++ cs.drop 3 := cut_cells cs 2 1
  have hend : cs.drop 3 = [] := List.drop_eq_nil_of_le (by omega)
  have hcs : cs = (cs.drop 0).take 1 ++ ((cs.drop 1).take 1 ++ ((cs.drop 2).take 1)) :=
    (List.drop_zero (l := cs)).symm.trans (e0.trans (congrArg (_ ++ ·) (e1.trans (congrArg (_ ++ ·) (e2.trans (by rw [hend, List.append_nil]))))))
  exact ⟨⟨a0, a1, a2⟩, _, _, _, hcs, r0, r1, r2⟩

theorem rd_26 {H : Type} {enc : TypeId × Value → H} {W : World} : Rd enc Try.prog W 26 (RSl RWindow 3) := rd_slice Try.underlying26 cells_63 (by decide) rd_63

theorem cells_44 : Try.prog.cellsOf 44 = 1 := by kernel_rfl
theorem cells_5 : Try.prog.cellsOf 5 = 1 := by kernel_rfl
theorem rd_5 {H : Type} {enc : TypeId × Value → H} {W : World} : Rd enc Try.prog W 5 RU8 := rd_u8 Try.underlying5

theorem rd_44 {H : Type} {enc : TypeId × Value → H} {W : World} : Rd enc Try.prog W 44 (RSl RU8 1) := rd_slice Try.underlying44 cells_5 (by decide) rd_5

theorem cells_9 : Try.prog.cellsOf 9 = 1 := by kernel_rfl
theorem rd_9 {H : Type} {enc : TypeId × Value → H} {W : World} : Rd enc Try.prog W 9 RStr := rd_string Try.underlying9

end Go.Proofs.Ytafccgnaifhnkaa
