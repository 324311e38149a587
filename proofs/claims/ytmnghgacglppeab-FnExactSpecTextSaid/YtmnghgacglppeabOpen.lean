/- How the arguments of the laws read. Written by frame.py. -/
import Derived.Test.YtmnghgacglppeabRows
import Derived.Test.YtmnghgacglppeabRead
import Derived.Test.YtmnghgacglppeabNest
namespace Go.Proofs.Ytmnghgacglppeab
open Go.RowKit Go.ChangeShapes Go.WideShapes Go.Deep

theorem cells_24 : Try.prog.cellsOf 24 = 2 := by kernel_rfl
theorem cells_22 : Try.prog.cellsOf 22 = 1 := by kernel_rfl
theorem cells_81 : Try.prog.cellsOf 81 = 3 := by kernel_rfl
theorem cells_3 : Try.prog.cellsOf 3 = 1 := by kernel_rfl
theorem rd_3 {H : Type} {enc : TypeId × Value → H} {W : World} : Rd enc Try.prog W 3 RInt := rd_int Try.underlying3

theorem rd_81 {H : Type} {enc : TypeId × Value → H} {W : World} : Rd enc Try.prog W 81 RSpan := by
  intro fuel cs x h
  obtain ⟨ys, n, _, _, hlen, hyl, hf⟩ := DataW.trod_struct Try.underlying81 h
  rw [cells_81] at hlen
  simp at hyl
  have h0 : DataW.trod enc Try.prog W 0 (fun _ => true) true n 3 ((cs.drop 0).take (Try.prog.cellsOf 3)) = ys[0]? := hf 0 _ rfl
  rw [cells_3, List.getElem?_eq_getElem (by omega)] at h0
  obtain ⟨a0, r0⟩ := rd_3 _ _ _ h0
  have h1 : DataW.trod enc Try.prog W 0 (fun _ => true) true n 3 ((cs.drop 1).take (Try.prog.cellsOf 3)) = ys[1]? := hf 1 _ rfl
  rw [cells_3, List.getElem?_eq_getElem (by omega)] at h1
  obtain ⟨a1, r1⟩ := rd_3 _ _ _ h1
  have h2 : DataW.trod enc Try.prog W 0 (fun _ => true) true n 3 ((cs.drop 2).take (Try.prog.cellsOf 3)) = ys[2]? := hf 2 _ rfl
  rw [cells_3, List.getElem?_eq_getElem (by omega)] at h2
  obtain ⟨a2, r2⟩ := rd_3 _ _ _ h2
  have e0 : cs.drop 0 = (cs.drop 0).take 1 ++ cs.drop 1 := cut_cells cs 0 1
  have e1 : cs.drop 1 = (cs.drop 1).take 1 ++ cs.drop 2 := cut_cells cs 1 1
  have e2 : cs.drop 2 = (cs.drop 2).take 1 ++ cs.drop 3 := cut_cells cs 2 1
  have hend : cs.drop 3 = [] := List.drop_eq_nil_of_le (by omega)
  have hcs : cs = (cs.drop 0).take 1 ++ ((cs.drop 1).take 1 ++ ((cs.drop 2).take 1)) :=
    (List.drop_zero (l := cs)).symm.trans (e0.trans (congrArg (_ ++ ·) (e1.trans (congrArg (_ ++ ·) (e2.trans (by rw [hend, List.append_nil]))))))
  refine ⟨⟨a0, a1, a2⟩, ?_, ?_⟩
  · rw [hcs, show (cs.drop 0).take 1 = _ from r0.1, show (cs.drop 1).take 1 = _ from r1.1, show (cs.drop 2).take 1 = _ from r2.1]; rfl
  · exact ⟨r0.2, r1.2, r2.2⟩

theorem rd_22 {H : Type} {enc : TypeId × Value → H} {W : World} : Rd enc Try.prog W 22 (RSl RSpan 3) := rd_slice Try.underlying22 cells_81 (by decide) rd_81

theorem rd_24 {H : Type} {enc : TypeId × Value → H} {W : World} : Rd enc Try.prog W 24 RSpec := by
  intro fuel cs x h
  obtain ⟨ys, n, _, _, hlen, hyl, hf⟩ := DataW.trod_struct Try.underlying24 h
  rw [cells_24] at hlen
  simp at hyl
  have h0 : DataW.trod enc Try.prog W 0 (fun _ => true) true n 22 ((cs.drop 0).take (Try.prog.cellsOf 22)) = ys[0]? := hf 0 _ rfl
  rw [cells_22, List.getElem?_eq_getElem (by omega)] at h0
  obtain ⟨a0, r0⟩ := rd_22 _ _ _ h0
  have h1 : DataW.trod enc Try.prog W 0 (fun _ => true) true n 3 ((cs.drop 1).take (Try.prog.cellsOf 3)) = ys[1]? := hf 1 _ rfl
  rw [cells_3, List.getElem?_eq_getElem (by omega)] at h1
  obtain ⟨a1, r1⟩ := rd_3 _ _ _ h1
  have e0 : cs.drop 0 = (cs.drop 0).take 1 ++ cs.drop 1 := cut_cells cs 0 1
  have e1 : cs.drop 1 = (cs.drop 1).take 1 ++ cs.drop 2 := cut_cells cs 1 1
  have hend : cs.drop 2 = [] := List.drop_eq_nil_of_le (by omega)
  have hcs : cs = (cs.drop 0).take 1 ++ ((cs.drop 1).take 1) :=
    (List.drop_zero (l := cs)).symm.trans (e0.trans (congrArg (_ ++ ·) (e1.trans (by rw [hend, List.append_nil]))))
  exact ⟨⟨a0, a1⟩, _, _, hcs, r0, r1⟩

theorem cells_33 : Try.prog.cellsOf 33 = 1 := by kernel_rfl
theorem rd_33 {H : Type} {enc : TypeId × Value → H} {W : World} : Rd enc Try.prog W 33 (RSl RInt 1) := rd_slice Try.underlying33 cells_3 (by decide) rd_3

theorem cells_9 : Try.prog.cellsOf 9 = 1 := by kernel_rfl
theorem rd_9 {H : Type} {enc : TypeId × Value → H} {W : World} : Rd enc Try.prog W 9 RStr := rd_string Try.underlying9

theorem cells_48 : Try.prog.cellsOf 48 = 11 := by kernel_rfl
theorem cells_46 : Try.prog.cellsOf 46 = 3 := by kernel_rfl
theorem rd_46 {H : Type} {enc : TypeId × Value → H} {W : World} : Rd enc Try.prog W 46 RVec := by
  intro fuel cs x h
  obtain ⟨ys, n, _, _, hlen, hyl, hf⟩ := DataW.trod_struct Try.underlying46 h
  rw [cells_46] at hlen
  simp at hyl
  have h0 : DataW.trod enc Try.prog W 0 (fun _ => true) true n 3 ((cs.drop 0).take (Try.prog.cellsOf 3)) = ys[0]? := hf 0 _ rfl
  rw [cells_3, List.getElem?_eq_getElem (by omega)] at h0
  obtain ⟨a0, r0⟩ := rd_3 _ _ _ h0
  have h1 : DataW.trod enc Try.prog W 0 (fun _ => true) true n 3 ((cs.drop 1).take (Try.prog.cellsOf 3)) = ys[1]? := hf 1 _ rfl
  rw [cells_3, List.getElem?_eq_getElem (by omega)] at h1
  obtain ⟨a1, r1⟩ := rd_3 _ _ _ h1
  have h2 : DataW.trod enc Try.prog W 0 (fun _ => true) true n 3 ((cs.drop 2).take (Try.prog.cellsOf 3)) = ys[2]? := hf 2 _ rfl
  rw [cells_3, List.getElem?_eq_getElem (by omega)] at h2
  obtain ⟨a2, r2⟩ := rd_3 _ _ _ h2
  have e0 : cs.drop 0 = (cs.drop 0).take 1 ++ cs.drop 1 := cut_cells cs 0 1
  have e1 : cs.drop 1 = (cs.drop 1).take 1 ++ cs.drop 2 := cut_cells cs 1 1
  have e2 : cs.drop 2 = (cs.drop 2).take 1 ++ cs.drop 3 := cut_cells cs 2 1
  have hend : cs.drop 3 = [] := List.drop_eq_nil_of_le (by omega)
  have hcs : cs = (cs.drop 0).take 1 ++ ((cs.drop 1).take 1 ++ ((cs.drop 2).take 1)) :=
    (List.drop_zero (l := cs)).symm.trans (e0.trans (congrArg (_ ++ ·) (e1.trans (congrArg (_ ++ ·) (e2.trans (by rw [hend, List.append_nil]))))))
  refine ⟨⟨a0, a1, a2⟩, ?_, ?_⟩
  · rw [hcs, show (cs.drop 0).take 1 = _ from r0.1, show (cs.drop 1).take 1 = _ from r1.1, show (cs.drop 2).take 1 = _ from r2.1]; rfl
  · exact ⟨r0.2, r1.2, r2.2⟩

theorem rd_48 {H : Type} {enc : TypeId × Value → H} {W : World} : Rd enc Try.prog W 48 RJob := by
  intro fuel cs x h
  obtain ⟨ys, n, _, _, hlen, hyl, hf⟩ := DataW.trod_struct Try.underlying48 h
  rw [cells_48] at hlen
  simp at hyl
  have h0 : DataW.trod enc Try.prog W 0 (fun _ => true) true n 3 ((cs.drop 0).take (Try.prog.cellsOf 3)) = ys[0]? := hf 0 _ rfl
  rw [cells_3, List.getElem?_eq_getElem (by omega)] at h0
  obtain ⟨a0, r0⟩ := rd_3 _ _ _ h0
  have h1 : DataW.trod enc Try.prog W 0 (fun _ => true) true n 3 ((cs.drop 1).take (Try.prog.cellsOf 3)) = ys[1]? := hf 1 _ rfl
  rw [cells_3, List.getElem?_eq_getElem (by omega)] at h1
  obtain ⟨a1, r1⟩ := rd_3 _ _ _ h1
  have h2 : DataW.trod enc Try.prog W 0 (fun _ => true) true n 3 ((cs.drop 2).take (Try.prog.cellsOf 3)) = ys[2]? := hf 2 _ rfl
  rw [cells_3, List.getElem?_eq_getElem (by omega)] at h2
  obtain ⟨a2, r2⟩ := rd_3 _ _ _ h2
  have h3 : DataW.trod enc Try.prog W 0 (fun _ => true) true n 46 ((cs.drop 3).take (Try.prog.cellsOf 46)) = ys[3]? := hf 3 _ rfl
  rw [cells_46, List.getElem?_eq_getElem (by omega)] at h3
  obtain ⟨a3, r3⟩ := rd_46 _ _ _ h3
  have h4 : DataW.trod enc Try.prog W 0 (fun _ => true) true n 46 ((cs.drop 6).take (Try.prog.cellsOf 46)) = ys[4]? := hf 4 _ rfl
  rw [cells_46, List.getElem?_eq_getElem (by omega)] at h4
  obtain ⟨a4, r4⟩ := rd_46 _ _ _ h4
  have h5 : DataW.trod enc Try.prog W 0 (fun _ => true) true n 3 ((cs.drop 9).take (Try.prog.cellsOf 3)) = ys[5]? := hf 5 _ rfl
  rw [cells_3, List.getElem?_eq_getElem (by omega)] at h5
  obtain ⟨a5, r5⟩ := rd_3 _ _ _ h5
  have h6 : DataW.trod enc Try.prog W 0 (fun _ => true) true n 3 ((cs.drop 10).take (Try.prog.cellsOf 3)) = ys[6]? := hf 6 _ rfl
  rw [cells_3, List.getElem?_eq_getElem (by omega)] at h6
  obtain ⟨a6, r6⟩ := rd_3 _ _ _ h6
  have e0 : cs.drop 0 = (cs.drop 0).take 1 ++ cs.drop 1 := cut_cells cs 0 1
  have e1 : cs.drop 1 = (cs.drop 1).take 1 ++ cs.drop 2 := cut_cells cs 1 1
  have e2 : cs.drop 2 = (cs.drop 2).take 1 ++ cs.drop 3 := cut_cells cs 2 1
  have e3 : cs.drop 3 = (cs.drop 3).take 3 ++ cs.drop 6 := cut_cells cs 3 3
  have e4 : cs.drop 6 = (cs.drop 6).take 3 ++ cs.drop 9 := cut_cells cs 6 3
  have e5 : cs.drop 9 = (cs.drop 9).take 1 ++ cs.drop 10 := cut_cells cs 9 1
  have e6 : cs.drop 10 = (cs.drop 10).take 1 ++ cs.drop 11 := cut_cells cs 10 1
  have hend : cs.drop 11 = [] := List.drop_eq_nil_of_le (by omega)
  have hcs : cs = (cs.drop 0).take 1 ++ ((cs.drop 1).take 1 ++ ((cs.drop 2).take 1 ++ ((cs.drop 3).take 3 ++ ((cs.drop 6).take 3 ++ ((cs.drop 9).take 1 ++ ((cs.drop 10).take 1)))))) :=
    (List.drop_zero (l := cs)).symm.trans (e0.trans (congrArg (_ ++ ·) (e1.trans (congrArg (_ ++ ·) (e2.trans (congrArg (_ ++ ·) (e3.trans (congrArg (_ ++ ·) (e4.trans (congrArg (_ ++ ·) (e5.trans (congrArg (_ ++ ·) (e6.trans (by rw [hend, List.append_nil]))))))))))))))
  refine ⟨⟨a0, a1, a2, a3, a4, a5, a6⟩, ?_, ?_⟩
  · rw [hcs, show (cs.drop 0).take 1 = _ from r0.1, show (cs.drop 1).take 1 = _ from r1.1, show (cs.drop 2).take 1 = _ from r2.1, show (cs.drop 3).take 3 = _ from r3.1, show (cs.drop 6).take 3 = _ from r4.1, show (cs.drop 9).take 1 = _ from r5.1, show (cs.drop 10).take 1 = _ from r6.1]; rfl
  · exact ⟨r0.2, r1.2, r2.2, r3.2.1, r3.2.2.1, r3.2.2.2, r4.2.1, r4.2.2.1, r4.2.2.2, r5.2, r6.2⟩

end Go.Proofs.Ytmnghgacglppeab
