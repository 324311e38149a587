/- How the arguments of the laws read. Written by frame.py. -/
import Derived.Test.YtfcffcgdbmkfgaaGreatRows
import Derived.Test.YtfcffcgdbmkfgaaGreatRead
import Derived.Test.YtfcffcgdbmkfgaaGreatNest
import Derived.Test.YtfcffcgdbmkfgaaGreatMSta
namespace Go.Proofs.YtfcffcgdbmkfgaaGreat
open Go.RowKit Go.ChangeShapes Go.WideShapes Go.Deep

theorem cells_33 : Tryz.prog.cellsOf 33 = 11 := by kernel_rfl
theorem cells_25 : Tryz.prog.cellsOf 25 = 2 := by kernel_rfl
theorem cells_22 : Tryz.prog.cellsOf 22 = 1 := by kernel_rfl
theorem cells_3 : Tryz.prog.cellsOf 3 = 1 := by kernel_rfl
theorem rd_3 {H : Type} {enc : TypeId × Value → H} {W : World} : Rd enc Tryz.prog W 3 RInt := rd_int Tryz.underlying3

theorem rd_22 {H : Type} {enc : TypeId × Value → H} {W : World} : Rd enc Tryz.prog W 22 (RSl RInt 1) := rd_slice Tryz.underlying22 cells_3 (by decide) rd_3

theorem cells_23 : Tryz.prog.cellsOf 23 = 1 := by kernel_rfl
theorem cells_128 : Tryz.prog.cellsOf 128 = 4 := by kernel_rfl
theorem cells_28 : Tryz.prog.cellsOf 28 = 3 := by kernel_rfl
theorem rd_28 {H : Type} {enc : TypeId × Value → H} {W : World} : Rd enc Tryz.prog W 28 RVec := by
  intro fuel cs x h
  obtain ⟨ys, n, _, _, hlen, hyl, hf⟩ := DataW.trod_struct Tryz.underlying28 h
  rw [cells_28] at hlen
  simp at hyl
  have h0 : DataW.trod enc Tryz.prog W 0 (fun _ => true) true n 3 ((cs.drop 0).take (Tryz.prog.cellsOf 3)) = ys[0]? := hf 0 _ rfl
  rw [cells_3, List.getElem?_eq_getElem (by omega)] at h0
  obtain ⟨a0, r0⟩ := rd_3 _ _ _ h0
  have h1 : DataW.trod enc Tryz.prog W 0 (fun _ => true) true n 3 ((cs.drop 1).take (Tryz.prog.cellsOf 3)) = ys[1]? := hf 1 _ rfl
  rw [cells_3, List.getElem?_eq_getElem (by omega)] at h1
  obtain ⟨a1, r1⟩ := rd_3 _ _ _ h1
  have h2 : DataW.trod enc Tryz.prog W 0 (fun _ => true) true n 3 ((cs.drop 2).take (Tryz.prog.cellsOf 3)) = ys[2]? := hf 2 _ rfl
  rw [cells_3, List.getElem?_eq_getElem (by omega)] at h2
  obtain ⟨a2, r2⟩ := rd_3 _ _ _ h2
  have e0 : cs.drop 0 = (cs.drop 0).take 1 ++ cs.drop 1 := cut_cells cs 0 1
  have e1 : cs.drop 1 = (cs.drop 1).take 1 ++ cs.drop 2 := cut_cells cs 1 1
  have e2 : cs.drop 2 = (cs.drop 2).take 1 ++ cs.drop 3 := cut_cells cs 2 1
  have hend : cs.drop 3 = [] := List.drop_eq_nil_of_le (by omega)
  have hcs : cs = (cs.drop 0).take 1 ++ ((cs.drop 1).take 1 ++ ((cs.drop 2).take 1)) :=
    (List.drop_zero (l := cs)).symm.trans (e0.trans (congrArg (_ ++ ·) (e1.trans (congrArg (_ ++ ·) (e2.trans (by rw [hend, List.append_nil]))))))
  refine ⟨⟨a0, a1, a2⟩, ?_, ?_⟩
  · rw [hcs, show (cs.drop 0).take 1 = _ from r0.1, show (cs.drop 1).take 1 = _ from r1.1, show (cs.drop 2).take 1 = _ from r2.1]; rfl
  · exact ⟨r0.2, r1.2, r2.2⟩

theorem rd_128 {H : Type} {enc : TypeId × Value → H} {W : World} : Rd enc Tryz.prog W 128 RNode := by
  intro fuel cs x h
  obtain ⟨ys, n, _, _, hlen, hyl, hf⟩ := DataW.trod_struct Tryz.underlying128 h
  rw [cells_128] at hlen
  simp at hyl
  have h0 : DataW.trod enc Tryz.prog W 0 (fun _ => true) true n 3 ((cs.drop 0).take (Tryz.prog.cellsOf 3)) = ys[0]? := hf 0 _ rfl
  rw [cells_3, List.getElem?_eq_getElem (by omega)] at h0
  obtain ⟨a0, r0⟩ := rd_3 _ _ _ h0
  have h1 : DataW.trod enc Tryz.prog W 0 (fun _ => true) true n 28 ((cs.drop 1).take (Tryz.prog.cellsOf 28)) = ys[1]? := hf 1 _ rfl
  rw [cells_28, List.getElem?_eq_getElem (by omega)] at h1
  obtain ⟨a1, r1⟩ := rd_28 _ _ _ h1
  have e0 : cs.drop 0 = (cs.drop 0).take 1 ++ cs.drop 1 := cut_cells cs 0 1
  have e1 : cs.drop 1 = (cs.drop 1).take 3 ++ cs.drop 4 := cut_cells cs 1 3
  have hend : cs.drop 4 = [] := List.drop_eq_nil_of_le (by omega)
  have hcs : cs = (cs.drop 0).take 1 ++ ((cs.drop 1).take 3) :=
    (List.drop_zero (l := cs)).symm.trans (e0.trans (congrArg (_ ++ ·) (e1.trans (by rw [hend, List.append_nil]))))
  refine ⟨⟨a0, a1⟩, ?_, ?_⟩
  · rw [hcs, show (cs.drop 0).take 1 = _ from r0.1, show (cs.drop 1).take 3 = _ from r1.1]; rfl
  · exact ⟨r0.2, r1.2.1, r1.2.2.1, r1.2.2.2⟩

theorem rd_23 {H : Type} {enc : TypeId × Value → H} {W : World} : Rd enc Tryz.prog W 23 (RSl RNode 4) := rd_slice Tryz.underlying23 cells_128 (by decide) rd_128

theorem rd_25 {H : Type} {enc : TypeId × Value → H} {W : World} : Rd enc Tryz.prog W 25 RTopo := by
  intro fuel cs x h
  obtain ⟨ys, n, _, _, hlen, hyl, hf⟩ := DataW.trod_struct Tryz.underlying25 h
  rw [cells_25] at hlen
  simp at hyl
  have h0 : DataW.trod enc Tryz.prog W 0 (fun _ => true) true n 22 ((cs.drop 0).take (Tryz.prog.cellsOf 22)) = ys[0]? := hf 0 _ rfl
  rw [cells_22, List.getElem?_eq_getElem (by omega)] at h0
  obtain ⟨a0, r0⟩ := rd_22 _ _ _ h0
  have h1 : DataW.trod enc Tryz.prog W 0 (fun _ => true) true n 23 ((cs.drop 1).take (Tryz.prog.cellsOf 23)) = ys[1]? := hf 1 _ rfl
  rw [cells_23, List.getElem?_eq_getElem (by omega)] at h1
  obtain ⟨a1, r1⟩ := rd_23 _ _ _ h1
  have e0 : cs.drop 0 = (cs.drop 0).take 1 ++ cs.drop 1 := cut_cells cs 0 1
  have e1 : cs.drop 1 = (cs.drop 1).take 1 ++ cs.drop 2 := cut_cells cs 1 1
  have hend : cs.drop 2 = [] := List.drop_eq_nil_of_le (by omega)
  have hcs : cs = (cs.drop 0).take 1 ++ ((cs.drop 1).take 1) :=
    (List.drop_zero (l := cs)).symm.trans (e0.trans (congrArg (_ ++ ·) (e1.trans (by rw [hend, List.append_nil]))))
  exact ⟨⟨a0, a1⟩, _, _, hcs, r0, r1⟩

theorem cells_26 : Tryz.prog.cellsOf 26 = 1 := by kernel_rfl
theorem cells_4 : Tryz.prog.cellsOf 4 = 1 := by kernel_rfl
theorem rd_4 {H : Type} {enc : TypeId × Value → H} {W : World} : Rd enc Tryz.prog W 4 RBool := rd_bool Tryz.underlying4

theorem rd_26 {H : Type} {enc : TypeId × Value → H} {W : World} : Rd enc Tryz.prog W 26 (RSl RBool 1) := rd_slice Tryz.underlying26 cells_4 (by decide) rd_4

theorem cells_29 : Tryz.prog.cellsOf 29 = 1 := by kernel_rfl
theorem cells_90 : Tryz.prog.cellsOf 90 = 11 := by kernel_rfl
theorem rd_90 {H : Type} {enc : TypeId × Value → H} {W : World} : Rd enc Tryz.prog W 90 RJob := by
  intro fuel cs x h
  obtain ⟨ys, n, _, _, hlen, hyl, hf⟩ := DataW.trod_struct Tryz.underlying90 h
  rw [cells_90] at hlen
  simp at hyl
  have h0 : DataW.trod enc Tryz.prog W 0 (fun _ => true) true n 3 ((cs.drop 0).take (Tryz.prog.cellsOf 3)) = ys[0]? := hf 0 _ rfl
  rw [cells_3, List.getElem?_eq_getElem (by omega)] at h0
  obtain ⟨a0, r0⟩ := rd_3 _ _ _ h0
  have h1 : DataW.trod enc Tryz.prog W 0 (fun _ => true) true n 3 ((cs.drop 1).take (Tryz.prog.cellsOf 3)) = ys[1]? := hf 1 _ rfl
  rw [cells_3, List.getElem?_eq_getElem (by omega)] at h1
  obtain ⟨a1, r1⟩ := rd_3 _ _ _ h1
  have h2 : DataW.trod enc Tryz.prog W 0 (fun _ => true) true n 3 ((cs.drop 2).take (Tryz.prog.cellsOf 3)) = ys[2]? := hf 2 _ rfl
  rw [cells_3, List.getElem?_eq_getElem (by omega)] at h2
  obtain ⟨a2, r2⟩ := rd_3 _ _ _ h2
  have h3 : DataW.trod enc Tryz.prog W 0 (fun _ => true) true n 28 ((cs.drop 3).take (Tryz.prog.cellsOf 28)) = ys[3]? := hf 3 _ rfl
  rw [cells_28, List.getElem?_eq_getElem (by omega)] at h3
  obtain ⟨a3, r3⟩ := rd_28 _ _ _ h3
  have h4 : DataW.trod enc Tryz.prog W 0 (fun _ => true) true n 28 ((cs.drop 6).take (Tryz.prog.cellsOf 28)) = ys[4]? := hf 4 _ rfl
  rw [cells_28, List.getElem?_eq_getElem (by omega)] at h4
  obtain ⟨a4, r4⟩ := rd_28 _ _ _ h4
  have h5 : DataW.trod enc Tryz.prog W 0 (fun _ => true) true n 3 ((cs.drop 9).take (Tryz.prog.cellsOf 3)) = ys[5]? := hf 5 _ rfl
  rw [cells_3, List.getElem?_eq_getElem (by omega)] at h5
  obtain ⟨a5, r5⟩ := rd_3 _ _ _ h5
  have h6 : DataW.trod enc Tryz.prog W 0 (fun _ => true) true n 3 ((cs.drop 10).take (Tryz.prog.cellsOf 3)) = ys[6]? := hf 6 _ rfl
  rw [cells_3, List.getElem?_eq_getElem (by omega)] at h6
  obtain ⟨a6, r6⟩ := rd_3 _ _ _ h6
  have e0 : cs.drop 0 = (cs.drop 0).take 1 ++ cs.drop 1 := cut_cells cs 0 1
  have e1 : cs.drop 1 = (cs.drop 1).take 1 ++ cs.drop 2 := cut_cells cs 1 1
  have e2 : cs.drop 2 = (cs.drop 2).take 1 ++ cs.drop 3 := cut_cells cs 2 1
  have e3 : cs.drop 3 = (cs.drop 3).take 3 ++ cs.drop 6 := cut_cells cs 3 3
  have e4 : cs.drop 6 = (cs.drop 6).take 3 ++ cs.drop 9 := cut_cells cs 6 3
  have e5 : cs.drop 9 = (cs.drop 9).take 1 ++ cs.drop 10 := cut_cells cs 9 1
  have e6 : cs.drop 10 = (cs.drop 10).take 1 ++ cs.drop 11 := cut_cells cs 10 1
  have hend : cs.drop 11 = [] := List.drop_eq_nil_of_le (by omega)
  have hcs : cs = (cs.drop 0).take 1 ++ ((cs.drop 1).take 1 ++ ((cs.drop 2).take 1 ++ ((cs.drop 3).take 3 ++ ((cs.drop 6).take 3 ++ ((cs.drop 9).take 1 ++ ((cs.drop 10).take 1)))))) :=
    (List.drop_zero (l := cs)).symm.trans (e0.trans (congrArg (_ ++ ·) (e1.trans (congrArg (_ ++ ·) (e2.trans (congrArg (_ ++ ·) (e3.trans (congrArg (_ ++ ·) (e4.trans (congrArg (_ ++ ·) (e5.trans (congrArg (_ ++ ·) (e6.trans (by rw [hend, List.append_nil]))))))))))))))
  refine ⟨⟨a0, a1, a2, a3, a4, a5, a6⟩, ?_, ?_⟩
  · rw [hcs, show (cs.drop 0).take 1 = _ from r0.1, show (cs.drop 1).take 1 = _ from r1.1, show (cs.drop 2).take 1 = _ from r2.1, show (cs.drop 3).take 3 = _ from r3.1, show (cs.drop 6).take 3 = _ from r4.1, show (cs.drop 9).take 1 = _ from r5.1, show (cs.drop 10).take 1 = _ from r6.1]; rfl
  · exact ⟨r0.2, r1.2, r2.2, r3.2.1, r3.2.2.1, r3.2.2.2, r4.2.1, r4.2.2.1, r4.2.2.2, r5.2, r6.2⟩

theorem rd_29 {H : Type} {enc : TypeId × Value → H} {W : World} : Rd enc Tryz.prog W 29 (RSl RJob 11) := rd_slice Tryz.underlying29 cells_90 (by decide) rd_90

theorem cells_30 : Tryz.prog.cellsOf 30 = 1 := by kernel_rfl
theorem cells_92 : Tryz.prog.cellsOf 92 = 13 := by kernel_rfl
theorem rd_92 {H : Type} {enc : TypeId × Value → H} {W : World} : Rd enc Tryz.prog W 92 RRunA := by
  intro fuel cs x h
  obtain ⟨ys, n, _, _, hlen, hyl, hf⟩ := DataW.trod_struct Tryz.underlying92 h
  rw [cells_92] at hlen
  simp at hyl
  have h0 : DataW.trod enc Tryz.prog W 0 (fun _ => true) true n 90 ((cs.drop 0).take (Tryz.prog.cellsOf 90)) = ys[0]? := hf 0 _ rfl
  rw [cells_90, List.getElem?_eq_getElem (by omega)] at h0
  obtain ⟨a0, r0⟩ := rd_90 _ _ _ h0
  have h1 : DataW.trod enc Tryz.prog W 0 (fun _ => true) true n 3 ((cs.drop 11).take (Tryz.prog.cellsOf 3)) = ys[1]? := hf 1 _ rfl
  rw [cells_3, List.getElem?_eq_getElem (by omega)] at h1
  obtain ⟨a1, r1⟩ := rd_3 _ _ _ h1
  have h2 : DataW.trod enc Tryz.prog W 0 (fun _ => true) true n 22 ((cs.drop 12).take (Tryz.prog.cellsOf 22)) = ys[2]? := hf 2 _ rfl
  rw [cells_22, List.getElem?_eq_getElem (by omega)] at h2
  obtain ⟨a2, r2⟩ := rd_22 _ _ _ h2
  have e0 : cs.drop 0 = (cs.drop 0).take 11 ++ cs.drop 11 := cut_cells cs 0 11
  have e1 : cs.drop 11 = (cs.drop 11).take 1 ++ cs.drop 12 := cut_cells cs 11 1
  have e2 : cs.drop 12 = (cs.drop 12).take 1 ++ cs.drop 13 := cut_cells cs 12 1
  have hend : cs.drop 13 = [] := List.drop_eq_nil_of_le (by omega)
  have hcs : cs = (cs.drop 0).take 11 ++ ((cs.drop 11).take 1 ++ ((cs.drop 12).take 1)) :=
    (List.drop_zero (l := cs)).symm.trans (e0.trans (congrArg (_ ++ ·) (e1.trans (congrArg (_ ++ ·) (e2.trans (by rw [hend, List.append_nil]))))))
  exact ⟨⟨a0, a1, a2⟩, _, _, _, hcs, r0, r1, r2⟩

theorem rd_30 {H : Type} {enc : TypeId × Value → H} {W : World} : Rd enc Tryz.prog W 30 (RSl RRunA 13) := rd_slice Tryz.underlying30 cells_92 (by decide) rd_92

theorem cells_31 : Tryz.prog.cellsOf 31 = 1 := by kernel_rfl
theorem cells_110 : Tryz.prog.cellsOf 110 = 3 := by kernel_rfl
theorem rd_110 {H : Type} {enc : TypeId × Value → H} {W : World} : Rd enc Tryz.prog W 110 REnd := by
  intro fuel cs x h
  obtain ⟨ys, n, _, _, hlen, hyl, hf⟩ := DataW.trod_struct Tryz.underlying110 h
  rw [cells_110] at hlen
  simp at hyl
  have h0 : DataW.trod enc Tryz.prog W 0 (fun _ => true) true n 3 ((cs.drop 0).take (Tryz.prog.cellsOf 3)) = ys[0]? := hf 0 _ rfl
  rw [cells_3, List.getElem?_eq_getElem (by omega)] at h0
  obtain ⟨a0, r0⟩ := rd_3 _ _ _ h0
  have h1 : DataW.trod enc Tryz.prog W 0 (fun _ => true) true n 3 ((cs.drop 1).take (Tryz.prog.cellsOf 3)) = ys[1]? := hf 1 _ rfl
  rw [cells_3, List.getElem?_eq_getElem (by omega)] at h1
  obtain ⟨a1, r1⟩ := rd_3 _ _ _ h1
  have h2 : DataW.trod enc Tryz.prog W 0 (fun _ => true) true n 3 ((cs.drop 2).take (Tryz.prog.cellsOf 3)) = ys[2]? := hf 2 _ rfl
  rw [cells_3, List.getElem?_eq_getElem (by omega)] at h2
  obtain ⟨a2, r2⟩ := rd_3 _ _ _ h2
  have e0 : cs.drop 0 = (cs.drop 0).take 1 ++ cs.drop 1 := cut_cells cs 0 1
  have e1 : cs.drop 1 = (cs.drop 1).take 1 ++ cs.drop 2 := cut_cells cs 1 1
  have e2 : cs.drop 2 = (cs.drop 2).take 1 ++ cs.drop 3 := cut_cells cs 2 1
  have hend : cs.drop 3 = [] := List.drop_eq_nil_of_le (by omega)
  have hcs : cs = (cs.drop 0).take 1 ++ ((cs.drop 1).take 1 ++ ((cs.drop 2).take 1)) :=
    (List.drop_zero (l := cs)).symm.trans (e0.trans (congrArg (_ ++ ·) (e1.trans (congrArg (_ ++ ·) (e2.trans (by rw [hend, List.append_nil]))))))
  refine ⟨⟨a0, a1, a2⟩, ?_, ?_⟩
  · rw [hcs, show (cs.drop 0).take 1 = _ from r0.1, show (cs.drop 1).take 1 = _ from r1.1, show (cs.drop 2).take 1 = _ from r2.1]; rfl
  · exact ⟨r0.2, r1.2, r2.2⟩

theorem rd_31 {H : Type} {enc : TypeId × Value → H} {W : World} : Rd enc Tryz.prog W 31 (RSl REnd 3) := rd_slice Tryz.underlying31 cells_110 (by decide) rd_110

theorem rd_33 {H : Type} {enc : TypeId × Value → H} {W : World} : Rd enc Tryz.prog W 33 RStateA := by
  intro fuel cs x h
  obtain ⟨ys, n, _, _, hlen, hyl, hf⟩ := DataW.trod_struct Tryz.underlying33 h
  rw [cells_33] at hlen
  simp at hyl
  have h0 : DataW.trod enc Tryz.prog W 0 (fun _ => true) true n 25 ((cs.drop 0).take (Tryz.prog.cellsOf 25)) = ys[0]? := hf 0 _ rfl
  rw [cells_25, List.getElem?_eq_getElem (by omega)] at h0
  obtain ⟨a0, r0⟩ := rd_25 _ _ _ h0
  have h1 : DataW.trod enc Tryz.prog W 0 (fun _ => true) true n 26 ((cs.drop 2).take (Tryz.prog.cellsOf 26)) = ys[1]? := hf 1 _ rfl
  rw [cells_26, List.getElem?_eq_getElem (by omega)] at h1
  obtain ⟨a1, r1⟩ := rd_26 _ _ _ h1
  have h2 : DataW.trod enc Tryz.prog W 0 (fun _ => true) true n 28 ((cs.drop 3).take (Tryz.prog.cellsOf 28)) = ys[2]? := hf 2 _ rfl
  rw [cells_28, List.getElem?_eq_getElem (by omega)] at h2
  obtain ⟨a2, r2⟩ := rd_28 _ _ _ h2
  have h3 : DataW.trod enc Tryz.prog W 0 (fun _ => true) true n 3 ((cs.drop 6).take (Tryz.prog.cellsOf 3)) = ys[3]? := hf 3 _ rfl
  rw [cells_3, List.getElem?_eq_getElem (by omega)] at h3
  obtain ⟨a3, r3⟩ := rd_3 _ _ _ h3
  have h4 : DataW.trod enc Tryz.prog W 0 (fun _ => true) true n 3 ((cs.drop 7).take (Tryz.prog.cellsOf 3)) = ys[4]? := hf 4 _ rfl
  rw [cells_3, List.getElem?_eq_getElem (by omega)] at h4
  obtain ⟨a4, r4⟩ := rd_3 _ _ _ h4
  have h5 : DataW.trod enc Tryz.prog W 0 (fun _ => true) true n 29 ((cs.drop 8).take (Tryz.prog.cellsOf 29)) = ys[5]? := hf 5 _ rfl
  rw [cells_29, List.getElem?_eq_getElem (by omega)] at h5
  obtain ⟨a5, r5⟩ := rd_29 _ _ _ h5
  have h6 : DataW.trod enc Tryz.prog W 0 (fun _ => true) true n 30 ((cs.drop 9).take (Tryz.prog.cellsOf 30)) = ys[6]? := hf 6 _ rfl
  rw [cells_30, List.getElem?_eq_getElem (by omega)] at h6
  obtain ⟨a6, r6⟩ := rd_30 _ _ _ h6
  have h7 : DataW.trod enc Tryz.prog W 0 (fun _ => true) true n 31 ((cs.drop 10).take (Tryz.prog.cellsOf 31)) = ys[7]? := hf 7 _ rfl
  rw [cells_31, List.getElem?_eq_getElem (by omega)] at h7
  obtain ⟨a7, r7⟩ := rd_31 _ _ _ h7
  have e0 : cs.drop 0 = (cs.drop 0).take 2 ++ cs.drop 2 := cut_cells cs 0 2
  have e1 : cs.drop 2 = (cs.drop 2).take 1 ++ cs.drop 3 := cut_cells cs 2 1
  have e2 : cs.drop 3 = (cs.drop 3).take 3 ++ cs.drop 6 := cut_cells cs 3 3
  have e3 : cs.drop 6 = (cs.drop 6).take 1 ++ cs.drop 7 := cut_cells cs 6 1
  have e4 : cs.drop 7 = (cs.drop 7).take 1 ++ cs.drop 8 := cut_cells cs 7 1
  have e5 : cs.drop 8 = (cs.drop 8).take 1 ++ cs.drop 9 := cut_cells cs 8 1
  have e6 : cs.drop 9 = (cs.drop 9).take 1 ++ cs.drop 10 := cut_cells cs 9 1
  have e7 : cs.drop 10 = (cs.drop 10).take 1 ++ cs.drop 11 := cut_cells cs 10 1
  have hend : cs.drop 11 = [] := List.drop_eq_nil_of_le (by omega)
  have hcs : cs = (cs.drop 0).take 2 ++ ((cs.drop 2).take 1 ++ ((cs.drop 3).take 3 ++ ((cs.drop 6).take 1 ++ ((cs.drop 7).take 1 ++ ((cs.drop 8).take 1 ++ ((cs.drop 9).take 1 ++ ((cs.drop 10).take 1))))))) :=
    (List.drop_zero (l := cs)).symm.trans (e0.trans (congrArg (_ ++ ·) (e1.trans (congrArg (_ ++ ·) (e2.trans (congrArg (_ ++ ·) (e3.trans (congrArg (_ ++ ·) (e4.trans (congrArg (_ ++ ·) (e5.trans (congrArg (_ ++ ·) (e6.trans (congrArg (_ ++ ·) (e7.trans (by rw [hend, List.append_nil]))))))))))))))))
  exact ⟨⟨a0, a1, a2, a3, a4, a5, a6, a7⟩, _, _, _, _, _, _, _, _, hcs, r0, r1, r2, r3, r4, r5, r6, r7⟩

end Go.Proofs.YtfcffcgdbmkfgaaGreat
