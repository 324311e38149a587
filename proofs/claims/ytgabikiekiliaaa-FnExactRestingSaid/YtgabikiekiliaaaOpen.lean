/- How the arguments of the laws read. Written by frame.py. -/
import Derived.Test.YtgabikiekiliaaaRows
import Derived.Test.YtgabikiekiliaaaRead
import Derived.Test.YtgabikiekiliaaaNest
import Derived.Test.YtgabikiekiliaaaNest2
namespace Go.Proofs.Ytgabikiekiliaaa
open Go.RowKit Go.ChangeShapes Go.WideShapes Go.Deep

theorem cells_24 : Try.prog.cellsOf 24 = 1 := by kernel_rfl
theorem cells_22 : Try.prog.cellsOf 22 = 1 := by kernel_rfl
theorem cells_94 : Try.prog.cellsOf 94 = 4 := by kernel_rfl
theorem cells_3 : Try.prog.cellsOf 3 = 1 := by kernel_rfl
theorem rd_3 {H : Type} {enc : TypeId × Value → H} {W : World} : Rd enc Try.prog W 3 RInt := rd_int Try.underlying3

theorem cells_37 : Try.prog.cellsOf 37 = 3 := by kernel_rfl
theorem rd_37 {H : Type} {enc : TypeId × Value → H} {W : World} : Rd enc Try.prog W 37 RVec := by
  intro fuel cs x h
  obtain ⟨ys, n, _, _, hlen, hyl, hf⟩ := DataW.trod_struct Try.underlying37 h
  rw [cells_37] at hlen
  simp at hyl
  have h0 : DataW.trod enc Try.prog W 0 (fun _ => true) true n 3 ((cs.drop 0).take (Try.prog.cellsOf 3)) = ys[0]? := hf 0 _ rfl
  rw [cells_3, List.getElem?_eq_getElem (by omega)] at h0
  obtain ⟨a0, r0⟩ := rd_3 _ _ _ h0
  have h1 : DataW.trod enc Try.prog W 0 (fun _ => true) true n 3 ((cs.drop 1).take (Try.prog.cellsOf 3)) = ys[1]? := hf 1 _ rfl
  rw [cells_3, List.getElem?_eq_getElem (by omega)] at h1
  obtain ⟨a1, r1⟩ := rd_3 _ _ _ h1
  have h2 : DataW.trod enc Try.prog W 0 (fun _ => true) true n 3 ((cs.drop 2).take (Try.prog.cellsOf 3)) = ys[2]? := hf 2 _ rfl
  rw [cells_3, List.getElem?_eq_getElem (by omega)] at h2
  obtain ⟨a2, r2⟩ := rd_3 _ _ _ h2
  have e0 : cs.drop 0 = (cs.drop 0).take 1 ++ cs.drop 1 := cut_cells cs 0 1
  have e1 : cs.drop 1 = (cs.drop 1).take 1 ++ cs.drop 2 := cut_cells cs 1 1
  have e2 : cs.drop 2 = (cs.drop 2).take 1 ++ cs.drop 3 := cut_cells cs 2 1
  have hend : cs.drop 3 = [] := List.drop_eq_nil_of_le (by omega)
  have hcs : cs = (cs.drop 0).take 1 ++ ((cs.drop 1).take 1 ++ ((cs.drop 2).take 1)) :=
    (List.drop_zero (l := cs)).symm.trans (e0.trans (congrArg (_ ++ ·) (e1.trans (congrArg (_ ++ ·) (e2.trans (by rw [hend, List.append_nil]))))))
  refine ⟨⟨a0, a1, a2⟩, ?_, ?_⟩
  · rw [hcs, show (cs.drop 0).take 1 = _ from r0.1, show (cs.drop 1).take 1 = _ from r1.1, show (cs.drop 2).take 1 = _ from r2.1]; rfl
  · exact ⟨r0.2, r1.2, r2.2⟩

theorem rd_94 {H : Type} {enc : TypeId × Value → H} {W : World} : Rd enc Try.prog W 94 RPt := by
  intro fuel cs x h
  obtain ⟨ys, n, _, _, hlen, hyl, hf⟩ := DataW.trod_struct Try.underlying94 h
  rw [cells_94] at hlen
  simp at hyl
  have h0 : DataW.trod enc Try.prog W 0 (fun _ => true) true n 3 ((cs.drop 0).take (Try.prog.cellsOf 3)) = ys[0]? := hf 0 _ rfl
  rw [cells_3, List.getElem?_eq_getElem (by omega)] at h0
  obtain ⟨a0, r0⟩ := rd_3 _ _ _ h0
  have h1 : DataW.trod enc Try.prog W 0 (fun _ => true) true n 37 ((cs.drop 1).take (Try.prog.cellsOf 37)) = ys[1]? := hf 1 _ rfl
  rw [cells_37, List.getElem?_eq_getElem (by omega)] at h1
  obtain ⟨a1, r1⟩ := rd_37 _ _ _ h1
  have e0 : cs.drop 0 = (cs.drop 0).take 1 ++ cs.drop 1 := cut_cells cs 0 1
  have e1 : cs.drop 1 = (cs.drop 1).take 3 ++ cs.drop 4 := cut_cells cs 1 3
  have hend : cs.drop 4 = [] := List.drop_eq_nil_of_le (by omega)
  have hcs : cs = (cs.drop 0).take 1 ++ ((cs.drop 1).take 3) :=
    (List.drop_zero (l := cs)).symm.trans (e0.trans (congrArg (_ ++ ·) (e1.trans (by rw [hend, List.append_nil]))))
  refine ⟨⟨a0, a1⟩, ?_, ?_⟩
  · rw [hcs, show (cs.drop 0).take 1 = _ from r0.1, show (cs.drop 1).take 3 = _ from r1.1]; rfl
  · exact ⟨r0.2, r1.2.1, r1.2.2.1, r1.2.2.2⟩

theorem rd_22 {H : Type} {enc : TypeId × Value → H} {W : World} : Rd enc Try.prog W 22 (RSl RPt 4) := rd_slice Try.underlying22 cells_94 (by decide) rd_94

theorem rd_24 {H : Type} {enc : TypeId × Value → H} {W : World} : Rd enc Try.prog W 24 RProf := by
  intro fuel cs x h
  obtain ⟨ys, n, _, _, hlen, hyl, hf⟩ := DataW.trod_struct Try.underlying24 h
  rw [cells_24] at hlen
  simp at hyl
  have h0 : DataW.trod enc Try.prog W 0 (fun _ => true) true n 22 ((cs.drop 0).take (Try.prog.cellsOf 22)) = ys[0]? := hf 0 _ rfl
  rw [cells_22, List.getElem?_eq_getElem (by omega)] at h0
  obtain ⟨a0, r0⟩ := rd_22 _ _ _ h0
  have e0 : cs.drop 0 = (cs.drop 0).take 1 ++ cs.drop 1 := cut_cells cs 0 1
  have hend : cs.drop 1 = [] := List.drop_eq_nil_of_le (by omega)
  have hcs : cs = (cs.drop 0).take 1 :=
    (List.drop_zero (l := cs)).symm.trans (e0.trans (by rw [hend, List.append_nil]))
  exact ⟨⟨a0⟩, _, hcs, r0⟩

theorem cells_42 : Try.prog.cellsOf 42 = 1 := by kernel_rfl
theorem cells_5 : Try.prog.cellsOf 5 = 1 := by kernel_rfl
theorem rd_5 {H : Type} {enc : TypeId × Value → H} {W : World} : Rd enc Try.prog W 5 RU8 := rd_u8 Try.underlying5

theorem rd_42 {H : Type} {enc : TypeId × Value → H} {W : World} : Rd enc Try.prog W 42 (RSl RU8 1) := rd_slice Try.underlying42 cells_5 (by decide) rd_5

theorem cells_46 : Try.prog.cellsOf 46 = 1 := by kernel_rfl
theorem cells_80 : Try.prog.cellsOf 80 = 3 := by kernel_rfl
theorem cells_56 : Try.prog.cellsOf 56 = 1 := by kernel_rfl
theorem rd_56 {H : Type} {enc : TypeId × Value → H} {W : World} : Rd enc Try.prog W 56 (RSl RInt 1) := rd_slice Try.underlying56 cells_3 (by decide) rd_3

theorem rd_80 {H : Type} {enc : TypeId × Value → H} {W : World} : Rd enc Try.prog W 80 RWindow := by
  intro fuel cs x h
  obtain ⟨ys, n, _, _, hlen, hyl, hf⟩ := DataW.trod_struct Try.underlying80 h
  rw [cells_80] at hlen
  simp at hyl
  have h0 : DataW.trod enc Try.prog W 0 (fun _ => true) true n 3 ((cs.drop 0).take (Try.prog.cellsOf 3)) = ys[0]? := hf 0 _ rfl
  rw [cells_3, List.getElem?_eq_getElem (by omega)] at h0
  obtain ⟨a0, r0⟩ := rd_3 _ _ _ h0
  have h1 : DataW.trod enc Try.prog W 0 (fun _ => true) true n 3 ((cs.drop 1).take (Try.prog.cellsOf 3)) = ys[1]? := hf 1 _ rfl
  rw [cells_3, List.getElem?_eq_getElem (by omega)] at h1
  obtain ⟨a1, r1⟩ := rd_3 _ _ _ h1
  have h2 : DataW.trod enc Try.prog W 0 (fun _ => true) true n 56 ((cs.drop 2).take (Try.prog.cellsOf 56)) = ys[2]? := hf 2 _ rfl
  rw [cells_56, List.getElem?_eq_getElem (by omega)] at h2
  obtain ⟨a2, r2⟩ := rd_56 _ _ _ h2
  have e0 : cs.drop 0 = (cs.drop 0).take 1 ++ cs.drop 1 := cut_cells cs 0 1
  have e1 : cs.drop 1 = (cs.drop 1).take 1 ++ cs.drop 2 := cut_cells cs 1 1
  have e2 : cs.drop 2 = (cs.drop 2).take 1 ++ cs.drop 3 := cut_cells cs 2 1
  have hend : cs.drop 3 = [] := List.drop_eq_nil_of_le (by omega)
  have hcs : cs = (cs.drop 0).take 1 ++ ((cs.drop 1).take 1 ++ ((cs.drop 2).take 1)) :=
    (List.drop_zero (l := cs)).symm.trans (e0.trans (congrArg (_ ++ ·) (e1.trans (congrArg (_ ++ ·) (e2.trans (by rw [hend, List.append_nil]))))))
  exact ⟨⟨a0, a1, a2⟩, _, _, _, hcs, r0, r1, r2⟩

theorem rd_46 {H : Type} {enc : TypeId × Value → H} {W : World} : Rd enc Try.prog W 46 (RSl RWindow 3) := rd_slice Try.underlying46 cells_80 (by decide) rd_80

end Go.Proofs.Ytgabikiekiliaaa
