/- How the arguments of the laws read. Written by frame.py. -/
import Derived.Test.YtgnbjnlcikpknaaRows
import Derived.Test.YtgnbjnlcikpknaaRead
namespace Go.Proofs.Ytgnbjnlcikpknaa
open Go.RowKit Go.ChangeShapes Go.WideShapes Go.Deep

theorem cells_22 : Try.prog.cellsOf 22 = 1 := by kernel_rfl
theorem cells_5 : Try.prog.cellsOf 5 = 1 := by kernel_rfl
theorem rd_5 {H : Type} {enc : TypeId × Value → H} {W : World} : Rd enc Try.prog W 5 RU8 := rd_u8 Try.underlying5

theorem rd_22 {H : Type} {enc : TypeId × Value → H} {W : World} : Rd enc Try.prog W 22 (RSl RU8 1) := rd_slice Try.underlying22 cells_5 (by decide) rd_5

theorem cells_41 : Try.prog.cellsOf 41 = 1 := by kernel_rfl
theorem cells_52 : Try.prog.cellsOf 52 = 2 := by kernel_rfl
theorem cells_3 : Try.prog.cellsOf 3 = 1 := by kernel_rfl
theorem rd_3 {H : Type} {enc : TypeId × Value → H} {W : World} : Rd enc Try.prog W 3 RInt := rd_int Try.underlying3

theorem rd_52 {H : Type} {enc : TypeId × Value → H} {W : World} : Rd enc Try.prog W 52 RDep := by
  intro fuel cs x h
  obtain ⟨ys, n, _, _, hlen, hyl, hf⟩ := DataW.trod_struct Try.underlying52 h
  rw [cells_52] at hlen
  simp at hyl
  have h0 : DataW.trod enc Try.prog W 0 (fun _ => true) true n 3 ((cs.drop 0).take (Try.prog.cellsOf 3)) = ys[0]? := hf 0 _ rfl
  rw [cells_3, List.getElem?_eq_getElem (by omega)] at h0
  obtain ⟨a0, r0⟩ := rd_3 _ _ _ h0
  have h1 : DataW.trod enc Try.prog W 0 (fun _ => true) true n 3 ((cs.drop 1).take (Try.prog.cellsOf 3)) = ys[1]? := hf 1 _ rfl
  rw [cells_3, List.getElem?_eq_getElem (by omega)] at h1
  obtain ⟨a1, r1⟩ := rd_3 _ _ _ h1
  have e0 : cs.drop 0 = (cs.drop 0).take 1 ++ cs.drop 1 := cut_cells cs 0 1
  have e1 : cs.drop 1 = (cs.drop 1).take 1 ++ cs.drop 2 := cut_cells cs 1 1
  have hend : cs.drop 2 = [] := List.drop_eq_nil_of_le (by omega)
  have hcs : cs = (cs.drop 0).take 1 ++ ((cs.drop 1).take 1) :=
    (List.drop_zero (l := cs)).symm.trans (e0.trans (congrArg (_ ++ ·) (e1.trans (by rw [hend, List.append_nil]))))
  refine ⟨⟨a0, a1⟩, ?_, ?_⟩
  · rw [hcs, show (cs.drop 0).take 1 = _ from r0.1, show (cs.drop 1).take 1 = _ from r1.1]; rfl
  · exact ⟨r0.2, r1.2⟩

theorem rd_41 {H : Type} {enc : TypeId × Value → H} {W : World} : Rd enc Try.prog W 41 (RSl RDep 2) := rd_slice Try.underlying41 cells_52 (by decide) rd_52

theorem cells_24 : Try.prog.cellsOf 24 = 1 := by kernel_rfl
theorem rd_24 {H : Type} {enc : TypeId × Value → H} {W : World} : Rd enc Try.prog W 24 (RSl RInt 1) := rd_slice Try.underlying24 cells_3 (by decide) rd_3

end Go.Proofs.Ytgnbjnlcikpknaa
