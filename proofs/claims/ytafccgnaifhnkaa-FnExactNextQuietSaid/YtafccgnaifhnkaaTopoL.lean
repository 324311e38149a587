/- What the laws ask of a tree of switches: its size. -/
import Derived.Test.YtafccgnaifhnkaaNest
import Derived.Test.YtafccgnaifhnkaaLaw
namespace Go.Proofs.Ytafccgnaifhnkaa
open Go.RowKit
set_option linter.unusedVariables false
def RetSzT (w : World) (x : Topo) (left : Int) : Ending → World → Prop := fun e w' => ∃ z : Int, e = .returned (.int .i64 z) ∧ (z < 0 ∨ (0 ≤ z ∧ z ≤ left ∧ x.Parents.length ≤ 1048576 ∧ x.Nodes.length ≤ 1048576)) ∧ Ext w w'
theorem szInts_c (A : Option Addr) (n c : Nat) (left : Int) (w : World) (hn : n ≤ maxLen) (hl : left ≤ 1048576) (hl0 : 0 ≤ left) : Calls Try.prog 33 #[.slice A n c, .int .i64 left] w (Ret w (.int .i64 (szM n left))) := by
  unfold maxLen at hn
  go_enter Try.func33, Try.ntmps33
  by_cases h : left - n < 0
  · go_wp2
    exact ret_int rfl rfl rfl (by unfold szM; split <;> omega) (Ext.refl _)
  · go_wp2
    exact ret_int rfl rfl rfl (by unfold szM; split <;> omega) (Ext.refl _)
set_option maxHeartbeats 2000000 in
theorem szTopo_c (x : Topo) (A : Option Addr) (c : Nat) (B : Option Addr) (d : Nat) (left : Int) (w : World) (h1 : x.Parents.length ≤ maxLen) (h2 : x.Nodes.length ≤ maxLen) (hl : left ≤ 1048576) (h0 : 0 ≤ left) : Calls Try.prog 9 #[.agg #[.slice A x.Parents.length c, .slice B x.Nodes.length d], .int .i64 left] w (RetSzT w x left) := by
  have H1 := Lib.hid (fun (u : World) => szInts_c A x.Parents.length c left u h1 hl h0)
  have H2 := Lib.hid (fun (l : Int) (u : World) (a : l ≤ 1048576) (b : 0 ≤ l) => szNodeS_c B x.Nodes.length d l u h2 a b)
  have HC := Lib.hid (szM_cases x.Parents.length left)
  have HC2 := Lib.hid (fun l : Int => szM_cases x.Nodes.length l)
  unfold RetSzT
  unfold maxLen at h1 h2
  generalize x.Parents.length = n at *
  generalize x.Nodes.length = m at *
  go_enter Try.func9, Try.ntmps9
  go_wp2_with fail
  refine (H1.out _).mono ?_
  rintro e w1 ⟨rfl, hb1⟩
  have q1 := hb1.cell (law_box w [.slice A n c, .slice B m d] 25 1 _ rfl)
  have hsz := lt_of_cell q1
  rcases HC.out with hz | ⟨hz, hle, he⟩
  · generalize szM n left = z at *
    go_wp2
    refine bodyPost_ret (v := .int .i64 (-1)) (by simp [results, Try.results9, go_sem]) rfl ⟨-1, rfl, .inl (by omega), ((Ext.refl w).alloc _).trans hb1⟩
  have hz0 : 0 ≤ szM n left := by omega
  have hz1 : szM n left ≤ left := by omega
  have HE := Lib.hid he
  clear he
  generalize szM n left = z at *
  go_wp2_with fail
  refine (H2.out z _ (by omega) (by omega)).mono ?_
  rintro e w2 ⟨rfl, hb2⟩
  rcases HC2.out z with hy | ⟨hy, hle2, he2⟩
  · generalize szM m z = y at *
    go_wp2
    refine bodyPost_ret (v := .int .i64 (-1)) (by simp [results, Try.results9, go_sem]) rfl ⟨-1, rfl, .inl (by omega), (((Ext.refl w).alloc _).trans hb1).trans hb2⟩
  have hy0 : 0 ≤ szM m z := by omega
  have hy1 : szM m z ≤ left := by omega
  clear he2
  generalize szM m z = y at *
  go_wp2
  refine bodyPost_ret (v := .int .i64 (y)) (by simp [results, Try.results9, go_sem]) rfl ⟨y, rfl, .inr ⟨hy0, hy1, by omega, by omega⟩, (((Ext.refl w).alloc _).trans hb1).trans hb2⟩
end Go.Proofs.Ytafccgnaifhnkaa
