/- Contracts of the laws' marks. Written by gen.py. -/
import Derived.Test.YtmnghgacglppeaaMark
namespace Go.Proofs.Ytmnghgacglppeaa
open Go.RowKit

def mkHold (k : Int) : List Value := [.string (mtext (k).toNat), .int .i64 (k + 1), .int .i64 (k + 1 + 1), .int .i64 (k + 1 + 1 + 1), .int .i64 (k + 1 + 1 + 1 + 1), .int .i64 (k + 1 + 1 + 1 + 1 + 1), .int .i64 (k + 1 + 1 + 1 + 1 + 1 + 1), .int .i64 (k + 1 + 1 + 1 + 1 + 1 + 1 + 1), .int .i64 (k + 1 + 1 + 1 + 1 + 1 + 1 + 1 + 1), .int .i64 (k + 1 + 1 + 1 + 1 + 1 + 1 + 1 + 1 + 1), .int .i64 (k + 1 + 1 + 1 + 1 + 1 + 1 + 1 + 1 + 1 + 1), .int .i64 (k + 1 + 1 + 1 + 1 + 1 + 1 + 1 + 1 + 1 + 1 + 1)]
theorem mkHold_len (k : Int) : (mkHold k).length = 12 := rfl
set_option maxHeartbeats 2000000 in
set_option maxRecDepth 10000 in
theorem markHoldS_c (A : Option Addr) (n c base : Nat) (L0 : List Value) (k : Int) (w : World) (hown : w.ownsRow base 57 12 (.slice A n c) n L0) (hn : n ≤ 1048576) (hk0 : 0 < k) (hk1 : k ≤ 1125899906842624) :
    Calls Try.prog 24 #[.slice A n c, .int .i64 k] w (Marked mkHold 12 57 w base (.slice A n c) k n) := by
  go_enter Try.func24, Try.ntmps24
  go_wp2
  go_loopw [1, 5] (fun q x wr => ∃ (i : Nat) (L : List Value), i ≤ n ∧ x = .int .i64 i ∧ q = .int .i64 (k + 12 * i) ∧ wr.ownsRow base 57 12 (.slice A n c) n L ∧ L.take (i * 12) = marks mkHold 12 k i ∧ w.grownBy wr (Value.ownBlock (.slice A n c))) (fun _ x _ => n - (intOf x).toNat)
  case atStart => exact ⟨0, L0, Nat.zero_le _, rfl, by simp, hown, by simp [marks], World.grownBy.refl w _⟩
  case round =>
    obtain ⟨i, L, hi, rfl, rfl, hown', hL, hg⟩ := hrel
    clear hown
    have HL := Lib.hid hL
    clear hL
    by_cases hlt : i < n
    · obtain ⟨g, cap, e1, _, _⟩ := own_form hown' (by omega)
      injection e1 with e1 _ e3
      subst e1 e3
      have HG := Lib.hid hg
      have HO := Lib.hid hown'
      have HM := Lib.hid (marks_succ mkHold 12 i k)
      clear hown' hg
      have hK0 : 0 < k + 12 * (i : Int) := by omega
      have hK1 : k + 12 * (i : Int) ≤ 1125899906842624 + 12 * 1048576 := by omega
      have HK : Hid ((k + 12 * (i : Int)) + 12 = k + 12 * ((i + 1 : Nat) : Int)) := (by omega : (k + 12 * (i : Int)) + 12 = k + 12 * ((i + 1 : Nat) : Int))
      generalize k + 12 * (i : Int) = K at *
      go_wp2_with ((go_at_call 50; refine (markText_i _ _ (by omega) (by omega)).mono ?_; rintro e w2 ⟨rfl, hb2⟩; obtain ⟨y0, hy0⟩ := owns_cell (owns_ext HO.out hb2) (j := i * 12) (by omega); have z0 := (owns_ext HO.out hb2).frozenAt (i * 12); obtain ⟨y1, hy1⟩ := owns_cell (owns_ext HO.out hb2) (j := i * 12 + 1) (by omega); have z1 := (owns_ext HO.out hb2).frozenAt (i * 12 + 1); obtain ⟨y2, hy2⟩ := owns_cell (owns_ext HO.out hb2) (j := i * 12 + 2) (by omega); have z2 := (owns_ext HO.out hb2).frozenAt (i * 12 + 2); obtain ⟨y3, hy3⟩ := owns_cell (owns_ext HO.out hb2) (j := i * 12 + 3) (by omega); have z3 := (owns_ext HO.out hb2).frozenAt (i * 12 + 3); obtain ⟨y4, hy4⟩ := owns_cell (owns_ext HO.out hb2) (j := i * 12 + 4) (by omega); have z4 := (owns_ext HO.out hb2).frozenAt (i * 12 + 4); obtain ⟨y5, hy5⟩ := owns_cell (owns_ext HO.out hb2) (j := i * 12 + 5) (by omega); have z5 := (owns_ext HO.out hb2).frozenAt (i * 12 + 5); obtain ⟨y6, hy6⟩ := owns_cell (owns_ext HO.out hb2) (j := i * 12 + 6) (by omega); have z6 := (owns_ext HO.out hb2).frozenAt (i * 12 + 6); obtain ⟨y7, hy7⟩ := owns_cell (owns_ext HO.out hb2) (j := i * 12 + 7) (by omega); have z7 := (owns_ext HO.out hb2).frozenAt (i * 12 + 7); obtain ⟨y8, hy8⟩ := owns_cell (owns_ext HO.out hb2) (j := i * 12 + 8) (by omega); have z8 := (owns_ext HO.out hb2).frozenAt (i * 12 + 8); obtain ⟨y9, hy9⟩ := owns_cell (owns_ext HO.out hb2) (j := i * 12 + 9) (by omega); have z9 := (owns_ext HO.out hb2).frozenAt (i * 12 + 9); obtain ⟨y10, hy10⟩ := owns_cell (owns_ext HO.out hb2) (j := i * 12 + 10) (by omega); have z10 := (owns_ext HO.out hb2).frozenAt (i * 12 + 10); obtain ⟨y11, hy11⟩ := owns_cell (owns_ext HO.out hb2) (j := i * 12 + 11) (by omega); have z11 := (owns_ext HO.out hb2).frozenAt (i * 12 + 11)))
      go_roundw
      case rel => exact ⟨i + 1, setAll L (i * 12) (mkHold K), by omega, by go_num, by rw [← HK.out] <;> go_num, owns_puts (mkHold K) _ _ _ (owns_ext HO.out hb2), by rw [show (i + 1) * 12 = i * 12 + (mkHold K).length by rw [Nat.add_mul]; rfl, take_setAll _ _ _ (by rw [HO.out.1]; have : (i + 1) * 12 ≤ n * 12 := Nat.mul_le_mul_right _ hlt; rw [Nat.add_mul] at this; simpa [mkHold] using this), HL.out]; exact HM.out.symm, grownBy_puts (mkHold K) _ _ (grownBy_ext HG.out hb2)⟩
      case measure => simp [intOf]; omega
    · have hin : i = n := by omega
      have HO := Lib.hid hown'
      have HG := Lib.hid hg
      clear hown' hg
      go_wp2
      exact ret_marked rfl HO.out HL.out hin HG.out rfl

set_option maxHeartbeats 2000000 in
set_option maxRecDepth 10000 in
theorem heldHoldS_c (A : Option Addr) (n c base : Nat) (k : Int) (w : World) (hown : w.ownsRow base 57 12 (.slice A n c) n (marks mkHold 12 k n)) (hn : n ≤ 1048576) (hk0 : 0 < k) (hk1 : k ≤ 1125899906842624) :
    Calls Try.prog 25 #[.slice A n c, .int .i64 k] w (Ret w (.int .i64 (k + 12 * n))) := by
  go_enter Try.func25, Try.ntmps25
  go_wp2
  go_loopw [1, 5] (fun q x wr => ∃ i : Nat, i ≤ n ∧ x = .int .i64 i ∧ q = .int .i64 (k + 12 * i) ∧ Ext w wr) (fun _ x _ => n - (intOf x).toNat)
  case atStart => exact ⟨0, Nat.zero_le _, rfl, by simp, Ext.refl _⟩
  case round =>
    obtain ⟨i, hi, rfl, rfl, hb⟩ := hrel
    by_cases hlt : i < n
    · obtain ⟨g, cap, e1, _, _⟩ := own_form hown (by omega)
      injection e1 with e1 _ e3
      subst e1 e3
      have hown2 := owns_ext hown hb
      have HC : Hid (∀ j, j < 12 → (marks mkHold 12 k n)[i * 12 + j]? = (mkHold (k + 12 * i))[j]?) := fun j hj => marks_get mkHold_len n k i j hlt hj
      clear hown
      have hK0 : 0 < k + 12 * (i : Int) := by omega
      have hK1 : k + 12 * (i : Int) ≤ 1125899906842624 + 12 * 1048576 := by omega
      have HK : Hid ((k + 12 * (i : Int)) + 12 = k + 12 * ((i + 1 : Nat) : Int)) := (by omega : (k + 12 * (i : Int)) + 12 = k + 12 * ((i + 1 : Nat) : Int))
      generalize k + 12 * (i : Int) = K at *
      have c0 : wr.cell? ⟨g, i * 12, none⟩ = some (.string (mtext (K).toNat)) := by rw [hown2.cellAt _ (by omega)]; exact HC.out 0 (by omega)
      have c1 : wr.cell? ⟨g, i * 12 + 1, none⟩ = some (.int .i64 (K + 1)) := by rw [hown2.cellAt _ (by omega)]; exact HC.out 1 (by omega)
      have c2 : wr.cell? ⟨g, i * 12 + 2, none⟩ = some (.int .i64 (K + 1 + 1)) := by rw [hown2.cellAt _ (by omega)]; exact HC.out 2 (by omega)
      have c3 : wr.cell? ⟨g, i * 12 + 3, none⟩ = some (.int .i64 (K + 1 + 1 + 1)) := by rw [hown2.cellAt _ (by omega)]; exact HC.out 3 (by omega)
      have c4 : wr.cell? ⟨g, i * 12 + 4, none⟩ = some (.int .i64 (K + 1 + 1 + 1 + 1)) := by rw [hown2.cellAt _ (by omega)]; exact HC.out 4 (by omega)
      have c5 : wr.cell? ⟨g, i * 12 + 5, none⟩ = some (.int .i64 (K + 1 + 1 + 1 + 1 + 1)) := by rw [hown2.cellAt _ (by omega)]; exact HC.out 5 (by omega)
      have c6 : wr.cell? ⟨g, i * 12 + 6, none⟩ = some (.int .i64 (K + 1 + 1 + 1 + 1 + 1 + 1)) := by rw [hown2.cellAt _ (by omega)]; exact HC.out 6 (by omega)
      have c7 : wr.cell? ⟨g, i * 12 + 7, none⟩ = some (.int .i64 (K + 1 + 1 + 1 + 1 + 1 + 1 + 1)) := by rw [hown2.cellAt _ (by omega)]; exact HC.out 7 (by omega)
      have c8 : wr.cell? ⟨g, i * 12 + 8, none⟩ = some (.int .i64 (K + 1 + 1 + 1 + 1 + 1 + 1 + 1 + 1)) := by rw [hown2.cellAt _ (by omega)]; exact HC.out 8 (by omega)
      have c9 : wr.cell? ⟨g, i * 12 + 9, none⟩ = some (.int .i64 (K + 1 + 1 + 1 + 1 + 1 + 1 + 1 + 1 + 1)) := by rw [hown2.cellAt _ (by omega)]; exact HC.out 9 (by omega)
      have c10 : wr.cell? ⟨g, i * 12 + 10, none⟩ = some (.int .i64 (K + 1 + 1 + 1 + 1 + 1 + 1 + 1 + 1 + 1 + 1)) := by rw [hown2.cellAt _ (by omega)]; exact HC.out 10 (by omega)
      have c11 : wr.cell? ⟨g, i * 12 + 11, none⟩ = some (.int .i64 (K + 1 + 1 + 1 + 1 + 1 + 1 + 1 + 1 + 1 + 1 + 1)) := by rw [hown2.cellAt _ (by omega)]; exact HC.out 11 (by omega)
      go_wp2
      have hcx := @Later.cell wr
      have hgw : g < wr.heap.size := (owns_lt hown2).2
      clear hown2
      refine wp_region_ext (by kernel_rfl) (by kernel_rfl) ?_
      repeat (go_big_quiet_step ((go_at_call 50; exact Calls.quiet_ext (markText_i _ _ (by omega) (by omega)))))
      refine wpQuiet_nil ?_
      intro w1 hb1
      obtain ⟨hcr1, hfr1, hz1⟩ := hb1.rules
      go_wp2
      go_roundw
      case rel => exact ⟨i + 1, by omega, by go_num, by rw [← HK.out] <;> go_num, hb.trans hb1⟩
      case measure => simp [intOf]; omega
    · have hin : i = n := by omega
      subst hin
      clear hown
      go_wp2
      exact ret_int rfl rfl rfl rfl hb

end Go.Proofs.Ytmnghgacglppeaa
