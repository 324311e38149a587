/- Contracts of the laws' marks. Written by gen.py. -/
import Derived.Test.YtfogmplpaopciabMark
namespace Go.Proofs.Ytfogmplpaopciab
open Go.RowKit

def mkInt (k : Int) : List Value := [.int .i64 (k)]
theorem mkInt_len (k : Int) : (mkInt k).length = 1 := rfl
set_option maxHeartbeats 2000000 in
theorem markIntS_c (A : Option Addr) (n c base : Nat) (L0 : List Value) (k : Int) (w : World) (hown : w.ownsRow base 3 1 (.slice A n c) n L0) (hn : n ≤ 1048576) (hk0 : 0 < k) (hk1 : k ≤ 1125899906842624) :
    Calls Try.prog 15 #[.slice A n c, .int .i64 k] w (Marked mkInt 1 3 w base (.slice A n c) k n) := by
  go_enter Try.func15, Try.ntmps15
  go_wp2
  go_loopw [1, 5] (fun q x wr => ∃ (i : Nat) (L : List Value), i ≤ n ∧ x = .int .i64 i ∧ q = .int .i64 (k + 1 * i) ∧ wr.ownsRow base 3 1 (.slice A n c) n L ∧ L.take (i * 1) = marks mkInt 1 k i ∧ w.grownBy wr (Value.ownBlock (.slice A n c))) (fun _ x _ => n - (intOf x).toNat)
  case atStart => exact ⟨0, L0, Nat.zero_le _, rfl, by simp, hown, by simp [marks], World.grownBy.refl w _⟩
  case round =>
    obtain ⟨i, L, hi, rfl, rfl, hown', hL, hg⟩ := hrel
    clear hown
    have HL := Lib.hid hL
    clear hL
    by_cases hlt : i < n
    · obtain ⟨g, cap, e1, _, _⟩ := own_form hown' (by omega)
      injection e1 with e1 _ e3
      subst e1 e3
      have HG := Lib.hid hg
      have HO := Lib.hid hown'
      have HM := Lib.hid (marks_succ mkInt 1 i k)
      obtain ⟨y0, hy0⟩ := owns_cell hown' (j := i) (by omega)
      have z0 := hown'.frozenAt (i)
      clear hown' hg
      have hK0 : 0 < k + 1 * (i : Int) := by omega
      have hK1 : k + 1 * (i : Int) ≤ 1125899906842624 + 1 * 1048576 := by omega
      have HK : Hid ((k + 1 * (i : Int)) + 1 = k + 1 * ((i + 1 : Nat) : Int)) := (by omega : (k + 1 * (i : Int)) + 1 = k + 1 * ((i + 1 : Nat) : Int))
      generalize k + 1 * (i : Int) = K at *
      go_wp2
      go_roundw
      case rel => exact ⟨i + 1, setAll L (i * 1) (mkInt K), by omega, by go_num, by rw [← HK.out] <;> go_num, by rw [Nat.mul_one]; exact owns_puts (mkInt K) _ _ _ HO.out, by rw [show (i + 1) * 1 = i * 1 + (mkInt K).length by rw [Nat.add_mul]; rfl, take_setAll _ _ _ (by rw [HO.out.1]; have : (i + 1) * 1 ≤ n * 1 := Nat.mul_le_mul_right _ hlt; rw [Nat.add_mul] at this; simpa [mkInt] using this), HL.out]; exact HM.out.symm, grownBy_puts (mkInt K) _ _ HG.out⟩
      case measure => simp [intOf]; omega
    · have hin : i = n := by omega
      have HO := Lib.hid hown'
      have HG := Lib.hid hg
      clear hown' hg
      go_wp2
      exact ret_marked rfl HO.out HL.out hin HG.out rfl

set_option maxHeartbeats 2000000 in
theorem heldIntS_c (A : Option Addr) (n c base : Nat) (k : Int) (w : World) (hown : w.ownsRow base 3 1 (.slice A n c) n (marks mkInt 1 k n)) (hn : n ≤ 1048576) (hk0 : 0 < k) (hk1 : k ≤ 1125899906842624) :
    Calls Try.prog 16 #[.slice A n c, .int .i64 k] w (Ret w (.int .i64 (k + 1 * n))) := by
  go_enter Try.func16, Try.ntmps16
  go_wp2
  go_loopw [1, 5] (fun q x wr => ∃ i : Nat, i ≤ n ∧ x = .int .i64 i ∧ q = .int .i64 (k + 1 * i) ∧ Ext w wr) (fun _ x _ => n - (intOf x).toNat)
  case atStart => exact ⟨0, Nat.zero_le _, rfl, by simp, Ext.refl _⟩
  case round =>
    obtain ⟨i, hi, rfl, rfl, hb⟩ := hrel
    by_cases hlt : i < n
    · obtain ⟨g, cap, e1, _, _⟩ := own_form hown (by omega)
      injection e1 with e1 _ e3
      subst e1 e3
      have hown2 := owns_ext hown hb
      have HC : Hid (∀ j, j < 1 → (marks mkInt 1 k n)[i * 1 + j]? = (mkInt (k + 1 * i))[j]?) := fun j hj => marks_get mkInt_len n k i j hlt hj
      clear hown
      have hK0 : 0 < k + 1 * (i : Int) := by omega
      have hK1 : k + 1 * (i : Int) ≤ 1125899906842624 + 1 * 1048576 := by omega
      have HK : Hid ((k + 1 * (i : Int)) + 1 = k + 1 * ((i + 1 : Nat) : Int)) := (by omega : (k + 1 * (i : Int)) + 1 = k + 1 * ((i + 1 : Nat) : Int))
      generalize k + 1 * (i : Int) = K at *
      have c0 : wr.cell? ⟨g, i, none⟩ = some (.int .i64 (K)) := by rw [hown2.cellAt _ (by omega)]; have := HC.out 0 (by omega); simp only [Nat.mul_one, Nat.add_zero] at this ⊢; exact this
      go_wp2
      go_roundw
      case rel => exact ⟨i + 1, by omega, by go_num, by rw [← HK.out] <;> go_num, hb⟩
      case measure => simp [intOf]; omega
    · have hin : i = n := by omega
      subst hin
      clear hown
      go_wp2
      exact ret_int rfl rfl rfl rfl hb

def mkAccount (k : Int) : List Value := [.string (mtext (k).toNat), .int .i64 (k + 1), .int .i64 (k + 1 + 1)]
theorem mkAccount_len (k : Int) : (mkAccount k).length = 3 := rfl
set_option maxHeartbeats 2000000 in
theorem markAccountS_c (A : Option Addr) (n c base : Nat) (L0 : List Value) (k : Int) (w : World) (hown : w.ownsRow base 40 3 (.slice A n c) n L0) (hn : n ≤ 1048576) (hk0 : 0 < k) (hk1 : k ≤ 1125899906842624) :
    Calls Try.prog 14 #[.slice A n c, .int .i64 k] w (Marked mkAccount 3 40 w base (.slice A n c) k n) := by
  go_enter Try.func14, Try.ntmps14
  go_wp2
  go_loopw [1, 5] (fun q x wr => ∃ (i : Nat) (L : List Value), i ≤ n ∧ x = .int .i64 i ∧ q = .int .i64 (k + 3 * i) ∧ wr.ownsRow base 40 3 (.slice A n c) n L ∧ L.take (i * 3) = marks mkAccount 3 k i ∧ w.grownBy wr (Value.ownBlock (.slice A n c))) (fun _ x _ => n - (intOf x).toNat)
  case atStart => exact ⟨0, L0, Nat.zero_le _, rfl, by simp, hown, by simp [marks], World.grownBy.refl w _⟩
  case round =>
    obtain ⟨i, L, hi, rfl, rfl, hown', hL, hg⟩ := hrel
    clear hown
    have HL := Lib.hid hL
    clear hL
    by_cases hlt : i < n
    · obtain ⟨g, cap, e1, _, _⟩ := own_form hown' (by omega)
      injection e1 with e1 _ e3
      subst e1 e3
      have HG := Lib.hid hg
      have HO := Lib.hid hown'
      have HM := Lib.hid (marks_succ mkAccount 3 i k)
      clear hown' hg
      have hK0 : 0 < k + 3 * (i : Int) := by omega
      have hK1 : k + 3 * (i : Int) ≤ 1125899906842624 + 3 * 1048576 := by omega
      have HK : Hid ((k + 3 * (i : Int)) + 3 = k + 3 * ((i + 1 : Nat) : Int)) := (by omega : (k + 3 * (i : Int)) + 3 = k + 3 * ((i + 1 : Nat) : Int))
      generalize k + 3 * (i : Int) = K at *
      go_wp2_with ((go_at_call 43; refine (markText_i _ _ (by omega) (by omega)).mono ?_; rintro e w2 ⟨rfl, hb2⟩; obtain ⟨y0, hy0⟩ := owns_cell (owns_ext HO.out hb2) (j := i * 3) (by omega); have z0 := (owns_ext HO.out hb2).frozenAt (i * 3); obtain ⟨y1, hy1⟩ := owns_cell (owns_ext HO.out hb2) (j := i * 3 + 1) (by omega); have z1 := (owns_ext HO.out hb2).frozenAt (i * 3 + 1); obtain ⟨y2, hy2⟩ := owns_cell (owns_ext HO.out hb2) (j := i * 3 + 2) (by omega); have z2 := (owns_ext HO.out hb2).frozenAt (i * 3 + 2)))
      go_roundw
      case rel => exact ⟨i + 1, setAll L (i * 3) (mkAccount K), by omega, by go_num, by rw [← HK.out] <;> go_num, owns_puts (mkAccount K) _ _ _ (owns_ext HO.out hb2), by rw [show (i + 1) * 3 = i * 3 + (mkAccount K).length by rw [Nat.add_mul]; rfl, take_setAll _ _ _ (by rw [HO.out.1]; have : (i + 1) * 3 ≤ n * 3 := Nat.mul_le_mul_right _ hlt; rw [Nat.add_mul] at this; simpa [mkAccount] using this), HL.out]; exact HM.out.symm, grownBy_puts (mkAccount K) _ _ (grownBy_ext HG.out hb2)⟩
      case measure => simp [intOf]; omega
    · have hin : i = n := by omega
      have HO := Lib.hid hown'
      have HG := Lib.hid hg
      clear hown' hg
      go_wp2
      exact ret_marked rfl HO.out HL.out hin HG.out rfl

set_option maxHeartbeats 2000000 in
theorem heldAccountS_c (A : Option Addr) (n c base : Nat) (k : Int) (w : World) (hown : w.ownsRow base 40 3 (.slice A n c) n (marks mkAccount 3 k n)) (hn : n ≤ 1048576) (hk0 : 0 < k) (hk1 : k ≤ 1125899906842624) :
    Calls Try.prog 37 #[.slice A n c, .int .i64 k] w (Ret w (.int .i64 (k + 3 * n))) := by
  go_enter Try.func37, Try.ntmps37
  go_wp2
  go_loopw [1, 5] (fun q x wr => ∃ i : Nat, i ≤ n ∧ x = .int .i64 i ∧ q = .int .i64 (k + 3 * i) ∧ Ext w wr) (fun _ x _ => n - (intOf x).toNat)
  case atStart => exact ⟨0, Nat.zero_le _, rfl, by simp, Ext.refl _⟩
  case round =>
    obtain ⟨i, hi, rfl, rfl, hb⟩ := hrel
    by_cases hlt : i < n
    · obtain ⟨g, cap, e1, _, _⟩ := own_form hown (by omega)
      injection e1 with e1 _ e3
      subst e1 e3
      have hown2 := owns_ext hown hb
      have HC : Hid (∀ j, j < 3 → (marks mkAccount 3 k n)[i * 3 + j]? = (mkAccount (k + 3 * i))[j]?) := fun j hj => marks_get mkAccount_len n k i j hlt hj
      clear hown
      have hK0 : 0 < k + 3 * (i : Int) := by omega
      have hK1 : k + 3 * (i : Int) ≤ 1125899906842624 + 3 * 1048576 := by omega
      have HK : Hid ((k + 3 * (i : Int)) + 3 = k + 3 * ((i + 1 : Nat) : Int)) := (by omega : (k + 3 * (i : Int)) + 3 = k + 3 * ((i + 1 : Nat) : Int))
      generalize k + 3 * (i : Int) = K at *
      have c0 : wr.cell? ⟨g, i * 3, none⟩ = some (.string (mtext (K).toNat)) := by rw [hown2.cellAt _ (by omega)]; exact HC.out 0 (by omega)
      have c1 : wr.cell? ⟨g, i * 3 + 1, none⟩ = some (.int .i64 (K + 1)) := by rw [hown2.cellAt _ (by omega)]; exact HC.out 1 (by omega)
      have c2 : wr.cell? ⟨g, i * 3 + 2, none⟩ = some (.int .i64 (K + 1 + 1)) := by rw [hown2.cellAt _ (by omega)]; exact HC.out 2 (by omega)
      go_wp2
      have hcx := @Later.cell wr
      have hgw : g < wr.heap.size := (owns_lt hown2).2
      clear hown2
      refine wp_region_ext (by kernel_rfl) (by kernel_rfl) ?_
      repeat (go_big_quiet_step ((go_at_call 43; exact Calls.quiet_ext (markText_i _ _ (by omega) (by omega)))))
      refine wpQuiet_nil ?_
      intro w1 hb1
      obtain ⟨hcr1, hfr1, hz1⟩ := hb1.rules
      go_wp2
      go_roundw
      case rel => exact ⟨i + 1, by omega, by go_num, by rw [← HK.out] <;> go_num, hb.trans hb1⟩
      case measure => simp [intOf]; omega
    · have hin : i = n := by omega
      subst hin
      clear hown
      go_wp2
      exact ret_int rfl rfl rfl rfl hb

def mkBill (k : Int) : List Value := [.int .i64 (k), .int .i64 (k + 1), .int .i64 (k + 1 + 1), .int .i64 (k + 1 + 1 + 1), .int .i64 (k + 1 + 1 + 1 + 1), .int .i64 (k + 1 + 1 + 1 + 1 + 1), .int .i64 (k + 1 + 1 + 1 + 1 + 1 + 1)]
theorem mkBill_len (k : Int) : (mkBill k).length = 7 := rfl
set_option maxHeartbeats 2000000 in
theorem markBillS_c (A : Option Addr) (n c base : Nat) (L0 : List Value) (k : Int) (w : World) (hown : w.ownsRow base 85 7 (.slice A n c) n L0) (hn : n ≤ 1048576) (hk0 : 0 < k) (hk1 : k ≤ 1125899906842624) :
    Calls Try.prog 35 #[.slice A n c, .int .i64 k] w (Marked mkBill 7 85 w base (.slice A n c) k n) := by
  go_enter Try.func35, Try.ntmps35
  go_wp2
  go_loopw [1, 5] (fun q x wr => ∃ (i : Nat) (L : List Value), i ≤ n ∧ x = .int .i64 i ∧ q = .int .i64 (k + 7 * i) ∧ wr.ownsRow base 85 7 (.slice A n c) n L ∧ L.take (i * 7) = marks mkBill 7 k i ∧ w.grownBy wr (Value.ownBlock (.slice A n c))) (fun _ x _ => n - (intOf x).toNat)
  case atStart => exact ⟨0, L0, Nat.zero_le _, rfl, by simp, hown, by simp [marks], World.grownBy.refl w _⟩
  case round =>
    obtain ⟨i, L, hi, rfl, rfl, hown', hL, hg⟩ := hrel
    clear hown
    have HL := Lib.hid hL
    clear hL
    by_cases hlt : i < n
    · obtain ⟨g, cap, e1, _, _⟩ := own_form hown' (by omega)
      injection e1 with e1 _ e3
      subst e1 e3
      have HG := Lib.hid hg
      have HO := Lib.hid hown'
      have HM := Lib.hid (marks_succ mkBill 7 i k)
      obtain ⟨y0, hy0⟩ := owns_cell hown' (j := i * 7) (by omega)
      have z0 := hown'.frozenAt (i * 7)
      obtain ⟨y1, hy1⟩ := owns_cell hown' (j := i * 7 + 1) (by omega)
      have z1 := hown'.frozenAt (i * 7 + 1)
      obtain ⟨y2, hy2⟩ := owns_cell hown' (j := i * 7 + 2) (by omega)
      have z2 := hown'.frozenAt (i * 7 + 2)
      obtain ⟨y3, hy3⟩ := owns_cell hown' (j := i * 7 + 3) (by omega)
      have z3 := hown'.frozenAt (i * 7 + 3)
      obtain ⟨y4, hy4⟩ := owns_cell hown' (j := i * 7 + 4) (by omega)
      have z4 := hown'.frozenAt (i * 7 + 4)
      obtain ⟨y5, hy5⟩ := owns_cell hown' (j := i * 7 + 5) (by omega)
      have z5 := hown'.frozenAt (i * 7 + 5)
      obtain ⟨y6, hy6⟩ := owns_cell hown' (j := i * 7 + 6) (by omega)
      have z6 := hown'.frozenAt (i * 7 + 6)
      clear hown' hg
      have hK0 : 0 < k + 7 * (i : Int) := by omega
      have hK1 : k + 7 * (i : Int) ≤ 1125899906842624 + 7 * 1048576 := by omega
      have HK : Hid ((k + 7 * (i : Int)) + 7 = k + 7 * ((i + 1 : Nat) : Int)) := (by omega : (k + 7 * (i : Int)) + 7 = k + 7 * ((i + 1 : Nat) : Int))
      generalize k + 7 * (i : Int) = K at *
      go_wp2
      go_roundw
      case rel => exact ⟨i + 1, setAll L (i * 7) (mkBill K), by omega, by go_num, by rw [← HK.out] <;> go_num, owns_puts (mkBill K) _ _ _ HO.out, by rw [show (i + 1) * 7 = i * 7 + (mkBill K).length by rw [Nat.add_mul]; rfl, take_setAll _ _ _ (by rw [HO.out.1]; have : (i + 1) * 7 ≤ n * 7 := Nat.mul_le_mul_right _ hlt; rw [Nat.add_mul] at this; simpa [mkBill] using this), HL.out]; exact HM.out.symm, grownBy_puts (mkBill K) _ _ HG.out⟩
      case measure => simp [intOf]; omega
    · have hin : i = n := by omega
      have HO := Lib.hid hown'
      have HG := Lib.hid hg
      clear hown' hg
      go_wp2
      exact ret_marked rfl HO.out HL.out hin HG.out rfl

def mkOwner (k : Int) : List Value := [.int .i64 (k), .string (mtext (k + 1).toNat)]
theorem mkOwner_len (k : Int) : (mkOwner k).length = 2 := rfl
set_option maxHeartbeats 2000000 in
theorem markOwnerS_c (A : Option Addr) (n c base : Nat) (L0 : List Value) (k : Int) (w : World) (hown : w.ownsRow base 93 2 (.slice A n c) n L0) (hn : n ≤ 1048576) (hk0 : 0 < k) (hk1 : k ≤ 1125899906842624) :
    Calls Try.prog 36 #[.slice A n c, .int .i64 k] w (Marked mkOwner 2 93 w base (.slice A n c) k n) := by
  go_enter Try.func36, Try.ntmps36
  go_wp2
  go_loopw [1, 5] (fun q x wr => ∃ (i : Nat) (L : List Value), i ≤ n ∧ x = .int .i64 i ∧ q = .int .i64 (k + 2 * i) ∧ wr.ownsRow base 93 2 (.slice A n c) n L ∧ L.take (i * 2) = marks mkOwner 2 k i ∧ w.grownBy wr (Value.ownBlock (.slice A n c))) (fun _ x _ => n - (intOf x).toNat)
  case atStart => exact ⟨0, L0, Nat.zero_le _, rfl, by simp, hown, by simp [marks], World.grownBy.refl w _⟩
  case round =>
    obtain ⟨i, L, hi, rfl, rfl, hown', hL, hg⟩ := hrel
    clear hown
    have HL := Lib.hid hL
    clear hL
    by_cases hlt : i < n
    · obtain ⟨g, cap, e1, _, _⟩ := own_form hown' (by omega)
      injection e1 with e1 _ e3
      subst e1 e3
      have HG := Lib.hid hg
      have HO := Lib.hid hown'
      have HM := Lib.hid (marks_succ mkOwner 2 i k)
      obtain ⟨y0, hy0⟩ := owns_cell hown' (j := i * 2) (by omega)
      have z0 := hown'.frozenAt (i * 2)
      clear hown' hg
      have hK0 : 0 < k + 2 * (i : Int) := by omega
      have hK1 : k + 2 * (i : Int) ≤ 1125899906842624 + 2 * 1048576 := by omega
      have HK : Hid ((k + 2 * (i : Int)) + 2 = k + 2 * ((i + 1 : Nat) : Int)) := (by omega : (k + 2 * (i : Int)) + 2 = k + 2 * ((i + 1 : Nat) : Int))
      generalize k + 2 * (i : Int) = K at *
      go_wp2_with ((go_at_call 43; refine (markText_i _ _ (by omega) (by omega)).mono ?_; rintro e w2 ⟨rfl, hb2⟩; obtain ⟨y1, hy1⟩ := owns_cell (owns_ext (owns_puts [.int .i64 (K)] _ _ _ HO.out) hb2) (j := i * 2 + 1) (by omega); have z1 := (owns_ext (owns_puts [.int .i64 (K)] _ _ _ HO.out) hb2).frozenAt (i * 2 + 1)))
      go_roundw
      case rel => exact ⟨i + 1, setAll L (i * 2) (mkOwner K), by omega, by go_num, by rw [← HK.out] <;> go_num, owns_puts [.string (mtext (K + 1).toNat)] _ _ _ (owns_ext (owns_puts [.int .i64 (K)] _ _ _ HO.out) hb2), by rw [show (i + 1) * 2 = i * 2 + (mkOwner K).length by rw [Nat.add_mul]; rfl, take_setAll _ _ _ (by rw [HO.out.1]; have : (i + 1) * 2 ≤ n * 2 := Nat.mul_le_mul_right _ hlt; rw [Nat.add_mul] at this; simpa [mkOwner] using this), HL.out]; exact HM.out.symm, grownBy_puts [.string (mtext (K + 1).toNat)] _ _ (grownBy_ext (grownBy_puts [.int .i64 (K)] _ _ HG.out) hb2)⟩
      case measure => simp [intOf]; omega
    · have hin : i = n := by omega
      have HO := Lib.hid hown'
      have HG := Lib.hid hg
      clear hown' hg
      go_wp2
      exact ret_marked rfl HO.out HL.out hin HG.out rfl

end Go.Proofs.Ytfogmplpaopciab
