/- Contracts of the laws' marks. Written by gen.py. -/
import Derived.Test.YtfcffcgdbmkfgaaGreatMark
namespace Go.Proofs.YtfcffcgdbmkfgaaGreat
open Go.RowKit

def mkInt (k : Int) : List Value := [.int .i64 (k)]
theorem mkInt_len (k : Int) : (mkInt k).length = 1 := rfl
set_option maxHeartbeats 2000000 in
set_option maxRecDepth 10000 in
theorem markIntS_c (A : Option Addr) (n c base : Nat) (L0 : List Value) (k : Int) (w : World) (hown : w.ownsRow base 3 1 (.slice A n c) n L0) (hn : n ≤ 1048576) (hk0 : 0 < k) (hk1 : k ≤ 1125899906842624) :
    Calls Tryz.prog 13 #[.slice A n c, .int .i64 k] w (Marked mkInt 1 3 w base (.slice A n c) k n) := by
  go_enter Tryz.func13, Tryz.ntmps13
  go_wp2
  go_loopw [1, 5] (fun q x wr => ∃ (i : Nat) (L : List Value), i ≤ n ∧ x = .int .i64 i ∧ q = .int .i64 (k + 1 * i) ∧ wr.ownsRow base 3 1 (.slice A n c) n L ∧ L.take (i * 1) = marks mkInt 1 k i ∧ w.grownBy wr (Value.ownBlock (.slice A n c))) (fun _ x _ => n - (intOf x).toNat)
  case atStart => exact ⟨0, L0, Nat.zero_le _, rfl, by simp, hown, by simp [marks], World.grownBy.refl w _⟩
  case round =>
    obtain ⟨i, L, hi, rfl, rfl, hown', hL, hg⟩ := hrel
    clear hown
    have HL := Lib.hid hL
    clear hL
    by_cases hlt : i < n
    · obtain ⟨g, cap, e1, _, _⟩ := own_form hown' (by omega)
      injection e1 with e1 _ e3
      subst e1 e3
      have HG := Lib.hid hg
      have HO := Lib.hid hown'
      have HM := Lib.hid (marks_succ mkInt 1 i k)
      obtain ⟨y0, hy0⟩ := owns_cell hown' (j := i) (by omega)
      have z0 := hown'.frozenAt (i)
      clear hown' hg
      have hK0 : 0 < k + 1 * (i : Int) := by omega
      have hK1 : k + 1 * (i : Int) ≤ 1125899906842624 + 1 * 1048576 := by omega
      have HK : Hid ((k + 1 * (i : Int)) + 1 = k + 1 * ((i + 1 : Nat) : Int)) := (by omega : (k + 1 * (i : Int)) + 1 = k + 1 * ((i + 1 : Nat) : Int))
      generalize k + 1 * (i : Int) = K at *
      go_wp2
      go_roundw
      case rel => exact ⟨i + 1, setAll L (i * 1) (mkInt K), by omega, by go_num, by rw [← HK.out] <;> go_num, by rw [Nat.mul_one]; exact owns_puts (mkInt K) _ _ _ HO.out, by rw [show (i + 1) * 1 = i * 1 + (mkInt K).length by rw [Nat.add_mul]; rfl, take_setAll _ _ _ (by rw [HO.out.1]; have : (i + 1) * 1 ≤ n * 1 := Nat.mul_le_mul_right _ hlt; rw [Nat.add_mul] at this; simpa [mkInt] using this), HL.out]; exact HM.out.symm, grownBy_puts (mkInt K) _ _ HG.out⟩
      case measure => simp [intOf]; omega
    · have hin : i = n := by omega
      have HO := Lib.hid hown'
      have HG := Lib.hid hg
      clear hown' hg
      go_wp2
      exact ret_marked rfl HO.out HL.out hin HG.out rfl

set_option maxHeartbeats 2000000 in
set_option maxRecDepth 10000 in
theorem heldIntS_c (A : Option Addr) (n c base : Nat) (k : Int) (w : World) (hown : w.ownsRow base 3 1 (.slice A n c) n (marks mkInt 1 k n)) (hn : n ≤ 1048576) (hk0 : 0 < k) (hk1 : k ≤ 1125899906842624) :
    Calls Tryz.prog 14 #[.slice A n c, .int .i64 k] w (Ret w (.int .i64 (k + 1 * n))) := by
  go_enter Tryz.func14, Tryz.ntmps14
  go_wp2
  go_loopw [1, 5] (fun q x wr => ∃ i : Nat, i ≤ n ∧ x = .int .i64 i ∧ q = .int .i64 (k + 1 * i) ∧ Ext w wr) (fun _ x _ => n - (intOf x).toNat)
  case atStart => exact ⟨0, Nat.zero_le _, rfl, by simp, Ext.refl _⟩
  case round =>
    obtain ⟨i, hi, rfl, rfl, hb⟩ := hrel
    by_cases hlt : i < n
    · obtain ⟨g, cap, e1, _, _⟩ := own_form hown (by omega)
      injection e1 with e1 _ e3
      subst e1 e3
      have hown2 := owns_ext hown hb
      have HC : Hid (∀ j, j < 1 → (marks mkInt 1 k n)[i * 1 + j]? = (mkInt (k + 1 * i))[j]?) := fun j hj => marks_get mkInt_len n k i j hlt hj
      clear hown
      have hK0 : 0 < k + 1 * (i : Int) := by omega
      have hK1 : k + 1 * (i : Int) ≤ 1125899906842624 + 1 * 1048576 := by omega
      have HK : Hid ((k + 1 * (i : Int)) + 1 = k + 1 * ((i + 1 : Nat) : Int)) := (by omega : (k + 1 * (i : Int)) + 1 = k + 1 * ((i + 1 : Nat) : Int))
      generalize k + 1 * (i : Int) = K at *
      have c0 : wr.cell? ⟨g, i, none⟩ = some (.int .i64 (K)) := by rw [hown2.cellAt _ (by omega)]; have := HC.out 0 (by omega); simp only [Nat.mul_one, Nat.add_zero] at this ⊢; exact this
      go_wp2
      go_roundw
      case rel => exact ⟨i + 1, by omega, by go_num, by rw [← HK.out] <;> go_num, hb⟩
      case measure => simp [intOf]; omega
    · have hin : i = n := by omega
      subst hin
      clear hown
      go_wp2
      exact ret_int rfl rfl rfl rfl hb

def mkJob (k : Int) : List Value := [.int .i64 (k), .int .i64 (k + 1), .int .i64 (k + 1 + 1), .int .i64 (k + 1 + 1 + 1), .int .i64 (k + 1 + 1 + 1 + 1), .int .i64 (k + 1 + 1 + 1 + 1 + 1), .int .i64 (k + 1 + 1 + 1 + 1 + 1 + 1), .int .i64 (k + 1 + 1 + 1 + 1 + 1 + 1 + 1), .int .i64 (k + 1 + 1 + 1 + 1 + 1 + 1 + 1 + 1), .int .i64 (k + 1 + 1 + 1 + 1 + 1 + 1 + 1 + 1 + 1), .int .i64 (k + 1 + 1 + 1 + 1 + 1 + 1 + 1 + 1 + 1 + 1)]
theorem mkJob_len (k : Int) : (mkJob k).length = 11 := rfl
set_option maxHeartbeats 2000000 in
set_option maxRecDepth 10000 in
theorem markJobS_c (A : Option Addr) (n c base : Nat) (L0 : List Value) (k : Int) (w : World) (hown : w.ownsRow base 62 11 (.slice A n c) n L0) (hn : n ≤ 1048576) (hk0 : 0 < k) (hk1 : k ≤ 1125899906842624) :
    Calls Tryz.prog 41 #[.slice A n c, .int .i64 k] w (Marked mkJob 11 62 w base (.slice A n c) k n) := by
  go_enter Tryz.func41, Tryz.ntmps41
  go_wp2
  go_loopw [1, 5] (fun q x wr => ∃ (i : Nat) (L : List Value), i ≤ n ∧ x = .int .i64 i ∧ q = .int .i64 (k + 11 * i) ∧ wr.ownsRow base 62 11 (.slice A n c) n L ∧ L.take (i * 11) = marks mkJob 11 k i ∧ w.grownBy wr (Value.ownBlock (.slice A n c))) (fun _ x _ => n - (intOf x).toNat)
  case atStart => exact ⟨0, L0, Nat.zero_le _, rfl, by simp, hown, by simp [marks], World.grownBy.refl w _⟩
  case round =>
    obtain ⟨i, L, hi, rfl, rfl, hown', hL, hg⟩ := hrel
    clear hown
    have HL := Lib.hid hL
    clear hL
    by_cases hlt : i < n
    · obtain ⟨g, cap, e1, _, _⟩ := own_form hown' (by omega)
      injection e1 with e1 _ e3
      subst e1 e3
      have HG := Lib.hid hg
      have HO := Lib.hid hown'
      have HM := Lib.hid (marks_succ mkJob 11 i k)
      obtain ⟨y0, hy0⟩ := owns_cell hown' (j := i * 11) (by omega)
      have z0 := hown'.frozenAt (i * 11)
      obtain ⟨y1, hy1⟩ := owns_cell hown' (j := i * 11 + 1) (by omega)
      have z1 := hown'.frozenAt (i * 11 + 1)
      obtain ⟨y2, hy2⟩ := owns_cell hown' (j := i * 11 + 2) (by omega)
      have z2 := hown'.frozenAt (i * 11 + 2)
      obtain ⟨y3, hy3⟩ := owns_cell hown' (j := i * 11 + 3) (by omega)
      have z3 := hown'.frozenAt (i * 11 + 3)
      obtain ⟨y4, hy4⟩ := owns_cell hown' (j := i * 11 + 4) (by omega)
      have z4 := hown'.frozenAt (i * 11 + 4)
      obtain ⟨y5, hy5⟩ := owns_cell hown' (j := i * 11 + 5) (by omega)
      have z5 := hown'.frozenAt (i * 11 + 5)
      obtain ⟨y6, hy6⟩ := owns_cell hown' (j := i * 11 + 6) (by omega)
      have z6 := hown'.frozenAt (i * 11 + 6)
      obtain ⟨y7, hy7⟩ := owns_cell hown' (j := i * 11 + 7) (by omega)
      have z7 := hown'.frozenAt (i * 11 + 7)
      obtain ⟨y8, hy8⟩ := owns_cell hown' (j := i * 11 + 8) (by omega)
      have z8 := hown'.frozenAt (i * 11 + 8)
      obtain ⟨y9, hy9⟩ := owns_cell hown' (j := i * 11 + 9) (by omega)
      have z9 := hown'.frozenAt (i * 11 + 9)
      obtain ⟨y10, hy10⟩ := owns_cell hown' (j := i * 11 + 10) (by omega)
      have z10 := hown'.frozenAt (i * 11 + 10)
      clear hown' hg
      have hK0 : 0 < k + 11 * (i : Int) := by omega
      have hK1 : k + 11 * (i : Int) ≤ 1125899906842624 + 11 * 1048576 := by omega
      have HK : Hid ((k + 11 * (i : Int)) + 11 = k + 11 * ((i + 1 : Nat) : Int)) := (by omega : (k + 11 * (i : Int)) + 11 = k + 11 * ((i + 1 : Nat) : Int))
      generalize k + 11 * (i : Int) = K at *
      go_wp2
      go_roundw
      case rel => exact ⟨i + 1, setAll L (i * 11) (mkJob K), by omega, by go_num, by rw [← HK.out] <;> go_num, owns_puts (mkJob K) _ _ _ HO.out, by rw [show (i + 1) * 11 = i * 11 + (mkJob K).length by rw [Nat.add_mul]; rfl, take_setAll _ _ _ (by rw [HO.out.1]; have : (i + 1) * 11 ≤ n * 11 := Nat.mul_le_mul_right _ hlt; rw [Nat.add_mul] at this; simpa [mkJob] using this), HL.out]; exact HM.out.symm, grownBy_puts (mkJob K) _ _ HG.out⟩
      case measure => simp [intOf]; omega
    · have hin : i = n := by omega
      have HO := Lib.hid hown'
      have HG := Lib.hid hg
      clear hown' hg
      go_wp2
      exact ret_marked rfl HO.out HL.out hin HG.out rfl

def mkNode (k : Int) : List Value := [.int .i64 (k), .int .i64 (k + 1), .int .i64 (k + 1 + 1), .int .i64 (k + 1 + 1 + 1)]
theorem mkNode_len (k : Int) : (mkNode k).length = 4 := rfl
set_option maxHeartbeats 2000000 in
set_option maxRecDepth 10000 in
theorem markNodeS_c (A : Option Addr) (n c base : Nat) (L0 : List Value) (k : Int) (w : World) (hown : w.ownsRow base 84 4 (.slice A n c) n L0) (hn : n ≤ 1048576) (hk0 : 0 < k) (hk1 : k ≤ 1125899906842624) :
    Calls Tryz.prog 72 #[.slice A n c, .int .i64 k] w (Marked mkNode 4 84 w base (.slice A n c) k n) := by
  go_enter Tryz.func72, Tryz.ntmps72
  go_wp2
  go_loopw [1, 5] (fun q x wr => ∃ (i : Nat) (L : List Value), i ≤ n ∧ x = .int .i64 i ∧ q = .int .i64 (k + 4 * i) ∧ wr.ownsRow base 84 4 (.slice A n c) n L ∧ L.take (i * 4) = marks mkNode 4 k i ∧ w.grownBy wr (Value.ownBlock (.slice A n c))) (fun _ x _ => n - (intOf x).toNat)
  case atStart => exact ⟨0, L0, Nat.zero_le _, rfl, by simp, hown, by simp [marks], World.grownBy.refl w _⟩
  case round =>
    obtain ⟨i, L, hi, rfl, rfl, hown', hL, hg⟩ := hrel
    clear hown
    have HL := Lib.hid hL
    clear hL
    by_cases hlt : i < n
    · obtain ⟨g, cap, e1, _, _⟩ := own_form hown' (by omega)
      injection e1 with e1 _ e3
      subst e1 e3
      have HG := Lib.hid hg
      have HO := Lib.hid hown'
      have HM := Lib.hid (marks_succ mkNode 4 i k)
      obtain ⟨y0, hy0⟩ := owns_cell hown' (j := i * 4) (by omega)
      have z0 := hown'.frozenAt (i * 4)
      obtain ⟨y1, hy1⟩ := owns_cell hown' (j := i * 4 + 1) (by omega)
      have z1 := hown'.frozenAt (i * 4 + 1)
      obtain ⟨y2, hy2⟩ := owns_cell hown' (j := i * 4 + 2) (by omega)
      have z2 := hown'.frozenAt (i * 4 + 2)
      obtain ⟨y3, hy3⟩ := owns_cell hown' (j := i * 4 + 3) (by omega)
      have z3 := hown'.frozenAt (i * 4 + 3)
      clear hown' hg
      have hK0 : 0 < k + 4 * (i : Int) := by omega
      have hK1 : k + 4 * (i : Int) ≤ 1125899906842624 + 4 * 1048576 := by omega
      have HK : Hid ((k + 4 * (i : Int)) + 4 = k + 4 * ((i + 1 : Nat) : Int)) := (by omega : (k + 4 * (i : Int)) + 4 = k + 4 * ((i + 1 : Nat) : Int))
      generalize k + 4 * (i : Int) = K at *
      go_wp2
      go_roundw
      case rel => exact ⟨i + 1, setAll L (i * 4) (mkNode K), by omega, by go_num, by rw [← HK.out] <;> go_num, owns_puts (mkNode K) _ _ _ HO.out, by rw [show (i + 1) * 4 = i * 4 + (mkNode K).length by rw [Nat.add_mul]; rfl, take_setAll _ _ _ (by rw [HO.out.1]; have : (i + 1) * 4 ≤ n * 4 := Nat.mul_le_mul_right _ hlt; rw [Nat.add_mul] at this; simpa [mkNode] using this), HL.out]; exact HM.out.symm, grownBy_puts (mkNode K) _ _ HG.out⟩
      case measure => simp [intOf]; omega
    · have hin : i = n := by omega
      have HO := Lib.hid hown'
      have HG := Lib.hid hg
      clear hown' hg
      go_wp2
      exact ret_marked rfl HO.out HL.out hin HG.out rfl

def mkEnd (k : Int) : List Value := [.int .i64 (k), .int .i64 (k + 1), .int .i64 (k + 1 + 1)]
theorem mkEnd_len (k : Int) : (mkEnd k).length = 3 := rfl
set_option maxHeartbeats 2000000 in
set_option maxRecDepth 10000 in
theorem markEndS_c (A : Option Addr) (n c base : Nat) (L0 : List Value) (k : Int) (w : World) (hown : w.ownsRow base 105 3 (.slice A n c) n L0) (hn : n ≤ 1048576) (hk0 : 0 < k) (hk1 : k ≤ 1125899906842624) :
    Calls Tryz.prog 43 #[.slice A n c, .int .i64 k] w (Marked mkEnd 3 105 w base (.slice A n c) k n) := by
  go_enter Tryz.func43, Tryz.ntmps43
  go_wp2
  go_loopw [1, 5] (fun q x wr => ∃ (i : Nat) (L : List Value), i ≤ n ∧ x = .int .i64 i ∧ q = .int .i64 (k + 3 * i) ∧ wr.ownsRow base 105 3 (.slice A n c) n L ∧ L.take (i * 3) = marks mkEnd 3 k i ∧ w.grownBy wr (Value.ownBlock (.slice A n c))) (fun _ x _ => n - (intOf x).toNat)
  case atStart => exact ⟨0, L0, Nat.zero_le _, rfl, by simp, hown, by simp [marks], World.grownBy.refl w _⟩
  case round =>
    obtain ⟨i, L, hi, rfl, rfl, hown', hL, hg⟩ := hrel
    clear hown
    have HL := Lib.hid hL
    clear hL
    by_cases hlt : i < n
    · obtain ⟨g, cap, e1, _, _⟩ := own_form hown' (by omega)
      injection e1 with e1 _ e3
      subst e1 e3
      have HG := Lib.hid hg
      have HO := Lib.hid hown'
      have HM := Lib.hid (marks_succ mkEnd 3 i k)
      obtain ⟨y0, hy0⟩ := owns_cell hown' (j := i * 3) (by omega)
      have z0 := hown'.frozenAt (i * 3)
      obtain ⟨y1, hy1⟩ := owns_cell hown' (j := i * 3 + 1) (by omega)
      have z1 := hown'.frozenAt (i * 3 + 1)
      obtain ⟨y2, hy2⟩ := owns_cell hown' (j := i * 3 + 2) (by omega)
      have z2 := hown'.frozenAt (i * 3 + 2)
      clear hown' hg
      have hK0 : 0 < k + 3 * (i : Int) := by omega
      have hK1 : k + 3 * (i : Int) ≤ 1125899906842624 + 3 * 1048576 := by omega
      have HK : Hid ((k + 3 * (i : Int)) + 3 = k + 3 * ((i + 1 : Nat) : Int)) := (by omega : (k + 3 * (i : Int)) + 3 = k + 3 * ((i + 1 : Nat) : Int))
      generalize k + 3 * (i : Int) = K at *
      go_wp2
      go_roundw
      case rel => exact ⟨i + 1, setAll L (i * 3) (mkEnd K), by omega, by go_num, by rw [← HK.out] <;> go_num, owns_puts (mkEnd K) _ _ _ HO.out, by rw [show (i + 1) * 3 = i * 3 + (mkEnd K).length by rw [Nat.add_mul]; rfl, take_setAll _ _ _ (by rw [HO.out.1]; have : (i + 1) * 3 ≤ n * 3 := Nat.mul_le_mul_right _ hlt; rw [Nat.add_mul] at this; simpa [mkEnd] using this), HL.out]; exact HM.out.symm, grownBy_puts (mkEnd K) _ _ HG.out⟩
      case measure => simp [intOf]; omega
    · have hin : i = n := by omega
      have HO := Lib.hid hown'
      have HG := Lib.hid hg
      clear hown' hg
      go_wp2
      exact ret_marked rfl HO.out HL.out hin HG.out rfl

end Go.Proofs.YtfcffcgdbmkfgaaGreat
