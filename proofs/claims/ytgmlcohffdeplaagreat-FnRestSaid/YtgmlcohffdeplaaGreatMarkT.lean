/- Contracts of the laws' marks. Written by gen.py. -/
import Derived.Test.YtgmlcohffdeplaaGreatMark
namespace Go.Proofs.YtgmlcohffdeplaaGreat
open Go.RowKit

def mkInt (k : Int) : List Value := [.int .i64 (k)]
theorem mkInt_len (k : Int) : (mkInt k).length = 1 := rfl
set_option maxHeartbeats 2000000 in
set_option maxRecDepth 10000 in
theorem markIntS_c (A : Option Addr) (n c base : Nat) (L0 : List Value) (k : Int) (w : World) (hown : w.ownsRow base 3 1 (.slice A n c) n L0) (hn : n ≤ 1048576) (hk0 : 0 < k) (hk1 : k ≤ 1125899906842624) :
    Calls Tryz.prog 47 #[.slice A n c, .int .i64 k] w (Marked mkInt 1 3 w base (.slice A n c) k n) := by
  go_enter Tryz.func47, Tryz.ntmps47
  go_wp2
  go_loopw [1, 5] (fun q x wr => ∃ (i : Nat) (L : List Value), i ≤ n ∧ x = .int .i64 i ∧ q = .int .i64 (k + 1 * i) ∧ wr.ownsRow base 3 1 (.slice A n c) n L ∧ L.take (i * 1) = marks mkInt 1 k i ∧ w.grownBy wr (Value.ownBlock (.slice A n c))) (fun _ x _ => n - (intOf x).toNat)
  case atStart => exact ⟨0, L0, Nat.zero_le _, rfl, by simp, hown, by simp [marks], World.grownBy.refl w _⟩
  case round =>
    obtain ⟨i, L, hi, rfl, rfl, hown', hL, hg⟩ := hrel
    clear hown
    have HL := Lib.hid hL
    clear hL
    by_cases hlt : i < n
    · obtain ⟨g, cap, e1, _, _⟩ := own_form hown' (by omega)
      injection e1 with e1 _ e3
      subst e1 e3
      have HG := Lib.hid hg
      have HO := Lib.hid hown'
      have HM := Lib.hid (marks_succ mkInt 1 i k)
      obtain ⟨y0, hy0⟩ := owns_cell hown' (j := i) (by omega)
      have z0 := hown'.frozenAt (i)
      clear hown' hg
      have hK0 : 0 < k + 1 * (i : Int) := by omega
      have hK1 : k + 1 * (i : Int) ≤ 1125899906842624 + 1 * 1048576 := by omega
      have HK : Hid ((k + 1 * (i : Int)) + 1 = k + 1 * ((i + 1 : Nat) : Int)) := (by omega : (k + 1 * (i : Int)) + 1 = k + 1 * ((i + 1 : Nat) : Int))
      generalize k + 1 * (i : Int) = K at *
      go_wp2
      go_roundw
      case rel => exact ⟨i + 1, setAll L (i * 1) (mkInt K), by omega, by go_num, by rw [← HK.out] <;> go_num, by rw [Nat.mul_one]; exact owns_puts (mkInt K) _ _ _ HO.out, by rw [show (i + 1) * 1 = i * 1 + (mkInt K).length by rw [Nat.add_mul]; rfl, take_setAll _ _ _ (by rw [HO.out.1]; have : (i + 1) * 1 ≤ n * 1 := Nat.mul_le_mul_right _ hlt; rw [Nat.add_mul] at this; simpa [mkInt] using this), HL.out]; exact HM.out.symm, grownBy_puts (mkInt K) _ _ HG.out⟩
      case measure => simp [intOf]; omega
    · have hin : i = n := by omega
      have HO := Lib.hid hown'
      have HG := Lib.hid hg
      clear hown' hg
      go_wp2
      exact ret_marked rfl HO.out HL.out hin HG.out rfl

set_option maxHeartbeats 2000000 in
set_option maxRecDepth 10000 in
theorem heldIntS_c (A : Option Addr) (n c base : Nat) (k : Int) (w : World) (hown : w.ownsRow base 3 1 (.slice A n c) n (marks mkInt 1 k n)) (hn : n ≤ 1048576) (hk0 : 0 < k) (hk1 : k ≤ 1125899906842624) :
    Calls Tryz.prog 85 #[.slice A n c, .int .i64 k] w (Ret w (.int .i64 (k + 1 * n))) := by
  go_enter Tryz.func85, Tryz.ntmps85
  go_wp2
  go_loopw [1, 5] (fun q x wr => ∃ i : Nat, i ≤ n ∧ x = .int .i64 i ∧ q = .int .i64 (k + 1 * i) ∧ Ext w wr) (fun _ x _ => n - (intOf x).toNat)
  case atStart => exact ⟨0, Nat.zero_le _, rfl, by simp, Ext.refl _⟩
  case round =>
    obtain ⟨i, hi, rfl, rfl, hb⟩ := hrel
    by_cases hlt : i < n
    · obtain ⟨g, cap, e1, _, _⟩ := own_form hown (by omega)
      injection e1 with e1 _ e3
      subst e1 e3
      have hown2 := owns_ext hown hb
      have HC : Hid (∀ j, j < 1 → (marks mkInt 1 k n)[i * 1 + j]? = (mkInt (k + 1 * i))[j]?) := fun j hj => marks_get mkInt_len n k i j hlt hj
      clear hown
      have hK0 : 0 < k + 1 * (i : Int) := by omega
      have hK1 : k + 1 * (i : Int) ≤ 1125899906842624 + 1 * 1048576 := by omega
      have HK : Hid ((k + 1 * (i : Int)) + 1 = k + 1 * ((i + 1 : Nat) : Int)) := (by omega : (k + 1 * (i : Int)) + 1 = k + 1 * ((i + 1 : Nat) : Int))
      generalize k + 1 * (i : Int) = K at *
      have c0 : wr.cell? ⟨g, i, none⟩ = some (.int .i64 (K)) := by rw [hown2.cellAt _ (by omega)]; have := HC.out 0 (by omega); simp only [Nat.mul_one, Nat.add_zero] at this ⊢; exact this
      go_wp2
      go_roundw
      case rel => exact ⟨i + 1, by omega, by go_num, by rw [← HK.out] <;> go_num, hb⟩
      case measure => simp [intOf]; omega
    · have hin : i = n := by omega
      subst hin
      clear hown
      go_wp2
      exact ret_int rfl rfl rfl rfl hb

def mkNode (k : Int) : List Value := [.int .i64 (k), .int .i64 (k + 1), .int .i64 (k + 1 + 1), .int .i64 (k + 1 + 1 + 1)]
theorem mkNode_len (k : Int) : (mkNode k).length = 4 := rfl
set_option maxHeartbeats 2000000 in
set_option maxRecDepth 10000 in
theorem markNodeS_c (A : Option Addr) (n c base : Nat) (L0 : List Value) (k : Int) (w : World) (hown : w.ownsRow base 130 4 (.slice A n c) n L0) (hn : n ≤ 1048576) (hk0 : 0 < k) (hk1 : k ≤ 1125899906842624) :
    Calls Tryz.prog 83 #[.slice A n c, .int .i64 k] w (Marked mkNode 4 130 w base (.slice A n c) k n) := by
  go_enter Tryz.func83, Tryz.ntmps83
  go_wp2
  go_loopw [1, 5] (fun q x wr => ∃ (i : Nat) (L : List Value), i ≤ n ∧ x = .int .i64 i ∧ q = .int .i64 (k + 4 * i) ∧ wr.ownsRow base 130 4 (.slice A n c) n L ∧ L.take (i * 4) = marks mkNode 4 k i ∧ w.grownBy wr (Value.ownBlock (.slice A n c))) (fun _ x _ => n - (intOf x).toNat)
  case atStart => exact ⟨0, L0, Nat.zero_le _, rfl, by simp, hown, by simp [marks], World.grownBy.refl w _⟩
  case round =>
    obtain ⟨i, L, hi, rfl, rfl, hown', hL, hg⟩ := hrel
    clear hown
    have HL := Lib.hid hL
    clear hL
    by_cases hlt : i < n
    · obtain ⟨g, cap, e1, _, _⟩ := own_form hown' (by omega)
      injection e1 with e1 _ e3
      subst e1 e3
      have HG := Lib.hid hg
      have HO := Lib.hid hown'
      have HM := Lib.hid (marks_succ mkNode 4 i k)
      obtain ⟨y0, hy0⟩ := owns_cell hown' (j := i * 4) (by omega)
      have z0 := hown'.frozenAt (i * 4)
      obtain ⟨y1, hy1⟩ := owns_cell hown' (j := i * 4 + 1) (by omega)
      have z1 := hown'.frozenAt (i * 4 + 1)
      obtain ⟨y2, hy2⟩ := owns_cell hown' (j := i * 4 + 2) (by omega)
      have z2 := hown'.frozenAt (i * 4 + 2)
      obtain ⟨y3, hy3⟩ := owns_cell hown' (j := i * 4 + 3) (by omega)
      have z3 := hown'.frozenAt (i * 4 + 3)
      clear hown' hg
      have hK0 : 0 < k + 4 * (i : Int) := by omega
      have hK1 : k + 4 * (i : Int) ≤ 1125899906842624 + 4 * 1048576 := by omega
      have HK : Hid ((k + 4 * (i : Int)) + 4 = k + 4 * ((i + 1 : Nat) : Int)) := (by omega : (k + 4 * (i : Int)) + 4 = k + 4 * ((i + 1 : Nat) : Int))
      generalize k + 4 * (i : Int) = K at *
      go_wp2
      go_roundw
      case rel => exact ⟨i + 1, setAll L (i * 4) (mkNode K), by omega, by go_num, by rw [← HK.out] <;> go_num, owns_puts (mkNode K) _ _ _ HO.out, by rw [show (i + 1) * 4 = i * 4 + (mkNode K).length by rw [Nat.add_mul]; rfl, take_setAll _ _ _ (by rw [HO.out.1]; have : (i + 1) * 4 ≤ n * 4 := Nat.mul_le_mul_right _ hlt; rw [Nat.add_mul] at this; simpa [mkNode] using this), HL.out]; exact HM.out.symm, grownBy_puts (mkNode K) _ _ HG.out⟩
      case measure => simp [intOf]; omega
    · have hin : i = n := by omega
      have HO := Lib.hid hown'
      have HG := Lib.hid hg
      clear hown' hg
      go_wp2
      exact ret_marked rfl HO.out HL.out hin HG.out rfl

set_option maxHeartbeats 2000000 in
set_option maxRecDepth 10000 in
theorem heldNodeS_c (A : Option Addr) (n c base : Nat) (k : Int) (w : World) (hown : w.ownsRow base 130 4 (.slice A n c) n (marks mkNode 4 k n)) (hn : n ≤ 1048576) (hk0 : 0 < k) (hk1 : k ≤ 1125899906842624) :
    Calls Tryz.prog 86 #[.slice A n c, .int .i64 k] w (Ret w (.int .i64 (k + 4 * n))) := by
  go_enter Tryz.func86, Tryz.ntmps86
  go_wp2
  go_loopw [1, 5] (fun q x wr => ∃ i : Nat, i ≤ n ∧ x = .int .i64 i ∧ q = .int .i64 (k + 4 * i) ∧ Ext w wr) (fun _ x _ => n - (intOf x).toNat)
  case atStart => exact ⟨0, Nat.zero_le _, rfl, by simp, Ext.refl _⟩
  case round =>
    obtain ⟨i, hi, rfl, rfl, hb⟩ := hrel
    by_cases hlt : i < n
    · obtain ⟨g, cap, e1, _, _⟩ := own_form hown (by omega)
      injection e1 with e1 _ e3
      subst e1 e3
      have hown2 := owns_ext hown hb
      have HC : Hid (∀ j, j < 4 → (marks mkNode 4 k n)[i * 4 + j]? = (mkNode (k + 4 * i))[j]?) := fun j hj => marks_get mkNode_len n k i j hlt hj
      clear hown
      have hK0 : 0 < k + 4 * (i : Int) := by omega
      have hK1 : k + 4 * (i : Int) ≤ 1125899906842624 + 4 * 1048576 := by omega
      have HK : Hid ((k + 4 * (i : Int)) + 4 = k + 4 * ((i + 1 : Nat) : Int)) := (by omega : (k + 4 * (i : Int)) + 4 = k + 4 * ((i + 1 : Nat) : Int))
      generalize k + 4 * (i : Int) = K at *
      have c0 : wr.cell? ⟨g, i * 4, none⟩ = some (.int .i64 (K)) := by rw [hown2.cellAt _ (by omega)]; exact HC.out 0 (by omega)
      have c1 : wr.cell? ⟨g, i * 4 + 1, none⟩ = some (.int .i64 (K + 1)) := by rw [hown2.cellAt _ (by omega)]; exact HC.out 1 (by omega)
      have c2 : wr.cell? ⟨g, i * 4 + 2, none⟩ = some (.int .i64 (K + 1 + 1)) := by rw [hown2.cellAt _ (by omega)]; exact HC.out 2 (by omega)
      have c3 : wr.cell? ⟨g, i * 4 + 3, none⟩ = some (.int .i64 (K + 1 + 1 + 1)) := by rw [hown2.cellAt _ (by omega)]; exact HC.out 3 (by omega)
      go_wp2
      go_roundw
      case rel => exact ⟨i + 1, by omega, by go_num, by rw [← HK.out] <;> go_num, hb⟩
      case measure => simp [intOf]; omega
    · have hin : i = n := by omega
      subst hin
      clear hown
      go_wp2
      exact ret_int rfl rfl rfl rfl hb

def mkPt (k : Int) : List Value := [.int .i64 (k), .int .i64 (k + 1), .int .i64 (k + 1 + 1), .int .i64 (k + 1 + 1 + 1)]
theorem mkPt_len (k : Int) : (mkPt k).length = 4 := rfl
set_option maxHeartbeats 2000000 in
set_option maxRecDepth 10000 in
theorem markPtS_c (A : Option Addr) (n c base : Nat) (L0 : List Value) (k : Int) (w : World) (hown : w.ownsRow base 107 4 (.slice A n c) n L0) (hn : n ≤ 1048576) (hk0 : 0 < k) (hk1 : k ≤ 1125899906842624) :
    Calls Tryz.prog 84 #[.slice A n c, .int .i64 k] w (Marked mkPt 4 107 w base (.slice A n c) k n) := by
  go_enter Tryz.func84, Tryz.ntmps84
  go_wp2
  go_loopw [1, 5] (fun q x wr => ∃ (i : Nat) (L : List Value), i ≤ n ∧ x = .int .i64 i ∧ q = .int .i64 (k + 4 * i) ∧ wr.ownsRow base 107 4 (.slice A n c) n L ∧ L.take (i * 4) = marks mkPt 4 k i ∧ w.grownBy wr (Value.ownBlock (.slice A n c))) (fun _ x _ => n - (intOf x).toNat)
  case atStart => exact ⟨0, L0, Nat.zero_le _, rfl, by simp, hown, by simp [marks], World.grownBy.refl w _⟩
  case round =>
    obtain ⟨i, L, hi, rfl, rfl, hown', hL, hg⟩ := hrel
    clear hown
    have HL := Lib.hid hL
    clear hL
    by_cases hlt : i < n
    · obtain ⟨g, cap, e1, _, _⟩ := own_form hown' (by omega)
      injection e1 with e1 _ e3
      subst e1 e3
      have HG := Lib.hid hg
      have HO := Lib.hid hown'
      have HM := Lib.hid (marks_succ mkPt 4 i k)
      obtain ⟨y0, hy0⟩ := owns_cell hown' (j := i * 4) (by omega)
      have z0 := hown'.frozenAt (i * 4)
      obtain ⟨y1, hy1⟩ := owns_cell hown' (j := i * 4 + 1) (by omega)
      have z1 := hown'.frozenAt (i * 4 + 1)
      obtain ⟨y2, hy2⟩ := owns_cell hown' (j := i * 4 + 2) (by omega)
      have z2 := hown'.frozenAt (i * 4 + 2)
      obtain ⟨y3, hy3⟩ := owns_cell hown' (j := i * 4 + 3) (by omega)
      have z3 := hown'.frozenAt (i * 4 + 3)
      clear hown' hg
      have hK0 : 0 < k + 4 * (i : Int) := by omega
      have hK1 : k + 4 * (i : Int) ≤ 1125899906842624 + 4 * 1048576 := by omega
      have HK : Hid ((k + 4 * (i : Int)) + 4 = k + 4 * ((i + 1 : Nat) : Int)) := (by omega : (k + 4 * (i : Int)) + 4 = k + 4 * ((i + 1 : Nat) : Int))
      generalize k + 4 * (i : Int) = K at *
      go_wp2
      go_roundw
      case rel => exact ⟨i + 1, setAll L (i * 4) (mkPt K), by omega, by go_num, by rw [← HK.out] <;> go_num, owns_puts (mkPt K) _ _ _ HO.out, by rw [show (i + 1) * 4 = i * 4 + (mkPt K).length by rw [Nat.add_mul]; rfl, take_setAll _ _ _ (by rw [HO.out.1]; have : (i + 1) * 4 ≤ n * 4 := Nat.mul_le_mul_right _ hlt; rw [Nat.add_mul] at this; simpa [mkPt] using this), HL.out]; exact HM.out.symm, grownBy_puts (mkPt K) _ _ HG.out⟩
      case measure => simp [intOf]; omega
    · have hin : i = n := by omega
      have HO := Lib.hid hown'
      have HG := Lib.hid hg
      clear hown' hg
      go_wp2
      exact ret_marked rfl HO.out HL.out hin HG.out rfl

set_option maxHeartbeats 2000000 in
set_option maxRecDepth 10000 in
theorem heldPtS_c (A : Option Addr) (n c base : Nat) (k : Int) (w : World) (hown : w.ownsRow base 107 4 (.slice A n c) n (marks mkPt 4 k n)) (hn : n ≤ 1048576) (hk0 : 0 < k) (hk1 : k ≤ 1125899906842624) :
    Calls Tryz.prog 87 #[.slice A n c, .int .i64 k] w (Ret w (.int .i64 (k + 4 * n))) := by
  go_enter Tryz.func87, Tryz.ntmps87
  go_wp2
  go_loopw [1, 5] (fun q x wr => ∃ i : Nat, i ≤ n ∧ x = .int .i64 i ∧ q = .int .i64 (k + 4 * i) ∧ Ext w wr) (fun _ x _ => n - (intOf x).toNat)
  case atStart => exact ⟨0, Nat.zero_le _, rfl, by simp, Ext.refl _⟩
  case round =>
    obtain ⟨i, hi, rfl, rfl, hb⟩ := hrel
    by_cases hlt : i < n
    · obtain ⟨g, cap, e1, _, _⟩ := own_form hown (by omega)
      injection e1 with e1 _ e3
      subst e1 e3
      have hown2 := owns_ext hown hb
      have HC : Hid (∀ j, j < 4 → (marks mkPt 4 k n)[i * 4 + j]? = (mkPt (k + 4 * i))[j]?) := fun j hj => marks_get mkPt_len n k i j hlt hj
      clear hown
      have hK0 : 0 < k + 4 * (i : Int) := by omega
      have hK1 : k + 4 * (i : Int) ≤ 1125899906842624 + 4 * 1048576 := by omega
      have HK : Hid ((k + 4 * (i : Int)) + 4 = k + 4 * ((i + 1 : Nat) : Int)) := (by omega : (k + 4 * (i : Int)) + 4 = k + 4 * ((i + 1 : Nat) : Int))
      generalize k + 4 * (i : Int) = K at *
      have c0 : wr.cell? ⟨g, i * 4, none⟩ = some (.int .i64 (K)) := by rw [hown2.cellAt _ (by omega)]; exact HC.out 0 (by omega)
      have c1 : wr.cell? ⟨g, i * 4 + 1, none⟩ = some (.int .i64 (K + 1)) := by rw [hown2.cellAt _ (by omega)]; exact HC.out 1 (by omega)
      have c2 : wr.cell? ⟨g, i * 4 + 2, none⟩ = some (.int .i64 (K + 1 + 1)) := by rw [hown2.cellAt _ (by omega)]; exact HC.out 2 (by omega)
      have c3 : wr.cell? ⟨g, i * 4 + 3, none⟩ = some (.int .i64 (K + 1 + 1 + 1)) := by rw [hown2.cellAt _ (by omega)]; exact HC.out 3 (by omega)
      go_wp2
      go_roundw
      case rel => exact ⟨i + 1, by omega, by go_num, by rw [← HK.out] <;> go_num, hb⟩
      case measure => simp [intOf]; omega
    · have hin : i = n := by omega
      subst hin
      clear hown
      go_wp2
      exact ret_int rfl rfl rfl rfl hb

end Go.Proofs.YtgmlcohffdeplaaGreat
