/- Contracts of the laws' marks. Written by gen.py. -/
import Derived.Test.YtgnbjnlcikpknaaMark
namespace Go.Proofs.Ytgnbjnlcikpknaa
open Go.RowKit

def mkInt (k : Int) : List Value := [.int .i64 (k)]
theorem mkInt_len (k : Int) : (mkInt k).length = 1 := rfl
set_option maxHeartbeats 2000000 in
set_option maxRecDepth 10000 in
theorem markIntS_c (A : Option Addr) (n c base : Nat) (L0 : List Value) (k : Int) (w : World) (hown : w.ownsRow base 3 1 (.slice A n c) n L0) (hn : n ≤ 1048576) (hk0 : 0 < k) (hk1 : k ≤ 1125899906842624) :
    Calls Try.prog 25 #[.slice A n c, .int .i64 k] w (Marked mkInt 1 3 w base (.slice A n c) k n) := by
  go_enter Try.func25, Try.ntmps25
  go_wp2
  go_loopw [1, 5] (fun q x wr => ∃ (i : Nat) (L : List Value), i ≤ n ∧ x = .int .i64 i ∧ q = .int .i64 (k + 1 * i) ∧ wr.ownsRow base 3 1 (.slice A n c) n L ∧ L.take (i * 1) = marks mkInt 1 k i ∧ w.grownBy wr (Value.ownBlock (.slice A n c))) (fun _ x _ => n - (intOf x).toNat)
  case atStart => exact ⟨0, L0, Nat.zero_le _, rfl, by simp, hown, by simp [marks], World.grownBy.refl w _⟩
  case round =>
    obtain ⟨i, L, hi, rfl, rfl, hown', hL, hg⟩ := hrel
    clear hown
    have HL := Lib.hid hL
    clear hL
    by_cases hlt : i < n
    · obtain ⟨g, cap, e1, _, _⟩ := own_form hown' (by omega)
      injection e1 with e1 _ e3
      subst e1 e3
      have HG := Lib.hid hg
      have HO := Lib.hid hown'
      have HM := Lib.hid (marks_succ mkInt 1 i k)
      obtain ⟨y0, hy0⟩ := owns_cell hown' (j := i) (by omega)
      have z0 := hown'.frozenAt (i)
      clear hown' hg
      have hK0 : 0 < k + 1 * (i : Int) := by omega
      have hK1 : k + 1 * (i : Int) ≤ 1125899906842624 + 1 * 1048576 := by omega
      have HK : Hid ((k + 1 * (i : Int)) + 1 = k + 1 * ((i + 1 : Nat) : Int)) := (by omega : (k + 1 * (i : Int)) + 1 = k + 1 * ((i + 1 : Nat) : Int))
      generalize k + 1 * (i : Int) = K at *
      go_wp2
      go_roundw
      case rel => exact ⟨i + 1, setAll L (i * 1) (mkInt K), by omega, by go_num, by rw [← HK.out] <;> go_num, by rw [Nat.mul_one]; exact owns_puts (mkInt K) _ _ _ HO.out, by rw [show (i + 1) * 1 = i * 1 + (mkInt K).length by rw [Nat.add_mul]; rfl, take_setAll _ _ _ (by rw [HO.out.1]; have : (i + 1) * 1 ≤ n * 1 := Nat.mul_le_mul_right _ hlt; rw [Nat.add_mul] at this; simpa [mkInt] using this), HL.out]; exact HM.out.symm, grownBy_puts (mkInt K) _ _ HG.out⟩
      case measure => simp [intOf]; omega
    · have hin : i = n := by omega
      have HO := Lib.hid hown'
      have HG := Lib.hid hg
      clear hown' hg
      go_wp2
      exact ret_marked rfl HO.out HL.out hin HG.out rfl

set_option maxHeartbeats 2000000 in
set_option maxRecDepth 10000 in
theorem heldIntS_c (A : Option Addr) (n c base : Nat) (k : Int) (w : World) (hown : w.ownsRow base 3 1 (.slice A n c) n (marks mkInt 1 k n)) (hn : n ≤ 1048576) (hk0 : 0 < k) (hk1 : k ≤ 1125899906842624) :
    Calls Try.prog 51 #[.slice A n c, .int .i64 k] w (Ret w (.int .i64 (k + 1 * n))) := by
  go_enter Try.func51, Try.ntmps51
  go_wp2
  go_loopw [1, 5] (fun q x wr => ∃ i : Nat, i ≤ n ∧ x = .int .i64 i ∧ q = .int .i64 (k + 1 * i) ∧ Ext w wr) (fun _ x _ => n - (intOf x).toNat)
  case atStart => exact ⟨0, Nat.zero_le _, rfl, by simp, Ext.refl _⟩
  case round =>
    obtain ⟨i, hi, rfl, rfl, hb⟩ := hrel
    by_cases hlt : i < n
    · obtain ⟨g, cap, e1, _, _⟩ := own_form hown (by omega)
      injection e1 with e1 _ e3
      subst e1 e3
      have hown2 := owns_ext hown hb
      have HC : Hid (∀ j, j < 1 → (marks mkInt 1 k n)[i * 1 + j]? = (mkInt (k + 1 * i))[j]?) := fun j hj => marks_get mkInt_len n k i j hlt hj
      clear hown
      have hK0 : 0 < k + 1 * (i : Int) := by omega
      have hK1 : k + 1 * (i : Int) ≤ 1125899906842624 + 1 * 1048576 := by omega
      have HK : Hid ((k + 1 * (i : Int)) + 1 = k + 1 * ((i + 1 : Nat) : Int)) := (by omega : (k + 1 * (i : Int)) + 1 = k + 1 * ((i + 1 : Nat) : Int))
      generalize k + 1 * (i : Int) = K at *
      have c0 : wr.cell? ⟨g, i, none⟩ = some (.int .i64 (K)) := by rw [hown2.cellAt _ (by omega)]; have := HC.out 0 (by omega); simp only [Nat.mul_one, Nat.add_zero] at this ⊢; exact this
      go_wp2
      go_roundw
      case rel => exact ⟨i + 1, by omega, by go_num, by rw [← HK.out] <;> go_num, hb⟩
      case measure => simp [intOf]; omega
    · have hin : i = n := by omega
      subst hin
      clear hown
      go_wp2
      exact ret_int rfl rfl rfl rfl hb

def mkDep (k : Int) : List Value := [.int .i64 (k), .int .i64 (k + 1)]
theorem mkDep_len (k : Int) : (mkDep k).length = 2 := rfl
set_option maxHeartbeats 2000000 in
set_option maxRecDepth 10000 in
theorem markDepS_c (A : Option Addr) (n c base : Nat) (L0 : List Value) (k : Int) (w : World) (hown : w.ownsRow base 31 2 (.slice A n c) n L0) (hn : n ≤ 1048576) (hk0 : 0 < k) (hk1 : k ≤ 1125899906842624) :
    Calls Try.prog 24 #[.slice A n c, .int .i64 k] w (Marked mkDep 2 31 w base (.slice A n c) k n) := by
  go_enter Try.func24, Try.ntmps24
  go_wp2
  go_loopw [1, 5] (fun q x wr => ∃ (i : Nat) (L : List Value), i ≤ n ∧ x = .int .i64 i ∧ q = .int .i64 (k + 2 * i) ∧ wr.ownsRow base 31 2 (.slice A n c) n L ∧ L.take (i * 2) = marks mkDep 2 k i ∧ w.grownBy wr (Value.ownBlock (.slice A n c))) (fun _ x _ => n - (intOf x).toNat)
  case atStart => exact ⟨0, L0, Nat.zero_le _, rfl, by simp, hown, by simp [marks], World.grownBy.refl w _⟩
  case round =>
    obtain ⟨i, L, hi, rfl, rfl, hown', hL, hg⟩ := hrel
    clear hown
    have HL := Lib.hid hL
    clear hL
    by_cases hlt : i < n
    · obtain ⟨g, cap, e1, _, _⟩ := own_form hown' (by omega)
      injection e1 with e1 _ e3
      subst e1 e3
      have HG := Lib.hid hg
      have HO := Lib.hid hown'
      have HM := Lib.hid (marks_succ mkDep 2 i k)
      obtain ⟨y0, hy0⟩ := owns_cell hown' (j := i * 2) (by omega)
      have z0 := hown'.frozenAt (i * 2)
      obtain ⟨y1, hy1⟩ := owns_cell hown' (j := i * 2 + 1) (by omega)
      have z1 := hown'.frozenAt (i * 2 + 1)
      clear hown' hg
      have hK0 : 0 < k + 2 * (i : Int) := by omega
      have hK1 : k + 2 * (i : Int) ≤ 1125899906842624 + 2 * 1048576 := by omega
      have HK : Hid ((k + 2 * (i : Int)) + 2 = k + 2 * ((i + 1 : Nat) : Int)) := (by omega : (k + 2 * (i : Int)) + 2 = k + 2 * ((i + 1 : Nat) : Int))
      generalize k + 2 * (i : Int) = K at *
      go_wp2
      go_roundw
      case rel => exact ⟨i + 1, setAll L (i * 2) (mkDep K), by omega, by go_num, by rw [← HK.out] <;> go_num, owns_puts (mkDep K) _ _ _ HO.out, by rw [show (i + 1) * 2 = i * 2 + (mkDep K).length by rw [Nat.add_mul]; rfl, take_setAll _ _ _ (by rw [HO.out.1]; have : (i + 1) * 2 ≤ n * 2 := Nat.mul_le_mul_right _ hlt; rw [Nat.add_mul] at this; simpa [mkDep] using this), HL.out]; exact HM.out.symm, grownBy_puts (mkDep K) _ _ HG.out⟩
      case measure => simp [intOf]; omega
    · have hin : i = n := by omega
      have HO := Lib.hid hown'
      have HG := Lib.hid hg
      clear hown' hg
      go_wp2
      exact ret_marked rfl HO.out HL.out hin HG.out rfl

set_option maxHeartbeats 2000000 in
set_option maxRecDepth 10000 in
theorem heldDepS_c (A : Option Addr) (n c base : Nat) (k : Int) (w : World) (hown : w.ownsRow base 31 2 (.slice A n c) n (marks mkDep 2 k n)) (hn : n ≤ 1048576) (hk0 : 0 < k) (hk1 : k ≤ 1125899906842624) :
    Calls Try.prog 29 #[.slice A n c, .int .i64 k] w (Ret w (.int .i64 (k + 2 * n))) := by
  go_enter Try.func29, Try.ntmps29
  go_wp2
  go_loopw [1, 5] (fun q x wr => ∃ i : Nat, i ≤ n ∧ x = .int .i64 i ∧ q = .int .i64 (k + 2 * i) ∧ Ext w wr) (fun _ x _ => n - (intOf x).toNat)
  case atStart => exact ⟨0, Nat.zero_le _, rfl, by simp, Ext.refl _⟩
  case round =>
    obtain ⟨i, hi, rfl, rfl, hb⟩ := hrel
    by_cases hlt : i < n
    · obtain ⟨g, cap, e1, _, _⟩ := own_form hown (by omega)
      injection e1 with e1 _ e3
      subst e1 e3
      have hown2 := owns_ext hown hb
      have HC : Hid (∀ j, j < 2 → (marks mkDep 2 k n)[i * 2 + j]? = (mkDep (k + 2 * i))[j]?) := fun j hj => marks_get mkDep_len n k i j hlt hj
      clear hown
      have hK0 : 0 < k + 2 * (i : Int) := by omega
      have hK1 : k + 2 * (i : Int) ≤ 1125899906842624 + 2 * 1048576 := by omega
      have HK : Hid ((k + 2 * (i : Int)) + 2 = k + 2 * ((i + 1 : Nat) : Int)) := (by omega : (k + 2 * (i : Int)) + 2 = k + 2 * ((i + 1 : Nat) : Int))
      generalize k + 2 * (i : Int) = K at *
      have c0 : wr.cell? ⟨g, i * 2, none⟩ = some (.int .i64 (K)) := by rw [hown2.cellAt _ (by omega)]; exact HC.out 0 (by omega)
      have c1 : wr.cell? ⟨g, i * 2 + 1, none⟩ = some (.int .i64 (K + 1)) := by rw [hown2.cellAt _ (by omega)]; exact HC.out 1 (by omega)
      go_wp2
      go_roundw
      case rel => exact ⟨i + 1, by omega, by go_num, by rw [← HK.out] <;> go_num, hb⟩
      case measure => simp [intOf]; omega
    · have hin : i = n := by omega
      subst hin
      clear hown
      go_wp2
      exact ret_int rfl rfl rfl rfl hb

end Go.Proofs.Ytgnbjnlcikpknaa
