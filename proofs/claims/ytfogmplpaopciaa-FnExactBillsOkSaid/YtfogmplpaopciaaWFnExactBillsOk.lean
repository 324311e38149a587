/- The law FnExactBillsOk returns true: the walk. -/
import Derived.Test.YtfogmplpaopciaaBills
namespace Go.Proofs.Ytfogmplpaopciaa
open Go.RowKit
set_option maxHeartbeats 1000000 in
theorem FnExactBillsOk_c (w : World) (A : Option Addr) (n c : Nat) (xs : List Bill) (h : SlAt RBill 7 w A n xs) (hn : n ≤ maxLen) : Calls Try.prog 4 #[.slice A n c] w (Ret w (.bool true)) := by
  obtain rfl := h.len
  have hM := Flat.mono Bill.enc Bill.ok
  go_enter Try.func4, Try.ntmps4
  rcases szM_cases xs.length 1048576 with hz | ⟨hz, hle, _⟩
  · go_wp2_with fail
    refine (szBillS_c _ _ _ _ _ hn (by omega) (by omega)).mono ?_
    rintro e w1 ⟨rfl, hb1⟩
    go_wp2
    exact ret_is (by simp [results, Try.results4, go_sem]) rfl (by repeat (first | exact Ext.refl _ | assumption | apply Ext.alloc | apply Ext.drewN | apply Ext.drew | (refine Ext.setCell ?_ (by first | (simp; done) | (simp; omega) | omega) _) | (refine Ext.trans ?_ (by assumption))))
  · have hle' : xs.length ≤ 1048576 := by omega
    have hz' : decide (szM xs.length 1048576 < 0) = false := by simpa using hz
    clear hz
    go_wp2_with fail
    refine (szBillS_c _ _ _ _ _ hn (by omega) (by omega)).mono ?_
    rintro e w1 ⟨rfl, hb1⟩
    go_wp2_with fail
    refine (RetOwn.sl (toBillS_c xs _ _ _ _ (h.ext hM hb1) hle')).mono ?_
    rintro e w2 ⟨A2, c2, rfl, hs2, hb2⟩
    go_wp2_with fail
    refine (sBillsOk_c xs _ _ _ _ hs2 hn).mono ?_
    rintro e w3 ⟨rfl, hb3⟩
    go_wp2_with fail
    refine (RetOwn.sl (toBillS_c xs _ _ _ _ (h.ext hM (hb1.trans (hb2.trans hb3))) hle')).mono ?_
    rintro e w4 ⟨A4, c4, rfl, hs4, hb4⟩
    go_wp2_with fail
    refine (BillsOk_c xs _ _ _ _ hs4 hn).mono ?_
    rintro e w5 ⟨rfl, hb5⟩
    go_wp2_with fail
    refine (RetOwn.sl (toBillS_c xs _ _ _ _ (h.ext hM (hb1.trans (hb2.trans (hb3.trans (hb4.trans hb5))))) hle')).mono ?_
    rintro e w6 ⟨A6, c6, rfl, hs6, hb6⟩
    go_wp2_with fail
    refine (eqBillS_c xs xs _ _ _ _ _ _ _ (hs4.ext hM (hb5.trans hb6)) hs6 hn).mono ?_
    rintro e w7 ⟨rfl, hb7⟩
    go_wp2
    exact ret_is (by simp [results, Try.results4, go_sem]) rfl (by repeat (first | exact Ext.refl _ | assumption | apply Ext.alloc | apply Ext.drewN | apply Ext.drew | (refine Ext.setCell ?_ (by first | (simp; done) | (simp; omega) | omega) _) | (refine Ext.trans ?_ (by assumption))))
end Go.Proofs.Ytfogmplpaopciaa
