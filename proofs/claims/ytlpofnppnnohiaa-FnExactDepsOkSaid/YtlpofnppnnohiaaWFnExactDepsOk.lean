/- The law FnExactDepsOk returns true: the walk. -/
import Derived.Test.YtlpofnppnnohiaaDeps
namespace Go.Proofs.Ytlpofnppnnohiaa
open Go.RowKit
set_option maxHeartbeats 1000000 in
theorem FnExactDepsOk_c (w : World) (A : Option Addr) (n c : Nat) (xs : List Dep) (h : SlAt RDep 2 w A n xs) (hn : n ≤ maxLen) : Calls Try.prog 8 #[.slice A n c] w (Ret w (.bool true)) := by
  obtain rfl := h.len
  have hM := Flat.mono Dep.enc Dep.ok
  go_enter Try.func8, Try.ntmps8
  rcases szM_cases xs.length 1048576 with hz | ⟨hz, hle, _⟩
  · go_wp2_with fail
    refine (szDepS_c _ _ _ _ _ hn (by omega) (by omega)).mono ?_
    rintro e w1 ⟨rfl, hb1⟩
    go_wp2
    exact ret_is (by simp [results, Try.results8, go_sem]) rfl (by repeat (first | exact Ext.refl _ | assumption | apply Ext.alloc | apply Ext.drewN | apply Ext.drew | (refine Ext.setCell ?_ (by first | (simp; done) | (simp; omega) | omega) _) | (refine Ext.trans ?_ (by assumption))))
  · have hle' : xs.length ≤ 1048576 := by omega
    have HZ := Lib.hid hz
    have hz' : decide (szM xs.length 1048576 < 0) = false := by simpa using hz
    clear hz
    go_wp2_with fail
    refine (szDepS_c _ _ _ _ _ hn (by omega) (by omega)).mono ?_
    rintro e w1 ⟨rfl, hb1⟩
    go_wp2_with fail
    refine (RetOwn.sl (toDepS_c xs _ _ _ _ (h.ext hM hb1) hle')).mono ?_
    rintro e w2 ⟨A2, c2, rfl, hs2, hb2⟩
    go_wp2_with fail
    refine (sDepsOk_c xs _ _ _ _ hs2 hn).mono ?_
    rintro e w3 ⟨rfl, hb3⟩
    go_wp2_with fail
    refine (RetOwn.sl (toDepS_c xs _ _ _ _ (h.ext hM (hb1.trans (hb2.trans hb3))) hle')).mono ?_
    rintro e w4 ⟨A4, c4, rfl, hs4, hb4⟩
    go_wp2_with fail
    refine (DepsOk_c xs _ _ _ _ hs4 hn).mono ?_
    rintro e w5 ⟨rfl, hb5⟩
    go_wp2_with fail
    refine (RetOwn.sl (toDepS_c xs _ _ _ _ (h.ext hM (hb1.trans (hb2.trans (hb3.trans (hb4.trans hb5))))) hle')).mono ?_
    rintro e w6 ⟨A6, c6, rfl, hs6, hb6⟩
    go_wp2_with fail
    refine (eqDepS_c xs xs _ _ _ _ _ _ _ (hs4.ext hM (hb5.trans hb6)) hs6 hn).mono ?_
    rintro e w7 ⟨rfl, hb7⟩
    go_wp2
    exact ret_is (by simp [results, Try.results8, go_sem]) rfl (by repeat (first | exact Ext.refl _ | assumption | apply Ext.alloc | apply Ext.drewN | apply Ext.drew | (refine Ext.setCell ?_ (by first | (simp; done) | (simp; omega) | omega) _) | (refine Ext.trans ?_ (by assumption))))
end Go.Proofs.Ytlpofnppnnohiaa
