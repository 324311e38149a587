/- The law FnExactMean returns true: the walk. -/
import Derived.Test.YtlpofnppnnohiaaMean
namespace Go.Proofs.Ytlpofnppnnohiaa
open Go.RowKit
set_option maxHeartbeats 1000000 in
theorem FnExactMean_c (w : World) (A : Option Addr) (n c : Nat) (xs : List Int) (h : SlAt RInt 1 w A n xs) (hn : n ≤ maxLen) : Calls Try.prog 6 #[.slice A n c] w (Ret w (.bool true)) := by
  obtain rfl := h.len
  have hn' := hn
  unfold maxLen at hn'
  have hM := Flat.mono encInt In64
  go_enter Try.func6, Try.ntmps6
  by_cases hz : 1048576 < xs.length
  · go_wp2
    exact ret_is (by simp [results, Try.results6, go_sem]) rfl (by repeat (first | exact Ext.refl _ | assumption | apply Ext.alloc | apply Ext.drewN | apply Ext.drew | (refine Ext.setCell ?_ (by first | (simp; done) | (simp; omega) | omega) _) | (refine Ext.trans ?_ (by assumption))))
  · have hle' : xs.length ≤ 1048576 := by omega
    go_wp2_with fail
    refine (RetOwn.sl (toIntS_c xs _ _ _ _ h hle')).mono ?_
    rintro e w2 ⟨A2, c2, rfl, hs2, hb2⟩
    go_wp2_with fail
    refine (sMean_c xs _ _ _ _ hs2 hn).mono ?_
    rintro e w3 ⟨rfl, rfl⟩
    go_wp2_with fail
    refine (RetOwn.sl (toIntS_c xs _ _ _ _ (h.ext hM hb2) hle')).mono ?_
    rintro e w4 ⟨A4, c4, rfl, hs4, hb4⟩
    go_wp2_with fail
    refine (Mean_c xs _ _ _ _ hs4 hn).mono ?_
    rintro e w5 ⟨rfl, rfl⟩
    go_wp2_with fail
    refine (RetOwn.sl (toIntS_c xs _ _ _ _ (h.ext hM (hb2.trans hb4)) hle')).mono ?_
    rintro e w6 ⟨A6, c6, rfl, hs6, hb6⟩
    go_wp2_with fail
    refine (eqIntS_c xs xs _ _ _ _ _ _ _ (hs4.ext hM hb6) hs6 hn).mono ?_
    rintro e w7 ⟨rfl, hb7⟩
    go_wp2
    exact ret_is (by simp [results, Try.results6, go_sem]) rfl (by repeat (first | exact Ext.refl _ | assumption | apply Ext.alloc | apply Ext.drewN | apply Ext.drew | (refine Ext.setCell ?_ (by first | (simp; done) | (simp; omega) | omega) _) | (refine Ext.trans ?_ (by assumption))))
end Go.Proofs.Ytlpofnppnnohiaa
