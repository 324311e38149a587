/- The law FnExactWordOk returns true: the walk. -/
import Derived.Test.YtlpofnppnnohiaaWord
namespace Go.Proofs.Ytlpofnppnnohiaa
open Go.RowKit
set_option maxHeartbeats 1000000 in
theorem FnExactWordOk_c (w : World) (s : ByteArray) (hs : s.size ≤ maxLen) : Calls Try.prog 3 #[.string s] w (Ret w (.bool true)) := by
  have hs' := hs
  unfold maxLen at hs'
  go_enter Try.func3, Try.ntmps3
  go_wp2_with (first | (go_at_call 9; (with_reducible refine (sWordOk_c s _ hs).mono ?_); rintro e w1 ⟨rfl, rfl⟩) | (go_at_call 10; (with_reducible refine (WordOk_c s _ hs).mono ?_); rintro e w2 ⟨rfl, rfl⟩))
  all_goals exact ret_is (by simp [results, Try.results3, go_sem]) rfl (by repeat (first | exact Ext.refl _ | assumption | apply Ext.alloc | apply Ext.drewN | apply Ext.drew | (refine Ext.setCell ?_ (by first | (simp; done) | (simp; omega) | omega) _) | (refine Ext.trans ?_ (by assumption))))
end Go.Proofs.Ytlpofnppnnohiaa
