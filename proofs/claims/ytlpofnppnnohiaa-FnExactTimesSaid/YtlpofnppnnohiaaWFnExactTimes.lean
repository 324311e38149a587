/- The law FnExactTimes returns true: the walk. -/
import Derived.Test.YtlpofnppnnohiaaTimes
namespace Go.Proofs.Ytlpofnppnnohiaa
open Go.RowKit
set_option maxHeartbeats 1000000 in
theorem FnExactTimes_c (w : World) (x : Vec) (_ : x.ok) (n : Int) (hn : In64 n) : Calls Try.prog 7 #[.agg x.enc.toArray, .int .i64 n] w (Ret w (.bool true)) := by
  show Calls Try.prog 7 #[.agg #[.int .i64 x.A, .int .i64 x.B, .int .i64 x.C], .int .i64 n] w _
  go_enter Try.func7, Try.ntmps7
  go_wp2_with (first | (go_at_call 21; (with_reducible refine (toVec_x _ _ _ _).mono ?_); rintro e w1 ⟨rfl, rfl⟩) | (go_at_call 20; (with_reducible refine (sTimes_c x n _ hn).mono ?_); rintro e w2 ⟨rfl, hb2⟩; obtain ⟨hcr2, hfr2, hz2⟩ := hb2.rules; (try simp at hz2); have hy2_w0 : w.heap.size < w2.heap.size := (by omega)) | (go_at_call 22; (with_reducible refine (Times_c x n _).mono ?_); rintro e w3 ⟨rfl, hb3⟩; obtain ⟨hcr3, hfr3, hz3⟩ := hb3.rules; (try simp at hz3); have hy3_w0 : w.heap.size < w3.heap.size := (by omega); have hy3_w20 : w2.heap.size < w3.heap.size := (by omega)) | (go_at_call 23; (with_reducible refine (eqVec_c (timesV x n) (timesV x n) _).mono ?_); rintro e w4 ⟨rfl, hb4⟩; obtain ⟨hcr4, hfr4, hz4⟩ := hb4.rules; (try simp at hz4); have hy4_w0 : w.heap.size < w4.heap.size := (by omega)))
  all_goals exact ret_is (by simp [results, Try.results7, go_sem]) rfl (by repeat (first | exact Ext.refl _ | assumption | apply Ext.alloc | apply Ext.drewN | apply Ext.drew | (refine Ext.setCell ?_ (by first | (simp; done) | (simp; omega) | omega) _) | (refine Ext.trans ?_ (by assumption))))
end Go.Proofs.Ytlpofnppnnohiaa
