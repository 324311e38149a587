/- The law FnExactBillOk returns true: the walk. -/
import Derived.Test.YtlpofnppnnohiaaBill
namespace Go.Proofs.Ytlpofnppnnohiaa
open Go.RowKit
set_option maxHeartbeats 1000000 in
theorem FnExactBillOk_c (w : World) (x : Bill) (_ : x.ok) : Calls Try.prog 4 #[.agg x.enc.toArray] w (Ret w (.bool true)) := by
  show Calls Try.prog 4 #[.agg #[.int .i64 x.Id, .int .i64 x.From, .int .i64 x.To, .int .i64 x.Nodes, .int .i64 x.Need.A, .int .i64 x.Need.B, .int .i64 x.Need.C]] w _
  go_enter Try.func4, Try.ntmps4
  go_wp2_with (first | (go_at_call 12; (with_reducible refine (toBill_c x _).mono ?_); rintro e w1 ⟨rfl, hb1⟩; obtain ⟨hcr1, hfr1, hz1⟩ := hb1.rules; (try simp at hz1); have hy1_w0 : w.heap.size < w1.heap.size := (by omega)) | (go_at_call 11; (with_reducible refine (sBillOk_c x _).mono ?_); rintro e w2 ⟨rfl, hb2⟩; obtain ⟨hcr2, hfr2, hz2⟩ := hb2.rules; (try simp at hz2); have hy2_w0 : w.heap.size < w2.heap.size := (by omega)) | (go_at_call 13; (with_reducible refine (BillOk_c x _).mono ?_); rintro e w3 ⟨rfl, hb3⟩; obtain ⟨hcr3, hfr3, hz3⟩ := hb3.rules; (try simp at hz3); have hy3_w0 : w.heap.size < w3.heap.size := (by omega)))
  all_goals exact ret_is (by simp [results, Try.results4, go_sem]) rfl (by repeat (first | exact Ext.refl _ | assumption | apply Ext.alloc | apply Ext.drewN | apply Ext.drew | (refine Ext.setCell ?_ (by first | (simp; done) | (simp; omega) | omega) _) | (refine Ext.trans ?_ (by assumption))))
end Go.Proofs.Ytlpofnppnnohiaa
