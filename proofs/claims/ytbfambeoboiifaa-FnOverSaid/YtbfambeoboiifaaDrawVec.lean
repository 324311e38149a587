/- Contracts of the draws: vectors, jobs. Written by gendraw.py. -/
import Derived.Test.YtbfambeoboiifaaDrawH
namespace Go.Proofs.Ytbfambeoboiifaa
open Go.RowKit
set_option linter.unusedVariables false
theorem draw_frozen {w : World} {b : Nat} {cs : List Value} {e : TypeId} (h : w.heap[b]? = some (Obj.cells cs.toArray e)) (j : Nat) : w.frozen? ⟨b, j, none⟩ = false := by simp [World.frozen?, h]
def RetVecD (w : World) (g : Nat) : Ending → World → Prop := fun e w' => ∃ x : Vec, e = .returned (.agg #[.int .i64 x.A, .int .i64 x.B, .int .i64 x.C]) ∧ x.ok ∧ Turned g (g + 1) w w' ∧ Cur w' g
def RetJobD (w : World) (g : Nat) : Ending → World → Prop := fun e w' => ∃ x : Job, e = .returned (.agg #[.int .i64 x.Id, .int .i64 x.Prio, .int .i64 x.Nodes, .int .i64 x.Need.A, .int .i64 x.Need.B, .int .i64 x.Need.C, .int .i64 x.Lic.A, .int .i64 x.Lic.B, .int .i64 x.Lic.C, .int .i64 x.Wall, .int .i64 x.Level]) ∧ x.ok ∧ Turned g (g + 1) w w' ∧ Cur w' g
set_option maxHeartbeats 4000000 in
set_option maxRecDepth 20000 in
theorem l01Vec_c (g : Nat) (w : World) (hc : Cur w g) : Calls Try.prog 78 #[.pointer (some ⟨g, 0, none⟩)] w (RetVecD w g) := by
  have hgw := hc.lt
  have HB := Lib.hid (fun (n : Int) (hn : In64 n) (u : World) (hu : Cur u g) => l01Below_c g n u hu hn)
  have HR := Lib.hid (fun (u : World) (hu : Cur u g) => l01Raw_c g u hu)
  have H9 : Hid (∀ n : Int, -1000000 ≤ n → n ≤ 1000000 → In64 n) := Lib.hid (fun n h1 h2 => by unfold In64; omega)
  have HC0 := Lib.hid (hc.ext ((Ext.refl w).alloc (.cells #[.int .i64 0, .int .i64 0, .int .i64 0] 42)))
  have HT0 := Lib.hid (((Ext.refl w).alloc (.cells #[.int .i64 0, .int .i64 0, .int .i64 0] 42)).turned g (g + 1))
  have HY0 := Lib.hid (heap_alloc_new w (.cells #[.int .i64 0, .int .i64 0, .int .i64 0] 42))
  clear hc
  go_enter Try.func78, Try.ntmps78
  go_wp2_with fail
  refine (HB.out 9 (H9.out _ (by omega) (by omega)) _ HC0.out).mono ?_
  rintro e w1 ⟨v1, rfl, ⟨hv1a, hv1b⟩, ht1, hc1⟩
  have HT1 := Lib.hid (HT0.out.trans ht1)
  have HC1 := Lib.hid hc1
  have hs1 := HT1.out.le
  have HY1 := Lib.hid (heapT ht1 HY0.out (by omega))
  clear ht1 hc1
  go_wp2_with fail
  refine (HB.out 17 (H9.out _ (by omega) (by omega)) _ HC1.out).mono ?_
  rintro e w2 ⟨v2, rfl, ⟨hv2a, hv2b⟩, ht2, hc2⟩
  have HT2 := Lib.hid (HT1.out.trans ht2)
  have HC2 := Lib.hid hc2
  have hs2 := HT2.out.le
  have HY2 := Lib.hid (heapT ht2 HY1.out (by omega))
  clear ht2 hc2
  go_wp2_with fail
  refine (HB.out 3 (H9.out _ (by omega) (by omega)) _ HC2.out).mono ?_
  rintro e w3 ⟨v3, rfl, ⟨hv3a, hv3b⟩, ht3, hc3⟩
  have HT3 := Lib.hid (HT2.out.trans ht3)
  have HC3 := Lib.hid hc3
  have hs3 := HT3.out.le
  have HY3 := Lib.hid (heapT ht3 HY2.out (by omega))
  clear ht3 hc3
  go_wp2_with fail
  refine (HB.out 14 (H9.out _ (by omega) (by omega)) _ (HC3.out.ext ((Ext.refl w3).alloc _))).mono ?_
  rintro e w4 ⟨v4, rfl, ⟨hv4a, hv4b⟩, ht4, hc4⟩
  have HT4 := Lib.hid ((HT3.out.ext ((Ext.refl w3).alloc _)).trans ht4)
  have HC4 := Lib.hid hc4
  have hs4 := HT4.out.le
  have HY4 := Lib.hid (heapT ht4 (heapE ((Ext.refl w3).alloc _) HY3.out) (by omega))
  have HX4 := Lib.hid (heapT ht4 (heap_alloc_new w3 _) (by omega))
  clear ht4 hc4
  by_cases hv : v4 = 0
  · subst hv
    go_wp2_with fail
    refine (HB.out 2 (H9.out _ (by omega) (by omega)) _ HC4.out).mono ?_
    rintro e w5 ⟨v5, rfl, ⟨hv5a, hv5b⟩, ht5, hc5⟩
    have HT5 := Lib.hid (HT4.out.trans ht5)
    have HC5 := Lib.hid hc5
    have hs5 := HT5.out.le
    have HY5 := Lib.hid (heapT ht5 HY4.out (by omega))
    have HX5 := Lib.hid (heapT ht5 HX4.out (by omega))
    clear ht5 hc5
    have x0 := cell_block HX5.out 0 _ rfl
    have x1 := cell_block HX5.out 1 _ rfl
    have x2 := cell_block HX5.out 2 _ rfl
    have y0 := cell_block HY5.out 0 _ rfl
    have y1 := cell_block HY5.out 1 _ rfl
    have y2 := cell_block HY5.out 2 _ rfl
    have yf0 := draw_frozen HY5.out 0
    have yf1 := draw_frozen HY5.out 1
    have yf2 := draw_frozen HY5.out 2
    have xf1 := draw_frozen HX5.out 1
    have hlx := heap_lt HX5.out
    have hly := heap_lt HY5.out
    have hlm : w.heap.size < w3.heap.size := heap_lt HY3.out
    have hn1 : ¬ w.heap.size = w3.heap.size := by omega
    have hn2 : ¬ w3.heap.size = w.heap.size := by omega
    go_wp2
    refine bodyPost_ret (v := .agg #[.int .i64 v1, .int .i64 (1000000 - v5), .int .i64 v3]) (by simp [results, Try.results78, go_sem, y0, y1, y2]) rfl ⟨⟨v1, 1000000 - v5, v3⟩, rfl, ⟨in64_of (n := v1) (by omega) (by omega), in64_of (n := 1000000 - v5) (by omega) (by omega), in64_of (n := v3) (by omega) (by omega)⟩, ?_, ?_⟩
    · repeat (first | with_reducible exact HT5.out | refine turned_own ?_ (by omega))
    · repeat (first | with_reducible exact HC5.out | refine Cur.put ?_ (by omega))
  · skip
    have x0 := cell_block HX4.out 0 _ rfl
    have x1 := cell_block HX4.out 1 _ rfl
    have x2 := cell_block HX4.out 2 _ rfl
    have y0 := cell_block HY4.out 0 _ rfl
    have y1 := cell_block HY4.out 1 _ rfl
    have y2 := cell_block HY4.out 2 _ rfl
    have yf0 := draw_frozen HY4.out 0
    have yf1 := draw_frozen HY4.out 1
    have yf2 := draw_frozen HY4.out 2
    have hlx := heap_lt HX4.out
    have hly := heap_lt HY4.out
    have hlm : w.heap.size < w3.heap.size := heap_lt HY3.out
    have hn1 : ¬ w.heap.size = w3.heap.size := by omega
    have hn2 : ¬ w3.heap.size = w.heap.size := by omega
    go_wp2
    refine bodyPost_ret (v := .agg #[.int .i64 v1, .int .i64 v2, .int .i64 v3]) (by simp [results, Try.results78, go_sem, y0, y1, y2]) rfl ⟨⟨v1, v2, v3⟩, rfl, ⟨in64_of (n := v1) (by omega) (by omega), in64_of (n := v2) (by omega) (by omega), in64_of (n := v3) (by omega) (by omega)⟩, ?_, ?_⟩
    · repeat (first | with_reducible exact HT4.out | refine turned_own ?_ (by omega))
    · repeat (first | with_reducible exact HC4.out | refine Cur.put ?_ (by omega))
set_option maxHeartbeats 4000000 in
set_option maxRecDepth 20000 in
theorem l01Any_c (g : Nat) (w : World) (hc : Cur w g) : Calls Try.prog 50 #[.pointer (some ⟨g, 0, none⟩)] w (RetVecD w g) := by
  have hgw := hc.lt
  have HB := Lib.hid (fun (n : Int) (hn : In64 n) (u : World) (hu : Cur u g) => l01Below_c g n u hu hn)
  have HR := Lib.hid (fun (u : World) (hu : Cur u g) => l01Raw_c g u hu)
  have H9 : Hid (∀ n : Int, -1000000 ≤ n → n ≤ 1000000 → In64 n) := Lib.hid (fun n h1 h2 => by unfold In64; omega)
  have HC0 := Lib.hid (hc.ext ((Ext.refl w).alloc (.cells #[.int .i64 0, .int .i64 0, .int .i64 0] 42)))
  have HT0 := Lib.hid (((Ext.refl w).alloc (.cells #[.int .i64 0, .int .i64 0, .int .i64 0] 42)).turned g (g + 1))
  have HY0 := Lib.hid (heap_alloc_new w (.cells #[.int .i64 0, .int .i64 0, .int .i64 0] 42))
  clear hc
  go_enter Try.func50, Try.ntmps50
  go_wp2_with fail
  refine (l01Vec_c g _ HC0.out).mono ?_
  rintro e w1 ⟨x, rfl, hx, ht1, hc1⟩
  have HT1 := Lib.hid (HT0.out.trans ht1)
  have HC1 := Lib.hid hc1
  have HY1 := Lib.hid (heapT ht1 HY0.out (by omega))
  have HXO := Lib.hid hx
  have hs1 := HT1.out.le
  clear ht1 hc1 hx
  go_wp2_with fail
  refine (HB.out 12 (H9.out _ (by omega) (by omega)) _ (HC1.out.ext ((Ext.refl w1).alloc _))).mono ?_
  rintro e w2 ⟨v2, rfl, ⟨hv2a, hv2b⟩, ht2, hc2⟩
  have HT2 := Lib.hid ((HT1.out.ext ((Ext.refl w1).alloc _)).trans ht2)
  have HC2 := Lib.hid hc2
  have hs2 := HT2.out.le
  have HY2 := Lib.hid (heapT ht2 (heapE ((Ext.refl w1).alloc _) HY1.out) (by omega))
  have HX2 := Lib.hid (heapT ht2 (heap_alloc_new w1 _) (by omega))
  clear ht2 hc2
  rcases (show v2 = 0 ∨ v2 = 1 ∨ v2 = 2 ∨ 2 < v2 by omega) with rfl | rfl | rfl | hv
  · skip
    go_wp2_with fail
    refine (HR.out _ HC2.out).mono ?_
    rintro e w3 ⟨v3, rfl, hv3, ht3, hc3⟩
    have HT3 := Lib.hid (HT2.out.trans ht3)
    have HC3 := Lib.hid hc3
    have hs3 := HT3.out.le
    have HY3 := Lib.hid (heapT ht3 HY2.out (by omega))
    have HX3 := Lib.hid (heapT ht3 HX2.out (by omega))
    clear ht3 hc3
    have HV3 := Lib.hid hv3
    clear hv3
    have x0 := cell_block HX3.out 0 _ rfl
    have x1 := cell_block HX3.out 1 _ rfl
    have x2 := cell_block HX3.out 2 _ rfl
    have y0 := cell_block HY3.out 0 _ rfl
    have y1 := cell_block HY3.out 1 _ rfl
    have y2 := cell_block HY3.out 2 _ rfl
    have yf0 := draw_frozen HY3.out 0
    have yf1 := draw_frozen HY3.out 1
    have yf2 := draw_frozen HY3.out 2
    have xf0 := draw_frozen HX3.out 0
    have hlx := heap_lt HX3.out
    have hly := heap_lt HY3.out
    have hlm : w.heap.size < w1.heap.size := heap_lt HY1.out
    have hn1 : ¬ w.heap.size = w1.heap.size := by omega
    have hn2 : ¬ w1.heap.size = w.heap.size := by omega
    go_wp2
    refine bodyPost_ret (v := .agg #[.int .i64 v3, .int .i64 x.B, .int .i64 x.C]) (by simp [results, Try.results50, go_sem, y0, y1, y2]) rfl ⟨⟨v3, x.B, x.C⟩, rfl, ⟨HV3.out, HXO.out.2.1, HXO.out.2.2⟩, ?_, ?_⟩
    · repeat (first | with_reducible exact HT3.out | refine turned_own ?_ (by omega))
    · repeat (first | with_reducible exact HC3.out | refine Cur.put ?_ (by omega))
  · skip
    go_wp2_with fail
    refine (HR.out _ HC2.out).mono ?_
    rintro e w3 ⟨v3, rfl, hv3, ht3, hc3⟩
    have HT3 := Lib.hid (HT2.out.trans ht3)
    have HC3 := Lib.hid hc3
    have hs3 := HT3.out.le
    have HY3 := Lib.hid (heapT ht3 HY2.out (by omega))
    have HX3 := Lib.hid (heapT ht3 HX2.out (by omega))
    clear ht3 hc3
    have HV3 := Lib.hid hv3
    clear hv3
    have x0 := cell_block HX3.out 0 _ rfl
    have x1 := cell_block HX3.out 1 _ rfl
    have x2 := cell_block HX3.out 2 _ rfl
    have y0 := cell_block HY3.out 0 _ rfl
    have y1 := cell_block HY3.out 1 _ rfl
    have y2 := cell_block HY3.out 2 _ rfl
    have yf0 := draw_frozen HY3.out 0
    have yf1 := draw_frozen HY3.out 1
    have yf2 := draw_frozen HY3.out 2
    have xf1 := draw_frozen HX3.out 1
    have hlx := heap_lt HX3.out
    have hly := heap_lt HY3.out
    have hlm : w.heap.size < w1.heap.size := heap_lt HY1.out
    have hn1 : ¬ w.heap.size = w1.heap.size := by omega
    have hn2 : ¬ w1.heap.size = w.heap.size := by omega
    go_wp2
    refine bodyPost_ret (v := .agg #[.int .i64 x.A, .int .i64 v3, .int .i64 x.C]) (by simp [results, Try.results50, go_sem, y0, y1, y2]) rfl ⟨⟨x.A, v3, x.C⟩, rfl, ⟨HXO.out.1, HV3.out, HXO.out.2.2⟩, ?_, ?_⟩
    · repeat (first | with_reducible exact HT3.out | refine turned_own ?_ (by omega))
    · repeat (first | with_reducible exact HC3.out | refine Cur.put ?_ (by omega))
  · skip
    go_wp2_with fail
    refine (HR.out _ HC2.out).mono ?_
    rintro e w3 ⟨v3, rfl, hv3, ht3, hc3⟩
    have HT3 := Lib.hid (HT2.out.trans ht3)
    have HC3 := Lib.hid hc3
    have hs3 := HT3.out.le
    have HY3 := Lib.hid (heapT ht3 HY2.out (by omega))
    have HX3 := Lib.hid (heapT ht3 HX2.out (by omega))
    clear ht3 hc3
    have HV3 := Lib.hid hv3
    clear hv3
    have x0 := cell_block HX3.out 0 _ rfl
    have x1 := cell_block HX3.out 1 _ rfl
    have x2 := cell_block HX3.out 2 _ rfl
    have y0 := cell_block HY3.out 0 _ rfl
    have y1 := cell_block HY3.out 1 _ rfl
    have y2 := cell_block HY3.out 2 _ rfl
    have yf0 := draw_frozen HY3.out 0
    have yf1 := draw_frozen HY3.out 1
    have yf2 := draw_frozen HY3.out 2
    have xf2 := draw_frozen HX3.out 2
    have hlx := heap_lt HX3.out
    have hly := heap_lt HY3.out
    have hlm : w.heap.size < w1.heap.size := heap_lt HY1.out
    have hn1 : ¬ w.heap.size = w1.heap.size := by omega
    have hn2 : ¬ w1.heap.size = w.heap.size := by omega
    go_wp2
    refine bodyPost_ret (v := .agg #[.int .i64 x.A, .int .i64 x.B, .int .i64 v3]) (by simp [results, Try.results50, go_sem, y0, y1, y2]) rfl ⟨⟨x.A, x.B, v3⟩, rfl, ⟨HXO.out.1, HXO.out.2.1, HV3.out⟩, ?_, ?_⟩
    · repeat (first | with_reducible exact HT3.out | refine turned_own ?_ (by omega))
    · repeat (first | with_reducible exact HC3.out | refine Cur.put ?_ (by omega))
  · skip
    have x0 := cell_block HX2.out 0 _ rfl
    have x1 := cell_block HX2.out 1 _ rfl
    have x2 := cell_block HX2.out 2 _ rfl
    have y0 := cell_block HY2.out 0 _ rfl
    have y1 := cell_block HY2.out 1 _ rfl
    have y2 := cell_block HY2.out 2 _ rfl
    have yf0 := draw_frozen HY2.out 0
    have yf1 := draw_frozen HY2.out 1
    have yf2 := draw_frozen HY2.out 2
    have hlx := heap_lt HX2.out
    have hly := heap_lt HY2.out
    have hlm : w.heap.size < w1.heap.size := heap_lt HY1.out
    have hn1 : ¬ w.heap.size = w1.heap.size := by omega
    have hn2 : ¬ w1.heap.size = w.heap.size := by omega
    go_wp2
    refine bodyPost_ret (v := .agg #[.int .i64 x.A, .int .i64 x.B, .int .i64 x.C]) (by simp [results, Try.results50, go_sem, y0, y1, y2]) rfl ⟨⟨x.A, x.B, x.C⟩, rfl, ⟨HXO.out.1, HXO.out.2.1, HXO.out.2.2⟩, ?_, ?_⟩
    · repeat (first | with_reducible exact HT2.out | refine turned_own ?_ (by omega))
    · repeat (first | with_reducible exact HC2.out | refine Cur.put ?_ (by omega))
end Go.Proofs.Ytbfambeoboiifaa
