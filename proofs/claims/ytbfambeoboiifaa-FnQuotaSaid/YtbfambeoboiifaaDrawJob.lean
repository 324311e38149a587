/- Contracts of the draws: a job. Written by gendraw.py. -/
import Derived.Test.YtbfambeoboiifaaDrawVec
namespace Go.Proofs.Ytbfambeoboiifaa
open Go.RowKit
set_option linter.unusedVariables false
set_option maxHeartbeats 4000000 in
set_option maxRecDepth 20000 in
theorem l04Job_c (g : Nat) (w : World) (hc : Cur w g) : Calls Try.prog 87 #[.pointer (some ⟨g, 0, none⟩)] w (RetJobD w g) := by
  have hgw := hc.lt
  have HB := Lib.hid (fun (n : Int) (hn : In64 n) (u : World) (hu : Cur u g) => l01Below_c g n u hu hn)
  have HR := Lib.hid (fun (u : World) (hu : Cur u g) => l01Raw_c g u hu)
  have H9 : Hid (∀ n : Int, -1000000 ≤ n → n ≤ 1000000 → In64 n) := Lib.hid (fun n h1 h2 => by unfold In64; omega)
  have HC0 := Lib.hid (hc.ext ((Ext.refl w).alloc (.cells #[.int .i64 0, .int .i64 0, .int .i64 0, .int .i64 0, .int .i64 0, .int .i64 0, .int .i64 0, .int .i64 0, .int .i64 0, .int .i64 0, .int .i64 0] 52)))
  have HT0 := Lib.hid (((Ext.refl w).alloc (.cells #[.int .i64 0, .int .i64 0, .int .i64 0, .int .i64 0, .int .i64 0, .int .i64 0, .int .i64 0, .int .i64 0, .int .i64 0, .int .i64 0, .int .i64 0] 52)).turned g (g + 1))
  have HY0 := Lib.hid (heap_alloc_new w (.cells #[.int .i64 0, .int .i64 0, .int .i64 0, .int .i64 0, .int .i64 0, .int .i64 0, .int .i64 0, .int .i64 0, .int .i64 0, .int .i64 0, .int .i64 0] 52))
  clear hc
  go_enter Try.func87, Try.ntmps87
  go_wp2_with fail
  refine (HB.out 30 (H9.out _ (by omega) (by omega)) _ HC0.out).mono ?_
  rintro e w1 ⟨v1, rfl, ⟨hv1a, hv1b⟩, ht1, hc1⟩
  have HT1 := Lib.hid (HT0.out.trans ht1)
  have HC1 := Lib.hid hc1
  have hs1 := HT1.out.le
  have HY1 := Lib.hid (heapT ht1 HY0.out (by omega))
  clear ht1 hc1
  go_wp2_with fail
  refine (HB.out 5 (H9.out _ (by omega) (by omega)) _ HC1.out).mono ?_
  rintro e w2 ⟨v2, rfl, ⟨hv2a, hv2b⟩, ht2, hc2⟩
  have HT2 := Lib.hid (HT1.out.trans ht2)
  have HC2 := Lib.hid hc2
  have hs2 := HT2.out.le
  have HY2 := Lib.hid (heapT ht2 HY1.out (by omega))
  clear ht2 hc2
  go_wp2_with fail
  refine (HB.out 3 (H9.out _ (by omega) (by omega)) _ HC2.out).mono ?_
  rintro e w3 ⟨v3, rfl, ⟨hv3a, hv3b⟩, ht3, hc3⟩
  have HT3 := Lib.hid (HT2.out.trans ht3)
  have HC3 := Lib.hid hc3
  have hs3 := HT3.out.le
  have HY3 := Lib.hid (heapT ht3 HY2.out (by omega))
  clear ht3 hc3
  go_wp2_with fail
  refine (HB.out 5 (H9.out _ (by omega) (by omega)) _ HC3.out).mono ?_
  rintro e w4 ⟨v4, rfl, ⟨hv4a, hv4b⟩, ht4, hc4⟩
  have HT4 := Lib.hid (HT3.out.trans ht4)
  have HC4 := Lib.hid hc4
  have hs4 := HT4.out.le
  have HY4 := Lib.hid (heapT ht4 HY3.out (by omega))
  clear ht4 hc4
  go_wp2_with fail
  refine (HB.out 9 (H9.out _ (by omega) (by omega)) _ HC4.out).mono ?_
  rintro e w5 ⟨v5, rfl, ⟨hv5a, hv5b⟩, ht5, hc5⟩
  have HT5 := Lib.hid (HT4.out.trans ht5)
  have HC5 := Lib.hid hc5
  have hs5 := HT5.out.le
  have HY5 := Lib.hid (heapT ht5 HY4.out (by omega))
  clear ht5 hc5
  go_wp2_with fail
  refine (HB.out 4 (H9.out _ (by omega) (by omega)) _ HC5.out).mono ?_
  rintro e w6 ⟨v6, rfl, ⟨hv6a, hv6b⟩, ht6, hc6⟩
  have HT6 := Lib.hid (HT5.out.trans ht6)
  have HC6 := Lib.hid hc6
  have hs6 := HT6.out.le
  have HY6 := Lib.hid (heapT ht6 HY5.out (by omega))
  clear ht6 hc6
  go_wp2_with fail
  refine (HB.out 20 (H9.out _ (by omega) (by omega)) _ HC6.out).mono ?_
  rintro e w7 ⟨v7, rfl, ⟨hv7a, hv7b⟩, ht7, hc7⟩
  have HT7 := Lib.hid (HT6.out.trans ht7)
  have HC7 := Lib.hid hc7
  have hs7 := HT7.out.le
  have HY7 := Lib.hid (heapT ht7 HY6.out (by omega))
  clear ht7 hc7
  go_wp2_with fail
  refine (HB.out 3 (H9.out _ (by omega) (by omega)) _ HC7.out).mono ?_
  rintro e w8 ⟨v8, rfl, ⟨hv8a, hv8b⟩, ht8, hc8⟩
  have HT8 := Lib.hid (HT7.out.trans ht8)
  have HC8 := Lib.hid hc8
  have hs8 := HT8.out.le
  have HY8 := Lib.hid (heapT ht8 HY7.out (by omega))
  clear ht8 hc8
  go_wp2_with fail
  refine (HB.out 3 (H9.out _ (by omega) (by omega)) _ (HC8.out.ext ((Ext.refl w8).alloc _))).mono ?_
  rintro e w9 ⟨v9, rfl, ⟨hv9a, hv9b⟩, ht9, hc9⟩
  have HT9 := Lib.hid ((HT8.out.ext ((Ext.refl w8).alloc _)).trans ht9)
  have HC9 := Lib.hid hc9
  have hs9 := HT9.out.le
  have HY9 := Lib.hid (heapT ht9 (heapE ((Ext.refl w8).alloc _) HY8.out) (by omega))
  have HX9 := Lib.hid (heapT ht9 (heap_alloc_new w8 _) (by omega))
  clear ht9 hc9
  by_cases hv : v9 = 0
  · subst hv
    go_wp2_with fail
    refine (HB.out 3 (H9.out _ (by omega) (by omega)) _ HC9.out).mono ?_
    rintro e w10 ⟨v10, rfl, ⟨hv10a, hv10b⟩, ht10, hc10⟩
    have HT10 := Lib.hid (HT9.out.trans ht10)
    have HC10 := Lib.hid hc10
    have hs10 := HT10.out.le
    have HY10 := Lib.hid (heapT ht10 HY9.out (by omega))
    have HX10 := Lib.hid (heapT ht10 HX9.out (by omega))
    clear ht10 hc10
    go_wp2_with fail
    refine (HB.out 2 (H9.out _ (by omega) (by omega)) _ HC10.out).mono ?_
    rintro e w11 ⟨v11, rfl, ⟨hv11a, hv11b⟩, ht11, hc11⟩
    have HT11 := Lib.hid (HT10.out.trans ht11)
    have HC11 := Lib.hid hc11
    have hs11 := HT11.out.le
    have HY11 := Lib.hid (heapT ht11 HY10.out (by omega))
    have HX11 := Lib.hid (heapT ht11 HX10.out (by omega))
    clear ht11 hc11
    have x0 := cell_block HX11.out 0 _ rfl
    have x1 := cell_block HX11.out 1 _ rfl
    have x2 := cell_block HX11.out 2 _ rfl
    have x3 := cell_block HX11.out 3 _ rfl
    have x4 := cell_block HX11.out 4 _ rfl
    have x5 := cell_block HX11.out 5 _ rfl
    have x6 := cell_block HX11.out 6 _ rfl
    have x7 := cell_block HX11.out 7 _ rfl
    have x8 := cell_block HX11.out 8 _ rfl
    have x9 := cell_block HX11.out 9 _ rfl
    have x10 := cell_block HX11.out 10 _ rfl
    have y0 := cell_block HY11.out 0 _ rfl
    have y1 := cell_block HY11.out 1 _ rfl
    have y2 := cell_block HY11.out 2 _ rfl
    have y3 := cell_block HY11.out 3 _ rfl
    have y4 := cell_block HY11.out 4 _ rfl
    have y5 := cell_block HY11.out 5 _ rfl
    have y6 := cell_block HY11.out 6 _ rfl
    have y7 := cell_block HY11.out 7 _ rfl
    have y8 := cell_block HY11.out 8 _ rfl
    have y9 := cell_block HY11.out 9 _ rfl
    have y10 := cell_block HY11.out 10 _ rfl
    have yf0 := draw_frozen HY11.out 0
    have yf1 := draw_frozen HY11.out 1
    have yf2 := draw_frozen HY11.out 2
    have yf3 := draw_frozen HY11.out 3
    have yf4 := draw_frozen HY11.out 4
    have yf5 := draw_frozen HY11.out 5
    have yf6 := draw_frozen HY11.out 6
    have yf7 := draw_frozen HY11.out 7
    have yf8 := draw_frozen HY11.out 8
    have yf9 := draw_frozen HY11.out 9
    have yf10 := draw_frozen HY11.out 10
    have xf6 := draw_frozen HX11.out 6
    have xf7 := draw_frozen HX11.out 7
    have xf8 := draw_frozen HX11.out 8
    have hlx := heap_lt HX11.out
    have hly := heap_lt HY11.out
    have hlm : w.heap.size < w8.heap.size := heap_lt HY8.out
    have hn1 : ¬ w.heap.size = w8.heap.size := by omega
    have hn2 : ¬ w8.heap.size = w.heap.size := by omega
    go_wp2
    refine bodyPost_ret (v := .agg #[.int .i64 (1 + v1), .int .i64 v2, .int .i64 (1 + v3), .int .i64 (1 + v4), .int .i64 v5, .int .i64 (v6 / 3), .int .i64 v10, .int .i64 v11, .int .i64 0, .int .i64 (1 + v7), .int .i64 v8]) (by simp [results, Try.results87, go_sem, y0, y1, y2, y3, y4, y5, y6, y7, y8, y9, y10]) rfl ⟨⟨1 + v1, v2, 1 + v3, ⟨1 + v4, v5, v6 / 3⟩, ⟨v10, v11, 0⟩, 1 + v7, v8⟩, rfl, ⟨in64_of (n := 1 + v1) (by omega) (by omega), in64_of (n := v2) (by omega) (by omega), in64_of (n := 1 + v3) (by omega) (by omega), in64_of (n := 1 + v4) (by omega) (by omega), in64_of (n := v5) (by omega) (by omega), in64_of (n := v6 / 3) (by omega) (by omega), in64_of (n := v10) (by omega) (by omega), in64_of (n := v11) (by omega) (by omega), in64_of (n := 0) (by omega) (by omega), in64_of (n := 1 + v7) (by omega) (by omega), in64_of (n := v8) (by omega) (by omega)⟩, ?_, ?_⟩
    · repeat (first | with_reducible exact HT11.out | refine turned_own ?_ (by omega))
    · repeat (first | with_reducible exact HC11.out | refine Cur.put ?_ (by omega))
  · skip
    have x0 := cell_block HX9.out 0 _ rfl
    have x1 := cell_block HX9.out 1 _ rfl
    have x2 := cell_block HX9.out 2 _ rfl
    have x3 := cell_block HX9.out 3 _ rfl
    have x4 := cell_block HX9.out 4 _ rfl
    have x5 := cell_block HX9.out 5 _ rfl
    have x6 := cell_block HX9.out 6 _ rfl
    have x7 := cell_block HX9.out 7 _ rfl
    have x8 := cell_block HX9.out 8 _ rfl
    have x9 := cell_block HX9.out 9 _ rfl
    have x10 := cell_block HX9.out 10 _ rfl
    have y0 := cell_block HY9.out 0 _ rfl
    have y1 := cell_block HY9.out 1 _ rfl
    have y2 := cell_block HY9.out 2 _ rfl
    have y3 := cell_block HY9.out 3 _ rfl
    have y4 := cell_block HY9.out 4 _ rfl
    have y5 := cell_block HY9.out 5 _ rfl
    have y6 := cell_block HY9.out 6 _ rfl
    have y7 := cell_block HY9.out 7 _ rfl
    have y8 := cell_block HY9.out 8 _ rfl
    have y9 := cell_block HY9.out 9 _ rfl
    have y10 := cell_block HY9.out 10 _ rfl
    have yf0 := draw_frozen HY9.out 0
    have yf1 := draw_frozen HY9.out 1
    have yf2 := draw_frozen HY9.out 2
    have yf3 := draw_frozen HY9.out 3
    have yf4 := draw_frozen HY9.out 4
    have yf5 := draw_frozen HY9.out 5
    have yf6 := draw_frozen HY9.out 6
    have yf7 := draw_frozen HY9.out 7
    have yf8 := draw_frozen HY9.out 8
    have yf9 := draw_frozen HY9.out 9
    have yf10 := draw_frozen HY9.out 10
    have hlx := heap_lt HX9.out
    have hly := heap_lt HY9.out
    have hlm : w.heap.size < w8.heap.size := heap_lt HY8.out
    have hn1 : ¬ w.heap.size = w8.heap.size := by omega
    have hn2 : ¬ w8.heap.size = w.heap.size := by omega
    go_wp2
    refine bodyPost_ret (v := .agg #[.int .i64 (1 + v1), .int .i64 v2, .int .i64 (1 + v3), .int .i64 (1 + v4), .int .i64 v5, .int .i64 (v6 / 3), .int .i64 0, .int .i64 0, .int .i64 0, .int .i64 (1 + v7), .int .i64 v8]) (by simp [results, Try.results87, go_sem, y0, y1, y2, y3, y4, y5, y6, y7, y8, y9, y10]) rfl ⟨⟨1 + v1, v2, 1 + v3, ⟨1 + v4, v5, v6 / 3⟩, ⟨0, 0, 0⟩, 1 + v7, v8⟩, rfl, ⟨in64_of (n := 1 + v1) (by omega) (by omega), in64_of (n := v2) (by omega) (by omega), in64_of (n := 1 + v3) (by omega) (by omega), in64_of (n := 1 + v4) (by omega) (by omega), in64_of (n := v5) (by omega) (by omega), in64_of (n := v6 / 3) (by omega) (by omega), in64_of (n := 0) (by omega) (by omega), in64_of (n := 0) (by omega) (by omega), in64_of (n := 0) (by omega) (by omega), in64_of (n := 1 + v7) (by omega) (by omega), in64_of (n := v8) (by omega) (by omega)⟩, ?_, ?_⟩
    · repeat (first | with_reducible exact HT9.out | refine turned_own ?_ (by omega))
    · repeat (first | with_reducible exact HC9.out | refine Cur.put ?_ (by omega))
end Go.Proofs.Ytbfambeoboiifaa
