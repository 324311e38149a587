/- Contracts of the draws: any job. Written by gendraw.py. -/
import Derived.Test.YtbfambeoboiifaaDrawJob
namespace Go.Proofs.Ytbfambeoboiifaa
open Go.RowKit
set_option linter.unusedVariables false
set_option maxHeartbeats 4000000 in
set_option maxRecDepth 20000 in
theorem l04AnyJob_c (g : Nat) (w : World) (hc : Cur w g) : Calls Try.prog 86 #[.pointer (some ⟨g, 0, none⟩)] w (RetJobD w g) := by
  have hgw := hc.lt
  have HB := Lib.hid (fun (n : Int) (hn : In64 n) (u : World) (hu : Cur u g) => l01Below_c g n u hu hn)
  have HR := Lib.hid (fun (u : World) (hu : Cur u g) => l01Raw_c g u hu)
  have H9 : Hid (∀ n : Int, -1000000 ≤ n → n ≤ 1000000 → In64 n) := Lib.hid (fun n h1 h2 => by unfold In64; omega)
  have HC0 := Lib.hid (hc.ext ((Ext.refl w).alloc (.cells #[.int .i64 0, .int .i64 0, .int .i64 0, .int .i64 0, .int .i64 0, .int .i64 0, .int .i64 0, .int .i64 0, .int .i64 0, .int .i64 0, .int .i64 0] 52)))
  have HT0 := Lib.hid (((Ext.refl w).alloc (.cells #[.int .i64 0, .int .i64 0, .int .i64 0, .int .i64 0, .int .i64 0, .int .i64 0, .int .i64 0, .int .i64 0, .int .i64 0, .int .i64 0, .int .i64 0] 52)).turned g (g + 1))
  have HY0 := Lib.hid (heap_alloc_new w (.cells #[.int .i64 0, .int .i64 0, .int .i64 0, .int .i64 0, .int .i64 0, .int .i64 0, .int .i64 0, .int .i64 0, .int .i64 0, .int .i64 0, .int .i64 0] 52))
  clear hc
  go_enter Try.func86, Try.ntmps86
  go_wp2_with fail
  refine (l04Job_c g _ HC0.out).mono ?_
  rintro e w1 ⟨x, rfl, hx, ht1, hc1⟩
  have HT1 := Lib.hid (HT0.out.trans ht1)
  have HC1 := Lib.hid hc1
  have HY1 := Lib.hid (heapT ht1 HY0.out (by omega))
  have HXO := Lib.hid hx
  have hs1 := HT1.out.le
  clear ht1 hc1 hx
  go_wp2_with fail
  refine (HB.out 16 (H9.out _ (by omega) (by omega)) _ (HC1.out.ext ((Ext.refl w1).alloc _))).mono ?_
  rintro e w2 ⟨v2, rfl, ⟨hv2a, hv2b⟩, ht2, hc2⟩
  have HT2 := Lib.hid ((HT1.out.ext ((Ext.refl w1).alloc _)).trans ht2)
  have HC2 := Lib.hid hc2
  have hs2 := HT2.out.le
  have HY2 := Lib.hid (heapT ht2 (heapE ((Ext.refl w1).alloc _) HY1.out) (by omega))
  have HX2 := Lib.hid (heapT ht2 (heap_alloc_new w1 _) (by omega))
  clear ht2 hc2
  rcases (show v2 = 0 ∨ v2 = 1 ∨ v2 = 2 ∨ v2 = 3 ∨ v2 = 4 ∨ v2 = 5 ∨ 5 < v2 by omega) with rfl | rfl | rfl | rfl | rfl | rfl | hv
  · skip
    go_wp2_with fail
    refine (HR.out _ HC2.out).mono ?_
    rintro e w3 ⟨v3, rfl, hv3, ht3, hc3⟩
    have HT3 := Lib.hid (HT2.out.trans ht3)
    have HC3 := Lib.hid hc3
    have hs3 := HT3.out.le
    have HY3 := Lib.hid (heapT ht3 HY2.out (by omega))
    have HX3 := Lib.hid (heapT ht3 HX2.out (by omega))
    clear ht3 hc3
    have HV3 := Lib.hid hv3
    clear hv3
    have x0 := cell_block HX3.out 0 _ rfl
    have x1 := cell_block HX3.out 1 _ rfl
    have x2 := cell_block HX3.out 2 _ rfl
    have x3 := cell_block HX3.out 3 _ rfl
    have x4 := cell_block HX3.out 4 _ rfl
    have x5 := cell_block HX3.out 5 _ rfl
    have x6 := cell_block HX3.out 6 _ rfl
    have x7 := cell_block HX3.out 7 _ rfl
    have x8 := cell_block HX3.out 8 _ rfl
    have x9 := cell_block HX3.out 9 _ rfl
    have x10 := cell_block HX3.out 10 _ rfl
    have y0 := cell_block HY3.out 0 _ rfl
    have y1 := cell_block HY3.out 1 _ rfl
    have y2 := cell_block HY3.out 2 _ rfl
    have y3 := cell_block HY3.out 3 _ rfl
    have y4 := cell_block HY3.out 4 _ rfl
    have y5 := cell_block HY3.out 5 _ rfl
    have y6 := cell_block HY3.out 6 _ rfl
    have y7 := cell_block HY3.out 7 _ rfl
    have y8 := cell_block HY3.out 8 _ rfl
    have y9 := cell_block HY3.out 9 _ rfl
    have y10 := cell_block HY3.out 10 _ rfl
    have yf0 := draw_frozen HY3.out 0
    have yf1 := draw_frozen HY3.out 1
    have yf2 := draw_frozen HY3.out 2
    have yf3 := draw_frozen HY3.out 3
    have yf4 := draw_frozen HY3.out 4
    have yf5 := draw_frozen HY3.out 5
    have yf6 := draw_frozen HY3.out 6
    have yf7 := draw_frozen HY3.out 7
    have yf8 := draw_frozen HY3.out 8
    have yf9 := draw_frozen HY3.out 9
    have yf10 := draw_frozen HY3.out 10
    have xf0 := draw_frozen HX3.out 0
    have hlx := heap_lt HX3.out
    have hly := heap_lt HY3.out
    have hlm : w.heap.size < w1.heap.size := heap_lt HY1.out
    have hn1 : ¬ w.heap.size = w1.heap.size := by omega
    have hn2 : ¬ w1.heap.size = w.heap.size := by omega
    go_wp2
    refine bodyPost_ret (v := .agg #[.int .i64 v3, .int .i64 x.Prio, .int .i64 x.Nodes, .int .i64 x.Need.A, .int .i64 x.Need.B, .int .i64 x.Need.C, .int .i64 x.Lic.A, .int .i64 x.Lic.B, .int .i64 x.Lic.C, .int .i64 x.Wall, .int .i64 x.Level]) (by simp [results, Try.results86, go_sem, y0, y1, y2, y3, y4, y5, y6, y7, y8, y9, y10]) rfl ⟨⟨v3, x.Prio, x.Nodes, ⟨x.Need.A, x.Need.B, x.Need.C⟩, ⟨x.Lic.A, x.Lic.B, x.Lic.C⟩, x.Wall, x.Level⟩, rfl, ⟨HV3.out, HXO.out.2.1, HXO.out.2.2.1, HXO.out.2.2.2.1, HXO.out.2.2.2.2.1, HXO.out.2.2.2.2.2.1, HXO.out.2.2.2.2.2.2.1, HXO.out.2.2.2.2.2.2.2.1, HXO.out.2.2.2.2.2.2.2.2.1, HXO.out.2.2.2.2.2.2.2.2.2.1, HXO.out.2.2.2.2.2.2.2.2.2.2⟩, ?_, ?_⟩
    · repeat (first | with_reducible exact HT3.out | refine turned_own ?_ (by omega))
    · repeat (first | with_reducible exact HC3.out | refine Cur.put ?_ (by omega))
  · skip
    go_wp2_with fail
    refine (HR.out _ HC2.out).mono ?_
    rintro e w3 ⟨v3, rfl, hv3, ht3, hc3⟩
    have HT3 := Lib.hid (HT2.out.trans ht3)
    have HC3 := Lib.hid hc3
    have hs3 := HT3.out.le
    have HY3 := Lib.hid (heapT ht3 HY2.out (by omega))
    have HX3 := Lib.hid (heapT ht3 HX2.out (by omega))
    clear ht3 hc3
    have HV3 := Lib.hid hv3
    clear hv3
    have x0 := cell_block HX3.out 0 _ rfl
    have x1 := cell_block HX3.out 1 _ rfl
    have x2 := cell_block HX3.out 2 _ rfl
    have x3 := cell_block HX3.out 3 _ rfl
    have x4 := cell_block HX3.out 4 _ rfl
    have x5 := cell_block HX3.out 5 _ rfl
    have x6 := cell_block HX3.out 6 _ rfl
    have x7 := cell_block HX3.out 7 _ rfl
    have x8 := cell_block HX3.out 8 _ rfl
    have x9 := cell_block HX3.out 9 _ rfl
    have x10 := cell_block HX3.out 10 _ rfl
    have y0 := cell_block HY3.out 0 _ rfl
    have y1 := cell_block HY3.out 1 _ rfl
    have y2 := cell_block HY3.out 2 _ rfl
    have y3 := cell_block HY3.out 3 _ rfl
    have y4 := cell_block HY3.out 4 _ rfl
    have y5 := cell_block HY3.out 5 _ rfl
    have y6 := cell_block HY3.out 6 _ rfl
    have y7 := cell_block HY3.out 7 _ rfl
    have y8 := cell_block HY3.out 8 _ rfl
    have y9 := cell_block HY3.out 9 _ rfl
    have y10 := cell_block HY3.out 10 _ rfl
    have yf0 := draw_frozen HY3.out 0
    have yf1 := draw_frozen HY3.out 1
    have yf2 := draw_frozen HY3.out 2
    have yf3 := draw_frozen HY3.out 3
    have yf4 := draw_frozen HY3.out 4
    have yf5 := draw_frozen HY3.out 5
    have yf6 := draw_frozen HY3.out 6
    have yf7 := draw_frozen HY3.out 7
    have yf8 := draw_frozen HY3.out 8
    have yf9 := draw_frozen HY3.out 9
    have yf10 := draw_frozen HY3.out 10
    have xf2 := draw_frozen HX3.out 2
    have hlx := heap_lt HX3.out
    have hly := heap_lt HY3.out
    have hlm : w.heap.size < w1.heap.size := heap_lt HY1.out
    have hn1 : ¬ w.heap.size = w1.heap.size := by omega
    have hn2 : ¬ w1.heap.size = w.heap.size := by omega
    go_wp2
    refine bodyPost_ret (v := .agg #[.int .i64 x.Id, .int .i64 x.Prio, .int .i64 v3, .int .i64 x.Need.A, .int .i64 x.Need.B, .int .i64 x.Need.C, .int .i64 x.Lic.A, .int .i64 x.Lic.B, .int .i64 x.Lic.C, .int .i64 x.Wall, .int .i64 x.Level]) (by simp [results, Try.results86, go_sem, y0, y1, y2, y3, y4, y5, y6, y7, y8, y9, y10]) rfl ⟨⟨x.Id, x.Prio, v3, ⟨x.Need.A, x.Need.B, x.Need.C⟩, ⟨x.Lic.A, x.Lic.B, x.Lic.C⟩, x.Wall, x.Level⟩, rfl, ⟨HXO.out.1, HXO.out.2.1, HV3.out, HXO.out.2.2.2.1, HXO.out.2.2.2.2.1, HXO.out.2.2.2.2.2.1, HXO.out.2.2.2.2.2.2.1, HXO.out.2.2.2.2.2.2.2.1, HXO.out.2.2.2.2.2.2.2.2.1, HXO.out.2.2.2.2.2.2.2.2.2.1, HXO.out.2.2.2.2.2.2.2.2.2.2⟩, ?_, ?_⟩
    · repeat (first | with_reducible exact HT3.out | refine turned_own ?_ (by omega))
    · repeat (first | with_reducible exact HC3.out | refine Cur.put ?_ (by omega))
  · skip
    go_wp2_with fail
    refine (l01Any_c g _ HC2.out).mono ?_
    rintro e w3 ⟨y, rfl, hy, ht3, hc3⟩
    have HT3 := Lib.hid (HT2.out.trans ht3)
    have HC3 := Lib.hid hc3
    have HY3 := Lib.hid (heapT ht3 HY2.out (by omega))
    have HX3 := Lib.hid (heapT ht3 HX2.out (by omega))
    have HYO := Lib.hid hy
    have hs3 := HT3.out.le
    clear ht3 hc3 hy
    have x0 := cell_block HX3.out 0 _ rfl
    have x1 := cell_block HX3.out 1 _ rfl
    have x2 := cell_block HX3.out 2 _ rfl
    have x3 := cell_block HX3.out 3 _ rfl
    have x4 := cell_block HX3.out 4 _ rfl
    have x5 := cell_block HX3.out 5 _ rfl
    have x6 := cell_block HX3.out 6 _ rfl
    have x7 := cell_block HX3.out 7 _ rfl
    have x8 := cell_block HX3.out 8 _ rfl
    have x9 := cell_block HX3.out 9 _ rfl
    have x10 := cell_block HX3.out 10 _ rfl
    have y0 := cell_block HY3.out 0 _ rfl
    have y1 := cell_block HY3.out 1 _ rfl
    have y2 := cell_block HY3.out 2 _ rfl
    have y3 := cell_block HY3.out 3 _ rfl
    have y4 := cell_block HY3.out 4 _ rfl
    have y5 := cell_block HY3.out 5 _ rfl
    have y6 := cell_block HY3.out 6 _ rfl
    have y7 := cell_block HY3.out 7 _ rfl
    have y8 := cell_block HY3.out 8 _ rfl
    have y9 := cell_block HY3.out 9 _ rfl
    have y10 := cell_block HY3.out 10 _ rfl
    have yf0 := draw_frozen HY3.out 0
    have yf1 := draw_frozen HY3.out 1
    have yf2 := draw_frozen HY3.out 2
    have yf3 := draw_frozen HY3.out 3
    have yf4 := draw_frozen HY3.out 4
    have yf5 := draw_frozen HY3.out 5
    have yf6 := draw_frozen HY3.out 6
    have yf7 := draw_frozen HY3.out 7
    have yf8 := draw_frozen HY3.out 8
    have yf9 := draw_frozen HY3.out 9
    have yf10 := draw_frozen HY3.out 10
    have xf3 := draw_frozen HX3.out 3
    have xf4 := draw_frozen HX3.out 4
    have xf5 := draw_frozen HX3.out 5
    have hlx := heap_lt HX3.out
    have hly := heap_lt HY3.out
    have hlm : w.heap.size < w1.heap.size := heap_lt HY1.out
    have hn1 : ¬ w.heap.size = w1.heap.size := by omega
    have hn2 : ¬ w1.heap.size = w.heap.size := by omega
    go_wp2
    refine bodyPost_ret (v := .agg #[.int .i64 x.Id, .int .i64 x.Prio, .int .i64 x.Nodes, .int .i64 y.A, .int .i64 y.B, .int .i64 y.C, .int .i64 x.Lic.A, .int .i64 x.Lic.B, .int .i64 x.Lic.C, .int .i64 x.Wall, .int .i64 x.Level]) (by simp [results, Try.results86, go_sem, y0, y1, y2, y3, y4, y5, y6, y7, y8, y9, y10]) rfl ⟨⟨x.Id, x.Prio, x.Nodes, ⟨y.A, y.B, y.C⟩, ⟨x.Lic.A, x.Lic.B, x.Lic.C⟩, x.Wall, x.Level⟩, rfl, ⟨HXO.out.1, HXO.out.2.1, HXO.out.2.2.1, HYO.out.1, HYO.out.2.1, HYO.out.2.2, HXO.out.2.2.2.2.2.2.1, HXO.out.2.2.2.2.2.2.2.1, HXO.out.2.2.2.2.2.2.2.2.1, HXO.out.2.2.2.2.2.2.2.2.2.1, HXO.out.2.2.2.2.2.2.2.2.2.2⟩, ?_, ?_⟩
    · repeat (first | with_reducible exact HT3.out | refine turned_own ?_ (by omega))
    · repeat (first | with_reducible exact HC3.out | refine Cur.put ?_ (by omega))
  · skip
    go_wp2_with fail
    refine (HR.out _ HC2.out).mono ?_
    rintro e w3 ⟨v3, rfl, hv3, ht3, hc3⟩
    have HT3 := Lib.hid (HT2.out.trans ht3)
    have HC3 := Lib.hid hc3
    have hs3 := HT3.out.le
    have HY3 := Lib.hid (heapT ht3 HY2.out (by omega))
    have HX3 := Lib.hid (heapT ht3 HX2.out (by omega))
    clear ht3 hc3
    have HV3 := Lib.hid hv3
    clear hv3
    have x0 := cell_block HX3.out 0 _ rfl
    have x1 := cell_block HX3.out 1 _ rfl
    have x2 := cell_block HX3.out 2 _ rfl
    have x3 := cell_block HX3.out 3 _ rfl
    have x4 := cell_block HX3.out 4 _ rfl
    have x5 := cell_block HX3.out 5 _ rfl
    have x6 := cell_block HX3.out 6 _ rfl
    have x7 := cell_block HX3.out 7 _ rfl
    have x8 := cell_block HX3.out 8 _ rfl
    have x9 := cell_block HX3.out 9 _ rfl
    have x10 := cell_block HX3.out 10 _ rfl
    have y0 := cell_block HY3.out 0 _ rfl
    have y1 := cell_block HY3.out 1 _ rfl
    have y2 := cell_block HY3.out 2 _ rfl
    have y3 := cell_block HY3.out 3 _ rfl
    have y4 := cell_block HY3.out 4 _ rfl
    have y5 := cell_block HY3.out 5 _ rfl
    have y6 := cell_block HY3.out 6 _ rfl
    have y7 := cell_block HY3.out 7 _ rfl
    have y8 := cell_block HY3.out 8 _ rfl
    have y9 := cell_block HY3.out 9 _ rfl
    have y10 := cell_block HY3.out 10 _ rfl
    have yf0 := draw_frozen HY3.out 0
    have yf1 := draw_frozen HY3.out 1
    have yf2 := draw_frozen HY3.out 2
    have yf3 := draw_frozen HY3.out 3
    have yf4 := draw_frozen HY3.out 4
    have yf5 := draw_frozen HY3.out 5
    have yf6 := draw_frozen HY3.out 6
    have yf7 := draw_frozen HY3.out 7
    have yf8 := draw_frozen HY3.out 8
    have yf9 := draw_frozen HY3.out 9
    have yf10 := draw_frozen HY3.out 10
    have xf9 := draw_frozen HX3.out 9
    have hlx := heap_lt HX3.out
    have hly := heap_lt HY3.out
    have hlm : w.heap.size < w1.heap.size := heap_lt HY1.out
    have hn1 : ¬ w.heap.size = w1.heap.size := by omega
    have hn2 : ¬ w1.heap.size = w.heap.size := by omega
    go_wp2
    refine bodyPost_ret (v := .agg #[.int .i64 x.Id, .int .i64 x.Prio, .int .i64 x.Nodes, .int .i64 x.Need.A, .int .i64 x.Need.B, .int .i64 x.Need.C, .int .i64 x.Lic.A, .int .i64 x.Lic.B, .int .i64 x.Lic.C, .int .i64 v3, .int .i64 x.Level]) (by simp [results, Try.results86, go_sem, y0, y1, y2, y3, y4, y5, y6, y7, y8, y9, y10]) rfl ⟨⟨x.Id, x.Prio, x.Nodes, ⟨x.Need.A, x.Need.B, x.Need.C⟩, ⟨x.Lic.A, x.Lic.B, x.Lic.C⟩, v3, x.Level⟩, rfl, ⟨HXO.out.1, HXO.out.2.1, HXO.out.2.2.1, HXO.out.2.2.2.1, HXO.out.2.2.2.2.1, HXO.out.2.2.2.2.2.1, HXO.out.2.2.2.2.2.2.1, HXO.out.2.2.2.2.2.2.2.1, HXO.out.2.2.2.2.2.2.2.2.1, HV3.out, HXO.out.2.2.2.2.2.2.2.2.2.2⟩, ?_, ?_⟩
    · repeat (first | with_reducible exact HT3.out | refine turned_own ?_ (by omega))
    · repeat (first | with_reducible exact HC3.out | refine Cur.put ?_ (by omega))
  · skip
    go_wp2_with fail
    refine (HR.out _ HC2.out).mono ?_
    rintro e w3 ⟨v3, rfl, hv3, ht3, hc3⟩
    have HT3 := Lib.hid (HT2.out.trans ht3)
    have HC3 := Lib.hid hc3
    have hs3 := HT3.out.le
    have HY3 := Lib.hid (heapT ht3 HY2.out (by omega))
    have HX3 := Lib.hid (heapT ht3 HX2.out (by omega))
    clear ht3 hc3
    have HV3 := Lib.hid hv3
    clear hv3
    have x0 := cell_block HX3.out 0 _ rfl
    have x1 := cell_block HX3.out 1 _ rfl
    have x2 := cell_block HX3.out 2 _ rfl
    have x3 := cell_block HX3.out 3 _ rfl
    have x4 := cell_block HX3.out 4 _ rfl
    have x5 := cell_block HX3.out 5 _ rfl
    have x6 := cell_block HX3.out 6 _ rfl
    have x7 := cell_block HX3.out 7 _ rfl
    have x8 := cell_block HX3.out 8 _ rfl
    have x9 := cell_block HX3.out 9 _ rfl
    have x10 := cell_block HX3.out 10 _ rfl
    have y0 := cell_block HY3.out 0 _ rfl
    have y1 := cell_block HY3.out 1 _ rfl
    have y2 := cell_block HY3.out 2 _ rfl
    have y3 := cell_block HY3.out 3 _ rfl
    have y4 := cell_block HY3.out 4 _ rfl
    have y5 := cell_block HY3.out 5 _ rfl
    have y6 := cell_block HY3.out 6 _ rfl
    have y7 := cell_block HY3.out 7 _ rfl
    have y8 := cell_block HY3.out 8 _ rfl
    have y9 := cell_block HY3.out 9 _ rfl
    have y10 := cell_block HY3.out 10 _ rfl
    have yf0 := draw_frozen HY3.out 0
    have yf1 := draw_frozen HY3.out 1
    have yf2 := draw_frozen HY3.out 2
    have yf3 := draw_frozen HY3.out 3
    have yf4 := draw_frozen HY3.out 4
    have yf5 := draw_frozen HY3.out 5
    have yf6 := draw_frozen HY3.out 6
    have yf7 := draw_frozen HY3.out 7
    have yf8 := draw_frozen HY3.out 8
    have yf9 := draw_frozen HY3.out 9
    have yf10 := draw_frozen HY3.out 10
    have xf10 := draw_frozen HX3.out 10
    have hlx := heap_lt HX3.out
    have hly := heap_lt HY3.out
    have hlm : w.heap.size < w1.heap.size := heap_lt HY1.out
    have hn1 : ¬ w.heap.size = w1.heap.size := by omega
    have hn2 : ¬ w1.heap.size = w.heap.size := by omega
    go_wp2
    refine bodyPost_ret (v := .agg #[.int .i64 x.Id, .int .i64 x.Prio, .int .i64 x.Nodes, .int .i64 x.Need.A, .int .i64 x.Need.B, .int .i64 x.Need.C, .int .i64 x.Lic.A, .int .i64 x.Lic.B, .int .i64 x.Lic.C, .int .i64 x.Wall, .int .i64 v3]) (by simp [results, Try.results86, go_sem, y0, y1, y2, y3, y4, y5, y6, y7, y8, y9, y10]) rfl ⟨⟨x.Id, x.Prio, x.Nodes, ⟨x.Need.A, x.Need.B, x.Need.C⟩, ⟨x.Lic.A, x.Lic.B, x.Lic.C⟩, x.Wall, v3⟩, rfl, ⟨HXO.out.1, HXO.out.2.1, HXO.out.2.2.1, HXO.out.2.2.2.1, HXO.out.2.2.2.2.1, HXO.out.2.2.2.2.2.1, HXO.out.2.2.2.2.2.2.1, HXO.out.2.2.2.2.2.2.2.1, HXO.out.2.2.2.2.2.2.2.2.1, HXO.out.2.2.2.2.2.2.2.2.2.1, HV3.out⟩, ?_, ?_⟩
    · repeat (first | with_reducible exact HT3.out | refine turned_own ?_ (by omega))
    · repeat (first | with_reducible exact HC3.out | refine Cur.put ?_ (by omega))
  · skip
    go_wp2_with fail
    refine (HR.out _ HC2.out).mono ?_
    rintro e w3 ⟨v3, rfl, hv3, ht3, hc3⟩
    have HT3 := Lib.hid (HT2.out.trans ht3)
    have HC3 := Lib.hid hc3
    have hs3 := HT3.out.le
    have HY3 := Lib.hid (heapT ht3 HY2.out (by omega))
    have HX3 := Lib.hid (heapT ht3 HX2.out (by omega))
    clear ht3 hc3
    have HV3 := Lib.hid hv3
    clear hv3
    have x0 := cell_block HX3.out 0 _ rfl
    have x1 := cell_block HX3.out 1 _ rfl
    have x2 := cell_block HX3.out 2 _ rfl
    have x3 := cell_block HX3.out 3 _ rfl
    have x4 := cell_block HX3.out 4 _ rfl
    have x5 := cell_block HX3.out 5 _ rfl
    have x6 := cell_block HX3.out 6 _ rfl
    have x7 := cell_block HX3.out 7 _ rfl
    have x8 := cell_block HX3.out 8 _ rfl
    have x9 := cell_block HX3.out 9 _ rfl
    have x10 := cell_block HX3.out 10 _ rfl
    have y0 := cell_block HY3.out 0 _ rfl
    have y1 := cell_block HY3.out 1 _ rfl
    have y2 := cell_block HY3.out 2 _ rfl
    have y3 := cell_block HY3.out 3 _ rfl
    have y4 := cell_block HY3.out 4 _ rfl
    have y5 := cell_block HY3.out 5 _ rfl
    have y6 := cell_block HY3.out 6 _ rfl
    have y7 := cell_block HY3.out 7 _ rfl
    have y8 := cell_block HY3.out 8 _ rfl
    have y9 := cell_block HY3.out 9 _ rfl
    have y10 := cell_block HY3.out 10 _ rfl
    have yf0 := draw_frozen HY3.out 0
    have yf1 := draw_frozen HY3.out 1
    have yf2 := draw_frozen HY3.out 2
    have yf3 := draw_frozen HY3.out 3
    have yf4 := draw_frozen HY3.out 4
    have yf5 := draw_frozen HY3.out 5
    have yf6 := draw_frozen HY3.out 6
    have yf7 := draw_frozen HY3.out 7
    have yf8 := draw_frozen HY3.out 8
    have yf9 := draw_frozen HY3.out 9
    have yf10 := draw_frozen HY3.out 10
    have xf1 := draw_frozen HX3.out 1
    have hlx := heap_lt HX3.out
    have hly := heap_lt HY3.out
    have hlm : w.heap.size < w1.heap.size := heap_lt HY1.out
    have hn1 : ¬ w.heap.size = w1.heap.size := by omega
    have hn2 : ¬ w1.heap.size = w.heap.size := by omega
    go_wp2
    refine bodyPost_ret (v := .agg #[.int .i64 x.Id, .int .i64 v3, .int .i64 x.Nodes, .int .i64 x.Need.A, .int .i64 x.Need.B, .int .i64 x.Need.C, .int .i64 x.Lic.A, .int .i64 x.Lic.B, .int .i64 x.Lic.C, .int .i64 x.Wall, .int .i64 x.Level]) (by simp [results, Try.results86, go_sem, y0, y1, y2, y3, y4, y5, y6, y7, y8, y9, y10]) rfl ⟨⟨x.Id, v3, x.Nodes, ⟨x.Need.A, x.Need.B, x.Need.C⟩, ⟨x.Lic.A, x.Lic.B, x.Lic.C⟩, x.Wall, x.Level⟩, rfl, ⟨HXO.out.1, HV3.out, HXO.out.2.2.1, HXO.out.2.2.2.1, HXO.out.2.2.2.2.1, HXO.out.2.2.2.2.2.1, HXO.out.2.2.2.2.2.2.1, HXO.out.2.2.2.2.2.2.2.1, HXO.out.2.2.2.2.2.2.2.2.1, HXO.out.2.2.2.2.2.2.2.2.2.1, HXO.out.2.2.2.2.2.2.2.2.2.2⟩, ?_, ?_⟩
    · repeat (first | with_reducible exact HT3.out | refine turned_own ?_ (by omega))
    · repeat (first | with_reducible exact HC3.out | refine Cur.put ?_ (by omega))
  · skip
    have x0 := cell_block HX2.out 0 _ rfl
    have x1 := cell_block HX2.out 1 _ rfl
    have x2 := cell_block HX2.out 2 _ rfl
    have x3 := cell_block HX2.out 3 _ rfl
    have x4 := cell_block HX2.out 4 _ rfl
    have x5 := cell_block HX2.out 5 _ rfl
    have x6 := cell_block HX2.out 6 _ rfl
    have x7 := cell_block HX2.out 7 _ rfl
    have x8 := cell_block HX2.out 8 _ rfl
    have x9 := cell_block HX2.out 9 _ rfl
    have x10 := cell_block HX2.out 10 _ rfl
    have y0 := cell_block HY2.out 0 _ rfl
    have y1 := cell_block HY2.out 1 _ rfl
    have y2 := cell_block HY2.out 2 _ rfl
    have y3 := cell_block HY2.out 3 _ rfl
    have y4 := cell_block HY2.out 4 _ rfl
    have y5 := cell_block HY2.out 5 _ rfl
    have y6 := cell_block HY2.out 6 _ rfl
    have y7 := cell_block HY2.out 7 _ rfl
    have y8 := cell_block HY2.out 8 _ rfl
    have y9 := cell_block HY2.out 9 _ rfl
    have y10 := cell_block HY2.out 10 _ rfl
    have yf0 := draw_frozen HY2.out 0
    have yf1 := draw_frozen HY2.out 1
    have yf2 := draw_frozen HY2.out 2
    have yf3 := draw_frozen HY2.out 3
    have yf4 := draw_frozen HY2.out 4
    have yf5 := draw_frozen HY2.out 5
    have yf6 := draw_frozen HY2.out 6
    have yf7 := draw_frozen HY2.out 7
    have yf8 := draw_frozen HY2.out 8
    have yf9 := draw_frozen HY2.out 9
    have yf10 := draw_frozen HY2.out 10
    have hlx := heap_lt HX2.out
    have hly := heap_lt HY2.out
    have hlm : w.heap.size < w1.heap.size := heap_lt HY1.out
    have hn1 : ¬ w.heap.size = w1.heap.size := by omega
    have hn2 : ¬ w1.heap.size = w.heap.size := by omega
    go_wp2
    refine bodyPost_ret (v := .agg #[.int .i64 x.Id, .int .i64 x.Prio, .int .i64 x.Nodes, .int .i64 x.Need.A, .int .i64 x.Need.B, .int .i64 x.Need.C, .int .i64 x.Lic.A, .int .i64 x.Lic.B, .int .i64 x.Lic.C, .int .i64 x.Wall, .int .i64 x.Level]) (by simp [results, Try.results86, go_sem, y0, y1, y2, y3, y4, y5, y6, y7, y8, y9, y10]) rfl ⟨⟨x.Id, x.Prio, x.Nodes, ⟨x.Need.A, x.Need.B, x.Need.C⟩, ⟨x.Lic.A, x.Lic.B, x.Lic.C⟩, x.Wall, x.Level⟩, rfl, ⟨HXO.out.1, HXO.out.2.1, HXO.out.2.2.1, HXO.out.2.2.2.1, HXO.out.2.2.2.2.1, HXO.out.2.2.2.2.2.1, HXO.out.2.2.2.2.2.2.1, HXO.out.2.2.2.2.2.2.2.1, HXO.out.2.2.2.2.2.2.2.2.1, HXO.out.2.2.2.2.2.2.2.2.2.1, HXO.out.2.2.2.2.2.2.2.2.2.2⟩, ?_, ?_⟩
    · repeat (first | with_reducible exact HT2.out | refine turned_own ?_ (by omega))
    · repeat (first | with_reducible exact HC2.out | refine Cur.put ?_ (by omega))
end Go.Proofs.Ytbfambeoboiifaa
