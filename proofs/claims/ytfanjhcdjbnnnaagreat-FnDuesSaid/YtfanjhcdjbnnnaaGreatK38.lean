/- DrawJob, MvStepL. -/
import Derived.Test.YtfanjhcdjbnnnaaGreatK33
import Derived.Test.YtfanjhcdjbnnnaaGreatK34
import Derived.Test.YtfanjhcdjbnnnaaGreatK35
import Derived.Test.YtfanjhcdjbnnnaaGreatK36
import Derived.Test.YtfanjhcdjbnnnaaGreatK37
import Derived.Deep.RegionHeld3
namespace Go.Proofs.YtfanjhcdjbnnnaaGreat
open Go.RowKit
set_option linter.unusedVariables false
set_option maxHeartbeats 4000000
set_option maxRecDepth 20000
theorem l04Job_c (g : Nat) (w : World) (hc : Cur w g) : Calls Tryz.prog 68 #[.pointer (some ⟨g,0,none⟩)] w (RetJobD w g) := by
 have hgw := hc.lt
 have HB := Hh (fun (n : Int) (hn : In64 n) (u : World) (hu : Cur u g) => l01Below_c g n u hu hn)
 have HR := Hh (fun (u : World) (hu : Cur u g) => l01Raw_c g u hu)
 have H9 : Hid (∀ n : Int,-1000000 ≤ n → n ≤ 1000000 → In64 n) := Hh (fun n h1 h2 => by unfold In64;omega)
 have HC0 := Hh (hc.ext ((Ext.refl w).alloc (.cells #[.int .i64 0,.int .i64 0,.int .i64 0,.int .i64 0,.int .i64 0,.int .i64 0,.int .i64 0,.int .i64 0,.int .i64 0,.int .i64 0,.int .i64 0] 52)))
 have HT0 := Hh (((Ext.refl w).alloc (.cells #[.int .i64 0,.int .i64 0,.int .i64 0,.int .i64 0,.int .i64 0,.int .i64 0,.int .i64 0,.int .i64 0,.int .i64 0,.int .i64 0,.int .i64 0] 52)).turned g (g + 1))
 have HY0 := Hh (heap_alloc_new w (.cells #[.int .i64 0,.int .i64 0,.int .i64 0,.int .i64 0,.int .i64 0,.int .i64 0,.int .i64 0,.int .i64 0,.int .i64 0,.int .i64 0,.int .i64 0] 52))
 clear hc
 go_enter Tryz.func68,Tryz.ntmps68
 go_wp2_with fail
 refine (HB.out 30 (H9.out _ (by omega) (by omega)) _ HC0.out).mono ?_
 rintro e w1 ⟨v1,rfl,⟨hv1a,hv1b⟩,ht1,hc1⟩
 have HT1 := Hh (HT0.out.trans ht1)
 have HC1 := Hh hc1
 have hs1 := HT1.out.le
 have HY1 := Hh (heapT ht1 HY0.out (by omega))
 clear ht1 hc1
 go_wp2_with fail
 refine (HB.out 5 (H9.out _ (by omega) (by omega)) _ HC1.out).mono ?_
 rintro e w2 ⟨v2,rfl,⟨hv2a,hv2b⟩,ht2,hc2⟩
 have HT2 := Hh (HT1.out.trans ht2)
 have HC2 := Hh hc2
 have hs2 := HT2.out.le
 have HY2 := Hh (heapT ht2 HY1.out (by omega))
 clear ht2 hc2
 go_wp2_with fail
 refine (HB.out 3 (H9.out _ (by omega) (by omega)) _ HC2.out).mono ?_
 rintro e w3 ⟨v3,rfl,⟨hv3a,hv3b⟩,ht3,hc3⟩
 have HT3 := Hh (HT2.out.trans ht3)
 have HC3 := Hh hc3
 have hs3 := HT3.out.le
 have HY3 := Hh (heapT ht3 HY2.out (by omega))
 clear ht3 hc3
 go_wp2_with fail
 refine (HB.out 5 (H9.out _ (by omega) (by omega)) _ HC3.out).mono ?_
 rintro e w4 ⟨v4,rfl,⟨hv4a,hv4b⟩,ht4,hc4⟩
 have HT4 := Hh (HT3.out.trans ht4)
 have HC4 := Hh hc4
 have hs4 := HT4.out.le
 have HY4 := Hh (heapT ht4 HY3.out (by omega))
 clear ht4 hc4
 go_wp2_with fail
 refine (HB.out 9 (H9.out _ (by omega) (by omega)) _ HC4.out).mono ?_
 rintro e w5 ⟨v5,rfl,⟨hv5a,hv5b⟩,ht5,hc5⟩
 have HT5 := Hh (HT4.out.trans ht5)
 have HC5 := Hh hc5
 have hs5 := HT5.out.le
 have HY5 := Hh (heapT ht5 HY4.out (by omega))
 clear ht5 hc5
 go_wp2_with fail
 refine (HB.out 4 (H9.out _ (by omega) (by omega)) _ HC5.out).mono ?_
 rintro e w6 ⟨v6,rfl,⟨hv6a,hv6b⟩,ht6,hc6⟩
 have HT6 := Hh (HT5.out.trans ht6)
 have HC6 := Hh hc6
 have hs6 := HT6.out.le
 have HY6 := Hh (heapT ht6 HY5.out (by omega))
 clear ht6 hc6
 go_wp2_with fail
 refine (HB.out 20 (H9.out _ (by omega) (by omega)) _ HC6.out).mono ?_
 rintro e w7 ⟨v7,rfl,⟨hv7a,hv7b⟩,ht7,hc7⟩
 have HT7 := Hh (HT6.out.trans ht7)
 have HC7 := Hh hc7
 have hs7 := HT7.out.le
 have HY7 := Hh (heapT ht7 HY6.out (by omega))
 clear ht7 hc7
 go_wp2_with fail
 refine (HB.out 3 (H9.out _ (by omega) (by omega)) _ HC7.out).mono ?_
 rintro e w8 ⟨v8,rfl,⟨hv8a,hv8b⟩,ht8,hc8⟩
 have HT8 := Hh (HT7.out.trans ht8)
 have HC8 := Hh hc8
 have hs8 := HT8.out.le
 have HY8 := Hh (heapT ht8 HY7.out (by omega))
 clear ht8 hc8
 go_wp2_with fail
 refine (HB.out 3 (H9.out _ (by omega) (by omega)) _ (HC8.out.ext ((Ext.refl w8).alloc _))).mono ?_
 rintro e w9 ⟨v9,rfl,⟨hv9a,hv9b⟩,ht9,hc9⟩
 have HT9 := Hh ((HT8.out.ext ((Ext.refl w8).alloc _)).trans ht9)
 have HC9 := Hh hc9
 have hs9 := HT9.out.le
 have HY9 := Hh (heapT ht9 (heapE ((Ext.refl w8).alloc _) HY8.out) (by omega))
 have HX9 := Hh (heapT ht9 (heap_alloc_new w8 _) (by omega))
 clear ht9 hc9
 by_cases hv : v9 = 0
 ·subst hv
  go_wp2_with fail
  refine (HB.out 3 (H9.out _ (by omega) (by omega)) _ HC9.out).mono ?_
  rintro e w10 ⟨v10,rfl,⟨hv10a,hv10b⟩,ht10,hc10⟩
  have HT10 := Hh (HT9.out.trans ht10)
  have HC10 := Hh hc10
  have hs10 := HT10.out.le
  have HY10 := Hh (heapT ht10 HY9.out (by omega))
  have HX10 := Hh (heapT ht10 HX9.out (by omega))
  clear ht10 hc10
  go_wp2_with fail
  refine (HB.out 2 (H9.out _ (by omega) (by omega)) _ HC10.out).mono ?_
  rintro e w11 ⟨v11,rfl,⟨hv11a,hv11b⟩,ht11,hc11⟩
  have HT11 := Hh (HT10.out.trans ht11)
  have HC11 := Hh hc11
  have hs11 := HT11.out.le
  have HY11 := Hh (heapT ht11 HY10.out (by omega))
  have HX11 := Hh (heapT ht11 HX10.out (by omega))
  clear ht11 hc11
  have x0 := cell_block HX11.out 0 _ rfl
  have x1 := cell_block HX11.out 1 _ rfl
  have x2 := cell_block HX11.out 2 _ rfl
  have x3 := cell_block HX11.out 3 _ rfl
  have x4 := cell_block HX11.out 4 _ rfl
  have x5 := cell_block HX11.out 5 _ rfl
  have x6 := cell_block HX11.out 6 _ rfl
  have x7 := cell_block HX11.out 7 _ rfl
  have x8 := cell_block HX11.out 8 _ rfl
  have x9 := cell_block HX11.out 9 _ rfl
  have x10 := cell_block HX11.out 10 _ rfl
  have y0 := cell_block HY11.out 0 _ rfl
  have y1 := cell_block HY11.out 1 _ rfl
  have y2 := cell_block HY11.out 2 _ rfl
  have y3 := cell_block HY11.out 3 _ rfl
  have y4 := cell_block HY11.out 4 _ rfl
  have y5 := cell_block HY11.out 5 _ rfl
  have y6 := cell_block HY11.out 6 _ rfl
  have y7 := cell_block HY11.out 7 _ rfl
  have y8 := cell_block HY11.out 8 _ rfl
  have y9 := cell_block HY11.out 9 _ rfl
  have y10 := cell_block HY11.out 10 _ rfl
  have yf0 := draw_frozen HY11.out 0
  have yf1 := draw_frozen HY11.out 1
  have yf2 := draw_frozen HY11.out 2
  have yf3 := draw_frozen HY11.out 3
  have yf4 := draw_frozen HY11.out 4
  have yf5 := draw_frozen HY11.out 5
  have yf6 := draw_frozen HY11.out 6
  have yf7 := draw_frozen HY11.out 7
  have yf8 := draw_frozen HY11.out 8
  have yf9 := draw_frozen HY11.out 9
  have yf10 := draw_frozen HY11.out 10
  have xf6 := draw_frozen HX11.out 6
  have xf7 := draw_frozen HX11.out 7
  have xf8 := draw_frozen HX11.out 8
  have hlx := heap_lt HX11.out
  have hly := heap_lt HY11.out
  have hlm : w.heap.size < w8.heap.size := heap_lt HY8.out
  have hn1 : ¬ w.heap.size = w8.heap.size := by omega
  have hn2 : ¬ w8.heap.size = w.heap.size := by omega
  go_wp2
  refine bodyPost_ret (v := .agg #[.int .i64 (1 + v1),.int .i64 v2,.int .i64 (1 + v3),.int .i64 (1 + v4),.int .i64 v5,.int .i64 (v6 / 3),.int .i64 v10,.int .i64 v11,.int .i64 0,.int .i64 (1 + v7),.int .i64 v8]) (by simp [results,Tryz.results68,go_sem,y0,y1,y2,y3,y4,y5,y6,y7,y8,y9,y10]) rfl ⟨⟨1 + v1,v2,1 + v3,⟨1 + v4,v5,v6 / 3⟩,⟨v10,v11,0⟩,1 + v7,v8⟩,rfl,⟨in64_of (n := 1 + v1) (by omega) (by omega),in64_of (n := v2) (by omega) (by omega),in64_of (n := 1 + v3) (by omega) (by omega),in64_of (n := 1 + v4) (by omega) (by omega),in64_of (n := v5) (by omega) (by omega),in64_of (n := v6 / 3) (by omega) (by omega),in64_of (n := v10) (by omega) (by omega),in64_of (n := v11) (by omega) (by omega),in64_of (n := 0) (by omega) (by omega),in64_of (n := 1 + v7) (by omega) (by omega),in64_of (n := v8) (by omega) (by omega)⟩, ?_, ?_⟩
  ·repeat (first | with_reducible exact HT11.out | refine turned_own ?_ (by omega))
  ·repeat (first | with_reducible exact HC11.out | refine Cur.put ?_ (by omega))
 ·skip
  have x0 := cell_block HX9.out 0 _ rfl
  have x1 := cell_block HX9.out 1 _ rfl
  have x2 := cell_block HX9.out 2 _ rfl
  have x3 := cell_block HX9.out 3 _ rfl
  have x4 := cell_block HX9.out 4 _ rfl
  have x5 := cell_block HX9.out 5 _ rfl
  have x6 := cell_block HX9.out 6 _ rfl
  have x7 := cell_block HX9.out 7 _ rfl
  have x8 := cell_block HX9.out 8 _ rfl
  have x9 := cell_block HX9.out 9 _ rfl
  have x10 := cell_block HX9.out 10 _ rfl
  have y0 := cell_block HY9.out 0 _ rfl
  have y1 := cell_block HY9.out 1 _ rfl
  have y2 := cell_block HY9.out 2 _ rfl
  have y3 := cell_block HY9.out 3 _ rfl
  have y4 := cell_block HY9.out 4 _ rfl
  have y5 := cell_block HY9.out 5 _ rfl
  have y6 := cell_block HY9.out 6 _ rfl
  have y7 := cell_block HY9.out 7 _ rfl
  have y8 := cell_block HY9.out 8 _ rfl
  have y9 := cell_block HY9.out 9 _ rfl
  have y10 := cell_block HY9.out 10 _ rfl
  have yf0 := draw_frozen HY9.out 0
  have yf1 := draw_frozen HY9.out 1
  have yf2 := draw_frozen HY9.out 2
  have yf3 := draw_frozen HY9.out 3
  have yf4 := draw_frozen HY9.out 4
  have yf5 := draw_frozen HY9.out 5
  have yf6 := draw_frozen HY9.out 6
  have yf7 := draw_frozen HY9.out 7
  have yf8 := draw_frozen HY9.out 8
  have yf9 := draw_frozen HY9.out 9
  have yf10 := draw_frozen HY9.out 10
  have hlx := heap_lt HX9.out
  have hly := heap_lt HY9.out
  have hlm : w.heap.size < w8.heap.size := heap_lt HY8.out
  have hn1 : ¬ w.heap.size = w8.heap.size := by omega
  have hn2 : ¬ w8.heap.size = w.heap.size := by omega
  go_wp2
  refine bodyPost_ret (v := .agg #[.int .i64 (1 + v1),.int .i64 v2,.int .i64 (1 + v3),.int .i64 (1 + v4),.int .i64 v5,.int .i64 (v6 / 3),.int .i64 0,.int .i64 0,.int .i64 0,.int .i64 (1 + v7),.int .i64 v8]) (by simp [results,Tryz.results68,go_sem,y0,y1,y2,y3,y4,y5,y6,y7,y8,y9,y10]) rfl ⟨⟨1 + v1,v2,1 + v3,⟨1 + v4,v5,v6 / 3⟩,⟨0,0,0⟩,1 + v7,v8⟩,rfl,⟨in64_of (n := 1 + v1) (by omega) (by omega),in64_of (n := v2) (by omega) (by omega),in64_of (n := 1 + v3) (by omega) (by omega),in64_of (n := 1 + v4) (by omega) (by omega),in64_of (n := v5) (by omega) (by omega),in64_of (n := v6 / 3) (by omega) (by omega),in64_of (n := 0) (by omega) (by omega),in64_of (n := 0) (by omega) (by omega),in64_of (n := 0) (by omega) (by omega),in64_of (n := 1 + v7) (by omega) (by omega),in64_of (n := v8) (by omega) (by omega)⟩, ?_, ?_⟩
  ·repeat (first | with_reducible exact HT9.out | refine turned_own ?_ (by omega))
  ·repeat (first | with_reducible exact HC9.out | refine Cur.put ?_ (by omega))
structure StepI (w u : World) (g lo b : Nat) (d e : StD) : Prop where
 b3 : u.ownsRow w.heap.size 34 11 (.slice (some ⟨w.heap.size,0,none⟩) 1 1) 1 [.slice d.A1 d.n1 d.c1,.slice d.A2 d.n2 d.c2,.slice d.A3 d.n3 d.c3,.int .i64 d.lic.A,.int .i64 d.lic.B,.int .i64 d.lic.C,.int .i64 d.dep,.int .i64 d.now,.slice d.A6 d.n6 d.c6,.slice d.A7 d.n7 d.c7,.slice d.A8 d.n8 d.c8]
 b4 : u.ownsRow w.heap.size 34 11 (.slice (some ⟨w.heap.size + 1,0,none⟩) 1 1) 1 [.slice none 0 0,.slice none 0 0,.slice none 0 0,.int .i64 0,.int .i64 0,.int .i64 0,.int .i64 0,.int .i64 0,.slice none 0 0,.slice none 0 0,.slice none 0 0]
 b6 : u.ownsRow w.heap.size 34 11 (.slice (some ⟨b,0,none⟩) 1 1) 1 [.slice e.A1 e.n1 e.c1,.slice e.A2 e.n2 e.c2,.slice e.A3 e.n3 e.c3,.int .i64 e.lic.A,.int .i64 e.lic.B,.int .i64 e.lic.C,.int .i64 e.dep,.int .i64 e.now,.slice e.A6 e.n6 e.c6,.slice e.A7 e.n7 e.c7,.slice e.A8 e.n8 e.c8]
 nb : w.heap.size + 1 < b
 gd : d.good u lo
 ge : e.good u lo
 gl : g < lo
 hl : lo ≤ w.heap.size
 tu : Turned g (g + 1) w u
 cu : Cur u g
section
variable {w u u' : World} {g lo b : Nat} {d e e2 : StD}
theorem StepI.mv (h : StepI w u g lo b d e) (x : Ext u u') : StepI w u' g lo b d e :=
 ⟨owns_ext h.b3 x,owns_ext h.b4 x,owns_ext h.b6 x,h.nb,h.gd.ext x,h.ge.ext x,h.gl,h.hl,h.tu.ext x,h.cu.ext x⟩
theorem StepI.turn (h : StepI w u g lo b d e) (ht : Turned g (g + 1) u u') (hc : Cur u' g) : StepI w u' g lo b d e := by
 have hg := h.gl
 have hl := h.hl
 exact ⟨ownsT h.b3 ht (by omega),ownsT h.b4 ht (by omega),ownsT h.b6 ht (by omega),h.nb,h.gd.turn ht hg,h.ge.turn ht hg,hg,hl,h.tu.trans ht,hc⟩
theorem StepI.put (h : StepI w u g lo b d e) (he : e2.good u lo) : StepI w (setCells u b 0 [.slice e2.A1 e2.n1 e2.c1,.slice e2.A2 e2.n2 e2.c2,.slice e2.A3 e2.n3 e2.c3,.int .i64 e2.lic.A,.int .i64 e2.lic.B,.int .i64 e2.lic.C,.int .i64 e2.dep,.int .i64 e2.now,.slice e2.A6 e2.n6 e2.c6,.slice e2.A7 e2.n7 e2.c7,.slice e2.A8 e2.n8 e2.c8]) g lo b d e2 := by
 have hn := h.nb
 have hg := h.gl
 have hl := h.hl
 have hk := kept_puts b [.slice e2.A1 e2.n1 e2.c1,.slice e2.A2 e2.n2 e2.c2,.slice e2.A3 e2.n3 e2.c3,.int .i64 e2.lic.A,.int .i64 e2.lic.B,.int .i64 e2.lic.C,.int .i64 e2.dep,.int .i64 e2.now,.slice e2.A6 e2.n6 e2.c6,.slice e2.A7 e2.n7 e2.c7,.slice e2.A8 e2.n8 e2.c8] u 0
 exact ⟨hk.own h.b3 (fun k h1 h2 => by simp [Value.ownBlock] at h1 h2;omega),hk.own h.b4 (fun k h1 h2 => by simp [Value.ownBlock] at h1 h2;omega),puts11 h.b6 rfl,hn,h.gd.kept h.b6 hk (by simp [rowTypes]),he.kept h.b6 hk (by simp [rowTypes]),hg,hl,turned_puts _ 0 h.tu (by omega),cur_puts _ 0 h.cu (by omega)⟩
theorem StepI.side {base p : Nat} {L : List Value} {us : List Value} (h : StepI w u g lo b d e) (ho : u.ownsRow base 34 11 (.slice (some ⟨p,0,none⟩) 1 1) 1 L) (hp : b < p) : StepI w (setCells u p 0 us) g lo b d e := by
 have hn := h.nb
 have hg := h.gl
 have hl := h.hl
 have hk := kept_puts p us u 0
 exact ⟨hk.own h.b3 (fun k h1 h2 => by simp [Value.ownBlock] at h1 h2;omega),hk.own h.b4 (fun k h1 h2 => by simp [Value.ownBlock] at h1 h2;omega),hk.own h.b6 (fun k h1 h2 => by simp [Value.ownBlock] at h1 h2;omega),hn,h.gd.kept ho hk (by simp [rowTypes]),h.ge.kept ho hk (by simp [rowTypes]),hg,hl,turned_puts _ 0 h.tu (by omega),cur_puts _ 0 h.cu (by omega)⟩
theorem StepI.fin {x : StD} (h : StepI w u g lo b d e) (hx : x.good u lo) (hs : x.sm) : RetStD w g lo (.returned (.agg #[.slice x.A1 x.n1 x.c1,.slice x.A2 x.n2 x.c2,.slice x.A3 x.n3 x.c3,.int .i64 x.lic.A,.int .i64 x.lic.B,.int .i64 x.lic.C,.int .i64 x.dep,.int .i64 x.now,.slice x.A6 x.n6 x.c6,.slice x.A7 x.n7 x.c7,.slice x.A8 x.n8 x.c8])) (setCells u (w.heap.size + 1) 0 [.slice x.A1 x.n1 x.c1,.slice x.A2 x.n2 x.c2,.slice x.A3 x.n3 x.c3,.int .i64 x.lic.A,.int .i64 x.lic.B,.int .i64 x.lic.C,.int .i64 x.dep,.int .i64 x.now,.slice x.A6 x.n6 x.c6,.slice x.A7 x.n7 x.c7,.slice x.A8 x.n8 x.c8]) := by
 have hg := h.gl
 have hl := h.hl
 exact ⟨x,rfl,hx.kept h.b4 (kept_puts (w.heap.size + 1) [.slice x.A1 x.n1 x.c1,.slice x.A2 x.n2 x.c2,.slice x.A3 x.n3 x.c3,.int .i64 x.lic.A,.int .i64 x.lic.B,.int .i64 x.lic.C,.int .i64 x.dep,.int .i64 x.now,.slice x.A6 x.n6 x.c6,.slice x.A7 x.n7 x.c7,.slice x.A8 x.n8 x.c8] u 0) (by simp [rowTypes]),hs,turned_puts _ 0 h.tu (by omega),cur_puts _ 0 h.cu (by omega)⟩
theorem StepI.c3 (h : StepI w u g lo b d e) : C11 u w.heap.size d := (cells11 h.b3).1
end
def idF (d : StD) (j : Nat) : Int := (d.rs.getD j ⟨⟨0,0,0,⟨0,0,0⟩,⟨0,0,0⟩,0,0⟩,0,none,0,0⟩).j.Id
theorem StD.good.idc {w : World} {lo br : Nat} {d : StD} (h : d.good w lo) (hA : d.A7 = some ⟨br,0,none⟩) : ∀ j,j < d.n7 → w.cell? ⟨br,j * 13,none⟩ = some (.int .i64 (idF d j)) := by
 intro j hj
 have hr := h.r7
 rw [hA] at hr
 have hl := h.l7
 have hx : d.rs[j]? = some d.rs[j] := List.getElem?_eq_getElem (by omega)
 have h1 := flatMap_get (enc := RawRun.enc) (j := 0) RawRun.size (by omega) hx
 rw [Nat.add_zero] at h1
 rw [hr.cellAt (j * 13) (by omega),h1]
 unfold idF
 rw [List.getD_eq_getElem?_getD,hx]
 rfl
theorem StD.good.id64 {w : World} {lo : Nat} {d : StD} (h : d.good w lo) {j : Nat} (hj : j < d.n7) : In64 (idF d j) := by
 have hl := h.l7
 have hx : d.rs[j]? = some d.rs[j] := List.getElem?_eq_getElem (by omega)
 unfold idF
 rw [List.getD_eq_getElem?_getD,hx]
 exact (h.k7 _ (List.getElem_mem (by omega))).1.1.1
theorem zbox_turn {u w2 : World} {g : Nat} (ht : Turned g (g + 1) (u.alloc (.cells #[.slice none 0 0,.slice none 0 0,.slice none 0 0,.int .i64 0,.int .i64 0,.int .i64 0,.int .i64 0,.int .i64 0,.slice none 0 0,.slice none 0 0,.slice none 0 0] 34)).drew w2) (hg : g + 1 ≤ u.heap.size) : w2.ownsRow (g + 1) 34 11 (.slice (some ⟨u.heap.size,0,none⟩) 1 1) 1 [.slice none 0 0,.slice none 0 0,.slice none 0 0,.int .i64 0,.int .i64 0,.int .i64 0,.int .i64 0,.int .i64 0,.slice none 0 0,.slice none 0 0,.slice none 0 0] := ownsT (owns_base (owns_ext (gbox u [.slice none 0 0,.slice none 0 0,.slice none 0 0,.int .i64 0,.int .i64 0,.int .i64 0,.int .i64 0,.int .i64 0,.slice none 0 0,.slice none 0 0,.slice none 0 0] 34 11 rfl) ((Ext.refl _).drew)) hg) ht (Nat.le_refl _)
theorem zbox_ext {w2 w9 : World} (hb : Ext (w2.alloc (.cells #[.slice none 0 0,.slice none 0 0,.slice none 0 0,.int .i64 0,.int .i64 0,.int .i64 0,.int .i64 0,.int .i64 0,.slice none 0 0,.slice none 0 0,.slice none 0 0] 34)) w9) : w9.ownsRow w2.heap.size 34 11 (.slice (some ⟨w2.heap.size,0,none⟩) 1 1) 1 [.slice none 0 0,.slice none 0 0,.slice none 0 0,.int .i64 0,.int .i64 0,.int .i64 0,.int .i64 0,.int .i64 0,.slice none 0 0,.slice none 0 0,.slice none 0 0] := owns_ext (gbox w2 [.slice none 0 0,.slice none 0 0,.slice none 0 0,.int .i64 0,.int .i64 0,.int .i64 0,.int .i64 0,.int .i64 0,.slice none 0 0,.slice none 0 0,.slice none 0 0] 34 11 rfl) hb
theorem StD.sm.mid {d : StD} (h : d.sm) : d.mid := by obtain ⟨a1,a2,a3,a6,a7,a8⟩ := h;exact ⟨a1,a2,a3,by omega,by omega,by omega⟩
end Go.Proofs.YtfanjhcdjbnnnaaGreat
