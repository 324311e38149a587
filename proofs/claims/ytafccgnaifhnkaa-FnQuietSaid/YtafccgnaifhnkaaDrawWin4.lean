/- Contracts of the draws: the law's draw. -/
import Derived.Test.YtafccgnaifhnkaaDrawWin3
namespace Go.Proofs.Ytafccgnaifhnkaa
open Go.RowKit
set_option linter.unusedVariables false
def RetDrawNQ (w : World) : Ending → World → Prop := fun e w' => ∃ (A : Option Addr) (c : Nat) (ps : List Int) (B : Option Addr) (d : Nat) (ns : List Node) (D : Option Addr) (fc : Nat) (xs : List Window) (C : Option Addr) (h : Nat) (ds : List Int) (fr wall : Int), e = .returned (.tuple #[.agg #[.slice A ps.length c, .slice B ns.length d], .slice D xs.length fc, .slice C ds.length h, .int .i64 fr, .int .i64 wall]) ∧ SlAt RInt 1 w' A ps.length ps ∧ SlAt RNode 4 w' B ns.length ns ∧ SlAt RWindow 3 w' D xs.length xs ∧ SlAt RInt 1 w' C ds.length ds ∧ ps.length ≤ 18 ∧ ns.length ≤ 10 ∧ xs.length ≤ 3 ∧ (∀ x ∈ xs, x.Nodes.length ≤ 12) ∧ ds.length ≤ 5 ∧ In64 fr ∧ In64 wall ∧ Ext w w'
set_option maxHeartbeats 8000000 in
set_option maxRecDepth 10000 in
theorem DrawNextQuiet_c (bs : List Int) (A : Option Addr) (n c : Nat) (w : World) (hs : SlAt RU8 1 w A n bs) (hn : n ≤ 1048576) : Calls Try.prog 23 #[.slice A n c] w (RetDrawNQ w) := by
  have HB := Lib.hid (fun (g : Nat) (n : Int) (hn : In64 n) (u : World) (hu : Cur u g) => l01Below_c g n u hu hn)
  have HRW := Lib.hid (fun (g : Nat) (u : World) (hu : Cur u g) => l01Raw_c g u hu)
  have H9 : Hid (∀ n : Int, -1000000 ≤ n → n ≤ 1000000 → In64 n) := Lib.hid (fun n h1 h2 => by unfold In64; omega)
  have HN := Lib.hid (fun (u : World) (e : Ext w u) => l01New_c bs A n c u (hs.ext RU8.mono e) hn)
  clear hs
  go_enter Try.func23, Try.ntmps23
  go_wp2_with fail
  refine (HN.out _ ((Ext.refl _).alloc _)).mono ?_
  rintro e w0 ⟨g, rfl, hg, hb0, hc0⟩
  have hg1 : g < w0.heap.size := hc0.lt
  have hg0 : w.heap.size + 1 ≤ g := by simpa using hg
  have HE0 := Lib.hid (((Ext.refl w).alloc (.cells #[.slice none 0 0, .slice none 0 0] 32)).trans hb0)
  have r0 := hb0.cell (dcell_box w [.slice none 0 0, .slice none 0 0] 32 0 _ rfl)
  have r1 := hb0.cell (dcell_box w [.slice none 0 0, .slice none 0 0] 32 1 _ rfl)
  have rf0 := (hb0.frozenEq (a := ⟨w.heap.size, 0, none⟩) (by simp)).trans (dfrozen_box w [.slice none 0 0, .slice none 0 0] 32 0)
  have rf1 := (hb0.frozenEq (a := ⟨w.heap.size, 1, none⟩) (by simp)).trans (dfrozen_box w [.slice none 0 0, .slice none 0 0] 32 1)
  have HR0 := Lib.hid (show (w0.cell? ⟨w.heap.size, 0, none⟩ = some (.slice none 0 0) ∧ w0.cell? ⟨w.heap.size, 1, none⟩ = some (.slice none 0 0)) ∧ w0.frozen? ⟨w.heap.size, 0, none⟩ = false ∧ w0.frozen? ⟨w.heap.size, 1, none⟩ = false from ⟨⟨r0, r1⟩, rf0, rf1⟩)
  have hlr := lt_of_cell r0
  have HRT := Lib.hid (fun (u : World) (e : Turned g (g + 1) w0 u) => show (u.cell? ⟨w.heap.size, 0, none⟩ = some (.slice none 0 0) ∧ u.cell? ⟨w.heap.size, 1, none⟩ = some (.slice none 0 0)) ∧ u.frozen? ⟨w.heap.size, 0, none⟩ = false ∧ u.frozen? ⟨w.heap.size, 1, none⟩ = false from ⟨⟨cellT e HR0.out.1.1 (by omega), cellT e HR0.out.1.2 (by omega)⟩, frozenT e HR0.out.2.1 hlr (by omega), frozenT e HR0.out.2.2 hlr (by omega)⟩)
  clear r0 r1 rf0 rf1 hb0 hg hlr
  go_wp2_with fail
  refine (l02Draw_c g _ hc0).mono ?_
  rintro e w1 ⟨A1, c1, ps, B1, d1, ns, rfl, hop, hpo, hon, hno, hp1, hp2, hn2, ht1, hc1⟩
  have HOP1 := Lib.hid hop
  have HON1 := Lib.hid hon
  have HPO := Lib.hid hpo
  have HNO := Lib.hid hno
  have HT1 := Lib.hid ht1
  have HC1 := Lib.hid hc1
  have hs1 := ht1.le
  clear hop hon hpo hno ht1 hc1 hc0
  go_wp2_with fail
  refine (l15Any_c g _ (HC1.out.ext ((Ext.refl _).alloc _)) A1 ps.length c1 B1 ns.length d1 hn2).mono ?_
  rintro e w2 ⟨A2, c2, f, xs, rfl, hr2, hm2, hl2, hle2, ht2, hc2⟩
  have HX2 := Lib.hid (heapT ht2 (heap_alloc_new w1 (.cells #[.slice A1 ps.length c1, .slice B1 ns.length d1] 32)) (by omega))
  have HOP2 := Lib.hid (ownsT (owns_ext HOP1.out ((Ext.refl w1).alloc (.cells #[.slice A1 ps.length c1, .slice B1 ns.length d1] 32))) ht2 (by omega))
  have HON2 := Lib.hid (ownsT (owns_ext HON1.out ((Ext.refl w1).alloc (.cells #[.slice A1 ps.length c1, .slice B1 ns.length d1] 32))) ht2 (by omega))
  have HT2 := Lib.hid ((HT1.out.ext ((Ext.refl w1).alloc (.cells #[.slice A1 ps.length c1, .slice B1 ns.length d1] 32))).trans ht2)
  have HC2 := Lib.hid hc2
  have HN2 := Lib.hid (hr2.base (lo' := w1.heap.size) (by simp))
  have HM := Lib.hid hm2
  have HLE := Lib.hid hle2
  have hs2 := ht2.le
  simp at hs2
  clear hr2 hm2 hle2 ht2 hc2
  have x0 := cell_block (cs := [.slice A1 ps.length c1, .slice B1 ns.length d1]) HX2.out 0 _ rfl
  have x1 := cell_block (cs := [.slice A1 ps.length c1, .slice B1 ns.length d1]) HX2.out 1 _ rfl
  have hlx := lt_of_cell x0
  go_wp2_with fail
  refine (l02Some_c g _ HC2.out A1 ps.length c1 B1 ns.length d1 hn2).mono ?_
  rintro e w3 ⟨A3, c3, ds, rfl, ho3, hd3, hl3, ht3, hc3⟩
  have HD3 := Lib.hid ho3
  have HDO := Lib.hid hd3
  have HT3 := Lib.hid (HT2.out.trans ht3)
  have HC3 := Lib.hid hc3
  have HX3 := Lib.hid (heapT ht3 HX2.out (by omega))
  have HQ3 := Lib.hid ht3
  have hs3 := ht3.le
  clear ho3 hd3 ht3 hc3 x0 x1 hlx
  go_wp2_with fail
  refine (HB.out g 50 (H9.out _ (by omega) (by omega)) _ HC3.out).mono ?_
  rintro e w4 ⟨v4, rfl, ⟨hv4a, hv4b⟩, ht4, hc4⟩
  go_wp2_with fail
  refine (HB.out g 20 (H9.out _ (by omega) (by omega)) _ hc4).mono ?_
  rintro e w5 ⟨v5, rfl, ⟨hv5a, hv5b⟩, ht5, hc5⟩
  go_wp2_with fail
  refine (HB.out g 12 (H9.out _ (by omega) (by omega)) _ hc5).mono ?_
  rintro e w6 ⟨v6, rfl, ⟨hv6a, hv6b⟩, ht6, hc6⟩
  have HQ6 := Lib.hid ((ht4.trans ht5).trans ht6)
  have HC6 := Lib.hid hc6
  clear ht4 hc4 ht5 hc5 ht6 hc6
  have HFIN := Lib.hid (fun (u : World) (e : Turned g (g + 1) w3 u) (fr wall : Int) (hf : In64 fr) (hw : In64 wall) => show RetDrawNQ w (.returned (.tuple #[.agg #[.slice A1 ps.length c1, .slice B1 ns.length d1], .slice A2 xs.length c2, .slice A3 ds.length c3, .int .i64 fr, .int .i64 wall])) ((u.setCell ⟨w.heap.size, 0, none⟩ (.slice A1 ps.length c1)).setCell ⟨w.heap.size, 1, none⟩ (.slice B1 ns.length d1)) from by
    have e2 := HQ3.out.trans e
    have hd : w.heap.size + 1 ≤ w1.heap.size := by omega
    have s1 : ∀ {base : Nat} {ty : TypeId} {sz k : Nat} {v : Value} {L : List Value}, u.ownsRow base ty sz v k L → w.heap.size < base → ((u.setCell ⟨w.heap.size, 0, none⟩ (.slice A1 ps.length c1)).setCell ⟨w.heap.size, 1, none⟩ (.slice B1 ns.length d1)).ownsRow base ty sz v k L := fun h hb => owns_other (owns_other h (ne_at (block_low h hb)) _) (ne_at (block_low h hb)) _
    have hnr : NR ((u.setCell ⟨w.heap.size, 0, none⟩ (.slice A1 ps.length c1)).setCell ⟨w.heap.size, 1, none⟩ (.slice B1 ns.length d1)) w1.heap.size w2.heap.size A2 xs.length c2 xs.length f :=
      (((HN2.out.off e2 (by omega)).keep (NR.turned_put (p := 0) (u := .slice A1 ps.length c1) (Turned.refl w.heap.size (w.heap.size + 1) u) (Nat.le_refl _) (Nat.lt_succ_self _)) (.inr hd)).keep (NR.turned_put (p := 1) (u := .slice B1 ns.length d1) (Turned.refl w.heap.size (w.heap.size + 1) _) (Nat.le_refl _) (Nat.lt_succ_self _)) (.inr hd))
    exact ⟨A1, c1, ps, B1, d1, ns, A2, c2, xs, A3, c3, ds, fr, wall, rfl, rowD_sl (enc := encInt) (ok := In64) (fun _ => rfl) (s1 (ownsT HOP2.out e2 (by omega)) (by omega)) HPO.out, rowD_sl (enc := Node.enc) (ok := Node.ok) Node.size (s1 (ownsT HON2.out e2 (by omega)) (by omega)) HNO.out, hnr.sl rfl HM.out, rowD_sl (enc := encInt) (ok := In64) (fun _ => rfl) (s1 (ownsT HD3.out e (by omega)) (by omega)) HDO.out, hp2, hn2, hl2, HLE.out, hl3, hf, hw, Ext.setCell (Ext.setCell (ext_turned HE0.out (HT3.out.trans e) (by omega)) (Nat.le_refl _) _) (Nat.le_refl _) _⟩)
  by_cases hk0 : v6 = 0
  · subst hk0
    go_wp2_with fail
    refine (HRW.out g _ HC6.out).mono ?_
    rintro e w7 ⟨v7, rfl, hv7, ht7, hc7⟩
    have HQ7 := Lib.hid (HQ6.out.trans ht7)
    obtain ⟨⟨r0, r1⟩, rf0, rf1⟩ := HRT.out _ (HT3.out.trans HQ7.out)
    have x0 := cell_block (cs := [.slice A1 ps.length c1, .slice B1 ns.length d1]) (heapT HQ7.out HX3.out (by omega)) 0 _ rfl
    have x1 := cell_block (cs := [.slice A1 ps.length c1, .slice B1 ns.length d1]) (heapT HQ7.out HX3.out (by omega)) 1 _ rfl
    have hlx := lt_of_cell x0
    have hlr := lt_of_cell r0
    have n1 : ¬ w1.heap.size = w.heap.size := by omega
    have n2 : ¬ w.heap.size = w1.heap.size := by omega
    have HRR := Lib.hid (HFIN.out _ HQ7.out v7 (1 + v5) hv7 (in64_of (n := 1 + v5) (by omega) (by omega)))
    clear hv7 ht7 hc7
    go_wp2
    exact bodyPost_ret (v := .tuple #[.agg #[.slice A1 ps.length c1, .slice B1 ns.length d1], .slice A2 xs.length c2, .slice A3 ds.length c3, .int .i64 v7, .int .i64 (1 + v5)]) (by simp [results, Try.results23, go_sem, *]) rfl HRR.out
  by_cases hk1 : v6 = 1
  · subst hk1
    go_wp2_with fail
    refine (HRW.out g _ HC6.out).mono ?_
    rintro e w7 ⟨v7, rfl, hv7, ht7, hc7⟩
    have HQ7 := Lib.hid (HQ6.out.trans ht7)
    obtain ⟨⟨r0, r1⟩, rf0, rf1⟩ := HRT.out _ (HT3.out.trans HQ7.out)
    have x0 := cell_block (cs := [.slice A1 ps.length c1, .slice B1 ns.length d1]) (heapT HQ7.out HX3.out (by omega)) 0 _ rfl
    have x1 := cell_block (cs := [.slice A1 ps.length c1, .slice B1 ns.length d1]) (heapT HQ7.out HX3.out (by omega)) 1 _ rfl
    have hlx := lt_of_cell x0
    have hlr := lt_of_cell r0
    have n1 : ¬ w1.heap.size = w.heap.size := by omega
    have n2 : ¬ w.heap.size = w1.heap.size := by omega
    have HRR := Lib.hid (HFIN.out _ HQ7.out v4 v7 (in64_of (n := v4) (by omega) (by omega)) hv7)
    clear hv7 ht7 hc7
    go_wp2
    exact bodyPost_ret (v := .tuple #[.agg #[.slice A1 ps.length c1, .slice B1 ns.length d1], .slice A2 xs.length c2, .slice A3 ds.length c3, .int .i64 v4, .int .i64 v7]) (by simp [results, Try.results23, go_sem, *]) rfl HRR.out
  by_cases hk2 : v6 = 2
  · subst hk2
    go_wp2_with fail
    refine (HB.out g 20 (H9.out _ (by omega) (by omega)) _ HC6.out).mono ?_
    rintro e w7 ⟨v7, rfl, ⟨hv7a, hv7b⟩, ht7, hc7⟩
    have HQ7 := Lib.hid (HQ6.out.trans ht7)
    obtain ⟨⟨r0, r1⟩, rf0, rf1⟩ := HRT.out _ (HT3.out.trans HQ7.out)
    have x0 := cell_block (cs := [.slice A1 ps.length c1, .slice B1 ns.length d1]) (heapT HQ7.out HX3.out (by omega)) 0 _ rfl
    have x1 := cell_block (cs := [.slice A1 ps.length c1, .slice B1 ns.length d1]) (heapT HQ7.out HX3.out (by omega)) 1 _ rfl
    have hlx := lt_of_cell x0
    have hlr := lt_of_cell r0
    have n1 : ¬ w1.heap.size = w.heap.size := by omega
    have n2 : ¬ w.heap.size = w1.heap.size := by omega
    have HRR := Lib.hid (HFIN.out _ HQ7.out (1000000000 - v7) (1 + v5) (in64_of (n := 1000000000 - v7) (by omega) (by omega)) (in64_of (n := 1 + v5) (by omega) (by omega)))
    clear ht7 hc7
    go_wp2
    exact bodyPost_ret (v := .tuple #[.agg #[.slice A1 ps.length c1, .slice B1 ns.length d1], .slice A2 xs.length c2, .slice A3 ds.length c3, .int .i64 (1000000000 - v7), .int .i64 (1 + v5)]) (by simp [results, Try.results23, go_sem, *]) rfl HRR.out
  · obtain ⟨⟨r0, r1⟩, rf0, rf1⟩ := HRT.out _ (HT3.out.trans HQ6.out)
    have x0 := cell_block (cs := [.slice A1 ps.length c1, .slice B1 ns.length d1]) (heapT HQ6.out HX3.out (by omega)) 0 _ rfl
    have x1 := cell_block (cs := [.slice A1 ps.length c1, .slice B1 ns.length d1]) (heapT HQ6.out HX3.out (by omega)) 1 _ rfl
    have hlx := lt_of_cell x0
    have hlr := lt_of_cell r0
    have n1 : ¬ w1.heap.size = w.heap.size := by omega
    have n2 : ¬ w.heap.size = w1.heap.size := by omega
    have HRR := Lib.hid (HFIN.out _ HQ6.out v4 (1 + v5) (in64_of (n := v4) (by omega) (by omega)) (in64_of (n := 1 + v5) (by omega) (by omega)))
    go_wp2
    exact bodyPost_ret (v := .tuple #[.agg #[.slice A1 ps.length c1, .slice B1 ns.length d1], .slice A2 xs.length c2, .slice A3 ds.length c3, .int .i64 v4, .int .i64 (1 + v5)]) (by simp [results, Try.results23, go_sem, *]) rfl HRR.out
end Go.Proofs.Ytafccgnaifhnkaa
