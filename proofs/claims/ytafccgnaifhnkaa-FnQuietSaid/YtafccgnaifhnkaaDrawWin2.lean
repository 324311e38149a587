/- Contracts of the draws: windows. -/
import Derived.Test.YtafccgnaifhnkaaDrawWin
import Derived.Test.YtafccgnaifhnkaaNApp
namespace Go.Proofs.Ytafccgnaifhnkaa
open Go.RowKit
set_option linter.unusedVariables false
def RetWinsD (w : World) (g : Nat) : Ending → World → Prop := fun e w' => ∃ (A : Option Addr) (c : Nat) (f : Nat → NItem) (xs : List Window), e = .returned (.slice A xs.length c) ∧ NR w' w.heap.size w'.heap.size A xs.length c xs.length f ∧ NMatch xs f ∧ xs.length ≤ 3 ∧ (∀ x ∈ xs, x.Nodes.length ≤ 11 ∧ 0 ≤ x.From ∧ x.From ≤ 1000) ∧ Turned g (g + 1) w w' ∧ Cur w' g
theorem draw_frozen' {w : World} {b : Nat} {cs : List Value} {e : TypeId} (h : w.heap[b]? = some (Obj.cells cs.toArray e)) (j : Nat) : w.frozen? ⟨b, j, none⟩ = false := by simp [World.frozen?, h]
theorem AppR.types {w w' : World} {base n : Nat} {e : TypeId} {size : Nat} {v : Value} {A' : Option Addr} {n' c' : Nat} {L L' : List Value} (h : AppR w w' base e size v A' n' c' L') (hv : w.ownsRow base e size v n L) : ∀ (b : Nat) (cs' : Array Value) (e' : TypeId), e' ≠ e → w.heap[b]? = some (Obj.cells cs' e') → w'.heap[b]? = some (Obj.cells cs' e') := fun b cs' e' hne hb => by
  rw [h.kept b (heap_lt hb) (block_ne hv ⟨cs', hb⟩ (Ne.symm hne))]; exact hb
theorem NR.off {w w' : World} {lo hi : Nat} {A : Option Addr} {n c k : Nat} {f : Nat → NItem} (h : NR w lo hi A n c k f) {g : Nat} (ht : Turned g (g + 1) w w') (hg : g < lo) : NR w' lo hi A n c k f := h.keep ht (.inr hg)
set_option maxHeartbeats 8000000 in
set_option maxRecDepth 10000 in
theorem l15Draw_c (g : Nat) (w : World) (hc : Cur w g) (A : Option Addr) (n c : Nat) (B : Option Addr) (m d : Nat) (hm : m ≤ 10) : Calls Try.prog 85 #[.pointer (some ⟨g, 0, none⟩), .agg #[.slice A n c, .slice B m d]] w (RetWinsD w g) := by
  obtain ⟨i0, hi, hI0, hI1, hI2⟩ := info_parts TInt.info
  obtain ⟨i1, hi1, hJ0, hJ1, hJ2⟩ := info_parts NWindow.info
  have hgw := hc.lt
  have HB := Lib.hid (fun (n : Int) (hn : In64 n) (u : World) (hu : Cur u g) => l01Below_c g n u hu hn)
  have H9 : Hid (∀ n : Int, -1000000 ≤ n → n ≤ 1000000 → In64 n) := Lib.hid (fun n h1 h2 => by unfold In64; omega)
  have HC0 := Lib.hid (hc.ext (((Ext.refl w).alloc (.cells #[.slice A n c, .slice B m d] 32)).alloc (.cells #[] 65)))
  have HT0 := Lib.hid ((((Ext.refl w).alloc (.cells #[.slice A n c, .slice B m d] 32)).alloc (.cells #[] 65)).turned g (g + 1))
  have HX0 := Lib.hid (heapE ((Ext.refl _).alloc (.cells #[] 65)) (heap_alloc_new w (.cells #[.slice A n c, .slice B m d] 32)))
  have HO0 := Lib.hid (show ((w.alloc (.cells #[.slice A n c, .slice B m d] 32)).alloc (.cells #[] 65)).ownsRow w.heap.size 65 3 (.slice (some ⟨w.heap.size + 1, 0, none⟩) 0 0) 0 [] from by simpa using owns_base (owns_empty (w.alloc (.cells #[.slice A n c, .slice B m d] 32)) 65 3) (show w.heap.size ≤ _ by simp))
  clear hc
  go_enter Try.func85, Try.ntmps85
  go_wp2_with fail
  refine (HB.out 4 (H9.out _ (by omega) (by omega)) _ HC0.out).mono ?_
  rintro e w1 ⟨v1, rfl, ⟨hv1a, hv1b⟩, ht1, hc1⟩
  have HT1 := Lib.hid (HT0.out.trans ht1)
  have HC1 := Lib.hid hc1
  have HX1 := Lib.hid (heapT ht1 HX0.out (by omega))
  have HO1 := Lib.hid (ownsT HO0.out ht1 (by omega))
  clear ht1 hc1
  go_wp2
  go_loopw [5, 6, 7] (fun l fv nv wr => ∃ (v fr : Int) (A1 : Option Addr) (p c1 : Nat) (f : Nat → NItem) (xs : List Window), 0 ≤ v ∧ v ≤ 3 ∧ 0 ≤ fr ∧ fr ≤ 100 - 20 * v ∧ nv = .int .i64 v ∧ fv = .int .i64 fr ∧ l = .slice A1 p c1 ∧ p + v ≤ 3 ∧ Hid (xs.length = p) ∧ Hid (NR wr w.heap.size wr.heap.size A1 p c1 p f) ∧ Hid (NMatch xs f) ∧ Hid (∀ x ∈ xs, x.Nodes.length ≤ 11 ∧ 0 ≤ x.From ∧ x.From ≤ 1000) ∧ Hid (Turned g (g + 1) w wr) ∧ Hid (Cur wr g) ∧ Hid (wr.heap[w.heap.size]? = some (.cells #[.slice A n c, .slice B m d] 32))) (fun _ _ nv _ => (intOf nv).toNat)
  case atStart => exact ⟨v1, 0, _, 0, _, fun _ => ⟨undef, undef, none, 0, 0, []⟩, [], hv1a, by omega, by omega, by omega, rfl, rfl, rfl, by omega, Lib.hid rfl, Lib.hid ⟨Nat.le_refl _, ⟨_, HO1.out, fun j hj => by omega⟩, fun j hj => by omega, fun i j hi => by omega, fun q e => (HO1.out.lt q e).2, fun j hj => by omega⟩, Lib.hid (fun j x hx => by simp at hx), Lib.hid (fun y hy => by cases hy), HT1, HC1, HX1⟩
  case round =>
    obtain ⟨v, fr, A1, p, c1, f, xs, hv0, hv3, hf0, hf1, rfl, rfl, rfl, hpv, HL, HNR, HM, HLE, HT0', HC0', HX0'⟩ := hrel
    have hs0 := HT0'.out.le
    by_cases hv : 0 < v
    · go_wp2_with fail
      refine (HB.out 20 (H9.out _ (by omega) (by omega)) _ HC0'.out).mono ?_
      rintro e w2 ⟨v2, rfl, ⟨hv2a, hv2b⟩, ht2, hc2⟩
      have HT2 := Lib.hid (HT0'.out.trans ht2)
      have HC2 := Lib.hid hc2
      have HX2 := Lib.hid (heapT ht2 HX0'.out (by omega))
      have HN2 := Lib.hid (HNR.out.off ht2 hgw)
      have hs2 := ht2.le
      clear ht2 hc2
      go_wp2_with fail
      refine (HB.out 15 (H9.out _ (by omega) (by omega)) _ HC2.out).mono ?_
      rintro e w3 ⟨v3, rfl, ⟨hv3a, hv3b⟩, ht3, hc3⟩
      have HT3 := Lib.hid (HT2.out.trans ht3)
      have HC3 := Lib.hid hc3
      have HX3 := Lib.hid (heapT ht3 HX2.out (by omega))
      have HN3 := Lib.hid ((HN2.out.off ht3 hgw).cut (Nat.le_trans hs2 ht3.le) (Nat.le_refl _))
      have hs3 := HT3.out.le
      have hlx3 : w.heap.size < w3.heap.size := heap_lt HX3.out
      have x3 := cell_block (cs := [.slice A n c, .slice B m d]) HX3.out 1 _ rfl
      clear ht3 hc3
      go_wp2
      clear x3
      go_loopw [31] (fun jv wj => ∃ (j : Nat) (A7 : Option Addr) (q c7 : Nat) (nx : List Int), j ≤ m ∧ jv = .int .i64 j ∧ q ≤ j ∧ Hid (nx.length = q) ∧ Hid (wj.ownsRow (w3.heap.size + 1) 3 1 (.slice A7 q c7) q (nx.flatMap encInt)) ∧ Hid (∀ y ∈ nx, In64 y) ∧ Hid (NR wj w.heap.size w3.heap.size A1 p c1 p f) ∧ Hid (Turned g (g + 1) w wj) ∧ Hid (Cur wj g) ∧ Hid (wj.heap[w.heap.size]? = some (.cells #[.slice A n c, .slice B m d] 32)) ∧ Hid (wj.heap[w3.heap.size]? = some (.cells #[.int .i64 (fr + v2), .int .i64 (fr + v2 + 1 + v3), .slice A7 q c7] 65))) (fun jv _ => m - (intOf jv).toNat)
      case atStart => exact ⟨0, none, 0, 0, [], by omega, rfl, Nat.le_refl _, Lib.hid rfl, Lib.hid (World.ownsRow_nil _ _ _ _), Lib.hid (fun y hy => by cases hy), Lib.hid (HN3.out.ext ((Ext.refl _).alloc _)), Lib.hid (HT3.out.ext ((Ext.refl _).alloc _)), Lib.hid (HC3.out.ext ((Ext.refl _).alloc _)), Lib.hid (heapE ((Ext.refl _).alloc _) HX3.out), Lib.hid (heap_alloc_new w3 _)⟩
      case round =>
        obtain ⟨j, A7, q, c7, nx, hj, rfl, hqj, HQ, HR, HRO, HN, HT, HC, HX, HW⟩ := hrel
        have hsw := heap_lt HW.out
        by_cases hjm : j < m
        · go_wp2_with fail
          refine (HB.out 2 (H9.out _ (by omega) (by omega)) _ HC.out).mono ?_
          rintro e w4 ⟨v4, rfl, ⟨hv4a, hv4b⟩, ht4, hc4⟩
          have HT4 := Lib.hid (HT.out.trans ht4)
          have HC4 := Lib.hid hc4
          have HX4 := Lib.hid (heapT ht4 HX.out (by omega))
          have HW4 := Lib.hid (heapT ht4 HW.out (by omega))
          have HR4 := Lib.hid (ownsT HR.out ht4 (by omega))
          have HN4 := Lib.hid (HN.out.off ht4 hgw)
          have hs4 := heap_lt HW4.out
          clear ht4 hc4
          by_cases h0 : v4 = 0
          · subst h0
            have y2 := cell_block (cs := [.int .i64 (fr + v2), .int .i64 (fr + v2 + 1 + v3), .slice A7 q c7]) HW4.out 2 _ rfl
            go_wp2_with (at_builtin; go_must (refine wpList_append_one_t (.tmp 38) (.tmp 40) _ (w3.heap.size + 1) 3 i0 _ 1 8 _ q _ (encInt (j : Int)) rfl rfl Try.underlying22 hi hI0 hI1 hI2 rfl (by omega) rfl (HR4.out) _ rfl (by first | rfl | simp) rfl (TInt.one _) (by unfold maxLen; omega) (by omega) hs4 ?_); intro A8 c8 w8 ho8 ht8 hs8 hk8; have HW8 := Lib.hid (hk8 _ _ _ (by decide) HW4.out); have z2 := cell_block (cs := [.int .i64 (fr + v2), .int .i64 (fr + v2 + 1 + v3), .slice A7 q c7]) HW8.out 2 _ rfl; have zf2 := draw_frozen' (cs := [.int .i64 (fr + v2), .int .i64 (fr + v2 + 1 + v3), .slice A7 q c7]) HW8.out 2; have hlw := lt_of_cell z2)
            have HR8 := Lib.hid (owns_other (p := ⟨w3.heap.size, 2, none⟩) ho8 (fun x hx => by have := (ho8.lt x hx).1; simp only []; omega) (.slice A8 (q + 1) c8))
            have HN8 := Lib.hid ((HN4.out.keep ht8 (.inl (Nat.le_succ _))).keep (NR.turned_put (p := 2) (u := .slice A8 (q + 1) c8) (Turned.refl w3.heap.size (w3.heap.size + 1) w8) (Nat.le_refl _) (Nat.lt_succ_self _)) (.inl (Nat.le_refl _)))
            have HT8 := Lib.hid (turned_own (j := 2) (u := .slice A8 (q + 1) c8) (turned_low HT4.out ht8 (show w.heap.size ≤ w3.heap.size + 1 by omega)) (show w.heap.size ≤ w3.heap.size by omega))
            have HC8 := Lib.hid ((HC4.out.keep ht8 (show g < w3.heap.size + 1 by omega)).put (j := 2) (u := .slice A8 (q + 1) c8) (show g < w3.heap.size by omega))
            have HX8 := Lib.hid ((Below.heap_setCell w8 ⟨w3.heap.size, 2, none⟩ (.slice A8 (q + 1) c8) w.heap.size (by simp only []; omega)).trans (hk8 _ _ _ (by decide) HX4.out))
            have HW9 := Lib.hid (show (w8.setCell ⟨w3.heap.size, 2, none⟩ (.slice A8 (q + 1) c8)).heap[w3.heap.size]? = some (.cells #[.int .i64 (fr + v2), .int .i64 (fr + v2 + 1 + v3), .slice A8 (q + 1) c8] 65) from heap_setCell_same w8 w3.heap.size 2 _ _ _ HW8.out)
            have HRO8 := Lib.hid (all_snoc (ok := In64) HRO.out (in64_of (n := (j : Int)) (by omega) (by omega)))
            clear ho8 ht8 hk8
            go_roundw
            case rel => exact ⟨j + 1, A8, q + 1, c8, nx ++ [(j : Int)], by omega, by go_num, by omega, Lib.hid (by rw [List.length_append, HQ.out]; rfl), Lib.hid (by rw [List.flatMap_append]; simpa using HR8.out), HRO8, HN8, HT8, HC8, HX8, HW9⟩
            case measure => simp [intOf]; omega
          · go_wp2
            go_roundw
            case rel => exact ⟨j + 1, A7, q, c7, nx, by omega, by go_num, by omega, HQ, HR4, HRO, HN4, HT4, HC4, HX4, HW4⟩
            case measure => simp [intOf]; omega
        · have y0 := cell_block (cs := [.int .i64 (fr + v2), .int .i64 (fr + v2 + 1 + v3), .slice A7 q c7]) HW.out 0 _ rfl
          have y1 := cell_block (cs := [.int .i64 (fr + v2), .int .i64 (fr + v2 + 1 + v3), .slice A7 q c7]) HW.out 1 _ rfl
          have y2 := cell_block (cs := [.int .i64 (fr + v2), .int .i64 (fr + v2 + 1 + v3), .slice A7 q c7]) HW.out 2 _ rfl
          by_cases hq : 0 < q
          · obtain ⟨L, hL, hrow⟩ := HN.out.row
            have HLL := Lib.hid hL
            have HROW := Lib.hid hrow
            clear hL hrow
            go_wp2_with (at_builtin; go_must (refine wpList_append_r (enc := nenc) (ok := fun _ => True) (.tmp 48) (.tmp 50) _ w.heap.size 65 i1 _ 3 40 (.slice A1 p c1) p L (some ⟨wr.heap.size, 0, none⟩) 1 1 [⟨fr + v2, fr + v2 + 1 + v3, A7, q, c7⟩] rfl rfl Try.underlying34 hi1 hJ0 hJ1 hJ2 rfl (by omega) rfl (owns_ext HLL.out ((Ext.refl _).alloc _)) rfl (by exact sl_nbox wr ⟨fr + v2, fr + v2 + 1 + v3, A7, q, c7⟩ _) (fun _ => rfl) nenc_one (by unfold maxLen; omega) (by omega) (by simp; omega) ?_); intro A9 c9 w9 ha9)
            have HG := Lib.hid (NR.grow (w := wr.alloc (.cells #[.int .i64 (fr + v2), .int .i64 (fr + v2 + 1 + v3), .slice A7 q c7] 65)) ⟨.int .i64 (fr + v2), .int .i64 (fr + v2 + 1 + v3), A7, q, c7, nx.flatMap encInt⟩ HN.out ((Ext.refl _).alloc _) HLL.out HROW.out ha9.one.row (ha9.types (owns_ext HLL.out ((Ext.refl _).alloc _))) (owns_ext (owns_base HR.out (by omega)) ((Ext.refl _).alloc _)) (fun x hx => by have := (HR.out.lt x hx).1; omega))
            have htu := ha9.turned (lo := w.heap.size) (fun x hx => (HLL.out.lt x hx).1)
            have HT9 := Lib.hid (turned_low (HT.out.ext ((Ext.refl _).alloc _)) htu (Nat.le_refl _))
            have HC9 := Lib.hid ((HC.out.ext ((Ext.refl _).alloc _)).keep htu hgw)
            have HX9 := Lib.hid (ha9.types (owns_ext HLL.out ((Ext.refl _).alloc _)) _ _ _ (by decide) (heapE ((Ext.refl _).alloc _) HX.out))
            have HM9 := Lib.hid (HM.out.snoc HL.out ⟨fr + v2, fr + v2 + 1 + v3, nx⟩ ⟨.int .i64 (fr + v2), .int .i64 (fr + v2 + 1 + v3), A7, q, c7, nx.flatMap encInt⟩ rfl rfl HQ.out.symm rfl HRO.out (in64_of (n := fr + v2) (by omega) (by omega)) (in64_of (n := fr + v2 + 1 + v3) (by omega) (by omega)))
            have HLE9 := Lib.hid (show ∀ x ∈ xs ++ [(⟨fr + v2, fr + v2 + 1 + v3, nx⟩ : Window)], x.Nodes.length ≤ 11 ∧ 0 ≤ x.From ∧ x.From ≤ 1000 from fun x hx => by
              rcases List.mem_append.1 hx with hx | hx
              · exact HLE.out x hx
              · rw [List.mem_singleton.1 hx]; have := HQ.out; exact ⟨(by simp only []; omega), (by simp only []; omega), (by simp only []; omega)⟩)
            clear ha9 htu y0 y1 y2
            go_wp2
            go_roundw
            case rel => exact ⟨v - 1, fr + v2, A9, p + 1, c9, _, xs ++ [⟨fr + v2, fr + v2 + 1 + v3, nx⟩], by omega, by omega, by omega, by omega, by go_num, rfl, rfl, by omega, Lib.hid (by rw [List.length_append, HL.out]; rfl), HG, HM9, HLE9, HT9, HC9, HX9⟩
            case measure => simp [intOf]; omega
          · go_wp2
            go_roundw
            case rel => exact ⟨v - 1, fr + v2, A1, p, c1, f, xs, by omega, by omega, by omega, by omega, by go_num, rfl, rfl, by omega, HL, Lib.hid (HN.out.cut (by omega) (Nat.le_refl _)), HM, HLE, HT, HC, HX⟩
            case measure => simp [intOf]; omega
    · have HRR := Lib.hid (show RetWinsD w g (.returned (.slice A1 p c1)) wr from ⟨A1, c1, f, xs, by rw [HL.out], by rw [HL.out]; exact HNR.out, HM.out, by rw [HL.out]; omega, HLE.out, HT0'.out, HC0'.out⟩)
      go_wp2
      exact ret_post rfl HRR.out
end Go.Proofs.Ytafccgnaifhnkaa
