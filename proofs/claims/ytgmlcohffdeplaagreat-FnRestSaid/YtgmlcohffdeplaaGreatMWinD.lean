/- Merged by mergelean.py: DrawWin, DrawWin2, DrawWin3, DrawWin4. -/
import Derived.Test.YtgmlcohffdeplaaGreatMTopo
import Derived.Test.YtgmlcohffdeplaaGreatMWin
import Derived.Deep.RegionLaw
/-! DrawWin -/
namespace Go.Proofs.YtgmlcohffdeplaaGreat
open Go.RowKit
set_option linter.unusedVariables false
abbrev RetIntsD := RetRowD encInt In64 3 1
end Go.Proofs.YtgmlcohffdeplaaGreat
/-! DrawWin2 -/
namespace Go.Proofs.YtgmlcohffdeplaaGreat
open Go.RowKit
set_option linter.unusedVariables false
def RetWinsD (w : World) (g : Nat) : Ending → World → Prop := fun e w' => ∃ (A : Option Addr) (c : Nat) (f : Nat → NItem) (xs : List Window), e = .returned (.slice A xs.length c) ∧ NR w' w.heap.size w'.heap.size A xs.length c xs.length f ∧ NMatch xs f ∧ xs.length ≤ 3 ∧ (∀ x ∈ xs, x.Nodes.length ≤ 11 ∧ 0 ≤ x.From ∧ x.From ≤ 1000) ∧ Turned g (g + 1) w w' ∧ Cur w' g
theorem draw_frozen' {w : World} {b : Nat} {cs : List Value} {e : TypeId} (h : w.heap[b]? = some (Obj.cells cs.toArray e)) (j : Nat) : w.frozen? ⟨b, j, none⟩ = false := by simp [World.frozen?, h]
theorem AppR.types {w w' : World} {base n : Nat} {e : TypeId} {size : Nat} {v : Value} {A' : Option Addr} {n' c' : Nat} {L L' : List Value} (h : AppR w w' base e size v A' n' c' L') (hv : w.ownsRow base e size v n L) : ∀ (b : Nat) (cs' : Array Value) (e' : TypeId), e' ≠ e → w.heap[b]? = some (Obj.cells cs' e') → w'.heap[b]? = some (Obj.cells cs' e') := fun b cs' e' hne hb => by
  rw [h.kept b (heap_lt hb) (block_ne hv ⟨cs', hb⟩ (Ne.symm hne))]; exact hb
theorem NR.off {w w' : World} {lo hi : Nat} {A : Option Addr} {n c k : Nat} {f : Nat → NItem} (h : NR w lo hi A n c k f) {g : Nat} (ht : Turned g (g + 1) w w') (hg : g < lo) : NR w' lo hi A n c k f := h.keep ht (.inr hg)
set_option maxHeartbeats 8000000 in
set_option maxRecDepth 10000 in
theorem l15Draw_c (g : Nat) (w : World) (hc : Cur w g) (A : Option Addr) (n c : Nat) (B : Option Addr) (m d : Nat) (hm : m ≤ 10) : Calls Tryz.prog 92 #[.pointer (some ⟨g, 0, none⟩), .agg #[.slice A n c, .slice B m d]] w (RetWinsD w g) := by
  obtain ⟨i0, hi, hI0, hI1, hI2⟩ := info_parts TInt.info
  obtain ⟨i1, hi1, hJ0, hJ1, hJ2⟩ := info_parts NWindow.info
  have hgw := hc.lt
  have HB := Lib.hid (fun (n : Int) (hn : In64 n) (u : World) (hu : Cur u g) => l01Below_c g n u hu hn)
  have H9 : Hid (∀ n : Int, -1000000 ≤ n → n ≤ 1000000 → In64 n) := Lib.hid (fun n h1 h2 => by unfold In64; omega)
  have HC0 := Lib.hid (hc.ext (((Ext.refl w).alloc (.cells #[.slice A n c, .slice B m d] 38)).alloc (.cells #[] 73)))
  have HT0 := Lib.hid ((((Ext.refl w).alloc (.cells #[.slice A n c, .slice B m d] 38)).alloc (.cells #[] 73)).turned g (g + 1))
  have HX0 := Lib.hid (heapE ((Ext.refl _).alloc (.cells #[] 73)) (heap_alloc_new w (.cells #[.slice A n c, .slice B m d] 38)))
  have HO0 := Lib.hid (show ((w.alloc (.cells #[.slice A n c, .slice B m d] 38)).alloc (.cells #[] 73)).ownsRow w.heap.size 73 3 (.slice (some ⟨w.heap.size + 1, 0, none⟩) 0 0) 0 [] from by simpa using owns_base (owns_empty (w.alloc (.cells #[.slice A n c, .slice B m d] 38)) 73 3) (show w.heap.size ≤ _ by simp))
  clear hc
  go_enter Tryz.func92, Tryz.ntmps92
  go_wp2_with fail
  refine (HB.out 4 (H9.out _ (by omega) (by omega)) _ HC0.out).mono ?_
  rintro e w1 ⟨v1, rfl, ⟨hv1a, hv1b⟩, ht1, hc1⟩
  have HT1 := Lib.hid (HT0.out.trans ht1)
  have HC1 := Lib.hid hc1
  have HX1 := Lib.hid (heapT ht1 HX0.out (by omega))
  have HO1 := Lib.hid (ownsT HO0.out ht1 (by omega))
  clear ht1 hc1
  go_wp2
  go_loopw [5, 6, 7] (fun l fv nv wr => ∃ (v fr : Int) (A1 : Option Addr) (p c1 : Nat) (f : Nat → NItem) (xs : List Window), 0 ≤ v ∧ v ≤ 3 ∧ 0 ≤ fr ∧ fr ≤ 100 - 20 * v ∧ nv = .int .i64 v ∧ fv = .int .i64 fr ∧ l = .slice A1 p c1 ∧ p + v ≤ 3 ∧ Hid (xs.length = p) ∧ Hid (NR wr w.heap.size wr.heap.size A1 p c1 p f) ∧ Hid (NMatch xs f) ∧ Hid (∀ x ∈ xs, x.Nodes.length ≤ 11 ∧ 0 ≤ x.From ∧ x.From ≤ 1000) ∧ Hid (Turned g (g + 1) w wr) ∧ Hid (Cur wr g) ∧ Hid (wr.heap[w.heap.size]? = some (.cells #[.slice A n c, .slice B m d] 38))) (fun _ _ nv _ => (intOf nv).toNat)
  case atStart => exact ⟨v1, 0, _, 0, _, fun _ => ⟨undef, undef, none, 0, 0, []⟩, [], hv1a, by omega, by omega, by omega, rfl, rfl, rfl, by omega, Lib.hid rfl, Lib.hid ⟨Nat.le_refl _, ⟨_, HO1.out, fun j hj => by omega⟩, fun j hj => by omega, fun i j hi => by omega, fun q e => (HO1.out.lt q e).2, fun j hj => by omega⟩, Lib.hid (fun j x hx => by simp at hx), Lib.hid (fun y hy => by cases hy), HT1, HC1, HX1⟩
  case round =>
    obtain ⟨v, fr, A1, p, c1, f, xs, hv0, hv3, hf0, hf1, rfl, rfl, rfl, hpv, HL, HNR, HM, HLE, HT0', HC0', HX0'⟩ := hrel
    have hs0 := HT0'.out.le
    by_cases hv : 0 < v
    · go_wp2_with fail
      refine (HB.out 20 (H9.out _ (by omega) (by omega)) _ HC0'.out).mono ?_
      rintro e w2 ⟨v2, rfl, ⟨hv2a, hv2b⟩, ht2, hc2⟩
      have HT2 := Lib.hid (HT0'.out.trans ht2)
      have HC2 := Lib.hid hc2
      have HX2 := Lib.hid (heapT ht2 HX0'.out (by omega))
      have HN2 := Lib.hid (HNR.out.off ht2 hgw)
      have hs2 := ht2.le
      clear ht2 hc2
      go_wp2_with fail
      refine (HB.out 15 (H9.out _ (by omega) (by omega)) _ HC2.out).mono ?_
      rintro e w3 ⟨v3, rfl, ⟨hv3a, hv3b⟩, ht3, hc3⟩
      have HT3 := Lib.hid (HT2.out.trans ht3)
      have HC3 := Lib.hid hc3
      have HX3 := Lib.hid (heapT ht3 HX2.out (by omega))
      have HN3 := Lib.hid ((HN2.out.off ht3 hgw).cut (Nat.le_trans hs2 ht3.le) (Nat.le_refl _))
      have hs3 := HT3.out.le
      have hlx3 : w.heap.size < w3.heap.size := heap_lt HX3.out
      have x3 := cell_block (cs := [.slice A n c, .slice B m d]) HX3.out 1 _ rfl
      clear ht3 hc3
      go_wp2
      clear x3
      go_loopw [31] (fun jv wj => ∃ (j : Nat) (A7 : Option Addr) (q c7 : Nat) (nx : List Int), j ≤ m ∧ jv = .int .i64 j ∧ q ≤ j ∧ Hid (nx.length = q) ∧ Hid (wj.ownsRow (w3.heap.size + 1) 3 1 (.slice A7 q c7) q (nx.flatMap encInt)) ∧ Hid (∀ y ∈ nx, In64 y) ∧ Hid (NR wj w.heap.size w3.heap.size A1 p c1 p f) ∧ Hid (Turned g (g + 1) w wj) ∧ Hid (Cur wj g) ∧ Hid (wj.heap[w.heap.size]? = some (.cells #[.slice A n c, .slice B m d] 38)) ∧ Hid (wj.heap[w3.heap.size]? = some (.cells #[.int .i64 (fr + v2), .int .i64 (fr + v2 + 1 + v3), .slice A7 q c7] 73))) (fun jv _ => m - (intOf jv).toNat)
      case atStart => exact ⟨0, none, 0, 0, [], by omega, rfl, Nat.le_refl _, Lib.hid rfl, Lib.hid (World.ownsRow_nil _ _ _ _), Lib.hid (fun y hy => by cases hy), Lib.hid (HN3.out.ext ((Ext.refl _).alloc _)), Lib.hid (HT3.out.ext ((Ext.refl _).alloc _)), Lib.hid (HC3.out.ext ((Ext.refl _).alloc _)), Lib.hid (heapE ((Ext.refl _).alloc _) HX3.out), Lib.hid (heap_alloc_new w3 _)⟩
      case round =>
        obtain ⟨j, A7, q, c7, nx, hj, rfl, hqj, HQ, HR, HRO, HN, HT, HC, HX, HW⟩ := hrel
        have hsw := heap_lt HW.out
        by_cases hjm : j < m
        · go_wp2_with fail
          refine (HB.out 2 (H9.out _ (by omega) (by omega)) _ HC.out).mono ?_
          rintro e w4 ⟨v4, rfl, ⟨hv4a, hv4b⟩, ht4, hc4⟩
          have HT4 := Lib.hid (HT.out.trans ht4)
          have HC4 := Lib.hid hc4
          have HX4 := Lib.hid (heapT ht4 HX.out (by omega))
          have HW4 := Lib.hid (heapT ht4 HW.out (by omega))
          have HR4 := Lib.hid (ownsT HR.out ht4 (by omega))
          have HN4 := Lib.hid (HN.out.off ht4 hgw)
          have hs4 := heap_lt HW4.out
          clear ht4 hc4
          by_cases h0 : v4 = 0
          · subst h0
            have y2 := cell_block (cs := [.int .i64 (fr + v2), .int .i64 (fr + v2 + 1 + v3), .slice A7 q c7]) HW4.out 2 _ rfl
            go_wp2_with (at_builtin; go_must (refine wpList_append_one_t (.tmp 38) (.tmp 40) _ (w3.heap.size + 1) 3 i0 _ 1 8 _ q _ (encInt (j : Int)) rfl rfl Tryz.underlying22 hi hI0 hI1 hI2 rfl (by omega) rfl (HR4.out) _ rfl (by first | rfl | simp) rfl (TInt.one _) (by unfold maxLen; omega) (by omega) hs4 ?_); intro A8 c8 w8 ho8 ht8 hs8 hk8; have HW8 := Lib.hid (hk8 _ _ _ (by decide) HW4.out); have z2 := cell_block (cs := [.int .i64 (fr + v2), .int .i64 (fr + v2 + 1 + v3), .slice A7 q c7]) HW8.out 2 _ rfl; have zf2 := draw_frozen' (cs := [.int .i64 (fr + v2), .int .i64 (fr + v2 + 1 + v3), .slice A7 q c7]) HW8.out 2; have hlw := lt_of_cell z2)
            have HR8 := Lib.hid (owns_other (p := ⟨w3.heap.size, 2, none⟩) ho8 (fun x hx => by have := (ho8.lt x hx).1; simp only []; omega) (.slice A8 (q + 1) c8))
            have HN8 := Lib.hid ((HN4.out.keep ht8 (.inl (Nat.le_succ _))).keep (NR.turned_put (p := 2) (u := .slice A8 (q + 1) c8) (Turned.refl w3.heap.size (w3.heap.size + 1) w8) (Nat.le_refl _) (Nat.lt_succ_self _)) (.inl (Nat.le_refl _)))
            have HT8 := Lib.hid (turned_own (j := 2) (u := .slice A8 (q + 1) c8) (turned_low HT4.out ht8 (show w.heap.size ≤ w3.heap.size + 1 by omega)) (show w.heap.size ≤ w3.heap.size by omega))
            have HC8 := Lib.hid ((HC4.out.keep ht8 (show g < w3.heap.size + 1 by omega)).put (j := 2) (u := .slice A8 (q + 1) c8) (show g < w3.heap.size by omega))
            have HX8 := Lib.hid ((Below.heap_setCell w8 ⟨w3.heap.size, 2, none⟩ (.slice A8 (q + 1) c8) w.heap.size (by simp only []; omega)).trans (hk8 _ _ _ (by decide) HX4.out))
            have HW9 := Lib.hid (show (w8.setCell ⟨w3.heap.size, 2, none⟩ (.slice A8 (q + 1) c8)).heap[w3.heap.size]? = some (.cells #[.int .i64 (fr + v2), .int .i64 (fr + v2 + 1 + v3), .slice A8 (q + 1) c8] 73) from heap_setCell_same w8 w3.heap.size 2 _ _ _ HW8.out)
            have HRO8 := Lib.hid (all_snoc (ok := In64) HRO.out (in64_of (n := (j : Int)) (by omega) (by omega)))
            clear ho8 ht8 hk8
            go_roundw
            case rel => exact ⟨j + 1, A8, q + 1, c8, nx ++ [(j : Int)], by omega, by go_num, by omega, Lib.hid (by rw [List.length_append, HQ.out]; rfl), Lib.hid (by rw [List.flatMap_append]; simpa using HR8.out), HRO8, HN8, HT8, HC8, HX8, HW9⟩
            case measure => simp [intOf]; omega
          · go_wp2
            go_roundw
            case rel => exact ⟨j + 1, A7, q, c7, nx, by omega, by go_num, by omega, HQ, HR4, HRO, HN4, HT4, HC4, HX4, HW4⟩
            case measure => simp [intOf]; omega
        · have y0 := cell_block (cs := [.int .i64 (fr + v2), .int .i64 (fr + v2 + 1 + v3), .slice A7 q c7]) HW.out 0 _ rfl
          have y1 := cell_block (cs := [.int .i64 (fr + v2), .int .i64 (fr + v2 + 1 + v3), .slice A7 q c7]) HW.out 1 _ rfl
          have y2 := cell_block (cs := [.int .i64 (fr + v2), .int .i64 (fr + v2 + 1 + v3), .slice A7 q c7]) HW.out 2 _ rfl
          by_cases hq : 0 < q
          · obtain ⟨L, hL, hrow⟩ := HN.out.row
            have HLL := Lib.hid hL
            have HROW := Lib.hid hrow
            clear hL hrow
            go_wp2_with (at_builtin; go_must (refine wpList_append_r (enc := nenc) (ok := fun _ => True) (.tmp 48) (.tmp 50) _ w.heap.size 73 i1 _ 3 40 (.slice A1 p c1) p L (some ⟨wr.heap.size, 0, none⟩) 1 1 [⟨fr + v2, fr + v2 + 1 + v3, A7, q, c7⟩] rfl rfl Tryz.underlying48 hi1 hJ0 hJ1 hJ2 rfl (by omega) rfl (owns_ext HLL.out ((Ext.refl _).alloc _)) rfl (by exact sl_nbox wr ⟨fr + v2, fr + v2 + 1 + v3, A7, q, c7⟩ _) (fun _ => rfl) nenc_one (by unfold maxLen; omega) (by omega) (by simp; omega) ?_); intro A9 c9 w9 ha9)
            have HG := Lib.hid (NR.grow (w := wr.alloc (.cells #[.int .i64 (fr + v2), .int .i64 (fr + v2 + 1 + v3), .slice A7 q c7] 73)) ⟨.int .i64 (fr + v2), .int .i64 (fr + v2 + 1 + v3), A7, q, c7, nx.flatMap encInt⟩ HN.out ((Ext.refl _).alloc _) HLL.out HROW.out ha9.one.row (ha9.types (owns_ext HLL.out ((Ext.refl _).alloc _))) (owns_ext (owns_base HR.out (by omega)) ((Ext.refl _).alloc _)) (fun x hx => by have := (HR.out.lt x hx).1; omega))
            have htu := ha9.turned (lo := w.heap.size) (fun x hx => (HLL.out.lt x hx).1)
            have HT9 := Lib.hid (turned_low (HT.out.ext ((Ext.refl _).alloc _)) htu (Nat.le_refl _))
            have HC9 := Lib.hid ((HC.out.ext ((Ext.refl _).alloc _)).keep htu hgw)
            have HX9 := Lib.hid (ha9.types (owns_ext HLL.out ((Ext.refl _).alloc _)) _ _ _ (by decide) (heapE ((Ext.refl _).alloc _) HX.out))
            have HM9 := Lib.hid (HM.out.snoc HL.out ⟨fr + v2, fr + v2 + 1 + v3, nx⟩ ⟨.int .i64 (fr + v2), .int .i64 (fr + v2 + 1 + v3), A7, q, c7, nx.flatMap encInt⟩ rfl rfl HQ.out.symm rfl HRO.out (in64_of (n := fr + v2) (by omega) (by omega)) (in64_of (n := fr + v2 + 1 + v3) (by omega) (by omega)))
            have HLE9 := Lib.hid (show ∀ x ∈ xs ++ [(⟨fr + v2, fr + v2 + 1 + v3, nx⟩ : Window)], x.Nodes.length ≤ 11 ∧ 0 ≤ x.From ∧ x.From ≤ 1000 from fun x hx => by
              rcases List.mem_append.1 hx with hx | hx
              · exact HLE.out x hx
              · rw [List.mem_singleton.1 hx]; have := HQ.out; exact ⟨(by simp only []; omega), (by simp only []; omega), (by simp only []; omega)⟩)
            clear ha9 htu y0 y1 y2
            go_wp2
            go_roundw
            case rel => exact ⟨v - 1, fr + v2, A9, p + 1, c9, _, xs ++ [⟨fr + v2, fr + v2 + 1 + v3, nx⟩], by omega, by omega, by omega, by omega, by go_num, rfl, rfl, by omega, Lib.hid (by rw [List.length_append, HL.out]; rfl), HG, HM9, HLE9, HT9, HC9, HX9⟩
            case measure => simp [intOf]; omega
          · go_wp2
            go_roundw
            case rel => exact ⟨v - 1, fr + v2, A1, p, c1, f, xs, by omega, by omega, by omega, by omega, by go_num, rfl, rfl, by omega, HL, Lib.hid (HN.out.cut (by omega) (Nat.le_refl _)), HM, HLE, HT, HC, HX⟩
            case measure => simp [intOf]; omega
    · have HRR := Lib.hid (show RetWinsD w g (.returned (.slice A1 p c1)) wr from ⟨A1, c1, f, xs, by rw [HL.out], by rw [HL.out]; exact HNR.out, HM.out, by rw [HL.out]; omega, HLE.out, HT0'.out, HC0'.out⟩)
      go_wp2
      exact ret_post rfl HRR.out
end Go.Proofs.YtgmlcohffdeplaaGreat
/-! DrawWin3 -/
namespace Go.Proofs.YtgmlcohffdeplaaGreat
open Go.RowKit
set_option linter.unusedVariables false
theorem chunk_set {L : List Value} {i t : Nat} {u : Value} (ht : t < 3) : ((L.set (i * 3 + t) u).drop (i * 3)).take 3 = ((L.drop (i * 3)).take 3).set t u := by
  apply List.ext_getElem?
  intro k
  by_cases hk : k < 3
  · rw [List.getElem?_take_of_lt hk, List.getElem?_drop, List.getElem?_set, List.getElem?_set]
    by_cases e : t = k
    · subst e
      rw [if_pos rfl, if_pos rfl]
      by_cases hl : i * 3 + t < L.length
      · rw [if_pos hl, if_pos (by rw [List.length_take, List.length_drop]; omega)]
      · rw [if_neg hl, if_neg (by rw [List.length_take, List.length_drop]; omega)]
    · rw [if_neg (by omega), if_neg e, List.getElem?_take_of_lt hk, List.getElem?_drop]
  · rw [List.getElem?_eq_none (by rw [List.length_take]; omega), List.getElem?_eq_none (by rw [List.length_set, List.length_take]; omega)]
theorem chunk_set_far {L : List Value} {i j t : Nat} {u : Value} (ht : t < 3) (h : j ≠ i) : ((L.set (i * 3 + t) u).drop (j * 3)).take 3 = (L.drop (j * 3)).take 3 := by
  apply List.ext_getElem?
  intro k
  by_cases hk : k < 3
  · rw [List.getElem?_take_of_lt hk, List.getElem?_drop, List.getElem?_set, if_neg (by omega), List.getElem?_take_of_lt hk, List.getElem?_drop]
  · rw [List.getElem?_eq_none (by rw [List.length_take]; omega), List.getElem?_eq_none (by rw [List.length_take]; omega)]
theorem NR.put {w w' : World} {lo hi g n c k i : Nat} {f : Nat → NItem} {L : List Value} (h : NR w lo hi (some ⟨g, 0, none⟩) n c k f) (hi' : i < k) (hk : k ≤ n)
    (hL : w'.ownsRow lo 73 3 (.slice (some ⟨g, 0, none⟩) n c) n L) (hc : ∀ j, j < k → (L.drop (j * 3)).take 3 = [(f j).a, (f j).b, (f j).v])
    (ho : ∀ j, j < k → j ≠ i → w'.ownsRow lo 3 1 (f j).v (f j).m (f j).vs) (t : Nat) (ht : t < 3) (u : Value) (it : NItem) (hit : [it.a, it.b, it.v] = [(f i).a, (f i).b, (f i).v].set t u)
    (hown : w'.ownsRow lo 3 1 it.v it.m it.vs) (hfar : ∀ j, j < k → j ≠ i → apart (f j).v.ownBlock it.v.ownBlock) :
    NR (w'.setCell ⟨g, i * 3 + t, none⟩ u) lo w'.heap.size (some ⟨g, 0, none⟩) n c k (fun j => if j = i then it else f j) := by
  have hne : ∀ {v : Value} {m : Nat} {M : List Value}, w'.ownsRow lo 3 1 v m M → v.ownBlock ≠ some g := fun hv e => owns_type hL hv (by decide) g rfl e
  have hO : ∀ j, j < k → (w'.setCell ⟨g, i * 3 + t, none⟩ u).ownsRow lo 3 1 (if j = i then it else f j).v (if j = i then it else f j).m (if j = i then it else f j).vs := fun j hj => by
    by_cases e : j = i
    · rw [if_pos e]; exact owns_stored_far hown (hne hown)
    · rw [if_neg e]; exact owns_stored_far (ho j hj e) (hne (ho j hj e))
  have s1 := (hL.stored (i * 3 + t) u).1
  refine ⟨by simp [World.setCell], ⟨_, s1, fun j hj => ?_⟩, hO, fun a b ha hb hab => ?_, fun q e => (hL.lt q e).2, fun j hj q e => by have := (hO j hj).lt q e; simpa using this.2⟩
  · by_cases e : j = i
    · subst e; rw [chunk_set ht, hc j hj, if_pos rfl, hit]
    · rw [chunk_set_far ht e, hc j hj, if_neg e]
  · by_cases e1 : a = i
    · have e2 : ¬ b = i := by omega
      simp only [if_pos e1, if_neg e2]
      exact (hfar b hb e2).symm
    · by_cases e2 : b = i
      · simp only [if_neg e1, if_pos e2]; exact hfar a ha e1
      · simp only [if_neg e1, if_neg e2]; exact h.far a b ha hb hab
theorem NR.base {w : World} {lo lo' hi : Nat} {A : Option Addr} {n c k : Nat} {f : Nat → NItem} (h : NR w lo hi A n c k f) (hb : lo' ≤ lo) : NR w lo' hi A n c k f := by
  obtain ⟨L, h1, h2⟩ := h.row
  exact ⟨h.top, ⟨L, owns_base h1 hb, h2⟩, fun j hj => owns_base (h.own j hj) hb, h.far, h.low, h.lows⟩
theorem apart_none (a : Option Nat) : apart a (Value.slice none 0 0).ownBlock := fun k _ h => by cases h
theorem NMatch.set {xs : List Window} {f : Nat → NItem} (h : NMatch xs f) (i : Nat) (x : Window) (t : NItem) (ha : t.a = .int .i64 x.From) (hb : t.b = .int .i64 x.To) (hm : t.m = x.Nodes.length) (hv : t.vs = x.Nodes.flatMap encInt) (h1 : ∀ y ∈ x.Nodes, In64 y) (h2 : In64 x.From) (h3 : In64 x.To) : NMatch (xs.set i x) (fun j => if j = i then t else f j) := by
  intro j y hy
  by_cases e : j = i
  · subst e
    have hj : j < xs.length := by have := (List.getElem?_eq_some_iff.1 hy).1; rwa [List.length_set] at this
    rw [List.getElem?_set_self hj] at hy
    injection hy with hy; subst hy
    simp only [if_true]
    exact ⟨ha, hb, hm, hv, h1, h2, h3⟩
  · rw [List.getElem?_set_ne (fun e' => e e'.symm)] at hy
    simp only [if_neg e]
    exact h j y hy
def RetWinsA (w : World) (g : Nat) : Ending → World → Prop := fun e w' => ∃ (A : Option Addr) (c : Nat) (f : Nat → NItem) (xs : List Window), e = .returned (.slice A xs.length c) ∧ NR w' w.heap.size w'.heap.size A xs.length c xs.length f ∧ NMatch xs f ∧ xs.length ≤ 3 ∧ (∀ x ∈ xs, x.Nodes.length ≤ 12) ∧ Turned g (g + 1) w w' ∧ Cur w' g
set_option maxHeartbeats 8000000 in
set_option maxRecDepth 10000 in
theorem l15Any_c (g : Nat) (w : World) (hc : Cur w g) (A : Option Addr) (n c : Nat) (B : Option Addr) (m d : Nat) (hm : m ≤ 10) : Calls Tryz.prog 54 #[.pointer (some ⟨g, 0, none⟩), .agg #[.slice A n c, .slice B m d]] w (RetWinsA w g) := by
  obtain ⟨i0, hi, hI0, hI1, hI2⟩ := info_parts TInt.info
  have hgw := hc.lt
  have HB := Lib.hid (fun (n : Int) (hn : In64 n) (u : World) (hu : Cur u g) => l01Below_c g n u hu hn)
  have HRW := Lib.hid (fun (u : World) (hu : Cur u g) => l01Raw_c g u hu)
  have H9 : Hid (∀ n : Int, -1000000 ≤ n → n ≤ 1000000 → In64 n) := Lib.hid (fun n h1 h2 => by unfold In64; omega)
  have HDR := Lib.hid (l15Draw_c g _ (hc.ext ((Ext.refl w).alloc (.cells #[.slice A n c, .slice B m d] 38))) A n c B m d hm)
  clear hc
  go_enter Tryz.func54, Tryz.ntmps54
  go_wp2_with fail
  refine HDR.out.mono ?_
  rintro e w1 ⟨A1, c1, f, xs, rfl, hr1, hm1, hl1, hle1, ht1, hc1⟩
  have hs1 := ht1.le
  simp at hs1
  have HT1 := Lib.hid ((((Ext.refl w).alloc (.cells #[.slice A n c, .slice B m d] 38)).turned g (g + 1)).trans ht1)
  have HC1 := Lib.hid hc1
  have HN1 := Lib.hid hr1
  clear hr1 ht1 hc1 HDR
  go_wp2_with fail
  refine (HB.out 14 (H9.out _ (by omega) (by omega)) _ HC1.out).mono ?_
  rintro e w2 ⟨v2, rfl, ⟨hv2a, hv2b⟩, ht2, hc2⟩
  have HT2 := Lib.hid (HT1.out.trans ht2)
  have HC2 := Lib.hid hc2
  have HN2 := Lib.hid ((HN1.out.off ht2 (by simp; omega)).cut ht2.le (Nat.le_refl _))
  clear ht2 hc2
  have HM := Lib.hid hm1
  have HLE := Lib.hid (show ∀ x ∈ xs, x.Nodes.length ≤ 12 from fun x hx => Nat.le_succ_of_le (hle1 x hx).1)
  have HLE1 := Lib.hid hle1
  clear hm1 hle1
  obtain ⟨p, hp⟩ : ∃ p, xs.length = p := ⟨_, rfl⟩
  have HP := Lib.hid hp
  rw [hp] at HN1 HN2 hl1 ⊢
  clear hp
  by_cases hp0 : 0 < p
  · obtain ⟨b, hA, hbl, hbh⟩ : ∃ b, A1 = some ⟨b, 0, none⟩ ∧ w.heap.size + 1 ≤ b ∧ b < w2.heap.size := by
      obtain ⟨L, hL, _⟩ := HN2.out.row
      obtain ⟨b, cap, e1, h1, h2⟩ := own_form hL hp0
      injection e1 with e1 _ _
      exact ⟨b, e1, by simpa using h1, h2⟩
    subst hA
    obtain ⟨x0, hx0⟩ : ∃ x, xs[0]? = some x := ⟨_, List.getElem?_eq_getElem (by rw [HP.out]; exact hp0)⟩
    have HX0 := Lib.hid (HM.out 0 x0 hx0)
    have HXM := Lib.hid (List.mem_of_getElem? hx0)
    have HPB := Lib.hid (show w.heap.size ≤ b by omega)
    clear hx0
    by_cases hk0 : v2 = 0
    · subst hk0
      go_wp2_with fail
      refine (HRW.out _ HC2.out).mono ?_
      rintro e w3 ⟨v3, rfl, hv3, ht3, hc3⟩
      have HN3 := Lib.hid ((HN2.out.off ht3 (by simp; omega)).cut ht3.le (Nat.le_refl _))
      have HT3 := Lib.hid (HT2.out.trans ht3)
      have HC3 := Lib.hid hc3
      have HV3 := Lib.hid hv3
      clear ht3 hc3 hv3
      obtain ⟨L, hL, hrow⟩ := HN3.out.row
      obtain ⟨y0, y1, y2⟩ := HN3.out.third hp0 (Nat.le_refl _)
      simp only [Nat.zero_mul, Nat.zero_add] at y0 y1 y2
      have yf0 := hL.frozenAt 0
      have HLL := Lib.hid hL
      have HROW := Lib.hid hrow
      have hbs : b < w3.heap.size := lt_of_cell y0
      have HRR := Lib.hid (show RetWinsA w g (.returned (.slice (some ⟨b, 0, none⟩) p c1)) (w3.setCell ⟨b, 0, none⟩ (.int .i64 v3)) from ⟨_, c1, (fun j => if j = 0 then ⟨.int .i64 v3, (f 0).b, (f 0).A, (f 0).m, (f 0).c, (f 0).vs⟩ else f j), xs.set 0 ⟨v3, x0.To, x0.Nodes⟩, by rw [List.length_set, HP.out], by
        rw [List.length_set, HP.out]
        exact ((NR.put HN3.out hp0 (Nat.le_refl _) HLL.out HROW.out (fun j hj _ => HN3.out.own j hj) 0 (by omega) (.int .i64 v3) ⟨.int .i64 v3, (f 0).b, (f 0).A, (f 0).m, (f 0).c, (f 0).vs⟩ rfl (HN3.out.own 0 hp0) (fun j hj hne => HN3.out.far j 0 hj hp0 hne)).base (lo' := w.heap.size) (by simp)).cut (Nat.le_of_eq (by simp [World.setCell])) (Nat.le_refl _), HM.out.set 0 _ ⟨.int .i64 v3, (f 0).b, (f 0).A, (f 0).m, (f 0).c, (f 0).vs⟩ rfl HX0.out.2.1 HX0.out.2.2.1 HX0.out.2.2.2.1 HX0.out.2.2.2.2.1 HV3.out HX0.out.2.2.2.2.2.2, by rw [List.length_set, HP.out]; exact hl1, fun x hx => (List.mem_or_eq_of_mem_set hx).elim (HLE.out x) (fun e => e ▸ HLE.out x0 HXM.out), turned_own HT3.out (by omega), HC3.out.put (by omega)⟩)
      clear hL hrow
      go_wp2
      exact ret_post rfl HRR.out
    by_cases hk1 : v2 = 1
    · subst hk1
      go_wp2_with fail
      refine (HRW.out _ HC2.out).mono ?_
      rintro e w3 ⟨v3, rfl, hv3, ht3, hc3⟩
      have HN3 := Lib.hid ((HN2.out.off ht3 (by simp; omega)).cut ht3.le (Nat.le_refl _))
      have HT3 := Lib.hid (HT2.out.trans ht3)
      have HC3 := Lib.hid hc3
      have HV3 := Lib.hid hv3
      clear ht3 hc3 hv3
      obtain ⟨L, hL, hrow⟩ := HN3.out.row
      obtain ⟨y0, y1, y2⟩ := HN3.out.third hp0 (Nat.le_refl _)
      simp only [Nat.zero_mul, Nat.zero_add] at y0 y1 y2
      have yf1 := hL.frozenAt 1
      have HLL := Lib.hid hL
      have HROW := Lib.hid hrow
      have hbs : b < w3.heap.size := lt_of_cell y0
      have HRR := Lib.hid (show RetWinsA w g (.returned (.slice (some ⟨b, 0, none⟩) p c1)) (w3.setCell ⟨b, 1, none⟩ (.int .i64 v3)) from ⟨_, c1, (fun j => if j = 0 then ⟨(f 0).a, .int .i64 v3, (f 0).A, (f 0).m, (f 0).c, (f 0).vs⟩ else f j), xs.set 0 ⟨x0.From, v3, x0.Nodes⟩, by rw [List.length_set, HP.out], by
        rw [List.length_set, HP.out]
        exact ((NR.put HN3.out hp0 (Nat.le_refl _) HLL.out HROW.out (fun j hj _ => HN3.out.own j hj) 1 (by omega) (.int .i64 v3) ⟨(f 0).a, .int .i64 v3, (f 0).A, (f 0).m, (f 0).c, (f 0).vs⟩ rfl (HN3.out.own 0 hp0) (fun j hj hne => HN3.out.far j 0 hj hp0 hne)).base (lo' := w.heap.size) (by simp)).cut (Nat.le_of_eq (by simp [World.setCell])) (Nat.le_refl _), HM.out.set 0 _ ⟨(f 0).a, .int .i64 v3, (f 0).A, (f 0).m, (f 0).c, (f 0).vs⟩ HX0.out.1 rfl HX0.out.2.2.1 HX0.out.2.2.2.1 HX0.out.2.2.2.2.1 HX0.out.2.2.2.2.2.1 HV3.out, by rw [List.length_set, HP.out]; exact hl1, fun x hx => (List.mem_or_eq_of_mem_set hx).elim (HLE.out x) (fun e => e ▸ HLE.out x0 HXM.out), turned_own HT3.out (by omega), HC3.out.put (by omega)⟩)
      clear hL hrow
      go_wp2
      exact ret_post rfl HRR.out
    by_cases hk3 : v2 = 3
    · subst hk3
      obtain ⟨L, hL, hrow⟩ := HN2.out.row
      obtain ⟨y0, y1, y2⟩ := HN2.out.third hp0 (Nat.le_refl _)
      simp only [Nat.zero_mul, Nat.zero_add] at y0 y1 y2
      have yf2 := hL.frozenAt 2
      have HRR := Lib.hid (show RetWinsA w g (.returned (.slice (some ⟨b, 0, none⟩) p c1)) (w2.setCell ⟨b, 2, none⟩ (.slice none 0 0)) from ⟨_, c1, (fun j => if j = 0 then ⟨(f 0).a, (f 0).b, none, 0, 0, []⟩ else f j), xs.set 0 ⟨x0.From, x0.To, []⟩, by rw [List.length_set, HP.out], by
        rw [List.length_set, HP.out]
        exact ((NR.put HN2.out hp0 (Nat.le_refl _) hL hrow (fun j hj _ => HN2.out.own j hj) 2 (by omega) (.slice none 0 0) ⟨(f 0).a, (f 0).b, none, 0, 0, []⟩ rfl (World.ownsRow_nil _ _ _ _) (fun j hj hne => apart_none _)).base (lo' := w.heap.size) (by simp)).cut (Nat.le_of_eq (by simp [World.setCell])) (Nat.le_refl _), HM.out.set 0 _ ⟨(f 0).a, (f 0).b, none, 0, 0, []⟩ HX0.out.1 HX0.out.2.1 rfl rfl (fun y hy => by cases hy) HX0.out.2.2.2.2.2.1 HX0.out.2.2.2.2.2.2, by rw [List.length_set, HP.out]; exact hl1, fun x hx => (List.mem_or_eq_of_mem_set hx).elim (HLE.out x) (fun e => by rw [e]; exact Nat.zero_le _), turned_own HT2.out (by omega), HC2.out.put (by omega)⟩)
      clear hL hrow
      go_wp2
      exact ret_post rfl HRR.out
    by_cases hk4 : v2 = 4
    · subst hk4
      obtain ⟨L, hL, hrow⟩ := HN2.out.row
      obtain ⟨y0, y1, y2⟩ := HN2.out.third hp0 (Nat.le_refl _)
      obtain ⟨z0, _, _⟩ := HN2.out.third (i := p - 1) (by omega) (Nat.le_refl _)
      obtain ⟨xl, hxl⟩ : ∃ x, xs[p - 1]? = some x := ⟨_, List.getElem?_eq_getElem (by rw [HP.out]; omega)⟩
      rw [(HM.out (p - 1) xl hxl).1] at z0
      simp only [Nat.zero_mul, Nat.zero_add] at y0 y1 y2
      have yf0 := hL.frozenAt 0
      have hp1 : p - 1 < p := by omega
      have hxb := (HLE1.out xl (List.mem_of_getElem? hxl)).2
      have HRR := Lib.hid (show RetWinsA w g (.returned (.slice (some ⟨b, 0, none⟩) p c1)) (w2.setCell ⟨b, 0, none⟩ (.int .i64 (xl.From + 1))) from ⟨_, c1, (fun j => if j = 0 then ⟨.int .i64 (xl.From + 1), (f 0).b, (f 0).A, (f 0).m, (f 0).c, (f 0).vs⟩ else f j), xs.set 0 ⟨xl.From + 1, x0.To, x0.Nodes⟩, by rw [List.length_set, HP.out], by
        rw [List.length_set, HP.out]
        exact ((NR.put HN2.out hp0 (Nat.le_refl _) hL hrow (fun j hj _ => HN2.out.own j hj) 0 (by omega) (.int .i64 (xl.From + 1)) ⟨.int .i64 (xl.From + 1), (f 0).b, (f 0).A, (f 0).m, (f 0).c, (f 0).vs⟩ rfl (HN2.out.own 0 hp0) (fun j hj hne => HN2.out.far j 0 hj hp0 hne)).base (lo' := w.heap.size) (by simp)).cut (Nat.le_of_eq (by simp [World.setCell])) (Nat.le_refl _), HM.out.set 0 _ ⟨.int .i64 (xl.From + 1), (f 0).b, (f 0).A, (f 0).m, (f 0).c, (f 0).vs⟩ rfl HX0.out.2.1 HX0.out.2.2.1 HX0.out.2.2.2.1 HX0.out.2.2.2.2.1 (in64_of (n := xl.From + 1) (by omega) (by omega)) HX0.out.2.2.2.2.2.2, by rw [List.length_set, HP.out]; exact hl1, fun x hx => (List.mem_or_eq_of_mem_set hx).elim (HLE.out x) (fun e => e ▸ HLE.out x0 HXM.out), turned_own HT2.out (by omega), HC2.out.put (by omega)⟩)
      clear hL hrow hxl
      go_wp2
      exact ret_post rfl HRR.out
    by_cases hk2 : v2 = 2
    · subst hk2
      obtain ⟨L, hL, hrow⟩ := HN2.out.row
      obtain ⟨y0, y1, y2⟩ := HN2.out.third hp0 (Nat.le_refl _)
      simp only [Nat.zero_mul, Nat.zero_add] at y0 y1 y2
      have yf2 := hL.frozenAt 2
      have HLL := Lib.hid hL
      have HROW := Lib.hid hrow
      have y2' : w2.cell? ⟨b, 2, none⟩ = some (.slice (f 0).A (f 0).m (f 0).c) := y2
      have hmm : (f 0).m ≤ 11 := by rw [HX0.out.2.2.1]; exact (HLE1.out x0 HXM.out).1
      clear hL hrow y0 y1 y2
      go_wp2
      have hlb2 : b < w2.heap.size := hbh
      go_region_law (first | (go_simp; go_at_call 93; (with_reducible refine (HRW.out _ (HC2.out.ext (by repeat (first | exact Ext.refl _ | apply Ext.alloc | apply Ext.drew | apply Ext.drewN)))).mono ?_); rintro e w3 ⟨v3, rfl, hv3, ht3, hc3⟩; have HQ3 := Lib.hid ((Ext.turned (w := w2) (by repeat (first | exact Ext.refl _ | apply Ext.alloc | apply Ext.drew | apply Ext.drewN)) g (g + 1)).trans ht3); have HC3 := Lib.hid hc3; have HV3 := Lib.hid hv3; have y3 := cellT HQ3.out y2' (by omega); have hl3 : b < w3.heap.size := lt_of_cell y3; have HN3 := Lib.hid ((HN2.out.off HQ3.out (by simp; omega)).cut HQ3.out.le (Nat.le_refl _)); have HL3 := Lib.hid (ownsT HLL.out HQ3.out (by simp; omega)); clear ht3 hc3 hv3) | (refine step_append_r (enc := encInt) (ok := In64) (by rfl) _ _ _ (by rfl) (w.heap.size + 1) 3 i0 _ 1 8 Tryz.underlying22 hi hI0 hI1 hI2 rfl (by omega) (.slice (f 0).A (f 0).m (f 0).c) (f 0).m _ _ 1 1 [v3] ((f 0).m + 1) rfl (by rfl) (by rfl) (by have h := owns_ext (HN3.out.own 0 hp0) ((Ext.refl _).alloc (.cells #[.int .i64 v3] 3)); simpa [NItem.v] using h) (by exact sl_one_r w3 v3 3 rfl HV3.out) (fun _ => rfl) TInt.one (by unfold maxLen; omega) (by omega) (by simp; omega) ?_; intro A8 c8 w8 ha8; have HA8 := Lib.hid ha8; have hTb := owns_type (owns_ext HL3.out ((Ext.refl _).alloc (.cells #[.int .i64 v3] 3))) (owns_ext (HN3.out.own 0 hp0) ((Ext.refl _).alloc (.cells #[.int .i64 v3] 3))) (by decide); have y8 := ha8.cell (Ext.cell ((Ext.refl _).alloc _) y3) (fun e => hTb b rfl e); have yf8 := ha8.frozen (((Ext.frozenEq (a := ⟨b, 2, none⟩) ((Ext.refl w3).alloc (.cells #[.int .i64 v3] 3)) hl3)).trans (HL3.out.frozenAt 2)) (by simp; omega) (fun e => hTb b rfl e); have hl8 : b < w8.heap.size := lt_of_cell y8; clear ha8))
      all_goals
        have HT3 := Lib.hid (HT2.out.trans HQ3.out)
        have hbl3 : ∀ q, (f 0).v.ownBlock = some q → w.heap.size ≤ q := fun q hq => by have := ((HN3.out.own 0 hp0).lt q hq).1; simp at this; omega
        have htu := HA8.out.turned (lo := w.heap.size) hbl3
        have HT8 := Lib.hid (turned_own (j := 2) (u := .slice A8 ((f 0).m + 1) c8) (turned_low (HT3.out.ext ((Ext.refl w3).alloc (.cells #[.int .i64 v3] 3))) htu (Nat.le_refl _)) HPB.out)
        have HC8 := Lib.hid (((HC3.out.ext ((Ext.refl w3).alloc (.cells #[.int .i64 v3] 3))).keep htu hgw).put (j := 2) (u := .slice A8 ((f 0).m + 1) c8) (show g < b by omega))
        have HRR := Lib.hid (show RetWinsA w g (.returned (.slice (some ⟨b, 0, none⟩) p c1)) (w8.setCell ⟨b, 2, none⟩ (.slice A8 ((f 0).m + 1) c8)) from ⟨_, c1, (fun j => if j = 0 then ⟨(f 0).a, (f 0).b, A8, (f 0).m + 1, c8, (f 0).vs ++ encInt v3⟩ else f j), xs.set 0 ⟨x0.From, x0.To, x0.Nodes ++ [v3]⟩, by rw [List.length_set, HP.out], by
          rw [List.length_set, HP.out]
          exact ((NR.put HN3.out hp0 (Nat.le_refl _) (HA8.out.other (owns_ext HL3.out ((Ext.refl w3).alloc (.cells #[.int .i64 v3] 3))) (type_apart HL3.out (HN3.out.own 0 hp0) (by decide))) HROW.out (fun j hj hne => HA8.out.other (owns_ext (HN3.out.own j hj) ((Ext.refl w3).alloc (.cells #[.int .i64 v3] 3))) (fun k a e => HN3.out.far j 0 hj hp0 hne k a e)) 2 (by omega) (.slice A8 ((f 0).m + 1) c8) ⟨(f 0).a, (f 0).b, A8, (f 0).m + 1, c8, (f 0).vs ++ encInt v3⟩ rfl (owns_base HA8.out.one.row (by simp)) (fun j hj hne => HA8.out.apart (owns_ext (HN3.out.own j hj) ((Ext.refl w3).alloc (.cells #[.int .i64 v3] 3))) (fun k a e => HN3.out.far j 0 hj hp0 hne k a e))).base (lo' := w.heap.size) (by simp)).cut (Nat.le_of_eq (by simp [World.setCell])) (Nat.le_refl _), HM.out.set 0 _ ⟨(f 0).a, (f 0).b, A8, (f 0).m + 1, c8, (f 0).vs ++ encInt v3⟩ HX0.out.1 HX0.out.2.1 (by rw [List.length_append, ← HX0.out.2.2.1]; rfl) (by rw [List.flatMap_append, ← HX0.out.2.2.2.1]; simp) (all_snoc (ok := In64) HX0.out.2.2.2.2.1 HV3.out) HX0.out.2.2.2.2.2.1 HX0.out.2.2.2.2.2.2, by rw [List.length_set, HP.out]; exact hl1, fun x hx => (List.mem_or_eq_of_mem_set hx).elim (HLE.out x) (fun e => by rw [e, List.length_append, ← HX0.out.2.2.1]; simp; omega), HT8.out, HC8.out⟩)
        clear htu y3 y8 yf8 hTb y2'
        go_wp2
        exact ret_post rfl HRR.out
    · have HRR := Lib.hid (show RetWinsA w g (.returned (.slice (some ⟨b, 0, none⟩) p c1)) w2 from ⟨_, c1, f, xs, by rw [HP.out], by rw [HP.out]; exact HN2.out.base (by simp), HM.out, by rw [HP.out]; exact hl1, HLE.out, HT2.out, HC2.out⟩)
      go_wp2
      exact ret_post rfl HRR.out
  · have HRR := Lib.hid (show RetWinsA w g (.returned (.slice A1 p c1)) w2 from ⟨A1, c1, f, xs, by rw [HP.out], by rw [HP.out]; exact HN2.out.base (by simp), HM.out, by rw [HP.out]; exact hl1, HLE.out, HT2.out, HC2.out⟩)
    go_wp2
    exact ret_post rfl HRR.out
end Go.Proofs.YtgmlcohffdeplaaGreat
/-! DrawWin4 -/
namespace Go.Proofs.YtgmlcohffdeplaaGreat
open Go.RowKit
set_option linter.unusedVariables false
def RetDrawNQ (w : World) : Ending → World → Prop := fun e w' => ∃ (A : Option Addr) (c : Nat) (ps : List Int) (B : Option Addr) (d : Nat) (ns : List Node) (D : Option Addr) (fc : Nat) (xs : List Window) (C : Option Addr) (h : Nat) (ds : List Int) (fr wall : Int), e = .returned (.tuple #[.agg #[.slice A ps.length c, .slice B ns.length d], .slice D xs.length fc, .slice C ds.length h, .int .i64 fr, .int .i64 wall]) ∧ SlAt RInt 1 w' A ps.length ps ∧ SlAt RNode 4 w' B ns.length ns ∧ SlAt RWindow 3 w' D xs.length xs ∧ SlAt RInt 1 w' C ds.length ds ∧ ps.length ≤ 18 ∧ ns.length ≤ 10 ∧ xs.length ≤ 3 ∧ (∀ x ∈ xs, x.Nodes.length ≤ 12) ∧ ds.length ≤ 5 ∧ In64 fr ∧ In64 wall ∧ Ext w w'
end Go.Proofs.YtgmlcohffdeplaaGreat
