/- Contracts of the draws: any list of dependencies. -/
import Derived.Test.YtgnbjnlcikpknaaDrawDeps
namespace Go.Proofs.Ytgnbjnlcikpknaa
open Go.RowKit
set_option linter.unusedVariables false
theorem two_sl (w : World) (x y : Dep) (e : TypeId) (hx : x.ok) (hy : y.ok) : SlAt RDep 2 (w.alloc (.cells #[.int .i64 x.Id, .int .i64 x.For, .int .i64 y.Id, .int .i64 y.For] e)) (some ⟨w.heap.size, 0, none⟩) 2 [x, y] :=
  own_sl (l := [x, y]) (World.ownsRow_lit (e := e) w #[.int .i64 x.Id, .int .i64 x.For, .int .i64 y.Id, .int .i64 y.For] 2 (Nat.le_refl _) (by unfold maxLen; omega) rfl) rfl (fun z hz => by
    rcases List.mem_cons.1 hz with rfl | hz
    · exact hx
    · rw [List.mem_singleton.1 hz]; exact hy)
theorem one_row (w : World) (x : Dep) (e : TypeId) : (w.alloc (.cells #[.int .i64 x.Id, .int .i64 x.For] e)).ownsRow w.heap.size e 2 (.slice (some ⟨w.heap.size, 0, none⟩) 1 1) 1 (Dep.enc x) := World.ownsRow_lit (e := e) w #[.int .i64 x.Id, .int .i64 x.For] 1 (Nat.le_refl _) (by unfold maxLen; omega) rfl
set_option maxHeartbeats 4000000 in
set_option maxRecDepth 20000 in
theorem l12Any_c (g : Nat) (w : World) (hc : Cur w g) : Calls Try.prog 31 #[.pointer (some ⟨g, 0, none⟩)] w (RetDeps 13 w g) := by
  obtain ⟨i0, hi, hI0, hI1, hI2⟩ := info_parts Dep.info
  have hgw := hc.lt
  have HB := Lib.hid (fun (n : Int) (hn : In64 n) (u : World) (hu : Cur u g) => l01Below_c g n u hu hn)
  have HR := Lib.hid (fun (u : World) (hu : Cur u g) => l01Raw_c g u hu)
  have HD := Lib.hid (l12Draw_c g w hc)
  have H9 : Hid (∀ n : Int, -1000000 ≤ n → n ≤ 1000000 → In64 n) := Lib.hid (fun n h1 h2 => by unfold In64; omega)
  clear hc
  go_enter Try.func31, Try.ntmps31
  go_wp2_with fail
  refine HD.out.mono ?_
  rintro e w1 ⟨A1, c1, xs, rfl, ho1, hin, hl4, ht1, hc1⟩
  have HO1 := Lib.hid ho1
  have HIN := Lib.hid hin
  have HT1 := Lib.hid ht1
  have HC1 := Lib.hid hc1
  have hs1 := HT1.out.le
  clear ho1 hin ht1 hc1
  go_wp2_with fail
  refine (HB.out 12 (H9.out _ (by omega) (by omega)) _ HC1.out).mono ?_
  rintro e w2 ⟨v2, rfl, ⟨hv2a, hv2b⟩, ht2, hc2⟩
  have HT2 := Lib.hid (HT1.out.trans ht2)
  have HC2 := Lib.hid hc2
  have hs2 := HT2.out.le
  have HO2 := Lib.hid (ownsT HO1.out ht2 (by omega))
  clear ht2 hc2
  by_cases h0 : xs.length = 0
  · have HRR := Lib.hid (show RetDeps 13 w g (.returned (.slice A1 xs.length c1)) w2 from ⟨A1, c1, xs, rfl, HO2.out, HIN.out, by omega, HT2.out, HC2.out⟩)
    rw [h0] at *
    go_wp2
    exact ret_post rfl HRR.out
  obtain ⟨gb, rfl, hgb, hgl⟩ := down_form HO2.out (by omega)
  have hz : (((xs.length : Nat) : Int) == 0) = false := by rw [beq_eq_false_iff_ne]; omega
  go_wp2_with fail
  refine (HB.out (xs.length) (H9.out _ (by omega) (by omega)) _ HC2.out).mono ?_
  rintro e w3 ⟨v3, rfl, ⟨hv3a, hv3b⟩, ht3, hc3⟩
  have HT3 := Lib.hid (HT2.out.trans ht3)
  have HC3 := Lib.hid hc3
  have hs3 := HT3.out.le
  have HO3 := Lib.hid (ownsT HO2.out ht3 (by omega))
  clear ht3 hc3
  obtain ⟨k, rfl⟩ := Int.eq_ofNat_of_zero_le hv3a
  have hkl : k < xs.length := by omega
  obtain ⟨x, hx⟩ : ∃ x, xs[k]? = some x := ⟨_, List.getElem?_eq_getElem hkl⟩
  have HX := Lib.hid hx
  have HXO := Lib.hid (HIN.out x (List.mem_of_getElem? hx))
  have HLS := Lib.hid (fun y : Dep => show (xs.set k y).length ≤ 13 by rw [List.length_set]; omega)
  clear hx
  rcases (show v2 = 0 ∨ v2 = 1 ∨ v2 = 2 ∨ v2 = 3 ∨ 3 < v2 by omega) with rfl | rfl | rfl | rfl | hv
  · go_wp2_with fail
    refine (HR.out _ HC3.out).mono ?_
    rintro e w4 ⟨v4, rfl, hv4, ht4, hc4⟩
    have HT4 := Lib.hid (HT3.out.trans ht4)
    have HC4 := Lib.hid hc4
    have hs4 := HT4.out.le
    have HO4 := Lib.hid (ownsT HO3.out ht4 (by omega))
    clear ht4 hc4
    have HV4 := Lib.hid hv4
    obtain ⟨y, hy⟩ := owns_cell HO4.out (j := k * 2) (by omega)
    have hf := HO4.out.frozenAt (k * 2)
    have HRR := Lib.hid (show RetDeps 13 w g (.returned (.slice (some ⟨gb, 0, none⟩) xs.length c1)) (w4.setCell ⟨gb, k * 2, none⟩ (.int .i64 v4)) from ⟨_, c1, xs.set k ⟨v4, x.For⟩, by rw [List.length_set], owns_put (j := 0) Dep.size (by omega) HX.out (dep_setId x v4) HO4.out, all_set HIN.out ⟨HV4.out, HXO.out.2⟩, HLS.out _, turned_own HT4.out (by omega), HC4.out.put (by omega)⟩)
    clear hv4
    go_wp2
    exact ret_post rfl HRR.out
  · have HS3 := Lib.hid (rowD_sl Dep.size HO3.out HIN.out)
    obtain ⟨b, o, x0, cs, eb, hbw, hx0, _, hcb, hr⟩ := HS3.out.at_ hkl
    obtain ⟨rfl, hx0k⟩ := hr
    injection eb with eb
    injection eb with eb eo
    subst eb eo
    have y0 := hcb 0 _ rfl
    have y1 := hcb 1 _ rfl
    simp only [Nat.add_zero] at y0
    simp only [Nat.zero_add] at y0 y1
    have HXX := Lib.hid (show x0 = x by have e := HX.out; rw [hx0] at e; injection e)
    obtain rfl := HXX.out
    have hf := HO3.out.frozenAt (k * 2 + 1)
    have HRR := Lib.hid (show RetDeps 13 w g (.returned (.slice (some ⟨gb, 0, none⟩) xs.length c1)) (w3.setCell ⟨gb, k * 2 + 1, none⟩ (.int .i64 x0.Id)) from ⟨_, c1, xs.set k ⟨x0.Id, x0.Id⟩, by rw [List.length_set], owns_put (j := 1) Dep.size (by omega) HX.out (dep_setFor x0 x0.Id) HO3.out, all_set HIN.out ⟨HXO.out.1, HXO.out.1⟩, HLS.out _, turned_own HT3.out (by omega), HC3.out.put (by omega)⟩)
    clear hcb hx0 hx0k HX HXX
    go_wp2
    exact ret_post rfl HRR.out
  · have HS3 := Lib.hid (rowD_sl Dep.size HO3.out HIN.out)
    obtain ⟨b, o, x0, cs, eb, hbw, hx0, _, hcb, hr⟩ := HS3.out.at_ (show 0 < xs.length by omega)
    obtain ⟨rfl, hx0k⟩ := hr
    injection eb with eb
    injection eb with eb eo
    subst eb eo
    have y0 := hcb 0 _ rfl
    have y1 := hcb 1 _ rfl
    simp only [Nat.add_zero] at y0
    have HK0 := Lib.hid hx0k
    clear hcb hx0 hx0k
    go_wp2_with (at_builtin; go_must (refine wpList_append_one_t (.tmp 40) (.tmp 44) _ w.heap.size 31 i0 _ 2 16 _ xs.length _ (Dep.enc x0) rfl rfl Try.underlying23 hi hI0 hI1 hI2 rfl (by omega) rfl (HO3.out) _ rfl (by first | rfl | simp) rfl (Dep.one _) (by unfold maxLen; omega) (by omega) hs3 ?_); intro A7 c7 w7 ho7 ht7 hs7 hk7)
    have HRR := Lib.hid (show RetDeps 13 w g (.returned (.slice A7 (xs.length + 1) c7)) w7 from ⟨A7, c7, xs ++ [x0], by simp, own_snoc ho7, all_snoc HIN.out HK0.out, by simp; omega, turned_low HT3.out ht7 (Nat.le_refl _), HC3.out.keep ht7 hgw⟩)
    clear ho7 ht7 hk7
    go_wp2
    exact ret_post rfl HRR.out
  · have HS3 := Lib.hid (rowD_sl Dep.size HO3.out HIN.out)
    obtain ⟨b, o, x0, cs, eb, hbw, hx0, _, hcb, hr⟩ := HS3.out.at_ (show xs.length - 1 < xs.length by omega)
    obtain ⟨rfl, hx0k⟩ := hr
    injection eb with eb
    injection eb with eb eo
    subst eb eo
    have y0 := hcb 0 _ rfl
    have y1 := hcb 1 _ rfl
    simp only [Nat.add_zero] at y0
    simp only [Nat.zero_add] at y0 y1
    have HK0 := Lib.hid hx0k
    have hcast : ((xs.length - 1 : Nat) : Int) = (xs.length : Int) - 1 := by omega
    have hk8 : (⟨8, x0.For⟩ : Dep).ok := ⟨in64_of (n := 8) (by omega) (by omega), hx0k.2⟩
    have hk9 : (⟨9, 8⟩ : Dep).ok := ⟨in64_of (n := 9) (by omega) (by omega), in64_of (n := 8) (by omega) (by omega)⟩
    have HK8 := Lib.hid hk8
    have HK9 := Lib.hid hk9
    have HOB := Lib.hid (owns_ext HO3.out ((Ext.refl w3).alloc (.cells #[.int .i64 x0.Id, .int .i64 x0.For] 31)))
    have HOC := Lib.hid (owns_ext HOB.out ((Ext.refl _).alloc (.cells #[.int .i64 8, .int .i64 x0.For, .int .i64 9, .int .i64 8] 31)))
    have HTC := Lib.hid (HT3.out.ext (((Ext.refl w3).alloc (.cells #[.int .i64 x0.Id, .int .i64 x0.For] 31)).alloc (.cells #[.int .i64 8, .int .i64 x0.For, .int .i64 9, .int .i64 8] 31)))
    have HCC := Lib.hid (HC3.out.ext (((Ext.refl w3).alloc (.cells #[.int .i64 x0.Id, .int .i64 x0.For] 31)).alloc (.cells #[.int .i64 8, .int .i64 x0.For, .int .i64 9, .int .i64 8] 31)))
    have HXB := Lib.hid (((Ext.refl (w3.alloc (.cells #[.int .i64 x0.Id, .int .i64 x0.For] 31))).alloc (.cells #[.int .i64 8, .int .i64 x0.For, .int .i64 9, .int .i64 8] 31)).cell (law_box w3 [.int .i64 x0.Id, .int .i64 x0.For] 31 1 _ rfl))
    have HNE := Lib.hid (down_ne HO3.out (Nat.le_refl w3.heap.size))
    have HS2 : Hid (SlAt RDep 2 ((w3.alloc (.cells #[.int .i64 x0.Id, .int .i64 x0.For] 31)).alloc (.cells #[.int .i64 8, .int .i64 x0.For, .int .i64 9, .int .i64 8] 31)) (some ⟨w3.heap.size + 1, 0, none⟩) 2 [(⟨8, x0.For⟩ : Dep), ⟨9, 8⟩]) := Lib.hid (by
      have e := two_sl (w3.alloc (.cells #[.int .i64 x0.Id, .int .i64 x0.For] 31)) ⟨8, x0.For⟩ ⟨9, 8⟩ 31 HK8.out HK9.out
      rw [show (w3.alloc (.cells #[.int .i64 x0.Id, .int .i64 x0.For] 31)).heap.size = w3.heap.size + 1 by simp] at e
      exact e)
    have h13 : xs.length + 2 ≤ 12 := by omega
    clear hcb hx0 hx0k hk8 hk9
    rcases (Bool.eq_false_or_eq_true (decide (x0.For < 8))).symm with h8 | h8
    · go_wp2_with (at_builtin; go_must (refine wpList_append_list_t (ok := Dep.ok) (.tmp 54) (.tmp 59) _ w.heap.size 31 i0 _ 2 16 _ xs.length _ _ 2 2 [⟨8, x0.For⟩, ⟨9, 8⟩] rfl rfl Try.underlying23 hi hI0 hI1 hI2 rfl (by omega) rfl (HOC.out) rfl HS2.out Dep.size Dep.one (by unfold maxLen; omega) (by omega) (by simp; omega) ?_); intro A7 c7 w7 ho7 ht7 hs7 hk7; have hbx := hk7 w3.heap.size HNE.out (by simp; omega); have z1 := dcell_kept hbx HXB.out; have hs8 := lt_of_cell z1)
      have HRR := Lib.hid (show RetDeps 13 w g (.returned (.slice A7 (xs.length + 2) c7)) w7 from ⟨A7, c7, xs ++ [⟨8, x0.For⟩, ⟨9, 8⟩], by simp, by rw [List.flatMap_append, List.length_append]; exact ho7, fun y hy => by
        rcases List.mem_append.1 hy with hy | hy
        · exact HIN.out y hy
        · rcases List.mem_cons.1 hy with rfl | hy
          · exact HK8.out
          · rw [List.mem_singleton.1 hy]; exact HK9.out, by simp; omega, turned_low HTC.out ht7 (Nat.le_refl _), HCC.out.keep ht7 hgw⟩)
      clear ho7 ht7 hk7 hbx
      go_wp2
      exact ret_post rfl HRR.out
    · have HAL : Hid (∀ y ∈ xs ++ [(⟨8, x0.For⟩ : Dep), ⟨9, 8⟩], y.ok) := Lib.hid (fun y hy => by
        rcases List.mem_append.1 hy with hy | hy
        · exact HIN.out y hy
        · rcases List.mem_cons.1 hy with rfl | hy
          · exact HK8.out
          · rw [List.mem_singleton.1 hy]; exact HK9.out)
      have HK1 : Hid ((⟨1, 9⟩ : Dep).ok) := Lib.hid ⟨in64_of (n := 1) (by omega) (by omega), in64_of (n := 9) (by omega) (by omega)⟩
      go_wp2_with (first | (at_builtin; (refine wpList_append_list_t (ok := Dep.ok) (.tmp 54) (.tmp 59) _ w.heap.size 31 i0 _ 2 16 _ xs.length _ _ 2 2 [⟨8, x0.For⟩, ⟨9, 8⟩] rfl rfl Try.underlying23 hi hI0 hI1 hI2 rfl (by omega) rfl (HOC.out) rfl HS2.out Dep.size Dep.one (by unfold maxLen; omega) (by omega) (by simp; omega) ?_); intro A7 c7 w7 ho7 ht7 hs7 hk7; have hbx := hk7 w3.heap.size HNE.out (by simp; omega); have z1 := dcell_kept hbx HXB.out; have hs8 := lt_of_cell z1; have HT7 := Lib.hid (turned_low HTC.out ht7 (Nat.le_refl _)); have HC7 := Lib.hid (HCC.out.keep ht7 hgw); have HS7 := Lib.hid (own_sl (l := xs ++ [⟨8, x0.For⟩, ⟨9, 8⟩]) (by rw [List.flatMap_append]; exact ho7) (by simp) HAL.out); have hw7 := HT7.out.le; clear ho7 ht7 hk7 hbx) | (at_builtin; go_must (refine wpList_append_list_t (ok := Dep.ok) (.tmp 65) (.tmp 66) _ w.heap.size 31 i0 _ 2 16 _ 1 _ _ (xs.length + 2) _ (xs ++ [⟨8, x0.For⟩, ⟨9, 8⟩]) rfl rfl Try.underlying23 hi hI0 hI1 hI2 rfl (by omega) rfl (owns_base (one_row w7 ⟨1, 9⟩ 31) hw7) rfl (HS7.out.ext (Flat.mono _ _) ((Ext.refl _).alloc _)) Dep.size Dep.one (by unfold maxLen; omega) (by omega) (by simp; omega) ?_); intro A9 c9 w9 ho9 ht9 hs9 hk9))
      have HRR := Lib.hid (show RetDeps 13 w g (.returned (.slice A9 (1 + (xs.length + 2)) c9)) w9 from ⟨A9, c9, ⟨1, 9⟩ :: (xs ++ [⟨8, x0.For⟩, ⟨9, 8⟩]), by simp; omega, by
        have e : (⟨1, 9⟩ :: (xs ++ [⟨8, x0.For⟩, ⟨9, 8⟩]) : List Dep).length = 1 + (xs.length + 2) := by simp; omega
        rw [e]; exact ho9, fun y hy => by
        rcases List.mem_cons.1 hy with rfl | hy
        · exact HK1.out
        · exact HAL.out y hy, by simp; omega, turned_low (HT7.out.ext ((Ext.refl _).alloc _)) ht9 (Nat.le_refl _), (HC7.out.ext ((Ext.refl _).alloc _)).keep ht9 hgw⟩)
      clear ho9 ht9 hk9
      go_wp2
      exact ret_post rfl HRR.out
  · have HRR := Lib.hid (show RetDeps 13 w g (.returned (.slice (some ⟨gb, 0, none⟩) xs.length c1)) w3 from ⟨_, c1, xs, rfl, HO3.out, HIN.out, by omega, HT3.out, HC3.out⟩)
    go_wp2
    exact ret_post rfl HRR.out
end Go.Proofs.Ytgnbjnlcikpknaa
