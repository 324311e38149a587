/- Contracts: whether a node rests. -/
import Derived.Test.YtgabikiekiliaaaWin
import Derived.Test.YtgabikiekiliaaaInts
import Derived.Test.YtgabikiekiliaaaLaw
namespace Go.Proofs.Ytgabikiekiliaaa
open Go.RowKit
set_option linter.unusedVariables false
def restsB (n t : Int) (x : Window) : Bool := x.Nodes.contains n && (decide (x.From ≤ t) && decide (t < x.To))
def restingB (l : List Window) (n t : Int) : Bool := l.any (restsB n t)
set_option maxHeartbeats 2000000 in
set_option maxRecDepth 4000 in
theorem Resting_c (xs : List Window) (v t : Int) (A : Option Addr) (n c : Nat) (w : World) (h : SlAt RWindow 3 w A n xs) (hl : n ≤ maxLen) : Calls Try.prog 22 #[.slice A n c, .int .i64 v, .int .i64 t] w (Ret w (.bool (restingB xs v t))) := by
  unfold maxLen at hl
  have HN := Lib.hid h.len
  go_enter Try.func22, Try.ntmps22
  go_wp2
  go_loopw [11] (fun i wr => ∃ k : Nat, k ≤ n ∧ i = .int .i64 k ∧ Ext w wr ∧ Hid (restingB xs v t = (xs.drop k).any (restsB v t))) (fun i _ => n - (intOf i).toNat)
  case atStart => exact ⟨0, Nat.zero_le _, rfl, Ext.refl _, Lib.hid rfl⟩
  case round =>
    obtain ⟨k, hk, rfl, hb, HE⟩ := hrel
    by_cases hlt : k < n
    · obtain ⟨b, o, x, cs, rfl, hbw, hx, _, hc, hr⟩ := (h.ext RWindow.mono hb).at_ hlt
      obtain ⟨A1, c1, rfl, hsl, hml, hf, ht⟩ := win_cells hr
      have g0 := hc 0 _ rfl
      have g1 := hc 1 _ rfl
      have g2 := hc 2 _ rfl
      simp only [Nat.add_zero] at g0
      have HX := Lib.hid (show (xs.drop k).any (restsB v t) = (restsB v t x || (xs.drop (k + 1)).any (restsB v t)) by rw [drop_cons hx, List.any_cons])
      have HQ := Lib.hid (show restsB v t x = (x.Nodes.contains v && (decide (x.From ≤ t) && decide (t < x.To))) from rfl)
      have HC := Lib.hid (fun (u : World) (e : Ext wr u) => Contains_c x.Nodes v A1 x.Nodes.length c1 u (hsl.ext (Flat.mono _ _) e) hml)
      clear hc hr hsl hml hf ht hx h
      rcases (Bool.eq_false_or_eq_true (x.Nodes.contains v)).symm with h1 | h1
      all_goals
        rw [h1] at HC HQ
        clear h1
        go_wp2_with fail
        refine (HC.out _ ((Ext.refl _).alloc _)).mono ?_
        rintro e w1 ⟨rfl, hb1⟩
        have y0 := hb1.cell (law_box wr [.int .i64 x.From, .int .i64 x.To, .slice A1 x.Nodes.length c1] 81 0 _ rfl)
        have y1 := hb1.cell (law_box wr [.int .i64 x.From, .int .i64 x.To, .slice A1 x.Nodes.length c1] 81 1 _ rfl)
        have hzz : wr.heap.size < w1.heap.size := by have := hb1.le; simp at this; omega
        have HB1 := Lib.hid (hb.trans (((Ext.refl _).alloc _).trans hb1))
        clear g0 g1 g2 hb1
      · go_wp2
        go_roundw
        case rel => exact ⟨k + 1, by omega, by go_num, HB1.out, Lib.hid (by rw [HE.out, HX.out, HQ.out]; rfl)⟩
        case measure => simp [intOf]; omega
      · rcases (Bool.eq_false_or_eq_true (decide (x.From ≤ t))).symm with h2 | h2
        · have H2 := Lib.hid h2
          go_wp2
          go_roundw
          case rel => exact ⟨k + 1, by omega, by go_num, HB1.out, Lib.hid (by rw [HE.out, HX.out, HQ.out, H2.out]; rfl)⟩
          case measure => simp [intOf]; omega
        rcases (Bool.eq_false_or_eq_true (decide (t < x.To))).symm with h3 | h3
        · have H2 := Lib.hid h2
          have H3 := Lib.hid h3
          go_wp2
          go_roundw
          case rel => exact ⟨k + 1, by omega, by go_num, HB1.out, Lib.hid (by rw [HE.out, HX.out, HQ.out, H2.out, H3.out]; rfl)⟩
          case measure => simp [intOf]; omega
        · have H2 := Lib.hid h2
          have H3 := Lib.hid h3
          go_wp2
          exact ret_bool rfl rfl rfl (by rw [HE.out, HX.out, HQ.out, H2.out, H3.out]; rfl) HB1.out
    · clear h
      go_wp2
      exact ret_bool rfl rfl rfl (by rw [HE.out, List.drop_eq_nil_of_le (by have := HN.out; omega)]; rfl) hb
set_option maxHeartbeats 2000000 in
set_option maxRecDepth 4000 in
theorem sResting_c (xs : List Window) (v t : Int) (A : Option Addr) (n c : Nat) (w : World) (h : SlAt RWindow 3 w A n xs) (hl : n ≤ maxLen) : Calls Try.prog 20 #[.slice A n c, .int .i64 v, .int .i64 t] w (Ret w (.bool (restingB xs v t))) := by
  unfold maxLen at hl
  have HN := Lib.hid h.len
  go_enter Try.func20, Try.ntmps20
  go_wp2
  go_loopw [11] (fun i wr => ∃ k : Nat, k ≤ n ∧ i = .int .i64 k ∧ Ext w wr ∧ Hid (restingB xs v t = (xs.drop k).any (restsB v t))) (fun i _ => n - (intOf i).toNat)
  case atStart => exact ⟨0, Nat.zero_le _, rfl, Ext.refl _, Lib.hid rfl⟩
  case round =>
    obtain ⟨k, hk, rfl, hb, HE⟩ := hrel
    by_cases hlt : k < n
    · obtain ⟨b, o, x, cs, rfl, hbw, hx, _, hc, hr⟩ := (h.ext RWindow.mono hb).at_ hlt
      obtain ⟨A1, c1, rfl, hsl, hml, hf, ht⟩ := win_cells hr
      have g0 := hc 0 _ rfl
      have g1 := hc 1 _ rfl
      have g2 := hc 2 _ rfl
      simp only [Nat.add_zero] at g0
      have HX := Lib.hid (show (xs.drop k).any (restsB v t) = (restsB v t x || (xs.drop (k + 1)).any (restsB v t)) by rw [drop_cons hx, List.any_cons])
      have HQ := Lib.hid (show restsB v t x = (x.Nodes.contains v && (decide (x.From ≤ t) && decide (t < x.To))) from rfl)
      have HC := Lib.hid (fun (u : World) (e : Ext wr u) => l02Has_c x.Nodes v A1 x.Nodes.length c1 u (hsl.ext (Flat.mono _ _) e) hml)
      clear hc hr hsl hml hf ht hx h
      rcases (Bool.eq_false_or_eq_true (x.Nodes.contains v)).symm with h1 | h1
      all_goals
        rw [h1] at HC HQ
        clear h1
        go_wp2_with fail
        refine (HC.out _ ((Ext.refl _).alloc _)).mono ?_
        rintro e w1 ⟨rfl, hb1⟩
        have y0 := hb1.cell (law_box wr [.int .i64 x.From, .int .i64 x.To, .slice A1 x.Nodes.length c1] 81 0 _ rfl)
        have y1 := hb1.cell (law_box wr [.int .i64 x.From, .int .i64 x.To, .slice A1 x.Nodes.length c1] 81 1 _ rfl)
        have hzz : wr.heap.size < w1.heap.size := by have := hb1.le; simp at this; omega
        have HB1 := Lib.hid (hb.trans (((Ext.refl _).alloc _).trans hb1))
        clear g0 g1 g2 hb1
      · go_wp2
        go_roundw
        case rel => exact ⟨k + 1, by omega, by go_num, HB1.out, Lib.hid (by rw [HE.out, HX.out, HQ.out]; rfl)⟩
        case measure => simp [intOf]; omega
      · rcases (Bool.eq_false_or_eq_true (decide (x.From ≤ t))).symm with h2 | h2
        · have H2 := Lib.hid h2
          go_wp2
          go_roundw
          case rel => exact ⟨k + 1, by omega, by go_num, HB1.out, Lib.hid (by rw [HE.out, HX.out, HQ.out, H2.out]; rfl)⟩
          case measure => simp [intOf]; omega
        rcases (Bool.eq_false_or_eq_true (decide (t < x.To))).symm with h3 | h3
        · have H2 := Lib.hid h2
          have H3 := Lib.hid h3
          go_wp2
          go_roundw
          case rel => exact ⟨k + 1, by omega, by go_num, HB1.out, Lib.hid (by rw [HE.out, HX.out, HQ.out, H2.out, H3.out]; rfl)⟩
          case measure => simp [intOf]; omega
        · have H2 := Lib.hid h2
          have H3 := Lib.hid h3
          go_wp2
          exact ret_bool rfl rfl rfl (by rw [HE.out, HX.out, HQ.out, H2.out, H3.out]; rfl) HB1.out
    · clear h
      go_wp2
      exact ret_bool rfl rfl rfl (by rw [HE.out, List.drop_eq_nil_of_le (by have := HN.out; omega)]; rfl) hb
end Go.Proofs.Ytgabikiekiliaaa
