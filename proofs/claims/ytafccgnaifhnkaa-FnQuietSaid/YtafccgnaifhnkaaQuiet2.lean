/- Contracts: whether no window touches some nodes in a span, the spec's way. -/
import Derived.Test.YtafccgnaifhnkaaQuiet
namespace Go.Proofs.Ytafccgnaifhnkaa
open Go.RowKit
set_option linter.unusedVariables false
def clGo (x : Window) (f t : Int) (l : List Int) : Bool := l.any (fun n => x.Nodes.contains n && (decide (x.From < t) && decide (f < x.To)))
set_option maxHeartbeats 4000000 in
set_option maxRecDepth 4000 in
theorem l15Clash_c (x : Window) (nodes : List Int) (fr to : Int) (A : Option Addr) (n c : Nat) (B : Option Addr) (m d : Nat) (w : World) (h : SlAt RInt 1 w A n x.Nodes) (hl : n ≤ maxLen) (h2 : SlAt RInt 1 w B m nodes) (hl2 : m ≤ maxLen) : Calls Try.prog 47 #[.agg #[.int .i64 x.From, .int .i64 x.To, .slice A n c], .slice B m d, .int .i64 fr, .int .i64 to] w (Ret w (.bool (clashB nodes fr to x))) := by
  have HH := Lib.hid (fun (v : Int) (u : World) (e : Ext w u) => l02Has_c x.Nodes v A n c u (h.ext (Flat.mono _ _) e) hl)
  have HN := Lib.hid h2.len
  unfold maxLen at hl2
  clear h hl
  go_enter Try.func47, Try.ntmps47
  go_wp2
  go_loopw [13] (fun iv wr => ∃ k : Nat, k ≤ m ∧ iv = .int .i64 k ∧ Ext (w.alloc (.cells #[.int .i64 x.From, .int .i64 x.To, .slice A n c] 65)) wr ∧ Hid (clashB nodes fr to x = clGo x fr to (nodes.drop k))) (fun iv _ => m - (intOf iv).toNat)
  case atStart => exact ⟨0, Nat.zero_le _, rfl, Ext.refl _, Lib.hid rfl⟩
  case round =>
    obtain ⟨k, hk, rfl, hb, HE⟩ := hrel
    have q2 := hb.cell (acell_box w [.int .i64 x.From, .int .i64 x.To, .slice A n c] 65 2 _ rfl)
    have HQ := Lib.hid (fun (u : World) (e : Ext wr u) => (hb.trans e).cell (acell_box w [.int .i64 x.From, .int .i64 x.To, .slice A n c] 65 0 _ rfl))
    have HQ1 := Lib.hid (fun (u : World) (e : Ext wr u) => (hb.trans e).cell (acell_box w [.int .i64 x.From, .int .i64 x.To, .slice A n c] 65 1 _ rfl))
    have eW : Ext w wr := ((Ext.refl w).alloc _).trans hb
    have hsz : w.heap.size < wr.heap.size := lt_of_cell q2
    by_cases hlt : k < m
    · obtain ⟨b, o, y, cs, rfl, hbw, hx, _, hc, rfl, _⟩ := (h2.ext (Flat.mono _ _) eW).at_ hlt
      have c0 := hc 0 _ rfl
      simp only [Nat.mul_one, Nat.add_zero] at c0
      have HX := Lib.hid (show clGo x fr to (nodes.drop k) = ((x.Nodes.contains y && (decide (x.From < to) && decide (fr < x.To))) || clGo x fr to (nodes.drop (k + 1))) by rw [drop_cons hx]; rfl)
      have HC := Lib.hid (HH.out y wr eW)
      clear hc hx h2
      rcases (Bool.eq_false_or_eq_true (x.Nodes.contains y)).symm with h1 | h1
      all_goals
        rw [h1] at HC HX
        clear h1
        go_wp2_with fail
        refine HC.out.mono ?_
        rintro e w1 ⟨rfl, hb1⟩
        have y0 := HQ.out _ hb1
        have y1 := HQ1.out _ hb1
        have hzz : w.heap.size < w1.heap.size := lt_of_cell y0
        have HB1 := Lib.hid (hb.trans hb1)
        have HB2 := Lib.hid (eW.trans hb1)
        clear q2 hb1 hb eW
      · go_wp2
        go_roundw
        case rel => exact ⟨k + 1, by omega, by go_num, HB1.out, Lib.hid (by rw [HE.out, HX.out]; rfl)⟩
        case measure => simp [intOf]; omega
      · rcases (Bool.eq_false_or_eq_true (decide (x.From < to))).symm with h3 | h3
        · have H3 := Lib.hid h3
          go_wp2
          go_roundw
          case rel => exact ⟨k + 1, by omega, by go_num, HB1.out, Lib.hid (by rw [HE.out, HX.out, H3.out]; rfl)⟩
          case measure => simp [intOf]; omega
        rcases (Bool.eq_false_or_eq_true (decide (fr < x.To))).symm with h4 | h4
        · have H3 := Lib.hid h3
          have H4 := Lib.hid h4
          go_wp2
          go_roundw
          case rel => exact ⟨k + 1, by omega, by go_num, HB1.out, Lib.hid (by rw [HE.out, HX.out, H3.out, H4.out]; rfl)⟩
          case measure => simp [intOf]; omega
        · have H3 := Lib.hid h3
          have H4 := Lib.hid h4
          go_wp2
          exact ret_bool rfl rfl rfl (by rw [HE.out, HX.out, H3.out, H4.out]; rfl) HB2.out
    · clear h2
      go_wp2
      exact ret_bool rfl rfl rfl (by rw [HE.out, List.drop_eq_nil_of_le (by have := HN.out; omega)]; rfl) eW
set_option maxHeartbeats 4000000 in
set_option maxRecDepth 4000 in
theorem sQuiet_c (ps : List Int) (ns : List Node) (xs : List Window) (nodes : List Int) (fr to : Int) (A : Option Addr) (n c : Nat) (B : Option Addr) (m d : Nat) (D : Option Addr) (q f : Nat) (C : Option Addr) (r g : Nat) (w : World) (h : SlAt RInt 1 w A n ps) (hl : n ≤ maxLen) (h2 : SlAt RNode 4 w B m ns) (hl2 : m ≤ maxLen) (h3 : SlAt RWindow 3 w D q xs) (hl3 : q ≤ maxLen) (h4 : SlAt RInt 1 w C r nodes) (hl4 : r ≤ maxLen) (_ : In64 fr) (_ : In64 to) : Calls Try.prog 17 #[.agg #[.slice A n c, .slice B m d], .slice D q f, .slice C r g, .int .i64 fr, .int .i64 to] w (Ret w (.bool (quietB ps ns xs nodes fr to))) := by
  have HW := Lib.hid (fun (u : World) (e : Ext w u) => sWindowsOk_c ps ns xs A n c B m d D q f u (h.ext (Flat.mono _ _) e) hl (h2.ext (Flat.mono _ _) e) hl2 (h3.ext RWindow.mono e) hl3)
  have HB := Lib.hid (show quietB ps ns xs nodes fr to = (windowsB ps ns xs && quietL xs nodes fr to) from rfl)
  have HSP := Lib.hid (fun (e : windowsB ps ns xs = true) => win_span e)
  have H3 := Lib.hid (fun (u : World) (e : Ext w u) => h3.ext RWindow.mono e)
  have H4 := Lib.hid (fun (u : World) (e : Ext w u) => h4.ext (Flat.mono _ _) e)
  have HL4 := Lib.hid hl4
  have HN := Lib.hid h3.len
  unfold maxLen at hl3
  clear h h2 h3 h4 hl hl2 hl4
  generalize quietB ps ns xs nodes fr to = z at *
  have hE : Ext w (w.alloc (.cells #[.slice A n c, .slice B m d] 32)) := (Ext.refl w).alloc _
  rcases (Bool.eq_false_or_eq_true (windowsB ps ns xs)).symm with h1 | h1
  all_goals
    have HS := Lib.hid (HSP.out)
    rw [h1] at HW HB HS
    clear h1 HSP
    go_enter Try.func17, Try.ntmps17
    go_wp2_with fail
    refine (HW.out _ hE).mono ?_
    rintro e w1 ⟨rfl, hb1⟩
  · go_wp2
    exact ret_bool rfl rfl rfl HB.out.symm (hE.trans hb1)
  · have SP := Lib.hid (HS.out (by trivial))
    have hW1 := hE.trans hb1
    clear hE hb1 HS
    go_wp2
    go_loopw [19] (fun iv wr => ∃ k : Nat, k ≤ q ∧ iv = .int .i64 k ∧ Ext w1 wr ∧ Hid (z = quietL (xs.drop k) nodes fr to)) (fun iv _ => q - (intOf iv).toNat)
    case atStart => exact ⟨0, Nat.zero_le _, rfl, Ext.refl _, Lib.hid HB.out⟩
    case round =>
      obtain ⟨k, hk, rfl, hb, HE⟩ := hrel
      have eW : Ext w wr := hW1.trans hb
      by_cases hlt : k < q
      · obtain ⟨b, o, x, cs, rfl, hbw, hx, _, hc, hr⟩ := (H3.out wr eW).at_ hlt
        obtain ⟨A1, c1, rfl, hsl, hml, hf, ht⟩ := win_cells hr
        have g0 := hc 0 _ rfl
        have g1 := hc 1 _ rfl
        have g2 := hc 2 _ rfl
        simp only [Nat.add_zero] at g0
        have HX := Lib.hid (show quietL (xs.drop k) nodes fr to = (!(decide (fr < to) && clashB nodes fr to x) && quietL (xs.drop (k + 1)) nodes fr to) by rw [drop_cons hx, clash_hit (SP.out x (List.mem_of_getElem? hx)).1]; rfl)
        have HC := Lib.hid (fun (u : World) (e : Ext wr u) => l15Clash_c x nodes fr to A1 x.Nodes.length c1 C r g u (hsl.ext (Flat.mono _ _) e) hml (H4.out u (eW.trans e)) HL4.out)
        clear hc hr hsl hml hf ht hx
        rcases (Bool.eq_false_or_eq_true (decide (fr < to))).symm with h1 | h1
        · have H1 := Lib.hid h1
          go_wp2
          go_roundw
          case rel => exact ⟨k + 1, by omega, by go_num, hb.alloc _, Lib.hid (by rw [HE.out, HX.out, H1.out]; rfl)⟩
          case measure => simp [intOf]; omega
        have H1 := Lib.hid h1
        rcases (Bool.eq_false_or_eq_true (clashB nodes fr to x)).symm with h5 | h5
        all_goals
          rw [h5] at HC HX
          clear h5
          go_wp2_with fail
          refine (HC.out _ ((Ext.refl _).alloc _)).mono ?_
          rintro e w2 ⟨rfl, hb2⟩
        · go_wp2
          go_roundw
          case rel => exact ⟨k + 1, by omega, by go_num, (hb.alloc _).trans hb2, Lib.hid (by rw [HE.out, HX.out, H1.out]; rfl)⟩
          case measure => simp [intOf]; omega
        · go_wp2
          exact ret_bool rfl rfl rfl (by rw [HE.out, HX.out, H1.out]; rfl) ((eW.alloc _).trans hb2)
      · go_wp2
        exact ret_bool rfl rfl rfl (by rw [HE.out, List.drop_eq_nil_of_le (by have := HN.out; omega)]; rfl) eW
end Go.Proofs.Ytafccgnaifhnkaa
