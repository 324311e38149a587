/- Lists of windows: how they read; the laws' own helpers over them. -/
import Derived.Test.YtafccgnaifhnkaaNest2
namespace Go.Proofs.Ytafccgnaifhnkaa
open Go.RowKit
set_option linter.unusedVariables false
theorem win_cells {w : World} {cs : List Value} {x : Window} (h : RWindow w cs x) : ∃ A c, cs = [.int .i64 x.From, .int .i64 x.To, .slice A x.Nodes.length c] ∧ SlAt RInt 1 w A x.Nodes.length x.Nodes ∧ x.Nodes.length ≤ maxLen ∧ In64 x.From ∧ In64 x.To := by
  obtain ⟨c0, c1, c2, e, ⟨e0, h0⟩, ⟨e1, h1⟩, A, n, c, e2, h2, hl⟩ := h
  obtain rfl := h2.len
  subst e0 e1 e2
  exact ⟨A, c, e, h2, hl, h0, h1⟩
/-- The cells of a window whose numbers lie in blocks above g. -/
def RWinHi (g : Nat) : Rel Window := fun w cs x => ∃ A c, cs = [.int .i64 x.From, .int .i64 x.To, .slice A x.Nodes.length c] ∧ SlAt RInt 1 w A x.Nodes.length x.Nodes ∧ (∀ k, (Value.slice A x.Nodes.length c).ownBlock = some k → g < k) ∧ x.Nodes.length ≤ maxLen ∧ In64 x.From ∧ In64 x.To
theorem RWinHi.mono (g : Nat) : (RWinHi g).Mono := fun w w' cs x hb ⟨A, c, e, h, r⟩ => ⟨A, c, e, h.ext (Flat.mono _ _) hb, r⟩
theorem RWinHi.read {g : Nat} {w : World} {cs : List Value} {x : Window} (h : RWinHi g w cs x) : RWindow w cs x := by
  obtain ⟨A, c, e, h, _, hl, h0, h1⟩ := h
  exact ⟨[.int .i64 x.From], [.int .i64 x.To], [.slice A x.Nodes.length c], e, ⟨rfl, h0⟩, ⟨rfl, h1⟩, A, _, c, rfl, h, hl⟩
theorem SlAt.setG {α : Type} {enc : α → List Value} {ok : α → Prop} {sz m c : Nat} {A : Option Addr} {w : World} {xs : List α} (h : SlAt (Flat enc ok) sz w A m xs) (p : Addr) (hp : ∀ k, (Value.slice A m c).ownBlock = some k → p.block ≠ k) (u : Value) : SlAt (Flat enc ok) sz (w.setCell p u) A m xs := by
  refine ⟨h.1, fun hm => ?_⟩
  obtain ⟨b, o, rfl, hb, hc⟩ := h.2 hm
  refine ⟨b, o, rfl, by simpa using hb, fun k x hx => ?_⟩
  obtain ⟨cs, h1, h2, h3⟩ := hc k x hx
  exact ⟨cs, h1, fun j u' hu => by
    rw [World.cell?_setCell_other]
    · exact h2 j u' hu
    · intro e; exact hp b rfl (by rw [e]), h3⟩
theorem RWinHi.puts {g : Nat} {cs : List Value} {x : Window} (us : List Value) : ∀ (w : World) (p : Nat), RWinHi g w cs x → RWinHi g (setCells w g p us) cs x := by
  induction us with
  | nil => intro w p h; exact h
  | cons u us ih =>
    intro w p ⟨A, c, e, h, hk, r⟩
    exact ih _ _ ⟨A, c, e, h.setG (c := c) ⟨g, p, none⟩ (fun k hk' => by have := hk k hk'; simp only []; omega) u, hk, r⟩
theorem chunk_low {L us : List Value} {p j : Nat} (h : j * 3 + 3 ≤ p) : ((setAll L p us).drop (j * 3)).take 3 = (L.drop (j * 3)).take 3 := by
  have e : ∀ M : List Value, (M.drop (j * 3)).take 3 = (M.take (j * 3 + 3)).drop (j * 3) := fun M => by rw [List.drop_take]; congr 1; omega
  rw [e, e, take_setAll_low us L p (j * 3 + 3) h]
theorem chunk_new {L : List Value} {a b c : Value} {k : Nat} (h : k * 3 + 3 ≤ L.length) : ((setAll L (k * 3) [a, b, c]).drop (k * 3)).take 3 = [a, b, c] := by
  have e : ∀ M : List Value, (M.drop (k * 3)).take 3 = (M.take (k * 3 + 3)).drop (k * 3) := fun M => by rw [List.drop_take]; congr 1; omega
  rw [e]
  have := take_setAll [a, b, c] L (k * 3) (by simpa using h)
  simp only [List.length_cons, List.length_nil] at this
  rw [this, List.drop_append]
  have h2 : (L.take (k * 3)).length = k * 3 := by rw [List.length_take]; omega
  rw [h2, List.drop_eq_nil_of_le (by omega)]; simp
set_option maxHeartbeats 2000000 in
set_option maxRecDepth 4000 in
theorem toWindowS_c (xs : List Window) (A : Option Addr) (n c : Nat) (w : World) (h : SlAt RWindow 3 w A n xs) (hn : n ≤ 1048576) (hle : ∀ x ∈ xs, x.Nodes.length ≤ 1048576) : Calls Try.prog 13 #[.slice A n c] w (RetSl RWindow 3 w xs) := by
  obtain ⟨i0, hi, hz0, hz1, hz2⟩ := info_parts (show (Try.prog.info? 65).map (fun i => (i.zero, i.size, i.bytes)) = some (some (.agg #[.int .i64 0, .int .i64 0, .slice none 0 0]), 3, 40) by kernel_rfl)
  have HLE := Lib.hid hle
  go_enter Try.func13, Try.ntmps13
  go_wp2_with (at_make; refine wpList_make_full _ rfl _ _ 34 rfl w.heap.size 65 i0 _ 3 Try.underlying34 hi hz0 hz1 .i64 .i64 n n n rfl rfl rfl rfl (by rw [hz2]; omega) (by unfold maxLen; omega) (Nat.le_refl _) ?_; intro w1 hown hg; have hb1 : Ext w w1 := Below.grown (Below.refl _ _) hg (Nat.le_refl _) (by simp))
  clear hg hi hz0 hz1 hz2
  go_loopw [4] (fun i wr => ∃ (k : Nat) (L : List Value), k ≤ n ∧ i = .int .i64 k ∧ wr.ownsRow w.heap.size 65 3 (.slice (some ⟨w.heap.size, 0, none⟩) n n) n L ∧ Hid (∀ j x, j < k → xs[j]? = some x → RWinHi w.heap.size wr ((L.drop (j * 3)).take 3) x) ∧ Ext w wr) (fun i _ => n - (intOf i).toNat)
  case atStart => exact ⟨0, _, Nat.zero_le _, rfl, hown, Lib.hid (fun j x hj => by omega), hb1⟩
  case round =>
    obtain ⟨k, L, hk, rfl, hownr, HL, hb⟩ := hrel
    clear hown hb1
    by_cases hlt : k < n
    · obtain ⟨b, o, x, cs, rfl, hbw, hx, _, hc, hr⟩ := (h.ext RWindow.mono hb).at_ hlt
      obtain ⟨A1, c1, rfl, hsl, hml, hf, ht⟩ := win_cells hr
      have g0 := hc 0 _ rfl
      have g1 := hc 1 _ rfl
      have g2 := hc 2 _ rfl
      simp only [Nat.add_zero] at g0
      have HX := Lib.hid hx; have HO := Lib.hid hownr
      have HLX := Lib.hid (HLE.out x (List.mem_of_getElem? hx))
      have HSL := Lib.hid hsl
      have HR := Lib.hid (show x.Nodes.length ≤ maxLen ∧ In64 x.From ∧ In64 x.To from ⟨hml, hf, ht⟩)
      have hgr : w.heap.size < wr.heap.size := (hownr.lt _ rfl).2
      clear hc hr hsl hml hf ht hx hownr h
      go_wp2_with (go_at_call 40; refine (toWindow_c x _ _ _ HSL.out HLX.out).mono ?_; rintro e w2 ⟨A2, c2, rfl, ho2, hb2⟩; obtain ⟨y0, hy0⟩ := owns_cell (owns_ext HO.out hb2) (j := k * 3) (by omega); obtain ⟨y1, hy1⟩ := owns_cell (owns_ext HO.out hb2) (j := k * 3 + 1) (by omega); obtain ⟨y2, hy2⟩ := owns_cell (owns_ext HO.out hb2) (j := k * 3 + 2) (by omega); have z0 := (owns_ext HO.out hb2).frozenAt (k * 3); have z1 := (owns_ext HO.out hb2).frozenAt (k * 3 + 1); have z2 := (owns_ext HO.out hb2).frozenAt (k * 3 + 2); have HO2 := Lib.hid ho2; have hz2 : w.heap.size < w2.heap.size := (by have := hb2.le; omega))
      go_roundw
      case rel =>
        have hblk := HO2.out.block
        refine ⟨k + 1, setAll L (k * 3) [.int .i64 x.From, .int .i64 x.To, .slice A2 x.Nodes.length c2], by omega, by go_num, owns_puts [.int .i64 x.From, .int .i64 x.To, .slice A2 x.Nodes.length c2] _ _ _ (owns_ext HO.out hb2), Lib.hid (fun j y hj hy => ?_), Ext.puts [.int .i64 x.From, .int .i64 x.To, .slice A2 x.Nodes.length c2] _ _ (hb.trans hb2) (Nat.le_refl _)⟩
        rcases Nat.lt_or_ge j k with hjk | hjk
        · rw [chunk_low (by omega)]
          exact RWinHi.puts [.int .i64 x.From, .int .i64 x.To, .slice A2 x.Nodes.length c2] _ _ (RWinHi.mono _ _ _ _ _ hb2 (HL.out j y hjk hy))
        · obtain rfl : j = k := by omega
          rw [HX.out] at hy; injection hy with hy; subst hy
          rw [chunk_new (by rw [HO.out.1]; omega)]
          exact RWinHi.puts [.int .i64 x.From, .int .i64 x.To, .slice A2 x.Nodes.length c2] _ _ ⟨A2, c2, rfl, HO2.out.slAt, fun q hq => by have := (hblk q hq).1; omega, HR.out⟩
      case measure => simp [intOf]; omega
    · have hkn : k = n := by omega
      have HO := Lib.hid hownr
      have HKN := Lib.hid hkn
      have HN := Lib.hid h.len
      clear hownr hkn h
      go_wp2
      refine bodyPost_ret (results_tmp rfl _ _ _) rfl ⟨_, n, by rw [HN.out]; rfl, ?_, hb⟩
      have hO : OwnAt RWindow 65 3 wr w.heap.size (.slice (some ⟨w.heap.size, 0, none⟩) xs.length n) xs := ⟨L, by rw [HN.out]; exact HO.out, fun j x hx => (HL.out j x (by have := (List.getElem?_eq_some_iff.1 hx).1; rw [HN.out] at this; rw [HKN.out]; exact this) hx).read⟩
      exact hO.slAt
set_option maxHeartbeats 2000000 in
set_option maxRecDepth 4000 in
theorem eqWindowS_t (xs : List Window) (A A' : Option Addr) (n c c' : Nat) (w : World) (h1 : SlAt RWindow 3 w A n xs) (h2 : SlAt RWindow 3 w A' n xs) (hl : n ≤ maxLen) : Calls Try.prog 16 #[.slice A n c, .slice A' n c'] w (Ret w (.bool true)) := by
  unfold maxLen at hl
  go_enter Try.func16, Try.ntmps16
  go_wp2
  go_loopw [5] (fun i wr => ∃ k : Nat, k ≤ n ∧ i = .int .i64 k ∧ Ext w wr) (fun i _ => n - (intOf i).toNat)
  case atStart => exact ⟨0, Nat.zero_le _, rfl, Ext.refl _⟩
  case round =>
    obtain ⟨k, hk, rfl, hb⟩ := hrel
    by_cases hlt : k < n
    · obtain ⟨b, o, x, cs, rfl, hbw, hx, _, hc, hr⟩ := (h1.ext RWindow.mono hb).at_ hlt
      obtain ⟨b', o', y, cs', rfl, hbw', hy, _, hc', hr'⟩ := (h2.ext RWindow.mono hb).at_ hlt
      rw [hx] at hy; injection hy with hy; subst hy
      obtain ⟨A1, c1, rfl, hsl, hml, hf, ht⟩ := win_cells hr
      obtain ⟨A2, c2, rfl, hsl', _, _, _⟩ := win_cells hr'
      have g0 := hc 0 _ rfl
      have g1 := hc 1 _ rfl
      have g2 := hc 2 _ rfl
      simp only [Nat.add_zero] at g0
      have d0 := hc' 0 _ rfl
      have d1 := hc' 1 _ rfl
      have d2 := hc' 2 _ rfl
      simp only [Nat.add_zero] at d0
      have HB := Lib.hid hb
      have HC := Lib.hid (fun (u : World) (e : Ext wr u) => eqWindow_t x A1 c1 A2 c2 u (hsl.ext (Flat.mono _ _) e) (hsl'.ext (Flat.mono _ _) e) hml)
      have hcx := @Later.cell wr
      clear hc hc' hr hr' hsl hsl' hml hf ht hx h1 h2 hb
      go_wp2
      refine wp_region_ext (by kernel_rfl) (by kernel_rfl) ?_
      repeat (go_big_quiet_step ((go_at_call 46; exact Calls.quiet_ext ((HC.out _ (Later.ext _))))))
      refine wpQuiet_nil ?_
      intro w1 hb1
      have HB1 := Lib.hid hb1
      clear hcx g0 g1 g2 d0 d1 d2 hb1
      go_wp2
      go_roundw
      case rel => exact ⟨k + 1, by omega, by go_num, HB.out.trans HB1.out⟩
      case measure => simp [intOf]; omega
    · clear h1 h2
      go_wp2
      exact ret_bool rfl rfl rfl rfl hb
theorem szIntS_w (A : Option Addr) (n c : Nat) (left : Int) (w : World) (hn : n ≤ maxLen) (hl : left ≤ 1048576) (hl0 : 0 ≤ left) : Calls Try.prog 33 #[.slice A n c, .int .i64 left] w (Ret w (.int .i64 (szM n left))) := by
  unfold maxLen at hn
  go_enter Try.func33, Try.ntmps33
  by_cases h : left - n < 0
  · go_wp2
    exact ret_int rfl rfl rfl (by unfold szM; split <;> omega) (Ext.refl _)
  · go_wp2
    exact ret_int rfl rfl rfl (by unfold szM; split <;> omega) (Ext.refl _)
theorem szWindow_w (x : Window) (A : Option Addr) (c : Nat) (left : Int) (w : World) (hl : x.Nodes.length ≤ maxLen) (h1 : left ≤ 1048576) (h0 : 0 ≤ left) : Calls Try.prog 35 #[.agg #[.int .i64 x.From, .int .i64 x.To, .slice A x.Nodes.length c], .int .i64 left] w (Ret w (.int .i64 (szM x.Nodes.length left))) := by
  have hc := Lib.hid (fun u : World => szIntS_w A x.Nodes.length c left u hl h1 h0)
  have hs := Lib.hid (show szM x.Nodes.length left < 0 → szM x.Nodes.length left = -1 by unfold szM; split <;> omega)
  generalize szM x.Nodes.length left = z at *
  go_enter Try.func35, Try.ntmps35
  by_cases hz : z < 0
  · have HZ := Lib.hid (hs.out hz)
    go_wp2_with fail
    refine (hc.out _).mono ?_
    rintro e w1 ⟨rfl, hb1⟩
    go_wp2
    rw [HZ.out]
    exact ret_is (by simp [results, Try.results35, go_sem]) rfl (by repeat (first | exact Ext.refl _ | assumption | apply Ext.alloc | apply Ext.drewN | apply Ext.drew | (refine Ext.setCell ?_ (by first | (simp; done) | (simp; omega) | omega) _) | (refine Ext.trans ?_ (by assumption))))
  · go_wp2_with fail
    refine (hc.out _).mono ?_
    rintro e w1 ⟨rfl, hb1⟩
    go_wp2
    exact ret_int rfl rfl rfl rfl (by repeat (first | exact Ext.refl _ | assumption | apply Ext.alloc | apply Ext.drewN | apply Ext.drew | (refine Ext.setCell ?_ (by first | (simp; done) | (simp; omega) | omega) _) | (refine Ext.trans ?_ (by assumption))))
/-- What is left of a budget, or less than nothing. -/
def RetSz (w : World) (xs : List Window) (left : Int) : Ending → World → Prop := fun e w' => ∃ z : Int, e = .returned (.int .i64 z) ∧ (z < 0 ∨ (0 ≤ z ∧ z ≤ left ∧ (xs.length : Int) ≤ left ∧ ∀ x ∈ xs, (x.Nodes.length : Int) ≤ left)) ∧ Ext w w'
set_option maxHeartbeats 2000000 in
set_option maxRecDepth 4000 in
theorem szWindowS_w (xs : List Window) (A : Option Addr) (n c : Nat) (left : Int) (w : World) (h : SlAt RWindow 3 w A n xs) (hn : n ≤ maxLen) (hl : left ≤ 1048576) (hl0 : 0 ≤ left) : Calls Try.prog 10 #[.slice A n c, .int .i64 left] w (RetSz w xs left) := by
  unfold maxLen at hn
  have HN := Lib.hid h.len
  by_cases hs : left - n < 0
  · go_enter Try.func10, Try.ntmps10
    go_wp2
    exact bodyPost_ret (results_tmp rfl _ _ _) rfl ⟨-1, rfl, .inl (by omega), Ext.refl _⟩
  go_enter Try.func10, Try.ntmps10
  go_wp2
  go_loopw [1, 5] (fun z i wr => ∃ (k : Nat) (q : Int), k ≤ n ∧ i = .int .i64 k ∧ z = .int .i64 q ∧ 0 ≤ q ∧ q ≤ left ∧ Hid (∀ j x, j < k → xs[j]? = some x → (x.Nodes.length : Int) ≤ left) ∧ Ext w wr) (fun _ i _ => n - (intOf i).toNat)
  case atStart => exact ⟨0, left - n, Nat.zero_le _, rfl, by go_num, by omega, by omega, Lib.hid (fun j x hj => by omega), Ext.refl _⟩
  case round =>
    obtain ⟨k, q, hk, rfl, rfl, q0, q1, HF, hb⟩ := hrel
    by_cases hlt : k < n
    · obtain ⟨b, o, x, cs, rfl, hbw, hx, _, hc, hr⟩ := (h.ext RWindow.mono hb).at_ hlt
      obtain ⟨A1, c1, rfl, hsl, hml, hf, ht⟩ := win_cells hr
      have g0 := hc 0 _ rfl
      have g1 := hc 1 _ rfl
      have g2 := hc 2 _ rfl
      simp only [Nat.add_zero] at g0
      have HX := Lib.hid hx
      have HS := Lib.hid (fun u : World => szWindow_w x A1 c1 q u hml (by omega) q0)
      rcases (show szM x.Nodes.length q < 0 ∨ (¬ szM x.Nodes.length q < 0 ∧ szM x.Nodes.length q ≤ q ∧ (x.Nodes.length : Int) ≤ q) from by
        rcases szM_cases x.Nodes.length q with hz | ⟨hz, hle, hl2⟩
        · exact .inl hz
        · exact .inr ⟨hz, by omega, hle⟩) with hz | ⟨hz, hle, hl2⟩
      all_goals
        generalize szM x.Nodes.length q = z at *
        clear hc hr hsl hml hf ht hx h
        go_wp2_with fail
        refine (HS.out _).mono ?_
        rintro e w1 ⟨rfl, hb1⟩
        clear g0 g1 g2
        go_wp2
      · exact bodyPost_ret (results_tmp rfl _ _ _) rfl ⟨-1, rfl, .inl (by omega), hb.trans hb1⟩
      · go_roundw
        case rel => exact ⟨k + 1, z, by omega, by go_num, rfl, by omega, by omega, Lib.hid (fun j y hj hy => by
            rcases Nat.lt_or_ge j k with hjk | hjk
            · exact HF.out j y hjk hy
            · have e : j = k := by omega
              rw [e, HX.out] at hy; injection hy with hy; subst hy; omega), hb.trans hb1⟩
        case measure => simp [intOf]; omega
    · have HKN := Lib.hid (show k = n by omega)
      clear h
      go_wp2
      exact bodyPost_ret (results_tmp rfl _ _ _) rfl ⟨q, rfl, .inr ⟨q0, q1, by rw [HN.out]; omega, fun x hx => by
        obtain ⟨j, hj, e⟩ := List.getElem_of_mem hx
        exact HF.out j x (by rw [HN.out] at hj; rw [HKN.out]; exact hj) (by rw [← e]; exact List.getElem?_eq_getElem hj)⟩, hb⟩
end Go.Proofs.Ytafccgnaifhnkaa
