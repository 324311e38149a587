/- Merged by mergelean.py: Nest2, Win, NRow, NMark, Append, NWin, NCut, NApp. -/
import Derived.Test.YtgmlcohffdeplaaGreatHelp
import Derived.Test.YtgmlcohffdeplaaGreatRead
import Derived.Test.YtgmlcohffdeplaaGreatLaw
import Derived.Test.YtgmlcohffdeplaaGreatNest
import Derived.Test.YtgmlcohffdeplaaGreatBase
import Derived.Deep.RegionHeld3
import Derived.Deep.AppendLies
/-! Nest2 -/
namespace Go.Proofs.YtgmlcohffdeplaaGreat
open Go.RowKit
set_option linter.unusedVariables false

def RWindow : Rel Window := fun w cs x => ∃ c0 c1 c2, cs = c0 ++ (c1 ++ (c2)) ∧ RInt w c0 x.From ∧ RInt w c1 x.To ∧ (RSl RInt 1) w c2 x.Nodes
theorem RWindow.mono : RWindow.Mono := fun _ _ _ _ hb ⟨c0, c1, c2, e, h0, h1, h2⟩ => ⟨c0, c1, c2, e, (Flat.mono _ _) _ _ _ _ hb h0, (Flat.mono _ _) _ _ _ _ hb h1, (RSl.mono (Flat.mono _ _)) _ _ _ _ hb h2⟩
theorem RWindow.open {w : World} {cs : Array Value} {x : Window} (h : RWindow w cs.toList x) : ∃ (ANodes : Option Addr) (cNodes : Nat), cs = #[.int .i64 x.From, .int .i64 x.To, .slice ANodes x.Nodes.length cNodes] ∧ In64 x.From ∧ In64 x.To ∧ SlAt RInt 1 w ANodes x.Nodes.length x.Nodes ∧ x.Nodes.length ≤ maxLen := by
  obtain ⟨p0, p1, p2, e, ⟨e0, hFrom⟩, ⟨e1, hTo⟩, ⟨ANodes, nNodes, cNodes, e2, hNodes, lNodes⟩⟩ := h
  obtain rfl := hNodes.len
  subst e0 e1 e2
  refine ⟨ANodes, cNodes, ?_, hFrom, hTo, hNodes, lNodes⟩
  cases cs; simp only [] at e; subst e; rfl
/-- A copy in new memory. -/
def RetNWindow (w : World) (x : Window) : Ending → World → Prop := fun e w' => ∃ (ANodes : Option Addr) (cNodes : Nat), e = .returned (.agg #[.int .i64 x.From, .int .i64 x.To, .slice ANodes x.Nodes.length cNodes]) ∧ OwnAt RInt 3 1 w' w.heap.size (.slice ANodes x.Nodes.length cNodes) x.Nodes ∧ Ext w w'
set_option maxHeartbeats 2000000 in
theorem toWindow_c (x : Window) (ANodes : Option Addr) (cNodes : Nat) (w : World) (hNodes : SlAt RInt 1 w ANodes x.Nodes.length x.Nodes) (hleNodes : x.Nodes.length ≤ 1048576) : Calls Tryz.prog 33 #[.agg #[.int .i64 x.From, .int .i64 x.To, .slice ANodes x.Nodes.length cNodes]] w (RetNWindow w x) := by
  go_enter Tryz.func33, Tryz.ntmps33
  go_wp2_with fail
  refine (toIntS_c x.Nodes ANodes _ cNodes _ (hNodes.ext (Flat.mono _ _) (by repeat (first | exact Ext.refl _ | assumption | apply Ext.alloc | (refine Ext.setCell ?_ (by first | (simp; done) | (simp; omega) | omega) _) | (refine Ext.trans ?_ (by assumption))))) hleNodes).mono ?_
  rintro e w1 ⟨BNodes, dNodes, rfl, hoNodes, hb1⟩
  have hoNodes := hoNodes.mono (base' := w.heap.size + 3) (by simp; try omega)
  obtain ⟨hcr1, hfr1, hz1⟩ := hb1.rules
  (try simp at hz1)
  have hy10 : w.heap.size < w1.heap.size := by omega
  have hy11 : w.heap.size + 1 < w1.heap.size := by omega
  have hy12 : w.heap.size + 1 + 1 < w1.heap.size := by omega
  go_wp2
  refine bodyPost_ret (v := .agg #[.int .i64 x.From, .int .i64 x.To, .slice BNodes x.Nodes.length dNodes]) (by simp [results, Tryz.results33, go_sem, *]) rfl ⟨BNodes, dNodes, rfl, ?_, (by repeat (first | exact Ext.refl _ | assumption | apply Ext.alloc | (refine Ext.setCell ?_ (by first | (simp; done) | (simp; omega) | omega) _) | (refine Ext.trans ?_ (by assumption))))⟩
  all_goals (refine OwnAt.mono (base := w.heap.size + 3) ?_ (by omega))
  all_goals (repeat (first | (with_reducible exact hoNodes) | (refine OwnAt.set ?_ (by simp) _) | (refine OwnAt.alloc ?_ (Flat.mono _ _) _) | (refine OwnAt.ext (Flat.mono _ _) ?_ (by assumption))))
set_option maxHeartbeats 2000000 in
theorem eqWindow_t (x : Window) (ANodes : Option Addr) (cNodes : Nat) (BNodes : Option Addr) (dNodes : Nat) (w : World) (hNodes : SlAt RInt 1 w ANodes x.Nodes.length x.Nodes) (gNodes : SlAt RInt 1 w BNodes x.Nodes.length x.Nodes) (hlNodes : x.Nodes.length ≤ maxLen) : Calls Tryz.prog 42 #[.agg #[.int .i64 x.From, .int .i64 x.To, .slice ANodes x.Nodes.length cNodes], .agg #[.int .i64 x.From, .int .i64 x.To, .slice BNodes x.Nodes.length dNodes]] w (Ret w (.bool true)) := by
  go_enter Tryz.func42, Tryz.ntmps42
  have cENodes := Lib.hid (fun (u : World) (e : Ext w u) => eqIntS_c x.Nodes x.Nodes ANodes BNodes _ cNodes _ dNodes u (hNodes.ext (Flat.mono _ _) e) (gNodes.ext (Flat.mono _ _) e) hlNodes)
  rw [show decide (x.Nodes = x.Nodes) = true from decide_eq_true rfl] at cENodes
  go_wp2_with fail
  refine (cENodes.out _ (by repeat (first | exact Ext.refl _ | assumption | apply Ext.alloc | (refine Ext.setCell ?_ (by first | (simp; done) | (simp; omega) | omega) _) | (refine Ext.trans ?_ (by assumption))))).mono ?_
  rintro e w1 ⟨rfl, hb1⟩
  obtain ⟨hcr1, hfr1, hz1⟩ := hb1.rules
  (try simp at hz1)
  have hy10 : w.heap.size < w1.heap.size := by omega
  have hy11 : w.heap.size + 1 < w1.heap.size := by omega
  go_wp2
  exact ret_bool rfl rfl rfl rfl (by repeat (first | exact Ext.refl _ | assumption | apply Ext.alloc | (refine Ext.setCell ?_ (by first | (simp; done) | (simp; omega) | omega) _) | (refine Ext.trans ?_ (by assumption))))
end Go.Proofs.YtgmlcohffdeplaaGreat
/-! Win -/
namespace Go.Proofs.YtgmlcohffdeplaaGreat
open Go.RowKit
set_option linter.unusedVariables false
theorem win_cells {w : World} {cs : List Value} {x : Window} (h : RWindow w cs x) : ∃ A c, cs = [.int .i64 x.From, .int .i64 x.To, .slice A x.Nodes.length c] ∧ SlAt RInt 1 w A x.Nodes.length x.Nodes ∧ x.Nodes.length ≤ maxLen ∧ In64 x.From ∧ In64 x.To := by
  obtain ⟨c0, c1, c2, e, ⟨e0, h0⟩, ⟨e1, h1⟩, A, n, c, e2, h2, hl⟩ := h
  obtain rfl := h2.len
  subst e0 e1 e2
  exact ⟨A, c, e, h2, hl, h0, h1⟩
/-- The cells of a window whose numbers lie in blocks above g. -/
def RWinHi (g : Nat) : Rel Window := fun w cs x => ∃ A c, cs = [.int .i64 x.From, .int .i64 x.To, .slice A x.Nodes.length c] ∧ SlAt RInt 1 w A x.Nodes.length x.Nodes ∧ (∀ k, (Value.slice A x.Nodes.length c).ownBlock = some k → g < k) ∧ x.Nodes.length ≤ maxLen ∧ In64 x.From ∧ In64 x.To
theorem RWinHi.mono (g : Nat) : (RWinHi g).Mono := fun w w' cs x hb ⟨A, c, e, h, r⟩ => ⟨A, c, e, h.ext (Flat.mono _ _) hb, r⟩
theorem RWinHi.read {g : Nat} {w : World} {cs : List Value} {x : Window} (h : RWinHi g w cs x) : RWindow w cs x := by
  obtain ⟨A, c, e, h, _, hl, h0, h1⟩ := h
  exact ⟨[.int .i64 x.From], [.int .i64 x.To], [.slice A x.Nodes.length c], e, ⟨rfl, h0⟩, ⟨rfl, h1⟩, A, _, c, rfl, h, hl⟩
theorem SlAt.setG {α : Type} {enc : α → List Value} {ok : α → Prop} {sz m c : Nat} {A : Option Addr} {w : World} {xs : List α} (h : SlAt (Flat enc ok) sz w A m xs) (p : Addr) (hp : ∀ k, (Value.slice A m c).ownBlock = some k → p.block ≠ k) (u : Value) : SlAt (Flat enc ok) sz (w.setCell p u) A m xs := by
  refine ⟨h.1, fun hm => ?_⟩
  obtain ⟨b, o, rfl, hb, hc⟩ := h.2 hm
  refine ⟨b, o, rfl, by simpa using hb, fun k x hx => ?_⟩
  obtain ⟨cs, h1, h2, h3⟩ := hc k x hx
  exact ⟨cs, h1, fun j u' hu => by
    rw [World.cell?_setCell_other]
    · exact h2 j u' hu
    · intro e; exact hp b rfl (by rw [e]), h3⟩
theorem RWinHi.puts {g : Nat} {cs : List Value} {x : Window} (us : List Value) : ∀ (w : World) (p : Nat), RWinHi g w cs x → RWinHi g (setCells w g p us) cs x := by
  induction us with
  | nil => intro w p h; exact h
  | cons u us ih =>
    intro w p ⟨A, c, e, h, hk, r⟩
    exact ih _ _ ⟨A, c, e, h.setG (c := c) ⟨g, p, none⟩ (fun k hk' => by have := hk k hk'; simp only []; omega) u, hk, r⟩
theorem chunk_low {L us : List Value} {p j : Nat} (h : j * 3 + 3 ≤ p) : ((setAll L p us).drop (j * 3)).take 3 = (L.drop (j * 3)).take 3 := by
  have e : ∀ M : List Value, (M.drop (j * 3)).take 3 = (M.take (j * 3 + 3)).drop (j * 3) := fun M => by rw [List.drop_take]; congr 1; omega
  rw [e, e, take_setAll_low us L p (j * 3 + 3) h]
theorem chunk_new {L : List Value} {a b c : Value} {k : Nat} (h : k * 3 + 3 ≤ L.length) : ((setAll L (k * 3) [a, b, c]).drop (k * 3)).take 3 = [a, b, c] := by
  have e : ∀ M : List Value, (M.drop (k * 3)).take 3 = (M.take (k * 3 + 3)).drop (k * 3) := fun M => by rw [List.drop_take]; congr 1; omega
  rw [e]
  have := take_setAll [a, b, c] L (k * 3) (by simpa using h)
  simp only [List.length_cons, List.length_nil] at this
  rw [this, List.drop_append]
  have h2 : (L.take (k * 3)).length = k * 3 := by rw [List.length_take]; omega
  rw [h2, List.drop_eq_nil_of_le (by omega)]; simp
set_option maxHeartbeats 2000000 in
set_option maxRecDepth 4000 in
theorem toWindowS_c (xs : List Window) (A : Option Addr) (n c : Nat) (w : World) (h : SlAt RWindow 3 w A n xs) (hn : n ≤ 1048576) (hle : ∀ x ∈ xs, x.Nodes.length ≤ 1048576) : Calls Tryz.prog 9 #[.slice A n c] w (RetSl RWindow 3 w xs) := by
  obtain ⟨i0, hi, hz0, hz1, hz2⟩ := info_parts (show (Tryz.prog.info? 73).map (fun i => (i.zero, i.size, i.bytes)) = some (some (.agg #[.int .i64 0, .int .i64 0, .slice none 0 0]), 3, 40) by kernel_rfl)
  have HLE := Lib.hid hle
  go_enter Tryz.func9, Tryz.ntmps9
  go_wp2_with (at_make; refine wpList_make_full _ rfl _ _ 48 rfl w.heap.size 73 i0 _ 3 Tryz.underlying48 hi hz0 hz1 .i64 .i64 n n n rfl rfl rfl rfl (by rw [hz2]; omega) (by unfold maxLen; omega) (Nat.le_refl _) ?_; intro w1 hown hg; have hb1 : Ext w w1 := Below.grown (Below.refl _ _) hg (Nat.le_refl _) (by simp))
  clear hg hi hz0 hz1 hz2
  go_loopw [4] (fun i wr => ∃ (k : Nat) (L : List Value), k ≤ n ∧ i = .int .i64 k ∧ wr.ownsRow w.heap.size 73 3 (.slice (some ⟨w.heap.size, 0, none⟩) n n) n L ∧ Hid (∀ j x, j < k → xs[j]? = some x → RWinHi w.heap.size wr ((L.drop (j * 3)).take 3) x) ∧ Ext w wr) (fun i _ => n - (intOf i).toNat)
  case atStart => exact ⟨0, _, Nat.zero_le _, rfl, hown, Lib.hid (fun j x hj => by omega), hb1⟩
  case round =>
    obtain ⟨k, L, hk, rfl, hownr, HL, hb⟩ := hrel
    clear hown hb1
    by_cases hlt : k < n
    · obtain ⟨b, o, x, cs, rfl, hbw, hx, _, hc, hr⟩ := (h.ext RWindow.mono hb).at_ hlt
      obtain ⟨A1, c1, rfl, hsl, hml, hf, ht⟩ := win_cells hr
      have g0 := hc 0 _ rfl
      have g1 := hc 1 _ rfl
      have g2 := hc 2 _ rfl
      simp only [Nat.add_zero] at g0
      have HX := Lib.hid hx; have HO := Lib.hid hownr
      have HLX := Lib.hid (HLE.out x (List.mem_of_getElem? hx))
      have HSL := Lib.hid hsl
      have HR := Lib.hid (show x.Nodes.length ≤ maxLen ∧ In64 x.From ∧ In64 x.To from ⟨hml, hf, ht⟩)
      have hgr : w.heap.size < wr.heap.size := (hownr.lt _ rfl).2
      clear hc hr hsl hml hf ht hx hownr h
      go_wp2_with (go_at_call 33; refine (toWindow_c x _ _ _ HSL.out HLX.out).mono ?_; rintro e w2 ⟨A2, c2, rfl, ho2, hb2⟩; obtain ⟨y0, hy0⟩ := owns_cell (owns_ext HO.out hb2) (j := k * 3) (by omega); obtain ⟨y1, hy1⟩ := owns_cell (owns_ext HO.out hb2) (j := k * 3 + 1) (by omega); obtain ⟨y2, hy2⟩ := owns_cell (owns_ext HO.out hb2) (j := k * 3 + 2) (by omega); have z0 := (owns_ext HO.out hb2).frozenAt (k * 3); have z1 := (owns_ext HO.out hb2).frozenAt (k * 3 + 1); have z2 := (owns_ext HO.out hb2).frozenAt (k * 3 + 2); have HO2 := Lib.hid ho2; have hz2 : w.heap.size < w2.heap.size := (by have := hb2.le; omega))
      go_roundw
      case rel =>
        have hblk := HO2.out.block
        refine ⟨k + 1, setAll L (k * 3) [.int .i64 x.From, .int .i64 x.To, .slice A2 x.Nodes.length c2], by omega, by go_num, owns_puts [.int .i64 x.From, .int .i64 x.To, .slice A2 x.Nodes.length c2] _ _ _ (owns_ext HO.out hb2), Lib.hid (fun j y hj hy => ?_), Ext.puts [.int .i64 x.From, .int .i64 x.To, .slice A2 x.Nodes.length c2] _ _ (hb.trans hb2) (Nat.le_refl _)⟩
        rcases Nat.lt_or_ge j k with hjk | hjk
        · rw [chunk_low (by omega)]
          exact RWinHi.puts [.int .i64 x.From, .int .i64 x.To, .slice A2 x.Nodes.length c2] _ _ (RWinHi.mono _ _ _ _ _ hb2 (HL.out j y hjk hy))
        · obtain rfl : j = k := by omega
          rw [HX.out] at hy; injection hy with hy; subst hy
          rw [chunk_new (by rw [HO.out.1]; omega)]
          exact RWinHi.puts [.int .i64 x.From, .int .i64 x.To, .slice A2 x.Nodes.length c2] _ _ ⟨A2, c2, rfl, HO2.out.slAt, fun q hq => by have := (hblk q hq).1; omega, HR.out⟩
      case measure => simp [intOf]; omega
    · have hkn : k = n := by omega
      have HO := Lib.hid hownr
      have HKN := Lib.hid hkn
      have HN := Lib.hid h.len
      clear hownr hkn h
      go_wp2
      refine bodyPost_ret (results_tmp rfl _ _ _) rfl ⟨_, n, by rw [HN.out]; rfl, ?_, hb⟩
      have hO : OwnAt RWindow 73 3 wr w.heap.size (.slice (some ⟨w.heap.size, 0, none⟩) xs.length n) xs := ⟨L, by rw [HN.out]; exact HO.out, fun j x hx => (HL.out j x (by have := (List.getElem?_eq_some_iff.1 hx).1; rw [HN.out] at this; rw [HKN.out]; exact this) hx).read⟩
      exact hO.slAt
set_option maxHeartbeats 2000000 in
set_option maxRecDepth 4000 in
theorem eqWindowS_t (xs : List Window) (A A' : Option Addr) (n c c' : Nat) (w : World) (h1 : SlAt RWindow 3 w A n xs) (h2 : SlAt RWindow 3 w A' n xs) (hl : n ≤ maxLen) : Calls Tryz.prog 12 #[.slice A n c, .slice A' n c'] w (Ret w (.bool true)) := by
  unfold maxLen at hl
  go_enter Tryz.func12, Tryz.ntmps12
  go_wp2
  go_loopw [5] (fun i wr => ∃ k : Nat, k ≤ n ∧ i = .int .i64 k ∧ Ext w wr) (fun i _ => n - (intOf i).toNat)
  case atStart => exact ⟨0, Nat.zero_le _, rfl, Ext.refl _⟩
  case round =>
    obtain ⟨k, hk, rfl, hb⟩ := hrel
    by_cases hlt : k < n
    · obtain ⟨b, o, x, cs, rfl, hbw, hx, _, hc, hr⟩ := (h1.ext RWindow.mono hb).at_ hlt
      obtain ⟨b', o', y, cs', rfl, hbw', hy, _, hc', hr'⟩ := (h2.ext RWindow.mono hb).at_ hlt
      rw [hx] at hy; injection hy with hy; subst hy
      obtain ⟨A1, c1, rfl, hsl, hml, hf, ht⟩ := win_cells hr
      obtain ⟨A2, c2, rfl, hsl', _, _, _⟩ := win_cells hr'
      have g0 := hc 0 _ rfl
      have g1 := hc 1 _ rfl
      have g2 := hc 2 _ rfl
      simp only [Nat.add_zero] at g0
      have d0 := hc' 0 _ rfl
      have d1 := hc' 1 _ rfl
      have d2 := hc' 2 _ rfl
      simp only [Nat.add_zero] at d0
      have HB := Lib.hid hb
      have HC := Lib.hid (fun (u : World) (e : Ext wr u) => eqWindow_t x A1 c1 A2 c2 u (hsl.ext (Flat.mono _ _) e) (hsl'.ext (Flat.mono _ _) e) hml)
      have hcx := @Later.cell wr
      clear hc hc' hr hr' hsl hsl' hml hf ht hx h1 h2 hb
      go_wp2
      refine wp_region_ext (by kernel_rfl) (by kernel_rfl) ?_
      repeat (go_big_quiet_step ((go_at_call 42; exact Calls.quiet_ext ((HC.out _ (Later.ext _))))))
      refine wpQuiet_nil ?_
      intro w1 hb1
      have HB1 := Lib.hid hb1
      clear hcx g0 g1 g2 d0 d1 d2 hb1
      go_wp2
      go_roundw
      case rel => exact ⟨k + 1, by omega, by go_num, HB.out.trans HB1.out⟩
      case measure => simp [intOf]; omega
    · clear h1 h2
      go_wp2
      exact ret_bool rfl rfl rfl rfl hb
theorem szIntS_w (A : Option Addr) (n c : Nat) (left : Int) (w : World) (hn : n ≤ maxLen) (hl : left ≤ 1048576) (hl0 : 0 ≤ left) : Calls Tryz.prog 60 #[.slice A n c, .int .i64 left] w (Ret w (.int .i64 (szM n left))) := by
  unfold maxLen at hn
  go_enter Tryz.func60, Tryz.ntmps60
  by_cases h : left - n < 0
  · go_wp2
    exact ret_int rfl rfl rfl (by unfold szM; split <;> omega) (Ext.refl _)
  · go_wp2
    exact ret_int rfl rfl rfl (by unfold szM; split <;> omega) (Ext.refl _)
theorem szWindow_w (x : Window) (A : Option Addr) (c : Nat) (left : Int) (w : World) (hl : x.Nodes.length ≤ maxLen) (h1 : left ≤ 1048576) (h0 : 0 ≤ left) : Calls Tryz.prog 24 #[.agg #[.int .i64 x.From, .int .i64 x.To, .slice A x.Nodes.length c], .int .i64 left] w (Ret w (.int .i64 (szM x.Nodes.length left))) := by
  have hc := Lib.hid (fun u : World => szIntS_w A x.Nodes.length c left u hl h1 h0)
  have hs := Lib.hid (show szM x.Nodes.length left < 0 → szM x.Nodes.length left = -1 by unfold szM; split <;> omega)
  generalize szM x.Nodes.length left = z at *
  go_enter Tryz.func24, Tryz.ntmps24
  by_cases hz : z < 0
  · have HZ := Lib.hid (hs.out hz)
    go_wp2_with fail
    refine (hc.out _).mono ?_
    rintro e w1 ⟨rfl, hb1⟩
    go_wp2
    rw [HZ.out]
    exact ret_is (by simp [results, Tryz.results24, go_sem]) rfl (by repeat (first | exact Ext.refl _ | assumption | apply Ext.alloc | apply Ext.drewN | apply Ext.drew | (refine Ext.setCell ?_ (by first | (simp; done) | (simp; omega) | omega) _) | (refine Ext.trans ?_ (by assumption))))
  · go_wp2_with fail
    refine (hc.out _).mono ?_
    rintro e w1 ⟨rfl, hb1⟩
    go_wp2
    exact ret_int rfl rfl rfl rfl (by repeat (first | exact Ext.refl _ | assumption | apply Ext.alloc | apply Ext.drewN | apply Ext.drew | (refine Ext.setCell ?_ (by first | (simp; done) | (simp; omega) | omega) _) | (refine Ext.trans ?_ (by assumption))))
/-- What is left of a budget, or less than nothing. -/
def RetSz (w : World) (xs : List Window) (left : Int) : Ending → World → Prop := fun e w' => ∃ z : Int, e = .returned (.int .i64 z) ∧ (z < 0 ∨ (0 ≤ z ∧ z ≤ left ∧ (xs.length : Int) ≤ left ∧ ∀ x ∈ xs, (x.Nodes.length : Int) ≤ left)) ∧ Ext w w'
set_option maxHeartbeats 2000000 in
set_option maxRecDepth 4000 in
theorem szWindowS_w (xs : List Window) (A : Option Addr) (n c : Nat) (left : Int) (w : World) (h : SlAt RWindow 3 w A n xs) (hn : n ≤ maxLen) (hl : left ≤ 1048576) (hl0 : 0 ≤ left) : Calls Tryz.prog 6 #[.slice A n c, .int .i64 left] w (RetSz w xs left) := by
  unfold maxLen at hn
  have HN := Lib.hid h.len
  by_cases hs : left - n < 0
  · go_enter Tryz.func6, Tryz.ntmps6
    go_wp2
    exact bodyPost_ret (results_tmp rfl _ _ _) rfl ⟨-1, rfl, .inl (by omega), Ext.refl _⟩
  go_enter Tryz.func6, Tryz.ntmps6
  go_wp2
  go_loopw [1, 5] (fun z i wr => ∃ (k : Nat) (q : Int), k ≤ n ∧ i = .int .i64 k ∧ z = .int .i64 q ∧ 0 ≤ q ∧ q ≤ left ∧ Hid (∀ j x, j < k → xs[j]? = some x → (x.Nodes.length : Int) ≤ left) ∧ Ext w wr) (fun _ i _ => n - (intOf i).toNat)
  case atStart => exact ⟨0, left - n, Nat.zero_le _, rfl, by go_num, by omega, by omega, Lib.hid (fun j x hj => by omega), Ext.refl _⟩
  case round =>
    obtain ⟨k, q, hk, rfl, rfl, q0, q1, HF, hb⟩ := hrel
    by_cases hlt : k < n
    · obtain ⟨b, o, x, cs, rfl, hbw, hx, _, hc, hr⟩ := (h.ext RWindow.mono hb).at_ hlt
      obtain ⟨A1, c1, rfl, hsl, hml, hf, ht⟩ := win_cells hr
      have g0 := hc 0 _ rfl
      have g1 := hc 1 _ rfl
      have g2 := hc 2 _ rfl
      simp only [Nat.add_zero] at g0
      have HX := Lib.hid hx
      have HS := Lib.hid (fun u : World => szWindow_w x A1 c1 q u hml (by omega) q0)
      rcases (show szM x.Nodes.length q < 0 ∨ (¬ szM x.Nodes.length q < 0 ∧ szM x.Nodes.length q ≤ q ∧ (x.Nodes.length : Int) ≤ q) from by
        rcases szM_cases x.Nodes.length q with hz | ⟨hz, hle, hl2⟩
        · exact .inl hz
        · exact .inr ⟨hz, by omega, hle⟩) with hz | ⟨hz, hle, hl2⟩
      all_goals
        generalize szM x.Nodes.length q = z at *
        clear hc hr hsl hml hf ht hx h
        go_wp2_with fail
        refine (HS.out _).mono ?_
        rintro e w1 ⟨rfl, hb1⟩
        clear g0 g1 g2
        go_wp2
      · exact bodyPost_ret (results_tmp rfl _ _ _) rfl ⟨-1, rfl, .inl (by omega), hb.trans hb1⟩
      · go_roundw
        case rel => exact ⟨k + 1, z, by omega, by go_num, rfl, by omega, by omega, Lib.hid (fun j y hj hy => by
            rcases Nat.lt_or_ge j k with hjk | hjk
            · exact HF.out j y hjk hy
            · have e : j = k := by omega
              rw [e, HX.out] at hy; injection hy with hy; subst hy; omega), hb.trans hb1⟩
        case measure => simp [intOf]; omega
    · have HKN := Lib.hid (show k = n by omega)
      clear h
      go_wp2
      exact bodyPost_ret (results_tmp rfl _ _ _) rfl ⟨q, rfl, .inr ⟨q0, q1, by rw [HN.out]; omega, fun x hx => by
        obtain ⟨j, hj, e⟩ := List.getElem_of_mem hx
        exact HF.out j x (by rw [HN.out] at hj; rw [HKN.out]; exact hj) (by rw [← e]; exact List.getElem?_eq_getElem hj)⟩, hb⟩
end Go.Proofs.YtgmlcohffdeplaaGreat
/-! NRow -/
namespace Go.Proofs.YtgmlcohffdeplaaGreat
open Go.RowKit
set_option linter.unusedVariables false
structure NItem where
  a : Value
  b : Value
  A : Option Addr
  m : Nat
  c : Nat
  vs : List Value
def NItem.v (t : NItem) : Value := .slice t.A t.m t.c
def apart (a b : Option Nat) : Prop := ∀ k, a = some k → b ≠ some k
/-- A row of n windows, of which the first k are the items f; all lies between lo and hi. -/
structure NR (w : World) (lo hi : Nat) (A : Option Addr) (n c k : Nat) (f : Nat → NItem) : Prop where
  top : hi ≤ w.heap.size
  row : ∃ L, w.ownsRow lo 73 3 (.slice A n c) n L ∧ ∀ j, j < k → (L.drop (j * 3)).take 3 = [(f j).a, (f j).b, (f j).v]
  own : ∀ j, j < k → w.ownsRow lo 3 1 (f j).v (f j).m (f j).vs
  far : ∀ i j, i < k → j < k → i ≠ j → apart (f i).v.ownBlock (f j).v.ownBlock
  low : ∀ q, (Value.slice A n c).ownBlock = some q → q < hi
  lows : ∀ j, j < k → ∀ q, (f j).v.ownBlock = some q → q < hi
theorem apart.symm {a b : Option Nat} (h : apart a b) : apart b a := fun k hb ha => h k ha hb
theorem owns_type {w : World} {lo n : Nat} {e e' : TypeId} {sz sz' n' lo' : Nat} {v v' : Value} {L L' : List Value} (h : w.ownsRow lo e sz v n L) (h' : w.ownsRow lo' e' sz' v' n' L') (hne : e ≠ e') : apart v.ownBlock v'.ownBlock := by
  intro k hk hk'
  rcases h.2 with ⟨rfl, _⟩ | ⟨g, cap, cur, rfl, _, hh, _⟩
  · cases hk
  rcases h'.2 with ⟨rfl, _⟩ | ⟨g', cap', cur', rfl, _, hh', _⟩
  · cases hk'
  have e1 : g = k := Option.some.inj hk
  have e2 : g' = k := Option.some.inj hk'
  subst e1 e2
  rw [hh] at hh'
  injection hh' with hh'
  injection hh' with _ h2
  exact hne h2
theorem NR.ext {w w' : World} {lo hi : Nat} {A : Option Addr} {n c k : Nat} {f : Nat → NItem} (h : NR w lo hi A n c k f) (hb : Ext w w') : NR w' lo hi A n c k f := by
  obtain ⟨L, h1, h2⟩ := h.row
  exact ⟨Nat.le_trans h.top hb.le, ⟨L, owns_ext h1 hb, h2⟩, fun j hj => owns_ext (h.own j hj) hb, h.far, h.low, h.lows⟩
theorem owns_off {w w' : World} {base lo hi : Nat} {e : TypeId} {sz n : Nat} {v : Value} {L : List Value} (h : w.ownsRow base e sz v n L) (ht : Turned lo hi w w') (hd : ∀ q, v.ownBlock = some q → q < lo ∨ hi ≤ q) : w'.ownsRow base e sz v n L := by
  have hlt := h.lt
  obtain ⟨h1, h2⟩ := h
  refine ⟨h1, ?_⟩
  rcases h2 with h2 | ⟨g, cap, cur, rfl, hg, hh, r⟩
  · exact .inl h2
  · exact .inr ⟨g, cap, cur, rfl, hg, (ht.block g (hlt g rfl).2 (hd g rfl)).trans hh, r⟩
theorem NR.keep {w w' : World} {lo hi lo' hi' : Nat} {A : Option Addr} {n c k : Nat} {f : Nat → NItem} (h : NR w lo hi A n c k f) (ht : Turned lo' hi' w w') (hd : hi ≤ lo' ∨ hi' ≤ lo) : NR w' lo hi A n c k f := by
  obtain ⟨L, h1, h2⟩ := h.row
  have hq : ∀ q, lo ≤ q → q < hi → q < lo' ∨ hi' ≤ q := fun q a b => by omega
  exact ⟨Nat.le_trans h.top ht.size, ⟨L, owns_off h1 ht (fun q e => hq q (h1.lt q e).1 (h.low q e)), h2⟩, fun j hj => owns_off (h.own j hj) ht (fun q e => hq q ((h.own j hj).lt q e).1 (h.lows j hj q e)), h.far, h.low, h.lows⟩
theorem NR.cut {w : World} {lo hi : Nat} {A : Option Addr} {n c k : Nat} {f : Nat → NItem} (h : NR w lo hi A n c k f) {hi' : Nat} (h1 : hi ≤ hi') (h2 : hi' ≤ w.heap.size) : NR w lo hi' A n c k f :=
  ⟨h2, h.row, h.own, h.far, fun q e => Nat.lt_of_lt_of_le (h.low q e) h1, fun j hj q e => Nat.lt_of_lt_of_le (h.lows j hj q e) h1⟩
def NMatch (xs : List Window) (f : Nat → NItem) : Prop := ∀ j x, xs[j]? = some x → (f j).a = .int .i64 x.From ∧ (f j).b = .int .i64 x.To ∧ (f j).m = x.Nodes.length ∧ (f j).vs = x.Nodes.flatMap encInt ∧ (∀ y ∈ x.Nodes, In64 y) ∧ In64 x.From ∧ In64 x.To
theorem owns_max {w : World} {lo n : Nat} {e : TypeId} {sz : Nat} {v : Value} {L : List Value} (h : w.ownsRow lo e sz v n L) : n ≤ maxLen := by
  rcases h.2 with ⟨_, h0⟩ | ⟨g, cap, cur, _, _, _, h1, h2, _⟩
  · omega
  · omega
theorem NR.sl {w : World} {lo hi : Nat} {A : Option Addr} {n c : Nat} {f : Nat → NItem} {xs : List Window} (h : NR w lo hi A n c n f) (hn : xs.length = n) (hm : NMatch xs f) : SlAt RWindow 3 w A n xs := by
  subst hn
  obtain ⟨L, h1, h2⟩ := h.row
  have hO : OwnAt RWindow 73 3 w lo (.slice A xs.length c) xs := ⟨L, h1, fun j x hx => by
    have hj := (List.getElem?_eq_some_iff.1 hx).1
    obtain ⟨m1, m2, m3, m4, m5, m6, m7⟩ := hm j x hx
    rw [h2 j hj, m1, m2]
    have ho := h.own j hj
    have hmx := owns_max ho
    rw [m4] at ho
    unfold NItem.v at ho ⊢
    rw [m3] at ho hmx ⊢
    exact ⟨[.int .i64 x.From], [.int .i64 x.To], [.slice (f j).A x.Nodes.length (f j).c], rfl, ⟨rfl, m6⟩, ⟨rfl, m7⟩, (f j).A, _, (f j).c, rfl, (OwnAt.flat encInt_size m5 ho).slAt, hmx⟩⟩
  exact hO.slAt
theorem chunk_far {L us : List Value} {k j : Nat} (h : j ≠ k) (hu : us.length ≤ 3) : ((setAll L (k * 3) us).drop (j * 3)).take 3 = (L.drop (j * 3)).take 3 := by
  rcases Nat.lt_or_ge j k with hjk | hjk
  · exact chunk_low (by omega)
  · have e : ∀ (us L : List Value) (p : Nat), p + us.length ≤ j * 3 → (setAll L p us).drop (j * 3) = L.drop (j * 3) := by
      intro us
      induction us with
      | nil => intro L p _; rfl
      | cons u us ih =>
        intro L p hp
        rw [setAll, ih _ _ (by simp at hp; omega)]
        exact List.drop_set_of_lt (by simp at hp; omega)
    rw [e us L _ (by omega)]
theorem chunk_two {L : List Value} {a b a' b' v : Value} {k : Nat} (h : k * 3 + 3 ≤ L.length) (hc : (L.drop (k * 3)).take 3 = [a', b', v]) : ((setAll L (k * 3) [a, b]).drop (k * 3)).take 3 = [a, b, v] := by
  have h2 : L[k * 3 + 2]? = some v := by
    have := congrArg (fun l => l[2]?) hc
    simp only [List.getElem?_take_of_lt (show 2 < 3 by omega), List.getElem?_drop] at this
    simpa using this
  apply List.ext_getElem?
  intro i
  by_cases hi : i < 3
  · rw [List.getElem?_take_of_lt hi, List.getElem?_drop, setAll, setAll, setAll]
    have : i = 0 ∨ i = 1 ∨ i = 2 := by omega
    rcases this with rfl | rfl | rfl
    · rw [List.getElem?_set_ne (by omega), Nat.add_zero, List.getElem?_set_self (by omega)]; rfl
    · rw [List.getElem?_set_self (by simp; omega)]; rfl
    · rw [List.getElem?_set_ne (by omega), List.getElem?_set_ne (by omega), h2]; rfl
  · rw [List.getElem?_eq_none (by rw [List.length_take]; omega), List.getElem?_eq_none (by simp; omega)]
end Go.Proofs.YtgmlcohffdeplaaGreat
/-! NMark -/
namespace Go.Proofs.YtgmlcohffdeplaaGreat
open Go.RowKit
set_option linter.unusedVariables false
def npos (f : Nat → NItem) (k0 : Int) : Nat → Int
  | 0 => k0
  | i + 1 => npos f k0 i + 2 + (f i).m
def nmi (f : Nat → NItem) (k0 : Int) (j : Nat) : NItem := ⟨.int .i64 (npos f k0 j), .int .i64 (npos f k0 j + 1), (f j).A, (f j).m, (f j).c, marks mkInt 1 (npos f k0 j + 2) (f j).m⟩
theorem npos_bd {f : Nat → NItem} {k0 : Int} {n : Nat} (hm : ∀ j, j < n → (f j).m ≤ 1048576) : ∀ i, i ≤ n → k0 ≤ npos f k0 i ∧ npos f k0 i ≤ k0 + i * 1048578 := by
  intro i
  induction i with
  | zero => intro _; rw [npos]; omega
  | succ i ih => intro hi; rw [npos]; have := ih (by omega); have := hm i (by omega); omega
theorem NR.congr {w : World} {lo hi : Nat} {A : Option Addr} {n c k : Nat} {f f' : Nat → NItem} (h : NR w lo hi A n c k f) (e : ∀ j, j < k → f j = f' j) : NR w lo hi A n c k f' := by
  obtain ⟨L, h1, h2⟩ := h.row
  exact ⟨h.top, ⟨L, h1, fun j hj => by rw [← e j hj]; exact h2 j hj⟩, fun j hj => by rw [← e j hj]; exact h.own j hj, fun i j hi hj hij => by rw [← e i hi, ← e j hj]; exact h.far i j hi hj hij, h.low, fun j hj => by rw [← e j hj]; exact h.lows j hj⟩
theorem owns_stored_far {w : World} {lo n : Nat} {e : TypeId} {sz : Nat} {v : Value} {L : List Value} {g p : Nat} {u : Value} (h : w.ownsRow lo e sz v n L) (hne : v.ownBlock ≠ some g) : (w.setCell ⟨g, p, none⟩ u).ownsRow lo e sz v n L := by
  obtain ⟨h1, h2⟩ := h
  refine ⟨h1, ?_⟩
  rcases h2 with h2 | ⟨b, cap, cur, rfl, hg, hh, r⟩
  · exact .inl h2
  · refine .inr ⟨b, cap, cur, rfl, hg, (Below.heap_setCell _ _ _ _ (fun e => hne ?_)).trans hh, r⟩
    simp only [] at e
    rw [e]; rfl
theorem NR.put2 {w : World} {lo hi g : Nat} {n c k i : Nat} {f : Nat → NItem} (h : NR w lo hi (some ⟨g, 0, none⟩) n c k f) (hi' : i < k) (hk : k ≤ n) (a b : Value) :
    NR ((w.setCell ⟨g, i * 3, none⟩ a).setCell ⟨g, i * 3 + 1, none⟩ b) lo hi (some ⟨g, 0, none⟩) n c k (fun j => if j = i then ⟨a, b, (f i).A, (f i).m, (f i).c, (f i).vs⟩ else f j) := by
  obtain ⟨L, h1, h2⟩ := h.row
  have s1 := (h1.stored (i * 3) a).1
  have s2 := (s1.stored (i * 3 + 1) b).1
  have hv : ∀ j, (if j = i then (⟨a, b, (f i).A, (f i).m, (f i).c, (f i).vs⟩ : NItem) else f j).v = (f j).v := fun j => by
    by_cases e : j = i
    · rw [if_pos e, e]; rfl
    · rw [if_neg e]
  refine ⟨by simpa using h.top, ⟨setAll L (i * 3) [a, b], s2, fun j hj => ?_⟩, fun j hj => ?_, fun i' j hi1 hj hij => by rw [hv, hv]; exact h.far i' j hi1 hj hij, h.low, fun j hj => by rw [hv]; exact h.lows j hj⟩
  · by_cases e : j = i
    · subst e
      rw [hv, if_pos rfl]
      exact chunk_two (by rw [h1.1]; omega) (h2 j hj)
    · rw [chunk_far e (by simp), if_neg e]; exact h2 j hj
  · have ho := h.own j hj
    have hne : (f j).v.ownBlock ≠ some g := fun e => owns_type h1 ho (by decide) g rfl e
    have e2 := owns_stored_far (p := i * 3 + 1) (u := b) (owns_stored_far (p := i * 3) (u := a) ho hne) hne
    by_cases e : j = i
    · subst e; rw [if_pos rfl]; exact e2
    · rw [if_neg e]; exact e2
theorem NR.inner {w w' : World} {lo hi : Nat} {A : Option Addr} {n c k i : Nat} {f : Nat → NItem} {vs : List Value} (h : NR w lo hi A n c k f) (hi' : i < k) (hg : w.grownBy w' (f i).v.ownBlock) (ho : w'.ownsRow lo 3 1 (f i).v (f i).m vs) :
    NR w' lo hi A n c k (fun j => if j = i then ⟨(f i).a, (f i).b, (f i).A, (f i).m, (f i).c, vs⟩ else f j) := by
  obtain ⟨L, h1, h2⟩ := h.row
  have hv : ∀ j, (if j = i then (⟨(f i).a, (f i).b, (f i).A, (f i).m, (f i).c, vs⟩ : NItem) else f j).v = (f j).v := fun j => by
    by_cases e : j = i
    · rw [if_pos e, e]; rfl
    · rw [if_neg e]
  have kp : ∀ {e : TypeId} {sz m : Nat} {v : Value} {M : List Value}, w.ownsRow lo e sz v m M → apart v.ownBlock (f i).v.ownBlock → w'.ownsRow lo e sz v m M := fun {e sz m v M} hw ha => hw.kept hg (by
    cases hb : v.ownBlock with
    | none => exact .inl rfl
    | some q => exact .inr (fun e => ha q hb e.symm))
  refine ⟨Nat.le_trans h.top hg.size, ⟨L, kp h1 (owns_type h1 (h.own i hi') (by decide)), fun j hj => ?_⟩, fun j hj => ?_, fun i' j hi1 hj hij => by rw [hv, hv]; exact h.far i' j hi1 hj hij, h.low, fun j hj => by rw [hv]; exact h.lows j hj⟩
  · rw [hv]
    by_cases e : j = i
    · subst e; rw [if_pos rfl]; exact h2 j hj
    · rw [if_neg e]; exact h2 j hj
  · by_cases e : j = i
    · subst e; rw [if_pos rfl]; exact ho
    · rw [if_neg e]; exact kp (h.own j hj) (h.far j i hj hi' e)
theorem NR.turned_put {w0 w : World} {lo hi g p : Nat} {u : Value} (h : Turned lo hi w0 w) (h1 : lo ≤ g) (h2 : g < hi) : Turned lo hi w0 (w.setCell ⟨g, p, none⟩ u) :=
  ⟨h.os, h.tape, h.output, by simpa [World.setCell] using h.size, fun b hb hr => (Below.heap_setCell _ _ _ _ (by simp only []; omega)).trans (h.block b hb hr)⟩
theorem NR.turned_in {w w' : World} {lo hi : Nat} {b : Option Nat} (hg : w.grownBy w' b) (h1 : ∀ q, b = some q → lo ≤ q ∧ q < hi) : Turned lo hi w w' :=
  ⟨hg.os, hg.tape, hg.output, hg.size, fun k hk hr => hg.block k hk (fun e => by have := h1 k e.symm; omega)⟩
theorem NR.third {w : World} {lo hi g n c k i : Nat} {f : Nat → NItem} (h : NR w lo hi (some ⟨g, 0, none⟩) n c k f) (hi' : i < k) (hk : k ≤ n) : w.cell? ⟨g, i * 3, none⟩ = some (f i).a ∧ w.cell? ⟨g, i * 3 + 1, none⟩ = some (f i).b ∧ w.cell? ⟨g, i * 3 + 2, none⟩ = some (f i).v := by
  obtain ⟨L, h1, h2⟩ := h.row
  have hc := h2 i hi'
  have key : ∀ t, t < 3 → L[i * 3 + t]? = [(f i).a, (f i).b, (f i).v][t]? := fun t ht => by
    rw [← hc, List.getElem?_take_of_lt ht, List.getElem?_drop]
  have hl : i * 3 + 3 ≤ n * 3 := by omega
  refine ⟨?_, ?_, ?_⟩
  · rw [h1.cellAt (i * 3) (by omega)]; simpa using key 0 (by omega)
  · rw [h1.cellAt (i * 3 + 1) (by omega)]; simpa using key 1 (by omega)
  · rw [h1.cellAt (i * 3 + 2) (by omega)]; simpa using key 2 (by omega)
def RetNM (w : World) (lo hi : Nat) (A : Option Addr) (n c : Nat) (f : Nat → NItem) (k0 : Int) : Ending → World → Prop := fun e w' => e = .returned (.int .i64 (npos f k0 n)) ∧ NR w' lo hi A n c n (nmi f k0) ∧ Turned lo hi w w'
end Go.Proofs.YtgmlcohffdeplaaGreat
/-! Append -/
namespace Go.Proofs.YtgmlcohffdeplaaGreat
open Go.RowKit
/-- 'out = append(out, x)': out the call's own (or nil), x one value, laid in a box of its own; blocks of another type stay as they are. -/
theorem wpList_append_one_k {P : Program} {w w0 : World} {ops : Array Oper} {rest : List Oper} {o : Oper} {a : Act} {Q : Exit → Act → World → Prop} (s x : Operand) (t : TypeId)
    (base : Nat) (e : TypeId) (i : TypeInfo) (z : Value) (size bytes : Nat) (v : Value) (n : Nat) (L cs : List Value) (hgd : o.guard = none)
    (ho : o.op = .call { callee := .builtin .append, args := #[s, x], argTypes := #[t, t] })
    (ht : P.underlying t = some (.slice e)) (hi : P.info? e = some i) (hz : i.zero = some z)
    (hsize : i.size = size) (hby : i.bytes = bytes) (hzs : z.cells.size = size) (hsz : 0 < size)
    (hs : a.eval s = v) (hown : w.ownsRow base e size v n L)
    (p : Nat) (hx : a.eval x = .slice (some ⟨p, 0, none⟩) 1 1) (hp : p = w.heap.size) (hl : cs.length = size) (h1 : ∀ u ∈ cs, u.oneCell' = true)
    (h63 : n + 1 ≤ maxLen) (hbytes : (n + 1) * bytes ≤ 140737488355328) (hext : Ext w0 w) (hb0 : w0.heap.size ≤ base)
    (hbw : base ≤ w.heap.size)
    (h : ∀ A c w', w'.ownsRow base e size (.slice A (n + 1) c) (n + 1) (L ++ cs) → Ext w0 w' → w'.heap.size ≥ w.heap.size → (∀ (b : Nat) (cs' : Array Value) (e' : TypeId), e' ≠ e → w.heap[b]? = some (Obj.cells cs' e') → w'.heap[b]? = some (Obj.cells cs' e')) → wpList P ops Q rest (a.put o.dst (.slice A (n + 1) c)) w') : wpList P ops Q (o :: rest) a (w.alloc (.cells cs.toArray e)) := by
  subst hp
  refine wpList_append_own _ hgd s x t ho base e i z size bytes ht hi hz hsize hby hzs hsz v n L hs (hown.alloc _) ⟨w.heap.size, 0, none⟩ 1 1 cs hx (by rw [hl, Nat.one_mul]) (cell_boxed w cs e) h1 h63 hbytes (by simp; omega) ?_
  intro v' w' ho' hg' _
  have hb' : Ext w0 w' := Below.grown (Ext.alloc hext _) hg' (by have := hext.le; simp; omega) (fun k hk => by
    have := (hown.alloc (.cells cs.toArray e)).lt k hk; omega)
  have hkeep : ∀ (b : Nat) (cs' : Array Value) (e' : TypeId), e' ≠ e → w.heap[b]? = some (Obj.cells cs' e') → w'.heap[b]? = some (Obj.cells cs' e') := by
    intro b cs' e' hne hb
    have hbl : b < w.heap.size := by
      rcases Nat.lt_or_ge b w.heap.size with hl | hl
      · exact hl
      · rw [Array.getElem?_eq_none hl] at hb; cases hb
    have hne2 : some b ≠ v.ownBlock := by
      intro hv
      rcases hown.2 with ⟨rfl, _⟩ | ⟨g, cap, cur, rfl, _, hh, _⟩
      · cases hv
      · injection hv with hv; subst hv
        rw [hh] at hb; injection hb with hb; injection hb with _ h2; exact hne h2.symm
    have h1 := hg'.block b (by simp; omega) hne2
    rw [h1]
    have h2 := ((Ext.refl w).alloc (.cells cs.toArray e)).block b hbl
    rw [h2]; exact hb
  have hsz' := hg'.size
  simp at hsz'
  obtain ⟨hlen, ⟨_, h0⟩ | ⟨g, cap, cur, rfl, r⟩⟩ := ho'
  · omega
  · exact h _ _ _ ⟨hlen, .inr ⟨g, cap, cur, rfl, r⟩⟩ hb' (by omega) hkeep

theorem cell_block {w : World} {b : Nat} {cs : List Value} {e : TypeId} (h : w.heap[b]? = some (Obj.cells cs.toArray e)) (j : Nat) (u : Value) (hj : cs[j]? = some u) : w.cell? ⟨b, j, none⟩ = some u := by
  rw [cell_of_row w b j cs.toArray e (0, 0) h]; simpa using hj
theorem Ext.heap {w w' : World} (h : Ext w w') {b : Nat} {o : Obj} (hb : w.heap[b]? = some o) : w'.heap[b]? = some o := by
  have hbl : b < w.heap.size := by
    rcases Nat.lt_or_ge b w.heap.size with hl | hl
    · exact hl
    · rw [Array.getElem?_eq_none hl] at hb; cases hb
  rw [h.block b hbl]; exact hb
end Go.Proofs.YtgmlcohffdeplaaGreat
/-! NWin -/
namespace Go.Proofs.YtgmlcohffdeplaaGreat
open Go.RowKit
set_option linter.unusedVariables false
theorem NR.snoc {w w' : World} {lo hi : Nat} {A A' : Option Addr} {n c n' c' k : Nat} {f : Nat → NItem} (t : NItem) {L' : List Value} (h : NR w lo hi A n c k f)
    (hown : ∀ j, j < k → w'.ownsRow lo 3 1 (f j).v (f j).m (f j).vs) (hL : w'.ownsRow lo 73 3 (.slice A' n' c') n' L')
    (hold : ∀ j, j < k → (L'.drop (j * 3)).take 3 = [(f j).a, (f j).b, (f j).v]) (hnew : (L'.drop (k * 3)).take 3 = [t.a, t.b, t.v])
    (ht : w'.ownsRow lo 3 1 t.v t.m t.vs) (hB : ∀ q, t.v.ownBlock = some q → hi ≤ q) :
    NR w' lo w'.heap.size A' n' c' (k + 1) (fun j => if j = k then t else f j) := by
  have hO : ∀ j, j < k + 1 → w'.ownsRow lo 3 1 (if j = k then t else f j).v (if j = k then t else f j).m (if j = k then t else f j).vs := fun j hj => by
    by_cases e : j = k
    · rw [if_pos e]; exact ht
    · rw [if_neg e]; exact hown j (by omega)
  refine ⟨Nat.le_refl _, ⟨L', hL, fun j hj => ?_⟩, hO, fun i j hi' hj hij => ?_, fun q e => (hL.lt q e).2, fun j hj q e => ((hO j hj).lt q e).2⟩
  · by_cases e : j = k
    · subst e; rw [if_pos rfl]; exact hnew
    · rw [if_neg e]; exact hold j (by omega)
  · by_cases e1 : i = k
    · have e2 : ¬ j = k := by omega
      simp only [if_pos e1, if_neg e2]
      intro q hq hq'
      have h1 := h.lows j (by omega) q hq'
      have h2 := hB q hq
      omega
    · by_cases e2 : j = k
      · simp only [if_neg e1, if_pos e2]
        intro q hq hq'
        have h1 := h.lows i (by omega) q hq
        have h2 := hB q hq'
        omega
      · simp only [if_neg e1, if_neg e2]
        exact h.far i j (by omega) (by omega) hij
theorem owns_puts_far {lo n : Nat} {e : TypeId} {sz : Nat} {v : Value} {L : List Value} {g : Nat} (hne : v.ownBlock ≠ some g) (us : List Value) : ∀ (w : World) (p : Nat), w.ownsRow lo e sz v n L → (setCells w g p us).ownsRow lo e sz v n L := by
  induction us with
  | nil => intro w p h; exact h
  | cons u us ih => intro w p h; exact ih _ _ (owns_stored_far h hne)
theorem owns_kept_type {w w' : World} {lo n : Nat} {e E : TypeId} {sz : Nat} {v : Value} {L : List Value} (h : w.ownsRow lo e sz v n L) (hk : ∀ (b : Nat) (cs' : Array Value) (e' : TypeId), e' ≠ E → w.heap[b]? = some (Obj.cells cs' e') → w'.heap[b]? = some (Obj.cells cs' e')) (hne : e ≠ E) : w'.ownsRow lo e sz v n L := by
  obtain ⟨h1, h2⟩ := h
  refine ⟨h1, ?_⟩
  rcases h2 with h2 | ⟨b, cap, cur, rfl, hg, hh, r⟩
  · exact .inl h2
  · exact .inr ⟨b, cap, cur, rfl, hg, hk _ _ _ hne hh, r⟩
theorem own_row {α : Type} {enc : α → List Value} {ok : α → Prop} {e : TypeId} {sz base : Nat} {w : World} {v : Value} {xs : List α} (hsz : ∀ x, (enc x).length = sz) (hs0 : 0 < sz) (h : OwnAt (Flat enc ok) e sz w base v xs) : w.ownsRow base e sz v xs.length (xs.flatMap enc) ∧ ∀ x ∈ xs, ok x := by
  obtain ⟨L, h1, h2⟩ := h
  have hL : xs.flatMap enc = L := by
    have hlen : ∀ l : List α, (l.flatMap enc).length = l.length * sz := by
      intro l
      induction l with
      | nil => simp
      | cons a r ih => rw [List.flatMap_cons, List.length_append, hsz, ih, List.length_cons, Nat.add_mul]; omega
    apply List.ext_getElem?
    intro t
    by_cases ht : t < xs.length * sz
    · have hq : t / sz < xs.length := by rw [Nat.div_lt_iff_lt_mul hs0]; exact ht
      have hr : t % sz < sz := Nat.mod_lt _ hs0
      have hx : xs[t / sz]? = some xs[t / sz] := List.getElem?_eq_getElem hq
      have e1 := flatMap_get (enc := enc) (j := t % sz) hsz hr hx
      have e2 := (h2 _ _ hx).1
      have et : t / sz * sz + t % sz = t := by rw [Nat.mul_comm]; exact Nat.div_add_mod t sz
      rw [et] at e1
      rw [e1, ← e2, List.getElem?_take_of_lt hr, List.getElem?_drop, et]
    · rw [List.getElem?_eq_none (by rw [hlen]; omega), List.getElem?_eq_none (by rw [h1.1]; omega)]
  refine ⟨by rw [hL]; exact h1, fun x hx => ?_⟩
  obtain ⟨k, hk⟩ := List.mem_iff_getElem?.1 hx
  exact (h2 k x hk).2
theorem NMatch.snoc {ys : List Window} {f : Nat → NItem} {k : Nat} (h : NMatch ys f) (hk : ys.length = k) (x : Window) (t : NItem) (ha : t.a = .int .i64 x.From) (hb : t.b = .int .i64 x.To) (hm : t.m = x.Nodes.length) (hv : t.vs = x.Nodes.flatMap encInt) (h1 : ∀ y ∈ x.Nodes, In64 y) (h2 : In64 x.From) (h3 : In64 x.To) : NMatch (ys ++ [x]) (fun j => if j = k then t else f j) := by
  intro j y hy
  by_cases e : j = k
  · subst e
    have : y = x := by
      rw [← hk, List.getElem?_append_right (Nat.le_refl _), Nat.sub_self] at hy
      injection hy with hy; exact hy.symm
    subst this
    simp only [if_true]
    exact ⟨ha, hb, hm, hv, h1, h2, h3⟩
  · have hj : j < ys.length := by
      have := (List.getElem?_eq_some_iff.1 hy).1
      rw [List.length_append] at this; simp at this; omega
    rw [List.getElem?_append_left hj] at hy
    simp only [if_neg e]
    exact h j y hy
def RetNR (w : World) (xs : List Window) : Ending → World → Prop := fun e w' => ∃ A c f, e = .returned (.slice A xs.length c) ∧ NR w' w.heap.size w'.heap.size A xs.length c xs.length f ∧ NMatch xs f ∧ Ext w w'
theorem sl_ok {w : World} {A : Option Addr} {n : Nat} {xs : List Int} (h : SlAt RInt 1 w A n xs) : ∀ y ∈ xs, In64 y := fun y hy => by
  obtain ⟨k, hk, rfl⟩ := List.getElem_of_mem hy
  obtain ⟨b, o, x, cs, _, _, hx, _, _, _, hok⟩ := h.at_ (k := k) (by rw [← h.len]; exact hk)
  rw [List.getElem?_eq_getElem hk] at hx
  injection hx with hx
  rw [hx]; exact hok
set_option maxHeartbeats 2000000 in
set_option maxRecDepth 4000 in
theorem toWindowS_n (xs : List Window) (A : Option Addr) (n c : Nat) (w : World) (h : SlAt RWindow 3 w A n xs) (hn : n ≤ 1048576) (hle : ∀ x ∈ xs, x.Nodes.length ≤ 1048576) : Calls Tryz.prog 9 #[.slice A n c] w (RetNR w xs) := by
  obtain ⟨i0, hi, hz0, hz1, hz2⟩ := info_parts (show (Tryz.prog.info? 73).map (fun i => (i.zero, i.size, i.bytes)) = some (some (.agg #[.int .i64 0, .int .i64 0, .slice none 0 0]), 3, 40) by kernel_rfl)
  have HLE := Lib.hid hle
  go_enter Tryz.func9, Tryz.ntmps9
  go_wp2_with (at_make; refine wpList_make_full _ rfl _ _ 48 rfl w.heap.size 73 i0 _ 3 Tryz.underlying48 hi hz0 hz1 .i64 .i64 n n n rfl rfl rfl rfl (by rw [hz2]; omega) (by unfold maxLen; omega) (Nat.le_refl _) ?_; intro w1 hown hg; have hb1 : Ext w w1 := Below.grown (Below.refl _ _) hg (Nat.le_refl _) (by simp))
  clear hg hi hz0 hz1 hz2
  go_loopw [4] (fun i wr => ∃ (k : Nat) (f : Nat → NItem), k ≤ n ∧ i = .int .i64 k ∧ Hid (NR wr w.heap.size wr.heap.size (some ⟨w.heap.size, 0, none⟩) n n k f) ∧ Hid (NMatch (xs.take k) f) ∧ Ext w wr) (fun i _ => n - (intOf i).toNat)
  case atStart => exact ⟨0, fun _ => ⟨undef, undef, none, 0, 0, []⟩, Nat.zero_le _, rfl, Lib.hid ⟨Nat.le_refl _, ⟨_, hown, fun j hj => by omega⟩, fun j hj => by omega, fun i j hi => by omega, fun q e => (hown.lt q e).2, fun j hj => by omega⟩, Lib.hid (fun j x hx => by simp at hx), hb1⟩
  case round =>
    obtain ⟨k, f, hk, rfl, HNR, HM, hb⟩ := hrel
    clear hown hb1
    by_cases hlt : k < n
    · obtain ⟨b, o, x, cs, rfl, hbw, hx, _, hc, hr⟩ := (h.ext RWindow.mono hb).at_ hlt
      obtain ⟨A1, c1, rfl, hsl, hml, hf, ht⟩ := win_cells hr
      have g0 := hc 0 _ rfl
      have g1 := hc 1 _ rfl
      have g2 := hc 2 _ rfl
      simp only [Nat.add_zero] at g0
      have HX := Lib.hid hx
      have HLX := Lib.hid (HLE.out x (List.mem_of_getElem? hx))
      have HSL := Lib.hid hsl
      have HN := Lib.hid h.len
      have HR := Lib.hid (show x.Nodes.length ≤ maxLen ∧ In64 x.From ∧ In64 x.To from ⟨hml, hf, ht⟩)
      obtain ⟨L, hL, hrow⟩ := HNR.out.row
      have HROW := Lib.hid hrow
      have HO := Lib.hid hL
      have hgr : w.heap.size < wr.heap.size := (hL.lt _ rfl).2
      clear hc hr hsl hml hf ht hx hL hrow h
      go_wp2_with (go_at_call 33; refine (toWindow_c x _ _ _ HSL.out HLX.out).mono ?_; rintro e w2 ⟨A2, c2, rfl, ho2, hb2⟩; obtain ⟨y0, hy0⟩ := owns_cell (owns_ext HO.out hb2) (j := k * 3) (by omega); obtain ⟨y1, hy1⟩ := owns_cell (owns_ext HO.out hb2) (j := k * 3 + 1) (by omega); obtain ⟨y2, hy2⟩ := owns_cell (owns_ext HO.out hb2) (j := k * 3 + 2) (by omega); have z0 := (owns_ext HO.out hb2).frozenAt (k * 3); have z1 := (owns_ext HO.out hb2).frozenAt (k * 3 + 1); have z2 := (owns_ext HO.out hb2).frozenAt (k * 3 + 2); have HO2 := Lib.hid ho2; have hz2 : w.heap.size < w2.heap.size := (by have := hb2.le; omega))
      go_roundw
      case rel =>
        have hblk := HO2.out.block
        have hr2 := own_row (enc := encInt) (ok := In64) (sz := 1) (fun _ => rfl) (by decide) HO2.out
        have hO2 : w2.ownsRow w.heap.size 3 1 (.slice A2 x.Nodes.length c2) x.Nodes.length (x.Nodes.flatMap encInt) := owns_base hr2.1 hb.le
        have hLw := owns_ext HO.out hb2
        have hLn := owns_puts [.int .i64 x.From, .int .i64 x.To, .slice A2 x.Nodes.length c2] _ _ (k * 3) hLw
        refine ⟨k + 1, _, by omega, by go_num, Lib.hid (HNR.out.snoc (t := ⟨.int .i64 x.From, .int .i64 x.To, A2, x.Nodes.length, c2, x.Nodes.flatMap encInt⟩) (w' := setCells w2 w.heap.size (k * 3) [.int .i64 x.From, .int .i64 x.To, .slice A2 x.Nodes.length c2]) (fun j hj => ?_) hLn (fun j hj => ?_) ?_ ?_ ?_), Lib.hid ?_, Ext.puts [.int .i64 x.From, .int .i64 x.To, .slice A2 x.Nodes.length c2] _ _ (hb.trans hb2) (Nat.le_refl _)⟩
        · exact owns_puts_far (fun e => owns_type hLw (owns_ext (HNR.out.own j hj) hb2) (by decide) _ rfl e) _ _ _ (owns_ext (HNR.out.own j hj) hb2)
        · rw [chunk_low (by omega)]; exact HROW.out j hj
        · exact chunk_new (by rw [HO.out.1]; omega)
        · exact owns_puts_far (fun e => owns_type hLw hO2 (by decide) _ rfl e) _ _ _ hO2
        · intro q hq; exact (hblk q hq).1
        · rw [take_succ HX.out]
          exact HM.out.snoc (by rw [List.length_take, HN.out]; omega) x _ rfl rfl rfl rfl hr2.2 HR.out.2.1 HR.out.2.2
      case measure => simp [intOf]; omega
    · have hkn : k = n := by omega
      have HKN := Lib.hid hkn
      have HN := Lib.hid h.len
      clear hkn h
      go_wp2
      refine bodyPost_ret (results_tmp rfl _ _ _) rfl ⟨_, n, f, by rw [HN.out]; rfl, ?_, ?_, hb⟩
      · rw [HN.out]
        have := HNR.out
        rw [HKN.out] at this
        exact this
      · have := HM.out
        rw [HKN.out, List.take_of_length_le (by rw [HN.out]; exact Nat.le_refl _)] at this
        exact this
end Go.Proofs.YtgmlcohffdeplaaGreat
/-! NCut -/
namespace Go.Proofs.YtgmlcohffdeplaaGreat
open Go.RowKit
set_option linter.unusedVariables false
def cutL (xs : List Window) (at_ : Int) : List Window := xs.filter (fun x => decide (at_ < x.To))
theorem cut_succ {xs : List Window} {at_ : Int} {k : Nat} {x : Window} (hx : xs[k]? = some x) : cutL (xs.take (k + 1)) at_ = if at_ < x.To then cutL (xs.take k) at_ ++ [x] else cutL (xs.take k) at_ := by
  unfold cutL
  rw [take_succ hx, List.filter_append]
  by_cases h : at_ < x.To
  · rw [if_pos h]; simp [h]
  · rw [if_neg h]; simp [h]
theorem cell_box_at (w : World) (b : Nat) (hb : w.heap.size = b) (cs : List Value) (e : TypeId) (j : Nat) (u : Value) (h : cs[j]? = some u) : (w.alloc (.cells cs.toArray e)).cell? ⟨b, j, none⟩ = some u := by
  subst hb; exact law_box w cs e j u h
theorem frozen_box_at (w : World) (b : Nat) (hb : w.heap.size = b) (cs : Array Value) (e : TypeId) (j : Nat) : (w.alloc (.cells cs e)).frozen? ⟨b, j, none⟩ = false := by
  subst hb; simp
theorem NInt.one (y : Int) : ∀ u ∈ encInt y, u.oneCell' = true := by
  intro u hu; simp [encInt] at hu; subst hu; rfl
theorem NInt.info : (Tryz.prog.info? 3).map (fun i => (i.zero, i.size, i.bytes)) = some (some (.int .i64 0), 1, 8) := by kernel_rfl
theorem NWindow.info : (Tryz.prog.info? 73).map (fun i => (i.zero, i.size, i.bytes)) = some (some (.agg #[.int .i64 0, .int .i64 0, .slice none 0 0]), 3, 40) := by kernel_rfl
def RetNRow (w : World) (xs : List Int) : Ending → World → Prop := fun e w' => ∃ A c, e = .returned (.slice A xs.length c) ∧ w'.ownsRow w.heap.size 3 1 (.slice A xs.length c) xs.length (xs.flatMap encInt) ∧ Ext w w'
theorem copyInts_n (xs : List Int) (A : Option Addr) (n c : Nat) (w : World) (h : SlAt RInt 1 w A n xs) (hl : n ≤ 1048576) : Calls Tryz.prog 104 #[.slice A n c] w (RetNRow w xs) := by
  obtain ⟨i0, hi, hI0, hI1, hI2⟩ := info_parts NInt.info
  obtain rfl := h.len
  go_enter Tryz.func104, Tryz.ntmps104
  go_wp2_with (at_builtin; go_must (refine wpList_append_list (w0 := w) (.const (.slice none 0 0)) (.tmp 3) _ w.heap.size 3 i0 _ 1 8 (.slice none 0 0) 0 [] A xs.length c xs rfl rfl Tryz.underlying22 hi hI0 hI1 hI2 rfl (by omega) rfl (World.ownsRow_nil _ _ _ _) rfl h (fun _ => rfl) NInt.one (by unfold maxLen; omega) (by omega) (Ext.refl _) (Nat.le_refl _) (Nat.le_refl _) ?_); intro A1 c1 w1 ho1 hb1 hs1)
  simp only [Nat.zero_add, List.nil_append] at ho1
  have HO := Lib.hid ho1
  clear ho1
  go_wp2
  exact bodyPost_ret (results_tmp rfl _ _ _) rfl ⟨A1, c1, by simp, HO.out, hb1⟩
theorem chunk_app_low {L us : List Value} {n j : Nat} (hl : L.length = n * 3) (h : j < n) : ((L ++ us).drop (j * 3)).take 3 = (L.drop (j * 3)).take 3 := by
  rw [List.drop_append_of_le_length (by omega), List.take_append_of_le_length (by rw [List.length_drop]; omega)]
theorem chunk_app_new {L : List Value} {a b c : Value} {n : Nat} (hl : L.length = n * 3) : ((L ++ [a, b, c]).drop (n * 3)).take 3 = [a, b, c] := by
  rw [← hl, List.drop_left]; rfl
/-- One window more behind a row: what the append hands back. -/
theorem NR.grow {w0 w w' : World} {lo hi : Nat} {A A' : Option Addr} {m c c' : Nat} {f : Nat → NItem} {L : List Value} (t : NItem) (h : NR w0 lo hi A m c m f) (hb : Ext w0 w) (hL : w0.ownsRow lo 73 3 (.slice A m c) m L) (hc : ∀ j, j < m → (L.drop (j * 3)).take 3 = [(f j).a, (f j).b, (f j).v])
    (hL' : w'.ownsRow lo 73 3 (.slice A' (m + 1) c') (m + 1) (L ++ [t.a, t.b, t.v]))
    (hk : ∀ (b : Nat) (cs' : Array Value) (e' : TypeId), e' ≠ 73 → w.heap[b]? = some (Obj.cells cs' e') → w'.heap[b]? = some (Obj.cells cs' e'))
    (ht : w.ownsRow lo 3 1 t.v t.m t.vs) (hB : ∀ q, t.v.ownBlock = some q → hi ≤ q) :
    NR w' lo w'.heap.size A' (m + 1) c' (m + 1) (fun j => if j = m then t else f j) :=
  h.snoc t (fun j hj => owns_kept_type (owns_ext (h.own j hj) hb) hk (by decide)) hL' (fun j hj => by rw [chunk_app_low hL.1 hj]; exact hc j hj) (chunk_app_new hL.1) (owns_kept_type ht hk (by decide)) hB
end Go.Proofs.YtgmlcohffdeplaaGreat
/-! NApp -/
namespace Go.Proofs.YtgmlcohffdeplaaGreat
open Go.RowKit
set_option linter.unusedVariables false
theorem run_append_list {P : Program} {w w0 : World} {α : Type} {enc : α → List Value} {ok : α → Prop} (t ty : TypeId) (base : Nat) (e : TypeId) (i : TypeInfo) (z : Value) (size bytes : Nat) (v : Value) (n : Nat) (L : List Value) (A : Option Addr) (m c : Nat) (ys : List α)
    (ht : P.underlying t = some (.slice e)) (hi : P.info? e = some i) (hz : i.zero = some z)
    (hsize : i.size = size) (hby : i.bytes = bytes) (hzs : z.cells.size = size) (hsz : 0 < size)
    (hown : w.ownsRow base e size v n L) (hys : SlAt (Flat enc ok) size w A m ys) (hl : ∀ y, (enc y).length = size) (h1 : ∀ y, ∀ u ∈ enc y, u.oneCell' = true)
    (h63 : n + m ≤ maxLen) (hbytes : (n + m) * bytes ≤ 140737488355328) (hext : Ext w0 w) (hb0 : w0.heap.size ≤ base) (hbw : base ≤ w.heap.size) :
    ∃ A' c' w', (Builtin.append_ #[t, t] ty #[v, .slice A m c]).run P w = .ok (.slice A' (n + m) c') w' ∧ w'.ownsRow base e size (.slice A' (n + m) c') (n + m) (L ++ ys.flatMap enc) ∧ Ext w0 w' ∧ w.heap.size ≤ w'.heap.size ∧ w.grownBy w' v.ownBlock := by
  have hshape : ∀ {w' : World} {v' : Value} {L' : List Value}, w'.ownsRow base e size v' (n + m) L' → ∃ A' c', v' = .slice A' (n + m) c' := by
    intro w' v' L' h'
    rcases h'.2 with ⟨rfl, h0⟩ | ⟨g, cap, cur, rfl, _⟩
    · exact ⟨none, 0, by rw [h0]⟩
    · exact ⟨_, _, rfl⟩
  rcases A with _ | ad
  · have h0 : m = 0 := by
      rcases Nat.eq_zero_or_pos m with h0 | h0
      · exact h0
      · obtain ⟨b, o, e1, _⟩ := hys.2 h0; cases e1
    subst h0
    have hy : ys = [] := List.eq_nil_of_length_eq_zero hys.1
    subst hy
    have hrun := run_append_of_nil (P := P) w base t ty e i size ht hi v n L hown c
    obtain ⟨A', c', e1⟩ := hshape (show w.ownsRow base e size v (n + 0) L from hown)
    subst e1
    exact ⟨A', c', w, by simpa using hrun, by simpa using hown, hext, Nat.le_refl _, World.grownBy.refl w _⟩
  · have hlen : (ys.flatMap enc).length = m * size := by
      rw [← hys.1]; clear hys
      induction ys with
      | nil => simp
      | cons y ys ih => rw [List.flatMap_cons, List.length_append, hl, ih, List.length_cons, Nat.add_mul]; omega
    have hcells : ∀ j u, (ys.flatMap enc)[j]? = some u → w.cell? (ad.add j) = some u := by
      intro j u hu
      rcases Nat.eq_zero_or_pos m with h0 | h0
      · subst h0
        have hy : ys = [] := List.eq_nil_of_length_eq_zero hys.1
        subst hy; simp at hu
      · obtain ⟨b, off, e1, hb, hc⟩ := hys.flatCells hl h0
        injection e1 with e1; subst e1
        have := hc j u hu
        unfold Addr.add; split
        · rename_i hj; subst hj; exact this
        · exact this
    obtain ⟨v', w', hr, h2, hg', _, _⟩ := run_append_own_at (P := P) w base t ty e i z size bytes ht hi hz hsize hby hzs hsz v n L hown ad m c (ys.flatMap enc) hlen hcells (fun u hu => by obtain ⟨y, _, hu⟩ := List.mem_flatMap.1 hu; exact h1 y u hu) h63 hbytes hbw
    obtain ⟨A', c', rfl⟩ := hshape h2
    exact ⟨A', c', w', hr, h2, Below.grown hext hg' hext.le (fun k hk => by have := hown.lt k hk; omega), hg'.size, hg'⟩
theorem step_append_list {P : Program} {w w0 : World} {α : Type} {enc : α → List Value} {ok : α → Prop} {ops : Array Oper} {o : Oper} {a : Act} {K : Act → World → Prop} {Q : Exit → Act → World → Prop} {E : Prop} (hw : Region.wanted o (yielded ops a.tmps) = true) (s x : Operand) (t : TypeId)
    (ho : o.op = .call { callee := .builtin .append, args := #[s, x], argTypes := #[t, t] })
    (base : Nat) (e : TypeId) (i : TypeInfo) (z : Value) (size bytes : Nat) (ht : P.underlying t = some (.slice e)) (hi : P.info? e = some i) (hz : i.zero = some z)
    (hsize : i.size = size) (hby : i.bytes = bytes) (hzs : z.cells.size = size) (hsz : 0 < size)
    (v : Value) (n : Nat) (L : List Value) (A : Option Addr) (m c : Nat) (ys : List α) (N : Nat) (hN : n + m = N) (hs : a.eval s = v) (hx : a.eval x = .slice A m c)
    (hown : w.ownsRow base e size v n L) (hys : SlAt (Flat enc ok) size w A m ys) (hl : ∀ y, (enc y).length = size) (h1 : ∀ y, ∀ u ∈ enc y, u.oneCell' = true)
    (h63 : n + m ≤ maxLen) (hbytes : (n + m) * bytes ≤ 140737488355328) (hext : Ext w0 w) (hb0 : w0.heap.size ≤ base) (hbw : base ≤ w.heap.size)
    (h : ∀ A' c' w', w'.ownsRow base e size (.slice A' N c') N (L ++ ys.flatMap enc) → Ext w0 w' → w.heap.size ≤ w'.heap.size → w.grownBy w' v.ownBlock → K (a.put o.dst (.slice A' N c')) w') :
    if Region.wanted o (yielded ops a.tmps) = true then Oper.wp P o a w K Q else E := by
  subst hN
  rw [if_pos hw]
  obtain ⟨A', c', w', hr, h2, h3, h4, h5⟩ := run_append_list (P := P) t o.type base e i z size bytes v n L A m c ys ht hi hz hsize hby hzs hsz hown hys hl h1 h63 hbytes hext hb0 hbw
  unfold Oper.wp execOp
  simp only [ho, resolve, invoke, builtin, Sem.run_bind, Sem.run_pure, Result.andThen_ok, List.map_toArray, List.map_cons, List.map_nil, hs, hx, hr]
  exact h A' c' w' h2 h3 h4 h5
theorem owns_empty_at (w : World) (b : Nat) (hb : w.heap.size = b) (e : TypeId) (sz : Nat) : (w.alloc (.cells #[] e)).ownsRow b e sz (.slice (some ⟨b, 0, none⟩) 0 0) 0 [] := by
  subst hb; exact owns_empty w e sz
theorem keep_of_grown {w w' : World} {lo n : Nat} {E : TypeId} {sz : Nat} {v : Value} {L : List Value} (hL : w.ownsRow lo E sz v n L) (hg : w.grownBy w' v.ownBlock) : ∀ (b : Nat) (cs' : Array Value) (e' : TypeId), e' ≠ E → w.heap[b]? = some (Obj.cells cs' e') → w'.heap[b]? = some (Obj.cells cs' e') := by
  intro b cs' e' hne hb
  have hbl : b < w.heap.size := by
    rcases Nat.lt_or_ge b w.heap.size with hl | hl
    · exact hl
    · rw [Array.getElem?_eq_none hl] at hb; cases hb
  have hne2 : some b ≠ v.ownBlock := by
    intro hv
    rcases hL.2 with ⟨rfl, _⟩ | ⟨g, cap, cur, rfl, _, hh, _⟩
    · cases hv
    · injection hv with hv; subst hv
      rw [hh] at hb; injection hb with hb; injection hb with _ h2; exact hne h2.symm
  rw [hg.block b hbl hne2]; exact hb
structure NTrip where
  a : Int
  b : Int
  A : Option Addr
  m : Nat
  c : Nat
def nenc (t : NTrip) : List Value := [.int .i64 t.a, .int .i64 t.b, .slice t.A t.m t.c]
theorem nenc_one (t : NTrip) : ∀ u ∈ nenc t, u.oneCell' = true := by
  intro u hu
  simp [nenc] at hu
  rcases hu with rfl | rfl | rfl <;> rfl
theorem sl_nbox (w : World) (t : NTrip) (e : TypeId) : SlAt (Flat nenc (fun _ => True)) 3 (w.alloc (.cells #[.int .i64 t.a, .int .i64 t.b, .slice t.A t.m t.c] e)) (some ⟨w.heap.size, 0, none⟩) 1 [t] := by
  refine ⟨rfl, fun _ => ⟨w.heap.size, 0, rfl, by simp, fun k y hy => ?_⟩⟩
  cases k with
  | zero =>
    simp at hy; subst hy
    exact ⟨nenc t, rfl, fun j u hu => by rw [show 0 + 0 * 3 + j = j by omega]; exact law_box w (nenc t) e j u hu, rfl, trivial⟩
  | succ k => simp at hy
end Go.Proofs.YtgmlcohffdeplaaGreat
