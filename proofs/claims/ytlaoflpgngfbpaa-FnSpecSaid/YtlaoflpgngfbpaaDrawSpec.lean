/- Contracts of the draws: arrays. -/
import Derived.Test.YtlaoflpgngfbpaaDrawH
import Derived.Test.YtlaoflpgngfbpaaAppR
import Derived.Test.YtlaoflpgngfbpaaSpan
import Derived.Deep.RegionHeld3
namespace Go.Proofs.Ytlaoflpgngfbpaa
open Go.RowKit
set_option linter.unusedVariables false
theorem dbox2 (w : World) (a b : Value) (e : TypeId) : (w.alloc (.cells #[a, b] e)).ownsRow w.heap.size e 2 (.slice (some ⟨w.heap.size, 0, none⟩) 1 1) 1 [a, b] :=
  World.ownsRow_lit w #[a, b] 1 (Nat.le_refl _) (by unfold maxLen; omega) (by simp)
theorem dbox2_cells {w : World} {base b : Nat} {e : TypeId} {u0 u1 : Value} (h : w.ownsRow base e 2 (.slice (some ⟨b, 0, none⟩) 1 1) 1 [u0, u1]) : w.cell? ⟨b, 0, none⟩ = some u0 ∧ w.cell? ⟨b, 1, none⟩ = some u1 ∧ w.frozen? ⟨b, 0, none⟩ = false ∧ w.frozen? ⟨b, 1, none⟩ = false ∧ b < w.heap.size :=
  ⟨by rw [h.cellAt 0 (by omega)]; rfl, by rw [h.cellAt 1 (by omega)]; rfl, h.frozenAt 0, h.frozenAt 1, (h.lt b rfl).2⟩
theorem dbox3 (w : World) (a b c : Value) (e : TypeId) : (w.alloc (.cells #[a, b, c] e)).ownsRow w.heap.size e 3 (.slice (some ⟨w.heap.size, 0, none⟩) 1 1) 1 [a, b, c] :=
  World.ownsRow_lit w #[a, b, c] 1 (Nat.le_refl _) (by unfold maxLen; omega) (by simp)
theorem dbox3_cells {w : World} {base b : Nat} {e : TypeId} {u0 u1 u2 : Value} (h : w.ownsRow base e 3 (.slice (some ⟨b, 0, none⟩) 1 1) 1 [u0, u1, u2]) : w.cell? ⟨b, 0, none⟩ = some u0 ∧ w.cell? ⟨b, 1, none⟩ = some u1 ∧ w.cell? ⟨b, 2, none⟩ = some u2 ∧ w.frozen? ⟨b, 0, none⟩ = false ∧ w.frozen? ⟨b, 1, none⟩ = false ∧ w.frozen? ⟨b, 2, none⟩ = false ∧ b < w.heap.size :=
  ⟨by rw [h.cellAt 0 (by omega)]; rfl, by rw [h.cellAt 1 (by omega)]; rfl, by rw [h.cellAt 2 (by omega)]; rfl, h.frozenAt 0, h.frozenAt 1, h.frozenAt 2, (h.lt b rfl).2⟩
theorem dbox_far {w : World} {lo n : Nat} {e : TypeId} {sz : Nat} {v : Value} {L : List Value} {g p : Nat} {u : Value} (h : w.ownsRow lo e sz v n L) (hne : v.ownBlock ≠ some g) : (w.setCell ⟨g, p, none⟩ u).ownsRow lo e sz v n L :=
  owns_other h (p := ⟨g, p, none⟩) (fun q hq e => hne (by rw [hq]; simp only [] at e; rw [e])) u
theorem down_apart {w : World} {lo n lo' n' : Nat} {e e' : TypeId} {sz sz' : Nat} {v v' : Value} {L L' : List Value} (h : w.ownsRow lo e sz v n L) (h' : w.ownsRow lo' e' sz' v' n' L') (hne : e ≠ e') : rowsApart v.ownBlock v'.ownBlock := by
  intro k hk hk'
  rcases h.2 with ⟨rfl, _⟩ | ⟨g, cap, cur, rfl, _, hh, _⟩
  · cases hk
  rcases h'.2 with ⟨rfl, _⟩ | ⟨g', cap', cur', rfl, _, hh', _⟩
  · cases hk'
  have e1 : g = k := Option.some.inj hk
  have e2 : g' = k := Option.some.inj hk'
  subst e1 e2
  rw [hh] at hh'
  injection hh' with hh'
  injection hh' with _ h2
  exact hne h2
theorem DSpan.info : (Try.prog.info? 46).map (fun i => (i.zero, i.size, i.bytes)) = some (some (.agg #[.int .i64 0, .int .i64 0, .int .i64 0]), 3, 24) := by kernel_rfl
theorem DSpan.one (y : Span) : ∀ u ∈ y.enc, u.oneCell' = true := by
  intro u hu; simp [Span.enc] at hu; rcases hu with rfl | rfl | rfl <;> rfl
def RetSpecD (m : Nat) (w : World) (g : Nat) : Ending → World → Prop := fun e w' => ∃ (A : Option Addr) (c : Nat) (l : List Span) (k : Int), e = .returned (.agg #[.slice A l.length c, .int .i64 k]) ∧ w'.ownsRow w.heap.size 46 3 (.slice A l.length c) l.length (l.flatMap Span.enc) ∧ (∀ x ∈ l, x.ok) ∧ 1 ≤ l.length ∧ l.length ≤ m ∧ In64 k ∧ Turned g (g + 1) w w' ∧ Cur w' g
theorem cur_appR {w w' : World} {g base : Nat} {e : TypeId} {sz : Nat} {v : Value} {A' : Option Addr} {n' c' : Nat} {L' : List Value} (hc : Cur w g) (h : AppR w w' base e sz v A' n' c' L') (hb : ∀ q, v.ownBlock = some q → base ≤ q) (hg : g < base) : Cur w' g := hc.keep (h.turned hb) hg
set_option maxHeartbeats 8000000 in
set_option maxRecDepth 10000 in
theorem l13Draw_c (g : Nat) (w : World) (hc : Cur w g) : Calls Try.prog 22 #[.pointer (some ⟨g, 0, none⟩)] w (RetSpecD 3 w g) := by
  obtain ⟨i0, hi, hz0, hz1, hz2⟩ := info_parts DSpan.info
  have hgw := hc.lt
  have HB := Lib.hid (fun (n : Int) (hn : In64 n) (u : World) (hu : Cur u g) => l01Below_c g n u hu hn)
  have H9 : Hid (∀ n : Int, -1000000 ≤ n → n ≤ 1000000 → In64 n) := Lib.hid (fun n h1 h2 => by unfold In64; omega)
  have a1 := (Ext.refl w).alloc (.cells #[.slice none 0 0, .int .i64 0] 25)
  have a2 := a1.alloc (.cells #[.slice none 0 0, .int .i64 0] 25)
  have HC0 := Lib.hid (hc.ext a2)
  have HT0 := Lib.hid (a2.turned g (g + 1))
  have HR0 := Lib.hid (owns_ext (dbox2 w (.slice none 0 0) (.int .i64 0) 25) ((Ext.refl _).alloc (.cells #[.slice none 0 0, .int .i64 0] 25)))
  have HS0 := Lib.hid (show ((w.alloc (.cells #[.slice none 0 0, .int .i64 0] 25)).alloc (.cells #[.slice none 0 0, .int .i64 0] 25)).ownsRow (w.heap.size + 1) 25 2 (.slice (some ⟨w.heap.size + 1, 0, none⟩) 1 1) 1 [.slice none 0 0, .int .i64 0] from by have := dbox2 (w.alloc (.cells #[.slice none 0 0, .int .i64 0] 25)) (.slice none 0 0) (.int .i64 0) 25; simpa using this)
  clear hc a1 a2
  go_enter Try.func22, Try.ntmps22
  go_wp2_with fail
  refine (HB.out 9 (H9.out _ (by omega) (by omega)) _ HC0.out).mono ?_
  rintro e w1 ⟨v1, rfl, ⟨hv1a, hv1b⟩, ht1, hc1⟩
  have HT1 := Lib.hid (HT0.out.trans ht1)
  have HC1 := Lib.hid hc1
  have hs1 := HT1.out.le
  have HR1 := Lib.hid (ownsT HR0.out ht1 (by omega))
  have HS1 := Lib.hid (ownsT HS0.out ht1 (by omega))
  clear ht1 hc1
  go_wp2_with fail
  refine (HB.out 3 (H9.out _ (by omega) (by omega)) _ HC1.out).mono ?_
  rintro e w2 ⟨v2, rfl, ⟨hv2a, hv2b⟩, ht2, hc2⟩
  have HT2 := Lib.hid (HT1.out.trans ht2)
  have HC2 := Lib.hid hc2
  have hs2 := HT2.out.le
  have HR2 := Lib.hid (ownsT HR1.out ht2 (by omega))
  have HS2 := Lib.hid (ownsT HS1.out ht2 (by omega))
  clear ht2 hc2
  go_wp2
  go_loopw [4, 5] (fun lv nv wr => ∃ (lo m : Int) (A1 : Option Addr) (c1 : Nat) (acc : List Span), 0 ≤ m ∧ lv = .int .i64 lo ∧ nv = .int .i64 m ∧ 0 ≤ lo ∧ lo + 12 * m ≤ 60 ∧ (acc.length : Int) + m ≤ 3 ∧ 1 ≤ (acc.length : Int) + m ∧ Hid (wr.ownsRow w.heap.size 25 2 (.slice (some ⟨w.heap.size, 0, none⟩) 1 1) 1 [.slice none 0 0, .int .i64 0]) ∧ Hid (wr.ownsRow (w.heap.size + 1) 25 2 (.slice (some ⟨w.heap.size + 1, 0, none⟩) 1 1) 1 [.slice A1 acc.length c1, .int .i64 0]) ∧ Hid (wr.ownsRow (w.heap.size + 1) 46 3 (.slice A1 acc.length c1) acc.length (acc.flatMap Span.enc)) ∧ Hid (∀ y ∈ acc, y.ok) ∧ Hid (Turned g (g + 1) w wr) ∧ Hid (Cur wr g)) (fun _ nv _ => (intOf nv).toNat)
  case atStart => exact ⟨1 + v1, 1 + v2, none, 0, [], by omega, rfl, rfl, by omega, by omega, by simp; omega, by simp; omega, HR2, HS2, Lib.hid (World.ownsRow_nil _ _ _ _), Lib.hid (fun y hy => by cases hy), HT2, HC2⟩
  case round =>
    clear HR0 HS0 HT0 HC0 HR1 HS1 HT1 HC1 HR2 HS2 HT2 HC2 hs1 hs2
    obtain ⟨lo, m, A1, c1, acc, hm, rfl, rfl, hlo, hlm, hl3, hl1, HR0, HS0, HO0, HIN, HT0, HC0⟩ := hrel
    have hs0 := HT0.out.le
    by_cases hlt : 0 < m
    · go_wp2_with fail
      refine (HB.out 9 (H9.out _ (by omega) (by omega)) _ HC0.out).mono ?_
      rintro e w3 ⟨v3, rfl, ⟨hv3a, hv3b⟩, ht3, hc3⟩
      have HT3 := Lib.hid (HT0.out.trans ht3)
      have HC3 := Lib.hid hc3
      have hs3 := HT3.out.le
      have HR3 := Lib.hid (ownsT HR0.out ht3 (by omega))
      have HS3 := Lib.hid (ownsT HS0.out ht3 (by omega))
      have HO3 := Lib.hid (ownsT HO0.out ht3 (by omega))
      clear ht3 hc3
      have hx1 : IntKind.i64.wrap (lo + v3) = lo + v3 := IntWalk.i64_in _ ⟨by omega, by omega⟩
      by_cases h3 : 0 < v3
      · go_wp2_with fail
        refine (HB.out 3 (H9.out _ (by omega) (by omega)) _ (HC3.out.ext ((Ext.refl w3).alloc (.cells #[.int .i64 lo, .int .i64 (lo + v3), .int .i64 1] 46)))).mono ?_
        rintro e w4 ⟨v4, rfl, ⟨hv4a, hv4b⟩, ht4, hc4⟩
        have HT4 := Lib.hid ((HT3.out.ext ((Ext.refl w3).alloc (.cells #[.int .i64 lo, .int .i64 (lo + v3), .int .i64 1] 46))).trans ht4)
        have HC4 := Lib.hid hc4
        have hs4 := HT4.out.le
        have HR4 := Lib.hid (ownsT (owns_ext HR3.out ((Ext.refl w3).alloc (.cells #[.int .i64 lo, .int .i64 (lo + v3), .int .i64 1] 46))) ht4 (by omega))
        have HS4 := Lib.hid (ownsT (owns_ext HS3.out ((Ext.refl w3).alloc (.cells #[.int .i64 lo, .int .i64 (lo + v3), .int .i64 1] 46))) ht4 (by omega))
        have HO4 := Lib.hid (ownsT (owns_ext HO3.out ((Ext.refl w3).alloc (.cells #[.int .i64 lo, .int .i64 (lo + v3), .int .i64 1] 46))) ht4 (by omega))
        have HX4 := Lib.hid (ownsT (dbox3 w3 (.int .i64 lo) (.int .i64 (lo + v3)) (.int .i64 1) 46) ht4 (by omega))
        have hs34 := ht4.le
        simp at hs34
        clear ht4 hc4
        have HX4b := dbox3_cells HX4.out
        obtain ⟨y0, y1, y2, n0, n1, n2, hy⟩ := HX4b
        have HXU := Lib.hid (show (w4.setCell ⟨w3.heap.size, 2, none⟩ (.int .i64 (1 + v4))).ownsRow w3.heap.size 46 3 (.slice (some ⟨w3.heap.size, 0, none⟩) 1 1) 1 [.int .i64 lo, .int .i64 (lo + v3), .int .i64 (1 + v4)] from (HX4.out.stored 2 (.int .i64 (1 + v4))).1)
        have HRU := Lib.hid (dbox_far HR4.out (g := w3.heap.size) (p := 2) (u := .int .i64 (1 + v4)) (fun e => by have := (HR3.out.lt _ e).2; omega))
        have HSU := Lib.hid (dbox_far HS4.out (g := w3.heap.size) (p := 2) (u := .int .i64 (1 + v4)) (fun e => by have := (HS3.out.lt _ e).2; omega))
        have HOU := Lib.hid (dbox_far HO4.out (g := w3.heap.size) (p := 2) (u := .int .i64 (1 + v4)) (fun e => by have := (HO3.out.lt _ e).2; omega))
        have HTU := Lib.hid (turned_own (j := 2) (u := .int .i64 (1 + v4)) (base := w3.heap.size) HT4.out (by omega))
        have HCU := Lib.hid (HC4.out.put (j := 2) (u := .int .i64 (1 + v4)) (b := w3.heap.size) (by omega))
        have hsu : w3.heap.size < (w4.setCell ⟨w3.heap.size, 2, none⟩ (.int .i64 (1 + v4))).heap.size := by simpa using hy
        obtain ⟨d0, d1, e0, e1, hd⟩ := dbox2_cells HS4.out
        have HSPK := Lib.hid (show Span.ok ⟨lo, lo + v3, (1 + v4)⟩ from ⟨in64_of (n := lo) (by omega) (by omega), in64_of (n := lo + v3) (by omega) (by omega), in64_of (n := (1 + v4)) (by omega) (by omega)⟩)
        have HSL := Lib.hid (show SlAt (Flat Span.enc Span.ok) 3 ((w4.setCell ⟨w3.heap.size, 2, none⟩ (.int .i64 (1 + v4))).alloc (.cells #[.int .i64 lo, .int .i64 (lo + v3), .int .i64 (1 + v4)] 46)) (some ⟨w4.heap.size, 0, none⟩) 1 [⟨lo, lo + v3, (1 + v4)⟩] from by have := sl_one_r (enc := Span.enc) (w4.setCell ⟨w3.heap.size, 2, none⟩ (.int .i64 (1 + v4))) (⟨lo, lo + v3, (1 + v4)⟩ : Span) 46 rfl HSPK.out; rw [show (w4.setCell ⟨w3.heap.size, 2, none⟩ (.int .i64 (1 + v4))).heap.size = w4.heap.size by simp] at this; exact this)
        have hsz8 : (w4.setCell ⟨w3.heap.size, 2, none⟩ (.int .i64 (1 + v4))).heap.size = w4.heap.size := by simp
        have HSZ8 := Lib.hid hsz8
        have hb8 : w.heap.size + 1 ≤ w4.heap.size + 1 := by have := HSU.out.lt _ rfl; omega
        clear hsz8
        go_wp2_with (at_builtin; go_must (refine wpList_append_r (enc := Span.enc) (ok := Span.ok) (.tmp 34) (.tmp 36) _ (w.heap.size + 1) 46 i0 _ 3 24 (.slice A1 acc.length c1) acc.length (acc.flatMap Span.enc) _ 1 1 [⟨lo, lo + v3, (1 + v4)⟩] rfl rfl Try.underlying23 hi hz0 hz1 hz2 rfl (by omega) rfl (HOU.out.alloc _) rfl HSL.out Span.size DSpan.one (by unfold maxLen; omega) (by omega) (by have := HSZ8.out; simp; omega) ?_); intro A7 c7 w7 hr7; have hm7 : w7.cell? ⟨w.heap.size + 1, 0, none⟩ = some (.slice A1 acc.length c1) := hr7.cell (((Ext.refl (w4.setCell ⟨w3.heap.size, 2, none⟩ (.int .i64 (1 + v4)))).alloc (.cells #[.int .i64 lo, .int .i64 (lo + v3), .int .i64 (1 + v4)] 46)).cell (dbox2_cells HSU.out).1) (fun e => down_apart HOU.out HSU.out (by decide) _ e rfl); have hf7 : w7.frozen? ⟨w.heap.size + 1, 0, none⟩ = false := hr7.frozen ((((Ext.refl (w4.setCell ⟨w3.heap.size, 2, none⟩ (.int .i64 (1 + v4)))).alloc (.cells #[.int .i64 lo, .int .i64 (lo + v3), .int .i64 (1 + v4)] 46)).frozenEq (a := ⟨w.heap.size + 1, 0, none⟩) (HSU.out.lt _ rfl).2).trans (dbox2_cells HSU.out).2.2.1) (by have := (HSU.out.lt _ rfl).2; simp only [World.size_alloc]; omega) (fun e => down_apart HOU.out HSU.out (by decide) _ e rfl))
        have HR7 := Lib.hid hr7
        clear hr7 hm7 hf7 d0 d1 e0 e1
        have hs3s : w.heap.size + 1 < w3.heap.size := (HS3.out.lt _ rfl).2
        have HXA := Lib.hid (show rowsApart (Value.slice (some ⟨w3.heap.size, 0, none⟩) 1 1).ownBlock (Value.slice A1 acc.length c1).ownBlock from fun q e1 e2 => by have h1 := (HO3.out.lt q e2).2; have h2 : w3.heap.size = q := Option.some.inj e1; omega)
        have HR8 := Lib.hid (dbox_far (HR7.out.other (HRU.out.alloc _) (down_apart HRU.out HOU.out (by decide))) (g := w.heap.size + 1) (p := 0) (u := .slice A7 (acc.length + 1) c7) (fun e => by have e1 : w.heap.size = w.heap.size + 1 := Option.some.inj e; omega))
        have HS8 := Lib.hid (show (w7.setCell ⟨w.heap.size + 1, 0, none⟩ (.slice A7 (acc.length + 1) c7)).ownsRow (w.heap.size + 1) 25 2 (.slice (some ⟨w.heap.size + 1, 0, none⟩) 1 1) 1 [.slice A7 (acc.length + 1) c7, .int .i64 0] from ((HR7.out.other (HSU.out.alloc _) (down_apart HSU.out HOU.out (by decide))).stored 0 (.slice A7 (acc.length + 1) c7)).1)
        have HX8 := Lib.hid (dbox_far (HR7.out.other (HXU.out.alloc _) HXA.out) (g := w.heap.size + 1) (p := 0) (u := .slice A7 (acc.length + 1) c7) (fun e => by have e1 : w3.heap.size = w.heap.size + 1 := Option.some.inj e; omega))
        have HO8 := Lib.hid (show (w7.setCell ⟨w.heap.size + 1, 0, none⟩ (.slice A7 (acc.length + 1) c7)).ownsRow (w.heap.size + 1) 46 3 (.slice A7 (acc.length + 1) c7) (acc.length + 1) ((acc ++ [(⟨lo, lo + v3, (1 + v4)⟩ : Span)]).flatMap Span.enc) from dbox_far (by have := HR7.out.row; rw [List.flatMap_append]; simpa using this) (fun e => down_apart HR7.out.row (HR7.out.other (HSU.out.alloc _) (down_apart HSU.out HOU.out (by decide))) (by decide) _ e rfl))
        have HIN8 := Lib.hid (all_snoc HIN.out HSPK.out)
        have HT8 := Lib.hid (turned_own (j := 0) (u := .slice A7 (acc.length + 1) c7) (base := w.heap.size + 1) (turned_low (HTU.out.ext ((Ext.refl _).alloc (.cells #[.int .i64 lo, .int .i64 (lo + v3), .int .i64 (1 + v4)] 46))) (HR7.out.turned (lo := w.heap.size + 1) (fun q e => (HOU.out.lt q e).1)) (by omega)) (by omega))
        have HC8 := Lib.hid ((cur_appR (HCU.out.ext ((Ext.refl _).alloc (.cells #[.int .i64 lo, .int .i64 (lo + v3), .int .i64 (1 + v4)] 46))) HR7.out (fun q e => (HOU.out.lt q e).1) (by omega)).put (j := 0) (u := .slice A7 (acc.length + 1) c7) (b := w.heap.size + 1) (by omega))
        have x8 := (dbox3_cells HX8.out).2.1
        have hw8 : w.heap.size ≤ (w7.setCell ⟨w.heap.size + 1, 0, none⟩ (.slice A7 (acc.length + 1) c7)).heap.size := HT8.out.le
        clear HR7
        generalize w7.setCell ⟨w.heap.size + 1, 0, none⟩ (.slice A7 (acc.length + 1) c7) = w8 at *
        go_region_held3 (fun z => z.cell? ⟨w3.heap.size, 1, none⟩ = some (.int .i64 (lo + v3))) ((first | exact x9 | exact x8 | exact Ext.cell ((Ext.refl _).drew) x8)) (first | (go_at_call 23; (with_reducible refine (HB.out 4 (H9.out _ (by omega) (by omega)) _ (HC8.out.ext (by repeat (first | exact Ext.refl _ | apply Ext.alloc | apply Ext.drew | apply Ext.drewN)))).mono ?_); rintro e w9 ⟨v9, rfl, ⟨hv9a, hv9b⟩, ht9, hc9⟩; have HQ9 := Lib.hid ((Ext.turned (w := w8) (by repeat (first | exact Ext.refl _ | apply Ext.alloc | apply Ext.drew | apply Ext.drewN)) g (g + 1)).trans ht9); have HC9 := Lib.hid hc9; have x9 := cellT HQ9.out x8 (by omega); clear ht9 hc9))
        all_goals
          have hw8a : IntKind.i64.wrap (lo + v3 + 1) = lo + v3 + 1 := IntWalk.i64_in _ ⟨by omega, by omega⟩
          have hw9a : IntKind.i64.wrap (lo + v3 + 1 + v9) = lo + v3 + 1 + v9 := IntWalk.i64_in _ ⟨by omega, by omega⟩
          have HR9 := Lib.hid (ownsT HR8.out HQ9.out (by omega))
          have HS9 := Lib.hid (ownsT HS8.out HQ9.out (by omega))
          have HO9 := Lib.hid (ownsT HO8.out HQ9.out (by omega))
          have HT9 := Lib.hid (HT8.out.trans HQ9.out)
          clear x8 x9
          go_wp2
          go_roundw
          case rel => exact ⟨lo + v3 + 1 + v9, m - 1, A7, c7, acc ++ [(⟨lo, lo + v3, (1 + v4)⟩ : Span)], by omega, by first | rfl | rw [hw8a, hw9a], by go_num, by omega, by omega, by simp; omega, by simp; omega, HR9, by simpa using HS9, by simpa using HO9, HIN8, HT9, HC9⟩
          case measure => simp [intOf]; omega
      · have HXU := Lib.hid (dbox3 w3 (.int .i64 lo) (.int .i64 (lo + v3)) (.int .i64 1) 46)
        have HRU := Lib.hid (HR3.out.alloc (.cells #[.int .i64 lo, .int .i64 (lo + v3), .int .i64 1] 46))
        have HSU := Lib.hid (HS3.out.alloc (.cells #[.int .i64 lo, .int .i64 (lo + v3), .int .i64 1] 46))
        have HOU := Lib.hid (HO3.out.alloc (.cells #[.int .i64 lo, .int .i64 (lo + v3), .int .i64 1] 46))
        have HTU := Lib.hid (HT3.out.ext ((Ext.refl _).alloc (.cells #[.int .i64 lo, .int .i64 (lo + v3), .int .i64 1] 46)))
        have HCU := Lib.hid (HC3.out.ext ((Ext.refl _).alloc (.cells #[.int .i64 lo, .int .i64 (lo + v3), .int .i64 1] 46)))
        have hsu : w3.heap.size < (w3.alloc (.cells #[.int .i64 lo, .int .i64 (lo + v3), .int .i64 1] 46)).heap.size := by simp
        obtain ⟨d0, d1, e0, e1, hd⟩ := dbox2_cells HS3.out
        have HSPK := Lib.hid (show Span.ok ⟨lo, lo + v3, 1⟩ from ⟨in64_of (n := lo) (by omega) (by omega), in64_of (n := lo + v3) (by omega) (by omega), in64_of (n := 1) (by omega) (by omega)⟩)
        have HSL := Lib.hid (show SlAt (Flat Span.enc Span.ok) 3 ((w3.alloc (.cells #[.int .i64 lo, .int .i64 (lo + v3), .int .i64 1] 46)).alloc (.cells #[.int .i64 lo, .int .i64 (lo + v3), .int .i64 1] 46)) (some ⟨(w3.heap.size + 1), 0, none⟩) 1 [⟨lo, lo + v3, 1⟩] from by have := sl_one_r (enc := Span.enc) (w3.alloc (.cells #[.int .i64 lo, .int .i64 (lo + v3), .int .i64 1] 46)) (⟨lo, lo + v3, 1⟩ : Span) 46 rfl HSPK.out; rw [show (w3.alloc (.cells #[.int .i64 lo, .int .i64 (lo + v3), .int .i64 1] 46)).heap.size = (w3.heap.size + 1) by simp] at this; exact this)
        have hsz8 : (w3.alloc (.cells #[.int .i64 lo, .int .i64 (lo + v3), .int .i64 1] 46)).heap.size = (w3.heap.size + 1) := by simp
        have HSZ8 := Lib.hid hsz8
        have hb8 : w.heap.size + 1 ≤ (w3.heap.size + 1) + 1 := by have := HSU.out.lt _ rfl; omega
        clear hsz8
        go_wp2_with (at_builtin; go_must (refine wpList_append_r (enc := Span.enc) (ok := Span.ok) (.tmp 34) (.tmp 36) _ (w.heap.size + 1) 46 i0 _ 3 24 (.slice A1 acc.length c1) acc.length (acc.flatMap Span.enc) _ 1 1 [⟨lo, lo + v3, 1⟩] rfl rfl Try.underlying23 hi hz0 hz1 hz2 rfl (by omega) rfl (HOU.out.alloc _) rfl HSL.out Span.size DSpan.one (by unfold maxLen; omega) (by omega) (by have := HSZ8.out; simp; omega) ?_); intro A7 c7 w7 hr7; have hm7 : w7.cell? ⟨w.heap.size + 1, 0, none⟩ = some (.slice A1 acc.length c1) := hr7.cell (((Ext.refl (w3.alloc (.cells #[.int .i64 lo, .int .i64 (lo + v3), .int .i64 1] 46))).alloc (.cells #[.int .i64 lo, .int .i64 (lo + v3), .int .i64 1] 46)).cell (dbox2_cells HSU.out).1) (fun e => down_apart HOU.out HSU.out (by decide) _ e rfl); have hf7 : w7.frozen? ⟨w.heap.size + 1, 0, none⟩ = false := hr7.frozen ((((Ext.refl (w3.alloc (.cells #[.int .i64 lo, .int .i64 (lo + v3), .int .i64 1] 46))).alloc (.cells #[.int .i64 lo, .int .i64 (lo + v3), .int .i64 1] 46)).frozenEq (a := ⟨w.heap.size + 1, 0, none⟩) (HSU.out.lt _ rfl).2).trans (dbox2_cells HSU.out).2.2.1) (by have := (HSU.out.lt _ rfl).2; simp only [World.size_alloc]; omega) (fun e => down_apart HOU.out HSU.out (by decide) _ e rfl))
        have HR7 := Lib.hid hr7
        clear hr7 hm7 hf7 d0 d1 e0 e1
        have hs3s : w.heap.size + 1 < w3.heap.size := (HS3.out.lt _ rfl).2
        have HXA := Lib.hid (show rowsApart (Value.slice (some ⟨w3.heap.size, 0, none⟩) 1 1).ownBlock (Value.slice A1 acc.length c1).ownBlock from fun q e1 e2 => by have h1 := (HO3.out.lt q e2).2; have h2 : w3.heap.size = q := Option.some.inj e1; omega)
        have HR8 := Lib.hid (dbox_far (HR7.out.other (HRU.out.alloc _) (down_apart HRU.out HOU.out (by decide))) (g := w.heap.size + 1) (p := 0) (u := .slice A7 (acc.length + 1) c7) (fun e => by have e1 : w.heap.size = w.heap.size + 1 := Option.some.inj e; omega))
        have HS8 := Lib.hid (show (w7.setCell ⟨w.heap.size + 1, 0, none⟩ (.slice A7 (acc.length + 1) c7)).ownsRow (w.heap.size + 1) 25 2 (.slice (some ⟨w.heap.size + 1, 0, none⟩) 1 1) 1 [.slice A7 (acc.length + 1) c7, .int .i64 0] from ((HR7.out.other (HSU.out.alloc _) (down_apart HSU.out HOU.out (by decide))).stored 0 (.slice A7 (acc.length + 1) c7)).1)
        have HX8 := Lib.hid (dbox_far (HR7.out.other (HXU.out.alloc _) HXA.out) (g := w.heap.size + 1) (p := 0) (u := .slice A7 (acc.length + 1) c7) (fun e => by have e1 : w3.heap.size = w.heap.size + 1 := Option.some.inj e; omega))
        have HO8 := Lib.hid (show (w7.setCell ⟨w.heap.size + 1, 0, none⟩ (.slice A7 (acc.length + 1) c7)).ownsRow (w.heap.size + 1) 46 3 (.slice A7 (acc.length + 1) c7) (acc.length + 1) ((acc ++ [(⟨lo, lo + v3, 1⟩ : Span)]).flatMap Span.enc) from dbox_far (by have := HR7.out.row; rw [List.flatMap_append]; simpa using this) (fun e => down_apart HR7.out.row (HR7.out.other (HSU.out.alloc _) (down_apart HSU.out HOU.out (by decide))) (by decide) _ e rfl))
        have HIN8 := Lib.hid (all_snoc HIN.out HSPK.out)
        have HT8 := Lib.hid (turned_own (j := 0) (u := .slice A7 (acc.length + 1) c7) (base := w.heap.size + 1) (turned_low (HTU.out.ext ((Ext.refl _).alloc (.cells #[.int .i64 lo, .int .i64 (lo + v3), .int .i64 1] 46))) (HR7.out.turned (lo := w.heap.size + 1) (fun q e => (HOU.out.lt q e).1)) (by omega)) (by omega))
        have HC8 := Lib.hid ((cur_appR (HCU.out.ext ((Ext.refl _).alloc (.cells #[.int .i64 lo, .int .i64 (lo + v3), .int .i64 1] 46))) HR7.out (fun q e => (HOU.out.lt q e).1) (by omega)).put (j := 0) (u := .slice A7 (acc.length + 1) c7) (b := w.heap.size + 1) (by omega))
        have x8 := (dbox3_cells HX8.out).2.1
        have hw8 : w.heap.size ≤ (w7.setCell ⟨w.heap.size + 1, 0, none⟩ (.slice A7 (acc.length + 1) c7)).heap.size := HT8.out.le
        clear HR7
        generalize w7.setCell ⟨w.heap.size + 1, 0, none⟩ (.slice A7 (acc.length + 1) c7) = w8 at *
        go_region_held3 (fun z => z.cell? ⟨w3.heap.size, 1, none⟩ = some (.int .i64 (lo + v3))) ((first | exact x9 | exact x8 | exact Ext.cell ((Ext.refl _).drew) x8)) (first | (go_at_call 23; (with_reducible refine (HB.out 4 (H9.out _ (by omega) (by omega)) _ (HC8.out.ext (by repeat (first | exact Ext.refl _ | apply Ext.alloc | apply Ext.drew | apply Ext.drewN)))).mono ?_); rintro e w9 ⟨v9, rfl, ⟨hv9a, hv9b⟩, ht9, hc9⟩; have HQ9 := Lib.hid ((Ext.turned (w := w8) (by repeat (first | exact Ext.refl _ | apply Ext.alloc | apply Ext.drew | apply Ext.drewN)) g (g + 1)).trans ht9); have HC9 := Lib.hid hc9; have x9 := cellT HQ9.out x8 (by omega); clear ht9 hc9))
        all_goals
          have hw8a : IntKind.i64.wrap (lo + v3 + 1) = lo + v3 + 1 := IntWalk.i64_in _ ⟨by omega, by omega⟩
          have hw9a : IntKind.i64.wrap (lo + v3 + 1 + v9) = lo + v3 + 1 + v9 := IntWalk.i64_in _ ⟨by omega, by omega⟩
          have HR9 := Lib.hid (ownsT HR8.out HQ9.out (by omega))
          have HS9 := Lib.hid (ownsT HS8.out HQ9.out (by omega))
          have HO9 := Lib.hid (ownsT HO8.out HQ9.out (by omega))
          have HT9 := Lib.hid (HT8.out.trans HQ9.out)
          clear x8 x9
          go_wp2
          go_roundw
          case rel => exact ⟨lo + v3 + 1 + v9, m - 1, A7, c7, acc ++ [(⟨lo, lo + v3, 1⟩ : Span)], by omega, by first | rfl | rw [hw8a, hw9a], by go_num, by omega, by omega, by simp; omega, by simp; omega, HR9, by simpa using HS9, by simpa using HO9, HIN8, HT9, HC9⟩
          case measure => simp [intOf]; omega
    · have hl0 : m = 0 := by omega
      go_wp2_with fail
      refine (HB.out 2 (H9.out _ (by omega) (by omega)) _ HC0.out).mono ?_
      rintro e w3 ⟨v3, rfl, ⟨hv3a, hv3b⟩, ht3, hc3⟩
      have HT3 := Lib.hid (HT0.out.trans ht3)
      have HC3 := Lib.hid hc3
      have hs3 := HT3.out.le
      have HR3 := Lib.hid (ownsT HR0.out ht3 (by omega))
      have HS3 := Lib.hid (ownsT HS0.out ht3 (by omega))
      have HO3 := Lib.hid (ownsT HO0.out ht3 (by omega))
      clear ht3 hc3
      by_cases h3 : v3 = 0
      · subst h3
        go_wp2_with fail
        refine (HB.out 5 (H9.out _ (by omega) (by omega)) _ HC3.out).mono ?_
        rintro e w4 ⟨v4, rfl, ⟨hv4a, hv4b⟩, ht4, hc4⟩
        have HT4 := Lib.hid (HT3.out.trans ht4)
        have HC4 := Lib.hid hc4
        have hs4 := HT4.out.le
        have HR4 := Lib.hid (ownsT HR3.out ht4 (by omega))
        have HS4 := Lib.hid (ownsT HS3.out ht4 (by omega))
        have HO4 := Lib.hid (ownsT HO3.out ht4 (by omega))
        clear ht4 hc4
        have HS5 := Lib.hid (show (w4.setCell ⟨w.heap.size + 1, 1, none⟩ (.int .i64 v4)).ownsRow (w.heap.size + 1) 25 2 (.slice (some ⟨w.heap.size + 1, 0, none⟩) 1 1) 1 [.slice A1 acc.length c1, .int .i64 v4] from (HS4.out.stored 1 (.int .i64 v4)).1)
        have HRW := Lib.hid (dbox_far HR4.out (g := w.heap.size + 1) (p := 1) (u := .int .i64 v4) (fun e => by have e1 : w.heap.size = w.heap.size + 1 := Option.some.inj e; omega))
        have HOW := Lib.hid (dbox_far HO4.out (g := w.heap.size + 1) (p := 1) (u := .int .i64 v4) (fun e => down_apart HO4.out HS4.out (by decide) _ e rfl))
        have HT5 := Lib.hid (turned_own (j := 1) (u := .int .i64 v4) (base := w.heap.size + 1) HT4.out (by omega))
        have HC5 := Lib.hid (HC4.out.put (j := 1) (u := .int .i64 v4) (b := w.heap.size + 1) (by omega))
        have I4 := Lib.hid (show In64 v4 from in64_of (by omega) (by omega))
        obtain ⟨d0, d1, e0, e1, hd⟩ := dbox2_cells HS4.out
        obtain ⟨r0, r1, q0, q1, hr⟩ := dbox2_cells HR4.out
        go_wp2
        exact bodyPost_ret (v := .agg #[.slice A1 acc.length c1, .int .i64 v4]) (by simp [results, Try.results22, go_sem, *]) rfl ⟨A1, c1, acc, v4, rfl, owns_base (dbox_far (dbox_far HOW.out (g := w.heap.size) (p := 0) (fun e => down_apart HOW.out HRW.out (by decide) _ e rfl)) (g := w.heap.size) (p := 1) (fun e => down_apart HOW.out HRW.out (by decide) _ e rfl)) (by omega), HIN.out, by omega, by omega, I4.out, turned_own (turned_own HT5.out (Nat.le_refl _)) (Nat.le_refl _), (HC5.out.put hgw).put hgw⟩
      · have hv3 : (v3 == 0) = false := by rw [beq_eq_false_iff_ne]; exact h3
        have I4 := Lib.hid (show In64 0 from in64_of (n := 0) (by omega) (by omega))
        obtain ⟨d0, d1, e0, e1, hd⟩ := dbox2_cells HS3.out
        obtain ⟨r0, r1, q0, q1, hr⟩ := dbox2_cells HR3.out
        go_wp2
        exact bodyPost_ret (v := .agg #[.slice A1 acc.length c1, .int .i64 0]) (by simp [results, Try.results22, go_sem, *]) rfl ⟨A1, c1, acc, 0, rfl, owns_base (dbox_far (dbox_far HO3.out (g := w.heap.size) (p := 0) (fun e => down_apart HO3.out HR3.out (by decide) _ e rfl)) (g := w.heap.size) (p := 1) (fun e => down_apart HO3.out HR3.out (by decide) _ e rfl)) (by omega), HIN.out, by omega, by omega, I4.out, turned_own (turned_own HT3.out (Nat.le_refl _)) (Nat.le_refl _), (HC3.out.put hgw).put hgw⟩
end Go.Proofs.Ytlaoflpgngfbpaa
