/- Merged by mergelean.py: Draw, Draw2, Draw3, DrawG, DrawH, DrawVec, DrawS, DrawJob. -/
import Derived.Test.YtgmlcohffdeplaaGreatSmall
import Derived.Test.YtgmlcohffdeplaaGreatLaw
import Derived.Test.YtgmlcohffdeplaaGreatRead
import Derived.Deep.RegionHeld3
import Derived.Deep.AppendLies
/-! Draw -/
namespace Go.Proofs.YtgmlcohffdeplaaGreat
open Go.RowKit
set_option linter.unusedVariables false
/-- A cursor in block g over bytes that lie elsewhere. -/
structure Cur (w : World) (g : Nat) : Prop where
  lt : g < w.heap.size
  fz : ∀ j, w.frozen? ⟨g, j, none⟩ = false
  get : ∃ (A : Option Addr) (n c : Nat) (bs : List Int) (i : Nat) (h : Int), w.cell? ⟨g, 0, none⟩ = some (.slice A n c) ∧ w.cell? ⟨g, 1, none⟩ = some (.int .i64 i) ∧ w.cell? ⟨g, 2, none⟩ = some (.int .i64 h) ∧ i ≤ n ∧ n ≤ 1048576 ∧ In64 h ∧
    SlAt RU8 1 w A n bs ∧ (0 < n → ∀ b o, A = some ⟨b, o, none⟩ → b < g)
/-- A call hands back a number that is told by R; only the cursor has turned, and it is one still. -/
def RetDraw (w : World) (g : Nat) (R : Int → Prop) : Ending → World → Prop := fun e w' => ∃ v : Int, e = .returned (.int .i64 v) ∧ R v ∧ Turned g (g + 1) w w' ∧ Cur w' g
theorem and255 (x : Int) : 0 ≤ bits .and .i64 x 255 ∧ bits .and .i64 x 255 ≤ 255 := by
  have h : (BitVec.ofInt 64 x &&& BitVec.ofInt 64 255).toNat ≤ 255 := by rw [BitVec.toNat_and]; exact Nat.le_trans Nat.and_le_right (by decide)
  have e : bits .and .i64 x 255 = IntKind.i64.wrap ((BitVec.ofInt 64 x &&& BitVec.ofInt 64 255).toNat : Int) := rfl
  rw [e, IntWalk.i64_in _ ⟨by omega, by omega⟩]; omega
theorem in_wrap (n : Int) : In64 (wrap64 n) := by unfold In64 wrap64; omega
theorem SlAt.setD {α : Type} {R : Rel α} (hm : ∀ (w : World) (p : Addr) (u : Value) (cs : List Value) (x : α), R w cs x → R (w.setCell p u) cs x) {sz m : Nat} {A : Option Addr} {w : World} {xs : List α} (h : SlAt R sz w A m xs) (p : Addr) (hp : 0 < m → ∀ b o, A = some ⟨b, o, none⟩ → b < p.block) (u : Value) : SlAt R sz (w.setCell p u) A m xs := by
  refine ⟨h.1, fun hm' => ?_⟩
  obtain ⟨b, o, rfl, hb, hc⟩ := h.2 hm'
  refine ⟨b, o, rfl, by simpa using hb, fun k x hx => ?_⟩
  obtain ⟨cs, h1, h2, h3⟩ := hc k x hx
  have hlt := hp hm' b o rfl
  exact ⟨cs, h1, fun j u' hu => by
    rw [World.cell?_setCell_other]
    · exact h2 j u' hu
    · intro e; rw [e] at hlt; simp at hlt, hm _ _ _ _ _ h3⟩
theorem RU8.mono : RU8.Mono := fun _ _ _ _ _ h => h
theorem RU8.set : ∀ (w : World) (p : Addr) (u : Value) (cs : List Value) (x : Int), RU8 w cs x → RU8 (w.setCell p u) cs x := fun _ _ _ _ _ h => h
theorem turned_put (w : World) (g j : Nat) (u : Value) : Turned g (g + 1) w (w.setCell ⟨g, j, none⟩ u) :=
  ⟨rfl, rfl, rfl, by simp [World.setCell], fun k _ hr => Below.heap_setCell _ _ _ _ (by simp only []; omega)⟩
set_option maxHeartbeats 2000000 in
theorem l01Byte_c (g : Nat) (w : World) (hc : Cur w g) : Calls Tryz.prog 114 #[.pointer (some ⟨g, 0, none⟩)] w (RetDraw w g (fun v => 0 ≤ v ∧ v ≤ 255)) := by
  obtain ⟨hlt, hfz, A, n, c, bs, i, h, c0, c1, c2, hin, hn, hh, hsl, hA⟩ := hc
  have f0 := hfz 0
  have f1 := hfz 1
  have f2 := hfz 2
  have HFZ := Lib.hid hfz
  have HSL := Lib.hid hsl
  have HA := Lib.hid hA
  clear hfz hsl hA hh
  go_enter Tryz.func114, Tryz.ntmps114
  go_wp2
  have hh2 := in_wrap (wrap64 (h * 6364136223846793005) + 1442695040888963407)
  generalize wrap64 (wrap64 (h * 6364136223846793005) + 1442695040888963407) = h2 at *
  have HT1 := Lib.hid (turned_put w g 2 (.int .i64 h2))
  have HS1 := Lib.hid (HSL.out.setD RU8.set ⟨g, 2, none⟩ HA.out (.int .i64 h2))
  have k0 : (w.setCell ⟨g, 2, none⟩ (.int .i64 h2)).cell? ⟨g, 0, none⟩ = some (.slice A n c) := by go_simp
  have k1 : (w.setCell ⟨g, 2, none⟩ (.int .i64 h2)).cell? ⟨g, 1, none⟩ = some (.int .i64 i) := by go_simp
  have k2 : (w.setCell ⟨g, 2, none⟩ (.int .i64 h2)).cell? ⟨g, 2, none⟩ = some (.int .i64 h2) := by go_simp
  have HFZ1 := Lib.hid (show ∀ j, (w.setCell ⟨g, 2, none⟩ (.int .i64 h2)).frozen? ⟨g, j, none⟩ = false from fun j => by have := HFZ.out j; go_simp)
  have hgs : g < (w.setCell ⟨g, 2, none⟩ (.int .i64 h2)).heap.size := by simpa using hlt
  clear c0 c1 c2 f0 f1 f2
  generalize w.setCell ⟨g, 2, none⟩ (.int .i64 h2) = u1 at *
  have hcx := @Later.cell u1
  refine wp_region_ext (by kernel_rfl) (by kernel_rfl) ?_
  repeat (go_big_quiet_step (fail))
  refine wpQuiet_nil ?_
  intro u2 hb2
  have hv := and255 (bits BinOp.xor IntKind.i64 (h2 / 8589934592) (h2 / 35184372088832))
  generalize bits BinOp.and IntKind.i64 (bits BinOp.xor IntKind.i64 (h2 / 8589934592) (h2 / 35184372088832)) 255 = v at *
  have m0 := hb2.cell k0
  have m1 := hb2.cell k1
  have m2 := hb2.cell k2
  have hgs2 : g < u2.heap.size := Nat.lt_of_lt_of_le hgs hb2.le
  have HT2 := Lib.hid (HT1.out.trans (hb2.turned g (g + 1)))
  have HS2 := Lib.hid (HS1.out.ext RU8.mono hb2)
  have HFZ2 := Lib.hid (fun j => (hb2.frozenEq (a := ⟨g, j, none⟩) hgs).trans (HFZ1.out j))
  clear k0 k1 k2 hcx hgs hb2 HT1 HS1 HFZ1
  go_wp2
  by_cases hlt : i < n
  · obtain ⟨b, o, x, cs, rfl, hbw, _, _, hcb, hr⟩ := HS2.out.at_ hlt
    obtain rfl : cs = [.int .u8 x] := hr
    have y0 := hcb 0 _ rfl
    simp only [Nat.mul_one, Nat.add_zero] at y0
    have hbg := HA.out (by omega) b o rfl
    clear hcb
    have hcx := @Later.cell u2
    refine wp_region_ext (by kernel_rfl) (by kernel_rfl) ?_
    repeat (go_big_quiet_step (fail))
    refine wpQuiet_nil ?_
    intro u3 hbu3
    have y1 := hbu3.cell y0
    have hbw3 : b < u3.heap.size := Nat.lt_of_lt_of_le hbw hbu3.le
    have p0 := hbu3.cell m0
    have p1 := hbu3.cell m1
    have p2 := hbu3.cell m2
    have hgsu3 : g < u3.heap.size := Nat.lt_of_lt_of_le hgs2 hbu3.le
    have HTu3 := Lib.hid (HT2.out.trans (hbu3.turned g (g + 1)))
    have HSu3 := Lib.hid (HS2.out.ext RU8.mono hbu3)
    have HFZu3 := Lib.hid (fun j => (hbu3.frozenEq (a := ⟨g, j, none⟩) hgs2).trans (HFZ2.out j))
    clear m0 m1 m2 hcx hgs2 hbu3 HT2 HS2 HFZ2
    clear y0 hbw
    go_wp2
    have hcx := @Later.cell u3
    refine wp_region_ext (by kernel_rfl) (by kernel_rfl) ?_
    repeat (go_big_quiet_step (fail))
    refine wpQuiet_nil ?_
    intro u4 hbu4
    have q0 := hbu4.cell p0
    have q1 := hbu4.cell p1
    have q2 := hbu4.cell p2
    have hgsu4 : g < u4.heap.size := Nat.lt_of_lt_of_le hgsu3 hbu4.le
    have HTu4 := Lib.hid (HTu3.out.trans (hbu4.turned g (g + 1)))
    have HSu4 := Lib.hid (HSu3.out.ext RU8.mono hbu4)
    have HFZu4 := Lib.hid (fun j => (hbu4.frozenEq (a := ⟨g, j, none⟩) hgsu3).trans (HFZu3.out j))
    clear p0 p1 p2 hcx hgsu3 hbu4 HTu3 HSu3 HFZu3
    clear y1 hbw3
    have hv2 := and255 (wrap64 (v + wrap64 x))
    generalize bits BinOp.and IntKind.i64 (wrap64 (v + wrap64 x)) 255 = v2 at *
    have HN := Lib.hid hn
    have HV := Lib.hid hv2
    have HH := Lib.hid hh2
    have hi9 : (i : Int) + 1 ≤ 9223372036854775807 := by omega
    have hfq1 := HFZu4.out 1
    clear hv hv2 hh2
    go_wp2
    refine bodyPost_ret (results_tmp rfl _ _ _) rfl ⟨v2, rfl, HV.out, HTu4.out.trans (turned_put u4 g 1 _), by simpa using hgsu4, fun j => ?_, some ⟨b, o, none⟩, n, c, bs, i + 1, h2, by go_simp, by go_simp, by go_simp, by omega, HN.out, HH.out, HSu4.out.setD RU8.set ⟨g, 1, none⟩ HA.out _, HA.out⟩
    have := HFZu4.out j
    go_simp
  · have HN := Lib.hid hn
    have HV := Lib.hid hv
    have HH := Lib.hid hh2
    clear hv hh2
    have hcx := @Later.cell u2
    refine wp_region_ext (by kernel_rfl) (by kernel_rfl) ?_
    repeat (go_big_quiet_step (fail))
    refine wpQuiet_nil ?_
    intro u3 hbu3
    have p0 := hbu3.cell m0
    have p1 := hbu3.cell m1
    have p2 := hbu3.cell m2
    have HP := Lib.hid (show u3.cell? ⟨g, 0, none⟩ = some (.slice A n c) ∧ u3.cell? ⟨g, 1, none⟩ = some (.int .i64 i) ∧ u3.cell? ⟨g, 2, none⟩ = some (.int .i64 h2) from ⟨p0, p1, p2⟩)
    have HB := Lib.hid hbu3
    clear hbu3 hcx p0 p1 p2 m0 m1 m2
    go_wp2
    exact bodyPost_ret (results_tmp rfl _ _ _) rfl ⟨v, rfl, HV.out, HT2.out.trans (HB.out.turned g (g + 1)), Nat.lt_of_lt_of_le hgs2 HB.out.le, fun j => (HB.out.frozenEq (a := ⟨g, j, none⟩) hgs2).trans (HFZ2.out j), A, n, c, bs, i, h2, HP.out.1, HP.out.2.1, HP.out.2.2, hin, HN.out, HH.out, HS2.out.ext RU8.mono HB.out, HA.out⟩
end Go.Proofs.YtgmlcohffdeplaaGreat
/-! Draw2 -/
namespace Go.Proofs.YtgmlcohffdeplaaGreat
open Go.RowKit
set_option linter.unusedVariables false
theorem tmod_below {v n : Int} (h0 : 0 ≤ v) (hn : 0 < n) : 0 ≤ v.tmod n ∧ v.tmod n < n := by
  rw [Int.tmod_eq_emod_of_nonneg h0]
  exact ⟨Int.emod_nonneg _ (by omega), Int.emod_lt_of_pos _ hn⟩
theorem mod_below {v n : Int} (hn : 0 < n) : 0 ≤ v % n ∧ v % n < n := ⟨Int.emod_nonneg _ (by omega), Int.emod_lt_of_pos _ hn⟩
set_option maxHeartbeats 2000000 in
theorem l01Below_c (g : Nat) (n : Int) (w : World) (hc : Cur w g) (hn : In64 n) : Calls Tryz.prog 89 #[.pointer (some ⟨g, 0, none⟩), .int .i64 n] w (RetDraw w g (fun v => 0 ≤ v ∧ (v < n ∨ v = 0))) := by
  unfold In64 at hn
  by_cases h0 : n ≤ 0
  · have HC := Lib.hid hc
    go_enter Tryz.func89, Tryz.ntmps89
    go_wp2
    exact bodyPost_ret (results_tmp rfl _ _ _) rfl ⟨0, rfl, ⟨Int.le_refl _, .inr rfl⟩, Turned.refl _ _ _, HC.out⟩
  by_cases h1 : n ≤ 256
  · have HB := Lib.hid (l01Byte_c g w hc)
    go_enter Tryz.func89, Tryz.ntmps89
    go_wp2_with fail
    refine HB.out.mono ?_
    rintro e w1 ⟨v, rfl, hv, ht, hc1⟩
    have HT := Lib.hid ht
    have HC := Lib.hid hc1
    have HM := Lib.hid (mod_below (v := v) (n := n) (by omega))
    clear ht hc1 hc
    go_wp2
    exact bodyPost_ret (results_tmp rfl _ _ _) rfl ⟨v % n, rfl, ⟨HM.out.1, .inl HM.out.2⟩, HT.out, HC.out⟩
  · have HB := Lib.hid (fun u hu => l01Byte_c g u hu)
    have HC0 := Lib.hid hc
    clear hc
    go_enter Tryz.func89, Tryz.ntmps89
    go_wp2_with fail
    refine (HB.out _ HC0.out).mono ?_
    rintro e w1 ⟨v1, rfl, hv1, ht1, hc1⟩
    have HC1 := Lib.hid hc1
    go_wp2_with fail
    refine (HB.out _ HC1.out).mono ?_
    rintro e w2 ⟨v2, rfl, hv2, ht2, hc2⟩
    have HC2 := Lib.hid hc2
    go_wp2_with fail
    refine (HB.out _ HC2.out).mono ?_
    rintro e w3 ⟨v3, rfl, hv3, ht3, hc3⟩
    have HC3 := Lib.hid hc3
    go_wp2_with fail
    refine (HB.out _ HC3.out).mono ?_
    rintro e w4 ⟨v4, rfl, hv4, ht4, hc4⟩
    have HC4 := Lib.hid hc4
    have HT := Lib.hid (((ht1.trans ht2).trans ht3).trans ht4)
    have HM := Lib.hid (fun x : Int => mod_below (v := x) (n := n) (by omega))
    clear ht1 ht2 ht3 ht4 hc1 hc2 hc3 hc4
    go_wp2
    exact bodyPost_ret (results_tmp rfl _ _ _) rfl ⟨_, rfl, ⟨(HM.out _).1, .inl (HM.out _).2⟩, HT.out, HC4.out⟩
end Go.Proofs.YtgmlcohffdeplaaGreat
/-! Draw3 -/
namespace Go.Proofs.YtgmlcohffdeplaaGreat
open Go.RowKit
set_option linter.unusedVariables false
set_option maxHeartbeats 2000000 in
theorem l01Raw_c (g : Nat) (w : World) (hc : Cur w g) : Calls Tryz.prog 93 #[.pointer (some ⟨g, 0, none⟩)] w (RetDraw w g In64) := by
  have HB := Lib.hid (fun (n : Int) (hn : In64 n) (u : World) (hu : Cur u g) => l01Below_c g n u hu hn)
  have HC0 := Lib.hid hc
  clear hc
  go_enter Tryz.func93, Tryz.ntmps93
  go_wp2_with fail
  refine (HB.out 9 (by unfold In64; omega) _ HC0.out).mono ?_
  rintro e w1 ⟨k, rfl, ⟨hk0, hk1⟩, ht1, hc1⟩
  have HC1 := Lib.hid hc1
  have HT1 := Lib.hid ht1
  clear hc1 ht1
  have hk : k < 4 ∨ k = 4 ∨ k = 5 ∨ k = 6 ∨ k = 7 ∨ 7 < k := by omega
  rcases hk with hk | rfl | rfl | rfl | rfl | hk
  · go_wp2_with fail
    refine (HB.out 24 (by unfold In64; omega) _ HC1.out).mono ?_
    rintro e w2 ⟨v, rfl, ⟨hv0, hv1⟩, ht2, hc2⟩
    have HC2 := Lib.hid hc2
    have HT2 := Lib.hid (HT1.out.trans ht2)
    clear hc2 ht2
    go_wp2
    exact bodyPost_ret (results_tmp rfl _ _ _) rfl ⟨v - 2, rfl, by unfold In64; omega, HT2.out, HC2.out⟩
  · go_wp2_with fail
    refine (HB.out 3 (by unfold In64; omega) _ HC1.out).mono ?_
    rintro e w2 ⟨v, rfl, ⟨hv0, hv1⟩, ht2, hc2⟩
    have HC2 := Lib.hid hc2
    have HT2 := Lib.hid (HT1.out.trans ht2)
    clear hc2 ht2
    go_wp2
    exact bodyPost_ret (results_tmp rfl _ _ _) rfl ⟨999999 + v, rfl, by unfold In64; omega, HT2.out, HC2.out⟩
  · go_wp2_with fail
    refine (HB.out 3 (by unfold In64; omega) _ HC1.out).mono ?_
    rintro e w2 ⟨v, rfl, ⟨hv0, hv1⟩, ht2, hc2⟩
    have HC2 := Lib.hid hc2
    have HT2 := Lib.hid (HT1.out.trans ht2)
    clear hc2 ht2
    go_wp2
    exact bodyPost_ret (results_tmp rfl _ _ _) rfl ⟨999999999 + v, rfl, by unfold In64; omega, HT2.out, HC2.out⟩
  · go_wp2_with fail
    refine (HB.out 2 (by unfold In64; omega) _ HC1.out).mono ?_
    rintro e w2 ⟨v, rfl, ⟨hv0, hv1⟩, ht2, hc2⟩
    have HC2 := Lib.hid hc2
    have HT2 := Lib.hid (HT1.out.trans ht2)
    clear hc2 ht2
    go_wp2
    exact bodyPost_ret (results_tmp rfl _ _ _) rfl ⟨9223372036854775807 - v, rfl, by unfold In64; omega, HT2.out, HC2.out⟩
  · go_wp2_with fail
    refine (HB.out 2 (by unfold In64; omega) _ HC1.out).mono ?_
    rintro e w2 ⟨v, rfl, ⟨hv0, hv1⟩, ht2, hc2⟩
    have HC2 := Lib.hid hc2
    have HT2 := Lib.hid (HT1.out.trans ht2)
    clear hc2 ht2
    go_wp2
    exact bodyPost_ret (results_tmp rfl _ _ _) rfl ⟨-9223372036854775807 - v, rfl, by unfold In64; omega, HT2.out, HC2.out⟩
  · go_wp2_with fail
    refine (HB.out 2000000 (by unfold In64; omega) _ HC1.out).mono ?_
    rintro e w2 ⟨v, rfl, ⟨hv0, hv1⟩, ht2, hc2⟩
    have HC2 := Lib.hid hc2
    have HT2 := Lib.hid (HT1.out.trans ht2)
    clear hc2 ht2
    go_wp2
    exact bodyPost_ret (results_tmp rfl _ _ _) rfl ⟨v, rfl, by unfold In64; omega, HT2.out, HC2.out⟩
theorem in_bits (op : BinOp) (x y : Int) : In64 (bits op .i64 x y) := by
  unfold bits In64
  simp only []
  rw [IntKind.wrap_i64]
  omega
theorem cur_low {w : World} {A : Option Addr} {n b o : Nat} {bs : List Int} (h : SlAt RU8 1 w A n bs) (h0 : 0 < n) (e : A = some ⟨b, o, none⟩) : b < w.heap.size := by
  obtain ⟨b1, o1, e1, hb1, _⟩ := h.2 h0
  rw [e] at e1; injection e1 with e1; injection e1 with e1 _; omega
/-- A call hands back a cursor in new memory. -/
def RetCur (w : World) : Ending → World → Prop := fun e w' => ∃ g : Nat, e = .returned (.pointer (some ⟨g, 0, none⟩)) ∧ w.heap.size ≤ g ∧ Ext w w' ∧ Cur w' g
set_option maxHeartbeats 2000000 in
set_option maxRecDepth 20000 in
theorem l01New_c (bs : List Int) (A : Option Addr) (n c : Nat) (w : World) (hs : SlAt RU8 1 w A n bs) (hn : n ≤ 1048576) : Calls Tryz.prog 52 #[.slice A n c] w (RetCur w) := by
  go_enter Tryz.func52, Tryz.ntmps52
  go_wp2
  go_loop [3, 4] (fun h i => ∃ (k : Nat) (q : Int), k ≤ n ∧ i = .int .i64 k ∧ h = .int .i64 q ∧ In64 q) (fun _ i => n - (intOf i).toNat)
  case atStart => exact ⟨0, _, Nat.zero_le _, rfl, rfl, by unfold In64; omega⟩
  case round =>
    obtain ⟨k, q, hk, rfl, rfl, hq⟩ := hrel
    by_cases hlt : k < n
    · by_cases h4 : k < 4000
      · obtain ⟨b, o, x, cs, rfl, hbw, _, _, hcb, hr⟩ := hs.at_ hlt
        obtain rfl : cs = [.int .u8 x] := hr
        have y0 := hcb 0 _ rfl
        simp only [Nat.mul_one, Nat.add_zero] at y0
        have HQ := Lib.hid (fun (a d : Int) => in_bits .and a d)
        clear hcb hs hq
        go_wp2
        go_round
        case rel => exact ⟨k + 1, _, by omega, by go_num, rfl, HQ.out _ _⟩
        case measure => simp [intOf]; omega
      · have HS := Lib.hid hs
        have HQ := Lib.hid hq
        clear hs hq
        go_wp2
        exact bodyPost_ret (results_tmp rfl _ _ _) rfl ⟨w.heap.size, rfl, Nat.le_refl _, (by repeat (first | exact Ext.refl _ | assumption | apply Ext.alloc | apply Ext.drewN | apply Ext.drew | (refine Ext.setCell ?_ (by first | (simp; done) | (simp; omega) | omega) _) | (refine Ext.trans ?_ (by assumption)))), by simp, fun j => by simp, A, n, c, bs, 0, q, law_box w [.slice A n c, .int .i64 0, .int .i64 q] _ 0 _ rfl, law_box w [.slice A n c, .int .i64 0, .int .i64 q] _ 1 _ rfl, law_box w [.slice A n c, .int .i64 0, .int .i64 q] _ 2 _ rfl, Nat.zero_le _, hn, HQ.out, HS.out.ext RU8.mono ((Ext.refl _).alloc _), fun h0 b o e => cur_low HS.out h0 e⟩
    · have HS := Lib.hid hs
      have HQ := Lib.hid hq
      clear hs hq
      go_wp2
      exact bodyPost_ret (results_tmp rfl _ _ _) rfl ⟨w.heap.size, rfl, Nat.le_refl _, (by repeat (first | exact Ext.refl _ | assumption | apply Ext.alloc | apply Ext.drewN | apply Ext.drew | (refine Ext.setCell ?_ (by first | (simp; done) | (simp; omega) | omega) _) | (refine Ext.trans ?_ (by assumption)))), by simp, fun j => by simp, A, n, c, bs, 0, q, law_box w [.slice A n c, .int .i64 0, .int .i64 q] _ 0 _ rfl, law_box w [.slice A n c, .int .i64 0, .int .i64 q] _ 1 _ rfl, law_box w [.slice A n c, .int .i64 0, .int .i64 q] _ 2 _ rfl, Nat.zero_le _, hn, HQ.out, HS.out.ext RU8.mono ((Ext.refl _).alloc _), fun h0 b o e => cur_low HS.out h0 e⟩
end Go.Proofs.YtgmlcohffdeplaaGreat
/-! DrawG -/
namespace Go.Proofs.YtgmlcohffdeplaaGreat
open Go.RowKit
set_option linter.unusedVariables false
/-- Low blocks stay: what lies from base on may turn. -/
theorem turned_low {g base : Nat} {w w1 w2 : World} (h : Turned g (g + 1) w w1) (k : Turned base (w2.heap.size) w1 w2) (hb : w.heap.size ≤ base) : Turned g (g + 1) w w2 :=
  ⟨k.os.trans h.os, k.tape.trans h.tape, k.output.trans h.output, Nat.le_trans h.size k.size, fun b hb1 hr => (k.block b (Nat.lt_of_lt_of_le hb1 h.size) (.inl (by omega))).trans (h.block b hb1 hr)⟩
theorem Cur.keep {g lo hi : Nat} {w w' : World} (hc : Cur w g) (ht : Turned lo hi w w') (hg : g < lo) : Cur w' g := by
  obtain ⟨hlt, hfz, A, n, c, bs, i, h, c0, c1, c2, hin, hn, hh, hsl, hA⟩ := hc
  have hblk : ∀ b, b ≤ g → w'.heap[b]? = w.heap[b]? := fun b hb => ht.block b (by omega) (.inl (by omega))
  refine ⟨Nat.lt_of_lt_of_le hlt ht.size, fun j => by rw [World.frozen?_of_block (a := ⟨g, j, none⟩) (hblk g (Nat.le_refl _))]; exact hfz j, A, n, c, bs, i, h, by rw [World.cell?_of_block (a := ⟨g, 0, none⟩) (hblk g (Nat.le_refl _))]; exact c0, by rw [World.cell?_of_block (a := ⟨g, 1, none⟩) (hblk g (Nat.le_refl _))]; exact c1, by rw [World.cell?_of_block (a := ⟨g, 2, none⟩) (hblk g (Nat.le_refl _))]; exact c2, hin, hn, hh, ?_, hA⟩
  refine ⟨hsl.1, fun h0 => ?_⟩
  obtain ⟨b, o, e, hb, hcs⟩ := hsl.2 h0
  have hbg := hA h0 b o e
  refine ⟨b, o, e, Nat.lt_of_lt_of_le hb ht.size, fun k x hx => ?_⟩
  obtain ⟨cs, q1, q2, q3⟩ := hcs k x hx
  exact ⟨cs, q1, fun j u hu => by rw [World.cell?_of_block (a := ⟨b, o + k * 1 + j, none⟩) (hblk b (by omega))]; exact q2 j u hu, q3⟩
theorem Cur.ext {g : Nat} {w w' : World} (hc : Cur w g) (h : Ext w w') : Cur w' g := hc.keep (h.turned (g + 1) (g + 1)) (Nat.lt_succ_self g)
theorem Turned.ext {g : Nat} {w w1 w2 : World} (h : Turned g (g + 1) w w1) (k : Ext w1 w2) : Turned g (g + 1) w w2 := h.trans (k.turned _ _)
theorem cellT {g b o : Nat} {v : Value} {w w' : World} (ht : Turned g (g + 1) w w') (h : w.cell? ⟨b, o, none⟩ = some v) (hb : b ≠ g) : w'.cell? ⟨b, o, none⟩ = some v := by
  rw [World.cell?_of_block (a := ⟨b, o, none⟩) (ht.block b (lt_of_cell h) (by omega))]; exact h
theorem frozenT {g b o : Nat} {f : Bool} {w w' : World} (ht : Turned g (g + 1) w w') (h : w.frozen? ⟨b, o, none⟩ = f) (hl : b < w.heap.size) (hb : b ≠ g) : w'.frozen? ⟨b, o, none⟩ = f := by
  rw [World.frozen?_of_block (a := ⟨b, o, none⟩) (ht.block b hl (by omega))]; exact h
theorem ownsT {w w' : World} {base lo hi : Nat} {e : TypeId} {sz n : Nat} {v : Value} {L : List Value} (h : w.ownsRow base e sz v n L) (ht : Turned lo hi w w') (hd : hi ≤ base) : w'.ownsRow base e sz v n L := by
  have hlt := h.lt
  obtain ⟨h1, h2⟩ := h
  refine ⟨h1, ?_⟩
  rcases h2 with h2 | ⟨g, cap, cur, rfl, hg, hh, r⟩
  · exact .inl h2
  · exact .inr ⟨g, cap, cur, rfl, hg, (ht.block g (hlt g rfl).2 (.inr (Nat.le_trans hd hg))).trans hh, r⟩
/-- 'out = append(out, x)': one value, laid in a box of its own; what lies below the row's base stays. -/
theorem wpList_append_one_t {P : Program} {w : World} {ops : Array Oper} {rest : List Oper} {o : Oper} {a : Act} {Q : Exit → Act → World → Prop} (s x : Operand) (t : TypeId)
    (base : Nat) (e : TypeId) (i : TypeInfo) (z : Value) (size bytes : Nat) (v : Value) (n : Nat) (L cs : List Value) (hgd : o.guard = none)
    (ho : o.op = .call { callee := .builtin .append, args := #[s, x], argTypes := #[t, t] })
    (ht : P.underlying t = some (.slice e)) (hi : P.info? e = some i) (hz : i.zero = some z)
    (hsize : i.size = size) (hby : i.bytes = bytes) (hzs : z.cells.size = size) (hsz : 0 < size)
    (hs : a.eval s = v) (hown : w.ownsRow base e size v n L)
    (p : Nat) (hx : a.eval x = .slice (some ⟨p, 0, none⟩) 1 1) (hp : p = w.heap.size) (hl : cs.length = size) (h1 : ∀ u ∈ cs, u.oneCell' = true)
    (h63 : n + 1 ≤ maxLen) (hbytes : (n + 1) * bytes ≤ 140737488355328) (hbw : base ≤ w.heap.size)
    (h : ∀ A c w', w'.ownsRow base e size (.slice A (n + 1) c) (n + 1) (L ++ cs) → Turned base w'.heap.size w w' → w.heap.size < w'.heap.size → (∀ (b : Nat) (cs' : Array Value) (e' : TypeId), e' ≠ e → w.heap[b]? = some (Obj.cells cs' e') → w'.heap[b]? = some (Obj.cells cs' e')) → wpList P ops Q rest (a.put o.dst (.slice A (n + 1) c)) w') : wpList P ops Q (o :: rest) a (w.alloc (.cells cs.toArray e)) := by
  subst hp
  refine wpList_append_own _ hgd s x t ho base e i z size bytes ht hi hz hsize hby hzs hsz v n L hs (hown.alloc _) ⟨w.heap.size, 0, none⟩ 1 1 cs hx (by rw [hl, Nat.one_mul]) (cell_boxed w cs e) h1 h63 hbytes (by simp; omega) ?_
  intro v' w' ho' hg' _
  have hsz' := hg'.size
  simp at hsz'
  have hbl : ∀ b, b < w.heap.size → v.ownBlock ≠ some b → w'.heap[b]? = w.heap[b]? := fun b hb hv => by
    rw [hg'.block b (by simp; omega) (fun e => hv e.symm)]
    exact ((Ext.refl w).alloc (.cells cs.toArray e)).block b hb
  have htu : Turned base w'.heap.size w w' := ⟨hg'.os, hg'.tape, hg'.output, by omega, fun b hb hr => by
    have hb1 : b < base := by omega
    exact hbl b hb (fun hv => by have := (hown.lt b hv).1; omega)⟩
  have hkeep : ∀ (b : Nat) (cs' : Array Value) (e' : TypeId), e' ≠ e → w.heap[b]? = some (Obj.cells cs' e') → w'.heap[b]? = some (Obj.cells cs' e') := by
    intro b cs' e' hne hb
    have hl' : b < w.heap.size := by
      rcases Nat.lt_or_ge b w.heap.size with hl | hl
      · exact hl
      · rw [Array.getElem?_eq_none hl] at hb; cases hb
    rw [hbl b hl' ?_]
    · exact hb
    · intro hv
      rcases hown.2 with ⟨rfl, _⟩ | ⟨g, cap, cur, rfl, _, hh, _⟩
      · cases hv
      · injection hv with hv; subst hv
        rw [hh] at hb; injection hb with hb; injection hb with _ h2; exact hne h2.symm
  obtain ⟨hlen, ⟨_, h0⟩ | ⟨g, cap, cur, rfl, r⟩⟩ := ho'
  · omega
  · exact h _ _ _ ⟨hlen, .inr ⟨g, cap, cur, rfl, r⟩⟩ htu (by omega) hkeep
/-- A call hands back a list in new memory; of what was, only the cursor has turned. -/
def RetRowD {α : Type} (enc : α → List Value) (ok : α → Prop) (e : TypeId) (sz m : Nat) (w : World) (g : Nat) : Ending → World → Prop :=
  fun en w' => ∃ (A : Option Addr) (c : Nat) (xs : List α), en = .returned (.slice A xs.length c) ∧ w'.ownsRow w.heap.size e sz (.slice A xs.length c) xs.length (xs.flatMap enc) ∧ (∀ x ∈ xs, ok x) ∧ xs.length ≤ m ∧ Turned g (g + 1) w w' ∧ Cur w' g
theorem rowD_sl {α : Type} {enc : α → List Value} {ok : α → Prop} {e : TypeId} {sz base c : Nat} {w : World} {A : Option Addr} {xs : List α} (hsz : ∀ x, (enc x).length = sz) (h : w.ownsRow base e sz (.slice A xs.length c) xs.length (xs.flatMap enc)) (hok : ∀ x ∈ xs, ok x) : SlAt (Flat enc ok) sz w A xs.length xs := (OwnAt.flat hsz hok h).slAt
theorem all_snoc {α : Type} {ok : α → Prop} {xs : List α} {x : α} (h : ∀ y ∈ xs, ok y) (hx : ok x) : ∀ y ∈ xs ++ [x], ok y := fun y hy => by
  rcases List.mem_append.1 hy with hy | hy
  · exact h y hy
  · rw [List.mem_singleton.1 hy]; exact hx
theorem own_snoc {α : Type} {enc : α → List Value} {e : TypeId} {sz base c : Nat} {w : World} {A : Option Addr} {xs : List α} {x : α} (h : w.ownsRow base e sz (.slice A (xs.length + 1) c) (xs.length + 1) (xs.flatMap enc ++ enc x)) :
    w.ownsRow base e sz (.slice A (xs ++ [x]).length c) (xs ++ [x]).length ((xs ++ [x]).flatMap enc) := by
  rw [List.flatMap_append, List.length_append]; simpa using h
/-- A row whose values are one by one turned into another list's. -/
theorem owns_put {α : Type} {enc : α → List Value} {e : TypeId} {sz base c : Nat} {w : World} {g : Nat} {xs : List α} (hsz : ∀ y, (enc y).length = sz) {k j : Nat} (hj : j < sz) {x x' : α} (hx : xs[k]? = some x) {u : Value} (he : enc x' = (enc x).set j u)
    (h : w.ownsRow base e sz (.slice (some ⟨g, 0, none⟩) xs.length c) xs.length (xs.flatMap enc)) :
    (w.setCell ⟨g, k * sz + j, none⟩ u).ownsRow base e sz (.slice (some ⟨g, 0, none⟩) (xs.set k x').length c) (xs.set k x').length ((xs.set k x').flatMap enc) := by
  have hk := (List.getElem?_eq_some_iff.1 hx).1
  have h2 := (h.stored (k * sz + j) u).1
  have hpre : (xs.take k).length = k := by rw [List.length_take]; omega
  have h3 := flatMap_set hsz hj he (xs.drop (k + 1)) (xs.take k)
  rw [← split_at hx, hpre] at h3
  rw [h3] at h2
  rw [List.set_eq_take_append_cons_drop, if_pos hk]
  have hl : (xs.take k ++ x' :: xs.drop (k + 1)).length = xs.length := by simp; omega
  rw [hl]; exact h2
theorem all_set {α : Type} {ok : α → Prop} {xs : List α} {k : Nat} {x : α} (h : ∀ y ∈ xs, ok y) (hx : ok x) : ∀ y ∈ xs.set k x, ok y := fun y hy => by
  rcases List.mem_or_eq_of_mem_set hy with hy | rfl
  · exact h y hy
  · exact hx
theorem turned_own {g j base : Nat} {w w1 : World} {u : Value} (h : Turned g (g + 1) w w1) (hb : w.heap.size ≤ base) : Turned g (g + 1) w (w1.setCell ⟨base, j, none⟩ u) :=
  ⟨h.os, h.tape, h.output, by simpa [World.setCell] using h.size, fun b hb1 hr => (Below.heap_setCell _ _ _ _ (by simp only []; omega)).trans (h.block b hb1 hr)⟩
theorem Cur.put {g j b : Nat} {w : World} {u : Value} (hc : Cur w g) (hb : g < b) : Cur (w.setCell ⟨b, j, none⟩ u) g :=
  hc.keep (lo := b) (hi := b + 1) ⟨rfl, rfl, rfl, by simp [World.setCell], fun k _ hr => Below.heap_setCell _ _ _ _ (by simp only []; omega)⟩ hb
theorem dcell_box (w : World) (cs : List Value) (e : TypeId) (j : Nat) (u : Value) (h : cs[j]? = some u) : (w.alloc (.cells cs.toArray e)).cell? ⟨w.heap.size, j, none⟩ = some u := law_box w cs e j u h
theorem dfrozen_box (w : World) (cs : List Value) (e : TypeId) (j : Nat) : (w.alloc (.cells cs.toArray e)).frozen? ⟨w.heap.size, j, none⟩ = false := by simp
theorem heap_box (w : World) (b : Nat) (hb : w.heap.size = b) (o : Obj) : (w.alloc o).heap[b]? = some o := by subst hb; exact heap_alloc_new w o
theorem ret_post {w : World} {P : Program} {fn : Func} {a : Act} {v : Value} {t : Tmp} {R : Ending → World → Prop} (hr : fn.results = #[.tmp t]) (h : R (.returned v) w) (hv : a.tmps.getD t undef = v := by rfl) (hd : a.defers = [] := by rfl) : bodyPost P fn R .ret a w :=
  bodyPost_ret (results_tmp hr _ _ _) hd (by rw [hv]; exact h)
theorem in64_of {n : Int} (h1 : -9223372036854775808 ≤ n) (h2 : n ≤ 9223372036854775807) : In64 n := ⟨h1, h2⟩
theorem heap_lt {w : World} {b : Nat} {o : Obj} (h : w.heap[b]? = some o) : b < w.heap.size := by
  rcases Nat.lt_or_ge b w.heap.size with hl | hl
  · exact hl
  · rw [Array.getElem?_eq_none hl] at h; cases h
def RetStrD (m : Nat) (w : World) (g : Nat) : Ending → World → Prop := fun e w' => ∃ s : ByteArray, e = .returned (.string s) ∧ s.size ≤ m ∧ Turned g (g + 1) w w' ∧ Cur w' g
theorem strD {m g : Nat} {w w' : World} (s : ByteArray) (hs : s.size ≤ m) (ht : Turned g (g + 1) w w') (hc : Cur w' g) : RetStrD m w g (.returned (.string s)) w' := ⟨s, rfl, hs, ht, hc⟩
theorem heapT {g b : Nat} {o : Obj} {w w' : World} (ht : Turned g (g + 1) w w') (h : w.heap[b]? = some o) (hb : b ≠ g) : w'.heap[b]? = some o := by
  have hl : b < w.heap.size := by
    rcases Nat.lt_or_ge b w.heap.size with hl | hl
    · exact hl
    · rw [Array.getElem?_eq_none hl] at h; cases h
  rw [ht.block b hl (by omega)]; exact h
theorem heapE {b : Nat} {o : Obj} {w w' : World} (ht : Ext w w') (h : w.heap[b]? = some o) : w'.heap[b]? = some o := by
  have hl : b < w.heap.size := by
    rcases Nat.lt_or_ge b w.heap.size with hl | hl
    · exact hl
    · rw [Array.getElem?_eq_none hl] at h; cases h
  rw [ht.block b hl]; exact h
theorem cell_block {w : World} {b : Nat} {cs : List Value} {e : TypeId} (h : w.heap[b]? = some (Obj.cells cs.toArray e)) (j : Nat) (u : Value) (hj : cs[j]? = some u) : w.cell? ⟨b, j, none⟩ = some u := by
  rw [cell_of_row w b j cs.toArray e (0, 0) h]; simpa using hj
theorem owns_other {w : World} {base : Nat} {e : TypeId} {sz n : Nat} {v : Value} {L : List Value} (h : w.ownsRow base e sz v n L) {p : Addr} (hq : ∀ q, v.ownBlock = some q → q ≠ p.block) (u : Value) : (w.setCell p u).ownsRow base e sz v n L := by
  obtain ⟨h1, h2⟩ := h
  refine ⟨h1, ?_⟩
  rcases h2 with h2 | ⟨g, cap, cur, rfl, hg, hh, r⟩
  · exact .inl h2
  · exact .inr ⟨g, cap, cur, rfl, hg, (Below.heap_setCell _ _ _ _ (hq g rfl)).trans hh, r⟩
end Go.Proofs.YtgmlcohffdeplaaGreat
/-! DrawH -/
namespace Go.Proofs.YtgmlcohffdeplaaGreat
open Go.RowKit
set_option linter.unusedVariables false
theorem grown_turned_own {w w' : World} {base n : Nat} {e : TypeId} {sz : Nat} {v : Value} {L : List Value} (hown : w.ownsRow base e sz v n L) (hg : w.grownBy w' v.ownBlock) : Turned base w'.heap.size w w' :=
  ⟨hg.os, hg.tape, hg.output, hg.size, fun b hb hr => hg.block b hb (fun e => by have h1 := (hown.lt b e.symm).1; have h2 := hg.size; omega)⟩
theorem wpList_append_list_t {P : Program} {w : World} {ops : Array Oper} {rest : List Oper} {o : Oper} {a : Act} {Q : Exit → Act → World → Prop} {α : Type} {enc : α → List Value} {ok : α → Prop} (s x : Operand) (t : TypeId)
    (base : Nat) (e : TypeId) (i : TypeInfo) (z : Value) (size bytes : Nat) (v : Value) (n : Nat) (L : List Value) (A : Option Addr) (m c : Nat) (ys : List α) (hgd : o.guard = none)
    (ho : o.op = .call { callee := .builtin .append, args := #[s, x], argTypes := #[t, t] })
    (ht : P.underlying t = some (.slice e)) (hi : P.info? e = some i) (hz : i.zero = some z)
    (hsize : i.size = size) (hby : i.bytes = bytes) (hzs : z.cells.size = size) (hsz : 0 < size)
    (hs : a.eval s = v) (hown : w.ownsRow base e size v n L)
    (hx : a.eval x = .slice A m c) (hys : SlAt (Flat enc ok) size w A m ys) (hl : ∀ y, (enc y).length = size) (h1 : ∀ y, ∀ u ∈ enc y, u.oneCell' = true)
    (h63 : n + m ≤ maxLen) (hbytes : (n + m) * bytes ≤ 140737488355328)
    (hbw : base ≤ w.heap.size)
    (h : ∀ A' c' w', (w'.ownsRow base e size (.slice A' (n + m) c') (n + m) (L ++ ys.flatMap enc)) → Turned base w'.heap.size w w' → w.heap.size ≤ w'.heap.size → (∀ b : Nat, v.ownBlock ≠ some b → b < w.heap.size → w'.heap[b]? = w.heap[b]?) → wpList P ops Q rest (a.put o.dst (.slice A' (n + m) c')) w') : wpList P ops Q (o :: rest) a w := by
  have hshape : ∀ {w' : World} {v' : Value} {L' : List Value}, w'.ownsRow base e size v' (n + m) L' → ∃ A' c', v' = .slice A' (n + m) c' := by
    intro w' v' L' h'
    rcases h'.2 with ⟨rfl, h0⟩ | ⟨g, cap, cur, rfl, _⟩
    · exact ⟨none, 0, by rw [h0]⟩
    · exact ⟨_, _, rfl⟩
  rcases Nat.eq_zero_or_pos m with h0 | h0
  · subst h0
    have hy : ys = [] := List.eq_nil_of_length_eq_zero hys.1
    subst hy
    rcases A with _ | ad
    · refine wpList_plain hgd fun K hK => ?_
      have hrun := run_append_of_nil (P := P) w base t o.type e i size ht hi v n L hown c
      unfold Oper.wp execOp
      simp only [ho, resolve, invoke, builtin, Sem.run_bind, Sem.run_pure, Result.andThen_ok, List.map_toArray, List.map_cons, List.map_nil, hs, hx, hrun]
      obtain ⟨A', c', e1⟩ := hshape (show w.ownsRow base e size v (n + 0) L from hown)
      subst e1
      exact hK _ _ (h A' c' w (by simpa using hown) (Turned.refl _ _ _) (Nat.le_refl _) (fun _ _ _ => rfl))
    · refine wpList_append_own w hgd s x t ho base e i z size bytes ht hi hz hsize hby hzs hsz v n L hs hown ad 0 c [] hx (by simp) (fun j u hu => by simp at hu) (fun u hu => by cases hu) h63 hbytes hbw ?_
      intro v' w' ho' hg' _
      obtain ⟨A', c', rfl⟩ := hshape ho'
      exact h A' c' w' (by simpa using ho') (grown_turned_own hown hg') hg'.size (fun b hb hl => hg'.block b hl (fun e => hb e.symm))
  · obtain ⟨b, off, rfl, hb, hc⟩ := hys.flatCells hl h0
    have hlen : (ys.flatMap enc).length = m * size := by
      rw [← hys.1]; clear h hc hys hx
      induction ys with
      | nil => simp
      | cons y ys ih => rw [List.flatMap_cons, List.length_append, hl, ih, List.length_cons, Nat.add_mul]; omega
    refine wpList_append_own w hgd s x t ho base e i z size bytes ht hi hz hsize hby hzs hsz v n L hs hown ⟨b, off, none⟩ m c (ys.flatMap enc) hx hlen (fun j u hu => ?_) (fun u hu => ?_) h63 hbytes hbw ?_
    · have := hc j u hu
      unfold Addr.add; split
      · rename_i hj; subst hj; exact this
      · exact this
    · obtain ⟨y, _, hu⟩ := List.mem_flatMap.1 hu; exact h1 y u hu
    · intro v' w' ho' hg' _
      obtain ⟨A', c', rfl⟩ := hshape ho'
      exact h A' c' w' ho' (grown_turned_own hown hg') hg'.size (fun b hb hl => hg'.block b hl (fun e => hb e.symm))

theorem dcell_kept {w w' : World} {b j : Nat} {u : Value} (h : w'.heap[b]? = w.heap[b]?) (hc : w.cell? ⟨b, j, none⟩ = some u) : w'.cell? ⟨b, j, none⟩ = some u := by
  rw [← hc]; unfold World.cell?; rw [h]
theorem down_ne {w : World} {base n b : Nat} {e : TypeId} {sz : Nat} {v : Value} {L : List Value} (h : w.ownsRow base e sz v n L) (hb : w.heap.size ≤ b) : v.ownBlock ≠ some b := by
  intro e; have := (h.lt b e).2; omega
theorem down_form {w : World} {base n : Nat} {e : TypeId} {sz : Nat} {A : Option Addr} {c : Nat} {L : List Value} (h : w.ownsRow base e sz (.slice A n c) n L) (hn : 0 < n) : ∃ g, A = some ⟨g, 0, none⟩ ∧ base ≤ g ∧ g < w.heap.size := by
  obtain ⟨g, cap, e1, h1, h2⟩ := own_form h hn
  injection e1 with e1 _ _
  exact ⟨g, e1, h1, h2⟩
theorem heap_box_lt {w : World} {b : Nat} {o : Obj} (h : w.heap[b]? = some o) : b < w.heap.size := heap_lt h
end Go.Proofs.YtgmlcohffdeplaaGreat
/-! DrawVec -/
namespace Go.Proofs.YtgmlcohffdeplaaGreat
open Go.RowKit
set_option linter.unusedVariables false
theorem draw_frozen {w : World} {b : Nat} {cs : List Value} {e : TypeId} (h : w.heap[b]? = some (Obj.cells cs.toArray e)) (j : Nat) : w.frozen? ⟨b, j, none⟩ = false := by simp [World.frozen?, h]
def RetVecD (w : World) (g : Nat) : Ending → World → Prop := fun e w' => ∃ x : Vec, e = .returned (.agg #[.int .i64 x.A, .int .i64 x.B, .int .i64 x.C]) ∧ x.ok ∧ Turned g (g + 1) w w' ∧ Cur w' g
def RetJobD (w : World) (g : Nat) : Ending → World → Prop := fun e w' => ∃ x : Job, e = .returned (.agg #[.int .i64 x.Id, .int .i64 x.Prio, .int .i64 x.Nodes, .int .i64 x.Need.A, .int .i64 x.Need.B, .int .i64 x.Need.C, .int .i64 x.Lic.A, .int .i64 x.Lic.B, .int .i64 x.Lic.C, .int .i64 x.Wall, .int .i64 x.Level]) ∧ x.ok ∧ Turned g (g + 1) w w' ∧ Cur w' g
set_option maxHeartbeats 4000000 in
set_option maxRecDepth 20000 in
theorem l01Vec_c (g : Nat) (w : World) (hc : Cur w g) : Calls Tryz.prog 136 #[.pointer (some ⟨g, 0, none⟩)] w (RetVecD w g) := by
  have hgw := hc.lt
  have HB := Lib.hid (fun (n : Int) (hn : In64 n) (u : World) (hu : Cur u g) => l01Below_c g n u hu hn)
  have HR := Lib.hid (fun (u : World) (hu : Cur u g) => l01Raw_c g u hu)
  have H9 : Hid (∀ n : Int, -1000000 ≤ n → n ≤ 1000000 → In64 n) := Lib.hid (fun n h1 h2 => by unfold In64; omega)
  have HC0 := Lib.hid (hc.ext ((Ext.refl w).alloc (.cells #[.int .i64 0, .int .i64 0, .int .i64 0] 59)))
  have HT0 := Lib.hid (((Ext.refl w).alloc (.cells #[.int .i64 0, .int .i64 0, .int .i64 0] 59)).turned g (g + 1))
  have HY0 := Lib.hid (heap_alloc_new w (.cells #[.int .i64 0, .int .i64 0, .int .i64 0] 59))
  clear hc
  go_enter Tryz.func136, Tryz.ntmps136
  go_wp2_with fail
  refine (HB.out 9 (H9.out _ (by omega) (by omega)) _ HC0.out).mono ?_
  rintro e w1 ⟨v1, rfl, ⟨hv1a, hv1b⟩, ht1, hc1⟩
  have HT1 := Lib.hid (HT0.out.trans ht1)
  have HC1 := Lib.hid hc1
  have hs1 := HT1.out.le
  have HY1 := Lib.hid (heapT ht1 HY0.out (by omega))
  clear ht1 hc1
  go_wp2_with fail
  refine (HB.out 17 (H9.out _ (by omega) (by omega)) _ HC1.out).mono ?_
  rintro e w2 ⟨v2, rfl, ⟨hv2a, hv2b⟩, ht2, hc2⟩
  have HT2 := Lib.hid (HT1.out.trans ht2)
  have HC2 := Lib.hid hc2
  have hs2 := HT2.out.le
  have HY2 := Lib.hid (heapT ht2 HY1.out (by omega))
  clear ht2 hc2
  go_wp2_with fail
  refine (HB.out 3 (H9.out _ (by omega) (by omega)) _ HC2.out).mono ?_
  rintro e w3 ⟨v3, rfl, ⟨hv3a, hv3b⟩, ht3, hc3⟩
  have HT3 := Lib.hid (HT2.out.trans ht3)
  have HC3 := Lib.hid hc3
  have hs3 := HT3.out.le
  have HY3 := Lib.hid (heapT ht3 HY2.out (by omega))
  clear ht3 hc3
  go_wp2_with fail
  refine (HB.out 14 (H9.out _ (by omega) (by omega)) _ (HC3.out.ext ((Ext.refl w3).alloc _))).mono ?_
  rintro e w4 ⟨v4, rfl, ⟨hv4a, hv4b⟩, ht4, hc4⟩
  have HT4 := Lib.hid ((HT3.out.ext ((Ext.refl w3).alloc _)).trans ht4)
  have HC4 := Lib.hid hc4
  have hs4 := HT4.out.le
  have HY4 := Lib.hid (heapT ht4 (heapE ((Ext.refl w3).alloc _) HY3.out) (by omega))
  have HX4 := Lib.hid (heapT ht4 (heap_alloc_new w3 _) (by omega))
  clear ht4 hc4
  by_cases hv : v4 = 0
  · subst hv
    go_wp2_with fail
    refine (HB.out 2 (H9.out _ (by omega) (by omega)) _ HC4.out).mono ?_
    rintro e w5 ⟨v5, rfl, ⟨hv5a, hv5b⟩, ht5, hc5⟩
    have HT5 := Lib.hid (HT4.out.trans ht5)
    have HC5 := Lib.hid hc5
    have hs5 := HT5.out.le
    have HY5 := Lib.hid (heapT ht5 HY4.out (by omega))
    have HX5 := Lib.hid (heapT ht5 HX4.out (by omega))
    clear ht5 hc5
    have x0 := cell_block HX5.out 0 _ rfl
    have x1 := cell_block HX5.out 1 _ rfl
    have x2 := cell_block HX5.out 2 _ rfl
    have y0 := cell_block HY5.out 0 _ rfl
    have y1 := cell_block HY5.out 1 _ rfl
    have y2 := cell_block HY5.out 2 _ rfl
    have yf0 := draw_frozen HY5.out 0
    have yf1 := draw_frozen HY5.out 1
    have yf2 := draw_frozen HY5.out 2
    have xf1 := draw_frozen HX5.out 1
    have hlx := heap_lt HX5.out
    have hly := heap_lt HY5.out
    have hlm : w.heap.size < w3.heap.size := heap_lt HY3.out
    have hn1 : ¬ w.heap.size = w3.heap.size := by omega
    have hn2 : ¬ w3.heap.size = w.heap.size := by omega
    go_wp2
    refine bodyPost_ret (v := .agg #[.int .i64 v1, .int .i64 (1000000 - v5), .int .i64 v3]) (by simp [results, Tryz.results136, go_sem, y0, y1, y2]) rfl ⟨⟨v1, 1000000 - v5, v3⟩, rfl, ⟨in64_of (n := v1) (by omega) (by omega), in64_of (n := 1000000 - v5) (by omega) (by omega), in64_of (n := v3) (by omega) (by omega)⟩, ?_, ?_⟩
    · repeat (first | with_reducible exact HT5.out | refine turned_own ?_ (by omega))
    · repeat (first | with_reducible exact HC5.out | refine Cur.put ?_ (by omega))
  · skip
    have x0 := cell_block HX4.out 0 _ rfl
    have x1 := cell_block HX4.out 1 _ rfl
    have x2 := cell_block HX4.out 2 _ rfl
    have y0 := cell_block HY4.out 0 _ rfl
    have y1 := cell_block HY4.out 1 _ rfl
    have y2 := cell_block HY4.out 2 _ rfl
    have yf0 := draw_frozen HY4.out 0
    have yf1 := draw_frozen HY4.out 1
    have yf2 := draw_frozen HY4.out 2
    have hlx := heap_lt HX4.out
    have hly := heap_lt HY4.out
    have hlm : w.heap.size < w3.heap.size := heap_lt HY3.out
    have hn1 : ¬ w.heap.size = w3.heap.size := by omega
    have hn2 : ¬ w3.heap.size = w.heap.size := by omega
    go_wp2
    refine bodyPost_ret (v := .agg #[.int .i64 v1, .int .i64 v2, .int .i64 v3]) (by simp [results, Tryz.results136, go_sem, y0, y1, y2]) rfl ⟨⟨v1, v2, v3⟩, rfl, ⟨in64_of (n := v1) (by omega) (by omega), in64_of (n := v2) (by omega) (by omega), in64_of (n := v3) (by omega) (by omega)⟩, ?_, ?_⟩
    · repeat (first | with_reducible exact HT4.out | refine turned_own ?_ (by omega))
    · repeat (first | with_reducible exact HC4.out | refine Cur.put ?_ (by omega))
set_option maxHeartbeats 4000000 in
set_option maxRecDepth 20000 in
theorem l01Any_c (g : Nat) (w : World) (hc : Cur w g) : Calls Tryz.prog 115 #[.pointer (some ⟨g, 0, none⟩)] w (RetVecD w g) := by
  have hgw := hc.lt
  have HB := Lib.hid (fun (n : Int) (hn : In64 n) (u : World) (hu : Cur u g) => l01Below_c g n u hu hn)
  have HR := Lib.hid (fun (u : World) (hu : Cur u g) => l01Raw_c g u hu)
  have H9 : Hid (∀ n : Int, -1000000 ≤ n → n ≤ 1000000 → In64 n) := Lib.hid (fun n h1 h2 => by unfold In64; omega)
  have HC0 := Lib.hid (hc.ext ((Ext.refl w).alloc (.cells #[.int .i64 0, .int .i64 0, .int .i64 0] 59)))
  have HT0 := Lib.hid (((Ext.refl w).alloc (.cells #[.int .i64 0, .int .i64 0, .int .i64 0] 59)).turned g (g + 1))
  have HY0 := Lib.hid (heap_alloc_new w (.cells #[.int .i64 0, .int .i64 0, .int .i64 0] 59))
  clear hc
  go_enter Tryz.func115, Tryz.ntmps115
  go_wp2_with fail
  refine (l01Vec_c g _ HC0.out).mono ?_
  rintro e w1 ⟨x, rfl, hx, ht1, hc1⟩
  have HT1 := Lib.hid (HT0.out.trans ht1)
  have HC1 := Lib.hid hc1
  have HY1 := Lib.hid (heapT ht1 HY0.out (by omega))
  have HXO := Lib.hid hx
  have hs1 := HT1.out.le
  clear ht1 hc1 hx
  go_wp2_with fail
  refine (HB.out 12 (H9.out _ (by omega) (by omega)) _ (HC1.out.ext ((Ext.refl w1).alloc _))).mono ?_
  rintro e w2 ⟨v2, rfl, ⟨hv2a, hv2b⟩, ht2, hc2⟩
  have HT2 := Lib.hid ((HT1.out.ext ((Ext.refl w1).alloc _)).trans ht2)
  have HC2 := Lib.hid hc2
  have hs2 := HT2.out.le
  have HY2 := Lib.hid (heapT ht2 (heapE ((Ext.refl w1).alloc _) HY1.out) (by omega))
  have HX2 := Lib.hid (heapT ht2 (heap_alloc_new w1 _) (by omega))
  clear ht2 hc2
  rcases (show v2 = 0 ∨ v2 = 1 ∨ v2 = 2 ∨ 2 < v2 by omega) with rfl | rfl | rfl | hv
  · skip
    go_wp2_with fail
    refine (HR.out _ HC2.out).mono ?_
    rintro e w3 ⟨v3, rfl, hv3, ht3, hc3⟩
    have HT3 := Lib.hid (HT2.out.trans ht3)
    have HC3 := Lib.hid hc3
    have hs3 := HT3.out.le
    have HY3 := Lib.hid (heapT ht3 HY2.out (by omega))
    have HX3 := Lib.hid (heapT ht3 HX2.out (by omega))
    clear ht3 hc3
    have HV3 := Lib.hid hv3
    clear hv3
    have x0 := cell_block HX3.out 0 _ rfl
    have x1 := cell_block HX3.out 1 _ rfl
    have x2 := cell_block HX3.out 2 _ rfl
    have y0 := cell_block HY3.out 0 _ rfl
    have y1 := cell_block HY3.out 1 _ rfl
    have y2 := cell_block HY3.out 2 _ rfl
    have yf0 := draw_frozen HY3.out 0
    have yf1 := draw_frozen HY3.out 1
    have yf2 := draw_frozen HY3.out 2
    have xf0 := draw_frozen HX3.out 0
    have hlx := heap_lt HX3.out
    have hly := heap_lt HY3.out
    have hlm : w.heap.size < w1.heap.size := heap_lt HY1.out
    have hn1 : ¬ w.heap.size = w1.heap.size := by omega
    have hn2 : ¬ w1.heap.size = w.heap.size := by omega
    go_wp2
    refine bodyPost_ret (v := .agg #[.int .i64 v3, .int .i64 x.B, .int .i64 x.C]) (by simp [results, Tryz.results115, go_sem, y0, y1, y2]) rfl ⟨⟨v3, x.B, x.C⟩, rfl, ⟨HV3.out, HXO.out.2.1, HXO.out.2.2⟩, ?_, ?_⟩
    · repeat (first | with_reducible exact HT3.out | refine turned_own ?_ (by omega))
    · repeat (first | with_reducible exact HC3.out | refine Cur.put ?_ (by omega))
  · skip
    go_wp2_with fail
    refine (HR.out _ HC2.out).mono ?_
    rintro e w3 ⟨v3, rfl, hv3, ht3, hc3⟩
    have HT3 := Lib.hid (HT2.out.trans ht3)
    have HC3 := Lib.hid hc3
    have hs3 := HT3.out.le
    have HY3 := Lib.hid (heapT ht3 HY2.out (by omega))
    have HX3 := Lib.hid (heapT ht3 HX2.out (by omega))
    clear ht3 hc3
    have HV3 := Lib.hid hv3
    clear hv3
    have x0 := cell_block HX3.out 0 _ rfl
    have x1 := cell_block HX3.out 1 _ rfl
    have x2 := cell_block HX3.out 2 _ rfl
    have y0 := cell_block HY3.out 0 _ rfl
    have y1 := cell_block HY3.out 1 _ rfl
    have y2 := cell_block HY3.out 2 _ rfl
    have yf0 := draw_frozen HY3.out 0
    have yf1 := draw_frozen HY3.out 1
    have yf2 := draw_frozen HY3.out 2
    have xf1 := draw_frozen HX3.out 1
    have hlx := heap_lt HX3.out
    have hly := heap_lt HY3.out
    have hlm : w.heap.size < w1.heap.size := heap_lt HY1.out
    have hn1 : ¬ w.heap.size = w1.heap.size := by omega
    have hn2 : ¬ w1.heap.size = w.heap.size := by omega
    go_wp2
    refine bodyPost_ret (v := .agg #[.int .i64 x.A, .int .i64 v3, .int .i64 x.C]) (by simp [results, Tryz.results115, go_sem, y0, y1, y2]) rfl ⟨⟨x.A, v3, x.C⟩, rfl, ⟨HXO.out.1, HV3.out, HXO.out.2.2⟩, ?_, ?_⟩
    · repeat (first | with_reducible exact HT3.out | refine turned_own ?_ (by omega))
    · repeat (first | with_reducible exact HC3.out | refine Cur.put ?_ (by omega))
  · skip
    go_wp2_with fail
    refine (HR.out _ HC2.out).mono ?_
    rintro e w3 ⟨v3, rfl, hv3, ht3, hc3⟩
    have HT3 := Lib.hid (HT2.out.trans ht3)
    have HC3 := Lib.hid hc3
    have hs3 := HT3.out.le
    have HY3 := Lib.hid (heapT ht3 HY2.out (by omega))
    have HX3 := Lib.hid (heapT ht3 HX2.out (by omega))
    clear ht3 hc3
    have HV3 := Lib.hid hv3
    clear hv3
    have x0 := cell_block HX3.out 0 _ rfl
    have x1 := cell_block HX3.out 1 _ rfl
    have x2 := cell_block HX3.out 2 _ rfl
    have y0 := cell_block HY3.out 0 _ rfl
    have y1 := cell_block HY3.out 1 _ rfl
    have y2 := cell_block HY3.out 2 _ rfl
    have yf0 := draw_frozen HY3.out 0
    have yf1 := draw_frozen HY3.out 1
    have yf2 := draw_frozen HY3.out 2
    have xf2 := draw_frozen HX3.out 2
    have hlx := heap_lt HX3.out
    have hly := heap_lt HY3.out
    have hlm : w.heap.size < w1.heap.size := heap_lt HY1.out
    have hn1 : ¬ w.heap.size = w1.heap.size := by omega
    have hn2 : ¬ w1.heap.size = w.heap.size := by omega
    go_wp2
    refine bodyPost_ret (v := .agg #[.int .i64 x.A, .int .i64 x.B, .int .i64 v3]) (by simp [results, Tryz.results115, go_sem, y0, y1, y2]) rfl ⟨⟨x.A, x.B, v3⟩, rfl, ⟨HXO.out.1, HXO.out.2.1, HV3.out⟩, ?_, ?_⟩
    · repeat (first | with_reducible exact HT3.out | refine turned_own ?_ (by omega))
    · repeat (first | with_reducible exact HC3.out | refine Cur.put ?_ (by omega))
  · skip
    have x0 := cell_block HX2.out 0 _ rfl
    have x1 := cell_block HX2.out 1 _ rfl
    have x2 := cell_block HX2.out 2 _ rfl
    have y0 := cell_block HY2.out 0 _ rfl
    have y1 := cell_block HY2.out 1 _ rfl
    have y2 := cell_block HY2.out 2 _ rfl
    have yf0 := draw_frozen HY2.out 0
    have yf1 := draw_frozen HY2.out 1
    have yf2 := draw_frozen HY2.out 2
    have hlx := heap_lt HX2.out
    have hly := heap_lt HY2.out
    have hlm : w.heap.size < w1.heap.size := heap_lt HY1.out
    have hn1 : ¬ w.heap.size = w1.heap.size := by omega
    have hn2 : ¬ w1.heap.size = w.heap.size := by omega
    go_wp2
    refine bodyPost_ret (v := .agg #[.int .i64 x.A, .int .i64 x.B, .int .i64 x.C]) (by simp [results, Tryz.results115, go_sem, y0, y1, y2]) rfl ⟨⟨x.A, x.B, x.C⟩, rfl, ⟨HXO.out.1, HXO.out.2.1, HXO.out.2.2⟩, ?_, ?_⟩
    · repeat (first | with_reducible exact HT2.out | refine turned_own ?_ (by omega))
    · repeat (first | with_reducible exact HC2.out | refine Cur.put ?_ (by omega))
end Go.Proofs.YtgmlcohffdeplaaGreat
/-! DrawS -/
namespace Go.Proofs.YtgmlcohffdeplaaGreat
open Go.RowKit
set_option linter.unusedVariables false
theorem run_append_list_t {P : Program} {w : World} {α : Type} {enc : α → List Value} {ok : α → Prop} (t ty : TypeId) (base : Nat) (e : TypeId) (i : TypeInfo) (z : Value) (size bytes : Nat) (v : Value) (n : Nat) (L : List Value) (A : Option Addr) (m c : Nat) (ys : List α)
    (ht : P.underlying t = some (.slice e)) (hi : P.info? e = some i) (hz : i.zero = some z)
    (hsize : i.size = size) (hby : i.bytes = bytes) (hzs : z.cells.size = size) (hsz : 0 < size)
    (hown : w.ownsRow base e size v n L) (hys : SlAt (Flat enc ok) size w A m ys) (hl : ∀ y, (enc y).length = size) (h1 : ∀ y, ∀ u ∈ enc y, u.oneCell' = true)
    (h63 : n + m ≤ maxLen) (hbytes : (n + m) * bytes ≤ 140737488355328) (hbw : base ≤ w.heap.size) :
    ∃ A' c' w', (Builtin.append_ #[t, t] ty #[v, .slice A m c]).run P w = .ok (.slice A' (n + m) c') w' ∧ w'.ownsRow base e size (.slice A' (n + m) c') (n + m) (L ++ ys.flatMap enc) ∧ w.heap.size ≤ w'.heap.size ∧ w.grownBy w' v.ownBlock := by
  have hshape : ∀ {w' : World} {v' : Value} {L' : List Value}, w'.ownsRow base e size v' (n + m) L' → ∃ A' c', v' = .slice A' (n + m) c' := by
    intro w' v' L' h'
    rcases h'.2 with ⟨rfl, h0⟩ | ⟨g, cap, cur, rfl, _⟩
    · exact ⟨none, 0, by rw [h0]⟩
    · exact ⟨_, _, rfl⟩
  rcases A with _ | ad
  · have h0 : m = 0 := by
      rcases Nat.eq_zero_or_pos m with h0 | h0
      · exact h0
      · obtain ⟨b, o, e1, _⟩ := hys.2 h0; cases e1
    subst h0
    have hy : ys = [] := List.eq_nil_of_length_eq_zero hys.1
    subst hy
    have hrun := run_append_of_nil (P := P) w base t ty e i size ht hi v n L hown c
    obtain ⟨A', c', e1⟩ := hshape (show w.ownsRow base e size v (n + 0) L from hown)
    subst e1
    exact ⟨A', c', w, by simpa using hrun, by simpa using hown, Nat.le_refl _, World.grownBy.refl w _⟩
  · have hlen : (ys.flatMap enc).length = m * size := by
      rw [← hys.1]; clear hys
      induction ys with
      | nil => simp
      | cons y ys ih => rw [List.flatMap_cons, List.length_append, hl, ih, List.length_cons, Nat.add_mul]; omega
    have hcells : ∀ j u, (ys.flatMap enc)[j]? = some u → w.cell? (ad.add j) = some u := by
      intro j u hu
      rcases Nat.eq_zero_or_pos m with h0 | h0
      · subst h0
        have hy : ys = [] := List.eq_nil_of_length_eq_zero hys.1
        subst hy; simp at hu
      · obtain ⟨b, off, e1, hb, hc⟩ := hys.flatCells hl h0
        injection e1 with e1; subst e1
        have := hc j u hu
        unfold Addr.add; split
        · rename_i hj; subst hj; exact this
        · exact this
    obtain ⟨v', w', hr, h2, hg', _, _⟩ := run_append_own_at (P := P) w base t ty e i z size bytes ht hi hz hsize hby hzs hsz v n L hown ad m c (ys.flatMap enc) hlen hcells (fun u hu => by obtain ⟨y, _, hu⟩ := List.mem_flatMap.1 hu; exact h1 y u hu) h63 hbytes hbw
    obtain ⟨A', c', rfl⟩ := hshape h2
    exact ⟨A', c', w', hr, h2, hg'.size, hg'⟩
theorem step_append_list_t {P : Program} {w : World} {α : Type} {enc : α → List Value} {ok : α → Prop} {ops : Array Oper} {o : Oper} {a : Act} {K : Act → World → Prop} {Q : Exit → Act → World → Prop} {E : Prop} (hw : Region.wanted o (yielded ops a.tmps) = true) (s x : Operand) (t : TypeId)
    (ho : o.op = .call { callee := .builtin .append, args := #[s, x], argTypes := #[t, t] })
    (base : Nat) (e : TypeId) (i : TypeInfo) (z : Value) (size bytes : Nat) (ht : P.underlying t = some (.slice e)) (hi : P.info? e = some i) (hz : i.zero = some z)
    (hsize : i.size = size) (hby : i.bytes = bytes) (hzs : z.cells.size = size) (hsz : 0 < size)
    (v : Value) (n : Nat) (L : List Value) (A : Option Addr) (m c : Nat) (ys : List α) (N : Nat) (hN : n + m = N) (hs : a.eval s = v) (hx : a.eval x = .slice A m c)
    (hown : w.ownsRow base e size v n L) (hys : SlAt (Flat enc ok) size w A m ys) (hl : ∀ y, (enc y).length = size) (h1 : ∀ y, ∀ u ∈ enc y, u.oneCell' = true)
    (h63 : n + m ≤ maxLen) (hbytes : (n + m) * bytes ≤ 140737488355328) (hbw : base ≤ w.heap.size)
    (h : ∀ A' c' w', w'.ownsRow base e size (.slice A' N c') N (L ++ ys.flatMap enc) → w.heap.size ≤ w'.heap.size → w.grownBy w' v.ownBlock → K (a.put o.dst (.slice A' N c')) w') :
    if Region.wanted o (yielded ops a.tmps) = true then Oper.wp P o a w K Q else E := by
  subst hN
  rw [if_pos hw]
  obtain ⟨A', c', w', hr, h2, h4, h5⟩ := run_append_list_t (P := P) t o.type base e i z size bytes v n L A m c ys ht hi hz hsize hby hzs hsz hown hys hl h1 h63 hbytes hbw
  unfold Oper.wp execOp
  simp only [ho, resolve, invoke, builtin, Sem.run_bind, Sem.run_pure, Result.andThen_ok, List.map_toArray, List.map_cons, List.map_nil, hs, hx, hr]
  exact h A' c' w' h2 h4 h5
theorem sl_one_t {α : Type} {enc : α → List Value} {ok : α → Prop} {sz : Nat} (w : World) (x : α) (e : TypeId) (hsz : (enc x).length = sz) (hx : ok x) : SlAt (Flat enc ok) sz (w.alloc (.cells (enc x).toArray e)) (some ⟨w.heap.size, 0, none⟩) 1 [x] := by
  refine ⟨rfl, fun _ => ⟨w.heap.size, 0, rfl, by simp, fun k y hy => ?_⟩⟩
  cases k with
  | zero =>
    simp at hy; subst hy
    exact ⟨enc x, hsz, fun j u hu => by rw [show 0 + 0 * sz + j = j by omega]; exact law_box w (enc x) e j u hu, rfl, hx⟩
  | succ k => simp at hy
end Go.Proofs.YtgmlcohffdeplaaGreat
/-! DrawJob -/
namespace Go.Proofs.YtgmlcohffdeplaaGreat
open Go.RowKit
set_option linter.unusedVariables false
set_option maxHeartbeats 4000000 in
set_option maxRecDepth 20000 in
theorem l04Job_c (g : Nat) (w : World) (hc : Cur w g) : Calls Tryz.prog 111 #[.pointer (some ⟨g, 0, none⟩)] w (RetJobD w g) := by
  have hgw := hc.lt
  have HB := Lib.hid (fun (n : Int) (hn : In64 n) (u : World) (hu : Cur u g) => l01Below_c g n u hu hn)
  have HR := Lib.hid (fun (u : World) (hu : Cur u g) => l01Raw_c g u hu)
  have H9 : Hid (∀ n : Int, -1000000 ≤ n → n ≤ 1000000 → In64 n) := Lib.hid (fun n h1 h2 => by unfold In64; omega)
  have HC0 := Lib.hid (hc.ext ((Ext.refl w).alloc (.cells #[.int .i64 0, .int .i64 0, .int .i64 0, .int .i64 0, .int .i64 0, .int .i64 0, .int .i64 0, .int .i64 0, .int .i64 0, .int .i64 0, .int .i64 0] 146)))
  have HT0 := Lib.hid (((Ext.refl w).alloc (.cells #[.int .i64 0, .int .i64 0, .int .i64 0, .int .i64 0, .int .i64 0, .int .i64 0, .int .i64 0, .int .i64 0, .int .i64 0, .int .i64 0, .int .i64 0] 146)).turned g (g + 1))
  have HY0 := Lib.hid (heap_alloc_new w (.cells #[.int .i64 0, .int .i64 0, .int .i64 0, .int .i64 0, .int .i64 0, .int .i64 0, .int .i64 0, .int .i64 0, .int .i64 0, .int .i64 0, .int .i64 0] 146))
  clear hc
  go_enter Tryz.func111, Tryz.ntmps111
  go_wp2_with fail
  refine (HB.out 30 (H9.out _ (by omega) (by omega)) _ HC0.out).mono ?_
  rintro e w1 ⟨v1, rfl, ⟨hv1a, hv1b⟩, ht1, hc1⟩
  have HT1 := Lib.hid (HT0.out.trans ht1)
  have HC1 := Lib.hid hc1
  have hs1 := HT1.out.le
  have HY1 := Lib.hid (heapT ht1 HY0.out (by omega))
  clear ht1 hc1
  go_wp2_with fail
  refine (HB.out 5 (H9.out _ (by omega) (by omega)) _ HC1.out).mono ?_
  rintro e w2 ⟨v2, rfl, ⟨hv2a, hv2b⟩, ht2, hc2⟩
  have HT2 := Lib.hid (HT1.out.trans ht2)
  have HC2 := Lib.hid hc2
  have hs2 := HT2.out.le
  have HY2 := Lib.hid (heapT ht2 HY1.out (by omega))
  clear ht2 hc2
  go_wp2_with fail
  refine (HB.out 3 (H9.out _ (by omega) (by omega)) _ HC2.out).mono ?_
  rintro e w3 ⟨v3, rfl, ⟨hv3a, hv3b⟩, ht3, hc3⟩
  have HT3 := Lib.hid (HT2.out.trans ht3)
  have HC3 := Lib.hid hc3
  have hs3 := HT3.out.le
  have HY3 := Lib.hid (heapT ht3 HY2.out (by omega))
  clear ht3 hc3
  go_wp2_with fail
  refine (HB.out 5 (H9.out _ (by omega) (by omega)) _ HC3.out).mono ?_
  rintro e w4 ⟨v4, rfl, ⟨hv4a, hv4b⟩, ht4, hc4⟩
  have HT4 := Lib.hid (HT3.out.trans ht4)
  have HC4 := Lib.hid hc4
  have hs4 := HT4.out.le
  have HY4 := Lib.hid (heapT ht4 HY3.out (by omega))
  clear ht4 hc4
  go_wp2_with fail
  refine (HB.out 9 (H9.out _ (by omega) (by omega)) _ HC4.out).mono ?_
  rintro e w5 ⟨v5, rfl, ⟨hv5a, hv5b⟩, ht5, hc5⟩
  have HT5 := Lib.hid (HT4.out.trans ht5)
  have HC5 := Lib.hid hc5
  have hs5 := HT5.out.le
  have HY5 := Lib.hid (heapT ht5 HY4.out (by omega))
  clear ht5 hc5
  go_wp2_with fail
  refine (HB.out 4 (H9.out _ (by omega) (by omega)) _ HC5.out).mono ?_
  rintro e w6 ⟨v6, rfl, ⟨hv6a, hv6b⟩, ht6, hc6⟩
  have HT6 := Lib.hid (HT5.out.trans ht6)
  have HC6 := Lib.hid hc6
  have hs6 := HT6.out.le
  have HY6 := Lib.hid (heapT ht6 HY5.out (by omega))
  clear ht6 hc6
  go_wp2_with fail
  refine (HB.out 20 (H9.out _ (by omega) (by omega)) _ HC6.out).mono ?_
  rintro e w7 ⟨v7, rfl, ⟨hv7a, hv7b⟩, ht7, hc7⟩
  have HT7 := Lib.hid (HT6.out.trans ht7)
  have HC7 := Lib.hid hc7
  have hs7 := HT7.out.le
  have HY7 := Lib.hid (heapT ht7 HY6.out (by omega))
  clear ht7 hc7
  go_wp2_with fail
  refine (HB.out 3 (H9.out _ (by omega) (by omega)) _ HC7.out).mono ?_
  rintro e w8 ⟨v8, rfl, ⟨hv8a, hv8b⟩, ht8, hc8⟩
  have HT8 := Lib.hid (HT7.out.trans ht8)
  have HC8 := Lib.hid hc8
  have hs8 := HT8.out.le
  have HY8 := Lib.hid (heapT ht8 HY7.out (by omega))
  clear ht8 hc8
  go_wp2_with fail
  refine (HB.out 3 (H9.out _ (by omega) (by omega)) _ (HC8.out.ext ((Ext.refl w8).alloc _))).mono ?_
  rintro e w9 ⟨v9, rfl, ⟨hv9a, hv9b⟩, ht9, hc9⟩
  have HT9 := Lib.hid ((HT8.out.ext ((Ext.refl w8).alloc _)).trans ht9)
  have HC9 := Lib.hid hc9
  have hs9 := HT9.out.le
  have HY9 := Lib.hid (heapT ht9 (heapE ((Ext.refl w8).alloc _) HY8.out) (by omega))
  have HX9 := Lib.hid (heapT ht9 (heap_alloc_new w8 _) (by omega))
  clear ht9 hc9
  by_cases hv : v9 = 0
  · subst hv
    go_wp2_with fail
    refine (HB.out 3 (H9.out _ (by omega) (by omega)) _ HC9.out).mono ?_
    rintro e w10 ⟨v10, rfl, ⟨hv10a, hv10b⟩, ht10, hc10⟩
    have HT10 := Lib.hid (HT9.out.trans ht10)
    have HC10 := Lib.hid hc10
    have hs10 := HT10.out.le
    have HY10 := Lib.hid (heapT ht10 HY9.out (by omega))
    have HX10 := Lib.hid (heapT ht10 HX9.out (by omega))
    clear ht10 hc10
    go_wp2_with fail
    refine (HB.out 2 (H9.out _ (by omega) (by omega)) _ HC10.out).mono ?_
    rintro e w11 ⟨v11, rfl, ⟨hv11a, hv11b⟩, ht11, hc11⟩
    have HT11 := Lib.hid (HT10.out.trans ht11)
    have HC11 := Lib.hid hc11
    have hs11 := HT11.out.le
    have HY11 := Lib.hid (heapT ht11 HY10.out (by omega))
    have HX11 := Lib.hid (heapT ht11 HX10.out (by omega))
    clear ht11 hc11
    have x0 := cell_block HX11.out 0 _ rfl
    have x1 := cell_block HX11.out 1 _ rfl
    have x2 := cell_block HX11.out 2 _ rfl
    have x3 := cell_block HX11.out 3 _ rfl
    have x4 := cell_block HX11.out 4 _ rfl
    have x5 := cell_block HX11.out 5 _ rfl
    have x6 := cell_block HX11.out 6 _ rfl
    have x7 := cell_block HX11.out 7 _ rfl
    have x8 := cell_block HX11.out 8 _ rfl
    have x9 := cell_block HX11.out 9 _ rfl
    have x10 := cell_block HX11.out 10 _ rfl
    have y0 := cell_block HY11.out 0 _ rfl
    have y1 := cell_block HY11.out 1 _ rfl
    have y2 := cell_block HY11.out 2 _ rfl
    have y3 := cell_block HY11.out 3 _ rfl
    have y4 := cell_block HY11.out 4 _ rfl
    have y5 := cell_block HY11.out 5 _ rfl
    have y6 := cell_block HY11.out 6 _ rfl
    have y7 := cell_block HY11.out 7 _ rfl
    have y8 := cell_block HY11.out 8 _ rfl
    have y9 := cell_block HY11.out 9 _ rfl
    have y10 := cell_block HY11.out 10 _ rfl
    have yf0 := draw_frozen HY11.out 0
    have yf1 := draw_frozen HY11.out 1
    have yf2 := draw_frozen HY11.out 2
    have yf3 := draw_frozen HY11.out 3
    have yf4 := draw_frozen HY11.out 4
    have yf5 := draw_frozen HY11.out 5
    have yf6 := draw_frozen HY11.out 6
    have yf7 := draw_frozen HY11.out 7
    have yf8 := draw_frozen HY11.out 8
    have yf9 := draw_frozen HY11.out 9
    have yf10 := draw_frozen HY11.out 10
    have xf6 := draw_frozen HX11.out 6
    have xf7 := draw_frozen HX11.out 7
    have xf8 := draw_frozen HX11.out 8
    have hlx := heap_lt HX11.out
    have hly := heap_lt HY11.out
    have hlm : w.heap.size < w8.heap.size := heap_lt HY8.out
    have hn1 : ¬ w.heap.size = w8.heap.size := by omega
    have hn2 : ¬ w8.heap.size = w.heap.size := by omega
    go_wp2
    refine bodyPost_ret (v := .agg #[.int .i64 (1 + v1), .int .i64 v2, .int .i64 (1 + v3), .int .i64 (1 + v4), .int .i64 v5, .int .i64 (v6 / 3), .int .i64 v10, .int .i64 v11, .int .i64 0, .int .i64 (1 + v7), .int .i64 v8]) (by simp [results, Tryz.results111, go_sem, y0, y1, y2, y3, y4, y5, y6, y7, y8, y9, y10]) rfl ⟨⟨1 + v1, v2, 1 + v3, ⟨1 + v4, v5, v6 / 3⟩, ⟨v10, v11, 0⟩, 1 + v7, v8⟩, rfl, ⟨in64_of (n := 1 + v1) (by omega) (by omega), in64_of (n := v2) (by omega) (by omega), in64_of (n := 1 + v3) (by omega) (by omega), in64_of (n := 1 + v4) (by omega) (by omega), in64_of (n := v5) (by omega) (by omega), in64_of (n := v6 / 3) (by omega) (by omega), in64_of (n := v10) (by omega) (by omega), in64_of (n := v11) (by omega) (by omega), in64_of (n := 0) (by omega) (by omega), in64_of (n := 1 + v7) (by omega) (by omega), in64_of (n := v8) (by omega) (by omega)⟩, ?_, ?_⟩
    · repeat (first | with_reducible exact HT11.out | refine turned_own ?_ (by omega))
    · repeat (first | with_reducible exact HC11.out | refine Cur.put ?_ (by omega))
  · skip
    have x0 := cell_block HX9.out 0 _ rfl
    have x1 := cell_block HX9.out 1 _ rfl
    have x2 := cell_block HX9.out 2 _ rfl
    have x3 := cell_block HX9.out 3 _ rfl
    have x4 := cell_block HX9.out 4 _ rfl
    have x5 := cell_block HX9.out 5 _ rfl
    have x6 := cell_block HX9.out 6 _ rfl
    have x7 := cell_block HX9.out 7 _ rfl
    have x8 := cell_block HX9.out 8 _ rfl
    have x9 := cell_block HX9.out 9 _ rfl
    have x10 := cell_block HX9.out 10 _ rfl
    have y0 := cell_block HY9.out 0 _ rfl
    have y1 := cell_block HY9.out 1 _ rfl
    have y2 := cell_block HY9.out 2 _ rfl
    have y3 := cell_block HY9.out 3 _ rfl
    have y4 := cell_block HY9.out 4 _ rfl
    have y5 := cell_block HY9.out 5 _ rfl
    have y6 := cell_block HY9.out 6 _ rfl
    have y7 := cell_block HY9.out 7 _ rfl
    have y8 := cell_block HY9.out 8 _ rfl
    have y9 := cell_block HY9.out 9 _ rfl
    have y10 := cell_block HY9.out 10 _ rfl
    have yf0 := draw_frozen HY9.out 0
    have yf1 := draw_frozen HY9.out 1
    have yf2 := draw_frozen HY9.out 2
    have yf3 := draw_frozen HY9.out 3
    have yf4 := draw_frozen HY9.out 4
    have yf5 := draw_frozen HY9.out 5
    have yf6 := draw_frozen HY9.out 6
    have yf7 := draw_frozen HY9.out 7
    have yf8 := draw_frozen HY9.out 8
    have yf9 := draw_frozen HY9.out 9
    have yf10 := draw_frozen HY9.out 10
    have hlx := heap_lt HX9.out
    have hly := heap_lt HY9.out
    have hlm : w.heap.size < w8.heap.size := heap_lt HY8.out
    have hn1 : ¬ w.heap.size = w8.heap.size := by omega
    have hn2 : ¬ w8.heap.size = w.heap.size := by omega
    go_wp2
    refine bodyPost_ret (v := .agg #[.int .i64 (1 + v1), .int .i64 v2, .int .i64 (1 + v3), .int .i64 (1 + v4), .int .i64 v5, .int .i64 (v6 / 3), .int .i64 0, .int .i64 0, .int .i64 0, .int .i64 (1 + v7), .int .i64 v8]) (by simp [results, Tryz.results111, go_sem, y0, y1, y2, y3, y4, y5, y6, y7, y8, y9, y10]) rfl ⟨⟨1 + v1, v2, 1 + v3, ⟨1 + v4, v5, v6 / 3⟩, ⟨0, 0, 0⟩, 1 + v7, v8⟩, rfl, ⟨in64_of (n := 1 + v1) (by omega) (by omega), in64_of (n := v2) (by omega) (by omega), in64_of (n := 1 + v3) (by omega) (by omega), in64_of (n := 1 + v4) (by omega) (by omega), in64_of (n := v5) (by omega) (by omega), in64_of (n := v6 / 3) (by omega) (by omega), in64_of (n := 0) (by omega) (by omega), in64_of (n := 0) (by omega) (by omega), in64_of (n := 0) (by omega) (by omega), in64_of (n := 1 + v7) (by omega) (by omega), in64_of (n := v8) (by omega) (by omega)⟩, ?_, ?_⟩
    · repeat (first | with_reducible exact HT9.out | refine turned_own ?_ (by omega))
    · repeat (first | with_reducible exact HC9.out | refine Cur.put ?_ (by omega))
end Go.Proofs.YtgmlcohffdeplaaGreat
