/- Contracts of the draws: the cursor. -/
import Derived.Test.YtlaoflpgngfbpaaSmall
import Derived.Test.YtlaoflpgngfbpaaLaw
import Derived.Test.YtlaoflpgngfbpaaRead
namespace Go.Proofs.Ytlaoflpgngfbpaa
open Go.RowKit
set_option linter.unusedVariables false
/-- A cursor in block g over bytes that lie elsewhere. -/
structure Cur (w : World) (g : Nat) : Prop where
  lt : g < w.heap.size
  fz : ∀ j, w.frozen? ⟨g, j, none⟩ = false
  get : ∃ (A : Option Addr) (n c : Nat) (bs : List Int) (i : Nat) (h : Int), w.cell? ⟨g, 0, none⟩ = some (.slice A n c) ∧ w.cell? ⟨g, 1, none⟩ = some (.int .i64 i) ∧ w.cell? ⟨g, 2, none⟩ = some (.int .i64 h) ∧ i ≤ n ∧ n ≤ 1048576 ∧ In64 h ∧
    SlAt RU8 1 w A n bs ∧ (0 < n → ∀ b o, A = some ⟨b, o, none⟩ → b < g)
/-- A call hands back a number that is told by R; only the cursor has turned, and it is one still. -/
def RetDraw (w : World) (g : Nat) (R : Int → Prop) : Ending → World → Prop := fun e w' => ∃ v : Int, e = .returned (.int .i64 v) ∧ R v ∧ Turned g (g + 1) w w' ∧ Cur w' g
theorem and255 (x : Int) : 0 ≤ bits .and .i64 x 255 ∧ bits .and .i64 x 255 ≤ 255 := by
  have h : (BitVec.ofInt 64 x &&& BitVec.ofInt 64 255).toNat ≤ 255 := by rw [BitVec.toNat_and]; exact Nat.le_trans Nat.and_le_right (by decide)
  have e : bits .and .i64 x 255 = IntKind.i64.wrap ((BitVec.ofInt 64 x &&& BitVec.ofInt 64 255).toNat : Int) := rfl
  rw [e, IntWalk.i64_in _ ⟨by omega, by omega⟩]; omega
theorem in_wrap (n : Int) : In64 (wrap64 n) := by unfold In64 wrap64; omega
theorem SlAt.setD {α : Type} {R : Rel α} (hm : ∀ (w : World) (p : Addr) (u : Value) (cs : List Value) (x : α), R w cs x → R (w.setCell p u) cs x) {sz m : Nat} {A : Option Addr} {w : World} {xs : List α} (h : SlAt R sz w A m xs) (p : Addr) (hp : 0 < m → ∀ b o, A = some ⟨b, o, none⟩ → b < p.block) (u : Value) : SlAt R sz (w.setCell p u) A m xs := by
  refine ⟨h.1, fun hm' => ?_⟩
  obtain ⟨b, o, rfl, hb, hc⟩ := h.2 hm'
  refine ⟨b, o, rfl, by simpa using hb, fun k x hx => ?_⟩
  obtain ⟨cs, h1, h2, h3⟩ := hc k x hx
  have hlt := hp hm' b o rfl
  exact ⟨cs, h1, fun j u' hu => by
    rw [World.cell?_setCell_other]
    · exact h2 j u' hu
    · intro e; rw [e] at hlt; simp at hlt, hm _ _ _ _ _ h3⟩
theorem RU8.mono : RU8.Mono := fun _ _ _ _ _ h => h
theorem RU8.set : ∀ (w : World) (p : Addr) (u : Value) (cs : List Value) (x : Int), RU8 w cs x → RU8 (w.setCell p u) cs x := fun _ _ _ _ _ h => h
theorem turned_put (w : World) (g j : Nat) (u : Value) : Turned g (g + 1) w (w.setCell ⟨g, j, none⟩ u) :=
  ⟨rfl, rfl, rfl, by simp [World.setCell], fun k _ hr => Below.heap_setCell _ _ _ _ (by simp only []; omega)⟩
set_option maxHeartbeats 2000000 in
theorem l01Byte_c (g : Nat) (w : World) (hc : Cur w g) : Calls Try.prog 29 #[.pointer (some ⟨g, 0, none⟩)] w (RetDraw w g (fun v => 0 ≤ v ∧ v ≤ 255)) := by
  obtain ⟨hlt, hfz, A, n, c, bs, i, h, c0, c1, c2, hin, hn, hh, hsl, hA⟩ := hc
  have f0 := hfz 0
  have f1 := hfz 1
  have f2 := hfz 2
  have HFZ := Lib.hid hfz
  have HSL := Lib.hid hsl
  have HA := Lib.hid hA
  clear hfz hsl hA hh
  go_enter Try.func29, Try.ntmps29
  go_wp2
  have hh2 := in_wrap (wrap64 (h * 6364136223846793005) + 1442695040888963407)
  generalize wrap64 (wrap64 (h * 6364136223846793005) + 1442695040888963407) = h2 at *
  have HT1 := Lib.hid (turned_put w g 2 (.int .i64 h2))
  have HS1 := Lib.hid (HSL.out.setD RU8.set ⟨g, 2, none⟩ HA.out (.int .i64 h2))
  have k0 : (w.setCell ⟨g, 2, none⟩ (.int .i64 h2)).cell? ⟨g, 0, none⟩ = some (.slice A n c) := by go_simp
  have k1 : (w.setCell ⟨g, 2, none⟩ (.int .i64 h2)).cell? ⟨g, 1, none⟩ = some (.int .i64 i) := by go_simp
  have k2 : (w.setCell ⟨g, 2, none⟩ (.int .i64 h2)).cell? ⟨g, 2, none⟩ = some (.int .i64 h2) := by go_simp
  have HFZ1 := Lib.hid (show ∀ j, (w.setCell ⟨g, 2, none⟩ (.int .i64 h2)).frozen? ⟨g, j, none⟩ = false from fun j => by have := HFZ.out j; go_simp)
  have hgs : g < (w.setCell ⟨g, 2, none⟩ (.int .i64 h2)).heap.size := by simpa using hlt
  clear c0 c1 c2 f0 f1 f2
  generalize w.setCell ⟨g, 2, none⟩ (.int .i64 h2) = u1 at *
  have hcx := @Later.cell u1
  refine wp_region_ext (by kernel_rfl) (by kernel_rfl) ?_
  repeat (go_big_quiet_step (fail))
  refine wpQuiet_nil ?_
  intro u2 hb2
  have hv := and255 (bits BinOp.xor IntKind.i64 (h2 / 8589934592) (h2 / 35184372088832))
  generalize bits BinOp.and IntKind.i64 (bits BinOp.xor IntKind.i64 (h2 / 8589934592) (h2 / 35184372088832)) 255 = v at *
  have m0 := hb2.cell k0
  have m1 := hb2.cell k1
  have m2 := hb2.cell k2
  have hgs2 : g < u2.heap.size := Nat.lt_of_lt_of_le hgs hb2.le
  have HT2 := Lib.hid (HT1.out.trans (hb2.turned g (g + 1)))
  have HS2 := Lib.hid (HS1.out.ext RU8.mono hb2)
  have HFZ2 := Lib.hid (fun j => (hb2.frozenEq (a := ⟨g, j, none⟩) hgs).trans (HFZ1.out j))
  clear k0 k1 k2 hcx hgs hb2 HT1 HS1 HFZ1
  go_wp2
  by_cases hlt : i < n
  · obtain ⟨b, o, x, cs, rfl, hbw, _, _, hcb, hr⟩ := HS2.out.at_ hlt
    obtain rfl : cs = [.int .u8 x] := hr
    have y0 := hcb 0 _ rfl
    simp only [Nat.mul_one, Nat.add_zero] at y0
    have hbg := HA.out (by omega) b o rfl
    clear hcb
    have hcx := @Later.cell u2
    refine wp_region_ext (by kernel_rfl) (by kernel_rfl) ?_
    repeat (go_big_quiet_step (fail))
    refine wpQuiet_nil ?_
    intro u3 hbu3
    have y1 := hbu3.cell y0
    have hbw3 : b < u3.heap.size := Nat.lt_of_lt_of_le hbw hbu3.le
    have p0 := hbu3.cell m0
    have p1 := hbu3.cell m1
    have p2 := hbu3.cell m2
    have hgsu3 : g < u3.heap.size := Nat.lt_of_lt_of_le hgs2 hbu3.le
    have HTu3 := Lib.hid (HT2.out.trans (hbu3.turned g (g + 1)))
    have HSu3 := Lib.hid (HS2.out.ext RU8.mono hbu3)
    have HFZu3 := Lib.hid (fun j => (hbu3.frozenEq (a := ⟨g, j, none⟩) hgs2).trans (HFZ2.out j))
    clear m0 m1 m2 hcx hgs2 hbu3 HT2 HS2 HFZ2
    clear y0 hbw
    go_wp2
    have hcx := @Later.cell u3
    refine wp_region_ext (by kernel_rfl) (by kernel_rfl) ?_
    repeat (go_big_quiet_step (fail))
    refine wpQuiet_nil ?_
    intro u4 hbu4
    have q0 := hbu4.cell p0
    have q1 := hbu4.cell p1
    have q2 := hbu4.cell p2
    have hgsu4 : g < u4.heap.size := Nat.lt_of_lt_of_le hgsu3 hbu4.le
    have HTu4 := Lib.hid (HTu3.out.trans (hbu4.turned g (g + 1)))
    have HSu4 := Lib.hid (HSu3.out.ext RU8.mono hbu4)
    have HFZu4 := Lib.hid (fun j => (hbu4.frozenEq (a := ⟨g, j, none⟩) hgsu3).trans (HFZu3.out j))
    clear p0 p1 p2 hcx hgsu3 hbu4 HTu3 HSu3 HFZu3
    clear y1 hbw3
    have hv2 := and255 (wrap64 (v + wrap64 x))
    generalize bits BinOp.and IntKind.i64 (wrap64 (v + wrap64 x)) 255 = v2 at *
    have HN := Lib.hid hn
    have HV := Lib.hid hv2
    have HH := Lib.hid hh2
    have hi9 : (i : Int) + 1 ≤ 9223372036854775807 := by omega
    have hfq1 := HFZu4.out 1
    clear hv hv2 hh2
    go_wp2
    refine bodyPost_ret (results_tmp rfl _ _ _) rfl ⟨v2, rfl, HV.out, HTu4.out.trans (turned_put u4 g 1 _), by simpa using hgsu4, fun j => ?_, some ⟨b, o, none⟩, n, c, bs, i + 1, h2, by go_simp, by go_simp, by go_simp, by omega, HN.out, HH.out, HSu4.out.setD RU8.set ⟨g, 1, none⟩ HA.out _, HA.out⟩
    have := HFZu4.out j
    go_simp
  · have HN := Lib.hid hn
    have HV := Lib.hid hv
    have HH := Lib.hid hh2
    clear hv hh2
    have hcx := @Later.cell u2
    refine wp_region_ext (by kernel_rfl) (by kernel_rfl) ?_
    repeat (go_big_quiet_step (fail))
    refine wpQuiet_nil ?_
    intro u3 hbu3
    have p0 := hbu3.cell m0
    have p1 := hbu3.cell m1
    have p2 := hbu3.cell m2
    have HP := Lib.hid (show u3.cell? ⟨g, 0, none⟩ = some (.slice A n c) ∧ u3.cell? ⟨g, 1, none⟩ = some (.int .i64 i) ∧ u3.cell? ⟨g, 2, none⟩ = some (.int .i64 h2) from ⟨p0, p1, p2⟩)
    have HB := Lib.hid hbu3
    clear hbu3 hcx p0 p1 p2 m0 m1 m2
    go_wp2
    exact bodyPost_ret (results_tmp rfl _ _ _) rfl ⟨v, rfl, HV.out, HT2.out.trans (HB.out.turned g (g + 1)), Nat.lt_of_lt_of_le hgs2 HB.out.le, fun j => (HB.out.frozenEq (a := ⟨g, j, none⟩) hgs2).trans (HFZ2.out j), A, n, c, bs, i, h2, HP.out.1, HP.out.2.1, HP.out.2.2, hin, HN.out, HH.out, HS2.out.ext RU8.mono HB.out, HA.out⟩
end Go.Proofs.Ytlaoflpgngfbpaa
