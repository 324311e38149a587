/- Contracts of the draws: dependencies. -/
import Derived.Test.YtgnbjnlcikpknaaDrawH
import Derived.Test.YtgnbjnlcikpknaaAddSpec
namespace Go.Proofs.Ytgnbjnlcikpknaa
open Go.RowKit
set_option linter.unusedVariables false
abbrev RetDeps := RetRowD Dep.enc Dep.ok 31 2
theorem OwnAt.row {α : Type} {enc : α → List Value} {ok : α → Prop} {e : TypeId} {sz base : Nat} {w : World} {v : Value} {xs : List α} (hsz : ∀ x, (enc x).length = sz) (hs0 : 0 < sz) (h : OwnAt (Flat enc ok) e sz w base v xs) : w.ownsRow base e sz v xs.length (xs.flatMap enc) ∧ ∀ x ∈ xs, ok x := by
  obtain ⟨L, h1, h2⟩ := h
  have hL : xs.flatMap enc = L := by
    have hlen : ∀ l : List α, (l.flatMap enc).length = l.length * sz := by
      intro l
      induction l with
      | nil => simp
      | cons a r ih => rw [List.flatMap_cons, List.length_append, hsz, ih, List.length_cons, Nat.add_mul]; omega
    apply List.ext_getElem?
    intro t
    by_cases ht : t < xs.length * sz
    · have hq : t / sz < xs.length := by rw [Nat.div_lt_iff_lt_mul hs0]; exact ht
      have hr : t % sz < sz := Nat.mod_lt _ hs0
      have hx : xs[t / sz]? = some xs[t / sz] := List.getElem?_eq_getElem hq
      have e1 := flatMap_get (enc := enc) (j := t % sz) hsz hr hx
      have e2 := (h2 _ _ hx).1
      have et : t / sz * sz + t % sz = t := by rw [Nat.mul_comm]; exact Nat.div_add_mod t sz
      rw [et] at e1
      rw [e1, ← e2, List.getElem?_take_of_lt hr, List.getElem?_drop, et]
    · rw [List.getElem?_eq_none (by rw [hlen]; omega), List.getElem?_eq_none (by rw [h1.1]; omega)]
  refine ⟨by rw [hL]; exact h1, fun x hx => ?_⟩
  obtain ⟨k, hk⟩ := List.mem_iff_getElem?.1 hx
  exact (h2 k x hk).2
theorem dep_setId (x : Dep) (v : Int) : (⟨v, x.For⟩ : Dep).enc = x.enc.set 0 (.int .i64 v) := rfl
theorem dep_setFor (x : Dep) (v : Int) : (⟨x.Id, v⟩ : Dep).enc = x.enc.set 1 (.int .i64 v) := rfl
set_option maxHeartbeats 1000000 in
theorem l12One_c (g : Nat) (w : World) (hc : Cur w g) : Calls Try.prog 41 #[.pointer (some ⟨g, 0, none⟩)] w (RetDraw w g In64) := by
  have HB := Lib.hid (fun (n : Int) (hn : In64 n) (u : World) (hu : Cur u g) => l01Below_c g n u hu hn)
  have HR := Lib.hid (fun (u : World) (hu : Cur u g) => l01Raw_c g u hu)
  have HC0 := Lib.hid hc
  have HT0 := Lib.hid (Turned.refl g (g + 1) w)
  clear hc
  go_enter Try.func41, Try.ntmps41
  go_wp2_with fail
  refine (HB.out 10 (by unfold In64; omega) _ HC0.out).mono ?_
  rintro e w1 ⟨v1, rfl, ⟨hv1a, hv1b⟩, ht1, hc1⟩
  have HT1 := Lib.hid (HT0.out.trans ht1)
  have HC1 := Lib.hid hc1
  have hs1 := HT1.out.le
  clear ht1 hc1
  by_cases hv : v1 = 0
  · subst hv
    go_wp2_with fail
    refine (HR.out _ HC1.out).mono ?_
    rintro e w2 ⟨v2, rfl, hv2, ht2, hc2⟩
    have HT2 := Lib.hid (HT1.out.trans ht2)
    have HC2 := Lib.hid hc2
    have hs2 := HT2.out.le
    clear ht2 hc2
    have HRR := Lib.hid (show RetDraw w g In64 (.returned (.int .i64 v2)) w2 from ⟨v2, rfl, hv2, HT2.out, HC2.out⟩)
    clear hv2
    go_wp2
    exact ret_post rfl HRR.out
  · go_wp2_with fail
    refine (HB.out 7 (by unfold In64; omega) _ HC1.out).mono ?_
    rintro e w2 ⟨v2, rfl, ⟨hv2a, hv2b⟩, ht2, hc2⟩
    have HT2 := Lib.hid (HT1.out.trans ht2)
    have HC2 := Lib.hid hc2
    have hs2 := HT2.out.le
    clear ht2 hc2
    have HRR := Lib.hid (show RetDraw w g In64 (.returned (.int .i64 (1 + v2))) w2 from ⟨1 + v2, rfl, in64_of (n := 1 + v2) (by omega) (by omega), HT2.out, HC2.out⟩)
    go_wp2
    exact ret_post rfl HRR.out
set_option maxHeartbeats 4000000 in
set_option maxRecDepth 8000 in
theorem l12Draw_c (g : Nat) (w : World) (hc : Cur w g) : Calls Try.prog 52 #[.pointer (some ⟨g, 0, none⟩)] w (RetDeps 10 w g) := by
  have hgw := hc.lt
  have HB := Lib.hid (fun (n : Int) (hn : In64 n) (u : World) (hu : Cur u g) => l01Below_c g n u hu hn)
  have HCi := Lib.hid (hc.ext ((Ext.refl w).alloc (.cells #[] 31)))
  have HC0 := HCi
  have HT0 := Lib.hid (((Ext.refl w).alloc (.cells #[] 31)).turned g (g + 1))
  have HO0 := Lib.hid (owns_empty w 31 2)
  clear hc
  have H9 : Hid (∀ n : Int, -1000000 ≤ n → n ≤ 1000000 → In64 n) := Lib.hid (fun n h1 h2 => by unfold In64; omega)
  go_enter Try.func52, Try.ntmps52
  go_wp2_with fail
  refine (HB.out 10 (H9.out _ (by omega) (by omega)) _ HC0.out).mono ?_
  rintro e w1 ⟨v1, rfl, ⟨hv1a, hv1b⟩, ht1, hc1⟩
  have HT1 := Lib.hid (HT0.out.trans ht1)
  have HC1 := Lib.hid hc1
  have hs1 := HT1.out.le
  have HO1 := Lib.hid (ownsT HO0.out ht1 (by omega))
  clear ht1 hc1
  go_wp2
  go_loopw [3, 4] (fun l nv wr => ∃ (m : Int) (A1 : Option Addr) (c1 : Nat) (acc : List Dep), 0 ≤ m ∧ nv = .int .i64 m ∧ l = .slice A1 acc.length c1 ∧ (acc.length : Int) + m ≤ 10 ∧ Hid (wr.ownsRow w.heap.size 31 2 (.slice A1 acc.length c1) acc.length (acc.flatMap Dep.enc)) ∧ Hid (∀ y ∈ acc, y.ok) ∧ Hid (Turned g (g + 1) w wr) ∧ Hid (Cur wr g)) (fun _ nv _ => (intOf nv).toNat)
  case atStart => exact ⟨v1, _, 0, [], by omega, rfl, rfl, by simp; omega, Lib.hid (by simpa using HO1.out), Lib.hid (fun y hy => by cases hy), HT1, HC1⟩
  case round =>
    clear HO0 HT0 HC0 HO1 HT1 HC1 HCi hs1
    obtain ⟨m, A1, c1, acc, hm, rfl, rfl, hlen, HO0, HIN, HT0, HC0⟩ := hrel
    have hs0 := HT0.out.le
    by_cases hlt : 0 < m
    · go_wp2_with fail
      refine (HB.out 7 (H9.out _ (by omega) (by omega)) _ HC0.out).mono ?_
      rintro e w2 ⟨v2, rfl, ⟨hv2a, hv2b⟩, ht2, hc2⟩
      have HT2 := Lib.hid (HT0.out.trans ht2)
      have HC2 := Lib.hid hc2
      have hs2 := HT2.out.le
      have HO2 := Lib.hid (ownsT HO0.out ht2 (by omega))
      clear ht2 hc2
      go_wp2_with fail
      refine (HB.out 7 (H9.out _ (by omega) (by omega)) _ HC2.out).mono ?_
      rintro e w3 ⟨v3, rfl, ⟨hv3a, hv3b⟩, ht3, hc3⟩
      have HT3 := Lib.hid (HT2.out.trans ht3)
      have HC3 := Lib.hid hc3
      have hs3 := HT3.out.le
      have HO3 := Lib.hid (ownsT HO2.out ht3 (by omega))
      clear ht3 hc3
      have HLN := Lib.hid (depsAddC_len (l := acc) ⟨1 + v2, 1 + v3⟩)
      have HSA := Lib.hid (sDepsAdd_c acc ⟨1 + v2, 1 + v3⟩ A1 acc.length c1 w3 (rowD_sl Dep.size HO3.out HIN.out) (by unfold maxLen; omega) ⟨in64_of (n := 1 + v2) (by omega) (by omega), in64_of (n := 1 + v3) (by omega) (by omega)⟩)
      generalize depsAddL acc ⟨1 + v2, 1 + v3⟩ = yl at HSA HLN
      generalize depsAddC acc ⟨1 + v2, 1 + v3⟩ = yc at HSA
      go_wp2_with fail
      refine HSA.out.mono ?_
      rintro e w4 ⟨A4, c4, rfl, ho4, hb4⟩
      obtain ⟨hr4, hk4⟩ := OwnAt.row Dep.size (by omega) ho4
      have HO4 := Lib.hid (owns_base hr4 (show w.heap.size ≤ w3.heap.size from HT3.out.le))
      have HIN4 := Lib.hid hk4
      have HT4 := Lib.hid (HT3.out.ext hb4)
      have HC4 := Lib.hid (HC3.out.ext hb4)
      have HO5 := Lib.hid (owns_ext HO3.out hb4)
      have hl4 := HLN.out
      clear ho4 hr4 hk4 hb4
      by_cases hy : yc = 0
      · subst hy
        go_wp2
        go_roundw
        case rel => exact ⟨m - 1, A4, c4, yl, by omega, by go_num, rfl, by omega, HO4, HIN4, HT4, HC4⟩
        case measure => simp [intOf]; omega
      · have hyb : (yc == 0) = false := by rw [beq_eq_false_iff_ne]; exact hy
        clear hy
        go_wp2
        go_roundw
        case rel => exact ⟨m - 1, A1, c1, acc, by omega, by go_num, rfl, by omega, HO5, HIN, HT4, HC4⟩
        case measure => simp [intOf]; omega
    · have HRR := Lib.hid (show RetDeps 10 w g (.returned (.slice A1 acc.length c1)) wr from ⟨A1, c1, acc, rfl, HO0.out, HIN.out, by omega, HT0.out, HC0.out⟩)
      go_wp2
      exact ret_post rfl HRR.out
end Go.Proofs.Ytgnbjnlcikpknaa
