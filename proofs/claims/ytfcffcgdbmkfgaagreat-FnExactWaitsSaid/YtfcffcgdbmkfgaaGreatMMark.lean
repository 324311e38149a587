/- Merged by mergelean.py: StM, StM2. -/
import Derived.Test.YtfcffcgdbmkfgaaGreatGRow
import Derived.Test.YtfcffcgdbmkfgaaGreatProf
import Derived.Test.YtfcffcgdbmkfgaaGreatMarkT
import Derived.Test.YtfcffcgdbmkfgaaGreatMSta
/-! StM -/
namespace Go.Proofs.YtfcffcgdbmkfgaaGreat
open Go.RowKit
set_option linter.unusedVariables false
def OwnE (w : World) (lo hi : Nat) (e : TypeId) (sz : Nat) (v : Value) (n : Nat) : Prop := (∃ L, w.ownsRow lo e sz v n L) ∧ ∀ q, v.ownBlock = some q → q < hi
theorem OwnE.ext {w w' : World} {lo hi : Nat} {e : TypeId} {sz : Nat} {v : Value} {n : Nat} (h : OwnE w lo hi e sz v n) (hb : Ext w w') : OwnE w' lo hi e sz v n := by
  obtain ⟨⟨L, h1⟩, h2⟩ := h; exact ⟨⟨L, owns_ext h1 hb⟩, h2⟩
theorem OwnE.step {w w' : World} {lo hi : Nat} {e e2 : TypeId} {sz sz2 : Nat} {v v2 : Value} {n n2 : Nat} {L L' : List Value} (h2 : OwnE w lo hi e2 sz2 v2 n2) (hmk : w.ownsRow lo e sz v n L) (hm : w'.ownsRow lo e sz v n L') (hg : w.grownBy w' v.ownBlock) (hs : e2 = e → sz2 = sz) : OwnE w' lo hi e2 sz2 v2 n2 := by
  obtain ⟨⟨L2, h2⟩, hb⟩ := h2
  refine ⟨?_, hb⟩
  have hlt := h2.lt
  obtain ⟨hl2, h3⟩ := h2
  rcases h3 with ⟨rfl, h0⟩ | ⟨g2, cap2, cur2, rfl, hlo2, hh2, hn2, hm2, hs2, ht2⟩
  · subst h0; exact ⟨[], World.ownsRow_nil _ _ _ _⟩
  · by_cases hq : v.ownBlock = some g2
    · rcases hmk.2 with ⟨rfl, _⟩ | ⟨g, cap, cur, rfl, hlo, hh, hn, hmx, hsz, htk⟩
      · cases hq
      · have e1 : g = g2 := Option.some.inj hq
        subst e1
        rw [hh] at hh2
        injection hh2 with hh2
        injection hh2 with e3 e4 _
        subst e3 e4
        have e5 := hs rfl
        subst e5
        rcases hm.2 with ⟨e6, _⟩ | ⟨g', cap', cur', e6, _, hh', hn', hmx', hsz', _⟩
        · cases e6
        · injection e6 with e6 e7 e8
          injection e6 with e6
          injection e6 with e6 _ _
          subst e6 e8
          have hle : n2 * sz2 ≤ cap2 * sz2 := Nat.mul_le_mul_right _ hn2
          exact ⟨cur'.toList.take (n2 * sz2), by rw [List.length_take, Array.length_toList, hsz', ← hsz, hs2]; omega, .inr ⟨g, cap2, cur', rfl, hlo2, hh', hn2, hm2, by rw [hsz', ← hsz, hs2], rfl⟩⟩
    · exact ⟨L2, hl2, .inr ⟨g2, cap2, cur2, rfl, hlo2, (hg.block g2 (hlt g2 rfl).2 (fun e => hq e.symm)).trans hh2, hn2, hm2, hs2, ht2⟩⟩
theorem grown_keep {w w' : World} {row : Option Nat} {base n : Nat} {e : TypeId} {sz : Nat} {v : Value} {L : List Value} (h : w.grownBy w' row) (h2 : w.ownsRow base e sz v n L) (ha : rowsApart v.ownBlock row) : w'.ownsRow base e sz v n L := by
  have hlt := h2.lt
  obtain ⟨h1, h3⟩ := h2
  refine ⟨h1, ?_⟩
  rcases h3 with h3 | ⟨b, cap, cur, rfl, hg, hh, r⟩
  · exact .inl h3
  · exact .inr ⟨b, cap, cur, rfl, hg, (h.block b (hlt b rfl).2 (fun e => ha b rfl e.symm)).trans hh, r⟩
def szOf (e : TypeId) (sz : Nat) : Prop := (e = 3 → sz = 1) ∧ (e = 84 → sz = 4) ∧ (e = 4 → sz = 1) ∧ (e = 62 → sz = 11) ∧ (e = 64 → sz = 13) ∧ (e = 105 → sz = 3)
def KeepE (lo hi : Nat) (w w' : World) : Prop := ∀ e sz v n, szOf e sz → OwnE w lo hi e sz v n → OwnE w' lo hi e sz v n
theorem KeepE.trans {lo hi : Nat} {w w1 w2 : World} (h : KeepE lo hi w w1) (k : KeepE lo hi w1 w2) : KeepE lo hi w w2 := fun e sz v n hs ho => k e sz v n hs (h e sz v n hs ho)
/-- A row of runs, each with its nodes in a row of its own. -/
def RunsE (w : World) (lo hi : Nat) (A : Option Addr) (n c : Nat) : Prop := (∀ q, (Value.slice A n c).ownBlock = some q → q < hi) ∧ ∃ L, w.ownsRow lo 64 13 (.slice A n c) n L ∧ ∀ j, j < n → ∃ A' m' c', L[j * 13 + 12]? = some (.slice A' m' c') ∧ OwnE w lo hi 3 1 (.slice A' m' c') m' ∧ m' ≤ 1048576
theorem RunsE.keep {w w' : World} {lo hi : Nat} {A : Option Addr} {n c : Nat} (h : RunsE w lo hi A n c) (hr : ∀ L, w.ownsRow lo 64 13 (.slice A n c) n L → w'.ownsRow lo 64 13 (.slice A n c) n L) (hk : KeepE lo hi w w') : RunsE w' lo hi A n c := by
  obtain ⟨h1, L, h2, h3⟩ := h
  refine ⟨h1, L, hr L h2, fun j hj => ?_⟩
  obtain ⟨A', m', c', e1, e2, e3⟩ := h3 j hj
  exact ⟨A', m', c', e1, hk _ _ _ _ ⟨(fun _ => rfl), (fun e => absurd e (by decide)), (fun _ => rfl), (fun e => absurd e (by decide)), (fun e => absurd e (by decide)), (fun e => absurd e (by decide))⟩ e2, e3⟩
/-- What marks do: blocks from lo up to hi turn; what was owned is owned. -/
structure Mk (lo hi : Nat) (w w' : World) : Prop where
  turn : Turned lo hi w w'
  keep : KeepE lo hi w w'
  runs : ∀ A n c, RunsE w lo hi A n c → RunsE w' lo hi A n c
theorem Mk.trans {lo hi : Nat} {w w1 w2 : World} (h : Mk lo hi w w1) (k : Mk lo hi w1 w2) : Mk lo hi w w2 := ⟨h.turn.trans k.turn, h.keep.trans k.keep, fun A n c hr => k.runs A n c (h.runs A n c hr)⟩
theorem Ext.keepE {w w' : World} (hb : Ext w w') (lo hi : Nat) : KeepE lo hi w w' := fun _ _ _ _ _ ho => ho.ext hb
theorem Ext.mk' {w w' : World} (hb : Ext w w') (lo hi : Nat) : Mk lo hi w w' := ⟨hb.turned _ _, hb.keepE lo hi, fun A n c hr => hr.keep (fun L h => owns_ext h hb) (hb.keepE lo hi)⟩
theorem grown_turn {w w' : World} {lo hi : Nat} {row : Option Nat} (hg : w.grownBy w' row) (hr : ∀ q, row = some q → lo ≤ q ∧ q < hi) : Turned lo hi w w' :=
  ⟨hg.os, hg.tape, hg.output, hg.size, fun b hb h => hg.block b hb (fun e => by have := hr b e.symm; omega)⟩
theorem Mk.marked {w w' : World} {lo hi : Nat} {e : TypeId} {sz : Nat} {v : Value} {n : Nat} {L L' : List Value} (hmk : w.ownsRow lo e sz v n L) (hq : ∀ q, v.ownBlock = some q → q < hi) (hm : w'.ownsRow lo e sz v n L') (hg : w.grownBy w' v.ownBlock) (hs : ∀ s, szOf e s → s = sz) (hne : 64 ≠ e) : Mk lo hi w w' := by
  have hk : KeepE lo hi w w' := fun e2 sz2 v2 n2 h1 h2 => h2.step hmk hm hg (fun e => by subst e; exact hs _ h1)
  exact ⟨grown_turn hg (fun q e => ⟨(hmk.lt q e).1, hq q e⟩), hk, fun A n c hr => hr.keep (fun L h => grown_keep hg h (g_apart h hmk hne)) hk⟩
theorem setAll_get (us : List Value) : ∀ (L : List Value) (p q : Nat), (q < p ∨ p + us.length ≤ q) → (setAll L p us)[q]? = L[q]? := by
  induction us with
  | nil => intro L p q _; rfl
  | cons u us ih =>
    intro L p q h
    rw [setAll, ih _ _ _ (by simp only [List.length_cons] at h; omega), List.getElem?_set_ne (by simp only [List.length_cons] at h; omega)]
def RetMk (w : World) (lo hi : Nat) (k B : Int) : Ending → World → Prop := fun e w' => ∃ z : Int, e = .returned (.int .i64 z) ∧ k ≤ z ∧ z ≤ k + B ∧ Mk lo hi w w'
theorem markIntS_e (A : Option Addr) (n c lo hi : Nat) (k : Int) (w : World) (h : OwnE w lo hi 3 1 (.slice A n c) n) (hn : n ≤ 1048576) (hk0 : 0 < k) (hk1 : k ≤ 1125899906842624) : Calls Tryz.prog 13 #[.slice A n c, .int .i64 k] w (RetMk w lo hi k 11534336) := by
  obtain ⟨⟨L, hL⟩, hq⟩ := h
  refine (markIntS_c A n c lo L k w hL hn hk0 hk1).mono ?_
  rintro e w1 ⟨rfl, hm, hg⟩
  exact ⟨_, rfl, by omega, by omega, Mk.marked hL hq hm hg (fun s hs => hs.1 rfl) (by decide)⟩
theorem markNodeS_e (A : Option Addr) (n c lo hi : Nat) (k : Int) (w : World) (h : OwnE w lo hi 84 4 (.slice A n c) n) (hn : n ≤ 1048576) (hk0 : 0 < k) (hk1 : k ≤ 1125899906842624) : Calls Tryz.prog 72 #[.slice A n c, .int .i64 k] w (RetMk w lo hi k 11534336) := by
  obtain ⟨⟨L, hL⟩, hq⟩ := h
  refine (markNodeS_c A n c lo L k w hL hn hk0 hk1).mono ?_
  rintro e w1 ⟨rfl, hm, hg⟩
  exact ⟨_, rfl, by omega, by omega, Mk.marked hL hq hm hg (fun s hs => hs.2.1 rfl) (by decide)⟩
theorem markJobS_e (A : Option Addr) (n c lo hi : Nat) (k : Int) (w : World) (h : OwnE w lo hi 62 11 (.slice A n c) n) (hn : n ≤ 1048576) (hk0 : 0 < k) (hk1 : k ≤ 1125899906842624) : Calls Tryz.prog 41 #[.slice A n c, .int .i64 k] w (RetMk w lo hi k 11534336) := by
  obtain ⟨⟨L, hL⟩, hq⟩ := h
  refine (markJobS_c A n c lo L k w hL hn hk0 hk1).mono ?_
  rintro e w1 ⟨rfl, hm, hg⟩
  exact ⟨_, rfl, by omega, by omega, Mk.marked hL hq hm hg (fun s hs => hs.2.2.2.1 rfl) (by decide)⟩
theorem markEndS_e (A : Option Addr) (n c lo hi : Nat) (k : Int) (w : World) (h : OwnE w lo hi 105 3 (.slice A n c) n) (hn : n ≤ 1048576) (hk0 : 0 < k) (hk1 : k ≤ 1125899906842624) : Calls Tryz.prog 43 #[.slice A n c, .int .i64 k] w (RetMk w lo hi k 11534336) := by
  obtain ⟨⟨L, hL⟩, hq⟩ := h
  refine (markEndS_c A n c lo L k w hL hn hk0 hk1).mono ?_
  rintro e w1 ⟨rfl, hm, hg⟩
  exact ⟨_, rfl, by omega, by omega, Mk.marked hL hq hm hg (fun s hs => hs.2.2.2.2.2 rfl) (by decide)⟩
set_option maxHeartbeats 4000000 in
set_option maxRecDepth 10000 in
theorem markBoolS_e (A : Option Addr) (n c lo hi : Nat) (k : Int) (w : World) (h : OwnE w lo hi 4 1 (.slice A n c) n) (hn : n ≤ 1048576) (hk0 : 0 < k) (hk1 : k ≤ 1125899906842624) : Calls Tryz.prog 40 #[.slice A n c, .int .i64 k] w (RetMk w lo hi k 11534336) := by
  obtain ⟨⟨L0, hL0⟩, hq⟩ := h
  have HL0 := Lib.hid hL0
  go_enter Tryz.func40, Tryz.ntmps40
  go_wp2
  go_loopw [1, 5] (fun q x wr => ∃ (i : Nat) (L : List Value), i ≤ n ∧ x = .int .i64 i ∧ q = .int .i64 (k + i) ∧ Hid (wr.ownsRow lo 4 1 (.slice A n c) n L) ∧ Hid (w.grownBy wr (Value.ownBlock (.slice A n c)))) (fun _ x _ => n - (intOf x).toNat)
  case atStart => exact ⟨0, L0, Nat.zero_le _, rfl, by simp, HL0, Lib.hid (World.grownBy.refl w _)⟩
  case round =>
    obtain ⟨i, L, hi, rfl, rfl, HO, HG⟩ := hrel
    clear hL0
    by_cases hlt : i < n
    · obtain ⟨g, cap, e1, _, _⟩ := own_form HO.out (by omega)
      injection e1 with e1 _ e3
      subst e1 e3
      obtain ⟨y0, hy0⟩ := owns_cell HO.out (j := i) (by omega)
      have z0 := HO.out.frozenAt i
      have hK0 : 0 < k + (i : Int) := by omega
      have hK1 : k + (i : Int) ≤ 1125899906842624 + 1048576 := by omega
      have HK : Hid ((k + (i : Int)) + 1 = k + ((i + 1 : Nat) : Int)) := (by omega : (k + (i : Int)) + 1 = k + ((i + 1 : Nat) : Int))
      generalize k + (i : Int) = K at *
      go_wp2
      go_roundw
      case rel => exact ⟨i + 1, setAll L i [_], by omega, by go_num, by rw [← HK.out] <;> go_num, Lib.hid (owns_puts [_] _ _ _ HO.out), Lib.hid (grownBy_puts [_] _ i HG.out)⟩
      case measure => simp [intOf]; omega
    · obtain rfl : i = n := by omega
      go_wp2
      exact bodyPost_ret (results_tmp rfl _ _ _) rfl ⟨k + i, rfl, by omega, by omega, Mk.marked HL0.out hq HO.out HG.out (fun s hs => hs.2.2.1 rfl) (by decide)⟩
set_option maxHeartbeats 4000000 in
theorem markTopo_e (A : Option Addr) (n c : Nat) (B : Option Addr) (m d : Nat) (lo hi : Nat) (k : Int) (w : World) (h1 : OwnE w lo hi 3 1 (.slice A n c) n) (hn : n ≤ 1048576) (h2 : OwnE w lo hi 84 4 (.slice B m d) m) (hm : m ≤ 1048576) (hk0 : 0 < k) (hk1 : k ≤ 1125899906842624 - 100000000) (hz : hi ≤ w.heap.size) : Calls Tryz.prog 39 #[.agg #[.slice A n c, .slice B m d], .int .i64 k] w (RetMk w lo hi k 23068672) := by
  have HA := Lib.hid (fun (u : World) (a : Mk lo hi w u) => markIntS_e A n c lo hi k u (a.keep _ _ _ _ ⟨(fun _ => rfl), (fun e => absurd e (by decide)), (fun _ => rfl), (fun e => absurd e (by decide)), (fun e => absurd e (by decide)), (fun e => absurd e (by decide))⟩ h1) hn hk0 (by omega))
  have HB := Lib.hid (fun (z : Int) (u : World) (a : Mk lo hi w u) (b : 0 < z) (b' : z ≤ 1125899906842624) => markNodeS_e B m d lo hi z u (a.keep _ _ _ _ ⟨(fun e => absurd e (by decide)), (fun _ => rfl), (fun e => absurd e (by decide)), (fun e => absurd e (by decide)), (fun e => absurd e (by decide)), (fun e => absurd e (by decide))⟩ h2) hm b b')
  clear h1 h2
  go_enter Tryz.func39, Tryz.ntmps39
  go_wp2_with fail
  refine (HA.out _ (((Ext.refl w).alloc _).mk' _ _)).mono ?_
  rintro e w1 ⟨z, rfl, hz1, hz2, hm1⟩
  have HM1 := Lib.hid ((((Ext.refl w).alloc _).mk' lo hi).trans hm1)
  have q1 : w1.cell? ⟨w.heap.size, 1, none⟩ = some (.slice B m d) := by
    rw [World.cell?_of_block (a := ⟨w.heap.size, 1, none⟩) (hm1.turn.block w.heap.size (by simp) (.inr hz))]
    exact cell_box w [.slice A n c, .slice B m d] 38 1 _ rfl
  have hql := lt_of_cell q1
  clear hm1
  go_wp2_with fail
  refine (HB.out z _ HM1.out (by omega) (by omega)).mono ?_
  rintro e w2 ⟨y, rfl, hy1, hy2, hm2⟩
  clear q1
  go_wp2
  exact bodyPost_ret (results_tmp rfl _ _ _) rfl ⟨y, rfl, by omega, by omega, HM1.out.trans hm2⟩
set_option maxHeartbeats 16000000 in
set_option maxRecDepth 10000 in
theorem markRunS_e (A : Option Addr) (n c lo hi : Nat) (k : Int) (w : World) (h : RunsE w lo hi A n c) (hn : n ≤ 1048576) (hk0 : 0 < k) (hk1 : k ≤ 1099511627776) : Calls Tryz.prog 42 #[.slice A n c, .int .i64 k] w (fun e w' => ∃ z : Int, e = .returned (.int .i64 z) ∧ k ≤ z ∧ z ≤ k + 1100000000000 ∧ Turned lo hi w w' ∧ KeepE lo hi w w') := by
  have H0 := Lib.hid h
  clear h
  go_enter Tryz.func42, Tryz.ntmps42
  go_wp2
  go_loopw [1, 5] (fun q x wr => ∃ (i : Nat) (K : Int), i ≤ n ∧ x = .int .i64 i ∧ q = .int .i64 K ∧ k ≤ K ∧ K ≤ k + i * 1048588 ∧ Hid (RunsE wr lo hi A n c) ∧ Hid (Turned lo hi w wr) ∧ Hid (KeepE lo hi w wr)) (fun _ x _ => n - (intOf x).toNat)
  case atStart => exact ⟨0, k, Nat.zero_le _, rfl, rfl, by omega, by omega, H0, Lib.hid (Turned.refl _ _ _), Lib.hid (fun _ _ _ _ _ h => h)⟩
  case round =>
    obtain ⟨i, K, hi', rfl, rfl, hK2, hK3, HR, HT, HKE⟩ := hrel
    by_cases hlt : i < n
    · obtain ⟨hq, L, hL, hin⟩ := HR.out
      have HO := Lib.hid hL
      have HIN := Lib.hid hin
      have HQ := Lib.hid hq
      obtain ⟨A', m', c', e12, hoe, hm'⟩ := hin i hlt
      have HE12 := Lib.hid e12
      have HOE := Lib.hid hoe
      obtain ⟨g, cap, e1, hg1, _⟩ := own_form hL (by omega)
      injection e1 with e1 _ e3
      subst e1 e3
      have hgl := (hL.lt g rfl).2
      have i12 : wr.cell? ⟨g, i * 13 + 12, none⟩ = some (.slice A' m' c') := by rw [hL.cellAt (i * 13 + 12) (by omega)]; exact e12
      have hK0 : 0 < K := by omega
      have hK1 : K ≤ 1125899906842624 := by omega
      clear hL hin hq e12 hoe
      obtain ⟨y0, hy0⟩ := owns_cell HO.out (j := i * 13) (by omega)
      have z0 := HO.out.frozenAt (i * 13)
      obtain ⟨y1, hy1⟩ := owns_cell HO.out (j := i * 13 + 1) (by omega)
      have z1 := HO.out.frozenAt (i * 13 + 1)
      obtain ⟨y2, hy2⟩ := owns_cell HO.out (j := i * 13 + 2) (by omega)
      have z2 := HO.out.frozenAt (i * 13 + 2)
      obtain ⟨y3, hy3⟩ := owns_cell HO.out (j := i * 13 + 3) (by omega)
      have z3 := HO.out.frozenAt (i * 13 + 3)
      obtain ⟨y4, hy4⟩ := owns_cell HO.out (j := i * 13 + 4) (by omega)
      have z4 := HO.out.frozenAt (i * 13 + 4)
      obtain ⟨y5, hy5⟩ := owns_cell HO.out (j := i * 13 + 5) (by omega)
      have z5 := HO.out.frozenAt (i * 13 + 5)
      obtain ⟨y6, hy6⟩ := owns_cell HO.out (j := i * 13 + 6) (by omega)
      have z6 := HO.out.frozenAt (i * 13 + 6)
      obtain ⟨y7, hy7⟩ := owns_cell HO.out (j := i * 13 + 7) (by omega)
      have z7 := HO.out.frozenAt (i * 13 + 7)
      obtain ⟨y8, hy8⟩ := owns_cell HO.out (j := i * 13 + 8) (by omega)
      have z8 := HO.out.frozenAt (i * 13 + 8)
      obtain ⟨y9, hy9⟩ := owns_cell HO.out (j := i * 13 + 9) (by omega)
      have z9 := HO.out.frozenAt (i * 13 + 9)
      obtain ⟨y10, hy10⟩ := owns_cell HO.out (j := i * 13 + 10) (by omega)
      have z10 := HO.out.frozenAt (i * 13 + 10)
      obtain ⟨y11, hy11⟩ := owns_cell HO.out (j := i * 13 + 11) (by omega)
      have z11 := HO.out.frozenAt (i * 13 + 11)
      have HP := Lib.hid (show (setCells wr g (i * 13) [.int .i64 (K), .int .i64 (K + 1), .int .i64 (K + 1 + 1), .int .i64 (K + 1 + 1 + 1), .int .i64 (K + 1 + 1 + 1 + 1), .int .i64 (K + 1 + 1 + 1 + 1 + 1), .int .i64 (K + 1 + 1 + 1 + 1 + 1 + 1), .int .i64 (K + 1 + 1 + 1 + 1 + 1 + 1 + 1), .int .i64 (K + 1 + 1 + 1 + 1 + 1 + 1 + 1 + 1), .int .i64 (K + 1 + 1 + 1 + 1 + 1 + 1 + 1 + 1 + 1), .int .i64 (K + 1 + 1 + 1 + 1 + 1 + 1 + 1 + 1 + 1 + 1), .int .i64 (K + 1 + 1 + 1 + 1 + 1 + 1 + 1 + 1 + 1 + 1 + 1)]).ownsRow lo 64 13 (.slice (some ⟨g, 0, none⟩) n c) n (setAll L (i * 13) [.int .i64 (K), .int .i64 (K + 1), .int .i64 (K + 1 + 1), .int .i64 (K + 1 + 1 + 1), .int .i64 (K + 1 + 1 + 1 + 1), .int .i64 (K + 1 + 1 + 1 + 1 + 1), .int .i64 (K + 1 + 1 + 1 + 1 + 1 + 1), .int .i64 (K + 1 + 1 + 1 + 1 + 1 + 1 + 1), .int .i64 (K + 1 + 1 + 1 + 1 + 1 + 1 + 1 + 1), .int .i64 (K + 1 + 1 + 1 + 1 + 1 + 1 + 1 + 1 + 1), .int .i64 (K + 1 + 1 + 1 + 1 + 1 + 1 + 1 + 1 + 1 + 1), .int .i64 (K + 1 + 1 + 1 + 1 + 1 + 1 + 1 + 1 + 1 + 1 + 1)]) from owns_puts [.int .i64 (K), .int .i64 (K + 1), .int .i64 (K + 1 + 1), .int .i64 (K + 1 + 1 + 1), .int .i64 (K + 1 + 1 + 1 + 1), .int .i64 (K + 1 + 1 + 1 + 1 + 1), .int .i64 (K + 1 + 1 + 1 + 1 + 1 + 1), .int .i64 (K + 1 + 1 + 1 + 1 + 1 + 1 + 1), .int .i64 (K + 1 + 1 + 1 + 1 + 1 + 1 + 1 + 1), .int .i64 (K + 1 + 1 + 1 + 1 + 1 + 1 + 1 + 1 + 1), .int .i64 (K + 1 + 1 + 1 + 1 + 1 + 1 + 1 + 1 + 1 + 1), .int .i64 (K + 1 + 1 + 1 + 1 + 1 + 1 + 1 + 1 + 1 + 1 + 1)] _ _ _ HO.out)
      have HGP := Lib.hid (show wr.grownBy (setCells wr g (i * 13) [.int .i64 (K), .int .i64 (K + 1), .int .i64 (K + 1 + 1), .int .i64 (K + 1 + 1 + 1), .int .i64 (K + 1 + 1 + 1 + 1), .int .i64 (K + 1 + 1 + 1 + 1 + 1), .int .i64 (K + 1 + 1 + 1 + 1 + 1 + 1), .int .i64 (K + 1 + 1 + 1 + 1 + 1 + 1 + 1), .int .i64 (K + 1 + 1 + 1 + 1 + 1 + 1 + 1 + 1), .int .i64 (K + 1 + 1 + 1 + 1 + 1 + 1 + 1 + 1 + 1), .int .i64 (K + 1 + 1 + 1 + 1 + 1 + 1 + 1 + 1 + 1 + 1), .int .i64 (K + 1 + 1 + 1 + 1 + 1 + 1 + 1 + 1 + 1 + 1 + 1)]) (some g) from grownBy_puts [.int .i64 (K), .int .i64 (K + 1), .int .i64 (K + 1 + 1), .int .i64 (K + 1 + 1 + 1), .int .i64 (K + 1 + 1 + 1 + 1), .int .i64 (K + 1 + 1 + 1 + 1 + 1), .int .i64 (K + 1 + 1 + 1 + 1 + 1 + 1), .int .i64 (K + 1 + 1 + 1 + 1 + 1 + 1 + 1), .int .i64 (K + 1 + 1 + 1 + 1 + 1 + 1 + 1 + 1), .int .i64 (K + 1 + 1 + 1 + 1 + 1 + 1 + 1 + 1 + 1), .int .i64 (K + 1 + 1 + 1 + 1 + 1 + 1 + 1 + 1 + 1 + 1), .int .i64 (K + 1 + 1 + 1 + 1 + 1 + 1 + 1 + 1 + 1 + 1 + 1)] _ (i * 13) (World.grownBy.refl wr _))
      have HKP := Lib.hid (show KeepE lo hi wr (setCells wr g (i * 13) [.int .i64 (K), .int .i64 (K + 1), .int .i64 (K + 1 + 1), .int .i64 (K + 1 + 1 + 1), .int .i64 (K + 1 + 1 + 1 + 1), .int .i64 (K + 1 + 1 + 1 + 1 + 1), .int .i64 (K + 1 + 1 + 1 + 1 + 1 + 1), .int .i64 (K + 1 + 1 + 1 + 1 + 1 + 1 + 1), .int .i64 (K + 1 + 1 + 1 + 1 + 1 + 1 + 1 + 1), .int .i64 (K + 1 + 1 + 1 + 1 + 1 + 1 + 1 + 1 + 1), .int .i64 (K + 1 + 1 + 1 + 1 + 1 + 1 + 1 + 1 + 1 + 1), .int .i64 (K + 1 + 1 + 1 + 1 + 1 + 1 + 1 + 1 + 1 + 1 + 1)]) from fun e2 sz2 v2 n2 h1 h2 => h2.step HO.out HP.out HGP.out (fun e => by subst e; exact h1.2.2.2.2.1 rfl))
      obtain ⟨⟨LI, hLI⟩, hqI⟩ := HKP.out _ _ _ _ ⟨(fun _ => rfl), (fun e => absurd e (by decide)), (fun _ => rfl), (fun e => absurd e (by decide)), (fun e => absurd e (by decide)), (fun e => absurd e (by decide))⟩ HOE.out
      have HLI := Lib.hid hLI
      have HQI := Lib.hid hqI
      clear hLI hqI
      go_wp2_with fail
      refine (markIntS_c A' m' c' lo LI (K + 1 + 1 + 1 + 1 + 1 + 1 + 1 + 1 + 1 + 1 + 1 + 1) _ HLI.out hm' (by omega) (by omega)).mono ?_
      rintro e w3 ⟨rfl, hm3, hg3⟩
      have HM3 := Lib.hid hm3
      have HG3 := Lib.hid hg3
      clear hm3 hg3 i12 y0 hy0 z0 y1 hy1 z1 y2 hy2 z2 y3 hy3 z3 y4 hy4 z4 y5 hy5 z5 y6 hy6 z6 y7 hy7 z7 y8 hy8 z8 y9 hy9 z9 y10 hy10 z10 y11 hy11 z11
      have HK3 := Lib.hid (show KeepE lo hi (setCells wr g (i * 13) [.int .i64 (K), .int .i64 (K + 1), .int .i64 (K + 1 + 1), .int .i64 (K + 1 + 1 + 1), .int .i64 (K + 1 + 1 + 1 + 1), .int .i64 (K + 1 + 1 + 1 + 1 + 1), .int .i64 (K + 1 + 1 + 1 + 1 + 1 + 1), .int .i64 (K + 1 + 1 + 1 + 1 + 1 + 1 + 1), .int .i64 (K + 1 + 1 + 1 + 1 + 1 + 1 + 1 + 1), .int .i64 (K + 1 + 1 + 1 + 1 + 1 + 1 + 1 + 1 + 1), .int .i64 (K + 1 + 1 + 1 + 1 + 1 + 1 + 1 + 1 + 1 + 1), .int .i64 (K + 1 + 1 + 1 + 1 + 1 + 1 + 1 + 1 + 1 + 1 + 1)]) w3 from fun e2 sz2 v2 n2 h1 h2 => h2.step HLI.out HM3.out HG3.out (fun e => by subst e; exact h1.1 rfl))
      have HR3 := Lib.hid (show RunsE w3 lo hi (some ⟨g, 0, none⟩) n c from ⟨HQ.out, setAll L (i * 13) [.int .i64 (K), .int .i64 (K + 1), .int .i64 (K + 1 + 1), .int .i64 (K + 1 + 1 + 1), .int .i64 (K + 1 + 1 + 1 + 1), .int .i64 (K + 1 + 1 + 1 + 1 + 1), .int .i64 (K + 1 + 1 + 1 + 1 + 1 + 1), .int .i64 (K + 1 + 1 + 1 + 1 + 1 + 1 + 1), .int .i64 (K + 1 + 1 + 1 + 1 + 1 + 1 + 1 + 1), .int .i64 (K + 1 + 1 + 1 + 1 + 1 + 1 + 1 + 1 + 1), .int .i64 (K + 1 + 1 + 1 + 1 + 1 + 1 + 1 + 1 + 1 + 1), .int .i64 (K + 1 + 1 + 1 + 1 + 1 + 1 + 1 + 1 + 1 + 1 + 1)], grown_keep HG3.out HP.out (g_apart HP.out HLI.out (by decide)), fun j hj => by
        obtain ⟨A2, m2, c2, f1, f2, f3⟩ := HIN.out j hj
        exact ⟨A2, m2, c2, by rw [setAll_get _ _ _ _ (by simp only [List.length_cons, List.length_nil]; omega)]; exact f1, HK3.out _ _ _ _ ⟨(fun _ => rfl), (fun e => absurd e (by decide)), (fun _ => rfl), (fun e => absurd e (by decide)), (fun e => absurd e (by decide)), (fun e => absurd e (by decide))⟩ (HKP.out _ _ _ _ ⟨(fun _ => rfl), (fun e => absurd e (by decide)), (fun _ => rfl), (fun e => absurd e (by decide)), (fun e => absurd e (by decide)), (fun e => absurd e (by decide))⟩ f2), f3⟩⟩)
      have HT3 := Lib.hid ((HT.out.trans (grown_turn HGP.out (fun q e => ⟨(HO.out.lt q e).1, HQ.out q e⟩))).trans (grown_turn HG3.out (fun q e => ⟨(HLI.out.lt q e).1, HQI.out q e⟩)))
      have HKT := Lib.hid ((HKE.out.trans HKP.out).trans HK3.out)
      clear HP HGP HKP HLI HM3 HG3 HO HK3 HE12 HOE
      go_wp2
      go_roundw
      case rel => exact ⟨i + 1, K + 1 + 1 + 1 + 1 + 1 + 1 + 1 + 1 + 1 + 1 + 1 + 1 + m', by omega, by go_num, rfl, by omega, by omega, HR3, HT3, HKT⟩
      case measure => simp [intOf]; omega
    · obtain rfl : i = n := by omega
      go_wp2
      exact bodyPost_ret (results_tmp rfl _ _ _) rfl ⟨K, rfl, by omega, by omega, HT.out, HKE.out⟩
end Go.Proofs.YtfcffcgdbmkfgaaGreat
/-! StM2 -/
namespace Go.Proofs.YtfcffcgdbmkfgaaGreat
open Go.RowKit
set_option linter.unusedVariables false
theorem RunsO.e {w0 w : World} {lo : Nat} {A : Option Addr} {n c : Nat} {xs : List Run} (h : RunsO w0 lo A n c xs) (hb : Ext w0 w) : RunsE w lo w0.heap.size A n c := by
  obtain ⟨rfl, L, h2, h3⟩ := h
  refine ⟨fun q e => (h2.lt q e).2, L, owns_ext h2 hb, fun j hj => ?_⟩
  obtain ⟨A', c', e, ho, _, h5, _⟩ := h3 j _ (List.getElem?_eq_getElem hj)
  refine ⟨A', _, c', ?_, ⟨⟨_, owns_ext ho hb⟩, fun q e => (ho.lt q e).2⟩, h5⟩
  have h12 : ((L.drop (j * 13)).take 13)[12]? = L[j * 13 + 12]? := by rw [List.getElem?_take_of_lt (by omega), List.getElem?_drop]
  rw [← h12, e]; rfl
set_option maxHeartbeats 8000000 in
set_option maxRecDepth 8000 in
theorem markState_e (x : State) (A1 : Option Addr) (c1 : Nat) (A2 : Option Addr) (c2 : Nat) (A3 : Option Addr) (c3 : Nat) (A6 : Option Addr) (c6 : Nat) (A7 : Option Addr) (c7 : Nat) (A8 : Option Addr) (c8 : Nat) (w0 w : World) (lo : Nat) (h : StateO w0 lo x A1 c1 A2 c2 A3 c3 A6 c6 A7 c7 A8 c8) (hb : Ext w0 w) (hs : stSmall x) : Calls Tryz.prog 12 #[.agg #[.slice A1 x.Topo.Parents.length c1, .slice A2 x.Topo.Nodes.length c2, .slice A3 x.Up.length c3, .int .i64 x.Lic.A, .int .i64 x.Lic.B, .int .i64 x.Lic.C, .int .i64 x.Depth, .int .i64 x.Now, .slice A6 x.Queue.length c6, .slice A7 x.Runs.length c7, .slice A8 x.Ends.length c8], .int .i64 1] w (fun e w' => ∃ z : Int, e = .returned (.int .i64 z) ∧ 0 < z ∧ z ≤ 2000000000000 ∧ Turned lo w0.heap.size w w') := by
  obtain ⟨⟨hl1, hl2, hl3, hl6, hl7, hl8⟩, hlr⟩ := hs
  have HP := Lib.hid (show OwnE w lo w0.heap.size 3 1 (.slice A1 x.Topo.Parents.length c1) x.Topo.Parents.length from ⟨⟨_, owns_ext h.par hb⟩, fun q e => (h.par.lt q e).2⟩)
  have HN := Lib.hid (show OwnE w lo w0.heap.size 84 4 (.slice A2 x.Topo.Nodes.length c2) x.Topo.Nodes.length from ⟨⟨_, owns_ext h.nod hb⟩, fun q e => (h.nod.lt q e).2⟩)
  have HU := Lib.hid (show OwnE w lo w0.heap.size 4 1 (.slice A3 x.Up.length c3) x.Up.length from ⟨⟨_, owns_ext h.ups hb⟩, fun q e => (h.ups.lt q e).2⟩)
  have HQ := Lib.hid (show OwnE w lo w0.heap.size 62 11 (.slice A6 x.Queue.length c6) x.Queue.length from ⟨⟨_, owns_ext h.que hb⟩, fun q e => (h.que.lt q e).2⟩)
  have HE := Lib.hid (show OwnE w lo w0.heap.size 105 3 (.slice A8 x.Ends.length c8) x.Ends.length from ⟨⟨_, owns_ext h.fin hb⟩, fun q e => (h.fin.lt q e).2⟩)
  have HR := Lib.hid (h.run.e hb)
  have hz : w0.heap.size ≤ w.heap.size := hb.le
  generalize w0.heap.size = hi at *
  have HC := Lib.hid (fun (j : Nat) (u : Value) (q : World) (a : Turned lo hi (w.alloc (.cells #[.slice A1 x.Topo.Parents.length c1, .slice A2 x.Topo.Nodes.length c2, .slice A3 x.Up.length c3, .int .i64 x.Lic.A, .int .i64 x.Lic.B, .int .i64 x.Lic.C, .int .i64 x.Depth, .int .i64 x.Now, .slice A6 x.Queue.length c6, .slice A7 x.Runs.length c7, .slice A8 x.Ends.length c8] 44)) q) (hu : [.slice A1 x.Topo.Parents.length c1, .slice A2 x.Topo.Nodes.length c2, .slice A3 x.Up.length c3, .int .i64 x.Lic.A, .int .i64 x.Lic.B, .int .i64 x.Lic.C, .int .i64 x.Depth, .int .i64 x.Now, .slice A6 x.Queue.length c6, .slice A7 x.Runs.length c7, .slice A8 x.Ends.length c8][j]? = some u) => show q.cell? ⟨w.heap.size, j, none⟩ = some u from by
    rw [World.cell?_of_block (a := ⟨w.heap.size, j, none⟩) (a.block w.heap.size (by simp) (.inr hz))]
    exact cell_box w _ 44 j u hu)
  clear h hb hlr
  go_enter Tryz.func12, Tryz.ntmps12
  have HM0 := Lib.hid (show Mk lo hi w (w.alloc (.cells #[.slice A1 x.Topo.Parents.length c1, .slice A2 x.Topo.Nodes.length c2, .slice A3 x.Up.length c3, .int .i64 x.Lic.A, .int .i64 x.Lic.B, .int .i64 x.Lic.C, .int .i64 x.Depth, .int .i64 x.Now, .slice A6 x.Queue.length c6, .slice A7 x.Runs.length c7, .slice A8 x.Ends.length c8] 44)) from ((Ext.refl w).alloc _).mk' lo hi)
  go_wp2_with fail
  refine (markTopo_e A1 x.Topo.Parents.length c1 A2 x.Topo.Nodes.length c2 lo hi 1 _ (HM0.out.keep _ _ _ _ ⟨(fun _ => rfl), (fun e => absurd e (by decide)), (fun _ => rfl), (fun e => absurd e (by decide)), (fun e => absurd e (by decide)), (fun e => absurd e (by decide))⟩ HP.out) hl1 (HM0.out.keep _ _ _ _ ⟨(fun e => absurd e (by decide)), (fun _ => rfl), (fun e => absurd e (by decide)), (fun e => absurd e (by decide)), (fun e => absurd e (by decide)), (fun e => absurd e (by decide))⟩ HN.out) hl2 (by omega) (by omega) (by simp; omega)).mono ?_
  rintro e w1 ⟨z1, rfl, ha1, hb1, hm1⟩
  have HA1 := Lib.hid hm1.turn
  have HM1 := Lib.hid (HM0.out.trans hm1)
  have q2 := HC.out 2 _ _ HA1.out rfl
  have hql := lt_of_cell q2
  clear hm1
  go_wp2_with fail
  refine (markBoolS_e A3 x.Up.length c3 lo hi z1 _ (HM1.out.keep _ _ _ _ ⟨(fun _ => rfl), (fun e => absurd e (by decide)), (fun _ => rfl), (fun e => absurd e (by decide)), (fun e => absurd e (by decide)), (fun e => absurd e (by decide))⟩ HU.out) hl3 (by omega) (by omega)).mono ?_
  rintro e w2 ⟨z2, rfl, ha2, hb2, hm2⟩
  have HA2 := Lib.hid (HA1.out.trans hm2.turn)
  have HM2 := Lib.hid (HM1.out.trans hm2)
  clear q2 hql hm2
  have q8 := HC.out 8 _ _ HA2.out rfl
  have hql := lt_of_cell q8
  go_wp2_with fail
  refine (markJobS_e A6 x.Queue.length c6 lo hi z2 _ (HM2.out.keep _ _ _ _ ⟨(fun e => absurd e (by decide)), (fun e => absurd e (by decide)), (fun e => absurd e (by decide)), (fun _ => rfl), (fun e => absurd e (by decide)), (fun e => absurd e (by decide))⟩ HQ.out) hl6 (by omega) (by omega)).mono ?_
  rintro e w3 ⟨z3, rfl, ha3, hb3, hm3⟩
  have HA3 := Lib.hid (HA2.out.trans hm3.turn)
  have HM3 := Lib.hid (HM2.out.trans hm3)
  clear q8 hql hm3
  have q9 := HC.out 9 _ _ HA3.out rfl
  have hql := lt_of_cell q9
  go_wp2_with fail
  refine (markRunS_e A7 x.Runs.length c7 lo hi z3 _ (HM3.out.runs _ _ _ HR.out) hl7 (by omega) (by omega)).mono ?_
  rintro e w4 ⟨z4, rfl, ha4, hb4, ht4, hk4⟩
  have HA4 := Lib.hid (HA3.out.trans ht4)
  have HT4 := Lib.hid (HM3.out.turn.trans ht4)
  have HK4 := Lib.hid (HM3.out.keep.trans hk4)
  clear q9 hql ht4 hk4
  have q10 := HC.out 10 _ _ HA4.out rfl
  have hql := lt_of_cell q10
  go_wp2_with fail
  refine (markEndS_e A8 x.Ends.length c8 lo hi z4 _ (HK4.out _ _ _ _ ⟨(fun e => absurd e (by decide)), (fun e => absurd e (by decide)), (fun e => absurd e (by decide)), (fun e => absurd e (by decide)), (fun e => absurd e (by decide)), (fun _ => rfl)⟩ HE.out) hl8 (by omega) (by omega)).mono ?_
  rintro e w5 ⟨z5, rfl, ha5, hb5, hm5⟩
  clear q10 hql
  go_wp2
  exact bodyPost_ret (results_tmp rfl _ _ _) rfl ⟨z5, rfl, by omega, by omega, HT4.out.trans hm5.turn⟩
end Go.Proofs.YtfcffcgdbmkfgaaGreat
