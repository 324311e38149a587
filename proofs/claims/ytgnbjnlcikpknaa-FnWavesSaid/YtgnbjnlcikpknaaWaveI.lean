/- Contracts on the way to waves: numbers of jobs, and whom one waits for. -/
import Derived.Test.YtgnbjnlcikpknaaFunc
import Derived.Test.YtgnbjnlcikpknaaWaveLaw
import Derived.Test.YtgnbjnlcikpknaaVRow
import Derived.Test.YtgnbjnlcikpknaaAppR
namespace Go.Proofs.Ytgnbjnlcikpknaa
open Go.RowKit
set_option linter.unusedVariables false
theorem SlAt.take {α : Type} {R : Rel α} {sz n : Nat} {w : World} {A : Option Addr} {xs : List α} (h : SlAt R sz w A n xs) {k : Nat} (hk : k ≤ n) : SlAt R sz w A k (xs.take k) := by
  refine ⟨by rw [List.length_take, h.1]; omega, fun h0 => ?_⟩
  obtain ⟨b, o, e, hb, hc⟩ := h.2 (by omega)
  refine ⟨b, o, e, hb, fun j x hx => hc j x ?_⟩
  rw [List.getElem?_take] at hx; split at hx
  · exact hx
  · cases hx
theorem wcell_box (w : World) (cs : List Value) (e : TypeId) (j : Nat) (u : Value) (h : cs[j]? = some u) : (w.alloc (.cells cs.toArray e)).cell? ⟨w.heap.size, j, none⟩ = some u := by
  rw [cell_of_row _ _ _ cs.toArray e (0, 0) (heap_alloc_new w _)]; simpa using h
theorem idsGo_next {l : List Int} {k : Nat} {n : Int} (hx : l[k]? = some n) : idsGo (l.take k) (l.drop k) = (idB n && !(l.take k).contains n && idsGo (l.take (k + 1)) (l.drop (k + 1))) := by
  rw [drop_cons hx, take_succ hx]; rfl
theorem idsB_len {l : List Int} (h : idsB l = true) : l.length ≤ 999 := by
  unfold idsB at h; rw [Bool.and_eq_true, decide_eq_true_iff] at h; exact h.1
set_option maxHeartbeats 2000000 in
theorem l12Ids_c (xs : List Int) (A : Option Addr) (n c : Nat) (w : World) (h : SlAt RInt 1 w A n xs) (hl : n ≤ maxLen) (hc0 : n ≤ c) : Calls Try.prog 39 #[.slice A n c] w (Ret w (.bool (idsB xs))) := by
  have hl' := hl
  unfold maxLen at hl
  have HN := Lib.hid h.len
  have hM := Flat.mono encInt In64
  have HP := Lib.hid (fun (u : World) (e : Ext w u) (k : Nat) (hk : k ≤ n) (x : Int) => l02Has_c (xs.take k) x A k c u ((h.ext hM e).take hk) (by unfold maxLen; omega))
  go_enter Try.func39, Try.ntmps39
  go_wp2
  go_loopw [7] (fun i wr => ∃ k : Nat, k ≤ n ∧ i = .int .i64 k ∧ Ext w wr ∧ Hid (idsB xs = (decide (xs.length ≤ 999) && idsGo (xs.take k) (xs.drop k)))) (fun i _ => n - (intOf i).toNat)
  case atStart => exact ⟨0, Nat.zero_le _, rfl, Ext.refl _, Lib.hid rfl⟩
  case round =>
    obtain ⟨k, hk, rfl, hb, HE⟩ := hrel
    by_cases hlt : k < n
    · obtain ⟨b, o, x, cs, rfl, hbw, hx, _, hc, rfl, _⟩ := (h.ext hM hb).at_ hlt
      have c0 := hc 0 _ rfl
      simp only [Nat.mul_one, Nat.add_zero] at c0
      have HX := Lib.hid hx; have HB := Lib.hid hb
      have HG := Lib.hid (idsGo_next hx)
      have HC := Lib.hid (fun (u : World) (e : Ext wr u) => HP.out u (hb.trans e) k hk x)
      rcases Bool.eq_false_or_eq_true (idB x) with h1 | h1
      · rcases Bool.eq_false_or_eq_true ((xs.take k).contains x) with h2 | h2
        all_goals
          have H2 := Lib.hid h2
          have H1 := Lib.hid h1
          rw [h2] at HC
          clear hc hx hb h HP h2
          go_wp2_with (first | (go_at_call 56; (with_reducible refine (l12Id_c _ _).mono ?_); rintro e w1 ⟨rfl, rfl⟩; rw [h1]) | (go_at_call 40; (with_reducible refine (HC.out _ (Ext.refl _)).mono ?_); rintro e w2 ⟨rfl, hb2⟩))
        · exact ret_bool rfl rfl rfl (by rw [HE.out, HG.out, H1.out, H2.out]; simp) (HB.out.trans hb2)
        · go_roundw
          case rel => exact ⟨k + 1, by omega, by go_num, HB.out.trans hb2, Lib.hid (by rw [HE.out, HG.out, H1.out, H2.out]; simp)⟩
          case measure => simp [intOf]; omega
      · have H1 := Lib.hid h1
        clear hc hx hb h HP HC
        go_wp2_with (first | (go_at_call 56; (with_reducible refine (l12Id_c _ _).mono ?_); rintro e w1 ⟨rfl, rfl⟩; rw [h1]))
        exact ret_bool rfl rfl rfl (by rw [HE.out, HG.out, H1.out]; simp) HB.out
    · have HF := Lib.hid (show idsB xs = decide (n ≤ 999) by rw [HE.out, List.drop_eq_nil_of_le (by have := HN.out; omega), HN.out]; simp [idsGo])
      go_wp2
      refine ret_bool rfl rfl rfl ?_ hb
      rw [HF.out]
      rw [decide_eq_decide]; omega
theorem Waves1_run (vs : Array Value) (u : World) : Sem.run Try.prog (callFunc 37 vs) u = .ok (.enter 37 vs) u := by
  simp [go_sem]
set_option maxHeartbeats 1000000 in
theorem Waves1_c (d : Dep) (id : Int) (b p : Nat) (left : List Int) (A : Option Addr) (c : Nat) (w : World) (hb : b < w.heap.size) (hp : p < w.heap.size) (h0 : w.cell? ⟨b, 0, none⟩ = some (.int .i64 id)) (h1 : w.cell? ⟨p, 0, none⟩ = some (.slice A left.length c)) (h : SlAt RInt 1 w A left.length left) (hl : left.length ≤ maxLen) : Calls Try.prog 37 #[.agg #[.int .i64 d.Id, .int .i64 d.For], .pointer (some ⟨b, 0, none⟩), .pointer (some ⟨p, 0, none⟩)] w (Ret w (.bool (d.Id == id && left.contains d.For))) := by
  have HC := Lib.hid (fun (u : World) (e : Ext w u) => Contains_c left d.For A left.length c u (h.ext (Flat.mono _ _) e) hl)
  have hb2 : b < w.heap.size + 1 := by omega
  have hp2 : p < w.heap.size + 1 := by omega
  clear h
  go_enter Try.func37, Try.ntmps37
  rcases Bool.eq_false_or_eq_true (d.Id == id) with h3 | h3
  · rcases Bool.eq_false_or_eq_true (left.contains d.For) with h4 | h4
    all_goals
      rw [h4] at HC
      have H3 := Lib.hid h3
      have H4 := Lib.hid h4
      clear h4
      go_wp2_with fail
      refine (HC.out _ ((Ext.refl _).alloc _)).mono ?_
      rintro e w1 ⟨rfl, hb1⟩
      go_wp2
      exact ret_bool rfl rfl rfl (by rw [H3.out, H4.out]; rfl) (((Ext.refl _).alloc _).trans hb1)
  · have H3 := Lib.hid h3
    go_wp2
    exact ret_bool rfl rfl rfl (by rw [H3.out]; rfl) ((Ext.refl _).alloc _)
end Go.Proofs.Ytgnbjnlcikpknaa
