/- Contracts over profiles: the reference's times. -/
import Derived.Test.YtbfambeoboiifaaOver4
namespace Go.Proofs.Ytbfambeoboiifaa
open Go.RowKit
set_option linter.unusedVariables false
theorem OInt.one (y : Int) : ∀ u ∈ encInt y, u.oneCell' = true := by
  intro u hu; simp [encInt] at hu; subst hu; rfl
theorem OInt.info : (Try.prog.info? 3).map (fun i => (i.zero, i.size, i.bytes)) = some (some (.int .i64 0), 1, 8) := by kernel_rfl
def tl (l : List Pt) (fr to : Int) : Nat → List Int
  | 0 => l.map Pt.At
  | 1 => insGo fr false (l.map Pt.At)
  | _ => timesL l fr to
theorem tl_len (l : List Pt) (fr to : Int) (k : Nat) : (tl l fr to k).length ≤ l.length + 2 := by
  match k with
  | 0 => simp [tl]
  | 1 => have := insGo_len fr (l.map Pt.At) false; rw [List.length_map] at this; simp only [tl]; omega
  | k + 2 => exact timesL_len l fr to
theorem int_ok {l : List Pt} (h : ∀ x ∈ l, x.ok) {fr to : Int} (hf : In64 fr) (ht : In64 to) (k : Nat) : ∀ y ∈ tl l fr to k, In64 y := by
  have h0 : ∀ y ∈ l.map Pt.At, In64 y := fun y hy => by obtain ⟨x, hx, rfl⟩ := List.mem_map.1 hy; exact (h x hx).1
  have h1 : ∀ y ∈ insGo fr false (l.map Pt.At), In64 y := fun y hy => by
    rcases (insGo_mem fr _ y).1 hy with rfl | hy
    · exact hf
    · exact h0 y hy
  match k with
  | 0 => exact h0
  | 1 => exact h1
  | k + 2 =>
    intro y hy
    rcases (insGo_mem to _ y).1 hy with rfl | hy
    · exact ht
    · exact h1 y hy
theorem ins_a {t x : Int} {r acc L : List Int} (h : acc ++ insGo t false (x :: r) = L) (h1 : t ≤ x) (h2 : x = t) : (acc ++ [t]) ++ insGo t true r = L := by
  rw [← h, insGo, if_pos ⟨rfl, h1⟩, if_pos h2, show (false || decide (t ≤ x)) = true by simpa using h1]; simp
theorem ins_b {t x : Int} {r acc L : List Int} (h : acc ++ insGo t false (x :: r) = L) (h1 : t ≤ x) (h2 : x ≠ t) : ((acc ++ [t]) ++ [x]) ++ insGo t true r = L := by
  rw [← h, insGo, if_pos ⟨rfl, h1⟩, if_neg h2, show (false || decide (t ≤ x)) = true by simpa using h1]; simp
theorem ins_c {t x : Int} {r acc L : List Int} (h : acc ++ insGo t false (x :: r) = L) (h1 : ¬ t ≤ x) : (acc ++ [x]) ++ insGo t false r = L := by
  rw [← h, insGo, if_neg (by simp; omega), if_neg (by omega), show (false || decide (t ≤ x)) = false by simpa using h1]; simp
theorem ins_d {t x : Int} {r acc L : List Int} (h : acc ++ insGo t true (x :: r) = L) (h2 : x = t) : acc ++ insGo t true r = L := by
  rw [← h, insGo, if_neg (by simp), if_pos h2, Bool.true_or]; simp
theorem ins_e {t x : Int} {r acc L : List Int} (h : acc ++ insGo t true (x :: r) = L) (h2 : x ≠ t) : (acc ++ [x]) ++ insGo t true r = L := by
  rw [← h, insGo, if_neg (by simp), if_neg h2, Bool.true_or]; simp
/-- A call hands back a slice in new memory that reads as xs. -/
def RetLo {α : Type} (R : Rel α) (sz : Nat) (w : World) (xs : List α) : Ending → World → Prop :=
  fun en w' => ∃ A c, en = .returned (.slice A xs.length c) ∧ SlAt R sz w' A xs.length xs ∧ (∀ k, (Value.slice A xs.length c).ownBlock = some k → w.heap.size ≤ k) ∧ Ext w w'
theorem own_lo {w : World} {base b' : Nat} {e : TypeId} {sz n m c : Nat} {A : Option Addr} {L : List Value} (h : w.ownsRow base e sz (.slice A n c) n L) (hb : b' ≤ base) : ∀ k, (Value.slice A m c).ownBlock = some k → b' ≤ k := by
  intro k hk
  cases A with
  | none => cases hk
  | some a => exact Nat.le_trans hb (h.lt k hk).1
theorem times_sl0 {w : World} {base : Nat} {A : Option Addr} {c : Nat} {acc L : List Int} (h : w.ownsRow base 3 1 (.slice A acc.length c) acc.length (acc.flatMap encInt)) (e : acc = L) (hok : ∀ y ∈ L, In64 y) : SlAt RInt 1 w A acc.length L := by
  subst e
  exact (OwnAt.flat (enc := encInt) (ok := In64) (fun _ => rfl) hok h).slAt
theorem times_sl {w : World} {base : Nat} {A : Option Addr} {c : Nat} {acc L : List Int} {t : Int} (h : w.ownsRow base 3 1 (.slice A (acc.length + 1) c) (acc.length + 1) (acc.flatMap encInt ++ encInt t)) (e : acc ++ [t] = L) (hok : ∀ y ∈ L, In64 y) : SlAt RInt 1 w A (acc.length + 1) L := by
  have e1 : (acc ++ [t]).length = acc.length + 1 := by simp
  have := times_sl0 (acc := acc ++ [t]) (by rw [e1, List.flatMap_append]; simpa using h) e hok
  rw [e1] at this; exact this
set_option maxHeartbeats 4000000 in
set_option maxRecDepth 10000 in
theorem l03Times_c (xs : List Pt) (fr to : Int) (A : Option Addr) (n c : Nat) (w : World) (h : SlAt RPt 4 w A n xs) (hl : n ≤ 200) (hf : In64 fr) (ht : In64 to) : Calls Try.prog 80 #[.agg #[.slice A n c], .int .i64 fr, .int .i64 to] w (RetLo RInt 1 w (timesL xs fr to)) := by
  obtain ⟨i0, hi, hI0, hI1, hI2⟩ := info_parts OInt.info
  have HN := Lib.hid h.len
  have HM := Lib.hid (Flat.mono Pt.enc Pt.ok)
  have HOK := Lib.hid (fun k => int_ok h.all hf ht k)
  have HTL := Lib.hid (tl_len xs fr to)
  go_enter Try.func80, Try.ntmps80
  go_wp2
  go_loopw [7, 20] (fun v i wr => ∃ (k : Nat) (A1 : Option Addr) (c1 : Nat), k ≤ n ∧ i = .int .i64 k ∧ v = .slice A1 k c1 ∧ wr.ownsRow (w.heap.size + 1) 3 1 (.slice A1 k c1) k (((xs.take k).map Pt.At).flatMap encInt) ∧ Ext (w.alloc (.cells #[.slice A n c] 40)) wr ∧ w.heap.size + 1 ≤ wr.heap.size) (fun _ i _ => n - (intOf i).toNat)
  case atStart => exact ⟨0, _, 0, Nat.zero_le _, rfl, rfl, by simpa using owns_empty (w.alloc (.cells #[.slice A n c] 40)) 3 1, (by repeat (first | exact Ext.refl _ | assumption | apply Ext.alloc | apply Ext.drewN | apply Ext.drew | (refine Ext.setCell ?_ (by first | (simp; done) | (simp; omega) | omega) _) | (refine Ext.trans ?_ (by assumption)))), by simp⟩
  case round =>
    obtain ⟨k, A1, c1, hk, rfl, rfl, ho, hbr, hzr⟩ := hrel
    have hb : Ext w wr := ((Ext.refl w).alloc _).trans hbr
    by_cases hlt : k < n
    · obtain ⟨b, o, x, cs, rfl, hbw, hx, _, hc, rfl, _⟩ := (h.ext HM.out hb).at_ hlt
      have g0 := hc 0 _ rfl
      have g1 := hc 1 _ rfl
      have g2 := hc 2 _ rfl
      have g3 := hc 3 _ rfl
      simp only [Nat.add_zero] at g0
      have HX := Lib.hid hx
      have HO := Lib.hid (ho.alloc (.cells #[.int .i64 x.At, .int .i64 x.Free.A, .int .i64 x.Free.B, .int .i64 x.Free.C] 93))
      clear hc hx h ho
      go_wp2_with (at_builtin; go_must (refine wpList_append_one (w0 := (w.alloc (.cells #[.slice (some ⟨b, o, none⟩) n c] 40))) (.tmp 24) (.tmp 27) _ (w.heap.size + 1) 3 i0 _ 1 8 (.slice A1 k c1) k _ (encInt x.At) rfl rfl Try.underlying34 hi hI0 hI1 hI2 rfl (by omega) rfl (HO.out) _ rfl (by first | rfl | simp) rfl (OInt.one _) (by unfold maxLen; omega) (by omega) (hbr.alloc _) (by simp) (by simp; omega) ?_); intro A4 c4 w4 ho4 hb4 hs4)
      have HO4 := Lib.hid ho4
      clear ho4
      go_wp2
      go_roundw
      case rel => exact ⟨k + 1, A4, c4, by omega, by go_num, by simp, by rw [take_succ HX.out]; simpa using HO4.out, hb4, by simp at hs4; omega⟩
      case measure => simp [intOf]; omega
    · have HS0 := Lib.hid (show SlAt RInt 1 wr A1 n (xs.map Pt.At) from by
        have hkn : k = n := by omega
        subst hkn
        rw [List.take_of_length_le (Nat.le_of_eq HN.out)] at ho
        have e : (xs.map Pt.At).length = k := by rw [List.length_map, HN.out]
        have ho' : wr.ownsRow (w.heap.size + 1) 3 1 (.slice A1 (xs.map Pt.At).length c1) (xs.map Pt.At).length ((xs.map Pt.At).flatMap encInt) := by rw [e]; exact ho
        have := (OwnAt.flat (enc := encInt) (ok := In64) (fun _ => rfl) (HOK.out 0) ho').slAt
        rw [e] at this; exact this)
      have HKN := Lib.hid (show k = n by omega)
      obtain ⟨wl, rfl⟩ : ∃ wl : World, wl = wr := ⟨_, rfl⟩
      have HLO0 := Lib.hid (own_lo (m := n) (b' := w.heap.size) ho (by omega))
      clear h ho
      go_wp2
      go_loopw [7, 34] (fun v i wr => ∃ (q m : Nat) (A2 : Option Addr) (c2 : Nat), q ≤ 2 ∧ i = .int .i64 q ∧ v = .slice A2 m c2 ∧ m ≤ 202 ∧ Hid (SlAt RInt 1 wr A2 m (tl xs fr to q)) ∧ Hid (∀ k, (Value.slice A2 m c2).ownBlock = some k → w.heap.size ≤ k) ∧ Ext (wl.alloc (.cells #[.int .i64 fr, .int .i64 to] 3)) wr) (fun _ i _ => 2 - (intOf i).toNat)
      case atStart => exact ⟨0, n, A1, c1, by omega, rfl, by rw [HKN.out], by omega, Lib.hid (HS0.out.ext (Flat.mono _ _) ((Ext.refl _).alloc _)), HLO0, Ext.refl _⟩
      case round =>
        obtain ⟨q, m, A2, c2, hq, rfl, rfl, hm, HSL, HLO, hbq⟩ := hrel
        obtain ⟨wo, rfl⟩ : ∃ wo : World, wo = wr := ⟨_, rfl⟩
        by_cases hq2 : q < 2
        · obtain ⟨t, hcell, HT, hti⟩ : ∃ t, wo.cell? ⟨wl.heap.size, q, none⟩ = some (.int .i64 t) ∧ Hid (tl xs fr to (q + 1) = insGo t false (tl xs fr to q)) ∧ In64 t := by
            have : q = 0 ∨ q = 1 := by omega
            rcases this with rfl | rfl
            · exact ⟨fr, hbq.cell (cell_box wl [.int .i64 fr, .int .i64 to] 3 0 _ rfl), Lib.hid rfl, hf⟩
            · exact ⟨to, hbq.cell (cell_box wl [.int .i64 fr, .int .i64 to] 3 1 _ rfl), Lib.hid rfl, ht⟩
          have HQL := Lib.hid (show (tl xs fr to (q + 1)).length ≤ 202 from Nat.le_trans (HTL.out _) (by rw [HN.out]; omega))
          have HQO := Lib.hid (HOK.out (q + 1))
          have hlo : wl.heap.size < wo.heap.size := by have := hbq.le; simp at this; omega
          rw [HT.out] at HQL HQO
          generalize tl xs fr to q = ys at *
          have HYL := Lib.hid HSL.out.len
          have hq3 : decide ((q : Int) < 2) = true := by rw [decide_eq_true_iff]; omega
          go_wp2
          go_loopw [12, 13, 41] (fun v d i wi => ∃ (j : Nat) (A3 : Option Addr) (c3 : Nat) (acc : List Int) (db : Bool), j ≤ m ∧ i = .int .i64 j ∧ d = .bool db ∧ v = .slice A3 acc.length c3 ∧ acc.length ≤ 2 * j ∧ wi.ownsRow wo.heap.size 3 1 (.slice A3 acc.length c3) acc.length (acc.flatMap encInt) ∧ Ext wo wi ∧ Hid (acc ++ insGo t db (ys.drop j) = insGo t false ys) ∧ wo.heap.size + 1 ≤ wi.heap.size) (fun _ _ i _ => m - (intOf i).toNat)
          case atStart => exact ⟨0, _, 0, [], false, by omega, rfl, rfl, rfl, by simp, by simpa using owns_empty wo 3 1, (Ext.refl _).alloc _, Lib.hid rfl, by simp⟩
          case round =>
            obtain ⟨j, A3, c3, acc, db, hj, rfl, rfl, rfl, hac, ho3, hbi, HACC, hzi⟩ := hrel
            by_cases hjm : j < m
            · obtain ⟨b, o, x, cs, rfl, hbw, hx, _, hc, rfl, hxo⟩ := (HSL.out.ext (Flat.mono _ _) hbi).at_ hjm
              have g0 := hc 0 _ rfl
              simp only [Nat.mul_one, Nat.add_zero] at g0
              have HO3 := Lib.hid ho3
              have hacc := HACC.out
              rw [drop_cons hx] at hacc
              have HAC := Lib.hid hacc
              clear hc hx hxo ho3 hacc hcell
              cases db
              · rcases (Bool.eq_false_or_eq_true (decide (t ≤ x))) with h1 | h1
                · have H1 := Lib.hid (of_decide_eq_true h1)
                  rcases (Bool.eq_false_or_eq_true (x != t)).symm with h2 | h2
                  · have H2 := Lib.hid (show x = t by simpa using h2)
                    go_wp2_with (at_builtin; go_must (refine wpList_append_one (w0 := wo) (.tmp 52) (.tmp 54) _ wo.heap.size 3 i0 _ 1 8 _ acc.length _ (encInt t) rfl rfl Try.underlying34 hi hI0 hI1 hI2 rfl (by omega) rfl (HO3.out) _ rfl (by first | rfl | simp) rfl (OInt.one _) (by unfold maxLen; omega) (by omega) hbi (Nat.le_refl _) (by omega) ?_); intro A5 c5 w5 ho5 hb5 hs5)
                    go_wp2
                    go_roundw
                    case rel => exact ⟨j + 1, A5, c5, acc ++ [t], true, by omega, by go_num, rfl, by simp, (by first | omega | (simp; omega)), by simpa using ho5, hb5, Lib.hid (ins_a HAC.out H1.out H2.out), by omega⟩
                    case measure => simp [intOf]; omega
                  · have H2 := Lib.hid (show x ≠ t by simpa using h2)
                    go_wp2_with (first | (at_builtin; refine wpList_append_one (w0 := wo) (.tmp 52) (.tmp 54) _ wo.heap.size 3 i0 _ 1 8 _ acc.length _ (encInt t) rfl rfl Try.underlying34 hi hI0 hI1 hI2 rfl (by omega) rfl (HO3.out) _ rfl (by first | rfl | simp) rfl (OInt.one _) (by unfold maxLen; omega) (by omega) hbi (Nat.le_refl _) (by omega) ?_; intro A5 c5 w5 ho5 hb5 hs5) | (at_builtin; refine wpList_append_one (w0 := wo) (.tmp 59) (.tmp 61) _ wo.heap.size 3 i0 _ 1 8 _ (acc.length + 1) _ (encInt x) rfl rfl Try.underlying34 hi hI0 hI1 hI2 rfl (by omega) rfl (ho5) _ rfl (by first | rfl | simp) rfl (OInt.one _) (by unfold maxLen; omega) (by omega) hb5 (Nat.le_refl _) (by omega) ?_; intro A6 c6 w6 ho6 hb6 hs6))
                    go_wp2
                    go_roundw
                    case rel => exact ⟨j + 1, A6, c6, (acc ++ [t]) ++ [x], true, by omega, by go_num, rfl, by simp, (by first | omega | (simp; omega)), by simpa using ho6, hb6, Lib.hid (ins_b HAC.out H1.out H2.out), by omega⟩
                    case measure => simp [intOf]; omega
                · have H1 := Lib.hid (of_decide_eq_false h1)
                  have h2 : (x != t) = true := by have := H1.out; simp; omega
                  go_wp2_with (at_builtin; go_must (refine wpList_append_one (w0 := wo) (.tmp 59) (.tmp 61) _ wo.heap.size 3 i0 _ 1 8 _ acc.length _ (encInt x) rfl rfl Try.underlying34 hi hI0 hI1 hI2 rfl (by omega) rfl (HO3.out) _ rfl (by first | rfl | simp) rfl (OInt.one _) (by unfold maxLen; omega) (by omega) hbi (Nat.le_refl _) (by omega) ?_); intro A5 c5 w5 ho5 hb5 hs5)
                  go_wp2
                  go_roundw
                  case rel => exact ⟨j + 1, A5, c5, acc ++ [x], false, by omega, by go_num, rfl, by simp, (by first | omega | (simp; omega)), by simpa using ho5, hb5, Lib.hid (ins_c HAC.out H1.out), by omega⟩
                  case measure => simp [intOf]; omega
              · rcases (Bool.eq_false_or_eq_true (x != t)).symm with h2 | h2
                · have H2 := Lib.hid (show x = t by simpa using h2)
                  go_wp2
                  go_roundw
                  case rel => exact ⟨j + 1, A3, c3, acc, true, by omega, by go_num, rfl, by simp, (by first | omega | (simp; omega)), by simpa using HO3.out, hbi, Lib.hid (ins_d HAC.out H2.out), by omega⟩
                  case measure => simp [intOf]; omega
                · have H2 := Lib.hid (show x ≠ t by simpa using h2)
                  go_wp2_with (at_builtin; go_must (refine wpList_append_one (w0 := wo) (.tmp 59) (.tmp 61) _ wo.heap.size 3 i0 _ 1 8 _ acc.length _ (encInt x) rfl rfl Try.underlying34 hi hI0 hI1 hI2 rfl (by omega) rfl (HO3.out) _ rfl (by first | rfl | simp) rfl (OInt.one _) (by unfold maxLen; omega) (by omega) hbi (Nat.le_refl _) (by omega) ?_); intro A5 c5 w5 ho5 hb5 hs5)
                  go_wp2
                  go_roundw
                  case rel => exact ⟨j + 1, A5, c5, acc ++ [x], true, by omega, by go_num, rfl, by simp, (by first | omega | (simp; omega)), by simpa using ho5, hb5, Lib.hid (ins_e HAC.out H2.out), by omega⟩
                  case measure => simp [intOf]; omega
            · have HEND := Lib.hid (show acc ++ (if db = true then [] else [t]) = insGo t false ys by rw [← HACC.out, List.drop_eq_nil_of_le (by have := HYL.out; omega)]; rfl)
              have HO3 := Lib.hid ho3
              clear ho3 HACC hcell
              cases db
              · have HE2 := Lib.hid (show acc ++ [t] = insGo t false ys from HEND.out)
                go_wp2_with (at_builtin; go_must (refine wpList_append_one (w0 := wo) (.tmp 66) (.tmp 68) _ wo.heap.size 3 i0 _ 1 8 _ acc.length _ (encInt t) rfl rfl Try.underlying34 hi hI0 hI1 hI2 rfl (by omega) rfl (HO3.out) _ rfl (by first | rfl | simp) rfl (OInt.one _) (by unfold maxLen; omega) (by omega) hbi (Nat.le_refl _) (by omega) ?_); intro A5 c5 w5 ho5 hb5 hs5)
                have HSL5 := Lib.hid (times_sl (ho5) HE2.out HQO.out)
                have HLO5 := Lib.hid (own_lo (m := acc.length + 1) (b' := w.heap.size) ho5 (by have := hb.le; have := hbq.le; simp at *; omega))
                clear ho5
                go_wp2
                go_roundw
                case rel => exact ⟨q + 1, acc.length + 1, A5, c5, by omega, by go_num, rfl, by have := HQL.out; rw [← HE2.out] at this; simpa using this, Lib.hid (by rw [HT.out]; exact HSL5.out), HLO5, hbq.trans hb5⟩
                case measure => simp [intOf]; omega
              · have HE2 := Lib.hid (show acc = insGo t false ys by have := HEND.out; simpa using this)
                have HSL5 := Lib.hid (times_sl0 HO3.out HE2.out HQO.out)
                have HLO5 := Lib.hid (own_lo (m := acc.length) (b' := w.heap.size) HO3.out (by have := hb.le; have := hbq.le; simp at *; omega))
                go_wp2
                go_roundw
                case rel => exact ⟨q + 1, acc.length, A3, c3, by omega, by go_num, rfl, by have := HQL.out; rw [← HE2.out] at this; exact this, Lib.hid (by rw [HT.out]; exact HSL5.out), HLO5, hbq.trans hbi⟩
                case measure => simp [intOf]; omega
        · have HQ2 := Lib.hid (show tl xs fr to q = timesL xs fr to by rw [show q = 2 by omega]; rfl)
          have HSF := Lib.hid (show SlAt RInt 1 wo A2 m (timesL xs fr to) by rw [← HQ2.out]; exact HSL.out)
          have HLF := Lib.hid HSF.out.len
          generalize timesL xs fr to = zs at *
          go_wp2
          refine bodyPost_ret (results_tmp rfl _ _ _) rfl ⟨A2, c2, by rw [HLF.out]; rfl, by rw [HLF.out]; exact HSF.out, by rw [HLF.out]; exact HLO.out, hb.trans (((Ext.refl _).alloc _).trans hbq)⟩
end Go.Proofs.Ytbfambeoboiifaa
