/- Contracts: all numbers of spans. -/
import Derived.Test.YtlaoflpgngfbpaaSpan3
import Derived.Test.YtlaoflpgngfbpaaAppend
namespace Go.Proofs.Ytlaoflpgngfbpaa
open Go.RowKit
set_option linter.unusedVariables false
def allIds (l : List Span) : List Int := l.flatMap idsX
def specIdsL (l : List Span) (m : Int) : List Int := if specB l m = true then allIds l else []
theorem specB_all {l : List Span} {m : Int} (h : specB l m = true) : (∀ x ∈ l, spanOkB x = true) ∧ l.length ≤ 8 ∧ sumC l ≤ 60 ∧ 0 ≤ m ∧ m ≤ 60 := by
  unfold specB at h
  rw [Bool.and_eq_true, Bool.and_eq_true, Bool.and_eq_true, decide_eq_true_iff] at h
  obtain ⟨⟨⟨h1, h2⟩, h3⟩, h4⟩ := h
  unfold withinB at h1 h2
  rw [decide_eq_true_iff] at h1 h2
  exact ⟨chain_all l none h3, by omega, h4, h2.1, h2.2⟩
theorem allIds_len : ∀ l : List Span, (∀ x ∈ l, spanOkB x = true) → ((allIds l).length : Int) = sumC l := by
  intro l
  induction l with
  | nil => intro _; rfl
  | cons a r ih =>
    intro h
    have h1 := ih (fun y hy => h y (List.mem_cons_of_mem _ hy))
    have h2 := cnt_range (h a (List.mem_cons_self ..))
    have h3 : ((idsX a).length : Int) = cntI a := by rw [idsX_len]; unfold cntN; omega
    unfold allIds sumC at *
    rw [List.flatMap_cons, List.length_append, List.map_cons, List.sum_cons]
    omega
theorem specIds_60 (l : List Span) (m : Int) : (specIdsL l m).length ≤ 60 := by
  unfold specIdsL; split
  · rename_i h
    obtain ⟨h1, _, h2, _⟩ := specB_all h
    have := allIds_len l h1; omega
  · simp
theorem specIdsL_len (l : List Span) (m : Int) : (specIdsL l m).length ≤ 60 := specIds_60 l m
theorem allIds_succ {l : List Span} {k : Nat} {x : Span} (hx : l[k]? = some x) : allIds (l.take (k + 1)) = allIds (l.take k) ++ idsX x := by
  unfold allIds; rw [take_succ hx]; simp
theorem sumC_take {l : List Span} (h : ∀ x ∈ l, spanOkB x = true) (k : Nat) : 0 ≤ sumC (l.take k) ∧ sumC (l.take k) ≤ sumC l := by
  have h0 : ∀ r : List Span, (∀ x ∈ r, spanOkB x = true) → 0 ≤ sumC r := by
    intro r hr; have := allIds_len r hr; omega
  have e : sumC l = sumC (l.take k) + sumC (l.drop k) := by
    have : sumC (l.take k ++ l.drop k) = sumC (l.take k) + sumC (l.drop k) := by unfold sumC; rw [List.map_append, List.sum_append]
    rw [List.take_append_drop] at this; exact this
  have h1 := h0 (l.take k) (fun x hx => h x (List.mem_of_mem_take hx))
  have h2 := h0 (l.drop k) (fun x hx => h x (List.mem_of_mem_drop hx))
  omega
theorem allIds_in {l : List Span} (h : ∀ x ∈ l, spanOkB x = true) : ∀ y ∈ allIds l, In64 y := by
  intro y hy
  unfold allIds at hy
  obtain ⟨x, hx, hy⟩ := List.mem_flatMap.1 hy
  have := ids_in (h x hx) y hy
  unfold In64; omega
theorem specIds_in (l : List Span) (m : Int) : ∀ y ∈ specIdsL l m, In64 y := by
  unfold specIdsL; split
  · rename_i h; exact allIds_in (specB_all h).1
  · intro y hy; cases hy
set_option maxHeartbeats 8000000 in
set_option maxRecDepth 10000 in
theorem SpecIds_c (xs : List Span) (m : Int) (A : Option Addr) (n c : Nat) (w : World) (h : SlAt RSpan 3 w A n xs) (hl : n ≤ maxLen) : Calls Try.prog 8 #[.agg #[.slice A n c, .int .i64 m]] w (RetOwn RInt 3 1 w (specIdsL xs m)) := by
  have hl' := hl
  unfold maxLen at hl
  have HN := Lib.hid h.len
  have HM := Lib.hid (Flat.mono Span.enc Span.ok)
  obtain ⟨i0, hi, hz0, hz1, hz2⟩ := info_parts Int.info
  have hA := Lib.hid (fun (u : World) (e : Ext w u) => SpecOk_c xs m A n c u (h.ext HM.out e) hl')
  rcases (Bool.eq_false_or_eq_true (specB xs m)).symm with hB | hB
  all_goals rw [hB] at hA
  · rw [specIdsL, if_neg (by rw [hB]; simp)]
    go_enter Try.func8, Try.ntmps8
    go_wp2_with fail
    refine (hA.out _ (by repeat (first | exact Ext.refl _ | assumption | apply Ext.alloc | apply Ext.drewN | apply Ext.drew | (refine Ext.setCell ?_ (by first | (simp; done) | (simp; omega) | omega) _) | (refine Ext.trans ?_ (by assumption))))).mono ?_
    rintro e w1 ⟨rfl, hb1⟩
    go_wp2
    exact ret_own2 (ys := []) rfl (World.ownsRow_nil _ _ _ _) rfl encInt_size (fun y hy => by cases hy) (by repeat (first | exact Ext.refl _ | assumption | apply Ext.alloc | apply Ext.drewN | apply Ext.drew | (refine Ext.setCell ?_ (by first | (simp; done) | (simp; omega) | omega) _) | (refine Ext.trans ?_ (by assumption))))
  rw [specIdsL, if_pos hB]
  obtain ⟨hall, hn8, h60, m0, m1⟩ := specB_all hB
  have HALL := Lib.hid hall
  have h60' := h60
  have HTK := Lib.hid (fun k => sumC_take hall k)
  have HLN := Lib.hid (fun k => allIds_len (xs.take k) (fun x hx => hall x (List.mem_of_mem_take hx)))
  rw [HN.out] at hn8
  clear hall hB
  go_enter Try.func8, Try.ntmps8
  go_wp2_with fail
  refine (hA.out _ (by repeat (first | exact Ext.refl _ | assumption | apply Ext.alloc | apply Ext.drewN | apply Ext.drew | (refine Ext.setCell ?_ (by first | (simp; done) | (simp; omega) | omega) _) | (refine Ext.trans ?_ (by assumption))))).mono ?_
  rintro e w1 ⟨rfl, hb1⟩
  have hyw : w.heap.size < w1.heap.size := by have := hb1.le; simp at this; omega
  have kb0 := hb1.cell (cell_box w [.slice A n c, .int .i64 m] 25 0 _ rfl)
  go_wp2
  go_loopw [3, 14] (fun v i wr => ∃ (k : Nat) (A1 : Option Addr) (c1 : Nat) (acc : List Int), k ≤ n ∧ i = .int .i64 k ∧ v = .slice A1 acc.length c1 ∧ wr.ownsRow w1.heap.size 3 1 (.slice A1 acc.length c1) acc.length (acc.flatMap encInt) ∧ Ext w1 wr ∧ Hid (acc = allIds (xs.take k))) (fun _ i _ => n - (intOf i).toNat)
  case atStart => exact ⟨0, _, 0, [], Nat.zero_le _, rfl, rfl, by simpa using owns_empty w1 3 1, (Ext.refl _).alloc _, Lib.hid rfl⟩
  case round =>
    obtain ⟨k, A1, c1, acc, hk, rfl, rfl, ho, hb, HACC⟩ := hrel
    have eW : Ext w wr := ((Ext.refl w).alloc _).trans (hb1.trans hb)
    obtain ⟨wo, rfl⟩ : ∃ wo, wo = wr := ⟨_, rfl⟩
    have hlk := HLN.out k
    rw [← HACC.out] at hlk
    by_cases hlt : k < n
    · obtain ⟨b, o, x, cs, rfl, hbw, hx, _, hc, rfl, _⟩ := (h.ext HM.out eW).at_ hlt
      have g0 := hc 0 _ rfl
      have g1 := hc 1 _ rfl
      have g2 := hc 2 _ rfl
      simp only [Nat.add_zero] at g0
      have HX := Lib.hid hx
      have hxo := HALL.out x (List.mem_of_getElem? hx)
      have HXO := Lib.hid hxo
      have HS := Lib.hid (allIds_succ hx)
      have hs1 := HTK.out (k + 1)
      have hs2 := sumC_succ hx
      have hcx := cnt_range hxo
      obtain ⟨⟨a1, a2⟩, ⟨a3, a4⟩, ⟨a5, a6⟩, _⟩ := spanOk_iff.1 hxo
      have HCN := Lib.hid (show ((cntN x : Nat) : Int) = cntI x by unfold cntN; omega)
      have hac : (acc.length : Int) + cntN x ≤ 60 := by have := HCN.out; omega
      have HST := Lib.hid (fun j => step_le hxo j)
      clear hc hx h hs1 hs2 hcx hxo hlk
      go_wp2
      go_loopw [3, 6] (fun v i wr => ∃ (j : Nat) (p : Int) (A2 : Option Addr) (c2 : Nat), i = .int .i64 p ∧ v = .slice A2 (acc.length + j) c2 ∧ 1 ≤ p ∧ p ≤ 1998 ∧ j ≤ cntN x ∧ Hid (p = x.Lo + j * x.Step) ∧ wr.ownsRow w1.heap.size 3 1 (.slice A2 (acc.length + j) c2) (acc.length + j) ((acc ++ upto x j).flatMap encInt) ∧ Ext w1 wr ∧ Hid (wr.heap[wo.heap.size]? = some (.cells #[.int .i64 x.Lo, .int .i64 x.Hi, .int .i64 x.Step] 46))) (fun v i _ => (2000 - intOf i).toNat)
      case atStart => exact ⟨0, x.Lo, A1, c1, rfl, rfl, by omega, by omega, Nat.zero_le _, Lib.hid (by simp), by simpa [upto] using ho.alloc (.cells #[.int .i64 x.Lo, .int .i64 x.Hi, .int .i64 x.Step] 46), hb.alloc _, Lib.hid (heap_alloc_new wo _)⟩
      case round =>
        obtain ⟨j, p, A2, c2, rfl, rfl, p1, p2, hj, HP, ho2, hb2, HBX⟩ := hrel
        clear ho
        have x1 := cell_block (cs := [.int .i64 x.Lo, .int .i64 x.Hi, .int .i64 x.Step]) HBX.out 1 _ rfl
        have x2 := cell_block (cs := [.int .i64 x.Lo, .int .i64 x.Hi, .int .i64 x.Step]) HBX.out 2 _ rfl
        have hw1 : wo.heap.size < wr.heap.size := lt_of_cell x1
        by_cases hle : p ≤ x.Hi
        · have hjn : j < cntN x := (HST.out j).1 (by rw [← HP.out]; exact hle)
          have HO := Lib.hid ho2
          have hzz : w1.heap.size ≤ wr.heap.size := hb2.le
          clear ho2
          go_wp2_with (at_builtin; go_must (refine wpList_append_one_k (w0 := w1) (.tmp 28) (.tmp 30) _ w1.heap.size 3 i0 _ 1 8 (.slice A2 (acc.length + j) c2) (acc.length + j) _ (encInt p) rfl rfl Try.underlying31 hi hz0 hz1 hz2 rfl (by omega) rfl (HO.out) _ rfl (by simp) rfl (Int.one _) (by unfold maxLen; omega) (by omega) hb2 (Nat.le_refl _) (by omega) ?_); intro A3 c3 w3 ho3 hb3 hs3 hkp; have hbx := hkp _ _ _ (by decide) HBX.out; have y2 := cell_block (cs := [.int .i64 x.Lo, .int .i64 x.Hi, .int .i64 x.Step]) hbx 2 _ rfl; have HB3 := Lib.hid hbx; clear hbx hkp x1 x2)
          have HO3 := Lib.hid ho3
          clear ho3 hi hz0 hz1 hz2
          go_wp2
          go_roundw
          case rel => exact ⟨j + 1, p + x.Step, A3, c3, rfl, by rw [Nat.add_assoc], by omega, by omega, by omega, Lib.hid (by rw [HP.out, step_next]), by rw [upto_succ, ← HP.out, ← List.append_assoc, List.flatMap_append, show acc.length + (j + 1) = acc.length + j + 1 by omega]; simpa using HO3.out, hb3, Lib.hid HB3.out⟩
          case measure => simp [intOf]; omega
        · have hjn : j = cntN x := by
            have : ¬ j < cntN x := fun h => hle (by rw [HP.out]; exact (HST.out j).2 h)
            omega
          have HF := Lib.hid (show acc ++ idsX x = allIds (xs.take (k + 1)) by rw [HS.out, HACC.out])
          have HO := Lib.hid (show wr.ownsRow w1.heap.size 3 1 (.slice A2 (acc ++ idsX x).length c2) (acc ++ idsX x).length ((acc ++ idsX x).flatMap encInt) by
            have e : upto x j = idsX x := by rw [hjn]; rfl
            rw [e] at ho2; rw [List.length_append, idsX_len, ← hjn]; exact ho2)
          have HL := Lib.hid (show (acc ++ idsX x).length = acc.length + j by rw [List.length_append, idsX_len, ← hjn])
          clear ho2 hjn
          go_wp2
          go_roundw
          case rel => exact ⟨k + 1, A2, c2, acc ++ idsX x, by omega, by go_num, by rw [HL.out], HO.out, hb2, Lib.hid HF.out⟩
          case measure => simp [intOf]; omega
    · have HF := Lib.hid (show acc = allIds xs by rw [HACC.out, List.take_of_length_le (by have := HN.out; omega)])
      have HO := Lib.hid ho
      have HIN := Lib.hid (allIds_in HALL.out)
      clear ho HACC h
      go_wp2
      rw [← HF.out]
      exact ret_own2 rfl (owns_base HO.out (by have := hb1.le; simp at this; omega)) rfl encInt_size (fun y hy => HIN.out y (HF.out ▸ hy)) eW
end Go.Proofs.Ytlaoflpgngfbpaa
