/- Contracts: what is reached; whether dependencies go round, the other way. -/
import Derived.Test.YtgnbjnlcikpknaaRound2
namespace Go.Proofs.Ytgnbjnlcikpknaa
open Go.RowKit
set_option linter.unusedVariables false
theorem Int.one (y : Int) : ∀ u ∈ encInt y, u.oneCell' = true := by
  intro u hu; simp [encInt] at hu; subst hu; rfl
theorem Int.info : (Try.prog.info? 3).map (fun i => (i.zero, i.size, i.bytes)) = some (some (.int .i64 0), 1, 8) := by kernel_rfl
theorem fold_stepR {l : List Dep} {k : Nat} {x : Dep} (hx : l[k]? = some x) (id : Int) (out : List Int) : (l.take (k + 1)).foldl (stepR id) out = stepR id ((l.take k).foldl (stepR id) out) x := by
  rw [take_succ hx, List.foldl_append]; rfl
theorem stepR_yes {id : Int} {out : List Int} {d : Dep} (h : ((d.Id == id || out.contains d.Id) && !out.contains d.For) = true) : stepR id out d = out ++ [d.For] := if_pos h
theorem stepR_no {id : Int} {out : List Int} {d : Dep} (h : ((d.Id == id || out.contains d.Id) && !out.contains d.For) = false) : stepR id out d = out := if_neg (by rw [h]; simp)
theorem reachL_stop {f : Nat} {l : List Dep} {id : Int} {out : List Int} (h : (passR l id out).length = out.length) : reachL f l id out = passR l id out := by
  rw [show passR l id out = out from (foldR_still id l out h).1]
  cases f with
  | zero => rfl
  | succ f => rw [reachL, if_pos h]
theorem reachL_go {f : Nat} {l : List Dep} {id : Int} {out : List Int} (h : (passR l id out).length ≠ out.length) : reachL (f + 1) l id out = reachL f l id (passR l id out) := by rw [reachL, if_neg h]
def lenB : Value → Nat
  | .bool true => 1
  | _ => 0
set_option maxHeartbeats 8000000 in
set_option maxRecDepth 4000 in
theorem l12Reach_c (xs : List Dep) (id : Int) (A : Option Addr) (n c : Nat) (w : World) (h : SlAt RDep 2 w A n xs) (hl : n ≤ 100) : Calls Try.prog 61 #[.slice A n c, .int .i64 id] w (RetOwn RInt 3 1 w (reachS xs id)) := by
  obtain rfl := h.len
  have hM := Flat.mono Dep.enc Dep.ok
  obtain ⟨i0, hi, hz0, hz1, hz2⟩ := info_parts Int.info
  have HAL := Lib.hid h.all
  go_enter Try.func61, Try.ntmps61
  go_wp2
  go_loopw [5, 6] (fun v g wr => ∃ (A1 : Option Addr) (c1 : Nat) (out : List Int) (ag : Bool) (f : Nat), v = .slice A1 out.length c1 ∧ g = .bool ag ∧ wr.ownsRow w.heap.size 3 1 (.slice A1 out.length c1) out.length (out.flatMap encInt) ∧ Ext w wr ∧ RInv xs id out ∧ Hid (reachS xs id = if ag = true then reachL f xs id out else out) ∧ (ag = true → xs.length < f + out.length) ∧ (∀ y ∈ out, In64 y)) (fun v g _ => 2 * (xs.length + 1 - lenV v) + lenB g)
  case atStart => exact ⟨_, 0, [], true, xs.length + 1, rfl, rfl, by simpa using owns_empty w 3 1, (Ext.refl _).alloc _, RInv.nil id, Lib.hid rfl, by simp, (fun y hy => by cases hy)⟩
  case round =>
    obtain ⟨A1, c1, out, ag, f, rfl, rfl, ho, hb, hri, HR, hf, hii⟩ := hrel
    obtain ⟨wo, rfl⟩ : ∃ wo, wo = wr := ⟨_, rfl⟩
    have hol := hri.len
    have HRI := Lib.hid hri
    clear hri
    cases ag with
    | false =>
      have HR1 := Lib.hid (show reachS xs id = out by rw [HR.out]; rfl)
      have HO := Lib.hid ho
      have HII := Lib.hid hii
      clear HR hf ho hii
      go_wp2
      rw [HR1.out]
      exact ret_own2 rfl HO.out rfl encInt_size HII.out hb
    | true =>
      have hf' := hf rfl
      obtain ⟨f', rfl⟩ : ∃ f', f = f' + 1 := ⟨f - 1, by omega⟩
      have HR1 := Lib.hid (show reachS xs id = reachL (f' + 1) xs id out by rw [HR.out]; rfl)
      clear HR hf
      have HO0 := Lib.hid ho
      have HI0 := Lib.hid hii
      clear ho hii
      go_wp2
      go_loopw [5, 6, 13] (fun v g i wr => ∃ (k : Nat) (A2 : Option Addr) (c2 : Nat) (acc : List Int) (ag : Bool), k ≤ xs.length ∧ i = .int .i64 k ∧ v = .slice A2 acc.length c2 ∧ g = .bool ag ∧ wr.ownsRow w.heap.size 3 1 (.slice A2 acc.length c2) acc.length (acc.flatMap encInt) ∧ Ext w wr ∧ Hid (acc = (xs.take k).foldl (stepR id) out) ∧ (∀ y ∈ acc, In64 y) ∧ Hid (ag = decide (out.length < acc.length)) ∧ out.length ≤ acc.length) (fun _ _ i _ => xs.length - (intOf i).toNat)
      case atStart => exact ⟨0, A1, c1, out, false, Nat.zero_le _, rfl, rfl, rfl, HO0.out, hb, Lib.hid rfl, HI0.out, Lib.hid (by simp), Nat.le_refl _⟩
      case round =>
        obtain ⟨k, A2, c2, acc, ag, hk, rfl, rfl, rfl, ho, hbi, HACC, hii, HAG, hao⟩ := hrel
        have HRA := Lib.hid (show RInv xs id acc by rw [HACC.out]; exact HRI.out.fold _ (fun d hd => List.mem_of_mem_take hd))
        have hal : acc.length ≤ xs.length := HRA.out.len
        by_cases hlt : k < xs.length
        · obtain ⟨b, o, x, cs, rfl, hbw, hx, _, hc, rfl, hxok⟩ := (h.ext hM hbi).at_ hlt
          have hxo : In64 x.For := hxok.2
          have f0 := hc 0 _ rfl
          have f1 := hc 1 _ rfl
          simp only [Nat.add_zero] at f0
          have HX := Lib.hid hx
          have HS := Lib.hid (fold_stepR hx id out)
          have hsl : SlAt RInt 1 wr A2 acc.length acc := (OwnAt.flat (ok := In64) encInt_size hii ho).slAt
          have hc1 := fun (u : World) (e : Ext wr u) => l02Has_c acc x.Id A2 acc.length c2 u (hsl.ext (Flat.mono _ _) e) (by unfold maxLen; omega)
          have hc2 := fun (u : World) (e : Ext wr u) => l02Has_c acc x.For A2 acc.length c2 u (hsl.ext (Flat.mono _ _) e) (by unfold maxLen; omega)
          clear hc hx h hxok hsl
          rcases Bool.eq_false_or_eq_true (x.Id == id) with h1 | h1
          · rcases Bool.eq_false_or_eq_true (acc.contains x.For) with h3 | h3
            all_goals
              have H1 := Lib.hid h1
              have H3 := Lib.hid h3
              have H2 := Lib.hid (Bool.true_or (acc.contains x.Id))
              rw [h3] at hc2
              have HC2 := Lib.hid hc2
              clear hc1 hc2 h3
              go_wp2_with fail
              refine (HC2.out _ ((Ext.refl _).alloc _)).mono ?_
              rintro e w2 ⟨rfl, hb2⟩
            · skip
              have H1 := Lib.hid (show acc = (xs.take (k + 1)).foldl (stepR id) out by rw [HS.out, ← HACC.out, stepR_no (by first | (rw [H1.out, H2.out, H3.out]; done) | (rw [H1.out, H2.out, H3.out]; rfl))])
              go_wp2
              go_roundw
              case rel => exact ⟨k + 1, A2, c2, acc, ag, by omega, by go_num, rfl, rfl, owns_ext (ho.alloc _) (hb2), (Ext.alloc hbi _).trans (hb2), Lib.hid H1.out, hii, Lib.hid HAG.out, hao⟩
              case measure => simp [intOf]; omega
            · skip
              have H1 := Lib.hid (show acc ++ [x.For] = (xs.take (k + 1)).foldl (stepR id) out by rw [HS.out, ← HACC.out, stepR_yes (by first | (rw [H1.out, H2.out, H3.out]; done) | (rw [H1.out, H2.out, H3.out]; rfl))])
              have HO := Lib.hid (owns_ext (ho.alloc (.cells #[.int .i64 x.Id, .int .i64 x.For] 31)) (hb2))
              have hE1 := Lib.hid ((Ext.alloc hbi (.cells #[.int .i64 x.Id, .int .i64 x.For] 31)).trans (hb2))
              have g1 := (hb2).cell (cell_box wr [.int .i64 x.Id, .int .i64 x.For] 31 1 _ rfl)
              have hin : ∀ y ∈ acc ++ [x.For], In64 y := by intro y hy; rcases List.mem_append.1 hy with hy | hy; exact hii y hy; simp at hy; subst hy; exact hxo
              have HIN := Lib.hid hin
              clear ho hin hii
              go_wp2_with (at_builtin; go_must (refine wpList_append_one (.tmp 34) (.tmp 37) _ w.heap.size 3 i0 _ 1 8 (.slice A2 acc.length c2) acc.length _ (encInt x.For) rfl rfl Try.underlying24 hi hz0 hz1 hz2 rfl (by omega) rfl (HO.out) _ rfl (by simp) rfl (Int.one _) (by unfold maxLen; omega) (by omega) hE1.out (Nat.le_refl _) hE1.out.le ?_); intro A3 c3 w3 ho3 hb3 hs3)
              have HO3 := Lib.hid ho3
              clear ho3 hi hz0 hz1 hz2
              go_wp2
              go_roundw
              case rel => exact ⟨k + 1, A3, c3, acc ++ [x.For], true, by omega, by go_num, by simp, rfl, by rw [List.flatMap_append, List.length_append]; simpa using HO3.out, hb3, Lib.hid H1.out, HIN.out, Lib.hid (by simp only [List.length_append, List.length_cons, List.length_nil]; symm; rw [decide_eq_true_iff]; omega), by simp; omega⟩
              case measure => simp [intOf]; omega
          · rcases Bool.eq_false_or_eq_true (acc.contains x.Id) with h2 | h2
            · rcases Bool.eq_false_or_eq_true (acc.contains x.For) with h3 | h3
              all_goals
                have H1 := Lib.hid h1
                have H3 := Lib.hid h3
                have H2 := Lib.hid h2
                rw [h2] at hc1
                rw [h3] at hc2
                have HC1 := Lib.hid hc1
                have HC2 := Lib.hid hc2
                clear hc1 hc2 h3 h2
                go_wp2_with fail
                refine (HC1.out _ ((Ext.refl _).alloc _)).mono ?_
                rintro e w2 ⟨rfl, hb2⟩
                have g2 := hb2.cell (cell_box wr [.int .i64 x.Id, .int .i64 x.For] 31 1 _ rfl)
                go_wp2_with fail
                refine (HC2.out _ (((Ext.refl _).alloc _).trans hb2)).mono ?_
                rintro e w3 ⟨rfl, hb3'⟩
                clear g2
              · skip
                have H1 := Lib.hid (show acc = (xs.take (k + 1)).foldl (stepR id) out by rw [HS.out, ← HACC.out, stepR_no (by first | (rw [H1.out, H2.out, H3.out]; done) | (rw [H1.out, H2.out, H3.out]; rfl))])
                go_wp2
                go_roundw
                case rel => exact ⟨k + 1, A2, c2, acc, ag, by omega, by go_num, rfl, rfl, owns_ext (ho.alloc _) (hb2.trans hb3'), (Ext.alloc hbi _).trans (hb2.trans hb3'), Lib.hid H1.out, hii, Lib.hid HAG.out, hao⟩
                case measure => simp [intOf]; omega
              · skip
                have H1 := Lib.hid (show acc ++ [x.For] = (xs.take (k + 1)).foldl (stepR id) out by rw [HS.out, ← HACC.out, stepR_yes (by first | (rw [H1.out, H2.out, H3.out]; done) | (rw [H1.out, H2.out, H3.out]; rfl))])
                have HO := Lib.hid (owns_ext (ho.alloc (.cells #[.int .i64 x.Id, .int .i64 x.For] 31)) (hb2.trans hb3'))
                have hE1 := Lib.hid ((Ext.alloc hbi (.cells #[.int .i64 x.Id, .int .i64 x.For] 31)).trans (hb2.trans hb3'))
                have g1 := (hb2.trans hb3').cell (cell_box wr [.int .i64 x.Id, .int .i64 x.For] 31 1 _ rfl)
                have hin : ∀ y ∈ acc ++ [x.For], In64 y := by intro y hy; rcases List.mem_append.1 hy with hy | hy; exact hii y hy; simp at hy; subst hy; exact hxo
                have HIN := Lib.hid hin
                clear ho hin hii
                go_wp2_with (at_builtin; go_must (refine wpList_append_one (.tmp 34) (.tmp 37) _ w.heap.size 3 i0 _ 1 8 (.slice A2 acc.length c2) acc.length _ (encInt x.For) rfl rfl Try.underlying24 hi hz0 hz1 hz2 rfl (by omega) rfl (HO.out) _ rfl (by simp) rfl (Int.one _) (by unfold maxLen; omega) (by omega) hE1.out (Nat.le_refl _) hE1.out.le ?_); intro A3 c3 w3 ho3 hb3 hs3)
                have HO3 := Lib.hid ho3
                clear ho3 hi hz0 hz1 hz2
                go_wp2
                go_roundw
                case rel => exact ⟨k + 1, A3, c3, acc ++ [x.For], true, by omega, by go_num, by simp, rfl, by rw [List.flatMap_append, List.length_append]; simpa using HO3.out, hb3, Lib.hid H1.out, HIN.out, Lib.hid (by simp only [List.length_append, List.length_cons, List.length_nil]; symm; rw [decide_eq_true_iff]; omega), by simp; omega⟩
                case measure => simp [intOf]; omega
            · have H1 := Lib.hid h1
              have H2 := Lib.hid h2
              rw [h2] at hc1
              have HC1 := Lib.hid hc1
              clear hc1 hc2 h2
              go_wp2_with fail
              refine (HC1.out _ ((Ext.refl _).alloc _)).mono ?_
              rintro e w2 ⟨rfl, hb2⟩
              have H1 := Lib.hid (show acc = (xs.take (k + 1)).foldl (stepR id) out by rw [HS.out, ← HACC.out, stepR_no (by first | (rw [H1.out, H2.out]; done) | (rw [H1.out, H2.out]; rfl))])
              go_wp2
              go_roundw
              case rel => exact ⟨k + 1, A2, c2, acc, ag, by omega, by go_num, rfl, rfl, owns_ext (ho.alloc _) hb2, (Ext.alloc hbi _).trans hb2, Lib.hid H1.out, hii, Lib.hid HAG.out, hao⟩
              case measure => simp [intOf]; omega
        · have HF := Lib.hid (show acc = passR xs id out by rw [HACC.out, List.take_of_length_le (by omega)]; rfl)
          have HO := Lib.hid ho
          have HII := Lib.hid hii
          clear HACC ho hii
          rcases Nat.lt_or_ge out.length acc.length with hgt | hle
          · have HA2 := Lib.hid (show ag = true by rw [HAG.out, decide_eq_true_iff]; exact hgt)
            go_wp2
            go_roundw
            case rel => exact ⟨A2, c2, acc, true, f', rfl, by rw [HA2.out], HO.out, hbi, HRA.out, Lib.hid (by rw [HR1.out, reachL_go (by rw [← HF.out]; omega), ← HF.out]; rfl), fun _ => by omega, HII.out⟩
            case measure => rw [HA2.out]; simp only [lenV, lenB]; omega
          · have HA2 := Lib.hid (show ag = false by rw [HAG.out, decide_eq_false_iff_not]; omega)
            go_wp2
            go_roundw
            case rel => exact ⟨A2, c2, acc, false, 0, rfl, by rw [HA2.out], HO.out, hbi, HRA.out, Lib.hid (by rw [HR1.out, reachL_stop (by rw [← HF.out]; omega), ← HF.out]; rfl), (fun e => by cases e), HII.out⟩
            case measure => rw [HA2.out]; simp only [lenV, lenB]; omega
end Go.Proofs.Ytgnbjnlcikpknaa
