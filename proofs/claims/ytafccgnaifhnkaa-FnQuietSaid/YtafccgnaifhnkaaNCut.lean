/- Contracts: the windows that aren't over. -/
import Derived.Test.YtafccgnaifhnkaaNWin
namespace Go.Proofs.Ytafccgnaifhnkaa
open Go.RowKit
set_option linter.unusedVariables false
def cutL (xs : List Window) (at_ : Int) : List Window := xs.filter (fun x => decide (at_ < x.To))
theorem cut_succ {xs : List Window} {at_ : Int} {k : Nat} {x : Window} (hx : xs[k]? = some x) : cutL (xs.take (k + 1)) at_ = if at_ < x.To then cutL (xs.take k) at_ ++ [x] else cutL (xs.take k) at_ := by
  unfold cutL
  rw [take_succ hx, List.filter_append]
  by_cases h : at_ < x.To
  · rw [if_pos h]; simp [h]
  · rw [if_neg h]; simp [h]
theorem cell_box_at (w : World) (b : Nat) (hb : w.heap.size = b) (cs : List Value) (e : TypeId) (j : Nat) (u : Value) (h : cs[j]? = some u) : (w.alloc (.cells cs.toArray e)).cell? ⟨b, j, none⟩ = some u := by
  subst hb; exact law_box w cs e j u h
theorem frozen_box_at (w : World) (b : Nat) (hb : w.heap.size = b) (cs : Array Value) (e : TypeId) (j : Nat) : (w.alloc (.cells cs e)).frozen? ⟨b, j, none⟩ = false := by
  subst hb; simp
theorem NInt.one (y : Int) : ∀ u ∈ encInt y, u.oneCell' = true := by
  intro u hu; simp [encInt] at hu; subst hu; rfl
theorem NInt.info : (Try.prog.info? 3).map (fun i => (i.zero, i.size, i.bytes)) = some (some (.int .i64 0), 1, 8) := by kernel_rfl
theorem NWindow.info : (Try.prog.info? 65).map (fun i => (i.zero, i.size, i.bytes)) = some (some (.agg #[.int .i64 0, .int .i64 0, .slice none 0 0]), 3, 40) := by kernel_rfl
def RetNRow (w : World) (xs : List Int) : Ending → World → Prop := fun e w' => ∃ A c, e = .returned (.slice A xs.length c) ∧ w'.ownsRow w.heap.size 3 1 (.slice A xs.length c) xs.length (xs.flatMap encInt) ∧ Ext w w'
theorem copyInts_n (xs : List Int) (A : Option Addr) (n c : Nat) (w : World) (h : SlAt RInt 1 w A n xs) (hl : n ≤ 1048576) : Calls Try.prog 58 #[.slice A n c] w (RetNRow w xs) := by
  obtain ⟨i0, hi, hI0, hI1, hI2⟩ := info_parts NInt.info
  obtain rfl := h.len
  go_enter Try.func58, Try.ntmps58
  go_wp2_with (at_builtin; go_must (refine wpList_append_list (w0 := w) (.const (.slice none 0 0)) (.tmp 3) _ w.heap.size 3 i0 _ 1 8 (.slice none 0 0) 0 [] A xs.length c xs rfl rfl Try.underlying22 hi hI0 hI1 hI2 rfl (by omega) rfl (World.ownsRow_nil _ _ _ _) rfl h (fun _ => rfl) NInt.one (by unfold maxLen; omega) (by omega) (Ext.refl _) (Nat.le_refl _) (Nat.le_refl _) ?_); intro A1 c1 w1 ho1 hb1 hs1)
  simp only [Nat.zero_add, List.nil_append] at ho1
  have HO := Lib.hid ho1
  clear ho1
  go_wp2
  exact bodyPost_ret (results_tmp rfl _ _ _) rfl ⟨A1, c1, by simp, HO.out, hb1⟩
theorem chunk_app_low {L us : List Value} {n j : Nat} (hl : L.length = n * 3) (h : j < n) : ((L ++ us).drop (j * 3)).take 3 = (L.drop (j * 3)).take 3 := by
  rw [List.drop_append_of_le_length (by omega), List.take_append_of_le_length (by rw [List.length_drop]; omega)]
theorem chunk_app_new {L : List Value} {a b c : Value} {n : Nat} (hl : L.length = n * 3) : ((L ++ [a, b, c]).drop (n * 3)).take 3 = [a, b, c] := by
  rw [← hl, List.drop_left]; rfl
/-- One window more behind a row: what the append hands back. -/
theorem NR.grow {w0 w w' : World} {lo hi : Nat} {A A' : Option Addr} {m c c' : Nat} {f : Nat → NItem} {L : List Value} (t : NItem) (h : NR w0 lo hi A m c m f) (hb : Ext w0 w) (hL : w0.ownsRow lo 65 3 (.slice A m c) m L) (hc : ∀ j, j < m → (L.drop (j * 3)).take 3 = [(f j).a, (f j).b, (f j).v])
    (hL' : w'.ownsRow lo 65 3 (.slice A' (m + 1) c') (m + 1) (L ++ [t.a, t.b, t.v]))
    (hk : ∀ (b : Nat) (cs' : Array Value) (e' : TypeId), e' ≠ 65 → w.heap[b]? = some (Obj.cells cs' e') → w'.heap[b]? = some (Obj.cells cs' e'))
    (ht : w.ownsRow lo 3 1 t.v t.m t.vs) (hB : ∀ q, t.v.ownBlock = some q → hi ≤ q) :
    NR w' lo w'.heap.size A' (m + 1) c' (m + 1) (fun j => if j = m then t else f j) :=
  h.snoc t (fun j hj => owns_kept_type (owns_ext (h.own j hj) hb) hk (by decide)) hL' (fun j hj => by rw [chunk_app_low hL.1 hj]; exact hc j hj) (chunk_app_new hL.1) (owns_kept_type ht hk (by decide)) hB
set_option maxHeartbeats 4000000 in
set_option maxRecDepth 8000 in
theorem WindowsCut_n (xs : List Window) (A : Option Addr) (n c : Nat) (at_ : Int) (w : World) (h : SlAt RWindow 3 w A n xs) (hn : n ≤ 1048576) (hle : ∀ x ∈ xs, x.Nodes.length ≤ 1048576) : Calls Try.prog 25 #[.slice A n c, .int .i64 at_] w (RetNR w (cutL xs at_)) := by
  obtain ⟨i0, hi, hz0, hz1, hz2⟩ := info_parts NWindow.info
  have HLE := Lib.hid hle
  have HH := Lib.hid h
  clear hle h
  go_enter Try.func25, Try.ntmps25
  go_wp2
  go_loopw [5, 11] (fun v i wr => ∃ (k m c1 : Nat) (A1 : Option Addr) (f : Nat → NItem), k ≤ n ∧ i = .int .i64 k ∧ v = .slice A1 m c1 ∧ m ≤ k ∧ Hid (NR wr w.heap.size wr.heap.size A1 m c1 m f) ∧ Hid (NMatch (cutL (xs.take k) at_) f) ∧ Hid ((cutL (xs.take k) at_).length = m) ∧ Ext w wr) (fun _ i _ => n - (intOf i).toNat)
  case atStart =>
    have ho := owns_empty w 65 3
    exact ⟨0, 0, 0, _, fun _ => ⟨undef, undef, none, 0, 0, []⟩, Nat.zero_le _, rfl, rfl, Nat.le_refl _, Lib.hid ⟨Nat.le_refl _, ⟨_, ho, fun j hj => by omega⟩, fun j hj => by omega, fun i j hi => by omega, fun q e => (ho.lt q e).2, fun j hj => by omega⟩, Lib.hid (fun j x hx => by simp [cutL] at hx), Lib.hid (by simp [cutL]), (Ext.refl _).alloc _⟩
  case round =>
    obtain ⟨k, m, c1, A1, f, hk, rfl, rfl, hmk, HNR, HM, HLEN, hb⟩ := hrel
    by_cases hlt : k < n
    · obtain ⟨b, o, x, cs, rfl, hbw, hx, _, hc, hr⟩ := (HH.out.ext RWindow.mono hb).at_ hlt
      obtain ⟨B1, d1, rfl, hsl, hml, hf, ht⟩ := win_cells hr
      have g0 := hc 0 _ rfl
      have g1 := hc 1 _ rfl
      have g2 := hc 2 _ rfl
      simp only [Nat.add_zero] at g0
      have HX := Lib.hid hx
      have HLX := Lib.hid (HLE.out x (List.mem_of_getElem? hx))
      have HSL := Lib.hid hsl
      have HR := Lib.hid (show x.Nodes.length ≤ maxLen ∧ In64 x.From ∧ In64 x.To from ⟨hml, hf, ht⟩)
      have HCS := Lib.hid (cut_succ (at_ := at_) hx)
      clear hc hr hsl hml hf ht hx
      by_cases hto : at_ < x.To
      · obtain ⟨L, hL, hrow⟩ := HNR.out.row
        have HROW := Lib.hid hrow
        have HO := Lib.hid hL
        have HTO := Lib.hid hto
        clear hL hrow
        go_wp2_with fail
        refine (copyInts_n x.Nodes _ _ _ _ (HSL.out.ext (Flat.mono _ _) (Ext.alloc (Ext.refl _) _)) HLX.out).mono ?_
        rintro e w2 ⟨A2, c2, rfl, ho2, hb2⟩
        have hsz : wr.heap.size < w2.heap.size := by have := hb2.le; simp at this; omega
        have HE := Lib.hid (show Ext wr (w2.setCell ⟨wr.heap.size, 2, none⟩ (.slice A2 x.Nodes.length c2)) from Ext.setCell (((Ext.refl _).alloc _).trans hb2) (Nat.le_refl _) _)
        have HOU := Lib.hid (owns_ext HO.out HE.out)
        have HR2 := Lib.hid (show (w2.setCell ⟨wr.heap.size, 2, none⟩ (.slice A2 x.Nodes.length c2)).ownsRow w.heap.size 3 1 (.slice A2 x.Nodes.length c2) x.Nodes.length (x.Nodes.flatMap encInt) from owns_stored_far (owns_base ho2 (by have := hb.le; simp; omega)) (fun e => by have := (ho2.lt _ e).1; simp at this; omega))
        have HBK := Lib.hid (fun q e => (ho2.lt q e).1)
        have q0 := (hb2).cell (cell_box_at wr (wr.heap.size) (by simp) [.int .i64 x.From, .int .i64 x.To, .slice B1 x.Nodes.length d1] 65 0 _ rfl)
        have q1 := (hb2).cell (cell_box_at wr (wr.heap.size) (by simp) [.int .i64 x.From, .int .i64 x.To, .slice B1 x.Nodes.length d1] 65 1 _ rfl)
        have q2 := (hb2).cell (cell_box_at wr (wr.heap.size) (by simp) [.int .i64 x.From, .int .i64 x.To, .slice B1 x.Nodes.length d1] 65 2 _ rfl)
        have qf0 := ((hb2).frozenEq (a := ⟨wr.heap.size, 0, none⟩) (by simp)).trans (frozen_box_at wr (wr.heap.size) (by simp) #[.int .i64 x.From, .int .i64 x.To, .slice B1 x.Nodes.length d1] 65 0)
        have qf1 := ((hb2).frozenEq (a := ⟨wr.heap.size, 1, none⟩) (by simp)).trans (frozen_box_at wr (wr.heap.size) (by simp) #[.int .i64 x.From, .int .i64 x.To, .slice B1 x.Nodes.length d1] 65 1)
        have qf2 := ((hb2).frozenEq (a := ⟨wr.heap.size, 2, none⟩) (by simp)).trans (frozen_box_at wr (wr.heap.size) (by simp) #[.int .i64 x.From, .int .i64 x.To, .slice B1 x.Nodes.length d1] 65 2)
        have HW := Lib.hid (hb.trans HE.out)
        have HWL := Lib.hid (show w.heap.size ≤ (w2.setCell ⟨wr.heap.size, 2, none⟩ (.slice A2 x.Nodes.length c2)).heap.size by have := hb.le; simp; omega)
        clear ho2 g0 g1 g2
        go_wp2_with (at_builtin; go_must (refine wpList_append_one_k (w0 := w) (.tmp 23) (.tmp 25) _ w.heap.size 65 i0 _ 3 40 (.slice A1 m c1) m L [.int .i64 x.From, .int .i64 x.To, .slice A2 x.Nodes.length c2] rfl rfl Try.underlying34 hi hz0 hz1 hz2 rfl (by omega) rfl (HOU.out) _ rfl (by simp) rfl (by intro u hu; simp at hu; rcases hu with rfl | rfl | rfl <;> rfl) (by unfold maxLen; omega) (by omega) HW.out (Nat.le_refl _) HWL.out ?_); intro A3 c3 w3 ho3 hb3 hs3 hkp)
        have HG := Lib.hid (NR.grow ⟨.int .i64 x.From, .int .i64 x.To, A2, x.Nodes.length, c2, x.Nodes.flatMap encInt⟩ HNR.out HE.out HO.out HROW.out ho3 hkp HR2.out (fun q e => Nat.le_trans (by simp) (HBK.out q e)))
        clear ho3 hkp
        go_wp2
        go_roundw
        case rel => exact ⟨k + 1, m + 1, c3, A3, _, by omega, by go_num, rfl, by omega, HG.out, Lib.hid (by rw [HCS.out, if_pos HTO.out]; exact HM.out.snoc HLEN.out x _ rfl rfl rfl rfl (sl_ok HSL.out) HR.out.2.1 HR.out.2.2), Lib.hid (by rw [HCS.out, if_pos HTO.out, List.length_append, HLEN.out]; rfl), hb3⟩
        case measure => simp [intOf]; omega
      · have HTO := Lib.hid hto
        go_wp2
        go_roundw
        case rel => exact ⟨k + 1, m, c1, A1, f, by omega, by go_num, rfl, by omega, Lib.hid ((HNR.out.ext ((Ext.refl _).alloc _)).cut (by simp) (Nat.le_refl _)), Lib.hid (by rw [HCS.out, if_neg HTO.out]; exact HM.out), Lib.hid (by rw [HCS.out, if_neg HTO.out]; exact HLEN.out), hb.alloc _⟩
        case measure => simp [intOf]; omega
    · have HKN := Lib.hid (show k = n by omega)
      have HE := Lib.hid (show cutL (xs.take k) at_ = cutL xs at_ by rw [List.take_of_length_le (by rw [HH.out.len, HKN.out]; exact Nat.le_refl _)])
      go_wp2
      refine bodyPost_ret (results_tmp rfl _ _ _) rfl ⟨A1, c1, f, ?_, ?_, ?_, hb⟩
      · rw [← HE.out, HLEN.out]; rfl
      · rw [← HE.out, HLEN.out]; exact HNR.out
      · rw [← HE.out]; exact HM.out
end Go.Proofs.Ytafccgnaifhnkaa
