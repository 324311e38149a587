/- Rows of windows are made and grow. -/
import Derived.Test.YtafccgnaifhnkaaNMark
import Derived.Test.YtafccgnaifhnkaaAppend
namespace Go.Proofs.Ytafccgnaifhnkaa
open Go.RowKit
set_option linter.unusedVariables false
theorem NR.snoc {w w' : World} {lo hi : Nat} {A A' : Option Addr} {n c n' c' k : Nat} {f : Nat → NItem} (t : NItem) {L' : List Value} (h : NR w lo hi A n c k f)
    (hown : ∀ j, j < k → w'.ownsRow lo 3 1 (f j).v (f j).m (f j).vs) (hL : w'.ownsRow lo 65 3 (.slice A' n' c') n' L')
    (hold : ∀ j, j < k → (L'.drop (j * 3)).take 3 = [(f j).a, (f j).b, (f j).v]) (hnew : (L'.drop (k * 3)).take 3 = [t.a, t.b, t.v])
    (ht : w'.ownsRow lo 3 1 t.v t.m t.vs) (hB : ∀ q, t.v.ownBlock = some q → hi ≤ q) :
    NR w' lo w'.heap.size A' n' c' (k + 1) (fun j => if j = k then t else f j) := by
  have hO : ∀ j, j < k + 1 → w'.ownsRow lo 3 1 (if j = k then t else f j).v (if j = k then t else f j).m (if j = k then t else f j).vs := fun j hj => by
    by_cases e : j = k
    · rw [if_pos e]; exact ht
    · rw [if_neg e]; exact hown j (by omega)
  refine ⟨Nat.le_refl _, ⟨L', hL, fun j hj => ?_⟩, hO, fun i j hi' hj hij => ?_, fun q e => (hL.lt q e).2, fun j hj q e => ((hO j hj).lt q e).2⟩
  · by_cases e : j = k
    · subst e; rw [if_pos rfl]; exact hnew
    · rw [if_neg e]; exact hold j (by omega)
  · by_cases e1 : i = k
    · have e2 : ¬ j = k := by omega
      simp only [if_pos e1, if_neg e2]
      intro q hq hq'
      have h1 := h.lows j (by omega) q hq'
      have h2 := hB q hq
      omega
    · by_cases e2 : j = k
      · simp only [if_neg e1, if_pos e2]
        intro q hq hq'
        have h1 := h.lows i (by omega) q hq
        have h2 := hB q hq'
        omega
      · simp only [if_neg e1, if_neg e2]
        exact h.far i j (by omega) (by omega) hij
theorem owns_puts_far {lo n : Nat} {e : TypeId} {sz : Nat} {v : Value} {L : List Value} {g : Nat} (hne : v.ownBlock ≠ some g) (us : List Value) : ∀ (w : World) (p : Nat), w.ownsRow lo e sz v n L → (setCells w g p us).ownsRow lo e sz v n L := by
  induction us with
  | nil => intro w p h; exact h
  | cons u us ih => intro w p h; exact ih _ _ (owns_stored_far h hne)
theorem owns_kept_type {w w' : World} {lo n : Nat} {e E : TypeId} {sz : Nat} {v : Value} {L : List Value} (h : w.ownsRow lo e sz v n L) (hk : ∀ (b : Nat) (cs' : Array Value) (e' : TypeId), e' ≠ E → w.heap[b]? = some (Obj.cells cs' e') → w'.heap[b]? = some (Obj.cells cs' e')) (hne : e ≠ E) : w'.ownsRow lo e sz v n L := by
  obtain ⟨h1, h2⟩ := h
  refine ⟨h1, ?_⟩
  rcases h2 with h2 | ⟨b, cap, cur, rfl, hg, hh, r⟩
  · exact .inl h2
  · exact .inr ⟨b, cap, cur, rfl, hg, hk _ _ _ hne hh, r⟩
theorem own_row {α : Type} {enc : α → List Value} {ok : α → Prop} {e : TypeId} {sz base : Nat} {w : World} {v : Value} {xs : List α} (hsz : ∀ x, (enc x).length = sz) (hs0 : 0 < sz) (h : OwnAt (Flat enc ok) e sz w base v xs) : w.ownsRow base e sz v xs.length (xs.flatMap enc) ∧ ∀ x ∈ xs, ok x := by
  obtain ⟨L, h1, h2⟩ := h
  have hL : xs.flatMap enc = L := by
    have hlen : ∀ l : List α, (l.flatMap enc).length = l.length * sz := by
      intro l
      induction l with
      | nil => simp
      | cons a r ih => rw [List.flatMap_cons, List.length_append, hsz, ih, List.length_cons, Nat.add_mul]; omega
    apply List.ext_getElem?
    intro t
    by_cases ht : t < xs.length * sz
    · have hq : t / sz < xs.length := by rw [Nat.div_lt_iff_lt_mul hs0]; exact ht
      have hr : t % sz < sz := Nat.mod_lt _ hs0
      have hx : xs[t / sz]? = some xs[t / sz] := List.getElem?_eq_getElem hq
      have e1 := flatMap_get (enc := enc) (j := t % sz) hsz hr hx
      have e2 := (h2 _ _ hx).1
      have et : t / sz * sz + t % sz = t := by rw [Nat.mul_comm]; exact Nat.div_add_mod t sz
      rw [et] at e1
      rw [e1, ← e2, List.getElem?_take_of_lt hr, List.getElem?_drop, et]
    · rw [List.getElem?_eq_none (by rw [hlen]; omega), List.getElem?_eq_none (by rw [h1.1]; omega)]
  refine ⟨by rw [hL]; exact h1, fun x hx => ?_⟩
  obtain ⟨k, hk⟩ := List.mem_iff_getElem?.1 hx
  exact (h2 k x hk).2
theorem NMatch.snoc {ys : List Window} {f : Nat → NItem} {k : Nat} (h : NMatch ys f) (hk : ys.length = k) (x : Window) (t : NItem) (ha : t.a = .int .i64 x.From) (hb : t.b = .int .i64 x.To) (hm : t.m = x.Nodes.length) (hv : t.vs = x.Nodes.flatMap encInt) (h1 : ∀ y ∈ x.Nodes, In64 y) (h2 : In64 x.From) (h3 : In64 x.To) : NMatch (ys ++ [x]) (fun j => if j = k then t else f j) := by
  intro j y hy
  by_cases e : j = k
  · subst e
    have : y = x := by
      rw [← hk, List.getElem?_append_right (Nat.le_refl _), Nat.sub_self] at hy
      injection hy with hy; exact hy.symm
    subst this
    simp only [if_true]
    exact ⟨ha, hb, hm, hv, h1, h2, h3⟩
  · have hj : j < ys.length := by
      have := (List.getElem?_eq_some_iff.1 hy).1
      rw [List.length_append] at this; simp at this; omega
    rw [List.getElem?_append_left hj] at hy
    simp only [if_neg e]
    exact h j y hy
def RetNR (w : World) (xs : List Window) : Ending → World → Prop := fun e w' => ∃ A c f, e = .returned (.slice A xs.length c) ∧ NR w' w.heap.size w'.heap.size A xs.length c xs.length f ∧ NMatch xs f ∧ Ext w w'
theorem sl_ok {w : World} {A : Option Addr} {n : Nat} {xs : List Int} (h : SlAt RInt 1 w A n xs) : ∀ y ∈ xs, In64 y := fun y hy => by
  obtain ⟨k, hk, rfl⟩ := List.getElem_of_mem hy
  obtain ⟨b, o, x, cs, _, _, hx, _, _, _, hok⟩ := h.at_ (k := k) (by rw [← h.len]; exact hk)
  rw [List.getElem?_eq_getElem hk] at hx
  injection hx with hx
  rw [hx]; exact hok
set_option maxHeartbeats 2000000 in
set_option maxRecDepth 4000 in
theorem toWindowS_n (xs : List Window) (A : Option Addr) (n c : Nat) (w : World) (h : SlAt RWindow 3 w A n xs) (hn : n ≤ 1048576) (hle : ∀ x ∈ xs, x.Nodes.length ≤ 1048576) : Calls Try.prog 13 #[.slice A n c] w (RetNR w xs) := by
  obtain ⟨i0, hi, hz0, hz1, hz2⟩ := info_parts (show (Try.prog.info? 65).map (fun i => (i.zero, i.size, i.bytes)) = some (some (.agg #[.int .i64 0, .int .i64 0, .slice none 0 0]), 3, 40) by kernel_rfl)
  have HLE := Lib.hid hle
  go_enter Try.func13, Try.ntmps13
  go_wp2_with (at_make; refine wpList_make_full _ rfl _ _ 34 rfl w.heap.size 65 i0 _ 3 Try.underlying34 hi hz0 hz1 .i64 .i64 n n n rfl rfl rfl rfl (by rw [hz2]; omega) (by unfold maxLen; omega) (Nat.le_refl _) ?_; intro w1 hown hg; have hb1 : Ext w w1 := Below.grown (Below.refl _ _) hg (Nat.le_refl _) (by simp))
  clear hg hi hz0 hz1 hz2
  go_loopw [4] (fun i wr => ∃ (k : Nat) (f : Nat → NItem), k ≤ n ∧ i = .int .i64 k ∧ Hid (NR wr w.heap.size wr.heap.size (some ⟨w.heap.size, 0, none⟩) n n k f) ∧ Hid (NMatch (xs.take k) f) ∧ Ext w wr) (fun i _ => n - (intOf i).toNat)
  case atStart => exact ⟨0, fun _ => ⟨undef, undef, none, 0, 0, []⟩, Nat.zero_le _, rfl, Lib.hid ⟨Nat.le_refl _, ⟨_, hown, fun j hj => by omega⟩, fun j hj => by omega, fun i j hi => by omega, fun q e => (hown.lt q e).2, fun j hj => by omega⟩, Lib.hid (fun j x hx => by simp at hx), hb1⟩
  case round =>
    obtain ⟨k, f, hk, rfl, HNR, HM, hb⟩ := hrel
    clear hown hb1
    by_cases hlt : k < n
    · obtain ⟨b, o, x, cs, rfl, hbw, hx, _, hc, hr⟩ := (h.ext RWindow.mono hb).at_ hlt
      obtain ⟨A1, c1, rfl, hsl, hml, hf, ht⟩ := win_cells hr
      have g0 := hc 0 _ rfl
      have g1 := hc 1 _ rfl
      have g2 := hc 2 _ rfl
      simp only [Nat.add_zero] at g0
      have HX := Lib.hid hx
      have HLX := Lib.hid (HLE.out x (List.mem_of_getElem? hx))
      have HSL := Lib.hid hsl
      have HN := Lib.hid h.len
      have HR := Lib.hid (show x.Nodes.length ≤ maxLen ∧ In64 x.From ∧ In64 x.To from ⟨hml, hf, ht⟩)
      obtain ⟨L, hL, hrow⟩ := HNR.out.row
      have HROW := Lib.hid hrow
      have HO := Lib.hid hL
      have hgr : w.heap.size < wr.heap.size := (hL.lt _ rfl).2
      clear hc hr hsl hml hf ht hx hL hrow h
      go_wp2_with (go_at_call 40; refine (toWindow_c x _ _ _ HSL.out HLX.out).mono ?_; rintro e w2 ⟨A2, c2, rfl, ho2, hb2⟩; obtain ⟨y0, hy0⟩ := owns_cell (owns_ext HO.out hb2) (j := k * 3) (by omega); obtain ⟨y1, hy1⟩ := owns_cell (owns_ext HO.out hb2) (j := k * 3 + 1) (by omega); obtain ⟨y2, hy2⟩ := owns_cell (owns_ext HO.out hb2) (j := k * 3 + 2) (by omega); have z0 := (owns_ext HO.out hb2).frozenAt (k * 3); have z1 := (owns_ext HO.out hb2).frozenAt (k * 3 + 1); have z2 := (owns_ext HO.out hb2).frozenAt (k * 3 + 2); have HO2 := Lib.hid ho2; have hz2 : w.heap.size < w2.heap.size := (by have := hb2.le; omega))
      go_roundw
      case rel =>
        have hblk := HO2.out.block
        have hr2 := own_row (enc := encInt) (ok := In64) (sz := 1) (fun _ => rfl) (by decide) HO2.out
        have hO2 : w2.ownsRow w.heap.size 3 1 (.slice A2 x.Nodes.length c2) x.Nodes.length (x.Nodes.flatMap encInt) := owns_base hr2.1 hb.le
        have hLw := owns_ext HO.out hb2
        have hLn := owns_puts [.int .i64 x.From, .int .i64 x.To, .slice A2 x.Nodes.length c2] _ _ (k * 3) hLw
        refine ⟨k + 1, _, by omega, by go_num, Lib.hid (HNR.out.snoc (t := ⟨.int .i64 x.From, .int .i64 x.To, A2, x.Nodes.length, c2, x.Nodes.flatMap encInt⟩) (w' := setCells w2 w.heap.size (k * 3) [.int .i64 x.From, .int .i64 x.To, .slice A2 x.Nodes.length c2]) (fun j hj => ?_) hLn (fun j hj => ?_) ?_ ?_ ?_), Lib.hid ?_, Ext.puts [.int .i64 x.From, .int .i64 x.To, .slice A2 x.Nodes.length c2] _ _ (hb.trans hb2) (Nat.le_refl _)⟩
        · exact owns_puts_far (fun e => owns_type hLw (owns_ext (HNR.out.own j hj) hb2) (by decide) _ rfl e) _ _ _ (owns_ext (HNR.out.own j hj) hb2)
        · rw [chunk_low (by omega)]; exact HROW.out j hj
        · exact chunk_new (by rw [HO.out.1]; omega)
        · exact owns_puts_far (fun e => owns_type hLw hO2 (by decide) _ rfl e) _ _ _ hO2
        · intro q hq; exact (hblk q hq).1
        · rw [take_succ HX.out]
          exact HM.out.snoc (by rw [List.length_take, HN.out]; omega) x _ rfl rfl rfl rfl hr2.2 HR.out.2.1 HR.out.2.2
      case measure => simp [intOf]; omega
    · have hkn : k = n := by omega
      have HKN := Lib.hid hkn
      have HN := Lib.hid h.len
      clear hkn h
      go_wp2
      refine bodyPost_ret (results_tmp rfl _ _ _) rfl ⟨_, n, f, by rw [HN.out]; rfl, ?_, ?_, hb⟩
      · rw [HN.out]
        have := HNR.out
        rw [HKN.out] at this
        exact this
      · have := HM.out
        rw [HKN.out, List.take_of_length_le (by rw [HN.out]; exact Nat.le_refl _)] at this
        exact this
end Go.Proofs.Ytafccgnaifhnkaa
