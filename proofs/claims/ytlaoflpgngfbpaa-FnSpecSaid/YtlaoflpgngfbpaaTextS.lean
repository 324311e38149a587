/- Contract: an array out of a text, the given way. -/
import Derived.Test.YtlaoflpgngfbpaaSpanT
import Derived.Test.YtlaoflpgngfbpaaPartsL2
namespace Go.Proofs.Ytlaoflpgngfbpaa
open Go.RowKit
set_option linter.unusedVariables false
theorem own_rows {α : Type} {enc : α → List Value} {ok : α → Prop} {e : TypeId} {sz base : Nat} {w : World} {v : Value} {xs : List α} (hsz : ∀ x, (enc x).length = sz) (hs0 : 0 < sz) (h : OwnAt (Flat enc ok) e sz w base v xs) : w.ownsRow base e sz v xs.length (xs.flatMap enc) ∧ ∀ x ∈ xs, ok x := by
  obtain ⟨L, h1, h2⟩ := h
  have hL : xs.flatMap enc = L := by
    have hlen : ∀ l : List α, (l.flatMap enc).length = l.length * sz := by
      intro l
      induction l with
      | nil => simp
      | cons a r ih => rw [List.flatMap_cons, List.length_append, hsz, ih, List.length_cons, Nat.add_mul]; omega
    apply List.ext_getElem?
    intro t
    by_cases ht : t < xs.length * sz
    · have hq : t / sz < xs.length := by rw [Nat.div_lt_iff_lt_mul hs0]; exact ht
      have hr : t % sz < sz := Nat.mod_lt _ hs0
      have hx : xs[t / sz]? = some xs[t / sz] := List.getElem?_eq_getElem hq
      have e1 := flatMap_get (enc := enc) (j := t % sz) hsz hr hx
      have e2 := (h2 _ _ hx).1
      have et : t / sz * sz + t % sz = t := by rw [Nat.mul_comm]; exact Nat.div_add_mod t sz
      rw [et] at e1
      rw [e1, ← e2, List.getElem?_take_of_lt hr, List.getElem?_drop, et]
    · rw [List.getElem?_eq_none (by rw [hlen]; omega), List.getElem?_eq_none (by rw [h1.1]; omega)]
  refine ⟨by rw [hL]; exact h1, fun x hx => ?_⟩
  obtain ⟨k, hk⟩ := List.mem_iff_getElem?.1 hx
  exact (h2 k x hk).2
theorem owns_box2 (w : World) (a b : Value) (e : TypeId) : (w.alloc (.cells #[a, b] e)).ownsRow w.heap.size e 2 (.slice (some ⟨w.heap.size, 0, none⟩) 1 1) 1 [a, b] :=
  World.ownsRow_lit w #[a, b] 1 (Nat.le_refl _) (by unfold maxLen; omega) (by simp)
theorem box2_cells {w : World} {base b : Nat} {e : TypeId} {u0 u1 : Value} (h : w.ownsRow base e 2 (.slice (some ⟨b, 0, none⟩) 1 1) 1 [u0, u1]) : w.cell? ⟨b, 0, none⟩ = some u0 ∧ w.cell? ⟨b, 1, none⟩ = some u1 ∧ w.frozen? ⟨b, 0, none⟩ = false ∧ w.frozen? ⟨b, 1, none⟩ = false ∧ b < w.heap.size :=
  ⟨by rw [h.cellAt 0 (by omega)]; rfl, by rw [h.cellAt 1 (by omega)]; rfl, h.frozenAt 0, h.frozenAt 1, (h.lt b rfl).2⟩
theorem sl_one_at {α : Type} {enc : α → List Value} {ok : α → Prop} {sz : Nat} (w : World) (b : Nat) (hb : w.heap.size = b) (x : α) (e : TypeId) (hsz : (enc x).length = sz) (hx : ok x) : SlAt (Flat enc ok) sz (w.alloc (.cells (enc x).toArray e)) (some ⟨b, 0, none⟩) 1 [x] := by
  subst hb; exact sl_one_r w x e hsz hx
theorem own_apart {w : World} {lo n lo' n' : Nat} {e e' : TypeId} {sz sz' : Nat} {v v' : Value} {L L' : List Value} (h : w.ownsRow lo e sz v n L) (h' : w.ownsRow lo' e' sz' v' n' L') (hne : e ≠ e') : rowsApart v.ownBlock v'.ownBlock := by
  intro k hk hk'
  rcases h.2 with ⟨rfl, _⟩ | ⟨g, cap, cur, rfl, _, hh, _⟩
  · cases hk
  rcases h'.2 with ⟨rfl, _⟩ | ⟨g', cap', cur', rfl, _, hh', _⟩
  · cases hk'
  have e1 : g = k := Option.some.inj hk
  have e2 : g' = k := Option.some.inj hk'
  subst e1 e2
  rw [hh] at hh'
  injection hh' with hh'
  injection hh' with _ h2
  exact hne h2
theorem owns_widen {w : World} {base base' : Nat} {e : TypeId} {size n : Nat} {v : Value} {L : List Value} (h : w.ownsRow base e size v n L) (hb : ∀ q, v.ownBlock = some q → base' ≤ q) : w.ownsRow base' e size v n L := by
  obtain ⟨h1, h3⟩ := h
  refine ⟨h1, ?_⟩
  rcases h3 with h3 | ⟨g, cap, cur, rfl, hg, r⟩
  · exact .inl h3
  · exact .inr ⟨g, cap, cur, rfl, hb g rfl, r⟩
theorem SpanR.info : (Try.prog.info? 46).map (fun i => (i.zero, i.size, i.bytes)) = some (some (.agg #[.int .i64 0, .int .i64 0, .int .i64 0]), 3, 24) := by kernel_rfl
theorem Span.one (y : Span) : ∀ u ∈ y.enc, u.oneCell' = true := by
  intro u hu; simp [Span.enc] at hu; rcases hu with rfl | rfl | rfl <;> rfl
def RetSpec (w : World) (r : Spec × Bool) : Ending → World → Prop := fun e w' => ∃ (A : Option Addr) (c : Nat), e = .returned (.tuple #[.agg #[.slice A r.1.Spans.length c, .int .i64 r.1.Most], .bool r.2]) ∧ w'.ownsRow w.heap.size 46 3 (.slice A r.1.Spans.length c) r.1.Spans.length (r.1.Spans.flatMap Span.enc) ∧ (∀ x ∈ r.1.Spans, x.ok) ∧ Ext w w'
theorem num_ok (t : ByteArray) : In64 (textN t).1 := by have := textN_bound t; unfold In64; omega
theorem spanI_ok (t : ByteArray) : (spanI t).ok := ⟨num_ok _, num_ok _, num_ok _⟩
theorem spanS_ok (t : ByteArray) : (spanS t).ok := by
  refine ⟨num_ok _, ?_, ?_⟩
  · unfold spanS; simp only []; split <;> exact num_ok _
  · unfold spanS; simp only []
    split
    · exact num_ok _
    · unfold In64; omega
theorem specI_yes {s : ByteArray} (h0 : s.size ≠ 0) (h : specText (spansI s) (mostI s) = s) : specI s = (⟨spansI s, mostI s⟩, true) := by unfold specI; rw [if_pos ⟨h0, h⟩]
theorem specI_no {s : ByteArray} (h : ¬ (s.size ≠ 0 ∧ specText (spansI s) (mostI s) = s)) : specI s = (⟨[], 0⟩, false) := by unfold specI; rw [if_neg h]
theorem spanI_parts {t a b lo hi : ByteArray} (h1 : twoS t 58 oneT = (a, b)) (h2 : twoS a 45 a = (lo, hi)) : spanI t = ⟨(textN lo).1, (textN hi).1, (textN b).1⟩ := by
  unfold spanI; rw [h1, h2]
set_option maxHeartbeats 8000000 in
set_option maxRecDepth 8000 in
theorem TextSpec_c (s : ByteArray) (w : World) (hs : s.size ≤ 1048576) : Calls Try.prog 7 #[.string s] w (RetSpec w (specI s)) := by
  obtain ⟨i0, hi, hz0, hz1, hz2⟩ := info_parts SpanR.info
  obtain ⟨sp, mo, h2⟩ : ∃ sp mo, twoS s 37 zeroT = (sp, mo) := ⟨_, _, rfl⟩
  have h2s := two_size s 37 zeroT
  rw [h2] at h2s
  have hsp : sp.size ≤ 1048576 := by have := h2s.1; simp only [] at this; omega
  have hmo : mo.size ≤ 1048577 := by have := h2s.2; have e : zeroT.size = 1 := rfl; simp only [] at this; omega
  have HT := Lib.hid (two_c s 37 zeroT (w.alloc (.cells #[.slice none 0 0, .int .i64 0] 25)) hs)
  rw [h2] at HT
  have HMO := Lib.hid (show mostI s = (textN mo).1 by unfold mostI; rw [h2])
  have HSP := Lib.hid (show spansI s = (partsS sp 44).map spanI by unfold spansI; rw [h2])
  have HN := Lib.hid (fun u => TextNum_c mo u (by unfold maxLen; omega))
  have HIN := Lib.hid (num_ok mo)
  have HPA := Lib.hid (fun u => Parts_c sp 44 u hsp)
  have HPL := Lib.hid (partsS_len sp 44)
  have HPS := Lib.hid (partsS_size sp 44)
  clear h2 h2s
  generalize textN mo = mv at *
  go_enter Try.func7, Try.ntmps7
  go_wp2_with fail
  refine HT.out.mono ?_
  rintro e w1 ⟨rfl, hb1⟩
  have HO2 := Lib.hid (owns_ext (owns_box2 w (.slice none 0 0) (.int .i64 0) 25) hb1)
  have hw1 := hb1.le
  simp at hw1
  have HB1 := Lib.hid (((Ext.refl w).alloc (.cells #[.slice none 0 0, .int .i64 0] 25)).trans hb1)
  clear hb1
  go_wp2_with fail
  refine (HN.out _).mono ?_
  rintro e w2 ⟨rfl, hb2⟩
  have HO62 := Lib.hid (owns_ext (owns_box2 w1 (.slice none 0 0) (.int .i64 0) 25) hb2)
  have hE2 := ((Ext.refl w1).alloc (.cells #[.slice none 0 0, .int .i64 0] 25)).trans hb2
  obtain ⟨k0, k1, f0, f1, hk⟩ := box2_cells HO62.out
  have hw2 := hb2.le
  simp at hw2
  have HO22 := Lib.hid (box_far (owns_ext HO2.out hE2) (g := w1.heap.size) (p := 1) (u := .int .i64 mv.1) (fun e => by have e1 : w.heap.size = w1.heap.size := Option.some.inj e; omega))
  have HB2 := Lib.hid ((HB1.out.trans hE2).setCell (p := ⟨w1.heap.size, 1, none⟩) (by simp only []; omega) (.int .i64 mv.1))
  clear hb2 hE2
  go_wp2_with fail
  refine (HPA.out _).mono ?_
  rintro e w3 ⟨AP, cP, rfl, hop, hb3⟩
  have hrow := own_rows encStr_size (by decide) hop
  have hw3 := hb3.le
  simp at hw3
  have HOP := Lib.hid hrow.1
  have HOPK := Lib.hid hrow.2
  have HO63 := Lib.hid (show w3.ownsRow w1.heap.size 25 2 (.slice (some ⟨w1.heap.size, 0, none⟩) 1 1) 1 [.slice none 0 0, .int .i64 mv.1] from owns_ext (HO62.out.stored 1 (.int .i64 mv.1)).1 hb3)
  have HO23 := Lib.hid (owns_ext HO22.out hb3)
  have HB3 := Lib.hid (HB2.out.trans hb3)
  obtain ⟨hpl1, hpl2⟩ := HPL.out
  generalize partsS sp 44 = ps at *
  clear hop hrow hb3 k0 k1 f0 f1 hk
  go_wp2
  go_loopw [29] (fun i wr => ∃ (k : Nat) (A1 : Option Addr) (c1 : Nat) (acc : List Span), k ≤ ps.length ∧ i = .int .i64 k ∧ Hid (acc.length = k) ∧ Hid (acc = (ps.take k).map spanI) ∧ Hid (wr.ownsRow w1.heap.size 46 3 (.slice A1 acc.length c1) acc.length (acc.flatMap Span.enc)) ∧ Hid (wr.ownsRow w1.heap.size 25 2 (.slice (some ⟨w1.heap.size, 0, none⟩) 1 1) 1 [.slice A1 acc.length c1, .int .i64 mv.1]) ∧ Hid (wr.ownsRow w.heap.size 25 2 (.slice (some ⟨w.heap.size, 0, none⟩) 1 1) 1 [.slice none 0 0, .int .i64 0]) ∧ Hid (wr.ownsRow w1.heap.size 9 1 (.slice AP ps.length cP) ps.length (ps.flatMap encStr)) ∧ Ext w wr) (fun i _ => ps.length - (intOf i).toNat)
  case atStart => exact ⟨0, none, 0, [], Nat.zero_le _, rfl, Lib.hid rfl, Lib.hid rfl, Lib.hid (World.ownsRow_nil _ _ _ _), HO63, HO23, Lib.hid (owns_widen HOP.out (fun q e => by have := (HOP.out.lt q e).1; simp at this; omega)), HB3.out⟩
  case round =>
    clear HO63 HO23 HO62 HO22 HO2 HB3 HB1 HB2 HOP
    obtain ⟨k, A1, c1, acc, hk, rfl, HLEN, HACC, HOA, HO6, HO2, HOP, hb⟩ := hrel
    have hla : acc.length ≤ ps.length := by have := HLEN.out; omega
    obtain ⟨e60, e61, f60, f61, h6⟩ := box2_cells HO6.out
    by_cases hlt : k < ps.length
    · obtain ⟨bt, ot, t, rfl, hbt, hx, ct⟩ := str_at (OwnAt.flat encStr_size HOPK.out HOP.out).slAt hlt
      have HX := Lib.hid hx
      have hts : t.size ≤ 1048576 := by have := HPS.out t (List.mem_of_getElem? hx); omega
      obtain ⟨ta, tb, g1⟩ : ∃ ta tb, twoS t 58 oneT = (ta, tb) := ⟨_, _, rfl⟩
      obtain ⟨tl, th, g2⟩ : ∃ tl th, twoS ta 45 ta = (tl, th) := ⟨_, _, rfl⟩
      have q1 := two_size t 58 oneT
      rw [g1] at q1
      have q2 := two_size ta 45 ta
      rw [g2] at q2
      have e1s : oneT.size = 1 := rfl
      have hta : ta.size ≤ 1048576 := by have := q1.1; simp only [] at this; omega
      have htb : tb.size ≤ 1048577 := by have := q1.2; simp only [] at this; omega
      have htl : tl.size ≤ 1048576 := by have := q2.1; simp only [] at this; omega
      have hth : th.size ≤ 2097152 := by have := q2.2; simp only [] at this; omega
      have HTW1 := Lib.hid (fun u => two_c t 58 oneT u hts)
      rw [g1] at HTW1
      have HTW2 := Lib.hid (fun u => two_c ta 45 ta u hta)
      rw [g2] at HTW2
      have HSI := Lib.hid (spanI_parts g1 g2)
      have HN1 := Lib.hid (fun u => TextNum_c tl u (by unfold maxLen; omega))
      have HN2 := Lib.hid (fun u => TextNum_c th u (by unfold maxLen; omega))
      have HN3 := Lib.hid (fun u => TextNum_c tb u (by unfold maxLen; omega))
      have HX3 := Lib.hid (show (⟨(textN tl).1, (textN th).1, (textN tb).1⟩ : Span).ok from ⟨num_ok _, num_ok _, num_ok _⟩)
      have HA1 := Lib.hid (show acc ++ [⟨(textN tl).1, (textN th).1, (textN tb).1⟩] = (ps.take (k + 1)).map spanI by rw [take_succ hx, List.map_append, HACC.out, List.map_singleton, HSI.out])
      clear q1 q2 g1 g2 hx HSI
      generalize textN tl = v1 at *
      generalize textN th = v2 at *
      generalize textN tb = v3 at *
      go_wp2_with fail
      refine (HTW1.out _).mono ?_
      rintro e u1 ⟨rfl, hu1⟩
      go_wp2_with fail
      refine (HTW2.out _).mono ?_
      rintro e u2 ⟨rfl, hu2⟩
      have HU2 := Lib.hid (hu1.trans hu2)
      have hzu := HU2.out.le
      clear hu1 hu2 ct
      go_wp2_with fail
      refine (HN1.out _).mono ?_
      rintro e u3 ⟨rfl, hu3⟩
      have HY3 := Lib.hid (owns_ext (owns_box3 u2 (.int .i64 0) (.int .i64 0) (.int .i64 0) 46) hu3)
      have HU3 := Lib.hid (Ext.setCell (HU2.out.trans (((Ext.refl u2).alloc (.cells #[.int .i64 0, .int .i64 0, .int .i64 0] 46)).trans hu3)) (p := ⟨u2.heap.size, 0, none⟩) (by simp only []; omega) (.int .i64 v1.1))
      obtain ⟨y0, y1, y2, n0, n1, n2, hy⟩ := box3_cells HY3.out
      clear hu3
      go_wp2_with fail
      refine (HN2.out _).mono ?_
      rintro e u4 ⟨rfl, hu4⟩
      have HY4 := Lib.hid (show u4.ownsRow u2.heap.size 46 3 (.slice (some ⟨u2.heap.size, 0, none⟩) 1 1) 1 [.int .i64 v1.1, .int .i64 0, .int .i64 0] from owns_ext (HY3.out.stored 0 (.int .i64 v1.1)).1 hu4)
      have HU4 := Lib.hid (Ext.setCell (HU3.out.trans hu4) (p := ⟨u2.heap.size, 1, none⟩) (by simp only []; omega) (.int .i64 v2.1))
      clear hu4 y0 y1 y2 n0 n1 n2 hy
      obtain ⟨y0, y1, y2, n0, n1, n2, hy⟩ := box3_cells HY4.out
      go_wp2_with fail
      refine (HN3.out _).mono ?_
      rintro e u5 ⟨rfl, hu5⟩
      have HY5 := Lib.hid (show u5.ownsRow u2.heap.size 46 3 (.slice (some ⟨u2.heap.size, 0, none⟩) 1 1) 1 [.int .i64 v1.1, .int .i64 v2.1, .int .i64 0] from owns_ext (HY4.out.stored 1 (.int .i64 v2.1)).1 hu5)
      have HE5 := Lib.hid (HU4.out.trans hu5)
      have HU5 := Lib.hid (Ext.setCell HE5.out (p := ⟨u2.heap.size, 2, none⟩) (by simp only []; omega) (.int .i64 v3.1))
      clear hu5 y0 y1 y2 n0 n1 n2 hy
      obtain ⟨y0, y1, y2, n0, n1, n2, hy⟩ := box3_cells HY5.out
      obtain ⟨d60, d61, df0, df1, hd6⟩ := box2_cells (owns_ext HO6.out HE5.out)
      have hrz := HE5.out.le
      have HOA5 := Lib.hid (owns_ext HOA.out HU5.out)
      have HO65 := Lib.hid (owns_ext HO6.out HU5.out)
      have HO25 := Lib.hid (owns_ext HO2.out HU5.out)
      have HOP5 := Lib.hid (owns_ext HOP.out HU5.out)
      clear e60 e61 f60 f61
      go_wp2_with (at_builtin; go_must (refine wpList_append_r (enc := Span.enc) (ok := Span.ok) (.tmp 64) (.tmp 66) _ w1.heap.size 46 i0 _ 3 24 (.slice A1 acc.length c1) acc.length (acc.flatMap Span.enc) _ 1 1 [⟨v1.1, v2.1, v3.1⟩] rfl rfl Try.underlying23 hi hz0 hz1 hz2 rfl (by omega) rfl (owns_ext HOA5.out ((Ext.refl _).alloc _)) rfl (by exact sl_one_at (enc := Span.enc) (u5.setCell ⟨u2.heap.size, 2, none⟩ (.int .i64 v3.1)) u5.heap.size (by simp) (⟨v1.1, v2.1, v3.1⟩ : Span) 46 rfl HX3.out) Span.size Span.one (by unfold maxLen; omega) (by omega) (by simp; omega) ?_); intro A3 c3 w6 hr3; have hm60 : w6.cell? ⟨w1.heap.size, 0, none⟩ = some (.slice A1 acc.length c1) := hr3.cell ((((Ext.refl _).alloc (.cells #[.int .i64 v1.1, .int .i64 v2.1, .int .i64 v3.1] 46))).cell (box2_cells HO65.out).1) (fun e => own_apart HOA5.out HO65.out (by decide) _ e rfl); have hf60 : w6.frozen? ⟨w1.heap.size, 0, none⟩ = false := hr3.frozen ((((Ext.refl _).alloc (.cells #[.int .i64 v1.1, .int .i64 v2.1, .int .i64 v3.1] 46)).frozenEq (a := ⟨w1.heap.size, 0, none⟩) (by simp; omega)).trans (box2_cells HO65.out).2.2.1) (by simp; omega) (fun e => own_apart HOA5.out HO65.out (by decide) _ e rfl))
      have HR3 := Lib.hid hr3
      clear hr3 hm60 hf60 y0 y1 y2 n0 n1 n2 hy d60 d61 df0 df1 hd6
      have a2 := (Ext.refl (u5.setCell ⟨u2.heap.size, 2, none⟩ (.int .i64 v3.1))).alloc (.cells (Span.enc (⟨v1.1, v2.1, v3.1⟩ : Span)).toArray 46)
      have HA3 := Lib.hid (show w6.ownsRow w1.heap.size 46 3 (.slice A3 (acc.length + 1) c3) (acc.length + 1) ((acc ++ [(⟨v1.1, v2.1, v3.1⟩ : Span)]).flatMap Span.enc) from by have := HR3.out.row; rw [List.flatMap_append]; simpa using this)
      have H66 := Lib.hid (show (w6.setCell ⟨w1.heap.size, 0, none⟩ (.slice A3 (acc.length + 1) c3)).ownsRow w1.heap.size 25 2 (.slice (some ⟨w1.heap.size, 0, none⟩) 1 1) 1 [.slice A3 (acc.length + 1) c3, .int .i64 mv.1] from ((HR3.out.other (owns_ext HO65.out a2) (own_apart HO65.out HOA5.out (by decide))).stored 0 _).1)
      have H26 := Lib.hid (box_far (HR3.out.other (owns_ext HO25.out a2) (own_apart HO25.out HOA5.out (by decide))) (g := w1.heap.size) (p := 0) (u := .slice A3 (acc.length + 1) c3) (fun e => by have e1 : w.heap.size = w1.heap.size := Option.some.inj e; omega))
      have HP6 := Lib.hid (box_far (HR3.out.other (owns_ext HOP5.out a2) (own_apart HOP5.out HOA5.out (by decide))) (g := w1.heap.size) (p := 0) (u := .slice A3 (acc.length + 1) c3) (fun e => own_apart HOP5.out HO65.out (by decide) _ e rfl))
      have HA6 := Lib.hid (box_far HA3.out (g := w1.heap.size) (p := 0) (u := .slice A3 (acc.length + 1) c3) (fun e => own_apart HA3.out (HR3.out.other (owns_ext HO65.out a2) (own_apart HO65.out HOA5.out (by decide))) (by decide) _ e rfl))
      have HE6 := Lib.hid ((ext_turned ((hb.trans HU5.out).trans a2) (HR3.out.turned (lo := w.heap.size) (fun q e => by have := (HOA.out.lt q e).1; omega)) (Nat.le_refl _)).setCell (p := ⟨w1.heap.size, 0, none⟩) (by simp only []; omega) (.slice A3 (acc.length + 1) c3))
      clear a2
      go_roundw
      case rel => exact ⟨k + 1, A3, c3, acc ++ [(⟨v1.1, v2.1, v3.1⟩ : Span)], by omega, by go_num, Lib.hid (by rw [List.length_append, HLEN.out]; rfl), HA1, by simpa using HA6, by simpa using H66, H26, HP6, HE6.out⟩
      case measure => simp [intOf]; omega
    · have HK := Lib.hid (show acc = spansI s by rw [HACC.out, List.take_of_length_le (by omega), HSP.out])
      have hOK := Lib.hid (show ∀ x ∈ acc, x.ok from fun x hx => by
        rw [HACC.out] at hx
        obtain ⟨t, _, rfl⟩ := List.mem_map.1 hx
        exact spanI_ok t)
      have HST := Lib.hid (SpecText_c acc mv.1 A1 acc.length c1 wr (OwnAt.flat Span.size hOK.out HOA.out).slAt (by unfold maxLen; omega))
      obtain ⟨r20, r21, s20, s21, hr2⟩ := box2_cells HO2.out
      have HMO2 := HMO.out
      by_cases h0 : s = ByteArray.empty
      · have hq : s.toList.isEmpty = true := by rw [h0, ByteArray.toList_eq]; rfl
        have HNO := Lib.hid (show specI s = (⟨[], 0⟩, false) from specI_no (fun h => h.1 (by rw [h0]; rfl)))
        clear h0 HMO2
        go_wp2
        rw [HNO.out]
        exact bodyPost_ret (by simp [results, Try.results7, go_sem, r20, r21] <;> rfl) rfl ⟨none, 0, rfl, World.ownsRow_nil _ _ _ _, (fun x hx => by cases hx), by repeat (first | with_reducible exact hb | with_reducible refine Ext.setCell ?_ (by simp only []; omega) _)⟩
      · have hq : s.toList.isEmpty = false := by
          rw [Bool.eq_false_iff]
          intro e
          exact h0 (bytes_inj.1 ((List.isEmpty_iff.1 e).trans (by rw [ByteArray.toList_eq]; rfl)))
        have hs0 : s.size ≠ 0 := fun e => h0 (toL_inj (List.eq_nil_of_length_eq_zero (by rw [toL_len]; exact e)))
        rcases Classical.em (specText acc mv.1 = s) with he | he
        · have HYES := Lib.hid (show specI s = (⟨acc, mv.1⟩, true) by rw [specI_yes hs0 (by rw [← HK.out, HMO2]; exact he), ← HK.out, HMO2])
          have hq2 := str_beq_true he
          generalize specText acc mv.1 = tx at *
          clear he h0 hs0 HMO2
          go_wp2_with fail
          refine HST.out.mono ?_
          rintro e w7 ⟨rfl, hb7⟩
          obtain ⟨r20, r21, s20, s21, hr2⟩ := box2_cells (owns_ext HO2.out hb7)
          obtain ⟨k60, k61, j60, j61, hj6⟩ := box2_cells (owns_ext HO6.out hb7)
          have HFR := Lib.hid (box_far (box_far (owns_ext HOA.out hb7) (g := w.heap.size) (p := 0) (u := .slice A1 acc.length c1) (fun e => own_apart HOA.out HO2.out (by decide) _ e rfl)) (g := w.heap.size) (p := 1) (u := .int .i64 mv.1) (fun e => own_apart HOA.out HO2.out (by decide) _ e rfl))
          go_wp2
          rw [HYES.out]
          exact bodyPost_ret (by simp [results, Try.results7, go_sem, r20, r21] <;> rfl) rfl ⟨A1, c1, rfl, owns_base HFR.out (by omega), hOK.out, by repeat (first | with_reducible exact hb.trans hb7 | with_reducible refine Ext.setCell ?_ (by simp only []; omega) _)⟩
        · have HNO := Lib.hid (show specI s = (⟨[], 0⟩, false) from specI_no (fun h => he (by rw [HK.out, ← HMO2]; exact h.2)))
          have hq2 := str_beq_false he
          generalize specText acc mv.1 = tx at *
          clear he h0 hs0 HMO2
          go_wp2_with fail
          refine HST.out.mono ?_
          rintro e w7 ⟨rfl, hb7⟩
          obtain ⟨r20, r21, s20, s21, hr2⟩ := box2_cells (owns_ext HO2.out hb7)
          go_wp2
          rw [HNO.out]
          exact bodyPost_ret (by simp [results, Try.results7, go_sem, r20, r21] <;> rfl) rfl ⟨none, 0, rfl, World.ownsRow_nil _ _ _ _, (fun x hx => by cases hx), by repeat (first | with_reducible exact hb.trans hb7 | with_reducible refine Ext.setCell ?_ (by simp only []; omega) _)⟩
end Go.Proofs.Ytlaoflpgngfbpaa
