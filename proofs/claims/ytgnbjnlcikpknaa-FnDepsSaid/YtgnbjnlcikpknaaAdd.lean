/- Contracts: a dependency is added, the given program. -/
import Derived.Test.YtgnbjnlcikpknaaAddSpec
import Derived.Test.YtgnbjnlcikpknaaSortD
namespace Go.Proofs.Ytgnbjnlcikpknaa
open Go.RowKit
set_option linter.unusedVariables false
attribute [local go_sem ↓] run_dep_eq run_dep_guard
def idxD (d : Dep) : List Dep → Nat → Int
  | [], _ => -1
  | a :: r, k => if sameD d a = true then k else idxD d r (k + 1)
theorem idxD_ge (d : Dep) (l : List Dep) : ∀ k : Nat, (decide (0 ≤ idxD d l k)) = l.any (sameD d) := by
  induction l with
  | nil => intro k; rfl
  | cons a r ih =>
    intro k
    rw [idxD]
    by_cases h : sameD d a = true
    · rw [if_pos h, List.any_cons, h, Bool.true_or, decide_eq_true_iff]; omega
    · rw [if_neg h, ih, List.any_cons, Bool.eq_false_iff.2 h, Bool.false_or]
theorem sameD_symm (d x : Dep) : (d.Id == x.Id && d.For == x.For) = sameD d x := by
  unfold sameD; rw [Bool.eq_iff_iff]; simp only [Bool.and_eq_true, beq_iff_eq]; omega
set_option maxHeartbeats 1000000 in
theorem IndexD_c (xs : List Dep) (d : Dep) (A : Option Addr) (n c : Nat) (w : World) (h : SlAt RDep 2 w A n xs) (hl : n ≤ maxLen) : Calls Try.prog 58 #[.slice A n c, .agg #[.int .i64 d.Id, .int .i64 d.For]] w (Ret w (.int .i64 (idxD d xs 0))) := by
  unfold maxLen at hl
  have HN := Lib.hid h.len
  go_enter Try.func58, Try.ntmps58
  go_wp2
  go_loopw [8] (fun i wr => ∃ k : Nat, k ≤ n ∧ i = .int .i64 k ∧ Ext (w.alloc (.cells #[.int .i64 d.Id, .int .i64 d.For] 31)) wr ∧ Hid (idxD d xs 0 = idxD d (xs.drop k) k)) (fun i _ => n - (intOf i).toNat)
  case atStart => exact ⟨0, Nat.zero_le _, rfl, Ext.refl _, Lib.hid rfl⟩
  case round =>
    obtain ⟨k, hk, rfl, hb, HE⟩ := hrel
    have q0 := hb.cell (law_box w [.int .i64 d.Id, .int .i64 d.For] 31 0 _ rfl)
    have q1 := hb.cell (law_box w [.int .i64 d.Id, .int .i64 d.For] 31 1 _ rfl)
    have hsz := lt_of_cell q0
    have eW : Ext w wr := ((Ext.refl w).alloc _).trans hb
    by_cases hlt : k < n
    · obtain ⟨b, o, x, cs, rfl, hbw, hx, _, hc, rfl, _⟩ := (h.ext (Flat.mono _ _) eW).at_ hlt
      have c0 := hc 0 _ rfl
      have c1 := hc 1 _ rfl
      simp only [Nat.add_zero] at c0
      have HX := Lib.hid hx
      have HB := Lib.hid hb
      have HW := Lib.hid eW
      have HSM := Lib.hid (sameD_symm d x)
      have hcx := @Later.cell wr
      clear hc hx h hb eW
      rcases Bool.eq_false_or_eq_true (d.Id == x.Id && d.For == x.For) with h1 | h1
      · have H1 := Lib.hid (show idxD d (x :: xs.drop (k + 1)) k = k by rw [idxD, if_pos (by rw [← HSM.out, h1])])
        go_wp2
        refine wp_region_ext (by kernel_rfl) (by kernel_rfl) ?_
        repeat (go_big_quiet_step (fail))
        refine wpQuiet_nil ?_
        intro w1 hb1
        have HB1 := Lib.hid hb1
        clear hcx c0 c1 q0 q1 hb1
        go_wp2
        exact ret_int rfl rfl rfl (by rw [HE.out, drop_cons HX.out, H1.out]) (HW.out.trans HB1.out)
      · have H1 := Lib.hid (show idxD d (x :: xs.drop (k + 1)) k = idxD d (xs.drop (k + 1)) (k + 1) by rw [idxD, if_neg (by rw [← HSM.out, h1]; simp)])
        go_wp2
        refine wp_region_ext (by kernel_rfl) (by kernel_rfl) ?_
        repeat (go_big_quiet_step (fail))
        refine wpQuiet_nil ?_
        intro w1 hb1
        have HB1 := Lib.hid hb1
        clear hcx c0 c1 q0 q1 hb1
        go_wp2
        go_roundw
        case rel => exact ⟨k + 1, by omega, by go_num, HB.out.trans HB1.out, Lib.hid (by rw [HE.out, drop_cons HX.out, H1.out])⟩
        case measure => simp [intOf]; omega
    · go_wp2
      exact ret_int rfl rfl rfl (by rw [HE.out, List.drop_eq_nil_of_le (by have := HN.out; omega)]; rfl) eW
theorem ContainsD_c (xs : List Dep) (d : Dep) (A : Option Addr) (n c : Nat) (w : World) (h : SlAt RDep 2 w A n xs) (hl : n ≤ maxLen) : Calls Try.prog 44 #[.slice A n c, .agg #[.int .i64 d.Id, .int .i64 d.For]] w (Ret w (.bool (xs.any (sameD d)))) := by
  have HN := Lib.hid (idxD_ge d xs 0)
  have HC := Lib.hid (IndexD_c xs d A n c (w.alloc (.cells #[.int .i64 d.Id, .int .i64 d.For] 31)) (h.ext (Flat.mono _ _) ((Ext.refl w).alloc _)) hl)
  rw [← HN.out]
  generalize idxD d xs 0 = ix at *
  go_enter Try.func44, Try.ntmps44
  go_wp2_with fail
  refine HC.out.mono ?_
  rintro e w1 ⟨rfl, hb1⟩
  go_wp2
  exact ret_bool rfl rfl rfl rfl (((Ext.refl w).alloc _).trans hb1)
set_option maxHeartbeats 8000000 in
set_option maxRecDepth 8000 in
theorem DepsAdd_c (xs : List Dep) (d : Dep) (A : Option Addr) (n c : Nat) (w : World) (h : SlAt RDep 2 w A n xs) (hl : n ≤ maxLen) (hd : d.ok) : Calls Try.prog 12 #[.slice A n c, .agg #[.int .i64 d.Id, .int .i64 d.For]] w (RetOwnI RDep 31 2 w (depsAddL xs d) (depsAddC xs d)) := by
  have hl' := hl
  unfold maxLen at hl
  obtain rfl := h.len
  have hM := Flat.mono Dep.enc Dep.ok
  obtain ⟨i0, hi, hI0, hI1, hI2⟩ := info_parts Dep.info
  have HS := Lib.hid (fun (u : World) (e : Ext w u) => h.ext hM e)
  have HALL := Lib.hid h.all
  have HD := Lib.hid (fun (u : World) (e : Ext w u) => DepsOk_c xs A xs.length c u (h.ext hM e) hl')
  have HCN := Lib.hid (fun (u : World) (e : Ext w u) => ContainsD_c xs d A xs.length c u (h.ext hM e) hl')
  have HLen := Lib.hid (fun e : depsB xs = true => add_len e)
  have HC1 := Lib.hid (fun e => add_one (l := xs) (d := d) e)
  have HC2 := Lib.hid (fun a b e => add_two (l := xs) (d := d) a b e)
  have HC3 := Lib.hid (fun a b e f => add_three (l := xs) (d := d) a b e f)
  have HC4 := Lib.hid (fun a b e f g => add_four (l := xs) (d := d) a b e f g)
  have HC0 := Lib.hid (fun a b e f g => add_zero (l := xs) (d := d) a b e f g)
  have HOKI := Lib.hid (show ∀ y ∈ insD d xs, y.ok from fun y hy => by
    rcases insD_mem y hy with rfl | hy
    · exact hd
    · exact HALL.out y hy)
  have HLI := Lib.hid (show (insD d xs).length = xs.length + 1 by rw [insD_len])
  have HR := Lib.hid (fun (A' : Option Addr) (c' : Nat) (u : World) (e : SlAt RDep 2 u A' (xs.length + 1) (insD d xs)) (e' : xs.length + 1 ≤ maxLen) => Round_c (insD d xs) A' (xs.length + 1) c' u e e')
  generalize depsAddL xs d = yl at *
  generalize depsAddC xs d = yc at *
  have hE : Ext w (w.alloc (.cells #[.int .i64 d.Id, .int .i64 d.For] 31)) := (Ext.refl w).alloc _
  have HWW := Lib.hid hE
  clear h hl'
  rcases (Bool.eq_false_or_eq_true (depsB xs)).symm with h1 | h1
  · rw [h1] at HD
    obtain ⟨E1, E2⟩ := HC1.out (.inl h1)
    subst E1 E2
    clear h1 HC1 HC2 HC3 HC4 HC0
    go_enter Try.func12, Try.ntmps12
    go_wp2_with fail
    refine (HD.out _ hE).mono ?_
    rintro e w1 ⟨rfl, hb1⟩
    go_wp2
    exact ret_ownI (ys := []) rfl (World.ownsRow_nil _ _ _ _) rfl Dep.size (fun y hy => by cases hy) (hE.trans hb1)
  rcases (Bool.eq_false_or_eq_true (depOkB d)).symm with h2 | h2
  all_goals
    rw [h1] at HD
    have H1 := Lib.hid h1
    have H2 := Lib.hid h2
    have HDO := Lib.hid (fun (u : World) => depOk_c d u)
    rw [h2] at HDO
    clear h1 h2
    go_enter Try.func12, Try.ntmps12
    go_wp2_with fail
    refine (HD.out _ hE).mono ?_
    rintro e w1 ⟨rfl, hb1⟩
    have q0 := hb1.cell (law_box w [.int .i64 d.Id, .int .i64 d.For] 31 0 _ rfl)
    have q1 := hb1.cell (law_box w [.int .i64 d.Id, .int .i64 d.For] 31 1 _ rfl)
    have hs1 := lt_of_cell q0
    go_wp2_with fail
    refine (HDO.out _).mono ?_
    rintro e w2 ⟨rfl, hb2⟩
  · obtain ⟨E1, E2⟩ := HC1.out (.inr H2.out)
    subst E1 E2
    clear HC1 HC2 HC3 HC4 HC0
    go_wp2
    exact ret_ownI (ys := []) rfl (World.ownsRow_nil _ _ _ _) rfl Dep.size (fun y hy => by cases hy) (hE.trans (hb1.trans hb2))
  have hn100 := HLen.out H1.out
  have HB12 := Lib.hid (hb1.trans hb2)
  have q0 := hb2.cell q0
  have q1 := hb2.cell q1
  have hs2 := lt_of_cell q0
  rcases (Bool.eq_false_or_eq_true (xs.any (sameD d))).symm with h3 | h3
  all_goals
    rw [h3] at HCN
    have H3 := Lib.hid h3
    clear h3 hb1 hb2 hs1
    go_wp2_with fail
    refine (HCN.out _ (HWW.out.trans HB12.out)).mono ?_
    rintro e w3 ⟨rfl, hb3⟩
  rotate_left
  · obtain ⟨E1, E2⟩ := HC2.out H1.out H2.out H3.out
    subst E1 E2
    clear HC1 HC2 HC3 HC4 HC0
    go_wp2
    exact ret_ownI (ys := []) rfl (World.ownsRow_nil _ _ _ _) rfl Dep.size (fun y hy => by cases hy) (HWW.out.trans (HB12.out.trans hb3))
  have q0 := hb3.cell q0
  have q1 := hb3.cell q1
  have hs3 := lt_of_cell q0
  have HX0 := Lib.hid (HB12.out.trans hb3)
  clear hb3 hs2 hE
  rcases (Bool.eq_false_or_eq_true ((xs.length : Int) == 100)).symm with h5 | h5
  rotate_left
  · obtain ⟨E1, E2⟩ := HC3.out H1.out H2.out H3.out (by have := beq_iff_eq.1 h5; omega)
    subst E1 E2
    clear HC1 HC2 HC3 HC4 HC0
    go_wp2
    exact ret_ownI (ys := []) rfl (World.ownsRow_nil _ _ _ _) rfl Dep.size (fun y hy => by cases hy) (HWW.out.trans HX0.out)
  have HNE := Lib.hid (show xs.length ≠ 100 by have := beq_eq_false_iff_ne.1 h5; omega)
  have HX2 := Lib.hid (show Ext (w.alloc (.cells #[.int .i64 d.Id, .int .i64 d.For] 31)) w3.drew from HX0.out.drew)
  have HK := Lib.hid (fun (u : World) (e : Ext (w.alloc (.cells #[.int .i64 d.Id, .int .i64 d.For] 31)) u) => show Ext (w.alloc (.cells #[.int .i64 d.Id, .int .i64 d.For] 31)) u ∧ u.cell? ⟨w.heap.size, 0, none⟩ = some (.int .i64 d.Id) ∧ u.cell? ⟨w.heap.size, 1, none⟩ = some (.int .i64 d.For) from ⟨e, e.cell (law_box w [.int .i64 d.Id, .int .i64 d.For] 31 0 _ rfl), e.cell (law_box w [.int .i64 d.Id, .int .i64 d.For] 31 1 _ rfl)⟩)
  have HSORT := Lib.hid (fun (base g c' : Nat) (u : World) => SortDeps_c xs d H1.out H2.out base g (xs.length + 1) c' u rfl)
  rcases (Bool.eq_false_or_eq_true (roundB (insD d xs))).symm with h4 | h4
  all_goals
    have H4 := Lib.hid h4
    rw [h4] at HR
    clear h4 q0 q1
    go_wp2
    go_region_held3 (fun u => Ext (w.alloc (.cells #[.int .i64 d.Id, .int .i64 d.For] 31)) u ∧ u.cell? ⟨w.heap.size, 0, none⟩ = some (.int .i64 d.Id) ∧ u.cell? ⟨w.heap.size, 1, none⟩ = some (.int .i64 d.For)) ((refine HK.out _ ?_; first | exact HX2.out | assumption | exact HX2.out.alloc _ | exact (HX2.out.alloc _).alloc _ | exact hx3.alloc _)) (first
      | (refine step_append_list (w0 := (w.alloc (.cells #[.int .i64 d.Id, .int .i64 d.For] 31))) (by rfl) _ _ _ (by rfl) w3.heap.size 31 i0 _ 2 16 Try.underlying23 hi hI0 hI1 hI2 rfl (by omega) _ 0 [] A xs.length c xs xs.length (by simp) (by rfl) (by rfl) (by first | exact owns_empty w3.drew 31 2 | exact (owns_empty w3.drew 31 2).alloc _ | exact owns_base (owns_empty_at (w3.drew.alloc (.cells #[.int .i64 d.Id, .int .i64 d.For] 31)) (w3.heap.size + 1) (by simp) 31 2) (by simp)) (HS.out _ (HWW.out.trans (by first | exact HX2.out.alloc _ | exact (HX2.out.alloc _).alloc _))) Dep.size Dep.one (by unfold maxLen; omega) (by omega) (by first | exact HX2.out.alloc _ | exact (HX2.out.alloc _).alloc _) (by exact HX0.out.le) (by simp; try omega) ?_; intro A3 c3 w4 ho3 hx3 hz3 hg3; simp only [List.nil_append] at ho3)
      | (refine step_append_list (w0 := (w.alloc (.cells #[.int .i64 d.Id, .int .i64 d.For] 31))) (by rfl) _ _ _ (by rfl) w3.heap.size 31 i0 _ 2 16 Try.underlying23 hi hI0 hI1 hI2 rfl (by omega) _ xs.length _ _ 1 1 [d] (xs.length + 1) rfl (by rfl) (by rfl) (by first | exact ho3 | exact ho3.alloc _) (by first | exact sl_box (enc := Dep.enc) w4 d 31 rfl hd | exact SlAt.far (enc := Dep.enc) (sl_box_at (enc := Dep.enc) (w3.drew.alloc (.cells #[] 31)) (w3.heap.size + 1) (by simp) d 31 rfl hd) hg3 (by show some w3.heap.size ≠ some (w3.heap.size + 1); simp) | exact SlAt.far (enc := Dep.enc) ((sl_box (enc := Dep.enc) w3.drew d 31 rfl hd).ext (Flat.mono Dep.enc Dep.ok) ((Ext.refl _).alloc _)) hg3 (by show some (w3.heap.size + 1) ≠ some w3.heap.size; simp)) Dep.size Dep.one (by unfold maxLen; omega) (by omega) (by first | exact hx3 | exact hx3.alloc _) (by exact HX0.out.le) (by have := hz3; simp at this ⊢; omega) ?_; intro A4 c4 w5 ho4 hx4 hz4 hg4))
    all_goals
      obtain ⟨g, cap, e1, hgb, hgl⟩ := own_form ho4 (by omega)
      injection e1 with e1 _ e3
      subst e1 e3
      have HO4 := Lib.hid (show w5.ownsRow w3.heap.size 31 2 (.slice (some ⟨g, 0, none⟩) (xs.length + 1) c4) (xs.length + 1) ((xs ++ [d]).flatMap Dep.enc) by rw [List.flatMap_append]; exact ho4)
      have HX4 := Lib.hid hx4
      clear ho4 ho3 hx3 hz3 hg3 hx4 hz4 hg4
      go_wp2_with fail
      refine (HSORT.out w3.heap.size g c4 _ HO4.out hgl).mono ?_
      rintro e w6 ⟨rfl, ho6, hg6⟩
      have HO6 := Lib.hid ho6
      have HX6 := Lib.hid (show Ext w w6 from Below.grown (HWW.out.trans HX4.out) hg6 (HWW.out.trans HX4.out).le (fun k hk => by injection hk with hk; subst hk; have := (HWW.out.trans HX0.out).le; omega))
      clear ho6 hg6
      go_wp2_with fail
      refine (HR.out _ _ _ (own_sl HO6.out HLI.out HOKI.out) (by unfold maxLen; omega)).mono ?_
      rintro e w7 ⟨rfl, hb7⟩
  all_goals first
    | (obtain ⟨E1, E2⟩ := HC0.out H1.out H2.out H3.out HNE.out H4.out; subst E1 E2; clear HC1 HC2 HC3 HC4 HC0; go_wp2; exact ret_ownI rfl (owns_base (owns_ext HO6.out hb7) (by have := (HWW.out.trans HX0.out).le; omega)) HLI.out Dep.size HOKI.out (HX6.out.trans hb7))
    | (obtain ⟨E1, E2⟩ := HC4.out H1.out H2.out H3.out HNE.out H4.out; subst E1 E2; clear HC1 HC2 HC3 HC4 HC0; go_wp2; exact ret_ownI (ys := []) rfl (World.ownsRow_nil _ _ _ _) rfl Dep.size (fun y hy => by cases hy) (HX6.out.trans hb7))
end Go.Proofs.Ytgnbjnlcikpknaa
