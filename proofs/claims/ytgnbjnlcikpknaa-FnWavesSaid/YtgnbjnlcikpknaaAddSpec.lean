/- Contracts: a dependency is added, the spec's way. -/
import Derived.Test.YtgnbjnlcikpknaaAppendD
import Derived.Test.YtgnbjnlcikpknaaAddLaw
namespace Go.Proofs.Ytgnbjnlcikpknaa
open Go.RowKit
set_option linter.unusedVariables false
attribute [local go_sem ↓] run_dep_eq run_dep_guard
/-- A call hands back a slice in new memory that reads as xs, and a number. -/
def RetOwnI {α : Type} (R : Rel α) (e : TypeId) (sz : Nat) (w : World) (xs : List α) (z : Int) : Ending → World → Prop :=
  fun en w' => ∃ A c, en = .returned (.tuple #[.slice A xs.length c, .int .i64 z]) ∧ OwnAt R e sz w' w.heap.size (.slice A xs.length c) xs ∧ Ext w w'
theorem ret_ownI {α : Type} {w w0 : World} {P : Program} {fn : Func} {a : Act} {t u : Tmp} {enc : α → List Value} {ok : α → Prop} {e : TypeId} {sz n c : Nat} {A : Option Addr} {ys : List α} {z : Int} (hr : fn.results = #[.tmp t, .tmp u])
    (hown : w.ownsRow w0.heap.size e sz (.slice A n c) n (ys.flatMap enc)) (hlen : ys.length = n) (hsz : ∀ x, (enc x).length = sz) (hok : ∀ x ∈ ys, ok x)
    (hb : Ext w0 w) (hv : a.tmps.getD t undef = .slice A n c := by rfl) (hu : a.tmps.getD u undef = .int .i64 z := by rfl) (hd : a.defers = [] := by rfl) : bodyPost P fn (RetOwnI (Flat enc ok) e sz w0 ys z) .ret a w := by
  subst hlen
  exact bodyPost_ret (results_tmp2 hr _ _ _) hd ⟨A, c, by rw [hv, hu], OwnAt.flat hsz hok hown, hb⟩
theorem dep_ok {d : Dep} (h : depOkB d = true) : d.ok := by
  unfold depOkB at h; rw [decide_eq_true_iff] at h
  exact ⟨by unfold In64; omega, by unfold In64; omega⟩
theorem depsB_one (d : Dep) : depsB [d] = depOkB d := by unfold depsB; simp [depsGo]
theorem add_len {l : List Dep} (h : depsB l = true) : l.length ≤ 100 := by
  unfold depsB at h; rw [Bool.and_eq_true, decide_eq_true_iff] at h; exact h.2
theorem add_one {l : List Dep} {d : Dep} (h : depsB l = false ∨ depOkB d = false) : depsAddC l d = 1 ∧ depsAddL l d = [] := by
  have : depsAddC l d = 1 := by
    unfold depsAddC; rw [if_neg]; rcases h with h | h <;> rw [h] <;> simp
  exact ⟨this, by unfold depsAddL; rw [this]; rfl⟩
theorem add_two {l : List Dep} {d : Dep} (h : depsB l = true) (h1 : depOkB d = true) (h2 : l.any (sameD d) = true) : depsAddC l d = 2 ∧ depsAddL l d = [] := by
  have : depsAddC l d = 2 := by unfold depsAddC; rw [h, h1, h2]; rfl
  exact ⟨this, by unfold depsAddL; rw [this]; rfl⟩
theorem add_three {l : List Dep} {d : Dep} (h : depsB l = true) (h1 : depOkB d = true) (h2 : l.any (sameD d) = false) (h3 : l.length = 100) : depsAddC l d = 3 ∧ depsAddL l d = [] := by
  have : depsAddC l d = 3 := by unfold depsAddC; rw [h, h1, h2]; simp [h3]
  exact ⟨this, by unfold depsAddL; rw [this]; rfl⟩
theorem add_four {l : List Dep} {d : Dep} (h : depsB l = true) (h1 : depOkB d = true) (h2 : l.any (sameD d) = false) (h3 : l.length ≠ 100) (h4 : roundB (insD d l) = true) : depsAddC l d = 4 ∧ depsAddL l d = [] := by
  have : depsAddC l d = 4 := by unfold depsAddC; rw [h, h1, h2]; simp [h3, h4]
  exact ⟨this, by unfold depsAddL; rw [this]; rfl⟩
theorem add_zero {l : List Dep} {d : Dep} (h : depsB l = true) (h1 : depOkB d = true) (h2 : l.any (sameD d) = false) (h3 : l.length ≠ 100) (h4 : roundB (insD d l) = false) : depsAddC l d = 0 ∧ depsAddL l d = insD d l := by
  have : depsAddC l d = 0 := by unfold depsAddC; rw [h, h1, h2]; simp [h3, h4]
  exact ⟨this, by unfold depsAddL; rw [this]; rfl⟩
theorem fold_len {d : Dep} {l acc : List Dep} {dn : Bool} (h : l.foldl (stepD d) ([], false) = (acc, dn)) : acc.length ≤ l.length + 1 := by
  have := step_len d l ([], false); rw [h] at this; simpa using this
theorem fold_ok {d : Dep} (hd : d.ok) : ∀ {l : List Dep} {s t : List Dep × Bool}, (∀ x ∈ l, x.ok) → (∀ x ∈ s.1, x.ok) → l.foldl (stepD d) s = t → ∀ x ∈ t.1, x.ok := by
  intro l
  induction l with
  | nil => intro s t _ hs h; rw [← h]; exact hs
  | cons a r ih =>
    intro s t hl hs h
    refine ih (s := stepD d s a) (fun x hx => hl x (List.mem_cons_of_mem _ hx)) ?_ h
    have ha := hl a (List.mem_cons_self ..)
    intro x hx
    unfold stepD at hx
    split at hx
    · rcases List.mem_append.1 hx with hx | hx
      · rcases List.mem_append.1 hx with hx | hx
        · exact hs x hx
        · rw [List.mem_singleton.1 hx]; exact hd
      · rw [List.mem_singleton.1 hx]; exact ha
    · rcases List.mem_append.1 hx with hx | hx
      · exact hs x hx
      · rw [List.mem_singleton.1 hx]; exact ha
theorem own_sl {w : World} {base n c : Nat} {e : TypeId} {A : Option Addr} {l : List Dep} (h : w.ownsRow base e 2 (.slice A n c) n (l.flatMap Dep.enc)) (hn : l.length = n) (hok : ∀ y ∈ l, y.ok) : SlAt RDep 2 w A n l := by
  subst hn
  exact (OwnAt.flat Dep.size hok h).slAt
theorem sl_boxD (w : World) (x : Dep) (e : TypeId) (hx : x.ok) : SlAt RDep 2 (w.alloc (.cells #[.int .i64 x.Id, .int .i64 x.For] e)) (some ⟨w.heap.size, 0, none⟩) 1 [x] := sl_box (enc := Dep.enc) w x e rfl hx
set_option maxHeartbeats 8000000 in
set_option maxRecDepth 8000 in
theorem sDepsAdd_c (xs : List Dep) (d : Dep) (A : Option Addr) (n c : Nat) (w : World) (h : SlAt RDep 2 w A n xs) (hl : n ≤ maxLen) (hd : d.ok) : Calls Try.prog 13 #[.slice A n c, .agg #[.int .i64 d.Id, .int .i64 d.For]] w (RetOwnI RDep 31 2 w (depsAddL xs d) (depsAddC xs d)) := by
  have hl' := hl
  unfold maxLen at hl
  have HN := Lib.hid h.len
  have hM := Flat.mono Dep.enc Dep.ok
  obtain ⟨i0, hi, hI0, hI1, hI2⟩ := info_parts Dep.info
  have HS := Lib.hid (fun (u : World) (e : Ext w u) => h.ext hM e)
  have HALL := Lib.hid h.all
  have HD := Lib.hid (fun (u : World) (e : Ext w u) => sDepsOk_c xs A n c u (h.ext hM e) hl')
  have HD1 := Lib.hid (fun (u : World) => sDepsOk_c [d] (some ⟨u.heap.size, 0, none⟩) 1 1 (u.alloc (.cells #[.int .i64 d.Id, .int .i64 d.For] 31)) (sl_boxD u d _ hd) (by unfold maxLen; omega))
  have HOKD := Lib.hid hd
  have HLen := Lib.hid (fun e : depsB xs = true => add_len e)
  have HC1 := Lib.hid (fun e => add_one (l := xs) (d := d) e)
  have HC2 := Lib.hid (fun a b e => add_two (l := xs) (d := d) a b e)
  have HC3 := Lib.hid (fun a b e f => add_three (l := xs) (d := d) a b e f)
  have HC4 := Lib.hid (fun a b e f g => add_four (l := xs) (d := d) a b e f g)
  have HC0 := Lib.hid (fun a b e f g => add_zero (l := xs) (d := d) a b e f g)
  rw [depsB_one] at HD1
  generalize depsAddL xs d = yl at *
  generalize depsAddC xs d = yc at *
  have hE : Ext w (w.alloc (.cells #[.int .i64 d.Id, .int .i64 d.For] 31)) := (Ext.refl w).alloc _
  clear h hl' hd
  rcases (Bool.eq_false_or_eq_true (depsB xs)).symm with h1 | h1
  · rw [h1] at HD
    obtain ⟨E1, E2⟩ := HC1.out (.inl h1)
    subst E1 E2
    clear h1 HC1 HC2 HC3 HC4 HC0
    go_enter Try.func13, Try.ntmps13
    go_wp2_with fail
    refine (HD.out _ hE).mono ?_
    rintro e w1 ⟨rfl, hb1⟩
    go_wp2
    exact ret_ownI (ys := []) rfl (World.ownsRow_nil _ _ _ _) rfl Dep.size (fun y hy => by cases hy) (hE.trans hb1)
  rcases (Bool.eq_false_or_eq_true (depOkB d)).symm with h2 | h2
  all_goals
    rw [h1] at HD
    rw [h2] at HD1
    have H1 := Lib.hid h1
    have H2 := Lib.hid h2
    clear h1 h2
    go_enter Try.func13, Try.ntmps13
    go_wp2_with fail
    refine (HD.out _ hE).mono ?_
    rintro e w1 ⟨rfl, hb1⟩
    have q0 := hb1.cell (law_box w [.int .i64 d.Id, .int .i64 d.For] 31 0 _ rfl)
    have q1 := hb1.cell (law_box w [.int .i64 d.Id, .int .i64 d.For] 31 1 _ rfl)
    have hs1 := lt_of_cell q0
    go_wp2_with fail
    refine (HD1.out _).mono ?_
    rintro e w2 ⟨rfl, hb2⟩
  · obtain ⟨E1, E2⟩ := HC1.out (.inr H2.out)
    subst E1 E2
    clear HC1 HC2 HC3 HC4 HC0
    go_wp2
    exact ret_ownI (ys := []) rfl (World.ownsRow_nil _ _ _ _) rfl Dep.size (fun y hy => by cases hy) (hE.trans (hb1.trans ((Ext.refl w1).alloc _ |>.trans hb2)))
  have HQ0 := Lib.hid (fun (u : World) (e : Ext w2 u) => e.cell (hb2.cell (((Ext.refl w1).alloc (.cells #[.int .i64 d.Id, .int .i64 d.For] 31)).cell q0)))
  have HQ1 := Lib.hid (fun (u : World) (e : Ext w2 u) => e.cell (hb2.cell (((Ext.refl w1).alloc (.cells #[.int .i64 d.Id, .int .i64 d.For] 31)).cell q1)))
  have HW2 := Lib.hid (hE.trans (hb1.trans (((Ext.refl w1).alloc (.cells #[.int .i64 d.Id, .int .i64 d.For] 31)).trans hb2)))
  have hz2 : w.heap.size < w2.heap.size := lt_of_cell (HQ0.out w2 (Ext.refl _))
  have hn100 := HLen.out H1.out
  rw [HN.out] at hn100
  have HO0 := Lib.hid (owns_empty w2 31 2)
  clear q0 q1 hs1 hb1 hb2 hE HC1 HLen
  go_wp2
  go_loopw [6, 7, 22] (fun ov dv iv wr => ∃ (k : Nat) (A1 : Option Addr) (c1 : Nat) (acc : List Dep) (dn : Bool), k ≤ n ∧ iv = .int .i64 k ∧ dv = .bool dn ∧ ov = .slice A1 acc.length c1 ∧ acc.length ≤ k + 1 ∧ Hid (wr.ownsRow w2.heap.size 31 2 (.slice A1 acc.length c1) acc.length (acc.flatMap Dep.enc)) ∧ Ext w2 wr ∧ Hid ((xs.take k).foldl (stepD d) ([], false) = (acc, dn)) ∧ Hid ((xs.take k).any (sameD d) = false)) (fun _ _ iv _ => n - (intOf iv).toNat)
  case atStart => exact ⟨0, _, 0, [], false, Nat.zero_le _, rfl, rfl, rfl, by simp, Lib.hid (by simpa using HO0.out), (Ext.refl _).alloc _, Lib.hid rfl, Lib.hid rfl⟩
  case round =>
    obtain ⟨k, A1, c1, acc, dn, hk, rfl, rfl, rfl, hac, HO, hb, HF, HA⟩ := hrel
    have q0 := HQ0.out wr hb
    have q1 := HQ1.out wr hb
    have hsw := hb.le
    have hsz0 : w.heap.size < wr.heap.size := lt_of_cell q0
    by_cases hlt : k < n
    · obtain ⟨b, o, x, cs, rfl, hbw, hx, _, hc, rfl, hok⟩ := (HS.out wr (HW2.out.trans hb)).at_ hlt
      have c0 := hc 0 _ rfl
      have c1 := hc 1 _ rfl
      simp only [Nat.add_zero] at c0
      have HT := Lib.hid (take_succ hx)
      have HA2 := Lib.hid (show (xs.take (k + 1)).any (sameD d) = sameD d x by rw [HT.out, List.any_append, HA.out]; simp)
      have HF2 := Lib.hid (show (xs.take (k + 1)).foldl (stepD d) ([], false) = stepD d (acc, dn) x by rw [HT.out, List.foldl_append, HF.out]; rfl)
      have HAL := Lib.hid (show sameD d x = true → xs.any (sameD d) = true from fun e => List.any_eq_true.2 ⟨x, List.mem_of_getElem? hx, e⟩)
      have HSM := Lib.hid (show sameD d x = (x.Id == d.Id && x.For == d.For) from rfl)
      have HOX := Lib.hid hok
      have HL := Lib.hid (l12Less_c d x)
      have HOA := Lib.hid (HO.out.alloc (.cells #[.int .i64 x.Id, .int .i64 x.For] 31))
      have hb' := hb.alloc (.cells #[.int .i64 x.Id, .int .i64 x.For] 31)
      have HXB := Lib.hid (fun j u hj => law_box wr [.int .i64 x.Id, .int .i64 x.For] 31 j u hj)
      clear hc hx hok
      rcases (Bool.eq_false_or_eq_true (x.Id == d.Id && x.For == d.For)).symm with h1 | h1
      rotate_left
      · obtain ⟨E1, E2⟩ := HC2.out H1.out H2.out (HAL.out (by rw [HSM.out, h1]))
        subst E1 E2
        clear HC2 HC3 HC4 HC0
        go_wp2
        exact ret_ownI (ys := []) rfl (World.ownsRow_nil _ _ _ _) rfl Dep.size (fun y hy => by cases hy) (HW2.out.trans hb')
      have HA3 := Lib.hid (show (xs.take (k + 1)).any (sameD d) = false by rw [HA2.out, HSM.out, h1])
      cases dn with
      | true =>
        have HG := Lib.hid (show (xs.take (k + 1)).foldl (stepD d) ([], false) = (acc ++ [x], true) by rw [HF2.out]; rfl)
        go_wp2_with (at_builtin; go_must (refine wpList_append_one (w0 := w2) (.tmp 40) (.tmp 42) _ w2.heap.size 31 i0 _ 2 16 _ acc.length _ (Dep.enc x) rfl rfl Try.underlying23 hi hI0 hI1 hI2 rfl (by omega) rfl (HOA.out) _ rfl (by first | rfl | simp) rfl (Dep.one _) (by unfold maxLen; omega) (by omega) hb' (Nat.le_refl _) (by simp; omega) ?_); intro A3 c3 w3 ho3 hb3 hs3)
        have HO3 := Lib.hid ho3
        clear ho3 h1
        go_wp2
        go_roundw
        case rel => exact ⟨k + 1, A3, c3, acc ++ [x], true, by omega, by go_num, rfl, by simp, by simp; omega, Lib.hid (by rw [List.flatMap_append, List.length_append]; simpa using HO3.out), hb3, HG, HA3⟩
        case measure => simp [intOf]; omega
      | false =>
        rcases (Bool.eq_false_or_eq_true (depLtB d x)).symm with h2 | h2
        · have HG := Lib.hid (show (xs.take (k + 1)).foldl (stepD d) ([], false) = (acc ++ [x], false) by rw [HF2.out]; unfold stepD; simp [h2])
          rw [h2] at HL
          clear h2
          go_wp2_with fail
          refine (HL.out _).mono ?_
          rintro e wl ⟨rfl, hbl⟩
          have y0 := hbl.cell (HXB.out 0 _ rfl)
          have y1 := hbl.cell (HXB.out 1 _ rfl)
          have hsl : wr.heap.size < wl.heap.size := lt_of_cell y0
          have hsl0 : w.heap.size < wl.heap.size := by omega
          have hbc := hb'.trans hbl
          have HOB := Lib.hid (owns_ext HOA.out hbl)
          go_wp2_with (at_builtin; go_must (refine wpList_append_one (w0 := w2) (.tmp 40) (.tmp 42) _ w2.heap.size 31 i0 _ 2 16 _ acc.length _ (Dep.enc x) rfl rfl Try.underlying23 hi hI0 hI1 hI2 rfl (by omega) rfl (HOB.out) _ rfl (by first | rfl | simp) rfl (Dep.one _) (by unfold maxLen; omega) (by omega) hbc (Nat.le_refl _) (by omega) ?_); intro A3 c3 w3 ho3 hb3 hs3)
          have HO3 := Lib.hid ho3
          clear ho3 h1
          go_wp2
          go_roundw
          case rel => exact ⟨k + 1, A3, c3, acc ++ [x], false, by omega, by go_num, rfl, by simp, by simp; omega, Lib.hid (by rw [List.flatMap_append, List.length_append]; simpa using HO3.out), hb3, HG, HA3⟩
          case measure => simp [intOf]; omega
        · have HG := Lib.hid (show (xs.take (k + 1)).foldl (stepD d) ([], false) = (acc ++ [d] ++ [x], true) by rw [HF2.out]; unfold stepD; simp [h2])
          have hfl : acc.length ≤ k := by
            have e1 := step_len d (xs.take (k + 1)) ([], false)
            rw [HG.out] at e1
            simp at e1; omega
          rw [h2] at HL
          clear h2
          go_wp2_with fail
          refine (HL.out _).mono ?_
          rintro e wl ⟨rfl, hbl⟩
          have y0 := hbl.cell (HXB.out 0 _ rfl)
          have y1 := hbl.cell (HXB.out 1 _ rfl)
          have r0 := HQ0.out wl (hb'.trans hbl)
          have r1 := HQ1.out wl (hb'.trans hbl)
          have hsl : wr.heap.size < wl.heap.size := lt_of_cell y0
          have hsl0 : w.heap.size < wl.heap.size := by omega
          have hbc := hb'.trans hbl
          have HOB := Lib.hid (owns_ext HOA.out hbl)
          go_wp2_with (first | (at_builtin; (refine wpList_append_one_g (w0 := w2) (.tmp 36) (.tmp 38) _ w2.heap.size 31 i0 _ 2 16 _ acc.length _ (Dep.enc d) rfl rfl Try.underlying23 hi hI0 hI1 hI2 rfl (by omega) rfl (HOB.out) _ rfl (by first | rfl | simp) rfl (Dep.one _) (by unfold maxLen; omega) (by omega) hbc (Nat.le_refl _) (by omega) ?_); intro A3 c3 w3 ho3 hb3 hs3 hkp; have hkx := hkp wr.heap.size (own_neB HO.out (Nat.le_refl _)) hsl; have z0 := cell_kept hkx y0; have z1 := cell_kept hkx y1; have hs4 := lt_of_cell z0; have HO3 := Lib.hid ho3; clear ho3 hkx hkp) | (at_builtin; go_must (refine wpList_append_one (w0 := w2) (.tmp 40) (.tmp 42) _ w2.heap.size 31 i0 _ 2 16 _ (acc.length + 1) _ (Dep.enc x) rfl rfl Try.underlying23 hi hI0 hI1 hI2 rfl (by omega) rfl (HO3.out) _ rfl (by first | rfl | simp) rfl (Dep.one _) (by unfold maxLen; omega) (by omega) hb3 (Nat.le_refl _) (by omega) ?_); intro A5 c5 w5 ho5 hb5 hs5))
          have HO5 := Lib.hid ho5
          clear ho5 h1
          go_wp2
          go_roundw
          case rel => exact ⟨k + 1, A5, c5, acc ++ [d] ++ [x], true, by omega, by go_num, rfl, by simp, by simp; omega, Lib.hid (by rw [List.flatMap_append, List.flatMap_append, List.length_append, List.length_append]; simpa using HO5.out), hb5, HG, HA3⟩
          case measure => simp [intOf]; omega
    · have hkn : k = n := by omega
      have HTK := Lib.hid (show xs.take k = xs from List.take_of_length_le (by rw [HN.out]; omega))
      have HA4 := Lib.hid (show xs.any (sameD d) = false by have := HA.out; rwa [HTK.out] at this)
      have HIN := Lib.hid (show insD d xs = finD d (acc, dn) by rw [insD_fold, ← HF.out, HTK.out])
      have HOKA := Lib.hid (show ∀ y ∈ acc, y.ok from fold_ok (s := ([], false)) (t := (acc, dn)) HOKD.out (fun y hy => HALL.out y hy) (fun y hy => by cases hy) (by rw [← HF.out, HTK.out]))
      have HLI := Lib.hid (show (insD d xs).length = n + 1 by rw [insD_len, HN.out])
      have HR := Lib.hid (fun (A' : Option Addr) (c' : Nat) (u : World) (e : SlAt RDep 2 u A' (n + 1) (insD d xs)) => sRound_c (insD d xs) A' (n + 1) c' u e (by unfold maxLen; omega))
      have HOKI := Lib.hid (show ∀ y ∈ insD d xs, y.ok from fun y hy => by
        rcases insD_mem y hy with rfl | hy
        · exact HOKD.out
        · exact HALL.out y hy)
      have H100 := Lib.hid (show n = xs.length from HN.out.symm)
      clear hkn
      cases dn with
      | true =>
        have HLA := Lib.hid (show acc = insD d xs by rw [HIN.out]; rfl)
        have hla : acc.length = n + 1 := by rw [HLA.out, HLI.out]
        have HO2 : Hid (wr.ownsRow w2.heap.size 31 2 (.slice A1 (n + 1) c1) (n + 1) ((insD d xs).flatMap Dep.enc)) := Lib.hid (by have e := HO.out; rwa [hla, HLA.out] at e)
        rw [hla]
        clear hac hla HO HF HIN HOKA
        by_cases hbig : n = 100
        · obtain ⟨E1, E2⟩ := HC3.out H1.out H2.out HA4.out (by rw [HN.out]; exact hbig)
          subst E1 E2
          have hb100 : (100 : Int) < (n : Int) + 1 := by omega
          clear HC2 HC3 HC4 HC0 hbig
          go_wp2
          exact ret_ownI (ys := []) rfl (World.ownsRow_nil _ _ _ _) rfl Dep.size (fun y hy => by cases hy) (HW2.out.trans hb)
        have hn99 : n ≤ 99 := by omega
        rcases (Bool.eq_false_or_eq_true (roundB (insD d xs))).symm with h5 | h5
        all_goals
          have H5 := Lib.hid h5
          rw [h5] at HR
          clear h5
          have HNE := Lib.hid (show xs.length ≠ 100 by rw [HN.out]; exact hbig)
          clear hbig
          go_wp2_with fail
          refine (HR.out _ _ _ (own_sl HO2.out HLI.out HOKI.out)).mono ?_
          rintro e w7 ⟨rfl, hb7⟩
        · obtain ⟨E1, E2⟩ := HC0.out H1.out H2.out HA4.out HNE.out H5.out
          subst E1 E2
          clear HC2 HC3 HC4 HC0
          go_wp2
          exact ret_ownI rfl (owns_base (owns_ext HO2.out hb7) (by omega)) HLI.out Dep.size HOKI.out (HW2.out.trans (hb.trans hb7))
        · obtain ⟨E1, E2⟩ := HC4.out H1.out H2.out HA4.out HNE.out H5.out
          subst E1 E2
          clear HC2 HC3 HC4 HC0
          go_wp2
          exact ret_ownI (ys := []) rfl (World.ownsRow_nil _ _ _ _) rfl Dep.size (fun y hy => by cases hy) (HW2.out.trans (hb.trans hb7))
      | false =>
        have HLA := Lib.hid (show acc ++ [d] = insD d xs by rw [HIN.out]; rfl)
        have hla : acc.length = n := by have e := congrArg List.length HLA.out; rw [HLI.out, List.length_append] at e; simpa using e
        rw [hla]
        have HO1 : Hid (wr.ownsRow w2.heap.size 31 2 (.slice A1 n c1) n (acc.flatMap Dep.enc)) := Lib.hid (by have e := HO.out; rwa [hla] at e)
        clear hac hla HO HF HIN HOKA
        by_cases hbig : n = 100
        · obtain ⟨E1, E2⟩ := HC3.out H1.out H2.out HA4.out (by rw [HN.out]; exact hbig)
          subst E1 E2
          have hb100 : (100 : Int) < (n : Int) + 1 := by omega
          clear HC2 HC3 HC4 HC0 hbig
          go_wp2_with (first | (at_builtin; go_must (refine wpList_append_one (w0 := w2) (.tmp 47) (.tmp 49) _ w2.heap.size 31 i0 _ 2 16 _ n _ (Dep.enc d) rfl rfl Try.underlying23 hi hI0 hI1 hI2 rfl (by omega) rfl (HO1.out) _ rfl (by first | rfl | simp) rfl (Dep.one _) (by unfold maxLen; omega) (by omega) hb (Nat.le_refl _) (by omega) ?_); intro A3 c3 w3 ho3 hb3 hs3; have HO2 : Hid (w3.ownsRow w2.heap.size 31 2 (.slice A3 (n + 1) c3) (n + 1) ((insD d xs).flatMap Dep.enc)) := Lib.hid (by rw [← HLA.out, List.flatMap_append]; simpa using ho3); clear ho3))
          exact ret_ownI (ys := []) rfl (World.ownsRow_nil _ _ _ _) rfl Dep.size (fun y hy => by cases hy) (HW2.out.trans hb3)
        have hn99 : n ≤ 99 := by omega
        rcases (Bool.eq_false_or_eq_true (roundB (insD d xs))).symm with h5 | h5
        all_goals
          have H5 := Lib.hid h5
          rw [h5] at HR
          clear h5
          have HNE := Lib.hid (show xs.length ≠ 100 by rw [HN.out]; exact hbig)
          clear hbig
          go_wp2_with (first | (at_builtin; go_must (refine wpList_append_one (w0 := w2) (.tmp 47) (.tmp 49) _ w2.heap.size 31 i0 _ 2 16 _ n _ (Dep.enc d) rfl rfl Try.underlying23 hi hI0 hI1 hI2 rfl (by omega) rfl (HO1.out) _ rfl (by first | rfl | simp) rfl (Dep.one _) (by unfold maxLen; omega) (by omega) hb (Nat.le_refl _) (by omega) ?_); intro A3 c3 w3 ho3 hb3 hs3; have HO2 : Hid (w3.ownsRow w2.heap.size 31 2 (.slice A3 (n + 1) c3) (n + 1) ((insD d xs).flatMap Dep.enc)) := Lib.hid (by rw [← HLA.out, List.flatMap_append]; simpa using ho3); clear ho3) | (go_at_call 48; refine (HR.out _ _ _ (own_sl HO2.out HLI.out HOKI.out)).mono ?_; rintro e w7 ⟨rfl, hb7⟩))
        · obtain ⟨E1, E2⟩ := HC0.out H1.out H2.out HA4.out HNE.out H5.out
          subst E1 E2
          exact ret_ownI rfl (owns_base (owns_ext HO2.out hb7) (by omega)) HLI.out Dep.size HOKI.out (HW2.out.trans (hb3.trans hb7))
        · obtain ⟨E1, E2⟩ := HC4.out H1.out H2.out HA4.out HNE.out H5.out
          subst E1 E2
          exact ret_ownI (ys := []) rfl (World.ownsRow_nil _ _ _ _) rfl Dep.size (fun y hy => by cases hy) (HW2.out.trans (hb3.trans hb7))
end Go.Proofs.Ytgnbjnlcikpknaa
