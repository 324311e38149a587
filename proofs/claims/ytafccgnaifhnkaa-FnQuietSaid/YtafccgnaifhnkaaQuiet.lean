/- Contracts: whether no window touches some nodes in a span. -/
import Derived.Test.YtafccgnaifhnkaaWins2
namespace Go.Proofs.Ytafccgnaifhnkaa
open Go.RowKit
set_option linter.unusedVariables false
def hitB (nodes : List Int) (f t : Int) (x : Window) : Bool := x.Nodes.any (fun n => nodes.contains n) && decide (max f x.From < min t x.To)
def quietL (xs : List Window) (nodes : List Int) (f t : Int) : Bool := xs.all (fun x => !hitB nodes f t x)
def quietB (ps : List Int) (ns : List Node) (xs : List Window) (nodes : List Int) (f t : Int) : Bool := windowsB ps ns xs && quietL xs nodes f t
def clashB (nodes : List Int) (f t : Int) (x : Window) : Bool := nodes.any (fun n => x.Nodes.contains n && (decide (x.From < t) && decide (f < x.To)))
theorem any_swap (a b : List Int) : a.any (fun n => b.contains n) = b.any (fun n => a.contains n) := by
  rw [Bool.eq_iff_iff, List.any_eq_true, List.any_eq_true]
  simp only [List.contains_iff_mem]
  exact ⟨fun ⟨x, h1, h2⟩ => ⟨x, h2, h1⟩, fun ⟨x, h1, h2⟩ => ⟨x, h2, h1⟩⟩
theorem clash_hit {nodes : List Int} {f t : Int} {x : Window} (h : x.From < x.To) : (decide (f < t) && clashB nodes f t x) = hitB nodes f t x := by
  have e : clashB nodes f t x = (nodes.any (fun n => x.Nodes.contains n) && (decide (x.From < t) && decide (f < x.To))) := by
    unfold clashB
    generalize (decide (x.From < t) && decide (f < x.To)) = c
    cases c <;> simp
  rw [e, hitB, any_swap x.Nodes nodes, show decide (max f x.From < min t x.To) = (decide (f < t) && (decide (x.From < t) && decide (f < x.To))) by
    rw [Bool.eq_iff_iff]; simp only [Bool.and_eq_true, decide_eq_true_eq]; omega]
  cases decide (f < t) <;> simp
theorem win_span {ps : List Int} {ns : List Node} {xs : List Window} (h : windowsB ps ns xs = true) : ∀ x ∈ xs, x.From < x.To ∧ 0 ≤ x.To ∧ x.To ≤ 1000000000 := by
  intro x hx
  unfold windowsB at h
  simp only [Bool.and_eq_true] at h
  have := chain_all xs none h.2.2 x hx
  unfold winOkT wspanB timeB at this
  simp only [Bool.and_eq_true, decide_eq_true_eq] at this
  omega
def idxQ (p : Int → Bool) : List Int → Nat → Int
  | [], _ => -1
  | a :: r, k => if p a = true then k else idxQ p r (k + 1)
theorem idxQ_ge (p : Int → Bool) (l : List Int) : ∀ k : Nat, (decide (0 ≤ idxQ p l k)) = l.any p := by
  induction l with
  | nil => intro k; rfl
  | cons a r ih =>
    intro k
    rw [idxQ]
    by_cases h : p a = true
    · rw [if_pos h, List.any_cons, h, Bool.true_or, decide_eq_true_iff]; omega
    · rw [if_neg h, ih, List.any_cons, Bool.eq_false_iff.2 h, Bool.false_or]
set_option maxHeartbeats 1000000 in
theorem IndexFuncI_c (xs : List Int) (p : Int → Bool) (f : FuncId) (cap : Array Value) (A : Option Addr) (n c : Nat) (w : World) (h : SlAt RInt 1 w A n xs) (hl : n ≤ maxLen)
    (hr : ∀ (vs : Array Value) (u : World), Sem.run Try.prog (callFunc f vs) u = .ok (.enter f vs) u)
    (hf : ∀ (x : Int) (u : World), Ext w u → Calls Try.prog f (#[.int .i64 x] ++ cap) u (Ret u (.bool (p x)))) : Calls Try.prog 96 #[.slice A n c, .func (.func f) #[] cap] w (Ret w (.int .i64 (idxQ p xs 0))) := by
  unfold maxLen at hl
  have HN := Lib.hid h.len
  have HF := Lib.hid hf
  clear hf
  go_enter Try.func96, Try.ntmps96
  go_wp2
  go_loopw [8] (fun i wr => ∃ k : Nat, k ≤ n ∧ i = .int .i64 k ∧ Ext w wr ∧ idxQ p xs 0 = idxQ p (xs.drop k) k) (fun i _ => n - (intOf i).toNat)
  case atStart => exact ⟨0, Nat.zero_le _, rfl, Ext.refl _, rfl⟩
  case round =>
    obtain ⟨k, hk, rfl, hb, hE⟩ := hrel
    have HE := Lib.hid hE; clear hE
    by_cases hlt : k < n
    · obtain ⟨b, o, x, cs, rfl, hbw, hx, _, hc, rfl, _⟩ := (h.ext (Flat.mono _ _) hb).at_ hlt
      have c0 := hc 0 _ rfl
      simp only [Nat.mul_one, Nat.add_zero] at c0
      have HX := Lib.hid hx
      clear hc hx h
      rcases Bool.eq_false_or_eq_true (p x) with h1 | h1
      · have H1 := Lib.hid (show idxQ p (x :: xs.drop (k + 1)) k = k by rw [idxQ, if_pos h1])
        go_wp2_with fail
        refine (HF.out x _ hb).mono ?_
        rintro e w1 ⟨rfl, hb1⟩
        go_wp2
        exact ret_int rfl rfl rfl (by rw [HE.out, drop_cons HX.out, H1.out]) (hb.trans hb1)
      · have H1 := Lib.hid (show idxQ p (x :: xs.drop (k + 1)) k = idxQ p (xs.drop (k + 1)) (k + 1) by rw [idxQ, if_neg (by rw [h1]; simp)])
        go_wp2_with fail
        refine (HF.out x _ hb).mono ?_
        rintro e w1 ⟨rfl, hb1⟩
        go_wp2
        go_roundw
        case rel => exact ⟨k + 1, by omega, by go_num, hb.trans hb1, by rw [HE.out, drop_cons HX.out, H1.out]⟩
        case measure => simp [intOf]; omega
    · go_wp2
      exact ret_int rfl rfl rfl (by rw [HE.out, List.drop_eq_nil_of_le (by have := HN.out; omega)]; rfl) hb
theorem ContainsFuncI_c (xs : List Int) (p : Int → Bool) (f : FuncId) (cap : Array Value) (A : Option Addr) (n c : Nat) (w : World) (h : SlAt RInt 1 w A n xs) (hl : n ≤ maxLen)
    (hr : ∀ (vs : Array Value) (u : World), Sem.run Try.prog (callFunc f vs) u = .ok (.enter f vs) u)
    (hf : ∀ (x : Int) (u : World), Ext w u → Calls Try.prog f (#[.int .i64 x] ++ cap) u (Ret u (.bool (p x)))) : Calls Try.prog 82 #[.slice A n c, .func (.func f) #[] cap] w (Ret w (.bool (xs.any p))) := by
  have HN := Lib.hid (idxQ_ge p xs 0)
  have HC := Lib.hid (IndexFuncI_c xs p f cap A n c w h hl hr hf)
  clear hr hf
  rw [← HN.out]
  generalize idxQ p xs 0 = ix at *
  go_enter Try.func82, Try.ntmps82
  go_wp2_with fail
  refine HC.out.mono ?_
  rintro e w1 ⟨rfl, hb1⟩
  go_wp2
  exact ret_bool rfl rfl rfl rfl hb1
theorem quiet1_c (x : Int) (ys : List Int) (B : Option Addr) (m d b : Nat) (w : World) (hb : b < w.heap.size) (h0 : w.cell? ⟨b, 0, none⟩ = some (.slice B m d)) (hs : SlAt RInt 1 w B m ys) (hl : m ≤ maxLen) : Calls Try.prog 83 #[.int .i64 x, .pointer (some ⟨b, 0, none⟩)] w (Ret w (.bool (ys.contains x))) := by
  have HC := Lib.hid (Contains_c ys x B m d w hs hl)
  generalize ys.contains x = r at *
  clear hs
  go_enter Try.func83, Try.ntmps83
  go_wp2_with fail
  refine HC.out.mono ?_
  rintro e w1 ⟨rfl, hb1⟩
  go_wp2
  exact ret_bool rfl rfl rfl rfl hb1
theorem quiet1_run (vs : Array Value) (u : World) : Sem.run Try.prog (callFunc 83 vs) u = .ok (.enter 83 vs) u := by
  simp [go_sem]
set_option maxHeartbeats 4000000 in
set_option maxRecDepth 4000 in
theorem quiet_c (xs : List Window) (nodes : List Int) (fr to : Int) (A : Option Addr) (n c : Nat) (B : Option Addr) (m d : Nat) (w : World) (h : SlAt RWindow 3 w A n xs) (hl : n ≤ maxLen) (h2 : SlAt RInt 1 w B m nodes) (hl2 : m ≤ maxLen) : Calls Try.prog 48 #[.slice A n c, .slice B m d, .int .i64 fr, .int .i64 to] w (Ret w (.bool (quietL xs nodes fr to))) := by
  have H2 := Lib.hid (fun (u : World) (e : Ext w u) => h2.ext (Flat.mono _ _) e)
  have HL2 := Lib.hid hl2
  unfold maxLen at hl
  have HN := Lib.hid h.len
  clear h2 hl2
  go_enter Try.func48, Try.ntmps48
  go_wp2
  go_loopw [14] (fun iv wr => ∃ k : Nat, k ≤ n ∧ iv = .int .i64 k ∧ Ext (w.alloc (.cells #[.slice B m d] 22)) wr ∧ Hid (quietL xs nodes fr to = quietL (xs.drop k) nodes fr to)) (fun iv _ => n - (intOf iv).toNat)
  case atStart => exact ⟨0, Nat.zero_le _, rfl, Ext.refl _, Lib.hid rfl⟩
  case round =>
    obtain ⟨k, hk, rfl, hb, HE⟩ := hrel
    have HQ0 := Lib.hid (fun (u : World) (e : Ext wr u) => (hb.trans e).cell (acell_box w [.slice B m d] 22 0 _ rfl))
    have eW : Ext w wr := ((Ext.refl w).alloc _).trans hb
    have hsz : w.heap.size < wr.heap.size := lt_of_cell (HQ0.out wr (Ext.refl _))
    by_cases hlt : k < n
    · obtain ⟨b, o, x, cs, rfl, hbw, hx, _, hc, hr⟩ := (h.ext RWindow.mono eW).at_ hlt
      obtain ⟨A1, c1, rfl, hsl, hml, hf, ht⟩ := win_cells hr
      have g0 := hc 0 _ rfl
      have g1 := hc 1 _ rfl
      have g2 := hc 2 _ rfl
      simp only [Nat.add_zero] at g0
      have HX := Lib.hid (show quietL (xs.drop k) nodes fr to = (!hitB nodes fr to x && quietL (xs.drop (k + 1)) nodes fr to) by rw [drop_cons hx]; rfl)
      have HC := Lib.hid (fun (u : World) (e : Ext wr u) => ContainsFuncI_c x.Nodes (fun y => nodes.contains y) 83 #[.pointer (some ⟨w.heap.size, 0, none⟩)] A1 x.Nodes.length c1 u (hsl.ext (Flat.mono _ _) e) hml quiet1_run (fun y v e' => quiet1_c y nodes B m d w.heap.size v (Nat.lt_of_lt_of_le hsz (e.trans e').le) (HQ0.out v (e.trans e')) (H2.out v (eW.trans (e.trans e'))) HL2.out))
      have HH := Lib.hid (show hitB nodes fr to x = (x.Nodes.any (fun n => nodes.contains n) && decide (max fr x.From < min to x.To)) from rfl)
      clear hc hr hsl hml hf ht hx h
      rcases (Bool.eq_false_or_eq_true (x.Nodes.any (fun n => nodes.contains n))).symm with h1 | h1
      all_goals
        rw [h1] at HC HH
        clear h1
        go_wp2_with fail
        refine (HC.out _ ((Ext.refl _).alloc _)).mono ?_
        rintro e w1 ⟨rfl, hb1⟩
        have y0 := hb1.cell (acell_box wr [.int .i64 x.From, .int .i64 x.To, .slice A1 x.Nodes.length c1] 65 0 _ rfl)
        have y1 := hb1.cell (acell_box wr [.int .i64 x.From, .int .i64 x.To, .slice A1 x.Nodes.length c1] 65 1 _ rfl)
        have hzz : wr.heap.size < w1.heap.size := lt_of_cell y0
        have HB1 := Lib.hid (hb.trans (((Ext.refl _).alloc _).trans hb1))
        have HB2 := Lib.hid (eW.trans (((Ext.refl _).alloc _).trans hb1))
        clear g0 g1 g2 hb1 hb eW
      · go_wp2
        go_roundw
        case rel => exact ⟨k + 1, by omega, by go_num, HB1.out, Lib.hid (by rw [HE.out, HX.out, HH.out]; rfl)⟩
        case measure => simp [intOf]; omega
      · rcases (Bool.eq_false_or_eq_true (decide (max fr x.From < min to x.To))).symm with h3 | h3
        · have H3 := Lib.hid h3
          have h4 := of_decide_eq_false h3
          go_wp2
          all_goals first | (exfalso; omega) | (go_roundw; (case measure => (simp [intOf]; omega)); exact ⟨k + 1, by omega, by go_num, HB1.out, Lib.hid (by rw [HE.out, HX.out, HH.out, H3.out]; rfl)⟩)
        · have H3 := Lib.hid h3
          have h4 := of_decide_eq_true h3
          go_wp2
          all_goals first | (exfalso; omega) | (exact ret_bool rfl rfl rfl (by rw [HE.out, HX.out, HH.out, H3.out]; rfl) HB2.out)
    · clear h
      go_wp2
      exact ret_bool rfl rfl rfl (by rw [HE.out, List.drop_eq_nil_of_le (by have := HN.out; omega)]; rfl) eW
set_option maxHeartbeats 2000000 in
theorem Quiet_c (ps : List Int) (ns : List Node) (xs : List Window) (nodes : List Int) (fr to : Int) (A : Option Addr) (n c : Nat) (B : Option Addr) (m d : Nat) (D : Option Addr) (q f : Nat) (C : Option Addr) (r g : Nat) (w : World) (h : SlAt RInt 1 w A n ps) (hl : n ≤ maxLen) (h2 : SlAt RNode 4 w B m ns) (hl2 : m ≤ maxLen) (h3 : SlAt RWindow 3 w D q xs) (hl3 : q ≤ maxLen) (h4 : SlAt RInt 1 w C r nodes) (hl4 : r ≤ maxLen) (_ : In64 fr) (_ : In64 to) : Calls Try.prog 19 #[.agg #[.slice A n c, .slice B m d], .slice D q f, .slice C r g, .int .i64 fr, .int .i64 to] w (Ret w (.bool (quietB ps ns xs nodes fr to))) := by
  have HW := Lib.hid (fun (u : World) (e : Ext w u) => WindowsOk_c ps ns xs A n c B m d D q f u (h.ext (Flat.mono _ _) e) hl (h2.ext (Flat.mono _ _) e) hl2 (h3.ext RWindow.mono e) hl3)
  have HQ := Lib.hid (fun (u : World) (e : Ext w u) => quiet_c xs nodes fr to D q f C r g u (h3.ext RWindow.mono e) hl3 (h4.ext (Flat.mono _ _) e) hl4)
  have HB := Lib.hid (show quietB ps ns xs nodes fr to = (windowsB ps ns xs && quietL xs nodes fr to) from rfl)
  clear h h2 h3 h4 hl hl2 hl3 hl4
  generalize quietB ps ns xs nodes fr to = z at *
  generalize quietL xs nodes fr to = y at *
  have hE : Ext w (w.alloc (.cells #[.slice A n c, .slice B m d] 32)) := (Ext.refl w).alloc _
  rcases (Bool.eq_false_or_eq_true (windowsB ps ns xs)).symm with h1 | h1
  all_goals
    rw [h1] at HW HB
    clear h1
    go_enter Try.func19, Try.ntmps19
    go_wp2_with fail
    refine (HW.out _ hE).mono ?_
    rintro e w1 ⟨rfl, hb1⟩
  · go_wp2
    exact ret_bool rfl rfl rfl HB.out.symm (hE.trans hb1)
  · go_wp2_with fail
    refine (HQ.out _ (hE.trans hb1)).mono ?_
    rintro e w2 ⟨rfl, hb2⟩
    go_wp2
    exact ret_bool rfl rfl rfl HB.out.symm ((hE.trans hb1).trans hb2)
end Go.Proofs.Ytafccgnaifhnkaa
