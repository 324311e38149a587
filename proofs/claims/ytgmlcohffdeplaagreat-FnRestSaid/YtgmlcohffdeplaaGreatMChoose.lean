/- Merged by mergelean.py: Lev, Low, ChooseL, SLev, RiseS, ChooseS, ChooseS2, ChooseC. -/
import Derived.Test.YtgmlcohffdeplaaGreatMMoved
import Derived.Test.YtgmlcohffdeplaaGreatTopo2
import Derived.Test.YtgmlcohffdeplaaGreatAsc
import Derived.Deep.RegionHeld3
import Derived.Test.YtgmlcohffdeplaaGreatChg
/-! Lev -/
namespace Go.Proofs.YtgmlcohffdeplaaGreat
open Go.RowKit
set_option linter.unusedVariables false
end Go.Proofs.YtgmlcohffdeplaaGreat
/-! Low -/
namespace Go.Proofs.YtgmlcohffdeplaaGreat
open Go.RowKit
set_option linter.unusedVariables false
def overOne (ps : List Int) (ns : List Node) (s n : Int) : Bool := (upL ps ((ns.getD n.toNat ⟨0, ⟨0, 0, 0⟩⟩).Leaf.toNat)).contains s
theorem overAll_eq (ps : List Int) (ns : List Node) (nodes : List Int) (s : Int) : overAll ps ns nodes s = nodes.all (overOne ps ns s) := rfl
theorem all_step {α : Type} {l : List α} {p : α → Bool} {k : Nat} {x : α} (hx : l[k]? = some x) : (l.take (k + 1)).all p = ((l.take k).all p && p x) := by
  rw [take_succ hx, List.all_append]; simp
theorem low_step (ps : List Int) (ns : List Node) (nodes : List Int) {r k : Nat} (best : Int) : lowGo ps ns nodes (r + 1) k best = lowGo ps ns nodes r (k + 1) (if (overAll ps ns nodes k && (decide (best < 0) || decide (levT ps k ≤ levT ps best.toNat))) = true then k else best) := rfl
end Go.Proofs.YtgmlcohffdeplaaGreat
/-! ChooseL -/
namespace Go.Proofs.YtgmlcohffdeplaaGreat
open Go.RowKit
set_option linter.unusedVariables false
def ofL (ps : List Int) (ns : List Node) (nodes : List Int) (s : Int) : List Int := nodes.filter (overOne ps ns s)
def lfOf (ns : List Node) (x : Int) : Int := (ns.getD x.toNat ⟨0, ⟨0, 0, 0⟩⟩).Leaf
def candB (ps : List Int) (ns : List Node) (nodes taken : List Int) (s : Int) : Bool := !(ofL ps ns nodes s).isEmpty && ((kidsL ps s).isEmpty && !taken.contains s)
def cntL (ns : List Node) (mine taken : List Int) : Nat := (mine.filter (fun x => taken.contains (lfOf ns x))).length
theorem up_leaf {ps : List Int} (hup : upGo (ps.drop 1) 1 = true) : ∀ (q : Nat) (s : Int), q < ps.length → s ∈ upL ps q → s = (q : Int) ∨ leafB ps s = false := by
  intro q
  induction q using Nat.strongRecOn with
  | ind q ih =>
    intro s hq hs
    by_cases h0 : 1 ≤ q
    · rw [upL_succ hup h0 hq] at hs
      rcases List.mem_cons.1 hs with rfl | hs
      · exact .inl rfl
      have hp := par_lt hup h0 hq
      have h2 : (parN ps q) < q := hp.2
      have h1 : ps[q]? = some (parN ps q : Int) := by rw [List.getElem?_eq_getElem hq]; exact congrArg some hp.1
      rcases ih _ h2 s (by omega) hs with rfl | h3
      · right
        have hk : (q : Int) ∈ kidsL ps (parN ps q : Int) := kidsL_mem.2 ⟨q, rfl, h0, h1⟩
        rw [← kids_nil]
        cases hkk : kidsL ps (parN ps q : Int) with
        | nil => rw [hkk] at hk; cases hk
        | cons a r => rfl
      · exact .inr h3
    · obtain rfl : q = 0 := by omega
      rw [upL_zero] at hs
      left; simpa using hs
theorem up_self {ps : List Int} (hup : upGo (ps.drop 1) 1 = true) (q : Nat) (hq : q < ps.length) : (q : Int) ∈ upL ps q := by
  by_cases h0 : 1 ≤ q
  · rw [upL_succ hup h0 hq]; exact List.mem_cons_self ..
  · obtain rfl : q = 0 := by omega
    rw [upL_zero]; simp
theorem lf_range {ps : List Int} {ns : List Node} (ht : topoB ps ns = true) {x : Int} (hx : 0 ≤ x ∧ x < (ns.length : Int)) : (0 ≤ lfOf ns x ∧ lfOf ns x < ps.length) ∧ leafB ps (lfOf ns x) = true := by
  obtain ⟨i, rfl⟩ := Int.eq_ofNat_of_zero_le hx.1
  have hi : i < ns.length := by omega
  have e : lfOf ns (i : Int) = (ns[i]).Leaf := by
    unfold lfOf; rw [show ((i : Int)).toNat = i by omega, List.getD_eq_getElem?_getD, List.getElem?_eq_getElem hi]; rfl
  have h5 := (topo_parts ht).2.2.2.2.1 _ (List.getElem_mem hi)
  unfold nodeB withinB at h5
  simp only [Bool.and_eq_true, decide_eq_true_iff] at h5
  rw [e]
  exact ⟨⟨h5.1.1, by have := h5.1.2; omega⟩, h5.2.1⟩
theorem over_leaf {ps : List Int} {ns : List Node} (ht : topoB ps ns = true) {s x : Int} (hx : 0 ≤ x ∧ x < (ns.length : Int)) (hl : leafB ps s = true) : overOne ps ns s x = decide (lfOf ns x = s) := by
  obtain ⟨⟨h1, h2⟩, h3⟩ := lf_range ht hx
  have hup := (topo_parts ht).2.2.1
  obtain ⟨q, hq⟩ := Int.eq_ofNat_of_zero_le h1
  have hql : q < ps.length := by omega
  have e : overOne ps ns s x = (upL ps q).contains s := by
    unfold overOne; show (upL ps (lfOf ns x).toNat).contains s = _; rw [hq]; rfl
  rw [e, hq]
  by_cases hs : (q : Int) = s
  · subst hs
    rw [decide_eq_true rfl]
    simpa using up_self hup q hql
  · rw [decide_eq_false hs, Bool.eq_false_iff]
    intro hc
    rcases up_leaf hup q s hql (by simpa using hc) with h4 | h4
    · exact hs h4.symm
    · rw [hl] at h4; cases h4
theorem cnt_split {p q : Int → Bool} : ∀ l : List Int, (∀ x ∈ l, ¬ (p x = true ∧ q x = true)) → (l.filter (fun x => p x || q x)).length = (l.filter p).length + (l.filter q).length := by
  intro l
  induction l with
  | nil => intro _; rfl
  | cons a r ih =>
    intro h
    have ha := h a (List.mem_cons_self ..)
    have hr := ih (fun x hx => h x (List.mem_cons_of_mem _ hx))
    cases hp : p a <;> cases hq : q a <;> simp [hp, hq] at ha hr ⊢ <;> omega
theorem cnt_step {ps : List Int} {ns : List Node} {mine taken : List Int} {s : Int} (ht : topoB ps ns = true) (hm : ∀ x ∈ mine, 0 ≤ x ∧ x < (ns.length : Int)) (hc : candB ps ns mine taken s = true) : cntL ns mine (taken ++ [s]) = cntL ns mine taken + (ofL ps ns mine s).length ∧ 0 < (ofL ps ns mine s).length := by
  unfold candB at hc
  simp only [Bool.and_eq_true, Bool.not_eq_true'] at hc
  obtain ⟨h1, h2, h3⟩ := hc
  have hl : leafB ps s = true := by rw [← kids_nil]; exact h2
  constructor
  · have e1 : ofL ps ns mine s = mine.filter (fun x => decide (lfOf ns x = s)) := List.filter_congr (fun x hx => over_leaf ht (hm x hx) hl)
    have e2 : cntL ns mine (taken ++ [s]) = (mine.filter (fun x => taken.contains (lfOf ns x) || decide (lfOf ns x = s))).length := by
      unfold cntL
      congr 1
      refine List.filter_congr (fun x hx => ?_)
      rw [Bool.eq_iff_iff]; simp
    rw [e2, e1]
    refine cnt_split mine (fun x hx ⟨hp, hq⟩ => ?_)
    rw [of_decide_eq_true hq, h3] at hp
    cases hp
  · cases he : ofL ps ns mine s with
    | nil => rw [he] at h1; cases h1
    | cons a r => simp
theorem cand_exists {ps : List Int} {ns : List Node} {mine taken : List Int} (ht : topoB ps ns = true) (hm : ∀ x ∈ mine, 0 ≤ x ∧ x < (ns.length : Int)) (h : cntL ns mine taken < mine.length) : ∃ k : Nat, k < ps.length ∧ candB ps ns mine taken k = true := by
  obtain ⟨x, hx, hnt⟩ : ∃ x ∈ mine, taken.contains (lfOf ns x) = false := by
    refine Classical.byContradiction (fun hn => ?_)
    have he : mine.filter (fun x => taken.contains (lfOf ns x)) = mine := List.filter_eq_self.2 (fun x hx => by
      cases hc : taken.contains (lfOf ns x) with
      | true => rfl
      | false => exact absurd ⟨x, hx, hc⟩ hn)
    unfold cntL at h
    rw [he] at h; omega
  obtain ⟨⟨h1, h2⟩, h3⟩ := lf_range ht (hm x hx)
  obtain ⟨q, hq⟩ := Int.eq_ofNat_of_zero_le h1
  rw [hq] at hnt h2 h3
  refine ⟨q, by omega, ?_⟩
  unfold candB
  rw [hnt, kids_nil, h3]
  have hmem : x ∈ ofL ps ns mine (q : Int) := List.mem_filter.2 ⟨hx, by rw [over_leaf ht (hm x hx) h3, hq]; exact decide_eq_true rfl⟩
  cases he : ofL ps ns mine (q : Int) with
  | nil => rw [he] at hmem; cases hmem
  | cons a r => rfl
theorem ofL_sub {ps : List Int} {ns : List Node} {nodes : List Int} {s x : Int} (hx : x ∈ ofL ps ns nodes s) : x ∈ nodes := (List.mem_filter.1 hx).1
theorem ofL_len (ps : List Int) (ns : List Node) (nodes : List Int) (s : Int) : (ofL ps ns nodes s).length ≤ nodes.length := List.length_filter_le _ _
end Go.Proofs.YtgmlcohffdeplaaGreat
/-! SLev -/
namespace Go.Proofs.YtgmlcohffdeplaaGreat
open Go.RowKit
set_option linter.unusedVariables false
set_option maxHeartbeats 4000000 in
set_option maxRecDepth 8000 in
theorem l02Up_c (ps : List Int) (ns : List Node) (s : Nat) (A : Option Addr) (n c : Nat) (B : Option Addr) (m d : Nat) (w : World) (h : SlAt RInt 1 w A n ps) (hn : n ≤ 24) (hs : s < n) (hup : upGo (ps.drop 1) 1 = true) : Calls Tryz.prog 158 #[.agg #[.slice A n c, .slice B m d], .int .i64 s] w (RetOwn RInt 3 1 w (upL ps s)) := by
  obtain ⟨i0, hi, hI0, hI1, hI2⟩ := info_parts (show (Tryz.prog.info? 3).map (fun i => (i.zero, i.size, i.bytes)) = some (some (.int .i64 0), 1, 8) by kernel_rfl)
  have HN := Lib.hid h.len
  have HP := Lib.hid (fun (u : World) (e : Ext w u) => h.ext (Flat.mono encInt In64) e)
  have HUP := Lib.hid hup
  clear h hup
  have HE0 := Lib.hid (show ((w.alloc (.cells #[.slice A n c, .slice B m d] 38)).alloc (.cells #[.int .i64 s] 3)).ownsRow (w.heap.size + 1) 3 1 (.slice (some ⟨w.heap.size + 1, 0, none⟩) 1 1) 1 [.int .i64 s] from by
    have h := gbox1 (w.alloc (.cells #[.slice A n c, .slice B m d] 38)) (.int .i64 s) 3
    rw [show (w.alloc (.cells #[.slice A n c, .slice B m d] 38)).heap.size = w.heap.size + 1 by simp] at h
    exact h)
  go_enter Tryz.func158, Tryz.ntmps158
  go_wp2
  go_loopw [1, 5] (fun sv l wr => ∃ (t k : Nat) (pre : List Int) (A1 : Option Addr) (c1 : Nat), sv = .int .i64 t ∧ t ≤ s ∧ Hid (k = pre.length) ∧ l = .slice A1 (k + 1) c1 ∧ k + t ≤ s ∧ Hid (upL ps s = pre ++ upL ps t) ∧ Hid (∀ x ∈ pre, In64 x) ∧ Hid (wr.ownsRow (w.heap.size + 1) 3 1 (.slice A1 (k + 1) c1) (k + 1) ((pre ++ [(t : Int)]).flatMap encInt)) ∧ Ext (w.alloc (.cells #[.slice A n c, .slice B m d] 38)) wr) (fun sv _ _ => (intOf sv).toNat)
  case atStart => exact ⟨s, 0, [], _, _, rfl, Nat.le_refl _, Lib.hid rfl, rfl, by omega, Lib.hid rfl, Lib.hid (fun x hx => by cases hx), HE0, (Ext.refl _).alloc _⟩
  case round =>
    clear HE0
    obtain ⟨t, k, pre, A1, c1, rfl, ht, HKL, rfl, hkt, HU, HI, HO, hb⟩ := hrel
    by_cases h0 : 0 < t
    · obtain ⟨b, o, x, cs, hA, hbw, hx, _, hc, rfl, _⟩ := (HP.out wr (((Ext.refl w).alloc _).trans hb)).at_ (show t < n by omega)
      subst hA
      have g0 := hc 0 _ rfl
      simp only [Nat.mul_one, Nat.add_zero] at g0
      have hp := par_lt HUP.out h0 (by rw [HN.out]; omega)
      have hxe : x = (parN ps t : Int) := by
        obtain ⟨h1, h2⟩ := List.getElem?_eq_some_iff.1 hx
        rw [← hp.1]; exact h2.symm
      subst hxe
      have hp2 := hp.2
      have HQ := Lib.hid (upL_succ HUP.out h0 (show t < ps.length by rw [HN.out]; omega))
      generalize parN ps t = q at *
      have z0 := hb.cell (cell_box_at w w.heap.size rfl [.slice (some ⟨b, o, none⟩) n c, .slice B m d] 38 0 _ rfl)
      have hz0 := lt_of_cell z0
      have hzl := hb.le
      simp at hzl
      clear hc hx hp
      go_wp2_with (at_builtin; go_must (refine wpList_append_r (enc := encInt) (ok := In64) (.tmp 15) (.tmp 17) _ (w.heap.size + 1) 3 i0 _ 1 8 (.slice A1 (k + 1) c1) (k + 1) _ (some ⟨wr.heap.size, 0, none⟩) 1 1 [(q : Int)] rfl rfl Tryz.underlying22 hi hI0 hI1 hI2 rfl (by omega) rfl (owns_ext HO.out ((Ext.refl _).alloc _)) rfl (by exact sl_one_at (enc := encInt) _ _ rfl (q : Int) 3 rfl ⟨by omega, by omega⟩) (fun _ => rfl) cInt_one (by unfold maxLen; omega) (by omega) (by simp; omega) ?_); intro A9 c9 w5 hr5; have HR5 := Lib.hid hr5; clear hr5)
      have HXT := Lib.hid (ext_turned (hb.alloc _) (HR5.out.turned (lo := w.heap.size + 1) (fun q hq => (HO.out.lt q hq).1)) (by simp))
      go_wp2
      go_roundw
      case rel => exact ⟨q, k + 1, pre ++ [(t : Int)], A9, c9, rfl, by omega, Lib.hid (by rw [List.length_append, ← HKL.out]; rfl), rfl, by omega, Lib.hid (by rw [HU.out, HQ.out]; simp), Lib.hid (fun y hy => by rcases List.mem_append.1 hy with hy | hy; exact HI.out y hy; (rw [List.mem_singleton.1 hy]; exact ⟨by omega, by omega⟩)), Lib.hid (by have h := HR5.out.row; rw [List.flatMap_append]; simpa using h), HXT.out⟩
      case measure => simp [intOf]; omega
    · obtain rfl : t = 0 := by omega
      have HR := Lib.hid (show upL ps s = pre ++ [((0 : Nat) : Int)] by rw [HU.out, upL_zero]; rfl)
      have HL1 := Lib.hid (show (pre ++ [((0 : Nat) : Int)]).length = k + 1 by rw [List.length_append, ← HKL.out]; rfl)
      go_wp2
      exact ret_own2 rfl (owns_base (by rw [HR.out]; exact HO.out) (by omega)) (by rw [HR.out, HL1.out]) (fun _ => rfl) (fun x hx => by rw [HR.out] at hx; rcases List.mem_append.1 hx with hx | hx; exact HI.out x hx; (rw [List.mem_singleton.1 hx]; exact ⟨by omega, by omega⟩)) (((Ext.refl w).alloc _).trans hb)
end Go.Proofs.YtgmlcohffdeplaaGreat
/-! RiseS -/
namespace Go.Proofs.YtgmlcohffdeplaaGreat
open Go.RowKit
set_option linter.unusedVariables false
/-- A number put into a rising list. -/
def riseGo (n : Int) : List Int → Bool → List Int
  | [], d => if d = true then [] else [n]
  | x :: r, d => if (!d && decide (n < x)) = true then n :: x :: riseGo n r true else x :: riseGo n r d
theorem rise_len (n : Int) : ∀ (l : List Int) (d : Bool), (riseGo n l d).length = l.length + (if d = true then 0 else 1) := by
  intro l
  induction l with
  | nil => intro d; cases d <;> rfl
  | cons x r ih =>
    intro d
    rw [riseGo]
    cases d with
    | true => rw [if_neg (by simp), List.length_cons, ih]; simp
    | false =>
      by_cases h : n < x
      · rw [if_pos (by simp [h]), List.length_cons, List.length_cons, ih]; simp
      · rw [if_neg (by simp [h]), List.length_cons, ih]; simp
theorem rise_mem (n : Int) : ∀ (l : List Int) (d : Bool) (y : Int), y ∈ riseGo n l d → y = n ∨ y ∈ l := by
  intro l
  induction l with
  | nil => intro d y hy; cases d <;> simp [riseGo] at hy; exact .inl hy
  | cons x r ih =>
    intro d y hy
    rw [riseGo] at hy
    split at hy
    · rcases List.mem_cons.1 hy with rfl | hy
      · exact .inl rfl
      rcases List.mem_cons.1 hy with rfl | hy
      · exact .inr (List.mem_cons_self ..)
      rcases ih _ _ hy with h | h
      · exact .inl h
      · exact .inr (List.mem_cons_of_mem _ h)
    · rcases List.mem_cons.1 hy with rfl | hy
      · exact .inr (List.mem_cons_self ..)
      rcases ih _ _ hy with h | h
      · exact .inl h
      · exact .inr (List.mem_cons_of_mem _ h)
/-- Numbers in a row of the call's own. -/
def RetRowI (w : World) (xs : List Int) : Ending → World → Prop := fun e w' => ∃ A c, e = .returned (.slice A xs.length c) ∧ w'.ownsRow w.heap.size 3 1 (.slice A xs.length c) xs.length (xs.flatMap encInt) ∧ Ext w w'
theorem ret_rowI {w w0 : World} {P : Program} {fn : Func} {a : Act} {t : Tmp} {n c : Nat} {A : Option Addr} {ys : List Int} (hr : fn.results = #[.tmp t])
    (hown : w.ownsRow w0.heap.size 3 1 (.slice A n c) n (ys.flatMap encInt)) (hlen : ys.length = n)
    (hb : Ext w0 w) (hv : a.tmps.getD t undef = .slice A n c := by rfl) (hd : a.defers = [] := by rfl) : bodyPost P fn (RetRowI w0 ys) .ret a w := by
  subst hlen
  exact bodyPost_ret (results_tmp hr _ _ _) hd ⟨A, c, by rw [hv], hown, hb⟩
set_option maxHeartbeats 8000000 in
set_option maxRecDepth 8000 in
theorem l04Rise_c (xs : List Int) (v : Int) (A : Option Addr) (n c : Nat) (w : World) (h : SlAt RInt 1 w A n xs) (hn : n ≤ 1048576) (hv : In64 v) : Calls Tryz.prog 144 #[.slice A n c, .int .i64 v] w (RetRowI w (riseGo v xs false)) := by
  obtain ⟨i0, hi, hI0, hI1, hI2⟩ := info_parts TInt.info
  have HN := Lib.hid h.len
  have HS := Lib.hid (fun (u : World) (e : Ext w u) => h.ext (Flat.mono encInt In64) e)
  have HA := Lib.hid (fun (y : Int) (hy : y ∈ riseGo v xs false) => show In64 y from by
    rcases rise_mem v xs false y hy with rfl | hy
    · exact hv
    · exact h.all y hy)
  have HV := Lib.hid hv
  have HF := Lib.hid (show riseGo v xs false = [] ++ riseGo v (xs.drop 0) false from rfl)
  have HO0 := Lib.hid (show (w.alloc (.cells #[] 3)).ownsRow w.heap.size 3 1 (.slice (some ⟨w.heap.size, 0, none⟩) 0 0) 0 [] from owns_empty w 3 1)
  clear h hv
  generalize riseGo v xs false = R at *
  go_enter Tryz.func144, Tryz.ntmps144
  go_wp2
  go_loopw [5, 6, 12] (fun l dv iv wr => ∃ (k a : Nat) (A1 : Option Addr) (c1 : Nat) (acc : List Int) (dn : Bool), k ≤ n ∧ iv = .int .i64 k ∧ l = .slice A1 a c1 ∧ a ≤ k + (if dn = true then 1 else 0) ∧ dv = .bool dn ∧ Hid (a = acc.length) ∧ Hid (R = acc ++ riseGo v (xs.drop k) dn) ∧ Hid (wr.ownsRow w.heap.size 3 1 (.slice A1 a c1) a (acc.flatMap encInt)) ∧ Ext w wr) (fun _ _ iv _ => n - (intOf iv).toNat)
  case atStart => exact ⟨0, 0, _, 0, [], false, Nat.zero_le _, rfl, rfl, by simp, rfl, Lib.hid rfl, HF.out, HO0.out, (Ext.refl _).alloc _⟩
  case round =>
    clear HO0 HF
    obtain ⟨k, a, A1, c1, acc, dn, hk, rfl, rfl, hak, rfl, HL, HR, HO, hb⟩ := hrel
    have hle := hb.le
    have hak1 : a ≤ k + 1 := by split at hak <;> omega
    have hak0 : dn = false → a ≤ k := fun h => by rw [h] at hak; simpa using hak
    clear hak
    by_cases hlt : k < n
    · obtain ⟨b, o, x, cs, rfl, hbw, hx, _, hc, rfl, _⟩ := (HS.out wr hb).at_ hlt
      have y0 := hc 0 _ rfl
      simp only [Nat.mul_one, Nat.add_zero] at y0
      have HD := Lib.hid (drop_cons hx)
      have HX := Lib.hid ((HS.out w (Ext.refl _)).all x (List.mem_of_getElem? hx))
      clear hc hx
      by_cases hp : dn = false ∧ v < x
      · obtain ⟨rfl, hvx⟩ := hp
        have hak := hak0 rfl
        clear hak0
        have hvd : decide (v < x) = true := decide_eq_true hvx
        have HT := Lib.hid (show R = ((acc ++ [v]) ++ [x]) ++ riseGo v (xs.drop (k + 1)) true by rw [HR.out, HD.out, riseGo, if_pos (by rw [hvd]; rfl)]; simp)
        clear hvx
        go_wp2_with (at_builtin; first
          | (refine wpList_append_r (enc := encInt) (ok := In64) (.tmp 23) (.tmp 25) _ w.heap.size 3 i0 _ 1 8 (.slice A1 a c1) a _ (some ⟨wr.heap.size, 0, none⟩) 1 1 [v] rfl rfl Tryz.underlying22 hi hI0 hI1 hI2 rfl (by omega) rfl (owns_ext HO.out ((Ext.refl _).alloc _)) rfl (by exact sl_one_at (enc := encInt) _ _ rfl v 3 rfl HV.out) (fun _ => rfl) TInt.one (by unfold maxLen; omega) (by omega) (by simp; omega) ?_
             intro A9 c9 w5 hr5
             have HX5 := Lib.hid (ext_turned (hb.alloc _) (hr5.turned (lo := w.heap.size) (fun q hq => (HO.out.lt q hq).1)) (by simp))
             have hw5 := HX5.out.le
             have HO5 := Lib.hid (show w5.ownsRow w.heap.size 3 1 (.slice A9 (a + 1) c9) (a + 1) ((acc ++ [v]).flatMap encInt) by have h := hr5.row; rw [List.flatMap_append]; simpa using h)
             clear hr5)
          | (refine wpList_append_r (enc := encInt) (ok := In64) (.tmp 27) (.tmp 29) _ w.heap.size 3 i0 _ 1 8 (.slice A9 (a + 1) c9) (a + 1) _ (some ⟨w5.heap.size, 0, none⟩) 1 1 [x] rfl rfl Tryz.underlying22 hi hI0 hI1 hI2 rfl (by omega) rfl (owns_ext HO5.out ((Ext.refl _).alloc _)) rfl (by exact sl_one_at (enc := encInt) _ _ rfl x 3 rfl HX.out) (fun _ => rfl) TInt.one (by unfold maxLen; omega) (by omega) (by simp; omega) ?_
             intro A8 c8 w6 hr6
             have HR6 := Lib.hid hr6
             clear hr6))
        have HX6 := Lib.hid (ext_turned (HX5.out.alloc _) (HR6.out.turned (lo := w.heap.size) (fun q hq => (HO5.out.lt q hq).1)) (by simp))
        go_wp2
        go_roundw
        case rel => exact ⟨k + 1, a + 1 + 1, A8, c8, (acc ++ [v]) ++ [x], true, by omega, by go_num, rfl, by simp; omega, rfl, Lib.hid (by rw [List.length_append, List.length_append, ← HL.out]; rfl), HT, Lib.hid (by have h := HR6.out.row; rw [List.flatMap_append]; simpa using h), HX6.out⟩
        case measure => simp [intOf]; omega
      · have HT := Lib.hid (show R = (acc ++ [x]) ++ riseGo v (xs.drop (k + 1)) dn by rw [HR.out, HD.out, riseGo, if_neg (by intro hh; apply hp; simpa using hh)]; simp)
        rcases dn with _ | _
        · have hak := hak0 rfl
          clear hak0
          have hvd : decide (v < x) = false := decide_eq_false (fun hh => hp ⟨rfl, hh⟩)
          clear hp
          go_wp2_with (at_builtin; go_must (refine wpList_append_r (enc := encInt) (ok := In64) (.tmp 27) (.tmp 29) _ w.heap.size 3 i0 _ 1 8 (.slice A1 a c1) a _ (some ⟨wr.heap.size, 0, none⟩) 1 1 [x] rfl rfl Tryz.underlying22 hi hI0 hI1 hI2 rfl (by omega) rfl (owns_ext HO.out ((Ext.refl _).alloc _)) rfl (by exact sl_one_at (enc := encInt) _ _ rfl x 3 rfl HX.out) (fun _ => rfl) TInt.one (by unfold maxLen; omega) (by omega) (by simp; omega) ?_); intro A8 c8 w6 hr6; have HR6 := Lib.hid hr6; clear hr6)
          have HX6 := Lib.hid (ext_turned (hb.alloc _) (HR6.out.turned (lo := w.heap.size) (fun q hq => (HO.out.lt q hq).1)) (by simp))
          go_wp2
          go_roundw
          case rel => exact ⟨k + 1, a + 1, A8, c8, acc ++ [x], false, by omega, by go_num, rfl, by simpa using hak, rfl, Lib.hid (by rw [List.length_append, ← HL.out]; rfl), HT, Lib.hid (by have h := HR6.out.row; rw [List.flatMap_append]; simpa using h), HX6.out⟩
          case measure => simp [intOf]; omega
        · clear hp hak0
          go_wp2_with (at_builtin; go_must (refine wpList_append_r (enc := encInt) (ok := In64) (.tmp 27) (.tmp 29) _ w.heap.size 3 i0 _ 1 8 (.slice A1 a c1) a _ (some ⟨wr.heap.size, 0, none⟩) 1 1 [x] rfl rfl Tryz.underlying22 hi hI0 hI1 hI2 rfl (by omega) rfl (owns_ext HO.out ((Ext.refl _).alloc _)) rfl (by exact sl_one_at (enc := encInt) _ _ rfl x 3 rfl HX.out) (fun _ => rfl) TInt.one (by unfold maxLen; omega) (by omega) (by simp; omega) ?_); intro A8 c8 w6 hr6; have HR6 := Lib.hid hr6; clear hr6)
          have HX6 := Lib.hid (ext_turned (hb.alloc _) (HR6.out.turned (lo := w.heap.size) (fun q hq => (HO.out.lt q hq).1)) (by simp))
          go_wp2
          go_roundw
          case rel => exact ⟨k + 1, a + 1, A8, c8, acc ++ [x], true, by omega, by go_num, rfl, by simp; omega, rfl, Lib.hid (by rw [List.length_append, ← HL.out]; rfl), HT, Lib.hid (by have h := HR6.out.row; rw [List.flatMap_append]; simpa using h), HX6.out⟩
          case measure => simp [intOf]; omega
    · have HDN := Lib.hid (List.drop_eq_nil_of_le (show xs.length ≤ k by have := HN.out; omega))
      clear hak0
      rcases dn with _ | _
      · have HT := Lib.hid (show R = acc ++ [v] by rw [HR.out, HDN.out]; rfl)
        go_wp2_with (at_builtin; go_must (refine wpList_append_r (enc := encInt) (ok := In64) (.tmp 34) (.tmp 36) _ w.heap.size 3 i0 _ 1 8 (.slice A1 a c1) a _ (some ⟨wr.heap.size, 0, none⟩) 1 1 [v] rfl rfl Tryz.underlying22 hi hI0 hI1 hI2 rfl (by omega) rfl (owns_ext HO.out ((Ext.refl _).alloc _)) rfl (by exact sl_one_at (enc := encInt) _ _ rfl v 3 rfl HV.out) (fun _ => rfl) TInt.one (by unfold maxLen; omega) (by omega) (by simp; omega) ?_); intro A8 c8 w6 hr6; have HR6 := Lib.hid hr6; clear hr6)
        have HX6 := Lib.hid (ext_turned (hb.alloc _) (HR6.out.turned (lo := w.heap.size) (fun q hq => (HO.out.lt q hq).1)) (by simp))
        have HLT := Lib.hid (show a + 1 = R.length by rw [HT.out, List.length_append, ← HL.out]; rfl)
        have HOT := Lib.hid (show w6.ownsRow w.heap.size 3 1 (.slice A8 (a + 1) c8) (a + 1) (R.flatMap encInt) by have h := HR6.out.row; rw [HT.out, List.flatMap_append]; simpa using h)
        go_wp2
        exact ret_rowI rfl HOT.out (by rw [HLT.out]) HX6.out
      · have HT := Lib.hid (show R = acc by rw [HR.out, HDN.out]; simp [riseGo])
        have HLT := Lib.hid (show a = R.length by rw [HT.out, ← HL.out])
        have HOT := Lib.hid (show wr.ownsRow w.heap.size 3 1 (.slice A1 a c1) a (R.flatMap encInt) by rw [HT.out]; exact HO.out)
        go_wp2
        exact ret_rowI rfl HOT.out (by rw [HLT.out]) hb
end Go.Proofs.YtgmlcohffdeplaaGreat
/-! ChooseS -/
namespace Go.Proofs.YtgmlcohffdeplaaGreat
open Go.RowKit
set_option linter.unusedVariables false
set_option maxHeartbeats 16000000 in
set_option maxRecDepth 10000 in
theorem l04Of_c (ps : List Int) (ns : List Node) (nodes : List Int) (s : Int) (A : Option Addr) (n c : Nat) (B : Option Addr) (q d : Nat) (D : Option Addr) (m f : Nat) (w : World) (h : SlAt RInt 1 w A n ps) (h2 : SlAt RNode 4 w B q ns) (h3 : SlAt RInt 1 w D m nodes) (hm : m ≤ 1000) (ht : topoB ps ns = true) (hv : ∀ x ∈ nodes, 0 ≤ x ∧ x < (ns.length : Int)) : Calls Tryz.prog 153 #[.agg #[.slice A n c, .slice B q d], .slice D m f, .int .i64 s] w (RetOwn RInt 3 1 w (ofL ps ns nodes s)) := by
  obtain ⟨i0, hi, hI0, hI1, hI2⟩ := info_parts TInt.info
  have htp := topo_parts ht
  have hn : n ≤ 24 := by have := htp.1.2; rw [h.len] at this; exact this
  have hq : q ≤ 24 := by have := htp.2.1; rw [h2.len] at this; exact this
  have HAB := Lib.hid (fun (s : Nat) (hs : s < n) (u : World) (e : Ext w u) => RetOwn.sl (l02Up_c ps ns s A n c B q d u (h.ext (Flat.mono _ _) e) hn hs htp.2.2.1))
  have H2 := Lib.hid (fun (u : World) (e : Ext w u) => h2.ext (Flat.mono Node.enc Node.ok) e)
  have H3 := Lib.hid (fun (u : World) (e : Ext w u) => h3.ext (Flat.mono encInt In64) e)
  have HND := Lib.hid (fun (x : Node) (hx : x ∈ ns) => show 0 ≤ x.Leaf ∧ x.Leaf < (n : Int) from by
    have h5 := htp.2.2.2.2.1 x hx
    unfold nodeB withinB at h5
    simp only [Bool.and_eq_true, decide_eq_true_iff] at h5
    have := h5.1
    have h6 := h.len
    omega)
  have HVN := Lib.hid (fun (x : Int) (hx : x ∈ nodes) => show 0 ≤ x ∧ x < (q : Int) from by have := hv x hx; rw [h2.len] at this; exact this)
  have HNL := Lib.hid h3.len
  have hlu := Lib.hid (fun s => upL_len ps s)
  have HF := Lib.hid (show ofL ps ns nodes s = [] ++ (nodes.drop 0).filter (overOne ps ns s) from rfl)
  clear h h2 h3 ht hv htp
  generalize ofL ps ns nodes s = R at *
  go_enter Tryz.func153, Tryz.ntmps153
  go_wp2
  obtain ⟨W1, hW1⟩ : ∃ u, u = w.alloc (.cells #[.slice A n c, .slice B q d] 38) := ⟨_, rfl⟩
  have E1 : Ext w W1 := by rw [hW1]; exact (Ext.refl w).alloc _
  have q0 : W1.cell? ⟨w.heap.size, 0, none⟩ = some (.slice A n c) := by rw [hW1]; exact law_box w [.slice A n c, .slice B q d] _ 0 _ rfl
  have q1 : W1.cell? ⟨w.heap.size, 1, none⟩ = some (.slice B q d) := by rw [hW1]; exact law_box w [.slice A n c, .slice B q d] _ 1 _ rfl
  have hsz : W1.heap.size = w.heap.size + 1 := by rw [hW1]; simp
  have HO0 := Lib.hid (show (W1.alloc (.cells #[] 3)).ownsRow (w.heap.size + 1) 3 1 (.slice (some ⟨w.heap.size + 1, 0, none⟩) 0 0) 0 [] by rw [← hsz]; exact owns_empty W1 3 1)
  rw [← hW1]
  clear hW1
  go_loopw [7, 13] (fun l iv wr => ∃ (k a : Nat) (A1 : Option Addr) (c1 : Nat) (acc : List Int), k ≤ m ∧ iv = .int .i64 k ∧ l = .slice A1 a c1 ∧ a ≤ k ∧ Hid (a = acc.length) ∧ Hid (R = acc ++ (nodes.drop k).filter (overOne ps ns s)) ∧ Hid (∀ y ∈ acc, In64 y) ∧ Hid (wr.ownsRow (w.heap.size + 1) 3 1 (.slice A1 a c1) a (acc.flatMap encInt)) ∧ Ext W1 wr) (fun _ iv _ => m - (intOf iv).toNat)
  case atStart => exact ⟨0, 0, _, 0, [], by omega, rfl, rfl, by omega, Lib.hid rfl, HF, Lib.hid (fun y hy => by cases hy), HO0, (Ext.refl _).alloc _⟩
  case round =>
    clear HO0 HF
    obtain ⟨k, a, A1, c1, acc, hk, rfl, rfl, hak, HL, HR, HIN, HO, hb⟩ := hrel
    have hxq : Ext w wr := E1.trans hb
    by_cases hlt : k < m
    · obtain ⟨bo, oo, x, cs, hD, hbw, hx, _, hc, rfl, _⟩ := (H3.out wr hxq).at_ hlt
      subst hD
      have g0 := hc 0 _ rfl
      simp only [Nat.mul_one, Nat.add_zero] at g0
      have HD := Lib.hid (drop_cons hx)
      obtain ⟨hxa, hxb⟩ := HVN.out x (List.mem_of_getElem? hx)
      obtain ⟨i, rfl⟩ := Int.eq_ofNat_of_zero_le hxa
      have hi' : i < q := by omega
      obtain ⟨bn, on, y, cs2, hB, hbw2, hy, _, hc2, rfl, _⟩ := (H2.out wr hxq).at_ hi'
      subst hB
      have y0 := hc2 0 _ rfl
      have y1 := hc2 1 _ rfl
      have y2 := hc2 2 _ rfl
      have y3 := hc2 3 _ rfl
      simp only [Nat.add_zero] at y0
      have hyl := HND.out y (List.mem_of_getElem? hy)
      have HOV := Lib.hid (show overOne ps ns s (i : Int) = (upL ps y.Leaf.toNat).contains s by unfold overOne; rw [show ((i : Int)).toNat = i by omega, List.getD_eq_getElem?_getD, hy]; rfl)
      obtain ⟨lf, hlf⟩ : ∃ lf : Nat, y.Leaf = lf := ⟨y.Leaf.toNat, by omega⟩
      rw [hlf] at y0 HOV hyl
      rw [show ((lf : Int)).toNat = lf by omega] at HOV
      have HAB2 := Lib.hid (fun (u : World) (e : Ext wr u) => HAB.out lf (by omega) u (hxq.trans e))
      have z0 := hb.cell q0
      have z1 := hb.cell q1
      have hz0 := lt_of_cell z0
      have hul := hlu.out lf
      clear hx hc hy hc2 y1 y2 y3 hxa hlf
      obtain ⟨ct, hct⟩ : ∃ ct, (upL ps lf).contains s = ct := ⟨_, rfl⟩
      have HCT := Lib.hid hct
      clear hct
      have HKS := Lib.hid (fun (u : World) (e : Ext wr u) => show Ext wr u ∧ u.cell? ⟨w.heap.size, 0, none⟩ = some (.slice A n c) ∧ u.cell? ⟨w.heap.size, 1, none⟩ = some (.slice (some ⟨bn, on, none⟩) q d) ∧ u.cell? ⟨bn, on + i * 4, none⟩ = some (.int .i64 lf) from ⟨e, e.cell z0, e.cell z1, e.cell y0⟩)
      rcases ct with _ | _
      · have HT := Lib.hid (show R = acc ++ (nodes.drop (k + 1)).filter (overOne ps ns s) by rw [HR.out, HD.out, List.filter_cons, HOV.out, HCT.out]; rfl)
        go_wp2
        go_region_held3 (fun u => Ext wr u ∧ u.cell? ⟨w.heap.size, 0, none⟩ = some (.slice A n c) ∧ u.cell? ⟨w.heap.size, 1, none⟩ = some (.slice (some ⟨bn, on, none⟩) q d) ∧ u.cell? ⟨bn, on + i * 4, none⟩ = some (.int .i64 lf)) ((refine HKS.out _ ?_; first | exact (Ext.refl _).drew | assumption | exact HE6.out | exact HE5.out)) (first | (go_at_call 158; (with_reducible refine (HAB2.out _ (by repeat (first | exact Ext.refl _ | apply Ext.drew))).mono ?_); rintro e w5 ⟨A5, c5, rfl, hs5, hb5⟩; have HE5 := Lib.hid (show Ext wr w5 from Ext.trans (by repeat (first | exact Ext.refl _ | apply Ext.drew)) hb5); have HS5 := Lib.hid hs5; clear hs5) | (go_at_call 143; (have hcc := l02Has_c (upL ps lf) s A5 (upL ps lf).length c5 _ HS5.out (by unfold maxLen; omega)); rw [HCT.out] at hcc; (with_reducible refine hcc.mono ?_); rintro e w6 ⟨rfl, hb6⟩; have HE6 := Lib.hid (HE5.out.trans hb6)))
        all_goals
          go_wp2
          go_roundw
          case rel => exact ⟨k + 1, a, A1, c1, acc, by omega, by go_num, rfl, by omega, HL, HT, HIN, Lib.hid (owns_ext HO.out HE6.out), hb.trans HE6.out⟩
          case measure => simp [intOf]; omega
      · have HT := Lib.hid (show R = (acc ++ [(i : Int)]) ++ (nodes.drop (k + 1)).filter (overOne ps ns s) by rw [HR.out, HD.out, List.filter_cons, HOV.out, HCT.out]; simp)
        go_wp2
        go_region_held3 (fun u => Ext wr u ∧ u.cell? ⟨w.heap.size, 0, none⟩ = some (.slice A n c) ∧ u.cell? ⟨w.heap.size, 1, none⟩ = some (.slice (some ⟨bn, on, none⟩) q d) ∧ u.cell? ⟨bn, on + i * 4, none⟩ = some (.int .i64 lf)) ((refine HKS.out _ ?_; first | exact (Ext.refl _).drew | assumption | exact HE6.out | exact HE5.out)) (first | (go_at_call 158; (with_reducible refine (HAB2.out _ (by repeat (first | exact Ext.refl _ | apply Ext.drew))).mono ?_); rintro e w5 ⟨A5, c5, rfl, hs5, hb5⟩; have HE5 := Lib.hid (show Ext wr w5 from Ext.trans (by repeat (first | exact Ext.refl _ | apply Ext.drew)) hb5); have HS5 := Lib.hid hs5; clear hs5) | (go_at_call 143; (have hcc := l02Has_c (upL ps lf) s A5 (upL ps lf).length c5 _ HS5.out (by unfold maxLen; omega)); rw [HCT.out] at hcc; (with_reducible refine hcc.mono ?_); rintro e w6 ⟨rfl, hb6⟩; have HE6 := Lib.hid (HE5.out.trans hb6)))
        all_goals
          have hb6 := hb.trans HE6.out
          have HO6 := Lib.hid (owns_ext HO.out HE6.out)
          have hle6 := hb6.le
          clear z0 z1 hz0 y0
          go_wp2_with (at_builtin; go_must (refine wpList_append_r (enc := encInt) (ok := In64) (.tmp 27) (.tmp 29) _ (w.heap.size + 1) 3 i0 _ 1 8 (.slice A1 a c1) a _ (some ⟨w6.heap.size, 0, none⟩) 1 1 [(i : Int)] rfl rfl Tryz.underlying22 hi hI0 hI1 hI2 rfl (by omega) rfl (owns_ext HO6.out ((Ext.refl _).alloc _)) rfl (by exact sl_one_at (enc := encInt) _ _ rfl (i : Int) 3 rfl ⟨by omega, by omega⟩) (fun _ => rfl) TInt.one (by unfold maxLen; omega) (by omega) (by simp; omega) ?_); intro A9 c9 w7 hr7; have HR7 := Lib.hid hr7; clear hr7)
          have HX7 := Lib.hid (ext_turned (hb6.alloc _) (HR7.out.turned (lo := w.heap.size + 1) (fun q hq => (HO6.out.lt q hq).1)) (by omega))
          go_wp2
          go_roundw
          case rel => exact ⟨k + 1, a + 1, A9, c9, acc ++ [(i : Int)], by omega, by go_num, rfl, by omega, Lib.hid (by rw [List.length_append, ← HL.out]; rfl), HT, Lib.hid (fun y hy => by rcases List.mem_append.1 hy with hy | hy; exact HIN.out y hy; (rw [List.mem_singleton.1 hy]; exact ⟨by omega, by omega⟩)), Lib.hid (by have h := HR7.out.row; rw [List.flatMap_append]; simpa using h), HX7.out⟩
          case measure => simp [intOf]; omega
    · have HT := Lib.hid (show R = acc by rw [HR.out, List.drop_eq_nil_of_le (by have := HNL.out; omega)]; simp)
      have HLT := Lib.hid (show R.length = a by rw [HT.out, ← HL.out])
      have HOT := Lib.hid (show wr.ownsRow (w.heap.size + 1) 3 1 (.slice A1 a c1) a (R.flatMap encInt) by rw [HT.out]; exact HO.out)
      have HIT := Lib.hid (show ∀ y ∈ R, In64 y by rw [HT.out]; exact HIN.out)
      go_wp2
      exact ret_own2 rfl (owns_base HOT.out (by omega)) HLT.out encInt_size HIT.out hxq
end Go.Proofs.YtgmlcohffdeplaaGreat
/-! ChooseS2 -/
namespace Go.Proofs.YtgmlcohffdeplaaGreat
open Go.RowKit
set_option linter.unusedVariables false
/-- A number is handed back of which something holds. -/
def RetIdx (w : World) (p : Int → Prop) : Ending → World → Prop := fun e w' => ∃ r : Int, e = .returned (.int .i64 r) ∧ p r ∧ Ext w w'
theorem ret_idx {w w0 : World} {P : Program} {fn : Func} {a : Act} {r : Int} {t : Tmp} {p : Int → Prop} (hr : fn.results = #[.tmp t]) (h : p r) (hb : Ext w0 w) (hv : a.tmps.getD t undef = .int .i64 r := by rfl) (hd : a.defers = [] := by rfl) : bodyPost P fn (RetIdx w0 p) .ret a w :=
  bodyPost_ret (results_tmp hr _ _ _) hd (by rw [hv]; exact ⟨r, rfl, h, hb⟩)
theorem topo_len {ps : List Int} {ns : List Node} (ht : topoB ps ns = true) : ps.length ≤ 24 ∧ ns.length ≤ 24 := ⟨(topo_parts ht).1.2, (topo_parts ht).2.1⟩
set_option maxHeartbeats 16000000 in
set_option maxRecDepth 10000 in
theorem l04Switch_c (ps : List Int) (ns : List Node) (nodes : List Int) (nn level : Int) (A : Option Addr) (n c : Nat) (B : Option Addr) (q d : Nat) (D : Option Addr) (m f : Nat) (w : World) (h : SlAt RInt 1 w A n ps) (h2 : SlAt RNode 4 w B q ns) (h3 : SlAt RInt 1 w D m nodes) (hm : m ≤ 1000) (ht : topoB ps ns = true) (hv : ∀ x ∈ nodes, 0 ≤ x ∧ x < (ns.length : Int)) : Calls Tryz.prog 152 #[.agg #[.slice A n c, .slice B q d], .slice D m f, .int .i64 nn, .int .i64 level] w (RetIdx w (fun r => r = -1 ∨ ∃ t : Nat, r = t ∧ t < n ∧ nn ≤ ((ofL ps ns nodes t).length : Int))) := by
  have htp := topo_parts ht
  have hn : n ≤ 24 := by have := htp.1.2; rw [h.len] at this; exact this
  have HOF := Lib.hid (fun (s : Int) (u : World) (e : Ext w u) => RetOwn.sl (l04Of_c ps ns nodes s A n c B q d D m f u (h.ext (Flat.mono _ _) e) (h2.ext (Flat.mono _ _) e) (h3.ext (Flat.mono _ _) e) hm ht hv))
  have HLV := Lib.hid (fun (s : Nat) (hs : s < n) (u : World) (e : Ext w u) => show Calls Tryz.prog 101 #[.agg #[.slice A n c, .slice B q d], .int .i64 s] u (Ret u (.int .i64 (levT ps s))) from by
    have h1 := l02Level_c ps A n c B q d hn h.len htp.2.2.1 24 s u hs (by omega) (h.ext (Flat.mono _ _) e) (Nat.le_refl _)
    rw [lev_eq ht (by rw [h.len]; exact hs) (by rw [h.len]; omega)] at h1
    exact h1)
  clear h h2 h3 ht hv htp
  go_enter Tryz.func152, Tryz.ntmps152
  go_wp2
  obtain ⟨W1, hW1⟩ : ∃ u, u = w.alloc (.cells #[.slice A n c, .slice B q d] 38) := ⟨_, rfl⟩
  have E1 : Ext w W1 := by rw [hW1]; exact (Ext.refl w).alloc _
  have q0 : W1.cell? ⟨w.heap.size, 0, none⟩ = some (.slice A n c) := by rw [hW1]; exact law_box w [.slice A n c, .slice B q d] _ 0 _ rfl
  have q1 : W1.cell? ⟨w.heap.size, 1, none⟩ = some (.slice B q d) := by rw [hW1]; exact law_box w [.slice A n c, .slice B q d] _ 1 _ rfl
  rw [← hW1]
  clear hW1
  go_loopw [9, 16] (fun bv iv wr => ∃ (k : Nat) (bst : Int), k ≤ n ∧ iv = .int .i64 k ∧ bv = .int .i64 bst ∧ Hid (bst = -1 ∨ ∃ t : Nat, bst = t ∧ t < n ∧ nn ≤ ((ofL ps ns nodes t).length : Int)) ∧ Ext W1 wr) (fun _ iv _ => n - (intOf iv).toNat)
  case atStart => exact ⟨0, -1, Nat.zero_le _, rfl, rfl, Lib.hid (.inl rfl), Ext.refl _⟩
  case round =>
    obtain ⟨k, bst, hk, rfl, rfl, HB, hb⟩ := hrel
    by_cases hlt : k < n
    · have z0 := hb.cell q0
      have z1 := hb.cell q1
      have hz0 := lt_of_cell z0
      have HO1 := Lib.hid (HOF.out (k : Int) wr (E1.trans hb))
      have HGK := Lib.hid (fun (hg : nn ≤ ((ofL ps ns nodes (k : Int)).length : Int)) => show (k : Int) = -1 ∨ ∃ t : Nat, (k : Int) = t ∧ t < n ∧ nn ≤ ((ofL ps ns nodes t).length : Int) from .inr ⟨k, rfl, hlt, hg⟩)
      generalize (ofL ps ns nodes (k : Int)) = L1 at HO1 HGK
      have HLK := Lib.hid (HLV.out k hlt)
      generalize levT ps k = l1 at *
      go_wp2_with fail
      refine HO1.out.mono ?_
      rintro e w5 ⟨A5, c5, rfl, hs5, hb5⟩
      generalize L1.length = K1 at *
      clear hs5 HO1
      have hb5 := hb.trans hb5
      have z0 := hb5.cell q0
      have z1 := hb5.cell q1
      have hz0 := lt_of_cell z0
      go_wp2_with fail
      refine (HLK.out w5 (E1.trans hb5)).mono ?_
      rintro e w6 ⟨rfl, hb6⟩
      have hb6 := hb5.trans hb6
      have z0 := hb6.cell q0
      have z1 := hb6.cell q1
      have hz0 := lt_of_cell z0
      by_cases hc1 : (K1 : Int) < nn
      · have hd1 : decide ((K1 : Int) < nn) = true := decide_eq_true hc1
        go_wp2
        go_roundw
        case rel => exact ⟨k + 1, bst, by omega, by go_num, rfl, HB, hb6⟩
        case measure => simp [intOf]; omega
      have hd1 : decide ((K1 : Int) < nn) = false := decide_eq_false hc1
      have HGK2 := Lib.hid (HGK.out (by omega))
      clear hc1 HGK
      by_cases hc2 : level < l1
      · have hd2 : decide (level < l1) = true := decide_eq_true hc2
        go_wp2
        go_roundw
        case rel => exact ⟨k + 1, bst, by omega, by go_num, rfl, HB, hb6⟩
        case measure => simp [intOf]; omega
      have hd2 : decide (level < l1) = false := decide_eq_false hc2
      clear hc2
      rcases HB.out with rfl | ⟨t, rfl, ht, htn⟩
      · go_wp2
        go_roundw
        case rel => exact ⟨k + 1, k, by omega, by go_num, rfl, HGK2, hb6⟩
        case measure => simp [intOf]; omega
      have hdb : decide ((t : Int) < 0) = false := by rw [decide_eq_false_iff_not]; omega
      have HLT := Lib.hid (HLV.out t ht)
      have HO2 := Lib.hid (HOF.out (t : Int))
      clear htn
      generalize levT ps t = l2 at *
      go_wp2_with fail
      refine (HLT.out w6 (E1.trans hb6)).mono ?_
      rintro e w7 ⟨rfl, hb7⟩
      have hb7 := hb6.trans hb7
      have z0 := hb7.cell q0
      have z1 := hb7.cell q1
      have hz0 := lt_of_cell z0
      by_cases hc3 : l1 < l2
      · have hd3 : decide (l1 < l2) = true := decide_eq_true hc3
        go_wp2
        go_roundw
        case rel => exact ⟨k + 1, k, by omega, by go_num, rfl, HGK2, hb7⟩
        case measure => simp [intOf]; omega
      have hd3 : decide (l1 < l2) = false := decide_eq_false hc3
      clear hc3
      go_wp2_with fail
      refine (HLT.out w7 (E1.trans hb7)).mono ?_
      rintro e w8 ⟨rfl, hb8⟩
      have hb8 := hb7.trans hb8
      have z0 := hb8.cell q0
      have z1 := hb8.cell q1
      have hz0 := lt_of_cell z0
      rcases hc4 : l1 == l2 with _ | _
      · go_wp2
        go_roundw
        case rel => exact ⟨k + 1, t, by omega, by go_num, rfl, HB, hb8⟩
        case measure => simp [intOf]; omega
      go_wp2_with fail
      refine (HO2.out w8 (E1.trans hb8)).mono ?_
      rintro e w9 ⟨A9, c9, rfl, hs9, hb9⟩
      have hb9 := hb8.trans hb9
      clear hs9
      generalize (ofL ps ns nodes (t : Int)).length = K2
      by_cases hc5 : K1 < K2
      · have hd5 : decide (K1 < K2) = true := decide_eq_true hc5
        have hd6 : decide ((K1 : Int) < (K2 : Int)) = true := by rw [decide_eq_true_iff]; omega
        go_wp2
        go_roundw
        case rel => exact ⟨k + 1, k, by omega, by go_num, rfl, HGK2, hb9⟩
        case measure => simp [intOf]; omega
      · have hd5 : decide (K1 < K2) = false := decide_eq_false hc5
        have hd6 : decide ((K1 : Int) < (K2 : Int)) = false := by rw [decide_eq_false_iff_not]; omega
        go_wp2
        go_roundw
        case rel => exact ⟨k + 1, t, by omega, by go_num, rfl, HB, hb9⟩
        case measure => simp [intOf]; omega
    · go_wp2
      exact ret_idx rfl HB.out (E1.trans hb)
set_option maxHeartbeats 16000000 in
set_option maxRecDepth 10000 in
theorem l04Leaf_c (ps : List Int) (ns : List Node) (nodes taken : List Int) (A : Option Addr) (n c : Nat) (B : Option Addr) (q d : Nat) (D : Option Addr) (m f : Nat) (T : Option Addr) (tn tc : Nat) (w : World) (h : SlAt RInt 1 w A n ps) (h2 : SlAt RNode 4 w B q ns) (h3 : SlAt RInt 1 w D m nodes) (hm : m ≤ 1000) (h4 : SlAt RInt 1 w T tn taken) (htn : tn ≤ maxLen) (ht : topoB ps ns = true) (hv : ∀ x ∈ nodes, 0 ≤ x ∧ x < (ns.length : Int)) : Calls Tryz.prog 154 #[.agg #[.slice A n c, .slice B q d], .slice D m f, .slice T tn tc] w (RetIdx w (fun r => (r = -1 ∧ ∀ s : Nat, s < n → candB ps ns nodes taken s = false) ∨ ∃ t : Nat, r = t ∧ t < n ∧ candB ps ns nodes taken t = true)) := by
  have htp := topo_parts ht
  have hn : n ≤ 24 := by have := htp.1.2; rw [h.len] at this; exact this
  have HOF := Lib.hid (fun (s : Int) (u : World) (e : Ext w u) => RetOwn.sl (l04Of_c ps ns nodes s A n c B q d D m f u (h.ext (Flat.mono _ _) e) (h2.ext (Flat.mono _ _) e) (h3.ext (Flat.mono _ _) e) hm ht hv))
  have HKI := Lib.hid (fun (s : Int) (u : World) (e : Ext w u) => RetOwn.sl (l02Kids_c ps s A n c B q d u (h.ext (Flat.mono _ _) e) (by omega)))
  have HHA := Lib.hid (fun (s : Int) (u : World) (e : Ext w u) => l02Has_c taken s T tn tc u (h4.ext (Flat.mono _ _) e) htn)
  clear h h2 h3 h4 ht hv htp
  go_enter Tryz.func154, Tryz.ntmps154
  go_wp2
  obtain ⟨W1, hW1⟩ : ∃ u, u = w.alloc (.cells #[.slice A n c, .slice B q d] 38) := ⟨_, rfl⟩
  have E1 : Ext w W1 := by rw [hW1]; exact (Ext.refl w).alloc _
  have q0 : W1.cell? ⟨w.heap.size, 0, none⟩ = some (.slice A n c) := by rw [hW1]; exact law_box w [.slice A n c, .slice B q d] _ 0 _ rfl
  have q1 : W1.cell? ⟨w.heap.size, 1, none⟩ = some (.slice B q d) := by rw [hW1]; exact law_box w [.slice A n c, .slice B q d] _ 1 _ rfl
  rw [← hW1]
  clear hW1
  go_loopw [7, 13] (fun bv iv wr => ∃ (k : Nat) (bst : Int), k ≤ n ∧ iv = .int .i64 k ∧ bv = .int .i64 bst ∧ Hid ((bst = -1 ∧ ∀ s : Nat, s < k → candB ps ns nodes taken s = false) ∨ ∃ t : Nat, bst = t ∧ t < n ∧ candB ps ns nodes taken t = true) ∧ Ext W1 wr) (fun _ iv _ => n - (intOf iv).toNat)
  case atStart => exact ⟨0, -1, Nat.zero_le _, rfl, rfl, Lib.hid (.inl ⟨rfl, fun s hs => by omega⟩), Ext.refl _⟩
  case round =>
    obtain ⟨k, bst, hk, rfl, rfl, HB, hb⟩ := hrel
    by_cases hlt : k < n
    · have z0 := hb.cell q0
      have z1 := hb.cell q1
      have hz0 := lt_of_cell z0
      have HO1 := Lib.hid (HOF.out (k : Int) wr (E1.trans hb))
      have HK1 := Lib.hid (HKI.out (k : Int))
      have HH1 := Lib.hid (HHA.out (k : Int))
      have HCD := Lib.hid (show candB ps ns nodes taken k = (!(ofL ps ns nodes (k : Int)).isEmpty && ((kidsL ps k).isEmpty && !taken.contains (k : Int))) from rfl)
      have HNO := Lib.hid (fun (hg : candB ps ns nodes taken k = false) => show (bst = -1 ∧ ∀ s : Nat, s < k + 1 → candB ps ns nodes taken s = false) ∨ ∃ t : Nat, bst = t ∧ t < n ∧ candB ps ns nodes taken t = true from by
        rcases HB.out with ⟨h1, h2⟩ | h1
        · exact .inl ⟨h1, fun s hs => by
            rcases Nat.lt_or_ge s k with h3 | h3
            · exact h2 s h3
            · obtain rfl : s = k := by omega
              exact hg⟩
        · exact .inr h1)
      have HYE := Lib.hid (fun (hg : candB ps ns nodes taken k = true) => show ((k : Int) = -1 ∧ ∀ s : Nat, s < k + 1 → candB ps ns nodes taken s = false) ∨ ∃ t : Nat, (k : Int) = t ∧ t < n ∧ candB ps ns nodes taken t = true from .inr ⟨k, rfl, hlt, hg⟩)
      have HBK := Lib.hid (fun (t : Nat) (hbt : bst = t) => show (bst = -1 ∧ ∀ s : Nat, s < k + 1 → candB ps ns nodes taken s = false) ∨ ∃ t : Nat, bst = t ∧ t < n ∧ candB ps ns nodes taken t = true from by
        rcases HB.out with ⟨h1, _⟩ | h1
        · omega
        · exact .inr h1)
      generalize (ofL ps ns nodes (k : Int)) = L1 at HO1 HCD
      generalize hcd : candB ps ns nodes taken k = cd at HCD HNO HYE
      clear hcd
      go_wp2_with fail
      refine HO1.out.mono ?_
      rintro e w5 ⟨A5, c5, rfl, hs5, hb5⟩
      have hb5 := hb.trans hb5
      have z0 := hb5.cell q0
      have z1 := hb5.cell q1
      have hz0 := lt_of_cell z0
      clear hs5 HO1
      rcases L1 with _ | ⟨a0, L1⟩
      · have HN2 := Lib.hid (HNO.out (by rw [HCD.out]; rfl))
        rw [show ([] : List Int).length = 0 from rfl]
        go_wp2
        go_roundw
        case rel => exact ⟨k + 1, bst, by omega, by go_num, rfl, HN2, hb5⟩
        case measure => simp [intOf]; omega
      have hkz : (((a0 :: L1).length : Int) == 0) = false := by rw [beq_eq_false_iff_ne, List.length_cons]; omega
      have hCD := HCD.out
      rw [show (!(a0 :: L1).isEmpty) = true from rfl, Bool.true_and] at hCD
      have HCD := Lib.hid hCD
      clear hCD
      generalize (a0 :: L1).length = K1 at *
      go_wp2_with fail
      refine (HK1.out w5 (E1.trans hb5)).mono ?_
      rintro e w6 ⟨A6, c6, rfl, hs6, hb6⟩
      have hb6 := hb5.trans hb6
      have z0 := hb6.cell q0
      have z1 := hb6.cell q1
      have hz0 := lt_of_cell z0
      clear hs6 HK1
      generalize kidsL ps k = L2 at *
      rcases L2 with _ | ⟨a1, L2⟩
      rotate_left
      · have HN2 := Lib.hid (HNO.out (by rw [HCD.out]; rfl))
        have hkp : decide (0 < (a1 :: L2).length) = true := by simp
        have hkq : decide ((0 : Int) < ((a1 :: L2).length : Int)) = true := by rw [decide_eq_true_iff, List.length_cons]; omega
        generalize (a1 :: L2).length = K2 at *
        go_wp2
        go_roundw
        case rel => exact ⟨k + 1, bst, by omega, by go_num, rfl, HN2, hb6⟩
        case measure => simp [intOf]; omega
      have hCD := HCD.out
      rw [show (([] : List Int).isEmpty) = true from rfl, Bool.true_and] at hCD
      have HCD := Lib.hid hCD
      clear hCD
      rw [show ([] : List Int).length = 0 from rfl]
      generalize taken.contains (k : Int) = tk at *
      go_wp2_with fail
      refine (HH1.out w6 (E1.trans hb6)).mono ?_
      rintro e w7 ⟨rfl, hb7⟩
      have hb7 := hb6.trans hb7
      have z0 := hb7.cell q0
      have z1 := hb7.cell q1
      have hz0 := lt_of_cell z0
      rcases tk with _ | _
      rotate_left
      · have HN2 := Lib.hid (HNO.out (by rw [HCD.out]; rfl))
        go_wp2
        go_roundw
        case rel => exact ⟨k + 1, bst, by omega, by go_num, rfl, HN2, hb7⟩
        case measure => simp [intOf]; omega
      have HY2 := Lib.hid (HYE.out (by rw [HCD.out]; rfl))
      rcases HB.out with ⟨rfl, _⟩ | ⟨t, rfl, ht, htc⟩
      · go_wp2
        go_roundw
        case rel => exact ⟨k + 1, k, by omega, by go_num, rfl, HY2, hb7⟩
        case measure => simp [intOf]; omega
      have hdb : decide ((t : Int) < 0) = false := by rw [decide_eq_false_iff_not]; omega
      have HN2 := Lib.hid (HBK.out t rfl)
      have HO2 := Lib.hid (HOF.out (t : Int))
      clear htc
      go_wp2_with fail
      refine (HO2.out w7 (E1.trans hb7)).mono ?_
      rintro e w9 ⟨A9, c9, rfl, hs9, hb9⟩
      have hb9 := hb7.trans hb9
      clear hs9
      generalize (ofL ps ns nodes (t : Int)).length = K2
      by_cases hc5 : K2 < K1
      · have hd5 : decide (K2 < K1) = true := decide_eq_true hc5
        have hd6 : decide ((K2 : Int) < (K1 : Int)) = true := by rw [decide_eq_true_iff]; omega
        go_wp2
        go_roundw
        case rel => exact ⟨k + 1, k, by omega, by go_num, rfl, HY2, hb9⟩
        case measure => simp [intOf]; omega
      · have hd5 : decide (K2 < K1) = false := decide_eq_false hc5
        have hd6 : decide ((K2 : Int) < (K1 : Int)) = false := by rw [decide_eq_false_iff_not]; omega
        go_wp2
        go_roundw
        case rel => exact ⟨k + 1, t, by omega, by go_num, rfl, HN2, hb9⟩
        case measure => simp [intOf]; omega
    · obtain rfl : k = n := by omega
      go_wp2
      exact ret_idx rfl HB.out (E1.trans hb)
end Go.Proofs.YtgmlcohffdeplaaGreat
/-! ChooseC -/
namespace Go.Proofs.YtgmlcohffdeplaaGreat
open Go.RowKit
set_option linter.unusedVariables false
/-- Numbers or none are handed back, with a word. -/
def RetPick (w : World) : Ending → World → Prop := fun e w' => ∃ (ok : Bool) (A : Option Addr) (n c : Nat) (xs : List Int), e = .returned (.tuple #[.slice A n c, .bool ok]) ∧ SlAt RInt 1 w' A n xs ∧ n ≤ 1048576 ∧ n ≤ c ∧ Ext w w'
theorem ret_pick {w w0 : World} {P : Program} {fn : Func} {a : Act} {t1 t2 : Tmp} {ok : Bool} {A : Option Addr} {n c : Nat} {xs : List Int} (hr : fn.results = #[.tmp t1, .tmp t2]) (h : SlAt RInt 1 w A n xs) (hn : n ≤ 1048576) (hc : n ≤ c) (hb : Ext w0 w) (hv : a.tmps.getD t1 undef = .slice A n c := by rfl) (hv2 : a.tmps.getD t2 undef = .bool ok := by rfl) (hd : a.defers = [] := by rfl) : bodyPost P fn (RetPick w0) .ret a w :=
  bodyPost_ret (results_tmp2 hr _ _ _) hd (by rw [hv, hv2]; exact ⟨ok, A, n, c, xs, rfl, h, hn, hc, hb⟩)
theorem owns_cap {w : World} {base : Nat} {e : TypeId} {sz n c : Nat} {A : Option Addr} {L : List Value} (h : w.ownsRow base e sz (.slice A n c) n L) : n ≤ c := by
  obtain ⟨_, ⟨hv, h0, _⟩ | ⟨g, cap, cur, hv, _, hh, hc, _⟩⟩ := h
  · injection hv with h1 h2 h3; omega
  · injection hv with h1 h2 h3; omega
def lenOf : Value → Nat
  | .slice _ n _ => n
  | _ => 0
set_option maxHeartbeats 16000000 in
set_option maxRecDepth 10000 in
theorem Choose_c (ps : List Int) (ns : List Node) (nodes : List Int) (nn level : Int) (A : Option Addr) (n c : Nat) (B : Option Addr) (q d : Nat) (D : Option Addr) (m f : Nat) (w : World) (h : SlAt RInt 1 w A n ps) (h2 : SlAt RNode 4 w B q ns) (h3 : SlAt RInt 1 w D m nodes) (hm : m ≤ 1000) (hn1 : n ≤ 1000) (hq1 : q ≤ 1000) : Calls Tryz.prog 147 #[.agg #[.slice A n c, .slice B q d], .slice D m f, .int .i64 nn, .int .i64 level] w (RetPick w) := by
  obtain ⟨i0, hi, hI0, hI1, hI2⟩ := info_parts TInt.info

  have HAN := Lib.hid (fun (u : World) (e : Ext w u) => l02Nodes_c ps ns nodes A n c B q d D m f u (h.ext (Flat.mono _ _) e) (by unfold maxLen; omega) (h2.ext (Flat.mono _ _) e) (by unfold maxLen; omega) (h3.ext (Flat.mono _ _) e) (by unfold maxLen; omega))
  have H3 := Lib.hid (fun (u : World) (e : Ext w u) => h3.ext (Flat.mono encInt In64) e)
  have HNE := Lib.hid (fun (u : World) => (SlAt.nil none : SlAt RInt 1 u none 0 []))
  rcases hb0 : (nodesB ns.length nodes && topoB ps ns) with _ | _
  · rw [hb0] at HAN
    clear hb0 h h2 h3
    go_enter Tryz.func147, Tryz.ntmps147
    go_wp2_with fail
    refine (HAN.out _ (by repeat (first | exact Ext.refl _ | assumption | apply Ext.alloc | apply Ext.drewN | apply Ext.drew | (refine Ext.setCell ?_ (by first | (simp; done) | (simp; omega) | omega) _) | (refine Ext.trans ?_ (by assumption))))).mono ?_
    rintro e w1 ⟨rfl, hb1⟩
    obtain ⟨hcr1, hfr1, hz1⟩ := hb1.rules
    (try simp at hz1)
    have hy1_w0 : w.heap.size < w1.heap.size := (by omega)
    go_wp2
    exact ret_pick rfl (HNE.out _) (by omega) (by omega) (((Ext.refl w).alloc _).trans hb1)
  rw [hb0] at HAN
  rw [Bool.and_eq_true] at hb0
  obtain ⟨hnb, ht⟩ := hb0
  have hv : ∀ x ∈ nodes, 0 ≤ x ∧ x < (ns.length : Int) := fun x hx => by
    unfold nodesB at hnb
    rw [List.all_eq_true] at hnb
    have := hnb x hx
    unfold withinB at this
    simp at this
    omega
  by_cases hnn : nn < 1
  · have hd1 : decide (nn < 1) = true := decide_eq_true hnn
    clear h h2 h3 ht hv hnb
    go_enter Tryz.func147, Tryz.ntmps147
    go_wp2_with fail
    refine (HAN.out _ (by repeat (first | exact Ext.refl _ | assumption | apply Ext.alloc | apply Ext.drewN | apply Ext.drew | (refine Ext.setCell ?_ (by first | (simp; done) | (simp; omega) | omega) _) | (refine Ext.trans ?_ (by assumption))))).mono ?_
    rintro e w1 ⟨rfl, hb1⟩
    obtain ⟨hcr1, hfr1, hz1⟩ := hb1.rules
    (try simp at hz1)
    have hy1_w0 : w.heap.size < w1.heap.size := (by omega)
    go_wp2
    exact ret_pick rfl (HNE.out _) (by omega) (by omega) (((Ext.refl w).alloc _).trans hb1)
  have hd1 : decide (nn < 1) = false := decide_eq_false hnn
  obtain ⟨N, rfl⟩ := Int.eq_ofNat_of_zero_le (show 0 ≤ nn by omega)
  have HSW := Lib.hid (fun (u : World) (e : Ext w u) => l04Switch_c ps ns nodes N level A n c B q d D m f u (h.ext (Flat.mono _ _) e) (h2.ext (Flat.mono _ _) e) (h3.ext (Flat.mono _ _) e) hm ht hv)
  have HOF := Lib.hid (fun (s : Int) (u : World) (e : Ext w u) => RetOwn.sl (l04Of_c ps ns nodes s A n c B q d D m f u (h.ext (Flat.mono _ _) e) (h2.ext (Flat.mono _ _) e) (h3.ext (Flat.mono _ _) e) hm ht hv))
  have HLF := Lib.hid (fun (mine : List Int) (hmi : ∀ x ∈ mine, x ∈ nodes) (M : Option Addr) (mn mc : Nat) (hmn : mn ≤ 1000) (taken : List Int) (T : Option Addr) (tn tc : Nat) (htn : tn ≤ maxLen) (u : World) (e : Ext w u) (h5 : SlAt RInt 1 u M mn mine) (h6 : SlAt RInt 1 u T tn taken) => l04Leaf_c ps ns mine taken A n c B q d M mn mc T tn tc u (h.ext (Flat.mono _ _) e) (h2.ext (Flat.mono _ _) e) h5 hmn h6 htn ht (fun x hx => hv x (hmi x hx)))
  have HO2 := Lib.hid (fun (mine : List Int) (hmi : ∀ x ∈ mine, x ∈ nodes) (M : Option Addr) (mn mc : Nat) (hmn : mn ≤ 1000) (s : Int) (u : World) (e : Ext w u) (h5 : SlAt RInt 1 u M mn mine) => RetOwn.sl (l04Of_c ps ns mine s A n c B q d M mn mc u (h.ext (Flat.mono _ _) e) (h2.ext (Flat.mono _ _) e) h5 hmn ht (fun x hx => hv x (hmi x hx))))
  have HCS := Lib.hid (fun (mine taken : List Int) (hmi : ∀ x ∈ mine, x ∈ nodes) (s : Int) (hc : candB ps ns mine taken s = true) => cnt_step ht (fun x hx => hv x (hmi x hx)) hc)
  have HCE := Lib.hid (fun (mine taken : List Int) (hmi : ∀ x ∈ mine, x ∈ nodes) (hc : cntL ns mine taken < mine.length) => show ∃ k : Nat, k < n ∧ candB ps ns mine taken k = true from by
    have := cand_exists ht (fun x hx => hv x (hmi x hx)) hc
    rw [h.len] at this; exact this)
  have HNL := Lib.hid h3.len
  clear h h2 h3 ht hv hnb
  go_enter Tryz.func147, Tryz.ntmps147
  go_wp2_with fail
  refine (HAN.out _ (by repeat (first | exact Ext.refl _ | assumption | apply Ext.alloc | apply Ext.drewN | apply Ext.drew | (refine Ext.setCell ?_ (by first | (simp; done) | (simp; omega) | omega) _) | (refine Ext.trans ?_ (by assumption))))).mono ?_
  rintro e w1 ⟨rfl, hb1⟩
  obtain ⟨hcr1, hfr1, hz1⟩ := hb1.rules
  (try simp at hz1)
  have hy1_w0 : w.heap.size < w1.heap.size := (by omega)
  have q0 := hb1.cell (law_box w [.slice A n c, .slice B q d] 38 0 _ rfl)
  have q1 := hb1.cell (law_box w [.slice A n c, .slice B q d] 38 1 _ rfl)
  have E1 : Ext w w1 := ((Ext.refl w).alloc _).trans hb1
  have hz0 := lt_of_cell q0
  clear hb1 HAN
  go_wp2
  go_loopw [28] (fun iv wr => ∃ k : Nat, k ≤ m ∧ iv = .int .i64 k ∧ Ext w1 wr) (fun iv _ => m - (intOf iv).toNat)
  case atStart => exact ⟨0, Nat.zero_le _, rfl, Ext.refl _⟩
  case round =>
    obtain ⟨k, hk, rfl, hb⟩ := hrel
    by_cases hlt : k < m
    · obtain ⟨bo, oo, x, cs, hD, hbw, hx, _, hc, rfl, _⟩ := (H3.out wr (E1.trans hb)).at_ hlt
      subst hD
      have g0 := hc 0 _ rfl
      simp only [Nat.mul_one, Nat.add_zero] at g0
      clear hc hx
      have z0 := hb.cell q0
      have z1 := hb.cell q1
      by_cases hk0 : 0 < k
      · obtain ⟨bo2, oo2, y, cs2, hD2, hbw2, hy, _, hc2, rfl, _⟩ := (H3.out wr (E1.trans hb)).at_ (show k - 1 < m by omega)
        injection hD2 with hD2; injection hD2 with hD2 hD3; subst hD2; subst hD3
        have y0 := hc2 0 _ rfl
        simp only [Nat.mul_one, Nat.add_zero] at y0
        clear hc2 hy
        have hkd : decide (0 < k) = true := decide_eq_true hk0
        have hkd2 : decide ((0 : Int) < (k : Int)) = true := by rw [decide_eq_true_iff]; omega
        have hkw : IntKind.i64.wrap ((k : Int) - 1) = ((k - 1 : Nat) : Int) := by rw [show (k : Int) - 1 = ((k - 1 : Nat) : Int) by omega]; exact IntWalk.i64_in _ ⟨by omega, by omega⟩
        rcases hcy : decide (x ≤ y) with _ | _
        · go_wp2
          go_quiet (fail)
          go_wp2
          go_roundw
          case rel => exact ⟨k + 1, by omega, by go_num, Ext.trans hb ((Ext.refl _).drewN _)⟩
          case measure => simp [intOf]; omega
        · go_wp2
          go_quiet (fail)
          go_wp2
          exact ret_pick rfl (HNE.out _) (by omega) (by omega) (E1.trans (Ext.trans hb ((Ext.refl _).drewN _)))
      · obtain rfl : k = 0 := by omega
        go_wp2
        go_quiet (fail)
        go_wp2
        go_roundw
        case rel => exact ⟨1, by omega, by go_num, Ext.trans hb ((Ext.refl _).drewN _)⟩
        case measure => simp [intOf]; omega
    · skip
      have z0 := hb.cell q0
      have z1 := hb.cell q1
      have hzr := lt_of_cell z0
      go_wp2_with fail
      refine (HSW.out wr (E1.trans hb)).mono ?_
      rintro e w2 ⟨r, rfl, hr, hb2⟩
      have hb2 := hb.trans hb2
      rcases hr with rfl | ⟨t, rfl, htn, hrn⟩
      · go_wp2
        exact ret_pick rfl (HNE.out _) (by omega) (by omega) (E1.trans hb2)
      have hdt : decide ((t : Int) < 0) = false := by rw [decide_eq_false_iff_not]; omega
      have z0 := hb2.cell q0
      have z1 := hb2.cell q1
      have hzr := lt_of_cell z0
      have HOT := Lib.hid (HOF.out (t : Int) w2 (E1.trans hb2))
      have HMI := Lib.hid (fun (x : Int) (hx : x ∈ ofL ps ns nodes t) => ofL_sub hx)
      have HML := Lib.hid (ofL_len ps ns nodes t)
      generalize ofL ps ns nodes (t : Int) = mine at *
      go_wp2_with fail
      refine HOT.out.mono ?_
      rintro e w3 ⟨M, mc, rfl, hs3, hb3⟩
      have hb3 := hb2.trans hb3
      have HM := Lib.hid (fun (u : World) (e : Ext w3 u) => hs3.ext (Flat.mono encInt In64) e)
      have hmn : mine.length ≤ 1000 := by have := HML.out; have := HNL.out; omega
      clear hs3 HOT HOF HSW
      have z0 := hb3.cell q0
      have z1 := hb3.cell q1
      have hzr := lt_of_cell z0
      have hle3 := hb3.le
      generalize hmm : mine.length = mn at *
      have HMM := Lib.hid hmm
      clear hmm
      have hNm : N ≤ mn := by omega
      have HA0 := Lib.hid (show ((w3.alloc (.cells #[] 3)).alloc (.cells #[] 3)).ownsRow w3.heap.size 3 1 (.slice (some ⟨w3.heap.size, 0, none⟩) 0 0) 0 [] ∧ ((w3.alloc (.cells #[] 3)).alloc (.cells #[] 3)).ownsRow w3.heap.size 3 1 (.slice (some ⟨w3.heap.size + 1, 0, none⟩) 0 0) 0 [] from
        ⟨owns_ext (owns_empty w3 3 1) ((Ext.refl _).alloc _), by
          have h := owns_empty (w3.alloc (.cells #[] 3)) 3 1
          rw [show (w3.alloc (.cells #[] 3)).heap.size = w3.heap.size + 1 by simp] at h
          exact owns_base h (by omega)⟩)
      have HCN := Lib.hid (show cntL ns mine [] = 0 by unfold cntL; simp)
      have HIM := Lib.hid ((HM.out w3 (Ext.refl _)).all)
      go_wp2
      go_loopw [13, 14] (fun ov tv wr => ∃ (a b : Nat) (A1 : Option Addr) (c1 : Nat) (A2 : Option Addr) (c2 : Nat) (out taken : List Int), ov = .slice A1 a c1 ∧ tv = .slice A2 b c2 ∧ b ≤ a ∧ a ≤ N ∧ Hid (a = out.length) ∧ Hid (wr.ownsRow w3.heap.size 3 1 (.slice A1 a c1) a (out.flatMap encInt)) ∧ Hid (∀ y ∈ out, In64 y) ∧ Hid (b = taken.length) ∧ Hid (wr.ownsRow w3.heap.size 3 1 (.slice A2 b c2) b (taken.flatMap encInt)) ∧ Hid (∀ y ∈ taken, In64 y) ∧ Hid (rowsApart (Value.slice A1 a c1).ownBlock (Value.slice A2 b c2).ownBlock) ∧ Hid (a < N → cntL ns mine taken = a) ∧ Ext w3 wr) (fun ov _ _ => N - lenOf ov)
      case atStart => exact ⟨0, 0, _, 0, _, 0, [], [], rfl, rfl, by omega, by omega, Lib.hid rfl, Lib.hid HA0.out.1, Lib.hid (fun y hy => by cases hy), Lib.hid rfl, Lib.hid HA0.out.2, Lib.hid (fun y hy => by cases hy), Lib.hid (fun q h1 h2 => by simp [Value.ownBlock] at h1 h2; omega), Lib.hid (fun _ => HCN.out), ((Ext.refl _).alloc _).alloc _⟩
      case round =>
        clear HA0 HCN
        obtain ⟨a, b, A1, c1, A2, c2, out, taken, rfl, rfl, hba, haN, HLA, HOA, HIA, HLB, HOB, HIB, HAP, HCT, hbr⟩ := hrel
        by_cases hlt2 : a < N
        · have hd2 : decide (a < N) = true := decide_eq_true hlt2
          have hd3 : decide ((a : Int) < (N : Int)) = true := by rw [decide_eq_true_iff]; omega
          have E4 := hb3.trans hbr
          have z0 := E4.cell q0
          have z1 := E4.cell q1
          have hzr := lt_of_cell z0
          have hler := hbr.le
          obtain ⟨k0, hk0n, hk0c⟩ := HCE.out mine taken HMI.out (by rw [HCT.out hlt2, HMM.out]; omega)
          have HK0 := Lib.hid hk0c
          clear hk0c
          go_wp2_with fail
          refine (HLF.out mine HMI.out M mn mc hmn taken A2 b c2 (by unfold maxLen; omega) wr (E1.trans E4) (HM.out wr hbr) (by have h := HOB.out; rw [HLB.out] at h ⊢; exact owns_sl encInt_size h HIB.out)).mono ?_
          rintro e w4 ⟨r, rfl, hr, hb4⟩
          rcases hr with ⟨_, hno⟩ | ⟨t2, rfl, ht2, hcd⟩
          · have h1 := hno k0 hk0n
            rw [HK0.out] at h1; cases h1
          have HST := Lib.hid (HCS.out mine taken HMI.out _ hcd)
          clear hcd HK0
          have hbr4 := hbr.trans hb4
          have HOA4 := Lib.hid (owns_ext HOA.out hb4)
          have HOB4 := Lib.hid (owns_ext HOB.out hb4)
          have hle4 := hbr4.le
          clear z0 z1 hzr
          go_wp2_with (at_builtin; go_must (refine wpList_append_r (enc := encInt) (ok := In64) (.tmp 67) (.tmp 69) _ w3.heap.size 3 i0 _ 1 8 (.slice A2 b c2) b _ (some ⟨w4.heap.size, 0, none⟩) 1 1 [(t2 : Int)] rfl rfl Tryz.underlying22 hi hI0 hI1 hI2 rfl (by omega) rfl (owns_ext HOB4.out ((Ext.refl _).alloc _)) rfl (by exact sl_one_at (enc := encInt) _ _ rfl (t2 : Int) 3 rfl ⟨by omega, by omega⟩) (fun _ => rfl) TInt.one (by unfold maxLen; omega) (by omega) (by simp; omega) ?_); intro A9 c9 w5 hr5; (have HR5 := Lib.hid hr5); (have z0 := (((hb3.trans hbr4).alloc (.cells #[.int .i64 t2] 3)).cell q0)); (have z1 := (((hb3.trans hbr4).alloc (.cells #[.int .i64 t2] 3)).cell q1)); (have z0 := hr5.cell z0 (fun hh => by have := (HOB4.out.lt _ hh).1; omega)); (have z1 := hr5.cell z1 (fun hh => by have := (HOB4.out.lt _ hh).1; omega)); (have hz5 := lt_of_cell z0); clear hr5)
          have hbr4a := hbr4.alloc (.cells #[.int .i64 t2] 3)
          have HOA4a := Lib.hid (owns_ext HOA4.out ((Ext.refl _).alloc (.cells #[.int .i64 t2] 3)))
          have HX5 := Lib.hid (ext_turned hbr4a (HR5.out.turned (lo := w3.heap.size) (fun q hq => (HOB4.out.lt q hq).1)) (Nat.le_refl _))
          have HOA5 := Lib.hid (HR5.out.other HOA4a.out HAP.out)
          have HAP5 := Lib.hid (HR5.out.apart HOA4a.out HAP.out)
          have HOB5 := Lib.hid (show w5.ownsRow w3.heap.size 3 1 (.slice A9 (b + 1) c9) (b + 1) ((taken ++ [(t2 : Int)]).flatMap encInt) by have h := HR5.out.row; rw [List.flatMap_append]; simpa using h)
          have HIB5 := Lib.hid (show ∀ y ∈ taken ++ [(t2 : Int)], In64 y from fun y hy => by rcases List.mem_append.1 hy with hy | hy; exact HIB.out y hy; (rw [List.mem_singleton.1 hy]; exact ⟨by omega, by omega⟩))
          have HLB5 := Lib.hid (show b + 1 = (taken ++ [(t2 : Int)]).length by rw [List.length_append, ← HLB.out]; rfl)
          have HO6 := Lib.hid (HO2.out mine HMI.out M mn mc hmn (t2 : Int) w5 (E1.trans (hb3.trans HX5.out)) (HM.out w5 HX5.out))
          clear HR5 HOA4 HOB4 HOA4a hbr4a HOA HOB HAP
          have hKL : (ofL ps ns mine (t2 : Int)).length ≤ 1000 := by have := ofL_len ps ns mine (t2 : Int); have := HMM.out; omega
          generalize ofL ps ns mine (t2 : Int) = L at *
          have hLm := HST.out.2
          have HC5 := Lib.hid HST.out.1
          clear HST
          go_wp2_with fail
          refine HO6.out.mono ?_
          rintro e w6 ⟨A6, c6, rfl, hs6, hb6⟩
          have HX6 := Lib.hid (HX5.out.trans hb6)
          have HOA6 := Lib.hid (owns_ext HOA5.out hb6)
          have HOB6 := Lib.hid (owns_ext HOB5.out hb6)
          have HS6 := Lib.hid (fun (u : World) (e : Ext w6 u) => hs6.ext (Flat.mono encInt In64) e)
          have HI6 := Lib.hid hs6.all
          clear hs6 HOA5 HOB5 HO6
          generalize L.length = K at *
          clear z0 z1
          go_wp2
          go_loopw [13, 76] (fun ov jv wq => ∃ (j a' : Nat) (A3 : Option Addr) (c3 : Nat) (out3 : List Int), jv = .int .i64 j ∧ j ≤ K ∧ ov = .slice A3 a' c3 ∧ a' ≤ N ∧ (a' = N ∨ a' = a + j) ∧ a ≤ a' ∧ (0 < j → a < a') ∧ Hid (a' = out3.length) ∧ Hid (wq.ownsRow w3.heap.size 3 1 (.slice A3 a' c3) a' (out3.flatMap encInt)) ∧ Hid (∀ y ∈ out3, In64 y) ∧ Hid (rowsApart (Value.slice A3 a' c3).ownBlock (Value.slice A9 (b + 1) c9).ownBlock) ∧ Hid (Ext w6 wq)) (fun _ jv _ => K - (intOf jv).toNat)
          case atStart => exact ⟨0, a, A1, c1, out, rfl, Nat.zero_le _, rfl, by omega, .inr (by omega), by omega, by omega, HLA, HOA6, HIA, HAP5, Lib.hid (Ext.refl _)⟩
          case round =>
            clear HOA6 HLA HIA HAP5
            obtain ⟨j, a', A3, c3, out3, rfl, hjK, rfl, haN', hor, haa, haj, HL3, HO3, HI3, HP3, HXQ⟩ := hrel
            by_cases hj : j < K
            · obtain ⟨bo, oo, x, cs, hA6, hbw, hx, _, hc, rfl, _⟩ := (HS6.out wr HXQ.out).at_ hj
              subst hA6
              have g0 := hc 0 _ rfl
              simp only [Nat.mul_one, Nat.add_zero] at g0
              have HX := Lib.hid (HI6.out x (List.mem_of_getElem? hx))
              clear hc hx
              by_cases ha' : a' < N
              · have hd5 : decide (a' < N) = true := decide_eq_true ha'
                have hd6 : decide ((a' : Int) < (N : Int)) = true := by rw [decide_eq_true_iff]; omega
                have HRL := Lib.hid (show (riseGo x out3 false).length = a' + 1 by rw [rise_len, ← HL3.out]; rfl)
                have HRI := Lib.hid (show ∀ y ∈ riseGo x out3 false, In64 y from fun y hy => by
                  rcases rise_mem x out3 false y hy with rfl | hy
                  · exact HX.out
                  · exact HI3.out y hy)
                have HRC := Lib.hid (l04Rise_c out3 x A3 a' c3 wr (by have h := HO3.out; rw [HL3.out] at h ⊢; exact owns_sl encInt_size h HI3.out) (by omega) HX.out)
                go_wp2_with fail
                refine HRC.out.mono ?_
                rintro e w8 ⟨A8, c8, rfl, ho8, hb8⟩
                rw [HRL.out] at ho8 ⊢
                have HO8 := Lib.hid ho8
                have HXQ8 := Lib.hid (HXQ.out.trans hb8)
                have HB6Q := Lib.hid (owns_ext HOB6.out HXQ.out)
                have HP8 := Lib.hid (show rowsApart (Value.slice A8 (a' + 1) c8).ownBlock (Value.slice A9 (b + 1) c9).ownBlock from rowsApart.symm (rowsApart.new HB6Q.out (fun q hq => (HO8.out.lt q hq).1)))
                have hle8 : w3.heap.size ≤ wr.heap.size := (HX6.out.trans HXQ.out).le
                clear ho8
                go_wp2
                go_roundw
                case rel => exact ⟨j + 1, a' + 1, A8, c8, riseGo x out3 false, by go_num, by omega, rfl, by omega, by omega, by omega, by omega, Lib.hid HRL.out.symm, Lib.hid (owns_base HO8.out hle8), HRI, HP8, HXQ8⟩
                case measure => simp [intOf]; omega
              · have hd5 : decide (a' < N) = false := decide_eq_false ha'
                have hd6 : decide ((a' : Int) < (N : Int)) = false := by rw [decide_eq_false_iff_not]; omega
                go_wp2
                go_roundw
                case rel => exact ⟨j + 1, a', A3, c3, out3, by go_num, by omega, rfl, by omega, by omega, by omega, by omega, HL3, HO3, HI3, HP3, HXQ⟩
                case measure => simp [intOf]; omega
            · obtain rfl : j = K := by omega
              have HCT9 := Lib.hid (show a' < N → cntL ns mine (taken ++ [(t2 : Int)]) = a' from fun h => by rw [HC5.out, HCT.out hlt2]; omega)
              have haj := haj hLm
              go_wp2
              go_roundw
              case rel => exact ⟨a', b + 1, A3, c3, A9, c9, out3, taken ++ [(t2 : Int)], rfl, rfl, by omega, haN', HL3, HO3, HI3, HLB5, Lib.hid (owns_ext HOB6.out HXQ.out), HIB5, HP3, HCT9, HX6.out.trans HXQ.out⟩
              case measure => simp [lenOf]; omega
        · obtain rfl : a = N := by omega
          have hd2 : decide (a < a) = false := by simp
          have hd3 : decide ((a : Int) < (a : Int)) = false := by simp
          go_wp2
          exact ret_pick rfl (by have h := HOA.out; rw [HLA.out] at h ⊢; exact owns_sl encInt_size h HIA.out) (by omega) (owns_cap HOA.out) (E1.trans (hb3.trans hbr))
end Go.Proofs.YtgmlcohffdeplaaGreat
