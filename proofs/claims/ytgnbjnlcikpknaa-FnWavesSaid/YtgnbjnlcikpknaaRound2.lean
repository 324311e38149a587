/- Contracts: whether dependencies go round. -/
import Derived.Test.YtgnbjnlcikpknaaFunc
import Derived.Test.YtgnbjnlcikpknaaCyc
import Derived.Deep.RegionHeld3
namespace Go.Proofs.Ytgnbjnlcikpknaa
open Go.RowKit
set_option linter.unusedVariables false
def roundB (l : List Dep) : Bool := depsB l && cycB l
theorem cell_box (w : World) (cs : List Value) (e : TypeId) (j : Nat) (u : Value) (h : cs[j]? = some u) : (w.alloc (.cells cs.toArray e)).cell? ⟨w.heap.size, j, none⟩ = some u := by
  rw [cell_of_row _ _ _ cs.toArray e (0, 0) (heap_alloc_new w _)]; simpa using h
theorem peel_done {f : Nat} {l : List Dep} (h : (nextL l).length = l.length) : peelB f l = decide (0 < l.length) := by
  cases f with
  | zero => rfl
  | succ f => rw [peelB, if_pos h]
theorem peel_more {f : Nat} {l : List Dep} (h : (nextL l).length ≠ l.length) (hf : l.length ≤ f) : ∃ f', peelB f l = peelB f' (nextL l) ∧ (nextL l).length ≤ f' ∧ (nextL l).length < l.length := by
  have := nextL_le l
  obtain ⟨f', rfl⟩ : ∃ f', f = f' + 1 := ⟨f - 1, by omega⟩
  exact ⟨f', by rw [peelB, if_neg h], by omega, by omega⟩
def lenV : Value → Nat
  | .slice _ n _ => n
  | _ => 0
set_option maxHeartbeats 4000000 in
set_option maxRecDepth 4000 in
theorem Round_c (xs : List Dep) (A : Option Addr) (n c : Nat) (w : World) (h : SlAt RDep 2 w A n xs) (hl : n ≤ maxLen) : Calls Try.prog 15 #[.slice A n c] w (Ret w (.bool (roundB xs))) := by
  have hl' := hl
  unfold maxLen at hl
  obtain rfl := h.len
  have hM := Flat.mono Dep.enc Dep.ok
  obtain ⟨i0, hi, hz0, hz1, hz2⟩ := info_parts Dep.info
  have hA := Lib.hid (fun (u : World) (e : Ext w u) => DepsOk_c xs A xs.length c u (h.ext hM e) hl')
  rcases Bool.eq_false_or_eq_true (depsB xs) with hB | hB
  all_goals rw [hB] at hA
  · have hn100 : xs.length ≤ 100 := depsB_len hB
    have HR := Lib.hid (show roundB xs = cycB xs by unfold roundB; rw [hB]; rfl)
    go_enter Try.func15, Try.ntmps15
    go_wp2_with fail
    refine (hA.out _ (Ext.refl _)).mono ?_
    rintro e w0 ⟨rfl, hb0⟩
    go_wp2_with (at_builtin; refine wpList_append_list _ (.tmp 11) _ w.heap.size 31 i0 _ 2 16 _ 0 [] A xs.length c xs rfl rfl Try.underlying23 hi hz0 hz1 hz2 rfl (by omega) rfl (owns_base (owns_empty w0 31 2) hb0.le) rfl (h.ext hM (hb0.alloc (.cells #[] 31))) Dep.size Dep.one (by unfold maxLen; omega) (by omega) (hb0.alloc (.cells #[] 31)) (Nat.le_refl _) (Ext.le (hb0.alloc (.cells #[] 31))) ?_; intro A1 c1 w1 ho1 hb1 hs1; simp only [Nat.zero_add, List.nil_append] at ho1; simp only [Nat.zero_add])
    have hS1 : SlAt RDep 2 w1 A1 xs.length xs := (OwnAt.flat Dep.size h.all ho1).slAt
    have HAL := Lib.hid h.all
    clear ho1 h
    go_loopw [3] (fun v wr => ∃ (A1 : Option Addr) (c1 : Nat) (left : List Dep) (f : Nat), v = .slice A1 left.length c1 ∧ SlAt RDep 2 wr A1 left.length left ∧ left.length ≤ 100 ∧ Ext w wr ∧ Hid (cycB xs = peelB f left) ∧ left.length ≤ f ∧ (∀ d ∈ left, d.ok)) (fun v _ => lenV v)
    case atStart => exact ⟨A1, c1, xs, xs.length, rfl, hS1, hn100, hb1, Lib.hid rfl, Nat.le_refl _, HAL.out⟩
    case round =>
      clear hS1 hb1 hs1 hb0
      obtain ⟨A1, c1, left, f, rfl, hS, hl100, hb, HP, hf, hok⟩ := hrel
      have HOK := Lib.hid hok
      clear hok
      obtain ⟨wo, rfl⟩ : ∃ wo, wo = wr := ⟨_, rfl⟩
      go_wp2
      go_loopw [4, 16] (fun v i wr => ∃ (k : Nat) (A2 : Option Addr) (c2 : Nat) (acc : List Dep), k ≤ left.length ∧ i = .int .i64 k ∧ v = .slice A2 acc.length c2 ∧ wr.ownsRow wo.heap.size 31 2 (.slice A2 acc.length c2) acc.length (acc.flatMap Dep.enc) ∧ Ext wo wr ∧ Hid (acc = (left.take k).filter (fun d => left.any (fun x => x.Id == d.For)))) (fun _ i _ => left.length - (intOf i).toNat)
      case atStart => exact ⟨0, _, 0, [], Nat.zero_le _, rfl, rfl, by simpa using owns_empty wo 31 2, (Ext.refl _).alloc _, Lib.hid rfl⟩
      case round =>
        obtain ⟨k, A2, c2, acc, hk, rfl, rfl, ho, hbi, HACC⟩ := hrel
        have hacc : acc.length ≤ 100 := by rw [HACC.out]; have := filter_take_len (fun d : Dep => left.any (fun x => x.Id == d.For)) left k; omega
        by_cases hlt : k < left.length
        · have hSr := hS.ext hM hbi
          obtain ⟨b, o, x, cs, rfl, hbw, hx, _, hc, rfl, _⟩ := hSr.at_ hlt
          have f0 := hc 0 _ rfl
          have f1 := hc 1 _ rfl
          simp only [Nat.add_zero] at f0
          have HX := Lib.hid hx
          have HS := Lib.hid (filter_succ (p := fun d : Dep => left.any (fun x => x.Id == d.For)) hx)
          have HC := Lib.hid (fun (u : World) (e : Ext (wr.alloc (.cells #[.int .i64 x.Id, .int .i64 x.For] 31)) u) => ContainsFunc_c left (fun y => y.Id == x.For) 49 #[.pointer (some ⟨wr.heap.size, 0, none⟩)] (some ⟨b, o, none⟩) left.length c1 u (hSr.ext hM (Ext.trans (Ext.alloc (Ext.refl _) _) e)) (by unfold maxLen; omega) Round1_run (fun y u' e' => Round1_c y x wr.heap.size 0 u' (Nat.lt_of_lt_of_le (by simp) (e.trans e').le) ((e.trans e').cell (cell_box wr [.int .i64 x.Id, .int .i64 x.For] _ 0 _ rfl)) ((e.trans e').cell (cell_box wr [.int .i64 x.Id, .int .i64 x.For] _ 1 _ rfl))))
          rcases Bool.eq_false_or_eq_true (left.any (fun y => y.Id == x.For)) with h1 | h1
          all_goals
            rw [h1] at HC
          · have H1 := Lib.hid (show acc ++ [x] = (left.take (k + 1)).filter (fun d : Dep => left.any (fun x => x.Id == d.For)) by rw [HS.out, if_pos h1, HACC.out])
            have HO := Lib.hid ho
            clear hc hx ho hA HS hS hSr HACC
            go_wp2_with fail
            refine (HC.out _ (Ext.refl _)).mono ?_
            rintro e w2 ⟨rfl, hb2⟩
            obtain ⟨hcr2, hfr2, hz2'⟩ := hb2.rules
            have hy2 : wr.heap.size < w2.heap.size := by simp at hz2'; omega
            have hE1 := Lib.hid ((hbi.alloc (.cells #[.int .i64 x.Id, .int .i64 x.For] 31)).trans hb2)
            have HO1 := Lib.hid (owns_ext (HO.out.alloc (.cells #[.int .i64 x.Id, .int .i64 x.For] 31)) hb2)
            have g0 := hb2.cell (cell_box wr [.int .i64 x.Id, .int .i64 x.For] 31 0 _ rfl)
            have g1 := hb2.cell (cell_box wr [.int .i64 x.Id, .int .i64 x.For] 31 1 _ rfl)
            clear hcr2 hfr2
            go_wp2_with (at_builtin; go_must (refine wpList_append_one (.tmp 23) (.tmp 25) _ wo.heap.size 31 i0 _ 2 16 (.slice A2 acc.length c2) acc.length _ (Dep.enc x) rfl rfl Try.underlying23 hi hz0 hz1 hz2 rfl (by omega) rfl (HO1.out) _ rfl (by simp) rfl (Dep.one _) (by unfold maxLen; omega) (by omega) hE1.out (Nat.le_refl _) hE1.out.le ?_); intro A3 c3 w3 ho3 hb3 hs3)
            have HO3 := Lib.hid ho3
            clear ho3 hi hz0 hz1 hz2
            go_wp2
            go_roundw
            case rel => exact ⟨k + 1, A3, c3, acc ++ [x], by omega, by go_num, by simp, by rw [List.flatMap_append, List.length_append]; simpa using HO3.out, hb3, Lib.hid H1.out⟩
            case measure => simp [intOf]; omega
          · have H1 := Lib.hid (show acc = (left.take (k + 1)).filter (fun d : Dep => left.any (fun x => x.Id == d.For)) by rw [HS.out, if_neg (by rw [h1]; simp), HACC.out])
            have HO := Lib.hid ho
            clear hc hx ho hA HS hS hSr HACC
            go_wp2_with fail
            refine (HC.out _ (Ext.refl _)).mono ?_
            rintro e w2 ⟨rfl, hb2⟩
            go_wp2
            go_roundw
            case rel => exact ⟨k + 1, A2, c2, acc, by omega, by go_num, rfl, owns_ext (HO.out.alloc _) hb2, (hbi.alloc _).trans hb2, Lib.hid H1.out⟩
            case measure => simp [intOf]; omega
        · have HF := Lib.hid (show acc = nextL left by rw [HACC.out, List.take_of_length_le (by omega)]; rfl)
          have HSl := Lib.hid (fun (hh : ∀ d ∈ acc, d.ok) => (OwnAt.flat (ok := Dep.ok) Dep.size hh ho).slAt)
          have hokn : Hid (∀ d ∈ acc, d.ok) := Lib.hid (by rw [HF.out]; exact fun d hd => HOK.out d (nextL_mem.1 hd).1)
          clear HACC ho
          by_cases hle : acc.length = left.length
          · have h1 : ((acc.length : Int) == (left.length : Int)) = true := by rw [beq_iff_eq]; omega
            have h2 : (acc.length == left.length) = true := by simpa using hle
            have HD := Lib.hid (show cycB xs = decide (0 < left.length) by rw [HP.out]; exact peel_done (by rw [← HF.out]; exact hle))
            clear hle
            go_wp2
            exact ret_bool rfl rfl rfl (by rw [HR.out, HD.out] <;> simp) (hb.trans hbi)
          · have h1 : ((acc.length : Int) == (left.length : Int)) = false := by rw [beq_eq_false_iff_ne]; omega
            have h2 : (acc.length == left.length) = false := by simpa using hle
            obtain ⟨f', p1, p2, p3⟩ := peel_more (f := f) (l := left) (by rw [← HF.out]; exact hle) hf
            rw [← HF.out] at p1 p2 p3
            have HP1 := Lib.hid p1
            clear hle p1
            go_wp2
            go_roundw
            case rel => exact ⟨A2, c2, acc, f', rfl, HSl.out hokn.out, by omega, hb.trans hbi, Lib.hid (by rw [HP.out, HP1.out]), p2, hokn.out⟩
            case measure => simp [lenV]; omega
  · have HR := Lib.hid (show roundB xs = false by unfold roundB; rw [hB]; rfl)
    go_enter Try.func15, Try.ntmps15
    go_wp2_with fail
    refine (hA.out _ (Ext.refl _)).mono ?_
    rintro e w0 ⟨rfl, hb0⟩
    go_wp2
    exact ret_bool rfl rfl rfl HR.out.symm hb0
end Go.Proofs.Ytgnbjnlcikpknaa
