/- Contracts over dependencies: what is free, what is left when one is done. -/
import Derived.Test.YtgnbjnlcikpknaaDeps
import Derived.Test.YtgnbjnlcikpknaaInts
namespace Go.Proofs.Ytgnbjnlcikpknaa
open Go.RowKit
def okF (id : Int) (done : List Int) (d : Dep) : Bool := !(d.Id == id && !done.contains d.For)
def freeB (l : List Dep) (id : Int) (done : List Int) : Bool := depsB l && l.all (okF id done)
def depsDoneL (l : List Dep) (id : Int) : List Dep := if depsB l = true then l.filter (fun d => d.For != id) else []
theorem depsDoneL_len (l : List Dep) (id : Int) : (depsDoneL l id).length ≤ l.length := by
  unfold depsDoneL; split
  · exact List.length_filter_le _ _
  · simp
theorem depsB_len {l : List Dep} (h : depsB l = true) : l.length ≤ 100 := by
  unfold depsB at h; rw [Bool.and_eq_true, decide_eq_true_iff] at h; exact h.2
theorem Dep.one (y : Dep) : ∀ u ∈ y.enc, u.oneCell' = true := by
  intro u hu; simp [Dep.enc] at hu; obtain rfl | rfl := hu <;> rfl
theorem Dep.info : (Try.prog.info? 31).map (fun i => (i.zero, i.size, i.bytes)) = some (some (.agg #[.int .i64 0, .int .i64 0]), 2, 16) := by kernel_rfl
theorem filter_succ {α : Type} {p : α → Bool} {l : List α} {k : Nat} {x : α} (h : l[k]? = some x) : (l.take (k + 1)).filter p = if p x = true then (l.take k).filter p ++ [x] else (l.take k).filter p := by
  rw [take_succ h, List.filter_append]
  by_cases hp : p x = true
  · rw [if_pos hp]; simp [hp]
  · rw [if_neg hp]; simp [hp]
theorem filter_take_len {α : Type} (p : α → Bool) (l : List α) (k : Nat) : ((l.take k).filter p).length ≤ l.length :=
  Nat.le_trans (List.length_filter_le _ _) (by rw [List.length_take]; omega)
set_option maxHeartbeats 2000000 in
set_option maxRecDepth 4000 in
theorem Free_c (xs : List Dep) (id : Int) (done : List Int) (A : Option Addr) (n c : Nat) (A2 : Option Addr) (n2 c2 : Nat) (w : World) (h : SlAt RDep 2 w A n xs) (hl : n ≤ maxLen) (h2 : SlAt RInt 1 w A2 n2 done) (hl2 : n2 ≤ maxLen) : Calls Try.prog 16 #[.slice A n c, .int .i64 id, .slice A2 n2 c2] w (Ret w (.bool (freeB xs id done))) := by
  have hl' := hl
  unfold maxLen at hl
  have HN := Lib.hid h.len
  have hM := Flat.mono Dep.enc Dep.ok
  have hD := fun (u : World) (e : Ext w u) => h2.ext (Flat.mono encInt In64) e
  have hA := Lib.hid (fun (u : World) (e : Ext w u) => DepsOk_c xs A n c u (h.ext hM e) hl')
  go_enter Try.func16, Try.ntmps16
  go_wp2
  go_loopw [11] (fun i wr => ∃ k : Nat, k ≤ n ∧ i = .int .i64 k ∧ Ext w wr ∧ freeB xs id done = (depsB xs && (xs.drop k).all (okF id done))) (fun i _ => n - (intOf i).toNat)
  case atStart => exact ⟨0, Nat.zero_le _, rfl, Ext.refl _, rfl⟩
  case round =>
    obtain ⟨k, hk, rfl, hb, hE⟩ := hrel
    have HE := Lib.hid hE; clear hE
    by_cases hlt : k < n
    · obtain ⟨b, o, d, cs, rfl, hbw, hx, _, hc, rfl, _⟩ := (h.ext hM hb).at_ hlt
      have c0 := hc 0 _ rfl
      have c1 := hc 1 _ rfl
      simp only [Nat.add_zero] at c0
      have HX := Lib.hid hx; have HB := Lib.hid hb
      rcases Bool.eq_false_or_eq_true (d.Id == id) with h1 | h1
      · rcases Bool.eq_false_or_eq_true (done.contains d.For) with h3 | h3
        all_goals
          have H1 := Lib.hid h1
          have H3 := Lib.hid h3
          have HR := Lib.hid (Contains_c done d.For A2 n2 c2)
          rw [H3.out] at HR
          clear hc hx hb h h2 h3
          go_wp2_with fail
          refine (HR.out _ (hD _ (HB.out.alloc _)) hl2).mono ?_
          rintro e w1 ⟨rfl, hb1⟩
          have HB1 := Lib.hid hb1
          go_wp2
        · go_roundw
          case rel => exact ⟨k + 1, by omega, by go_num, (HB.out.alloc _).trans HB1.out, by rw [HE.out, drop_cons HX.out, List.all_cons, show okF id done d = true by unfold okF; rw [H3.out]; simp, Bool.true_and]⟩
          case measure => simp [intOf]; omega
        · exact ret_bool rfl rfl rfl (by rw [HE.out, drop_cons HX.out, List.all_cons, show okF id done d = false by unfold okF; rw [H1.out, H3.out]; rfl]; simp) ((HB.out.alloc _).trans HB1.out)
      · have H1 := Lib.hid h1
        clear hc hx hb h h2
        go_wp2
        go_roundw
        case rel => exact ⟨k + 1, by omega, by go_num, HB.out.alloc _, by rw [HE.out, drop_cons HX.out, List.all_cons, show okF id done d = true by unfold okF; rw [H1.out]; rfl, Bool.true_and]⟩
        case measure => simp [intOf]; omega
    · have HF := Lib.hid (show freeB xs id done = depsB xs by rw [HE.out, List.drop_eq_nil_of_le (by have := HN.out; omega)]; simp)
      go_wp2_with fail
      refine (hA.out _ hb).mono ?_
      rintro e w1 ⟨rfl, hb1⟩
      go_wp2
      exact ret_bool rfl rfl rfl HF.out.symm (hb.trans hb1)
set_option maxHeartbeats 2000000 in
set_option maxRecDepth 4000 in
theorem DepsDone_c (xs : List Dep) (id : Int) (A : Option Addr) (n c : Nat) (w : World) (h : SlAt RDep 2 w A n xs) (hl : n ≤ maxLen) : Calls Try.prog 17 #[.slice A n c, .int .i64 id] w (RetOwn RDep 31 2 w (depsDoneL xs id)) := by
  have hl' := hl
  unfold maxLen at hl
  have HN := Lib.hid h.len
  have hM := Flat.mono Dep.enc Dep.ok
  obtain ⟨i0, hi, hz0, hz1, hz2⟩ := info_parts Dep.info
  have hA := Lib.hid (fun (u : World) (e : Ext w u) => DepsOk_c xs A n c u (h.ext hM e) hl')
  rcases Bool.eq_false_or_eq_true (depsB xs) with hB | hB
  all_goals rw [hB] at hA
  · have hn100 : n ≤ 100 := by have := depsB_len hB; rw [HN.out] at this; exact this
    rw [depsDoneL, if_pos hB]
    go_enter Try.func17, Try.ntmps17
    go_wp2_with fail
    refine (hA.out _ (by repeat (first | exact Ext.refl _ | apply Ext.alloc))).mono ?_
    rintro e w0 ⟨rfl, hb0⟩
    go_wp2
    go_loopw [5, 14] (fun v i wr => ∃ (k : Nat) (A1 : Option Addr) (c1 : Nat) (acc : List Dep), k ≤ n ∧ i = .int .i64 k ∧ v = .slice A1 acc.length c1 ∧ wr.ownsRow w.heap.size 31 2 (.slice A1 acc.length c1) acc.length (acc.flatMap Dep.enc) ∧ Ext w wr ∧ Hid (acc = (xs.take k).filter (fun d => d.For != id))) (fun _ i _ => n - (intOf i).toNat)
    case atStart => exact ⟨0, _, 0, [], Nat.zero_le _, rfl, rfl, by simpa using owns_base (owns_empty w0 31 2) hb0.le, hb0.alloc _, Lib.hid rfl⟩
    case round =>
      obtain ⟨k, A1, c1, acc, hk, rfl, rfl, ho, hb, HACC⟩ := hrel
      have hacc : acc.length ≤ 100 := by rw [HACC.out]; have := filter_take_len (fun d : Dep => d.For != id) xs k; have := HN.out; omega
      by_cases hlt : k < n
      · obtain ⟨b, o, x, cs, rfl, hbw, hx, _, hc, rfl, _⟩ := (h.ext hM hb).at_ hlt
        have f0 := hc 0 _ rfl
        have f1 := hc 1 _ rfl
        simp only [Nat.add_zero] at f0
        have HX := Lib.hid hx
        have HS := Lib.hid (filter_succ (p := fun d : Dep => d.For != id) hx)
        rcases Bool.eq_false_or_eq_true (x.For != id) with h1 | h1
        · have H1 := Lib.hid (show acc ++ [x] = (xs.take (k + 1)).filter (fun d : Dep => d.For != id) by rw [HS.out, if_pos h1, HACC.out])
          have hE1 := Lib.hid (Ext.alloc hb (.cells #[.int .i64 x.Id, .int .i64 x.For] 31))
          have HO := Lib.hid (ho.alloc (.cells #[.int .i64 x.Id, .int .i64 x.For] 31))
          clear hc hx h ho hA HS
          go_wp2_with (at_builtin; refine wpList_append_one (.tmp 22) (.tmp 24) _ w.heap.size 31 i0 _ 2 16 (.slice A1 acc.length c1) acc.length _ (Dep.enc x) rfl rfl Try.underlying23 hi hz0 hz1 hz2 rfl (by omega) rfl (HO.out) _ rfl (by simp) rfl (Dep.one _) (by unfold maxLen; omega) (by omega) hE1.out (Nat.le_refl _) hE1.out.le ?_; intro A2 c2' w2 ho2 hb2 hs2)
          have HO2 := Lib.hid ho2
          clear ho2 hi hz0 hz1 hz2
          go_wp2
          go_roundw
          case rel => exact ⟨k + 1, A2, c2', acc ++ [x], by omega, by go_num, by simp, by rw [List.flatMap_append, List.length_append]; simpa using HO2.out, hb2, Lib.hid H1.out⟩
          case measure => simp [intOf]; omega
        · have H1 := Lib.hid (show acc = (xs.take (k + 1)).filter (fun d : Dep => d.For != id) by rw [HS.out, if_neg (by rw [h1]; simp), HACC.out])
          clear hc hx h HS
          go_wp2
          go_roundw
          case rel => exact ⟨k + 1, A1, c1, acc, by omega, by go_num, rfl, ho.alloc _, hb.alloc _, Lib.hid H1.out⟩
          case measure => simp [intOf]; omega
      · have HF := Lib.hid (show acc = xs.filter (fun d : Dep => d.For != id) by rw [HACC.out, List.take_of_length_le (by have := HN.out; omega)])
        have HO := Lib.hid ho
        have HAL := Lib.hid h.all
        clear ho HACC h
        go_wp2
        rw [← HF.out]
        exact ret_own2 rfl HO.out rfl Dep.size (fun y hy => HAL.out y ((List.mem_filter.1 (HF.out ▸ hy)).1)) hb
  · rw [depsDoneL, if_neg (by rw [hB]; simp)]
    go_enter Try.func17, Try.ntmps17
    go_wp2_with fail
    refine (hA.out _ (by repeat (first | exact Ext.refl _ | apply Ext.alloc))).mono ?_
    rintro e w0 ⟨rfl, hb0⟩
    go_wp2
    exact ret_own2 (ys := []) rfl (World.ownsRow_nil _ _ _ _) rfl Dep.size (fun y hy => by cases hy) (Ext.trans (by repeat (first | exact Ext.refl _ | apply Ext.alloc)) hb0)
end Go.Proofs.Ytgnbjnlcikpknaa
