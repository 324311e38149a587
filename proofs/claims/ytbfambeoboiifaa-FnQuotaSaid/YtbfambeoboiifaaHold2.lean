/- Contracts: what is held without one job. -/
import Derived.Test.YtbfambeoboiifaaHold
namespace Go.Proofs.Ytbfambeoboiifaa
open Go.RowKit
set_option linter.unusedVariables false
def notId (id : Int) (h : Hold) : Bool := h.Job.Id != id
def holdOutL (l : List Hold) (id : Int) : List Hold := if holdsB l = true then l.filter (notId id) else []
theorem holdOutL_len (l : List Hold) (id : Int) : (holdOutL l id).length ≤ l.length := by
  unfold holdOutL; split
  · exact List.length_filter_le _ _
  · simp
theorem holdsB_len {l : List Hold} (h : holdsB l = true) : l.length ≤ 60 := by
  unfold holdsB at h; rw [Bool.and_eq_true, decide_eq_true_iff] at h; exact h.2
theorem Hold.one (y : Hold) : ∀ u ∈ y.enc, u.oneCell' = true := by
  intro u hu; simp [Hold.enc] at hu; rcases hu with rfl | rfl | rfl | rfl | rfl | rfl | rfl | rfl | rfl | rfl | rfl | rfl <;> rfl
theorem Hold.info : (Try.prog.info? 54).map (fun i => (i.zero, i.size, i.bytes)) = some (some (.agg #[.string ByteArray.empty, .int .i64 0, .int .i64 0, .int .i64 0, .int .i64 0, .int .i64 0, .int .i64 0, .int .i64 0, .int .i64 0, .int .i64 0, .int .i64 0, .int .i64 0]), 12, 104) := by kernel_rfl
theorem filter_succ {α : Type} {p : α → Bool} {l : List α} {k : Nat} {x : α} (h : l[k]? = some x) : (l.take (k + 1)).filter p = if p x = true then (l.take k).filter p ++ [x] else (l.take k).filter p := by
  rw [take_succ h, List.filter_append]
  by_cases hp : p x = true
  · rw [if_pos hp]; simp [hp]
  · rw [if_neg hp]; simp [hp]
theorem filter_take_len {α : Type} (p : α → Bool) (l : List α) (k : Nat) : ((l.take k).filter p).length ≤ l.length :=
  Nat.le_trans (List.length_filter_le _ _) (by rw [List.length_take]; omega)
set_option maxHeartbeats 2000000 in
set_option maxRecDepth 4000 in
theorem HoldOut_c (xs : List Hold) (id : Int) (A : Option Addr) (n c : Nat) (w : World) (h : SlAt RHold 12 w A n xs) (hl : n ≤ maxLen) (hcap : n ≤ c) : Calls Try.prog 26 #[.slice A n c, .int .i64 id] w (RetOwn RHold 54 12 w (holdOutL xs id)) := by
  have hl' := hl
  unfold maxLen at hl
  have HN := Lib.hid h.len
  have hM := Flat.mono Hold.enc Hold.ok
  obtain ⟨i0, hi, hz0, hz1, hz2⟩ := info_parts Hold.info
  have hA := Lib.hid (fun (u : World) (e : Ext w u) => HoldsOk_c xs A n c u (h.ext hM e) hl' hcap)
  rcases Bool.eq_false_or_eq_true (holdsB xs) with hB | hB
  all_goals rw [hB] at hA
  · have hn100 : n ≤ 60 := by have := holdsB_len hB; rw [HN.out] at this; exact this
    rw [holdOutL, if_pos hB]
    go_enter Try.func26, Try.ntmps26
    go_wp2_with fail
    refine (hA.out _ (by repeat (first | exact Ext.refl _ | apply Ext.alloc))).mono ?_
    rintro e w0 ⟨rfl, hb0⟩
    go_wp2
    go_loopw [5, 14] (fun v i wr => ∃ (k : Nat) (A1 : Option Addr) (c1 : Nat) (acc : List Hold), k ≤ n ∧ i = .int .i64 k ∧ v = .slice A1 acc.length c1 ∧ wr.ownsRow w.heap.size 54 12 (.slice A1 acc.length c1) acc.length (acc.flatMap Hold.enc) ∧ Ext w wr ∧ Hid (acc = (xs.take k).filter (notId id))) (fun _ i _ => n - (intOf i).toNat)
    case atStart => exact ⟨0, _, 0, [], Nat.zero_le _, rfl, rfl, by simpa using owns_base (owns_empty w0 54 12) hb0.le, hb0.alloc _, Lib.hid rfl⟩
    case round =>
      obtain ⟨k, A1, c1, acc, hk, rfl, rfl, ho, hb, HACC⟩ := hrel
      have hacc : acc.length ≤ 60 := by rw [HACC.out]; have := filter_take_len (notId id) xs k; have := HN.out; omega
      by_cases hlt : k < n
      · obtain ⟨b, o, x, cs, rfl, hbw, hx, _, hc, rfl, _⟩ := (h.ext hM hb).at_ hlt
        have f0 := hc 0 _ rfl
        have f1 := hc 1 _ rfl
        have f2 := hc 2 _ rfl
        have f3 := hc 3 _ rfl
        have f4 := hc 4 _ rfl
        have f5 := hc 5 _ rfl
        have f6 := hc 6 _ rfl
        have f7 := hc 7 _ rfl
        have f8 := hc 8 _ rfl
        have f9 := hc 9 _ rfl
        have f10 := hc 10 _ rfl
        have f11 := hc 11 _ rfl
        simp only [Nat.add_zero] at f0
        have HX := Lib.hid hx
        have HS := Lib.hid (filter_succ (p := notId id) hx)
        rcases Bool.eq_false_or_eq_true (x.Job.Id != id) with h1 | h1
        · have H1 := Lib.hid (show acc ++ [x] = (xs.take (k + 1)).filter (notId id) by rw [HS.out, if_pos (show notId id x = true from h1), HACC.out])
          have hE1 := Lib.hid (Ext.alloc hb (.cells #[.string x.Name, .int .i64 x.Job.Id, .int .i64 x.Job.Prio, .int .i64 x.Job.Nodes, .int .i64 x.Job.Need.A, .int .i64 x.Job.Need.B, .int .i64 x.Job.Need.C, .int .i64 x.Job.Lic.A, .int .i64 x.Job.Lic.B, .int .i64 x.Job.Lic.C, .int .i64 x.Job.Wall, .int .i64 x.Job.Level] 54))
          have HO := Lib.hid (ho.alloc (.cells #[.string x.Name, .int .i64 x.Job.Id, .int .i64 x.Job.Prio, .int .i64 x.Job.Nodes, .int .i64 x.Job.Need.A, .int .i64 x.Job.Need.B, .int .i64 x.Job.Need.C, .int .i64 x.Job.Lic.A, .int .i64 x.Job.Lic.B, .int .i64 x.Job.Lic.C, .int .i64 x.Job.Wall, .int .i64 x.Job.Level] 54))
          clear hc hx h ho hA HS
          go_wp2_with (at_builtin; go_must (refine wpList_append_one (.tmp 23) (.tmp 25) _ w.heap.size 54 i0 _ 12 104 (.slice A1 acc.length c1) acc.length _ (Hold.enc x) rfl rfl Try.underlying50 hi hz0 hz1 hz2 rfl (by omega) rfl (HO.out) _ rfl (by simp) rfl (Hold.one _) (by unfold maxLen; omega) (by omega) hE1.out (Nat.le_refl _) hE1.out.le ?_); intro A2 c2' w2 ho2 hb2 hs2)
          have HO2 := Lib.hid ho2
          clear ho2 hi hz0 hz1 hz2
          go_wp2
          go_roundw
          case rel => exact ⟨k + 1, A2, c2', acc ++ [x], by omega, by go_num, by simp, by rw [List.flatMap_append, List.length_append]; simpa using HO2.out, hb2, Lib.hid H1.out⟩
          case measure => simp [intOf]; omega
        · have H1 := Lib.hid (show acc = (xs.take (k + 1)).filter (notId id) by rw [HS.out, if_neg (by rw [show notId id x = false from h1]; simp), HACC.out])
          clear hc hx h HS
          go_wp2
          go_roundw
          case rel => exact ⟨k + 1, A1, c1, acc, by omega, by go_num, rfl, ho.alloc _, hb.alloc _, Lib.hid H1.out⟩
          case measure => simp [intOf]; omega
      · have HF := Lib.hid (show acc = xs.filter (notId id) by rw [HACC.out, List.take_of_length_le (by have := HN.out; omega)])
        have HO := Lib.hid ho
        have HAL := Lib.hid h.all
        clear ho HACC h
        go_wp2
        rw [← HF.out]
        exact ret_own2 rfl HO.out rfl Hold.size (fun y hy => HAL.out y (List.mem_filter.1 (HF.out ▸ hy)).1) hb
  · rw [holdOutL, if_neg (by rw [hB]; simp)]
    go_enter Try.func26, Try.ntmps26
    go_wp2_with fail
    refine (hA.out _ (by repeat (first | exact Ext.refl _ | apply Ext.alloc))).mono ?_
    rintro e w0 ⟨rfl, hb0⟩
    go_wp2
    exact ret_own2 (ys := []) rfl (World.ownsRow_nil _ _ _ _) rfl Hold.size (fun y hy => by cases hy) (Ext.trans (by repeat (first | exact Ext.refl _ | apply Ext.alloc)) hb0)
end Go.Proofs.Ytbfambeoboiifaa
