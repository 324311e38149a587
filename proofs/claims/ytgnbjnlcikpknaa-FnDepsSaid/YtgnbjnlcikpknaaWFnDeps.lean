/- The law FnDeps returns true: the walk. -/
import Derived.Test.YtgnbjnlcikpknaaDrawDeps3
import Derived.Test.YtgnbjnlcikpknaaAddLaw2
import Derived.Test.YtgnbjnlcikpknaaAdd
namespace Go.Proofs.Ytgnbjnlcikpknaa
open Go.RowKit
set_option linter.unusedVariables false
theorem DInt.one2 (y : Int) : ∀ u ∈ encInt y, u.oneCell' = true := by
  intro u hu; simp [encInt] at hu; subst hu; rfl
theorem DInt.info2 : (Try.prog.info? 3).map (fun i => (i.zero, i.size, i.bytes)) = some (some (.int .i64 0), 1, 8) := by kernel_rfl
set_option maxHeartbeats 8000000 in
set_option maxRecDepth 20000 in
theorem FnDeps_c (w : World) (A0 : Option Addr) (n0 c0 : Nat) (x0 : List Int) (h0 : SlAt RU8 1 w A0 n0 x0) (hn0 : n0 ≤ maxLen) : Calls Try.prog 4 #[.slice A0 n0 c0] w (Ret w (.bool true)) := by
  unfold maxLen at hn0
  by_cases hbig : 1048576 < n0
  · clear h0
    go_enter Try.func4, Try.ntmps4
    go_wp2
    exact ret_bool rfl rfl rfl rfl (Ext.refl _)
  have HD := Lib.hid (DrawDepsAdd_c x0 A0 n0 c0 w h0 (by omega))
  clear h0
  go_enter Try.func4, Try.ntmps4
  go_wp2_with fail
  refine HD.out.mono ?_
  rintro e w1 ⟨A, c, xs, d, rfl, hs, hl, hd, hb1⟩
  have hlm : xs.length ≤ maxLen := by unfold maxLen; omega
  have hM := Flat.mono Dep.enc Dep.ok
  have HB1 := Lib.hid (hb1.alloc (.cells #[.int .i64 d.Id, .int .i64 d.For] 31))
  have HS := Lib.hid (fun (u : World) (e : Ext (w1.alloc (.cells #[.int .i64 d.Id, .int .i64 d.For] 31)) u) => hs.ext hM (((Ext.refl _).alloc _).trans e))
  have HQ0 := Lib.hid (fun (u : World) (e : Ext (w1.alloc (.cells #[.int .i64 d.Id, .int .i64 d.For] 31)) u) => e.cell (law_box w1 [.int .i64 d.Id, .int .i64 d.For] 31 0 _ rfl))
  have HQ1 := Lib.hid (fun (u : World) (e : Ext (w1.alloc (.cells #[.int .i64 d.Id, .int .i64 d.For] 31)) u) => e.cell (law_box w1 [.int .i64 d.Id, .int .i64 d.For] 31 1 _ rfl))
  have HI := Lib.hid (DepsAdd_c xs d A xs.length c _ (HS.out _ (Ext.refl _)) hlm hd)
  have HP := Lib.hid (fun (u : World) (e : Ext (w1.alloc (.cells #[.int .i64 d.Id, .int .i64 d.For] 31)) u) => sDepsAdd_c xs d A xs.length c u (HS.out u e) hlm hd)
  have HZ := Lib.hid (fun (e : depsAddC xs d = 0) => add_zero_inv e)
  have HNZ := Lib.hid (fun (e : depsAddC xs d ≠ 0) => show depsAddL xs d = [] by unfold depsAddL; rw [if_neg e])
  have HLI := Lib.hid (insD_len d xs)
  have HF1 := Lib.hid (add_free (l := xs) (d := d))
  have HF2 := Lib.hid (fun h => add_freed (l := xs) (d := d) h)
  have HF3 := Lib.hid (add_done (l := xs) (d := d))
  generalize depsAddL xs d = yl at *
  generalize depsAddC xs d = yc at *
  generalize insD d xs = ys at *
  clear hs hd hb1
  go_wp2_with fail
  refine HI.out.mono ?_
  rintro e w2 ⟨A2, c2, rfl, ho2, hb2⟩
  have HO2 := Lib.hid ho2
  have HB2 := Lib.hid hb2
  have q0 := HQ0.out w2 hb2
  have q1 := HQ1.out w2 hb2
  have hsz := lt_of_cell q0
  clear ho2 hb2
  go_wp2_with fail
  refine (HP.out _ HB2.out).mono ?_
  rintro e w3 ⟨A3, c3, rfl, ho3, hb3⟩
  have HB3 := Lib.hid (HB2.out.trans hb3)
  have HS3 := Lib.hid (fun (u : World) (e : Ext w3 u) => (HO2.out.slAt).ext hM (hb3.trans e))
  have HE3 := Lib.hid (HB1.out.trans HB3.out)
  clear ho3 hb3 q0 q1 hsz
  by_cases hc : yc = 0
  · subst hc
    obtain ⟨E1, HB4, HR4⟩ := HZ.out rfl
    subst E1
    have hlm2 : yl.length ≤ maxLen := by have := HLI.out; unfold maxLen; omega
    have HDO := Lib.hid (fun (u : World) (e : Ext w3 u) => DepsOk_c yl A2 yl.length c2 u (HS3.out u e) hlm2)
    have HRO := Lib.hid (fun (u : World) (e : Ext w3 u) => Round_c yl A2 yl.length c2 u (HS3.out u e) hlm2)
    have HFR := Lib.hid (fun (u : World) (e : Ext w3 u) => Free_c yl d.Id [] A2 yl.length c2 none 0 0 u (HS3.out u e) hlm2 (SlAt.nil _) (by unfold maxLen; omega))
    have HFA := Lib.hid (fun (A' : Option Addr) (c' : Nat) (u : World) (e : Ext w3 u) (h' : SlAt RInt 1 u A' yl.length (yl.map Dep.For)) => Free_c yl d.Id (yl.map Dep.For) A2 yl.length c2 A' yl.length c' u (HS3.out u e) hlm2 h' hlm2)
    have HDD := Lib.hid (fun (u : World) (e : Ext w3 u) => DepsDone_c yl d.For A2 yl.length c2 u (HS3.out u e) hlm2)
    rw [HB4] at HDO
    rw [HR4] at HRO
    rw [HF1.out] at HFR
    rw [HF2.out HB4] at HFA
    have HL3 := Lib.hid HF3.out
    generalize depsDoneL yl d.For = zl at *
    obtain ⟨i0, hi, hI0, hI1, hI2⟩ := info_parts DInt.info2
    have hcast : (((yl.length : Nat) : Int) == (xs.length : Int) + 1) = true := by have := HLI.out; rw [beq_iff_eq]; omega
    have hy101 : yl.length ≤ 101 := by have := HLI.out; omega
    have hlm3 := Lib.hid hlm2
    clear hlm2 hlm
    clear HZ HNZ HI HP HF1 HF2 HF3
    go_wp2
    go_loopw [9, 43] (fun lv iv wr => ∃ (k : Nat) (A1 : Option Addr) (c1 : Nat) (acc : List Int), k ≤ yl.length ∧ iv = .int .i64 k ∧ lv = .slice A1 acc.length c1 ∧ acc.length ≤ k ∧ Hid (acc = (yl.take k).map Dep.For) ∧ Hid (∀ y ∈ acc, In64 y) ∧ wr.ownsRow w3.heap.size 3 1 (.slice A1 acc.length c1) acc.length (acc.flatMap encInt) ∧ Ext w3 wr) (fun _ iv _ => yl.length - (intOf iv).toNat)
    case atStart => exact ⟨0, _, 0, [], by omega, rfl, rfl, by simp, Lib.hid rfl, Lib.hid (fun y hy => by cases hy), by simpa using owns_empty w3 3 1, (Ext.refl _).alloc _⟩
    case round =>
      obtain ⟨k, A1, c1, acc, hk, rfl, rfl, hla, HE, HIN, ho, hb⟩ := hrel
      have HO := Lib.hid ho
      have hle := hb.le
      clear ho
      by_cases hlt : k < yl.length
      · obtain ⟨b, o, x, cs, rfl, hbw, hx, _, hc, rfl, hxo⟩ := (HS3.out wr hb).at_ hlt
        have g0 := hc 0 _ rfl
        have g1 := hc 1 _ rfl
        simp only [Nat.add_zero] at g0
        have HT := Lib.hid (show acc ++ [x.For] = (yl.take (k + 1)).map Dep.For by rw [HE.out, take_succ hx, List.map_append]; rfl)
        have HIN3 := Lib.hid (show ∀ y ∈ acc ++ [x.For], In64 y from fun y hy => by
          rcases List.mem_append.1 hy with hy | hy
          · exact HIN.out y hy
          · rw [List.mem_singleton.1 hy]; exact hxo.2)
        have HO2 := Lib.hid (HO.out.alloc (.cells #[.int .i64 x.Id, .int .i64 x.For] 31))
        have hb2 := hb.alloc (.cells #[.int .i64 x.Id, .int .i64 x.For] 31)
        clear hc hx hxo
        go_wp2_with (at_builtin; go_must (refine wpList_append_one (w0 := w3) (.tmp 47) (.tmp 50) _ w3.heap.size 3 i0 _ 1 8 _ acc.length _ (encInt x.For) rfl rfl Try.underlying24 hi hI0 hI1 hI2 rfl (by omega) rfl (HO2.out) _ rfl (by first | rfl | simp) rfl (DInt.one2 _) (by unfold maxLen; omega) (by omega) hb2 (Nat.le_refl _) (by simp; omega) ?_); intro A4 c4 w4 ho4 hb4 hs4)
        have HO4 := Lib.hid ho4
        clear ho4
        go_wp2
        go_roundw
        case rel => exact ⟨k + 1, A4, c4, acc ++ [x.For], by omega, by go_num, by simp, by simp; omega, HT, HIN3, by rw [List.flatMap_append, List.length_append]; simpa using HO4.out, hb4⟩
        case measure => simp [intOf]; omega
      · have HT := Lib.hid (show acc = yl.map Dep.For by rw [HE.out, List.take_of_length_le (by omega)])
        have hla2 : acc.length = yl.length := by rw [HT.out, List.length_map]
        have HSI := Lib.hid (fun (u : World) (e : Ext wr u) => show SlAt RInt 1 u A1 yl.length (yl.map Dep.For) by
          have e1 := (OwnAt.flat encInt_size HIN.out HO.out).slAt.ext (Flat.mono _ _) e
          rw [hla2, HT.out] at e1; exact e1)
        rw [hla2]
        have eB := HB3.out.trans hb
        have HEB := Lib.hid (HE3.out.trans hb)
        clear hla HE HIN HO hle hla2
        go_wp2_with fail
        refine (HDO.out _ hb).mono ?_
        rintro e w5 ⟨rfl, hb5⟩
        go_wp2_with fail
        refine (HRO.out _ (hb.trans hb5)).mono ?_
        rintro e w6 ⟨rfl, hb6⟩
        have q0 := HQ0.out w6 (eB.trans (hb5.trans hb6))
        have hsz := lt_of_cell q0
        go_wp2_with fail
        refine (HFR.out _ (hb.trans (hb5.trans hb6))).mono ?_
        rintro e w7 ⟨rfl, hb7⟩
        replace q0 := HQ0.out w7 (eB.trans (hb5.trans (hb6.trans hb7)))
        replace hsz := lt_of_cell q0
        go_wp2_with fail
        refine (HFA.out _ _ _ (hb.trans (hb5.trans (hb6.trans hb7))) (HSI.out _ (hb5.trans (hb6.trans hb7)))).mono ?_
        rintro e w8 ⟨rfl, hb8⟩
        replace q0 := HQ1.out w8 (eB.trans (hb5.trans (hb6.trans (hb7.trans hb8))))
        replace hsz := lt_of_cell q0
        go_wp2_with fail
        refine (HDD.out _ (hb.trans (hb5.trans (hb6.trans (hb7.trans hb8))))).mono ?_
        rintro e w9 ⟨A9, c9, rfl, ho9, hb9⟩
        have hl3 := HL3.out
        clear ho9
        have HL4 := Lib.hid hl3
        clear hl3
        go_wp2
        exact ret_bool rfl rfl rfl (decide_eq_true HL4.out) (HEB.out.trans (hb5.trans (hb6.trans (hb7.trans (hb8.trans hb9)))))
  · have HN := HNZ.out hc
    subst HN
    have hcb : (yc != 0) = true := by rw [bne_iff_ne]; exact hc
    clear hc
    go_wp2
    exact ret_bool rfl rfl rfl rfl HE3.out
end Go.Proofs.Ytgnbjnlcikpknaa
