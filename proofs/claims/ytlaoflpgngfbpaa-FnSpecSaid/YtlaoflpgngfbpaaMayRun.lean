/- Contracts: whether one more of an array may run. -/
import Derived.Test.YtlaoflpgngfbpaaIds
import Derived.Test.YtlaoflpgngfbpaaInts
namespace Go.Proofs.Ytlaoflpgngfbpaa
open Go.RowKit
set_option linter.unusedVariables false
def cntRun (l r : List Int) : Nat := l.countP (fun x => r.contains x)
def mayRunB (l : List Span) (m : Int) (r : List Int) (id : Int) : Bool := (specIdsL l m).contains id && !r.contains id && ((m == 0) || decide ((cntRun (specIdsL l m) r : Int) < m))
theorem cntRun_succ {l : List Int} {k : Nat} {x : Int} (hx : l[k]? = some x) (r : List Int) : cntRun (l.take (k + 1)) r = cntRun (l.take k) r + if r.contains x = true then 1 else 0 := by
  unfold cntRun; rw [take_succ hx, List.countP_append]; simp [List.countP_cons]
set_option maxHeartbeats 4000000 in
set_option maxRecDepth 10000 in
theorem MayRun_c (xs : List Span) (m : Int) (rs : List Int) (id : Int) (A : Option Addr) (n c : Nat) (A0 : Option Addr) (n0 c0 : Nat) (w : World) (h : SlAt RSpan 3 w A n xs) (hl : n ≤ maxLen) (h0 : SlAt RInt 1 w A0 n0 rs) (hl0 : n0 ≤ maxLen) : Calls Try.prog 10 #[.agg #[.slice A n c, .int .i64 m], .slice A0 n0 c0, .int .i64 id] w (Ret w (.bool (mayRunB xs m rs id))) := by
  have HM := Lib.hid (Flat.mono Span.enc Span.ok)
  have hA := Lib.hid (fun (u : World) (e : Ext w u) => SpecIds_c xs m A n c u (h.ext HM.out e) hl)
  have HRS := Lib.hid (fun (x : Int) (u : World) (e : Ext w u) => Contains_c rs x A0 n0 c0 u (h0.ext (Flat.mono _ _) e) hl0)
  have h60 := specIdsL_len xs m
  have HE := Lib.hid (show mayRunB xs m rs id = ((specIdsL xs m).contains id && !rs.contains id && ((m == 0) || decide ((cntRun (specIdsL xs m) rs : Int) < m))) from rfl)
  generalize specIdsL xs m = ids at *
  have HID := Lib.hid (fun (A1 : Option Addr) (c1 : Nat) (u : World) (hh : SlAt RInt 1 u A1 ids.length ids) => Contains_c ids id A1 ids.length c1 u hh (by unfold maxLen; omega))
  go_enter Try.func10, Try.ntmps10
  go_wp2_with fail
  refine (hA.out _ (by repeat (first | exact Ext.refl _ | assumption | apply Ext.alloc | apply Ext.drewN | apply Ext.drew | (refine Ext.setCell ?_ (by first | (simp; done) | (simp; omega) | omega) _) | (refine Ext.trans ?_ (by assumption))))).mono ?_
  rintro e w1 ⟨A1, c1, rfl, ho1, hb1⟩
  have e1 : Ext w w1 := ((Ext.refl w).alloc _).trans hb1
  have hsl := ho1.slAt
  have HSL := Lib.hid hsl
  have KB := Lib.hid (hb1.cell (cell_box w [.slice A n c, .int .i64 m] 25 1 _ rfl))
  clear ho1 hA h h0
  go_wp2
  go_loopw [8, 15] (fun v i wr => ∃ (k : Nat) (q : Int), k ≤ ids.length ∧ i = .int .i64 k ∧ v = .int .i64 q ∧ 0 ≤ q ∧ q ≤ k ∧ Ext w1 wr ∧ Hid (q = (cntRun (ids.take k) rs : Int))) (fun _ i _ => ids.length - (intOf i).toNat)
  case atStart => exact ⟨0, 0, Nat.zero_le _, rfl, rfl, by omega, by omega, Ext.refl _, Lib.hid rfl⟩
  case round =>
    obtain ⟨k, q, hk, rfl, rfl, q0, q1, hb, HQ⟩ := hrel
    by_cases hlt : k < ids.length
    · obtain ⟨b, o, x, cs, rfl, hbw, hx, _, hc, rfl, _⟩ := (hsl.ext (Flat.mono _ _) hb).at_ hlt
      have g0 := hc 0 _ rfl
      simp only [Nat.mul_one, Nat.add_zero] at g0
      have HS := Lib.hid (cntRun_succ hx rs)
      have HR := Lib.hid (HRS.out x)
      clear hc hx hsl
      rcases Bool.eq_false_or_eq_true (rs.contains x) with h3 | h3
      all_goals
        have H3 := Lib.hid h3
        rw [h3] at HR
        clear h3
        go_wp2_with fail
        refine (HR.out _ (e1.trans hb)).mono ?_
        rintro e w5 ⟨rfl, hb5⟩
        go_wp2
        go_roundw
      case rel => exact ⟨k + 1, q + 1, by omega, by go_num, by go_num, by omega, by omega, hb.trans hb5, Lib.hid (by rw [HQ.out, HS.out, if_pos H3.out]; omega)⟩
      case measure => simp [intOf]; omega
      case rel => exact ⟨k + 1, q, by omega, by go_num, by go_num, by omega, by omega, hb.trans hb5, Lib.hid (by rw [HQ.out, HS.out, if_neg (by rw [H3.out]; simp)]; omega)⟩
      case measure => simp [intOf]; omega
    · have HQ2 := Lib.hid (show q = (cntRun ids rs : Int) by rw [HQ.out, List.take_of_length_le (by omega)])
      clear HQ
      rcases (Bool.eq_false_or_eq_true (ids.contains id)).symm with h3 | h3
      · have HF := Lib.hid (show mayRunB xs m rs id = false by rw [HE.out, h3]; rfl)
        rw [h3] at HID
        go_wp2_with fail
        refine (HID.out _ _ _ (HSL.out.ext (Flat.mono _ _) hb)).mono ?_
        rintro e w5 ⟨rfl, hb5⟩
        go_wp2
        exact ret_bool rfl rfl rfl HF.out.symm ((e1.trans hb).trans hb5)
      rcases Bool.eq_false_or_eq_true (rs.contains id) with h4 | h4
      · have HF := Lib.hid (show mayRunB xs m rs id = false by rw [HE.out, h3, h4]; rfl)
        have HR := Lib.hid (HRS.out id)
        rw [h3] at HID
        rw [h4] at HR
        go_wp2_with fail
        refine (HID.out _ _ _ (HSL.out.ext (Flat.mono _ _) hb)).mono ?_
        rintro e w5 ⟨rfl, hb5⟩
        go_wp2_with fail
        refine (HR.out _ ((e1.trans hb).trans hb5)).mono ?_
        rintro e w6 ⟨rfl, hb6⟩
        go_wp2
        exact ret_bool rfl rfl rfl HF.out.symm (((e1.trans hb).trans hb5).trans hb6)
      have HF := Lib.hid (show mayRunB xs m rs id = ((m == 0) || decide (q < m)) by rw [HE.out, h3, h4, HQ2.out]; rfl)
      have HR := Lib.hid (HRS.out id)
      rw [h3] at HID
      rw [h4] at HR
      rcases Bool.eq_false_or_eq_true (m == 0) with h5 | h5
      all_goals
        have H5 := Lib.hid h5
        go_wp2_with fail
        refine (HID.out _ _ _ (HSL.out.ext (Flat.mono _ _) hb)).mono ?_
        rintro e w5 ⟨rfl, hb5⟩
        go_wp2_with fail
        refine (HR.out _ ((e1.trans hb).trans hb5)).mono ?_
        rintro e w6 ⟨rfl, hb6⟩
        have kb := ((hb.trans hb5).trans hb6).cell KB.out
        go_wp2
        exact ret_bool rfl rfl rfl (by rw [HF.out, H5.out]; simp) (((e1.trans hb).trans hb5).trans hb6)
end Go.Proofs.Ytlaoflpgngfbpaa
