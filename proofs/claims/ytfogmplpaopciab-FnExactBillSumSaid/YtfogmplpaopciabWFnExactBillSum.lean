/- The law FnExactBillSum returns true: the walk. -/
import Derived.Test.YtfogmplpaopciabOwner
namespace Go.Proofs.Ytfogmplpaopciab
open Go.RowKit
set_option maxHeartbeats 2000000 in
theorem FnExactBillSum_c (w : World) (A : Option Addr) (n c : Nat) (xs : List Bill) (h : SlAt RBill 7 w A n xs) (hn : n ≤ maxLen) (B : Option Addr) (m d : Nat) (os : List Owner) (g : SlAt ROwner 2 w B m os) (hm : m ≤ maxLen) (name : ByteArray) (hname : name.size ≤ maxLen) : Calls Try.prog 6 #[.slice A n c, .slice B m d, .string name] w (Ret w (.bool true)) := by
  obtain rfl := h.len
  obtain rfl := g.len
  unfold maxLen at hname
  have hM := Flat.mono Bill.enc Bill.ok
  have hO := Flat.mono Owner.enc Owner.ok
  go_enter Try.func6, Try.ntmps6
  by_cases hbig : 1048576 < name.size
  · go_wp2
    exact ret_is (by simp [results, Try.results6, go_sem]) rfl (by repeat (first | exact Ext.refl _ | assumption | apply Ext.alloc | apply Ext.drewN | apply Ext.drew | (refine Ext.setCell ?_ (by first | (simp; done) | (simp; omega) | omega) _) | (refine Ext.trans ?_ (by assumption))))
  rcases szM_cases xs.length 1048576 with hz | ⟨hz, hle, hl1⟩
  · go_wp2_with fail
    refine (szBillS_c _ _ _ _ _ hn (by omega) (by omega)).mono ?_
    rintro e w1 ⟨rfl, hb1⟩
    go_wp2
    exact ret_is (by simp [results, Try.results6, go_sem]) rfl (by repeat (first | exact Ext.refl _ | assumption | apply Ext.alloc | apply Ext.drewN | apply Ext.drew | (refine Ext.setCell ?_ (by first | (simp; done) | (simp; omega) | omega) _) | (refine Ext.trans ?_ (by assumption))))
  · have hz' : decide (szM xs.length 1048576 < 0) = false := by simpa using hz
    have hle' : xs.length ≤ 1048576 := by omega
    have cB := fun (u : World) => szBillS_c A xs.length c 1048576 u hn (by omega) (by omega)
    generalize szM xs.length 1048576 = lf at *
    have hl2 : lf ≤ 1048576 := by omega
    clear hl1
    have cO := fun (u : World) (gu : SlAt ROwner 2 u B os.length os) => szOwnerS_c os B os.length d lf u gu hm (by omega) (by omega)
    rcases szSM_cases (fun x : Owner => x.Name.size) os lf with hy | ⟨hy, hly, _⟩
    · have hy' : decide (szSM (fun x : Owner => x.Name.size) os lf < 0) = true := by simpa using hy
      generalize szSM (fun x : Owner => x.Name.size) os lf = lo at *
      have CB := Lib.hid cB
      have CO := Lib.hid cO
      clear cB cO
      go_wp2_with fail
      refine (CB.out _).mono ?_
      rintro e w1 ⟨rfl, hb1⟩
      go_wp2_with fail
      refine (CO.out _ (g.ext hO hb1)).mono ?_
      rintro e w2 ⟨rfl, hb2⟩
      go_wp2
      exact ret_is (by simp [results, Try.results6, go_sem]) rfl (hb1.trans hb2)
    · have hy' : decide (szSM (fun x : Owner => x.Name.size) os lf < 0) = false := by simpa using hy
      have hlo : os.length ≤ 1048576 := by omega
      generalize szSM (fun x : Owner => x.Name.size) os lf = lo at *
      have CB := Lib.hid cB
      have CO := Lib.hid cO
      clear cB cO
      go_wp2_with fail
      refine (CB.out _).mono ?_
      rintro e w1 ⟨rfl, hb1⟩
      go_wp2_with fail
      refine (CO.out _ (g.ext hO hb1)).mono ?_
      rintro e w2 ⟨rfl, hb2⟩
      have e2 := hb1.trans hb2
      go_wp2_with fail
      refine (RetOwn.sl (toBillS_c xs _ _ _ _ (h.ext hM e2) hle')).mono ?_
      rintro e w3 ⟨A3, c3, rfl, hs3, hb3⟩
      go_wp2_with fail
      refine (RetOwn.sl (toOwnerS_c os _ _ _ _ (g.ext hO (e2.trans hb3)) hlo)).mono ?_
      rintro e w4 ⟨A4, c4, rfl, hs4, hb4⟩
      go_wp2_with fail
      refine (sBillSum_c xs os name _ _ _ _ _ _ _ (hs3.ext hM hb4) hn hs4 hm).mono ?_
      rintro e w5 ⟨rfl, hb5⟩
      have e5 := e2.trans (hb3.trans (hb4.trans hb5))
      go_wp2_with fail
      refine (RetOwn.sl (toBillS_c xs _ _ _ _ (h.ext hM e5) hle')).mono ?_
      rintro e w6 ⟨A6, c6, rfl, hs6, hb6⟩
      go_wp2_with fail
      refine (RetOwn.sl (toOwnerS_c os _ _ _ _ (g.ext hO (e5.trans hb6)) hlo)).mono ?_
      rintro e w7 ⟨A7, c7, rfl, hs7, hb7⟩
      go_wp2_with fail
      refine (BillSum_c xs os name _ _ _ _ _ _ _ (hs6.ext hM hb7) hn hs7 hm).mono ?_
      rintro e w8 ⟨rfl, hb8⟩
      have e8 := e5.trans (hb6.trans (hb7.trans hb8))
      go_wp2_with fail
      refine (RetOwn.sl (toBillS_c xs _ _ _ _ (h.ext hM e8) hle')).mono ?_
      rintro e w9 ⟨A9, c9, rfl, hs9, hb9⟩
      go_wp2_with fail
      refine (eqBillS_c xs xs _ _ _ _ _ _ _ (hs6.ext hM (hb7.trans (hb8.trans hb9))) hs9 hn).mono ?_
      rintro e w10 ⟨rfl, hb10⟩
      have e10 := e8.trans (hb9.trans hb10)
      go_wp2_with fail
      refine (RetOwn.sl (toOwnerS_c os _ _ _ _ (g.ext hO e10) hlo)).mono ?_
      rintro e w11 ⟨A11, c11, rfl, hs11, hb11⟩
      go_wp2_with fail
      refine (eqOwnerS_c os os _ _ _ _ _ _ _ (hs7.ext hO (hb8.trans (hb9.trans (hb10.trans hb11)))) hs11 hm).mono ?_
      rintro e w12 ⟨rfl, hb12⟩
      go_wp2
      exact ret_is (by simp [results, Try.results6, go_sem]) rfl (e10.trans (hb11.trans hb12))
end Go.Proofs.Ytfogmplpaopciab
