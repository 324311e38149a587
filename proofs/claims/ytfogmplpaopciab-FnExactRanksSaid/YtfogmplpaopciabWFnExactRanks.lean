/- The law FnExactRanks returns true: the walk. -/
import Derived.Test.YtfogmplpaopciabRank
import Derived.Test.YtfogmplpaopciabMarkT
namespace Go.Proofs.Ytfogmplpaopciab
open Go.RowKit
theorem ranksL_le (l : List Account) : (ranksL l).length ≤ l.length := by
  unfold ranksL; split <;> simp
set_option maxHeartbeats 2000000 in
theorem FnExactRanks_c (w : World) (A : Option Addr) (n c : Nat) (xs : List Account) (h : SlAt RAccount 3 w A n xs) (hn : n ≤ maxLen) : Calls Try.prog 3 #[.slice A n c] w (Ret w (.bool true)) := by
  obtain rfl := h.len
  have hM := Flat.mono Account.enc Account.ok
  have hI := Flat.mono encInt In64
  go_enter Try.func3, Try.ntmps3
  rcases szSM_cases (fun x : Account => x.Name.size) xs 1048576 with hz | ⟨hz, hle, _⟩
  · go_wp2_with fail
    refine (szAccountS_c xs _ _ _ _ _ h hn (by omega) (by omega)).mono ?_
    rintro e w1 ⟨rfl, hb1⟩
    go_wp2
    exact ret_is (by simp [results, Try.results3, go_sem]) rfl (by repeat (first | exact Ext.refl _ | assumption | apply Ext.alloc | apply Ext.drewN | apply Ext.drew | (refine Ext.setCell ?_ (by first | (simp; done) | (simp; omega) | omega) _) | (refine Ext.trans ?_ (by assumption))))
  · have hle' : xs.length ≤ 1048576 := by omega
    have hz' : decide (szSM (fun x : Account => x.Name.size) xs 1048576 < 0) = false := by simpa using hz
    clear hz
    have hyl := ranksL_le xs
    generalize hys : ranksL xs = ys at hyl
    have HYS := Lib.hid hys
    clear hys
    have hyn : ys.length ≤ maxLen := by unfold maxLen; omega
    have cI := fun (A : Option Addr) (c : Nat) (w : World) (h : SlAt RAccount 3 w A xs.length xs) => Ranks_c xs A xs.length c w h hn
    have cS := fun (A : Option Addr) (c : Nat) (w : World) (h : SlAt RAccount 3 w A xs.length xs) => sRanks_c xs A xs.length c w h hn
    rw [HYS.out] at cI cS
    have CI := Lib.hid cI
    have CS := Lib.hid cS
    clear cI cS
    go_wp2_with fail
    refine (szAccountS_c xs _ _ _ _ _ h hn (by omega) (by omega)).mono ?_
    rintro e w1 ⟨rfl, hb1⟩
    go_wp2_with fail
    refine (RetOwn.sl (toAccountS_c xs _ _ _ _ (h.ext hM hb1) hle')).mono ?_
    rintro e w2 ⟨A2, c2, rfl, hs2, hb2⟩
    go_wp2_with fail
    refine (CS.out _ _ _ hs2).mono ?_
    rintro e w3 ⟨A3, c3, rfl, ho3, hb3⟩
    have e3 := hb1.trans (hb2.trans hb3)
    go_wp2_with fail
    refine (toAccountS_c xs _ _ _ _ (h.ext hM e3) hle').mono ?_
    rintro e w4 ⟨A4, c4, rfl, ho4, hb4⟩
    go_wp2_with fail
    refine (CI.out _ _ _ ho4.slAt).mono ?_
    rintro e w5 ⟨A5, c5, rfl, ho5, hb5⟩
    have e5 := hb4.trans hb5
    go_wp2_with fail
    refine (eqIntS_c ys ys _ _ _ _ _ _ _ ho5.slAt (ho3.ext hI e5).slAt hyn).mono ?_
    rintro e w6 ⟨rfl, hb6⟩
    go_wp2_with fail
    refine (RetOwn.sl (toAccountS_c xs _ _ _ _ (h.ext hM (e3.trans (e5.trans hb6))) hle')).mono ?_
    rintro e w7 ⟨A7, c7, rfl, hs7, hb7⟩
    go_wp2_with fail
    refine (eqAccountS_c xs xs _ _ _ _ _ _ _ ((ho4.ext hM hb5).ext hM (hb6.trans hb7)).slAt hs7 hn).mono ?_
    rintro e w8 ⟨rfl, hb8⟩
    have e8 := hb6.trans (hb7.trans hb8)
    obtain ⟨L4, hL4, _⟩ := id ho4
    go_wp2_with fail
    refine (markAccountS_c A4 _ c4 _ L4 1 _ (owns_ext hL4 (hb5.trans e8)) hle' (by omega) (by omega)).mono ?_
    rintro e w9 ⟨rfl, hm9, hg9⟩
    have x0lo := fun k hk => (ho4.block k hk).1
    have x0hi := fun k hk => (ho4.block k hk).2
    have e39 : Ext w3 w9 := ext_grown (e5.trans e8) hg9 x0lo
    have o59 := (ho5.ext hI e8).kept hg9 (own_ne (fun k hk => (ho5.block k hk).1) x0hi)
    clear hg9 hm9
    go_wp2_with fail
    refine (eqIntS_c ys ys _ _ _ _ _ _ _ o59.slAt (ho3.ext hI e39).slAt hyn).mono ?_
    rintro e w10 ⟨rfl, hb10⟩
    obtain ⟨L5, hL5, _⟩ := id o59
    go_wp2_with fail
    refine (markIntS_c A5 _ c5 _ L5 1 _ (owns_ext hL5 hb10) (by omega) (by omega) (by omega)).mono ?_
    rintro e w11 ⟨rfl, hm11, hg11⟩
    have e311 : Ext w3 w11 := ext_grown (e39.trans hb10) hg11 (fun k hk => Nat.le_trans hb4.le (ho5.block k hk).1)
    clear hg11
    go_wp2_with fail
    refine (heldIntS_c A5 _ c5 _ 1 _ hm11 (by omega) (by omega) (by omega)).mono ?_
    rintro e w12 ⟨rfl, hb12⟩
    go_wp2_with fail
    refine (RetOwn.sl (toAccountS_c xs _ _ _ _ (h.ext hM (e3.trans (e311.trans hb12))) hle')).mono ?_
    rintro e w13 ⟨A13, c13, rfl, hs13, hb13⟩
    go_wp2_with fail
    refine (RetOwn.sl (CI.out _ _ _ hs13)).mono ?_
    rintro e w14 ⟨A14, c14, rfl, hs14, hb14⟩
    go_wp2_with fail
    refine (eqIntS_c ys ys _ _ _ _ _ _ _ hs14 (ho3.ext hI (e311.trans (hb12.trans (hb13.trans hb14)))).slAt hyn).mono ?_
    rintro e w15 ⟨rfl, hb15⟩
    go_wp2_with fail
    refine (heldIntS_c A5 _ c5 _ 1 _ (owns_ext hm11 (hb12.trans (hb13.trans (hb14.trans hb15)))) (by omega) (by omega) (by omega)).mono ?_
    rintro e w16 ⟨rfl, hb16⟩
    go_wp2
    exact ret_is (by simp [results, Try.results3, go_sem]) rfl (e3.trans (e311.trans (hb12.trans (hb13.trans (hb14.trans (hb15.trans hb16))))))
end Go.Proofs.Ytfogmplpaopciab
