/- The law FnExactRankPrio returns true: the walk. -/
import Derived.Test.YtfogmplpaopciaaRank2
namespace Go.Proofs.Ytfogmplpaopciaa
open Go.RowKit
set_option maxHeartbeats 1000000 in
theorem FnExactRankPrio_c (w : World) (A : Option Addr) (n c : Nat) (xs : List Account) (h : SlAt RAccount 3 w A n xs) (hn : n ≤ maxLen) (name : ByteArray) (hname : name.size ≤ maxLen) (q : Int) (hq : In64 q) : Calls Try.prog 7 #[.slice A n c, .string name, .int .i64 q] w (Ret w (.bool true)) := by
  obtain rfl := h.len
  unfold maxLen at hname
  have hM := Flat.mono Account.enc Account.ok
  go_enter Try.func7, Try.ntmps7
  by_cases hbig : 1048576 < name.size
  · go_wp2
    exact ret_is (by simp [results, Try.results7, go_sem]) rfl (by repeat (first | exact Ext.refl _ | assumption | apply Ext.alloc | apply Ext.drewN | apply Ext.drew | (refine Ext.setCell ?_ (by first | (simp; done) | (simp; omega) | omega) _) | (refine Ext.trans ?_ (by assumption))))
  rcases szSM_cases (fun x : Account => x.Name.size) xs 1048576 with hz | ⟨hz, hle, _⟩
  · go_wp2_with fail
    refine (szAccountS_c xs _ _ _ _ _ h hn (by omega) (by omega)).mono ?_
    rintro e w1 ⟨rfl, hb1⟩
    go_wp2
    exact ret_is (by simp [results, Try.results7, go_sem]) rfl (by repeat (first | exact Ext.refl _ | assumption | apply Ext.alloc | apply Ext.drewN | apply Ext.drew | (refine Ext.setCell ?_ (by first | (simp; done) | (simp; omega) | omega) _) | (refine Ext.trans ?_ (by assumption))))
  · have hle' : xs.length ≤ 1048576 := by omega
    have hz' : decide (szSM (fun x : Account => x.Name.size) xs 1048576 < 0) = false := by simpa using hz
    clear hz
    go_wp2_with fail
    refine (szAccountS_c xs _ _ _ _ _ h hn (by omega) (by omega)).mono ?_
    rintro e w1 ⟨rfl, hb1⟩
    go_wp2_with fail
    refine (RetOwn.sl (toAccountS_c xs _ _ _ _ (h.ext hM hb1) hle')).mono ?_
    rintro e w2 ⟨A2, c2, rfl, hs2, hb2⟩
    go_wp2_with fail
    refine (sRankPrio_c xs name q _ _ _ _ hs2 hn).mono ?_
    rintro e w3 ⟨rfl, hb3⟩
    go_wp2_with fail
    refine (RetOwn.sl (toAccountS_c xs _ _ _ _ (h.ext hM (hb1.trans (hb2.trans hb3))) hle')).mono ?_
    rintro e w4 ⟨A4, c4, rfl, hs4, hb4⟩
    go_wp2_with fail
    refine (RankPrio_c xs name q _ _ _ _ hs4 hn).mono ?_
    rintro e w5 ⟨rfl, hb5⟩
    go_wp2_with fail
    refine (RetOwn.sl (toAccountS_c xs _ _ _ _ (h.ext hM (hb1.trans (hb2.trans (hb3.trans (hb4.trans hb5))))) hle')).mono ?_
    rintro e w6 ⟨A6, c6, rfl, hs6, hb6⟩
    go_wp2_with fail
    refine (eqAccountS_c xs xs _ _ _ _ _ _ _ (hs4.ext hM (hb5.trans hb6)) hs6 hn).mono ?_
    rintro e w7 ⟨rfl, hb7⟩
    go_wp2
    exact ret_is (by simp [results, Try.results7, go_sem]) rfl (by repeat (first | exact Ext.refl _ | assumption | apply Ext.alloc | apply Ext.drewN | apply Ext.drew | (refine Ext.setCell ?_ (by first | (simp; done) | (simp; omega) | omega) _) | (refine Ext.trans ?_ (by assumption))))
end Go.Proofs.Ytfogmplpaopciaa
