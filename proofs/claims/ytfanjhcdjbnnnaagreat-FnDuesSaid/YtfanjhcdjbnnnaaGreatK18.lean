/- MvOrd, RoomG, Over2, Over3. -/
import Derived.Test.YtfanjhcdjbnnnaaGreatK17
import Derived.Test.YtfanjhcdjbnnnaaGreatK15
import Derived.Test.YtfanjhcdjbnnnaaGreatK02
import Derived.Deep.RegionHeld3
namespace Go.Proofs.YtfanjhcdjbnnnaaGreat
open Go.RowKit
set_option linter.unusedVariables false
set_option maxHeartbeats 8000000
set_option maxRecDepth 10000
theorem Order_c (xs : List Job) (A : Option Addr) (n c : Nat) (w : World) (h : SlAt RJob 11 w A n xs) (hn : n ≤ 1048576) : Calls Tryz.prog 122 #[.slice A n c] w (RetJobO w n xs) := by
 obtain ⟨iJ,hiJ,hJ0,hJ1,hJ2⟩ := info_parts CJob.info
 have HQ := Hh (fun (u : World) (e : Ext w u) => sQueueOk_c xs A n c u (h.ext (Flat.mono _ _) e) (by unfold maxLen;omega))
 have H := Hh (fun (u : World) (e : Ext w u) => h.ext (Flat.mono Job.enc Job.ok) e)
 have HAL := Hh h.all
 have HO0 := Hh (owns_empty w 52 11)
 clear h
 generalize queueB xs = qb at *
 go_enter Tryz.func122,Tryz.ntmps122
 go_wp2_with fail
 refine (HQ.out _ ((Ext.refl w).alloc _)).mono ?_
 rintro e w1 ⟨rfl,hb1⟩
 have HX1 : Ext w w1 := ((Ext.refl w).alloc _).trans hb1
 have HO1 := Hh (owns_ext HO0.out hb1)
 clear HO0 hb1 HQ
 rcases qb with _ | _
 ·go_wp2
  exact bodyPost_ret (by simp [results,Tryz.results122,go_sem, *]) rfl ⟨_,0,0,[],rfl,rfl,HO1.out,(fun x hx => by cases hx),Nat.zero_le _,HX1⟩
 go_wp2
 go_loopw [3,17] (fun l iv wr => ∃ (k : Nat) (B : Option Addr) (d : Nat) (acc : List Job),k ≤ n ∧ iv = .int .i64 k ∧ l = .slice B k d ∧ Hid (k = acc.length) ∧ Hid (wr.ownsRow w.heap.size 52 11 (.slice B k d) k (acc.flatMap Job.enc)) ∧ Hid (∀ x ∈ acc,x ∈ xs) ∧ Ext w wr) (fun _ iv _ => n - (intOf iv).toNat)
 case atStart => exact ⟨0,_,0,[],Nat.zero_le _,rfl,rfl,Hh rfl,HO1,Hh (fun x hx => by cases hx),HX1⟩
 case round =>
  clear HO1 HX1
  obtain ⟨k,B,d,acc,hk,rfl,rfl,HLK,HOW,HM,hb⟩ := hrel
  obtain ⟨wo,rfl⟩ : ∃ u,u = wr := ⟨_,rfl⟩
  by_cases hlt : k < n
  ·obtain ⟨bo,oo,x,cs,rfl,hbw,hx,_,hc,rfl,hok⟩ := (H.out wo hb).at_ hlt
   have g0 := hc 0 _ rfl
   have g1 := hc 1 _ rfl
   have g2 := hc 2 _ rfl
   have g3 := hc 3 _ rfl
   have g4 := hc 4 _ rfl
   have g5 := hc 5 _ rfl
   have g6 := hc 6 _ rfl
   have g7 := hc 7 _ rfl
   have g8 := hc 8 _ rfl
   have g9 := hc 9 _ rfl
   have g10 := hc 10 _ rfl
   simp only [Nat.add_zero] at g0
   have HX := Hh (List.mem_of_getElem? hx)
   have HK := Hh hok
   have hle := hb.le
   have HO0 := Hh (show ((wo.alloc (.cells #[.int .i64 x.Id,.int .i64 x.Prio,.int .i64 x.Nodes,.int .i64 x.Need.A,.int .i64 x.Need.B,.int .i64 x.Need.C,.int .i64 x.Lic.A,.int .i64 x.Lic.B,.int .i64 x.Lic.C,.int .i64 x.Wall,.int .i64 x.Level] 52)).alloc (.cells #[] 52)).ownsRow (wo.heap.size + 1) 52 11 (.slice (some ⟨wo.heap.size + 1,0,none⟩) 0 0) 0 [] from by
    have h := owns_empty (wo.alloc (.cells #[.int .i64 x.Id,.int .i64 x.Prio,.int .i64 x.Nodes,.int .i64 x.Need.A,.int .i64 x.Need.B,.int .i64 x.Need.C,.int .i64 x.Lic.A,.int .i64 x.Lic.B,.int .i64 x.Lic.C,.int .i64 x.Wall,.int .i64 x.Level] 52)) 52 11
    rw [show (wo.alloc (.cells #[.int .i64 x.Id,.int .i64 x.Prio,.int .i64 x.Nodes,.int .i64 x.Need.A,.int .i64 x.Need.B,.int .i64 x.Need.C,.int .i64 x.Lic.A,.int .i64 x.Lic.B,.int .i64 x.Lic.C,.int .i64 x.Wall,.int .i64 x.Level] 52)).heap.size = wo.heap.size + 1 by simp] at h
    exact h)
   have HXB := Hh (gbox wo [.int .i64 x.Id,.int .i64 x.Prio,.int .i64 x.Nodes,.int .i64 x.Need.A,.int .i64 x.Need.B,.int .i64 x.Need.C,.int .i64 x.Lic.A,.int .i64 x.Lic.B,.int .i64 x.Lic.C,.int .i64 x.Wall,.int .i64 x.Level] 52 11 rfl)
   clear hc hx hok
   go_wp2
   go_loopw [6,7,24] (fun l dv jv wq => ∃ (j b : Nat) (dn : Bool) (B2 : Option Addr) (d2 : Nat) (ac2 : List Job),j ≤ k ∧ jv = .int .i64 j ∧ dv = .bool dn ∧ l = .slice B2 b d2 ∧ b = j + (if dn = true then 1 else 0) ∧ Hid (b = ac2.length) ∧ Hid (wq.ownsRow (wo.heap.size + 1) 52 11 (.slice B2 b d2) b (ac2.flatMap Job.enc)) ∧ Hid (∀ x ∈ ac2,x ∈ xs) ∧ Ext (wo.alloc (.cells #[.int .i64 x.Id,.int .i64 x.Prio,.int .i64 x.Nodes,.int .i64 x.Need.A,.int .i64 x.Need.B,.int .i64 x.Need.C,.int .i64 x.Lic.A,.int .i64 x.Lic.B,.int .i64 x.Lic.C,.int .i64 x.Wall,.int .i64 x.Level] 52)) wq) (fun _ _ jv _ => k - (intOf jv).toNat)
   case atStart => exact ⟨0,0,false,_,0,[],Nat.zero_le _,rfl,rfl,rfl,rfl,Hh rfl,HO0,Hh (fun x hx => by cases hx),(Ext.refl _).alloc _⟩
   case round =>
    clear HO0
    obtain ⟨j,b,dn,B2,d2,ac2,hj,rfl,rfl,rfl,hbd,HL2,HO2,HM2,hbq⟩ := hrel
    obtain ⟨wq,rfl⟩ : ∃ u,u = wr := ⟨_,rfl⟩
    have HXQ := Hh (owns_ext HXB.out hbq)
    have hle2 := hbq.le
    simp at hle2
    by_cases hjk : j < k
    ·have HSA := Hh (show SlAt RJob 11 wq B k acc from by have h := owns_ext HOW.out (((Ext.refl wo).alloc _).trans hbq);rw [HLK.out] at h ⊢;exact owns_sl Job.size h (fun y hy => HAL.out y (HM.out y hy)))
     obtain ⟨b2,o2,y,cs2,rfl,hbw2,hy,_,hc2,rfl,hok2⟩ := HSA.out.at_ hjk
     have e0 := hc2 0 _ rfl
     have e1 := hc2 1 _ rfl
     have e2 := hc2 2 _ rfl
     have e3 := hc2 3 _ rfl
     have e4 := hc2 4 _ rfl
     have e5 := hc2 5 _ rfl
     have e6 := hc2 6 _ rfl
     have e7 := hc2 7 _ rfl
     have e8 := hc2 8 _ rfl
     have e9 := hc2 9 _ rfl
     have e10 := hc2 10 _ rfl
     simp only [Nat.add_zero] at e0
     have HY := Hh (HM.out y (List.mem_of_getElem? hy))
     have HYK := Hh hok2
     clear hc2 hy hok2 HSA
     rcases dn with _ | _
     ·simp only [Bool.false_eq_true,if_false,Nat.add_zero] at hbd
      obtain rfl := hbd.symm
      obtain ⟨⟨p0,p1,p2,p3,p4,p5,p6,p7,p8,p9,p10⟩,⟨pf0,pf1,pf2,pf3,pf4,pf5,pf6,pf7,pf8,pf9,pf10⟩,pl⟩ := cells11 HXQ.out
      go_wp2_with fail
      refine (l05Before_c x y _).mono ?_
      rintro e w3 ⟨rfl,hb3⟩
      generalize beforeB x y = bb at *
      have HB3 := Hh hb3
      have HE3 := Hh (show Ext wq w3 from ((Ext.refl wq).alloc _).trans hb3)
      have HO3 := Hh (owns_ext HO2.out HE3.out)
      have HYB := Hh (owns_ext (gbox wq [.int .i64 y.Id,.int .i64 y.Prio,.int .i64 y.Nodes,.int .i64 y.Need.A,.int .i64 y.Need.B,.int .i64 y.Need.C,.int .i64 y.Lic.A,.int .i64 y.Lic.B,.int .i64 y.Lic.C,.int .i64 y.Wall,.int .i64 y.Level] 52 11 rfl) hb3)
      have HX3 := Hh (owns_ext HXQ.out HE3.out)
      have hle3 := HE3.out.le
      clear p0 p1 p2 p3 p4 p5 p6 p7 p8 p9 p10 pf0 pf1 pf2 pf3 pf4 pf5 pf6 pf7 pf8 pf9 pf10 pl hb3 e0 e1 e2 e3 e4 e5 e6 e7 e8 e9 e10
      rcases bb with _ | _
      ·obtain ⟨⟨p0,p1,p2,p3,p4,p5,p6,p7,p8,p9,p10⟩,⟨pf0,pf1,pf2,pf3,pf4,pf5,pf6,pf7,pf8,pf9,pf10⟩,pl⟩ := cells11 HYB.out
       go_wp2_with (at_builtin;go_must (refine wpList_append_k (enc := Job.enc) (ok := Job.ok) (.tmp 39) (.tmp 41) _ (wo.heap.size + 1) 52 iJ _ 11 88 (.slice B2 j d2) j (ac2.flatMap Job.enc) (some ⟨w3.heap.size,0,none⟩) 1 1 [y] (j + 1) ((ac2 ++ [y]).flatMap Job.enc) rfl List.flatMap_append.symm rfl rfl Tryz.underlying30 hiJ hJ0 hJ1 hJ2 rfl (by omega) rfl (owns_ext (HO3.out) ((Ext.refl _).alloc _)) rfl (by exact sl_one_at (enc := Job.enc) w3 _ rfl y 52 rfl HYK.out) Job.size Job.one (by unfold maxLen;omega) (by omega) (by simp;omega) ?_);intro B6 d6 w6 hr;have HR6 := Hh hr;clear hr)
       have HX6 := Hh (show Ext (wo.alloc (.cells #[.int .i64 x.Id,.int .i64 x.Prio,.int .i64 x.Nodes,.int .i64 x.Need.A,.int .i64 x.Need.B,.int .i64 x.Need.C,.int .i64 x.Lic.A,.int .i64 x.Lic.B,.int .i64 x.Lic.C,.int .i64 x.Wall,.int .i64 x.Level] 52)) w6 from HR6.out.kp.ext ((hbq.trans HE3.out).alloc _) (fun q hq => by have := ((owns_ext HO3.out ((Ext.refl w3).alloc (.cells #[.int .i64 y.Id,.int .i64 y.Prio,.int .i64 y.Nodes,.int .i64 y.Need.A,.int .i64 y.Need.B,.int .i64 y.Need.C,.int .i64 y.Lic.A,.int .i64 y.Lic.B,.int .i64 y.Lic.C,.int .i64 y.Wall,.int .i64 y.Level] 52))).lt q hq).1;simpa using this))
       have HL6 := Hh (show j + 1 = (ac2 ++ [y]).length by rw [List.length_append,← HL2.out];rfl)
       have HR7 := Hh HR6.out.row
       clear HR6
       go_wp2
       go_roundw
       case rel => exact ⟨j + 1,j + 1,false,B6,d6,ac2 ++ [y],by omega,by go_num,rfl,rfl,by simp,HL6,HR7.out,Hh (fun z hz => by rcases List.mem_append.1 hz with hz | hz;exact HM2.out z hz;(rw [List.mem_singleton.1 hz];exact HY.out)),HX6.out⟩
       case measure => simp [intOf];omega
      ·obtain ⟨⟨p0,p1,p2,p3,p4,p5,p6,p7,p8,p9,p10⟩,⟨pf0,pf1,pf2,pf3,pf4,pf5,pf6,pf7,pf8,pf9,pf10⟩,pl⟩ := cells11 HX3.out
       go_upto_region 15 with (at_builtin;go_must (refine wpList_append_k (enc := Job.enc) (ok := Job.ok) (.tmp 35) (.tmp 37) _ (wo.heap.size + 1) 52 iJ _ 11 88 (.slice B2 j d2) j (ac2.flatMap Job.enc) (some ⟨w3.heap.size,0,none⟩) 1 1 [x] (j + 1) ((ac2 ++ [x]).flatMap Job.enc) rfl List.flatMap_append.symm rfl rfl Tryz.underlying30 hiJ hJ0 hJ1 hJ2 rfl (by omega) rfl (owns_ext (HO3.out) ((Ext.refl _).alloc _)) rfl (by exact sl_one_at (enc := Job.enc) w3 _ rfl x 52 rfl HK.out) Job.size Job.one (by unfold maxLen;omega) (by omega) (by simp;omega) ?_);intro B5 d5 w5 hr;have HR5 := Hh hr;clear hr)
       clear p0 p1 p2 p3 p4 p5 p6 p7 p8 p9 p10 pf0 pf1 pf2 pf3 pf4 pf5 pf6 pf7 pf8 pf9 pf10 pl
       have HX5 := Hh (show Ext (wo.alloc (.cells #[.int .i64 x.Id,.int .i64 x.Prio,.int .i64 x.Nodes,.int .i64 x.Need.A,.int .i64 x.Need.B,.int .i64 x.Need.C,.int .i64 x.Lic.A,.int .i64 x.Lic.B,.int .i64 x.Lic.C,.int .i64 x.Wall,.int .i64 x.Level] 52)) w5 from HR5.out.kp.ext ((hbq.trans HE3.out).alloc _) (fun q hq => by have := ((owns_ext HO3.out ((Ext.refl w3).alloc (.cells #[.int .i64 x.Id,.int .i64 x.Prio,.int .i64 x.Nodes,.int .i64 x.Need.A,.int .i64 x.Need.B,.int .i64 x.Need.C,.int .i64 x.Lic.A,.int .i64 x.Lic.B,.int .i64 x.Lic.C,.int .i64 x.Wall,.int .i64 x.Level] 52))).lt q hq).1;simpa using this))
       have HYC := Hh (HR5.out.other (owns_ext HYB.out ((Ext.refl _).alloc _)) (rowsApart.symm (rowsApart.new HO2.out (fun q hq => by simp [Value.ownBlock] at hq;omega))))
       have HL5 := Hh (show j + 1 = (ac2 ++ [x]).length by rw [List.length_append,← HL2.out];rfl)
       have HM5 := Hh (show ∀ z ∈ ac2 ++ [x],z ∈ xs from fun z hz => by rcases List.mem_append.1 hz with hz | hz;exact HM2.out z hz;(rw [List.mem_singleton.1 hz];exact HX.out))
       have HO5 := Hh HR5.out.row
       have hle5 := HR5.out.size
       simp at hle5
       clear HR5 HYB
       obtain ⟨⟨p0,p1,p2,p3,p4,p5,p6,p7,p8,p9,p10⟩,⟨pf0,pf1,pf2,pf3,pf4,pf5,pf6,pf7,pf8,pf9,pf10⟩,pl⟩ := cells11 HYC.out
       go_wp2_with (at_builtin;go_must (refine wpList_append_k (enc := Job.enc) (ok := Job.ok) (.tmp 39) (.tmp 41) _ (wo.heap.size + 1) 52 iJ _ 11 88 (.slice B5 (j + 1) d5) (j + 1) ((ac2 ++ [x]).flatMap Job.enc) (some ⟨w5.heap.size,0,none⟩) 1 1 [y] ((j + 1) + 1) (((ac2 ++ [x]) ++ [y]).flatMap Job.enc) rfl List.flatMap_append.symm rfl rfl Tryz.underlying30 hiJ hJ0 hJ1 hJ2 rfl (by omega) rfl (owns_ext (HO5.out) ((Ext.refl _).alloc _)) rfl (by exact sl_one_at (enc := Job.enc) w5 _ rfl y 52 rfl HYK.out) Job.size Job.one (by unfold maxLen;omega) (by omega) (by simp;omega) ?_);intro B6 d6 w6 hr;have HR6 := Hh hr;clear hr)
       have HX6 := Hh (show Ext (wo.alloc (.cells #[.int .i64 x.Id,.int .i64 x.Prio,.int .i64 x.Nodes,.int .i64 x.Need.A,.int .i64 x.Need.B,.int .i64 x.Need.C,.int .i64 x.Lic.A,.int .i64 x.Lic.B,.int .i64 x.Lic.C,.int .i64 x.Wall,.int .i64 x.Level] 52)) w6 from HR6.out.kp.ext (HX5.out.alloc _) (fun q hq => by have := ((owns_ext HO5.out ((Ext.refl w5).alloc (.cells #[.int .i64 y.Id,.int .i64 y.Prio,.int .i64 y.Nodes,.int .i64 y.Need.A,.int .i64 y.Need.B,.int .i64 y.Need.C,.int .i64 y.Lic.A,.int .i64 y.Lic.B,.int .i64 y.Lic.C,.int .i64 y.Wall,.int .i64 y.Level] 52))).lt q hq).1;simpa using this))
       have HL6 := Hh (show (j + 1) + 1 = ((ac2 ++ [x]) ++ [y]).length by rw [List.length_append,← HL5.out];rfl)
       have HR7 := Hh HR6.out.row
       clear HR6
       go_wp2
       go_roundw
       case rel => exact ⟨j + 1,(j + 1) + 1,true,B6,d6,(ac2 ++ [x]) ++ [y],by omega,by go_num,rfl,rfl,by simp,HL6,HR7.out,Hh (fun z hz => by rcases List.mem_append.1 hz with hz | hz;exact HM5.out z hz;(rw [List.mem_singleton.1 hz];exact HY.out)),HX6.out⟩
       case measure => simp [intOf];omega
     ·simp only [if_true] at hbd
      subst hbd
      go_wp2_with (at_builtin;go_must (refine wpList_append_k (enc := Job.enc) (ok := Job.ok) (.tmp 39) (.tmp 41) _ (wo.heap.size + 1) 52 iJ _ 11 88 (.slice B2 (j + 1) d2) (j + 1) (ac2.flatMap Job.enc) (some ⟨(wq.heap.size + 1),0,none⟩) 1 1 [y] ((j + 1) + 1) ((ac2 ++ [y]).flatMap Job.enc) rfl List.flatMap_append.symm rfl rfl Tryz.underlying30 hiJ hJ0 hJ1 hJ2 rfl (by omega) rfl (owns_ext (owns_ext HO2.out ((Ext.refl _).alloc _)) ((Ext.refl _).alloc _)) rfl (by exact sl_one_at (enc := Job.enc) (wq.alloc (.cells #[.int .i64 y.Id,.int .i64 y.Prio,.int .i64 y.Nodes,.int .i64 y.Need.A,.int .i64 y.Need.B,.int .i64 y.Need.C,.int .i64 y.Lic.A,.int .i64 y.Lic.B,.int .i64 y.Lic.C,.int .i64 y.Wall,.int .i64 y.Level] 52)) _ (by simp) y 52 rfl HYK.out) Job.size Job.one (by unfold maxLen;omega) (by omega) (by simp;omega) ?_);intro B6 d6 w6 hr;have HR6 := Hh hr;clear hr)
      have HX6 := Hh (show Ext (wo.alloc (.cells #[.int .i64 x.Id,.int .i64 x.Prio,.int .i64 x.Nodes,.int .i64 x.Need.A,.int .i64 x.Need.B,.int .i64 x.Need.C,.int .i64 x.Lic.A,.int .i64 x.Lic.B,.int .i64 x.Lic.C,.int .i64 x.Wall,.int .i64 x.Level] 52)) w6 from HR6.out.kp.ext ((hbq.alloc _).alloc _) (fun q hq => by have := ((owns_ext HO2.out (((Ext.refl wq).alloc (.cells #[.int .i64 y.Id,.int .i64 y.Prio,.int .i64 y.Nodes,.int .i64 y.Need.A,.int .i64 y.Need.B,.int .i64 y.Need.C,.int .i64 y.Lic.A,.int .i64 y.Lic.B,.int .i64 y.Lic.C,.int .i64 y.Wall,.int .i64 y.Level] 52)).alloc (.cells #[.int .i64 y.Id,.int .i64 y.Prio,.int .i64 y.Nodes,.int .i64 y.Need.A,.int .i64 y.Need.B,.int .i64 y.Need.C,.int .i64 y.Lic.A,.int .i64 y.Lic.B,.int .i64 y.Lic.C,.int .i64 y.Wall,.int .i64 y.Level] 52))).lt q hq).1;simpa using this))
      have HL6 := Hh (show (j + 1) + 1 = (ac2 ++ [y]).length by rw [List.length_append,← HL2.out];rfl)
      have HR7 := Hh HR6.out.row
      clear HR6
      go_wp2
      go_roundw
      case rel => exact ⟨j + 1,(j + 1) + 1,true,B6,d6,ac2 ++ [y],by omega,by go_num,rfl,rfl,by simp,HL6,HR7.out,Hh (fun z hz => by rcases List.mem_append.1 hz with hz | hz;exact HM2.out z hz;(rw [List.mem_singleton.1 hz];exact HY.out)),HX6.out⟩
      case measure => simp [intOf];omega
    ·obtain rfl : j = k := by omega
     rcases dn with _ | _
     ·simp only [Bool.false_eq_true,if_false,Nat.add_zero] at hbd
      obtain rfl := hbd.symm
      obtain ⟨⟨p0,p1,p2,p3,p4,p5,p6,p7,p8,p9,p10⟩,⟨pf0,pf1,pf2,pf3,pf4,pf5,pf6,pf7,pf8,pf9,pf10⟩,pl⟩ := cells11 HXQ.out
      go_wp2_with (at_builtin;go_must (refine wpList_append_k (enc := Job.enc) (ok := Job.ok) (.tmp 46) (.tmp 48) _ (wo.heap.size + 1) 52 iJ _ 11 88 (.slice B2 j d2) j (ac2.flatMap Job.enc) (some ⟨wq.heap.size,0,none⟩) 1 1 [x] (j + 1) ((ac2 ++ [x]).flatMap Job.enc) rfl List.flatMap_append.symm rfl rfl Tryz.underlying30 hiJ hJ0 hJ1 hJ2 rfl (by omega) rfl (owns_ext (HO2.out) ((Ext.refl _).alloc _)) rfl (by exact sl_one_at (enc := Job.enc) wq _ rfl x 52 rfl HK.out) Job.size Job.one (by unfold maxLen;omega) (by omega) (by simp;omega) ?_);intro B6 d6 w6 hr;have HR6 := Hh hr;clear hr)
      have HX6 := Hh (show Ext (wo.alloc (.cells #[.int .i64 x.Id,.int .i64 x.Prio,.int .i64 x.Nodes,.int .i64 x.Need.A,.int .i64 x.Need.B,.int .i64 x.Need.C,.int .i64 x.Lic.A,.int .i64 x.Lic.B,.int .i64 x.Lic.C,.int .i64 x.Wall,.int .i64 x.Level] 52)) w6 from HR6.out.kp.ext (hbq.alloc _) (fun q hq => by have := ((owns_ext HO2.out ((Ext.refl wq).alloc (.cells #[.int .i64 x.Id,.int .i64 x.Prio,.int .i64 x.Nodes,.int .i64 x.Need.A,.int .i64 x.Need.B,.int .i64 x.Need.C,.int .i64 x.Lic.A,.int .i64 x.Lic.B,.int .i64 x.Lic.C,.int .i64 x.Wall,.int .i64 x.Level] 52))).lt q hq).1;simpa using this))
      have HL6 := Hh (show j + 1 = (ac2 ++ [x]).length by rw [List.length_append,← HL2.out];rfl)
      have HR7 := Hh (owns_base HR6.out.row (show w.heap.size ≤ wo.heap.size + 1 by omega))
      have HX7 := Hh (show Ext w w6 from (hb.alloc _).trans HX6.out)
      clear HR6 HX6
      go_wp2
      go_roundw
      case rel => exact ⟨j + 1,B6,d6,ac2 ++ [x],by omega,by go_num,rfl,HL6,HR7,Hh (fun z hz => by rcases List.mem_append.1 hz with hz | hz;exact HM2.out z hz;(rw [List.mem_singleton.1 hz];exact HX.out)),HX7.out⟩
      case measure => simp [intOf];omega
     ·simp only [if_true] at hbd
      subst hbd
      go_wp2
      go_roundw
      case rel => exact ⟨j + 1,B2,d2,ac2,by omega,by go_num,rfl,HL2,Hh (owns_base HO2.out (show w.heap.size ≤ wo.heap.size + 1 by omega)),HM2,(hb.alloc _).trans hbq⟩
      case measure => simp [intOf];omega
  ·obtain rfl : k = n := by omega
   go_wp2
   exact bodyPost_ret (by simp [results,Tryz.results122,go_sem, *]) rfl ⟨B,k,d,acc,rfl,HLK.out,HOW.out,HM.out,Nat.le_refl _,hb⟩
def roomB (ps : List Int) (ns : List Node) (up : List Bool) (pl : List (List Pt)) (lic : List Pt) : Bool := topoB ps ns && (decide (up.length = ns.length) && (decide (pl.length = ns.length) && (pl.all profB && profB lic)))
def roomSm (ps : List Int) (ns : List Node) (up : List Bool) (pl : List (List Pt)) (lic : List Pt) : Prop := (ps.length ≤ 1000 ∧ ns.length ≤ 1000 ∧ up.length ≤ 1000) ∧ (pl.length ≤ 1000 ∧ lic.length ≤ 1000 ∧ ∀ p ∈ pl,p.length ≤ 1000)
theorem roomB_parts {ps : List Int} {ns : List Node} {up : List Bool} {pl : List (List Pt)} {lic : List Pt} (h : roomB ps ns up pl lic = true) : topoB ps ns = true ∧ up.length = ns.length ∧ roomOkM ns.length (pl,lic) := by
 unfold roomB at h
 simp only [Bool.and_eq_true,decide_eq_true_iff,List.all_eq_true] at h
 exact ⟨h.1,h.2.1,h.2.2.1,h.2.2.2.1,h.2.2.2.2⟩
theorem roomB_topo {ps : List Int} {ns : List Node} {up : List Bool} {pl : List (List Pt)} {lic : List Pt} (h : topoB ps ns = false) : roomB ps ns up pl lic = false := by unfold roomB;rw [h];rfl
theorem roomB_up {ps : List Int} {ns : List Node} {up : List Bool} {pl : List (List Pt)} {lic : List Pt} (h : ¬ up.length = ns.length) : roomB ps ns up pl lic = false := by unfold roomB;rw [decide_eq_false h];simp
theorem roomB_pl {ps : List Int} {ns : List Node} {up : List Bool} {pl : List (List Pt)} {lic : List Pt} (h : ¬ pl.length = ns.length) : roomB ps ns up pl lic = false := by unfold roomB;rw [decide_eq_false h];simp
theorem roomB_lic {ps : List Int} {ns : List Node} {up : List Bool} {pl : List (List Pt)} {lic : List Pt} (h : profB lic = false) : roomB ps ns up pl lic = false := by unfold roomB;rw [h];simp
theorem roomB_rest {ps : List Int} {ns : List Node} {up : List Bool} {pl : List (List Pt)} {lic : List Pt} (h1 : topoB ps ns = true) (h2 : up.length = ns.length) (h3 : pl.length = ns.length) : roomB ps ns up pl lic = (pl.all profB && profB lic) := by unfold roomB;rw [h1,decide_eq_true h2,decide_eq_true h3];rfl
theorem all_next {α : Type} {p : α → Bool} {l : List α} {k : Nat} {x : α} (hx : l[k]? = some x) : (l.drop k).all p = (p x && (l.drop (k + 1)).all p) := by rw [drop_cons hx,List.all_cons]
theorem RoomOkG_c (ps : List Int) (ns : List Node) (up : List Bool) (pl : List (List Pt)) (lic : List Pt) (v : Value) (w : World) (h : RoomAt w ps ns up (pl,lic) v) (hz : roomSm ps ns up pl lic) : Calls Tryz.prog 77 #[v] w (Ret w (.bool (roomB ps ns up pl lic))) := by
 obtain ⟨A1,c1,A2,c2,A3,c3,A4,c4,A5,c5,rfl,h1,h2,h3,h4,h5⟩ := h
 simp only [] at h4 h5 ⊢
 obtain ⟨⟨hz1,hz2,hz3⟩,hz4,hz5,hz6⟩ := hz
 have HT := Hh (fun (u : World) (e : Ext w u) => TopoOk_c ps ns A1 ps.length c1 A2 ns.length c2 u (h1.ext (Flat.mono _ _) e) (by unfold maxLen;omega) (h2.ext (Flat.mono _ _) e) (by unfold maxLen;omega))
 have HL := Hh (fun (u : World) (e : Ext w u) => ProfOk_c lic A5 lic.length c5 u (h5.ext (Flat.mono _ _) e) (by unfold maxLen;omega))
 have HP := Hh (fun (p : List Pt) (hp : p ∈ pl) (A : Option Addr) (c : Nat) (u : World) (hs : SlAt RPt 4 u A p.length p) => ProfOk_c p A p.length c u hs (by have := hz6 p hp;unfold maxLen;omega))
 have H4 := Hh (fun (u : World) (e : Ext w u) => h4.ext RPf.mono e)
 clear h1 h2 h3 h4 h5 hz6
 rcases htb : topoB ps ns with _ | _
 ·rw [htb] at HT
  rw [roomB_topo htb]
  clear htb H4 HL HP
  generalize ps.length = n at *
  generalize ns.length = m at *
  generalize up.length = U at *
  generalize pl.length = Q at *
  generalize lic.length = q at *
  go_enter Tryz.func77,Tryz.ntmps77
  go_wp2_with fail
  refine (HT.out _ Ext.go).mono ?_
  rintro e w1 ⟨rfl,hb1⟩
  obtain ⟨hcr1,hfr1,hz1⟩ := hb1.rules
  (try simp at hz1)
  have hy1_w0 : w.heap.size < w1.heap.size := (by omega)
  go_wp2
  exact ret_bool rfl rfl rfl rfl (((Ext.refl w).alloc _).trans hb1)
 rw [htb] at HT
 by_cases hu : ¬ up.length = ns.length
 ·have hue : ((up.length : Int) == (ns.length : Int)) = false := by rw [beq_eq_false_iff_ne];omega
  have hue2 : ((up.length : Int) != (ns.length : Int)) = true := by simp;omega
  rw [roomB_up hu]
  clear htb H4 HL HP
  generalize ps.length = n at *
  generalize ns.length = m at *
  generalize up.length = U at *
  generalize pl.length = Q at *
  generalize lic.length = q at *
  go_enter Tryz.func77,Tryz.ntmps77
  go_wp2_with fail
  refine (HT.out _ Ext.go).mono ?_
  rintro e w1 ⟨rfl,hb1⟩
  obtain ⟨hcr1,hfr1,hz1⟩ := hb1.rules
  (try simp at hz1)
  have hy1_w0 : w.heap.size < w1.heap.size := (by omega)
  go_wp2
  exact ret_bool rfl rfl rfl rfl (((Ext.refl w).alloc _).trans hb1)
 have hu := Classical.not_not.1 hu
 by_cases hp : ¬ pl.length = ns.length
 ·have hue : ((pl.length : Int) == (ns.length : Int)) = false := by rw [beq_eq_false_iff_ne];omega
  have hue2 : ((pl.length : Int) != (ns.length : Int)) = true := by simp;omega
  rw [roomB_pl hp,hu]
  clear htb H4 HL HP hu hp
  generalize ps.length = n at *
  generalize pl.length = Q at *
  generalize lic.length = q at *
  generalize ns.length = m at *
  go_enter Tryz.func77,Tryz.ntmps77
  go_wp2_with fail
  refine (HT.out _ Ext.go).mono ?_
  rintro e w1 ⟨rfl,hb1⟩
  obtain ⟨hcr1,hfr1,hz1⟩ := hb1.rules
  (try simp at hz1)
  have hy1_w0 : w.heap.size < w1.heap.size := (by omega)
  go_wp2
  exact ret_bool rfl rfl rfl rfl (((Ext.refl w).alloc _).trans hb1)
 have hp := Classical.not_not.1 hp
 have HRB := Hh (roomB_rest (lic := lic) htb hu hp)
 have HPL := Hh hp
 rw [hp] at H4
 rw [hu,hp]
 clear hu hp htb
 generalize hR : roomB ps ns up pl lic = R at *
 clear hR
 generalize ns.length = m at *
 generalize ps.length = n at *
 generalize lic.length = q at *
 go_enter Tryz.func77,Tryz.ntmps77
 go_wp2_with fail
 refine (HT.out _ Ext.go).mono ?_
 rintro e w1 ⟨rfl,hb1⟩
 obtain ⟨hcr1,hfr1,hz1⟩ := hb1.rules
 (try simp at hz1)
 have hy1_w0 : w.heap.size < w1.heap.size := (by omega)
 obtain ⟨b0,b1,b2,b3,b4⟩ := bc5 w (w.heap.size) (.slice A1 n c1) (.slice A2 m c2) (.slice A3 m c3) (.slice A4 m c4) (.slice A5 q c5) 73 ((hb1)) (by simp)
 obtain ⟨bf0,bf1,bf2,bf3,bf4⟩ := bf5 w (w.heap.size) (.slice A1 n c1) (.slice A2 m c2) (.slice A3 m c3) (.slice A4 m c4) (.slice A5 q c5) 73 ((hb1)) (by simp)
 go_wp2
 go_loopw [32] (fun i wr => ∃ k : Nat,k ≤ m ∧ i = .int .i64 k ∧ Hid (R = ((pl.drop k).all profB && profB lic)) ∧ Ext (w.alloc (.cells #[.slice A1 n c1,.slice A2 m c2,.slice A3 m c3,.slice A4 m c4,.slice A5 q c5] 73)) wr) (fun i _ => m - (intOf i).toNat)
 case atStart => exact ⟨0,Nat.zero_le _,rfl,HRB,hb1⟩
 case round =>
  obtain ⟨k,hk,rfl,HG,hb⟩ := hrel
  clear b0 b1 b2 b3 b4 bf0 bf1 bf2 bf3 bf4 hcr1 hfr1
  by_cases hlt : k < m
  ·obtain ⟨b,o,x,cs,rfl,hbw,hx,_,hc,A',c',rfl,hs⟩ := (H4.out wr (((Ext.refl w).alloc _).trans hb)).at_ hlt
   have g0 := hc 0 _ rfl
   simp only [Nat.mul_one,Nat.add_zero] at g0
   have HX := Hh (List.mem_of_getElem? hx)
   have HN := Hh (all_next (p := profB) hx)
   have HS := Hh (fun (u : World) (e : Ext wr u) => HP.out x HX.out A' c' u (hs.ext (Flat.mono _ _) e))
   clear hx hc hs
   generalize x.length = xl at *
   generalize profB x = pb at *
   rcases pb with _ | _
   ·have HF := Hh (show R = false by rw [HG.out,HN.out];rfl)
    go_wp2_with fail
    refine (HS.out _ ((Ext.refl _).alloc _)).mono ?_
    rintro e w4 ⟨rfl,hb4⟩
    go_wp2
    exact ret_bool rfl rfl rfl HF.out.symm ((((Ext.refl w).alloc _).trans hb).trans (((Ext.refl _).alloc _).trans hb4))
   ·have HF := Hh (show R = ((pl.drop (k + 1)).all profB && profB lic) by rw [HG.out,HN.out,Bool.true_and])
    go_wp2_with fail
    refine (HS.out _ ((Ext.refl _).alloc _)).mono ?_
    rintro e w4 ⟨rfl,hb4⟩
    go_wp2
    go_roundw
    case rel => exact ⟨k + 1,by omega,by go_num,HF,hb.trans (((Ext.refl _).alloc _).trans hb4)⟩
    case measure => simp [intOf];omega
  ·obtain rfl : k = m := by omega
   have HF := Hh (show R = profB lic by rw [HG.out,List.drop_eq_nil_of_le (by have := HPL.out;omega)];rfl)
   obtain ⟨b0,b1,b2,b3,b4⟩ := bc5 w (w.heap.size) (.slice A1 n c1) (.slice A2 k c2) (.slice A3 k c3) (.slice A4 k c4) (.slice A5 q c5) 73 ((hb)) (by simp)
   obtain ⟨bf0,bf1,bf2,bf3,bf4⟩ := bf5 w (w.heap.size) (.slice A1 n c1) (.slice A2 k c2) (.slice A3 k c3) (.slice A4 k c4) (.slice A5 q c5) 73 ((hb)) (by simp)
   have hb0 := lt_of_cell b0
   generalize profB lic = lb at *
   go_wp2_with fail
   refine (HL.out _ (((Ext.refl w).alloc _).trans hb)).mono ?_
   rintro e w4 ⟨rfl,hb4⟩
   go_wp2
   exact ret_bool rfl rfl rfl HF.out.symm ((((Ext.refl w).alloc _).trans hb).trans hb4)
theorem sRoomOkG_c (ps : List Int) (ns : List Node) (up : List Bool) (pl : List (List Pt)) (lic : List Pt) (v : Value) (w : World) (h : RoomAt w ps ns up (pl,lic) v) (hz : roomSm ps ns up pl lic) : Calls Tryz.prog 91 #[v] w (Ret w (.bool (roomB ps ns up pl lic))) := by
 obtain ⟨A1,c1,A2,c2,A3,c3,A4,c4,A5,c5,rfl,h1,h2,h3,h4,h5⟩ := h
 simp only [] at h4 h5 ⊢
 obtain ⟨⟨hz1,hz2,hz3⟩,hz4,hz5,hz6⟩ := hz
 have HT := Hh (fun (u : World) (e : Ext w u) => sTopoOk_c ps ns A1 ps.length c1 A2 ns.length c2 u (h1.ext (Flat.mono _ _) e) (by unfold maxLen;omega) (h2.ext (Flat.mono _ _) e) (by unfold maxLen;omega))
 have HL := Hh (fun (u : World) (e : Ext w u) => sProfOk_c lic A5 lic.length c5 u (h5.ext (Flat.mono _ _) e) (by unfold maxLen;omega))
 have HP := Hh (fun (p : List Pt) (hp : p ∈ pl) (A : Option Addr) (c : Nat) (u : World) (hs : SlAt RPt 4 u A p.length p) => sProfOk_c p A p.length c u hs (by have := hz6 p hp;unfold maxLen;omega))
 have H4 := Hh (fun (u : World) (e : Ext w u) => h4.ext RPf.mono e)
 clear h1 h2 h3 h4 h5 hz6
 rcases htb : topoB ps ns with _ | _
 ·rw [htb] at HT
  rw [roomB_topo htb]
  clear htb H4 HL HP
  generalize ps.length = n at *
  generalize ns.length = m at *
  generalize up.length = U at *
  generalize pl.length = Q at *
  generalize lic.length = q at *
  go_enter Tryz.func91,Tryz.ntmps91
  go_wp2_with fail
  refine (HT.out _ Ext.go).mono ?_
  rintro e w1 ⟨rfl,hb1⟩
  obtain ⟨hcr1,hfr1,hz1⟩ := hb1.rules
  (try simp at hz1)
  have hy1_w0 : w.heap.size < w1.heap.size := (by omega)
  go_wp2
  exact ret_bool rfl rfl rfl rfl (((Ext.refl w).alloc _).trans hb1)
 rw [htb] at HT
 by_cases hu : ¬ up.length = ns.length
 ·have hue : ((up.length : Int) == (ns.length : Int)) = false := by rw [beq_eq_false_iff_ne];omega
  have hue2 : ((up.length : Int) != (ns.length : Int)) = true := by simp;omega
  rw [roomB_up hu]
  clear htb H4 HL HP
  generalize ps.length = n at *
  generalize ns.length = m at *
  generalize up.length = U at *
  generalize pl.length = Q at *
  generalize lic.length = q at *
  go_enter Tryz.func91,Tryz.ntmps91
  go_wp2_with fail
  refine (HT.out _ Ext.go).mono ?_
  rintro e w1 ⟨rfl,hb1⟩
  obtain ⟨hcr1,hfr1,hz1⟩ := hb1.rules
  (try simp at hz1)
  have hy1_w0 : w.heap.size < w1.heap.size := (by omega)
  go_wp2
  exact ret_bool rfl rfl rfl rfl (((Ext.refl w).alloc _).trans hb1)
 have hu := Classical.not_not.1 hu
 by_cases hp : ¬ pl.length = ns.length
 ·have hue : ((pl.length : Int) == (ns.length : Int)) = false := by rw [beq_eq_false_iff_ne];omega
  have hue2 : ((pl.length : Int) != (ns.length : Int)) = true := by simp;omega
  rw [roomB_pl hp,hu]
  clear htb H4 HL HP hu hp
  generalize ps.length = n at *
  generalize pl.length = Q at *
  generalize lic.length = q at *
  generalize ns.length = m at *
  go_enter Tryz.func91,Tryz.ntmps91
  go_wp2_with fail
  refine (HT.out _ Ext.go).mono ?_
  rintro e w1 ⟨rfl,hb1⟩
  obtain ⟨hcr1,hfr1,hz1⟩ := hb1.rules
  (try simp at hz1)
  have hy1_w0 : w.heap.size < w1.heap.size := (by omega)
  go_wp2
  exact ret_bool rfl rfl rfl rfl (((Ext.refl w).alloc _).trans hb1)
 have hp := Classical.not_not.1 hp
 have HRB := Hh (roomB_rest (lic := lic) htb hu hp)
 have HPL := Hh hp
 rcases hlb : profB lic with _ | _
 ·rw [hlb] at HL
  rw [roomB_lic hlb,hu,hp]
  clear htb H4 HP HRB hlb HPL hu hp
  generalize ps.length = n at *
  generalize lic.length = q at *
  generalize ns.length = m at *
  go_enter Tryz.func91,Tryz.ntmps91
  go_wp2_with fail
  refine (HT.out _ Ext.go).mono ?_
  rintro e w1 ⟨rfl,hb1⟩
  obtain ⟨hcr1,hfr1,hz1⟩ := hb1.rules
  (try simp at hz1)
  have hy1_w0 : w.heap.size < w1.heap.size := (by omega)
  go_wp2_with fail
  refine (HL.out _ (((Ext.refl w).alloc _).trans hb1)).mono ?_
  rintro e w2 ⟨rfl,hb2⟩
  obtain ⟨hcr2,hfr2,hz2⟩ := hb2.rules
  (try simp at hz2)
  have hy2_w0 : w.heap.size < w2.heap.size := (by omega)
  go_wp2
  exact ret_bool rfl rfl rfl rfl ((((Ext.refl w).alloc _).trans hb1).trans hb2)
 rw [hlb] at HL
 rw [hlb,Bool.and_true] at HRB
 rw [hp] at H4
 rw [hu,hp]
 clear hu hp htb
 generalize hR : roomB ps ns up pl lic = R at *
 clear hR
 generalize ns.length = m at *
 generalize ps.length = n at *
 generalize lic.length = q at *
 go_enter Tryz.func91,Tryz.ntmps91
 go_wp2_with fail
 refine (HT.out _ Ext.go).mono ?_
 rintro e w1 ⟨rfl,hb1⟩
 obtain ⟨hcr1,hfr1,hz1⟩ := hb1.rules
 (try simp at hz1)
 have hy1_w0 : w.heap.size < w1.heap.size := (by omega)
 go_wp2_with fail
 refine (HL.out _ (((Ext.refl w).alloc _).trans hb1)).mono ?_
 rintro e w2 ⟨rfl,hb2⟩
 obtain ⟨hcr2,hfr2,hz2⟩ := hb2.rules
 (try simp at hz2)
 have hy2_w0 : w.heap.size < w2.heap.size := (by omega)
 obtain ⟨b0,b1,b2,b3,b4⟩ := bc5 w (w.heap.size) (.slice A1 n c1) (.slice A2 m c2) (.slice A3 m c3) (.slice A4 m c4) (.slice A5 q c5) 73 ((hb1.trans hb2)) (by simp)
 obtain ⟨bf0,bf1,bf2,bf3,bf4⟩ := bf5 w (w.heap.size) (.slice A1 n c1) (.slice A2 m c2) (.slice A3 m c3) (.slice A4 m c4) (.slice A5 q c5) 73 ((hb1.trans hb2)) (by simp)
 go_wp2
 go_loopw [38] (fun i wr => ∃ k : Nat,k ≤ m ∧ i = .int .i64 k ∧ Hid (R = ((pl.drop k).all profB)) ∧ Ext (w.alloc (.cells #[.slice A1 n c1,.slice A2 m c2,.slice A3 m c3,.slice A4 m c4,.slice A5 q c5] 73)) wr) (fun i _ => m - (intOf i).toNat)
 case atStart => exact ⟨0,Nat.zero_le _,rfl,HRB,hb1.trans hb2⟩
 case round =>
  obtain ⟨k,hk,rfl,HG,hb⟩ := hrel
  clear b0 b1 b2 b3 b4 bf0 bf1 bf2 bf3 bf4 hcr1 hfr1 hcr2 hfr2
  by_cases hlt : k < m
  ·obtain ⟨b,o,x,cs,rfl,hbw,hx,_,hc,A',c',rfl,hs⟩ := (H4.out wr (((Ext.refl w).alloc _).trans hb)).at_ hlt
   have g0 := hc 0 _ rfl
   simp only [Nat.mul_one,Nat.add_zero] at g0
   have HX := Hh (List.mem_of_getElem? hx)
   have HN := Hh (all_next (p := profB) hx)
   have HS := Hh (fun (u : World) (e : Ext wr u) => HP.out x HX.out A' c' u (hs.ext (Flat.mono _ _) e))
   clear hx hc hs
   generalize x.length = xl at *
   generalize profB x = pb at *
   rcases pb with _ | _
   ·have HF := Hh (show R = false by rw [HG.out,HN.out];rfl)
    go_wp2_with fail
    refine (HS.out _ ((Ext.refl _).alloc _)).mono ?_
    rintro e w4 ⟨rfl,hb4⟩
    go_wp2
    exact ret_bool rfl rfl rfl HF.out.symm ((((Ext.refl w).alloc _).trans hb).trans (((Ext.refl _).alloc _).trans hb4))
   ·have HF := Hh (show R = ((pl.drop (k + 1)).all profB) by rw [HG.out,HN.out,Bool.true_and])
    go_wp2_with fail
    refine (HS.out _ ((Ext.refl _).alloc _)).mono ?_
    rintro e w4 ⟨rfl,hb4⟩
    go_wp2
    go_roundw
    case rel => exact ⟨k + 1,by omega,by go_num,HF,hb.trans (((Ext.refl _).alloc _).trans hb4)⟩
    case measure => simp [intOf];omega
  ·obtain rfl : k = m := by omega
   have HF := Hh (show true = R by rw [HG.out,List.drop_eq_nil_of_le (by have := HPL.out;omega)];rfl)
   go_wp2
   exact ret_bool rfl rfl rfl HF.out (((Ext.refl w).alloc _).trans hb)
def overB (l : List Pt) (a b : Int) : Bool := profB l && spanB a b
theorem l01Min_c (a b : Int) (w : World) : Calls Tryz.prog 134 #[.int .i64 a,.int .i64 b] w (Same w (.int .i64 (min b a))) := by
 by_cases h : a < b
 all_goals
  go_enter Tryz.func134,Tryz.ntmps134
  go_wp2
  exact same_int rfl rfl rfl (by omega)
def RetVB (w : World) (b : Bool) : Ending → World → Prop := fun e w' => ∃ v : Vec,e = .returned (.tuple #[.agg #[.int .i64 v.A,.int .i64 v.B,.int .i64 v.C],.bool b]) ∧ Ext w w'
def RetV (w : World) : Ending → World → Prop := fun e w' => ∃ v : Vec,e = .returned (.agg #[.int .i64 v.A,.int .i64 v.B,.int .i64 v.C]) ∧ Ext w w'
theorem sVecMin_c (a b : Vec) (w : World) : Calls Tryz.prog 116 #[.agg #[.int .i64 a.A,.int .i64 a.B,.int .i64 a.C],.agg #[.int .i64 b.A,.int .i64 b.B,.int .i64 b.C]] w (RetV w) := by
 have hA := Hh (fun u : World => sVecOk_c a u)
 have hB := Hh (fun u : World => sVecOk_c b u)
 rcases (Bool.eq_false_or_eq_true (vecB a)).symm with h1 | h1
 ·rw [h1] at hA
  go_enter Tryz.func116,Tryz.ntmps116
  go_wp2_with fail
  refine (hA.out _).mono ?_
  rintro e w1 ⟨rfl,hb1⟩
  obtain ⟨hcr1,hfr1,hz1⟩ := hb1.rules
  (try simp at hz1)
  have hy1_w0 : w.heap.size < w1.heap.size := (by omega)
  have hy1_w1 : w.heap.size + 1 < w1.heap.size := (by omega)
  have hy1_w2 : w.heap.size + 1 + 1 < w1.heap.size := (by omega)
  obtain ⟨q0,q1,q2⟩ := bc3 ((w.alloc (.cells #[.int .i64 a.A,.int .i64 a.B,.int .i64 a.C] 29)).alloc (.cells #[.int .i64 b.A,.int .i64 b.B,.int .i64 b.C] 29)) (w.heap.size + 1 + 1) (.int .i64 0) (.int .i64 0) (.int .i64 0) 29 ((hb1)) (by simp)
  obtain ⟨qf0,qf1,qf2⟩ := bf3 ((w.alloc (.cells #[.int .i64 a.A,.int .i64 a.B,.int .i64 a.C] 29)).alloc (.cells #[.int .i64 b.A,.int .i64 b.B,.int .i64 b.C] 29)) (w.heap.size + 1 + 1) (.int .i64 0) (.int .i64 0) (.int .i64 0) 29 ((hb1)) (by simp)
  go_wp2
  exact bodyPost_ret (by simp [results,Tryz.results116,go_sem, *]) rfl ⟨⟨0,0,0⟩,rfl,Ext.go⟩
 rcases (Bool.eq_false_or_eq_true (vecB b)).symm with h2 | h2
 ·rw [h1] at hA
  rw [h2] at hB
  go_enter Tryz.func116,Tryz.ntmps116
  go_wp2_with fail
  refine (hA.out _).mono ?_
  rintro e w1 ⟨rfl,hb1⟩
  obtain ⟨hcr1,hfr1,hz1⟩ := hb1.rules
  (try simp at hz1)
  have hy1_w0 : w.heap.size < w1.heap.size := (by omega)
  have hy1_w1 : w.heap.size + 1 < w1.heap.size := (by omega)
  have hy1_w2 : w.heap.size + 1 + 1 < w1.heap.size := (by omega)
  obtain ⟨q0,q1,q2⟩ := bc3 ((w.alloc (.cells #[.int .i64 a.A,.int .i64 a.B,.int .i64 a.C] 29)).alloc (.cells #[.int .i64 b.A,.int .i64 b.B,.int .i64 b.C] 29)) (w.heap.size + 1 + 1) (.int .i64 0) (.int .i64 0) (.int .i64 0) 29 ((hb1)) (by simp)
  obtain ⟨qf0,qf1,qf2⟩ := bf3 ((w.alloc (.cells #[.int .i64 a.A,.int .i64 a.B,.int .i64 a.C] 29)).alloc (.cells #[.int .i64 b.A,.int .i64 b.B,.int .i64 b.C] 29)) (w.heap.size + 1 + 1) (.int .i64 0) (.int .i64 0) (.int .i64 0) 29 ((hb1)) (by simp)
  obtain ⟨r0,r1,r2⟩ := bc3 (w.alloc (.cells #[.int .i64 a.A,.int .i64 a.B,.int .i64 a.C] 29)) (w.heap.size + 1) (.int .i64 b.A) (.int .i64 b.B) (.int .i64 b.C) 29 ((((Ext.refl _).alloc _).trans hb1)) (by simp)
  obtain ⟨rf0,rf1,rf2⟩ := bf3 (w.alloc (.cells #[.int .i64 a.A,.int .i64 a.B,.int .i64 a.C] 29)) (w.heap.size + 1) (.int .i64 b.A) (.int .i64 b.B) (.int .i64 b.C) 29 ((((Ext.refl _).alloc _).trans hb1)) (by simp)
  go_wp2_with fail
  refine (hB.out _).mono ?_
  rintro e w2 ⟨rfl,hb2⟩
  obtain ⟨q0,q1,q2⟩ := bc3 ((w.alloc (.cells #[.int .i64 a.A,.int .i64 a.B,.int .i64 a.C] 29)).alloc (.cells #[.int .i64 b.A,.int .i64 b.B,.int .i64 b.C] 29)) (w.heap.size + 1 + 1) (.int .i64 0) (.int .i64 0) (.int .i64 0) 29 ((hb1.trans hb2)) (by simp)
  obtain ⟨qf0,qf1,qf2⟩ := bf3 ((w.alloc (.cells #[.int .i64 a.A,.int .i64 a.B,.int .i64 a.C] 29)).alloc (.cells #[.int .i64 b.A,.int .i64 b.B,.int .i64 b.C] 29)) (w.heap.size + 1 + 1) (.int .i64 0) (.int .i64 0) (.int .i64 0) 29 ((hb1.trans hb2)) (by simp)
  go_wp2
  exact bodyPost_ret (by simp [results,Tryz.results116,go_sem, *]) rfl ⟨⟨0,0,0⟩,rfl,Ext.go⟩
 rw [h1] at hA
 rw [h2] at hB
 go_enter Tryz.func116,Tryz.ntmps116
 go_wp2_with fail
 refine (hA.out _).mono ?_
 rintro e w1 ⟨rfl,hb1⟩
 obtain ⟨hcr1,hfr1,hz1⟩ := hb1.rules
 (try simp at hz1)
 have hy1_w0 : w.heap.size < w1.heap.size := (by omega)
 have hy1_w1 : w.heap.size + 1 < w1.heap.size := (by omega)
 have hy1_w2 : w.heap.size + 1 + 1 < w1.heap.size := (by omega)
 obtain ⟨r0,r1,r2⟩ := bc3 (w.alloc (.cells #[.int .i64 a.A,.int .i64 a.B,.int .i64 a.C] 29)) (w.heap.size + 1) (.int .i64 b.A) (.int .i64 b.B) (.int .i64 b.C) 29 ((((Ext.refl _).alloc _).trans hb1)) (by simp)
 obtain ⟨rf0,rf1,rf2⟩ := bf3 (w.alloc (.cells #[.int .i64 a.A,.int .i64 a.B,.int .i64 a.C] 29)) (w.heap.size + 1) (.int .i64 b.A) (.int .i64 b.B) (.int .i64 b.C) 29 ((((Ext.refl _).alloc _).trans hb1)) (by simp)
 go_wp2_with fail
 refine (hB.out _).mono ?_
 rintro e w2 ⟨rfl,hb2⟩
 obtain ⟨hcr2,hfr2,hz2⟩ := hb2.rules
 (try simp at hz2)
 have hy2_w0 : w.heap.size < w2.heap.size := (by omega)
 have hy2_w1 : w.heap.size + 1 < w2.heap.size := (by omega)
 have hy2_w2 : w.heap.size + 1 + 1 < w2.heap.size := (by omega)
 obtain ⟨p0,p1,p2⟩ := bc3 w (w.heap.size) (.int .i64 a.A) (.int .i64 a.B) (.int .i64 a.C) 29 (((((Ext.refl _).alloc _).alloc _).trans (hb1.trans hb2))) (by simp)
 obtain ⟨pf0,pf1,pf2⟩ := bf3 w (w.heap.size) (.int .i64 a.A) (.int .i64 a.B) (.int .i64 a.C) 29 (((((Ext.refl _).alloc _).alloc _).trans (hb1.trans hb2))) (by simp)
 obtain ⟨r0,r1,r2⟩ := bc3 (w.alloc (.cells #[.int .i64 a.A,.int .i64 a.B,.int .i64 a.C] 29)) (w.heap.size + 1) (.int .i64 b.A) (.int .i64 b.B) (.int .i64 b.C) 29 ((((Ext.refl _).alloc _).trans (hb1.trans hb2))) (by simp)
 obtain ⟨rf0,rf1,rf2⟩ := bf3 (w.alloc (.cells #[.int .i64 a.A,.int .i64 a.B,.int .i64 a.C] 29)) (w.heap.size + 1) (.int .i64 b.A) (.int .i64 b.B) (.int .i64 b.C) 29 ((((Ext.refl _).alloc _).trans (hb1.trans hb2))) (by simp)
 obtain ⟨q0,q1,q2⟩ := bc3 ((w.alloc (.cells #[.int .i64 a.A,.int .i64 a.B,.int .i64 a.C] 29)).alloc (.cells #[.int .i64 b.A,.int .i64 b.B,.int .i64 b.C] 29)) (w.heap.size + 1 + 1) (.int .i64 0) (.int .i64 0) (.int .i64 0) 29 ((hb1.trans hb2)) (by simp)
 obtain ⟨qf0,qf1,qf2⟩ := bf3 ((w.alloc (.cells #[.int .i64 a.A,.int .i64 a.B,.int .i64 a.C] 29)).alloc (.cells #[.int .i64 b.A,.int .i64 b.B,.int .i64 b.C] 29)) (w.heap.size + 1 + 1) (.int .i64 0) (.int .i64 0) (.int .i64 0) 29 ((hb1.trans hb2)) (by simp)
 go_wp2
 have HS := Hh (show (w2.drew.cell? ⟨w.heap.size,0,none⟩ = some (.int .i64 a.A) ∧ w2.drew.cell? ⟨w.heap.size,1,none⟩ = some (.int .i64 a.B) ∧ w2.drew.cell? ⟨w.heap.size,2,none⟩ = some (.int .i64 a.C) ∧ w2.drew.cell? ⟨w.heap.size + 1,0,none⟩ = some (.int .i64 b.A) ∧ w2.drew.cell? ⟨w.heap.size + 1,1,none⟩ = some (.int .i64 b.B) ∧ w2.drew.cell? ⟨w.heap.size + 1,2,none⟩ = some (.int .i64 b.C)) from ⟨p0,p1,p2,r0,r1,r2⟩)
 go_region_held3 (fun u => u.cell? ⟨w.heap.size,0,none⟩ = some (.int .i64 a.A) ∧ u.cell? ⟨w.heap.size,1,none⟩ = some (.int .i64 a.B) ∧ u.cell? ⟨w.heap.size,2,none⟩ = some (.int .i64 a.C) ∧ u.cell? ⟨w.heap.size + 1,0,none⟩ = some (.int .i64 b.A) ∧ u.cell? ⟨w.heap.size + 1,1,none⟩ = some (.int .i64 b.B) ∧ u.cell? ⟨w.heap.size + 1,2,none⟩ = some (.int .i64 b.C)) ((first | (with_reducible exact HS.out) | (refine ⟨?_, ?_, ?_, ?_, ?_, ?_⟩ <;> first | assumption | go_simp))) (first | (go_at_call 134;(with_reducible refine (l01Min_c _ _ _).mono ?_);rintro e w3 ⟨rfl,rfl⟩))
 go_wp2
 exact bodyPost_ret (by simp [results,Tryz.results116,go_sem, *]) rfl ⟨⟨min b.A a.A,min b.B a.B,min b.C a.C⟩,rfl,Ext.go⟩
end Go.Proofs.YtfanjhcdjbnnnaaGreat
