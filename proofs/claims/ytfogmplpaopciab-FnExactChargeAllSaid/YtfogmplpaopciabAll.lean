/- Contracts: charging all bills. -/
import Derived.Test.YtfogmplpaopciabOwner
import Derived.Test.YtfogmplpaopciabAcct4
namespace Go.Proofs.Ytfogmplpaopciab
open Go.RowKit
def stepL (os : List Owner) (acc : List Account) (b : Bill) : List Account := match ownL os b.Id with
  | none => acc
  | some o => if chargeB acc o.Name (min 1000000000 (costI b)) = true then chargeL acc o.Name (min 1000000000 (costI b)) else acc
def allB (la : List Account) (bs : List Bill) : Bool := acctsB la && billsB bs
def allL (la : List Account) (bs : List Bill) (os : List Owner) : List Account := if allB la bs = true then bs.foldl (stepL os) la else []
theorem chargeL_len {l : List Account} {name : ByteArray} {q : Int} (h : chargeB l name q = true) : (chargeL l name q).length = l.length := by
  unfold chargeL; rw [if_pos h, List.length_modify]
theorem stepL_len (os : List Owner) (acc : List Account) (b : Bill) : (stepL os acc b).length = acc.length := by
  unfold stepL; split
  · rfl
  · split
    · rename_i h; exact chargeL_len h
    · rfl
theorem fold_len (os : List Owner) : ∀ (bs : List Bill) (acc : List Account), (bs.foldl (stepL os) acc).length = acc.length := by
  intro bs
  induction bs with
  | nil => intro acc; rfl
  | cons b r ih => intro acc; rw [List.foldl_cons, ih, stepL_len]
theorem fold_succ {os : List Owner} {la : List Account} {l : List Bill} {k : Nat} {x : Bill} (hx : l[k]? = some x) : (l.take (k + 1)).foldl (stepL os) la = stepL os ((l.take k).foldl (stepL os) la) x := by
  rw [take_succ hx, List.foldl_append]; rfl
theorem allL_len (la : List Account) (bs : List Bill) (os : List Owner) : (allL la bs os).length ≤ la.length := by
  unfold allL; split
  · rw [fold_len]; exact Nat.le_refl _
  · simp
theorem ret_ownB_at {α : Type} {w w0 : World} {P : Program} {fn : Func} {a : Act} {t u : Tmp} {R : Rel α} {e : TypeId} {sz n c : Nat} {A : Option Addr} {ys : List α} {b : Bool} (hr : fn.results = #[.tmp t, .tmp u])
    (ho : OwnAt R e sz w w0.heap.size (.slice A n c) ys) (hlen : ys.length = n) (hb : Ext w0 w) (hv : a.tmps.getD t undef = .slice A n c := by rfl) (hu : a.tmps.getD u undef = .bool b := by rfl) (hd : a.defers = [] := by rfl) : bodyPost P fn (RetOwnB R e sz w0 ys b) .ret a w := by
  subst hlen
  exact bodyPost_ret (results_tmp2 hr _ _ _) hd ⟨A, c, by rw [hv, hu], ho, hb⟩
set_option maxHeartbeats 4000000 in
set_option maxRecDepth 4000 in
theorem ChargeAll_c (la : List Account) (bs : List Bill) (os : List Owner) (A0 : Option Addr) (n0 c0 : Nat) (A : Option Addr) (n c : Nat) (A2 : Option Addr) (n2 c2 : Nat) (w : World) (h0 : SlAt RAccount 3 w A0 n0 la) (hl0 : n0 ≤ maxLen) (h : SlAt RBill 7 w A n bs) (hl : n ≤ maxLen) (h2 : SlAt ROwner 2 w A2 n2 os) (hl2 : n2 ≤ maxLen) : Calls Try.prog 34 #[.slice A0 n0 c0, .slice A n c, .slice A2 n2 c2] w (RetOwnB RAccount 40 3 w (allL la bs os) (allB la bs)) := by
  have hl' := hl
  have hl0' := hl0
  unfold maxLen at hl hl0
  have HN := Lib.hid h.len
  obtain rfl := h0.len
  have hM0 := Flat.mono Account.enc Account.ok
  have hM := Flat.mono Bill.enc Bill.ok
  have hM2 := Flat.mono Owner.enc Owner.ok
  obtain ⟨i0, hi, hz0, hz1, hz2⟩ := info_parts Account.info
  rcases Bool.eq_false_or_eq_true (acctsB la) with hA | hA
  · have hn12 : la.length ≤ 12 := by have := acctsB_len hA; exact this
    rcases Bool.eq_false_or_eq_true (billsB bs) with hB | hB
    · have e : allB la bs = true := by unfold allB; rw [hA, hB]; rfl
      rw [allL, e, if_pos rfl]
      have HB := Lib.hid (billsB_all hB).1
      clear e
      go_enter Try.func34, Try.ntmps34
      go_wp2_with fail
      refine (AccountsOk_c la _ _ _ _ h0 hl0').mono ?_
      rintro e w1 ⟨rfl, hb1⟩
      go_wp2_with fail
      refine (BillsOk_c bs _ _ _ _ (h.ext hM hb1) hl').mono ?_
      rintro e w2 ⟨rfl, hb2⟩
      have e2 := hb1.trans hb2
      go_wp2_with (at_builtin; refine wpList_append_list _ (.tmp 23) _ w.heap.size 40 i0 _ 3 32 _ 0 [] A0 la.length c0 la rfl rfl Try.underlying26 hi hz0 hz1 hz2 rfl (by omega) rfl (World.ownsRow_nil _ _ _ _) rfl (h0.ext hM0 e2) Account.size Account.one (by unfold maxLen; omega) (by omega) e2 (Nat.le_refl _) e2.le ?_; intro A1 c1 w3 ho3 hb3 hs3; simp only [Nat.zero_add, List.nil_append] at ho3; simp only [Nat.zero_add])
      clear hi hz0 hz1 hz2
      have hoS : OwnAt RAccount 40 3 w3 w.heap.size (.slice A1 la.length c1) la := OwnAt.flat Account.size h0.all ho3
      clear ho3
      go_loopw [8, 27] (fun v i wr => ∃ (k : Nat) (A1 : Option Addr) (c1 : Nat) (acc : List Account), k ≤ n ∧ i = .int .i64 k ∧ v = .slice A1 acc.length c1 ∧ OwnAt RAccount 40 3 wr w.heap.size (.slice A1 acc.length c1) acc ∧ Ext w wr ∧ Hid (acc = (bs.take k).foldl (stepL os) la)) (fun _ i _ => n - (intOf i).toNat)
      case atStart => exact ⟨0, A1, c1, la, Nat.zero_le _, rfl, rfl, hoS, hb3, Lib.hid rfl⟩
      case round =>
        clear hoS
        obtain ⟨k, A1, c1, acc, hk, rfl, rfl, ho, hb, HACC⟩ := hrel
        have hacc : acc.length ≤ maxLen := by rw [HACC.out, fold_len]; exact hl0'
        by_cases hlt : k < n
        · obtain ⟨b, o, x, cs, rfl, hbw, hx, _, hc, rfl, _⟩ := (h.ext hM hb).at_ hlt
          have f0 := hc 0 _ rfl
          have f1 := hc 1 _ rfl
          have f2 := hc 2 _ rfl
          have f3 := hc 3 _ rfl
          have f4 := hc 4 _ rfl
          have f5 := hc 5 _ rfl
          have f6 := hc 6 _ rfl
          simp only [Nat.add_zero] at f0
          have hxb := HB.out x (List.mem_of_getElem? hx)
          obtain ⟨q0, q1⟩ := costI_range hxb
          have HS := Lib.hid (fold_succ (os := os) (la := la) hx)
          have hown := fun (u : World) (e : Ext w u) => ownerOf_c os x.Id A2 n2 c2 u (h2.ext hM2 e) hl2
          clear hc hx
          rcases hO : ownL os x.Id with _ | q
          · have HT := Lib.hid (show stepL os acc x = acc by unfold stepL; rw [hO])
            simp only [hO, ownV] at hown
            clear hO
            go_wp2_with fail
            refine (hown _ (hb.alloc _)).mono ?_
            rintro e w4 ⟨rfl, hb4⟩
            clear hown
            go_wp2
            go_roundw
            case rel => exact ⟨k + 1, A1, c1, acc, by omega, by go_num, rfl, ho.ext hM0 (((Ext.refl wr).alloc _).trans hb4), (hb.alloc _).trans hb4, Lib.hid (by rw [HS.out, ← HACC.out, HT.out])⟩
            case measure => simp [intOf]; omega
          · simp only [hO, ownV] at hown
            have HT := Lib.hid (show stepL os acc x = if chargeB acc q.Name (min 1000000000 (costI x)) = true then chargeL acc q.Name (min 1000000000 (costI x)) else acc by unfold stepL; rw [hO])
            clear hO
            have HC := fun (u : World) (e : Ext wr u) (y : Int) => Charge_c acc q.Name y A1 acc.length c1 u ((ho.ext hM0 e).slAt) hacc
            have HCH := Lib.hid HC
            clear HC
            go_wp2_with fail
            refine (hown _ (hb.alloc _)).mono ?_
            rintro e w4 ⟨rfl, hb4⟩
            clear hown
            obtain ⟨hcr4, hfr4, hz4⟩ := hb4.rules
            simp at hz4
            have hy4 : wr.heap.size < w4.heap.size := by omega
            go_wp2_with fail
            refine (Cost_c x _).mono ?_
            rintro e w5 ⟨rfl, hb5⟩
            clear hcr4 hfr4
            go_wp2_with fail
            · refine (HCH.out _ (((Ext.refl wr).alloc _).trans (hb4.trans hb5)) _).mono ?_
              rintro e w6 ⟨A6, c6, rfl, ho6, hb6⟩
              have hmin : min 1000000000 (costI x) = costI x := by omega
              have HT2 := HT.out
              rw [hmin] at HT2
              have e6 := (hb.alloc (.cells #[.int .i64 x.Id, .int .i64 x.From, .int .i64 x.To, .int .i64 x.Nodes, .int .i64 x.Need.A, .int .i64 x.Need.B, .int .i64 x.Need.C] 85)).trans (hb4.trans (hb5.trans hb6))
              have hlo6 : w.heap.size ≤ w5.heap.size := by have := hb.le; have := hb5.le; omega
              rcases Bool.eq_false_or_eq_true (chargeB acc q.Name (costI x)) with hch | hch
              · have HT3 := Lib.hid (HT2.trans (if_pos hch))
                clear HT2 hmin
                go_wp2
                go_roundw
                case rel => exact ⟨k + 1, A6, c6, chargeL acc q.Name (costI x), by omega, by go_num, rfl, ho6.mono hlo6, e6, Lib.hid (by rw [HS.out, ← HACC.out, HT3.out])⟩
                case measure => simp [intOf]; omega
              · have HT3 := Lib.hid (HT2.trans (if_neg (by rw [hch]; simp)))
                clear HT2 hmin
                go_wp2
                go_roundw
                case rel => exact ⟨k + 1, A1, c1, acc, by omega, by go_num, rfl, ho.ext hM0 (((Ext.refl wr).alloc _).trans (hb4.trans (hb5.trans hb6))), e6, Lib.hid (by rw [HS.out, ← HACC.out, HT3.out])⟩
                case measure => simp [intOf]; omega
            · refine (HCH.out _ (((Ext.refl wr).alloc _).trans (hb4.trans hb5)) _).mono ?_
              rintro e w6 ⟨A6, c6, rfl, ho6, hb6⟩
              have hmin : min 1000000000 (costI x) = 1000000000 := by omega
              have HT2 := HT.out
              rw [hmin] at HT2
              have e6 := (hb.alloc (.cells #[.int .i64 x.Id, .int .i64 x.From, .int .i64 x.To, .int .i64 x.Nodes, .int .i64 x.Need.A, .int .i64 x.Need.B, .int .i64 x.Need.C] 85)).trans (hb4.trans (hb5.trans hb6))
              have hlo6 : w.heap.size ≤ w5.heap.size := by have := hb.le; have := hb5.le; omega
              rcases Bool.eq_false_or_eq_true (chargeB acc q.Name (1000000000)) with hch | hch
              · have HT3 := Lib.hid (HT2.trans (if_pos hch))
                clear HT2 hmin
                go_wp2
                go_roundw
                case rel => exact ⟨k + 1, A6, c6, chargeL acc q.Name (1000000000), by omega, by go_num, rfl, ho6.mono hlo6, e6, Lib.hid (by rw [HS.out, ← HACC.out, HT3.out])⟩
                case measure => simp [intOf]; omega
              · have HT3 := Lib.hid (HT2.trans (if_neg (by rw [hch]; simp)))
                clear HT2 hmin
                go_wp2
                go_roundw
                case rel => exact ⟨k + 1, A1, c1, acc, by omega, by go_num, rfl, ho.ext hM0 (((Ext.refl wr).alloc _).trans (hb4.trans (hb5.trans hb6))), e6, Lib.hid (by rw [HS.out, ← HACC.out, HT3.out])⟩
                case measure => simp [intOf]; omega
        · have HF := Lib.hid (show acc = bs.foldl (stepL os) la by rw [HACC.out, List.take_of_length_le (by have := HN.out; omega)])
          clear HACC
          go_wp2
          rw [← HF.out]
          exact ret_ownB_at rfl ho rfl hb
    · have e : allB la bs = false := by unfold allB; rw [hB]; simp
      rw [allL, e]
      simp only [Bool.false_eq_true, if_false]
      clear e
      go_enter Try.func34, Try.ntmps34
      go_wp2_with fail
      refine (AccountsOk_c la _ _ _ _ h0 hl0').mono ?_
      rintro e w1 ⟨rfl, hb1⟩
      go_wp2_with fail
      refine (BillsOk_c bs _ _ _ _ (h.ext hM hb1) hl').mono ?_
      rintro e w2 ⟨rfl, hb2⟩
      go_wp2
      exact ret_ownB (ys := []) rfl (World.ownsRow_nil _ _ _ _) rfl Account.size (fun y hy => by cases hy) (hb1.trans hb2)
  · have e : allB la bs = false := by unfold allB; rw [hA]; simp
    rw [allL, e]
    simp only [Bool.false_eq_true, if_false]
    clear e
    go_enter Try.func34, Try.ntmps34
    go_wp2_with fail
    refine (AccountsOk_c la _ _ _ _ h0 hl0').mono ?_
    rintro e w1 ⟨rfl, hb1⟩
    go_wp2
    exact ret_ownB (ys := []) rfl (World.ownsRow_nil _ _ _ _) rfl Account.size (fun y hy => by cases hy) hb1
set_option maxHeartbeats 4000000 in
set_option maxRecDepth 4000 in
theorem sChargeAll_c (la : List Account) (bs : List Bill) (os : List Owner) (A0 : Option Addr) (n0 c0 : Nat) (A : Option Addr) (n c : Nat) (A2 : Option Addr) (n2 c2 : Nat) (w : World) (h0 : SlAt RAccount 3 w A0 n0 la) (hl0 : n0 ≤ maxLen) (h : SlAt RBill 7 w A n bs) (hl : n ≤ maxLen) (h2 : SlAt ROwner 2 w A2 n2 os) (hl2 : n2 ≤ maxLen) : Calls Try.prog 33 #[.slice A0 n0 c0, .slice A n c, .slice A2 n2 c2] w (RetOwnB RAccount 40 3 w (allL la bs os) (allB la bs)) := by
  have hl' := hl
  have hl0' := hl0
  unfold maxLen at hl hl0
  have HN := Lib.hid h.len
  obtain rfl := h0.len
  have hM0 := Flat.mono Account.enc Account.ok
  have hM := Flat.mono Bill.enc Bill.ok
  have hM2 := Flat.mono Owner.enc Owner.ok
  obtain ⟨i0, hi, hz0, hz1, hz2⟩ := info_parts Account.info
  rcases Bool.eq_false_or_eq_true (acctsB la) with hA | hA
  · have hn12 : la.length ≤ 12 := by have := acctsB_len hA; exact this
    rcases Bool.eq_false_or_eq_true (billsB bs) with hB | hB
    · have e : allB la bs = true := by unfold allB; rw [hA, hB]; rfl
      rw [allL, e, if_pos rfl]
      have HB := Lib.hid (billsB_all hB).1
      clear e
      go_enter Try.func33, Try.ntmps33
      go_wp2_with fail
      refine (sAccountsOk_c la _ _ _ _ h0 hl0').mono ?_
      rintro e w1 ⟨rfl, hb1⟩
      go_wp2_with fail
      refine (sBillsOk_c bs _ _ _ _ (h.ext hM hb1) hl').mono ?_
      rintro e w2 ⟨rfl, hb2⟩
      have e2 := hb1.trans hb2
      go_wp2_with (at_builtin; refine wpList_append_list _ (.tmp 22) _ w.heap.size 40 i0 _ 3 32 _ 0 [] A0 la.length c0 la rfl rfl Try.underlying26 hi hz0 hz1 hz2 rfl (by omega) rfl (owns_base (owns_empty w2 40 3) e2.le) rfl (h0.ext hM0 (e2.alloc (.cells #[] 40))) Account.size Account.one (by unfold maxLen; omega) (by omega) (e2.alloc (.cells #[] 40)) (Nat.le_refl _) (Ext.le (e2.alloc (.cells #[] 40))) ?_; intro A1 c1 w3 ho3 hb3 hs3; simp only [Nat.zero_add, List.nil_append] at ho3; simp only [Nat.zero_add])
      clear hi hz0 hz1 hz2
      have hoS : OwnAt RAccount 40 3 w3 w.heap.size (.slice A1 la.length c1) la := OwnAt.flat Account.size h0.all ho3
      clear ho3
      go_loopw [8, 26] (fun v i wr => ∃ (k : Nat) (A1 : Option Addr) (c1 : Nat) (acc : List Account), k ≤ n ∧ i = .int .i64 k ∧ v = .slice A1 acc.length c1 ∧ OwnAt RAccount 40 3 wr w.heap.size (.slice A1 acc.length c1) acc ∧ Ext w wr ∧ Hid (acc = (bs.take k).foldl (stepL os) la)) (fun _ i _ => n - (intOf i).toNat)
      case atStart => exact ⟨0, A1, c1, la, Nat.zero_le _, rfl, rfl, hoS, hb3, Lib.hid rfl⟩
      case round =>
        clear hoS
        obtain ⟨k, A1, c1, acc, hk, rfl, rfl, ho, hb, HACC⟩ := hrel
        have hacc : acc.length ≤ maxLen := by rw [HACC.out, fold_len]; exact hl0'
        by_cases hlt : k < n
        · obtain ⟨b, o, x, cs, rfl, hbw, hx, _, hc, rfl, _⟩ := (h.ext hM hb).at_ hlt
          have f0 := hc 0 _ rfl
          have f1 := hc 1 _ rfl
          have f2 := hc 2 _ rfl
          have f3 := hc 3 _ rfl
          have f4 := hc 4 _ rfl
          have f5 := hc 5 _ rfl
          have f6 := hc 6 _ rfl
          simp only [Nat.add_zero] at f0
          have hxb := HB.out x (List.mem_of_getElem? hx)
          obtain ⟨q0, q1⟩ := costI_range hxb
          have HS := Lib.hid (fold_succ (os := os) (la := la) hx)
          have hown := fun (u : World) (e : Ext w u) => sOwnerOf_c os x.Id A2 n2 c2 u (h2.ext hM2 e) hl2
          clear hc hx
          rcases hO : ownL os x.Id with _ | q
          · have HT := Lib.hid (show stepL os acc x = acc by unfold stepL; rw [hO])
            simp only [hO, ownV] at hown
            clear hO
            go_wp2_with fail
            refine (hown _ (hb.alloc _)).mono ?_
            rintro e w4 ⟨rfl, hb4⟩
            clear hown
            go_wp2
            go_roundw
            case rel => exact ⟨k + 1, A1, c1, acc, by omega, by go_num, rfl, ho.ext hM0 (((Ext.refl wr).alloc _).trans hb4), (hb.alloc _).trans hb4, Lib.hid (by rw [HS.out, ← HACC.out, HT.out])⟩
            case measure => simp [intOf]; omega
          · simp only [hO, ownV] at hown
            have hmin : usedB (min 1000000000 (costI x)) = true := by unfold usedB; rw [decide_eq_true_iff]; omega
            have HT0 := Lib.hid (show stepL os acc x = if chargeB acc q.Name (min 1000000000 (costI x)) = true then chargeL acc q.Name (min 1000000000 (costI x)) else acc by unfold stepL; rw [hO])
            clear hO
            have HCH := Lib.hid (fun (u : World) (e : Ext wr u) (y : Int) => sCharge_c acc q.Name y A1 acc.length c1 u ((ho.ext hM0 e).slAt) hacc)
            have hat := fun (u : World) (e : Ext wr u) => sAccountAt_c acc q.Name A1 acc.length c1 u ((ho.ext hM0 e).slAt) hacc
            rcases acctAt_lt acc q.Name with hk0 | ⟨hk0, hk1⟩
            · have HT := Lib.hid (show stepL os acc x = acc by rw [HT0.out, if_neg]; unfold chargeB; rw [hk0]; simp)
              rw [hk0] at hat
              have HAT := Lib.hid hat
              clear hat hk0 hmin HT0
              go_wp2_with fail
              refine (hown _ (hb.alloc _)).mono ?_
              rintro e w4 ⟨rfl, hb4⟩
              clear hown
              go_wp2_with fail
              refine (HAT.out _ (((Ext.refl wr).alloc _).trans hb4)).mono ?_
              rintro e w5 ⟨rfl, hb5⟩
              go_wp2
              go_roundw
              case rel => exact ⟨k + 1, A1, c1, acc, by omega, by go_num, rfl, ho.ext hM0 ((((Ext.refl wr).alloc _).trans hb4).trans hb5), ((hb.alloc _).trans hb4).trans hb5, Lib.hid (by rw [HS.out, ← HACC.out, HT.out])⟩
              case measure => simp [intOf]; omega
            · have HT := Lib.hid (show stepL os acc x = chargeL acc q.Name (min 1000000000 (costI x)) by rw [HT0.out, if_pos]; unfold chargeB; rw [hmin, decide_eq_true hk0]; rfl)
              have HAT := Lib.hid hat
              generalize acctAt acc q.Name = ka at *
              clear hat hmin HT0 hk1
              go_wp2_with fail
              refine (hown _ (hb.alloc _)).mono ?_
              rintro e w4 ⟨rfl, hb4⟩
              clear hown
              obtain ⟨hcr4, hfr4, hz4⟩ := hb4.rules
              simp at hz4
              have hy4 : wr.heap.size < w4.heap.size := by omega
              go_wp2_with fail
              refine (HAT.out _ (((Ext.refl wr).alloc _).trans hb4)).mono ?_
              rintro e w5 ⟨rfl, hb5⟩
              obtain ⟨hcr5, hfr5, hz5⟩ := hb5.rules
              have hy5 : wr.heap.size < w5.heap.size := by omega
              go_wp2_with fail
              refine (sCost_c x _).mono ?_
              rintro e w6 ⟨rfl, hb6⟩
              clear hcr4 hfr4 hcr5 hfr5
              go_wp2_with fail
              refine (l01Min_c _ _ _).mono ?_
              rintro e w7 ⟨rfl, rfl⟩
              go_wp2_with fail
              refine (HCH.out _ ((((Ext.refl wr).alloc _).trans hb4).trans (hb5.trans hb6)) _).mono ?_
              rintro e w8 ⟨A8, c8, rfl, ho8, hb8⟩
              have e8 := (((hb.alloc (.cells #[.int .i64 x.Id, .int .i64 x.From, .int .i64 x.To, .int .i64 x.Nodes, .int .i64 x.Need.A, .int .i64 x.Need.B, .int .i64 x.Need.C] 85)).trans hb4).trans (hb5.trans hb6)).trans hb8
              have hlo8 : w.heap.size ≤ w6.heap.size := by have := hb.le; have := hb6.le; omega
              go_wp2
              go_roundw
              case rel => exact ⟨k + 1, A8, c8, chargeL acc q.Name (min 1000000000 (costI x)), by omega, by go_num, rfl, ho8.mono hlo8, e8, Lib.hid (by rw [HS.out, ← HACC.out, HT.out])⟩
              case measure => simp [intOf]; omega
        · have HF := Lib.hid (show acc = bs.foldl (stepL os) la by rw [HACC.out, List.take_of_length_le (by have := HN.out; omega)])
          clear HACC
          go_wp2
          rw [← HF.out]
          exact ret_ownB_at rfl ho rfl hb
    · have e : allB la bs = false := by unfold allB; rw [hB]; simp
      rw [allL, e]
      simp only [Bool.false_eq_true, if_false]
      clear e
      go_enter Try.func33, Try.ntmps33
      go_wp2_with fail
      refine (sAccountsOk_c la _ _ _ _ h0 hl0').mono ?_
      rintro e w1 ⟨rfl, hb1⟩
      go_wp2_with fail
      refine (sBillsOk_c bs _ _ _ _ (h.ext hM hb1) hl').mono ?_
      rintro e w2 ⟨rfl, hb2⟩
      go_wp2
      exact ret_ownB (ys := []) rfl (World.ownsRow_nil _ _ _ _) rfl Account.size (fun y hy => by cases hy) (hb1.trans hb2)
  · have e : allB la bs = false := by unfold allB; rw [hA]; simp
    rw [allL, e]
    simp only [Bool.false_eq_true, if_false]
    clear e
    go_enter Try.func33, Try.ntmps33
    go_wp2_with fail
    refine (sAccountsOk_c la _ _ _ _ h0 hl0').mono ?_
    rintro e w1 ⟨rfl, hb1⟩
    go_wp2
    exact ret_ownB (ys := []) rfl (World.ownsRow_nil _ _ _ _) rfl Account.size (fun y hy => by cases hy) hb1
end Go.Proofs.Ytfogmplpaopciab
