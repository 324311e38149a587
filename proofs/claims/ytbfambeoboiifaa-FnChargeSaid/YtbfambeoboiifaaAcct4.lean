/- Contracts over lists of accounts: charging. -/
import Derived.Test.YtbfambeoboiifaaAcct3
namespace Go.Proofs.Ytbfambeoboiifaa
open Go.RowKit
def addUsed (a : Account) (n : Int) : Account := { a with Used := min 1000000000 (a.Used + n) }
def chargeB (l : List Account) (name : ByteArray) (n : Int) : Bool := decide (0 ≤ acctAt l name) && usedB n
def chargeL (l : List Account) (name : ByteArray) (n : Int) : List Account := if chargeB l name n = true then l.modify (acctAt l name).toNat (addUsed · n) else []
theorem acctAt_ok {l : List Account} {name : ByteArray} (h : 0 ≤ acctAt l name) : acctsB l = true := by
  unfold acctAt at h; split at h
  · assumption
  · omega
theorem modify_at {α : Type} {f : α → α} {xs : List α} {k : Nat} {x : α} (hx : xs[k]? = some x) : xs.modify k f = xs.take k ++ f x :: xs.drop (k + 1) := by
  obtain ⟨hk, rfl⟩ := List.getElem?_eq_some_iff.1 hx
  rw [List.modify_eq_take_cons_drop hk]
theorem l01Min_c (a b : Int) (w : World) : Calls Try.prog 44 #[.int .i64 a, .int .i64 b] w (Same w (.int .i64 (min b a))) := by
  go_enter Try.func44, Try.ntmps44
  go_wp2
  all_goals exact same_int rfl rfl rfl (by omega)
set_option maxHeartbeats 1000000 in
set_option maxRecDepth 4000 in
theorem Charge_c (xs : List Account) (name : ByteArray) (q : Int) (A : Option Addr) (n c : Nat) (w : World) (h : SlAt RAccount 3 w A n xs) (hl : n ≤ maxLen) : Calls Try.prog 9 #[.slice A n c, .string name, .int .i64 q] w (RetOwnB RAccount 30 3 w (chargeL xs name q) (chargeB xs name q)) := by
  have hl' := hl
  unfold maxLen at hl
  have HN := Lib.hid h.len
  have hM := Flat.mono Account.enc Account.ok
  obtain ⟨i0, hi, hz0, hz1, hz2⟩ := info_parts Account.info
  have hat := AccountAt_c xs name A n c w h hl'
  rcases acctAt_lt xs name with hk | ⟨hk0, hk1⟩
  · have e : chargeB xs name q = false := by unfold chargeB; rw [hk]; rfl
    rw [chargeL, e]
    simp only [Bool.false_eq_true, if_false]
    rw [hk] at hat
    go_enter Try.func9, Try.ntmps9
    go_wp2_with ((go_at_call 40; refine hat.mono ?_; rintro e w1 ⟨rfl, hb1⟩))
    exact ret_ownB (ys := []) rfl (World.ownsRow_nil _ _ _ _) rfl Account.size (fun y hy => by cases hy) hb1
  · obtain ⟨k, hkk⟩ := Int.eq_ofNat_of_zero_le hk0
    have hB := acctAt_ok hk0
    have hlt : k < n := by have := HN.out; omega
    have hn12 : n ≤ 12 := by have := acctsB_len hB; rw [HN.out] at this; exact this
    rw [hkk] at hat
    rcases Bool.eq_false_or_eq_true (usedB q) with hq | hq
    · have e : chargeB xs name q = true := by unfold chargeB; rw [hq, decide_eq_true hk0]; rfl
      obtain ⟨x, hx⟩ : ∃ x, xs[k]? = some x := ⟨_, List.getElem?_eq_getElem (by have := HN.out; omega)⟩
      have hux := acctsB_ok hB x (List.mem_of_getElem? hx)
      have hu0 : 0 ≤ x.Used := hux.2.2.1
      have hu1 : x.Used ≤ 1000000000 := hux.2.2.2
      have hq' := hq
      unfold usedB at hq'
      rw [decide_eq_true_iff] at hq'
      obtain ⟨q0, q1⟩ := hq'
      rw [chargeL, e, if_pos rfl, hkk, Int.toNat_natCast, modify_at hx]
      have hpre : (xs.take k).length = k := by rw [List.length_take, HN.out]; omega
      have hst := flatMap_set (u := .int .i64 (min 1000000000 (x.Used + q))) Account.size (show 2 < 3 by omega) (show (addUsed x q).enc = x.enc.set 2 (.int .i64 (min 1000000000 (x.Used + q))) from rfl) (xs.drop (k + 1)) (xs.take k)
      rw [← split_at hx, hpre] at hst
      have HG := Lib.hid (flatMap_get Account.size (show 2 < 3 by omega) hx)
      have HST := Lib.hid hst
      have HOK := Lib.hid (show ∀ y ∈ xs.take k ++ addUsed x q :: xs.drop (k + 1), y.ok from fun y hy => by
        rcases List.mem_append.1 hy with hy | hy
        · exact h.all y (List.mem_of_mem_take hy)
        · rcases List.mem_cons.1 hy with rfl | hy
          · have := h.all x (List.mem_of_getElem? hx)
            unfold Account.ok In64 at *; simp only [addUsed]; omega
          · exact h.all y (List.mem_of_mem_drop hy))
      have HL2 := Lib.hid (show (xs.take k ++ addUsed x q :: xs.drop (k + 1)).length = n by simp; have := HN.out; omega)
      have hq2 : withinB q 0 1000000000 = true := hq
      have hkk' := hkk
      clear hst hpre hx hux hkk hk0 hk1 hat e
      have hat := AccountAt_c xs name A n c w h hl'
      rcases Int.le_total (x.Used + q) 1000000000 with hm | hm
      all_goals
        rw [hkk'] at hat
        go_enter Try.func9, Try.ntmps9
        go_wp2_with fail
        refine hat.mono ?_
        rintro e w1 ⟨rfl, hb1⟩
        clear hat
        go_wp2_with fail
        refine (within_c _ _ _ _).mono ?_
        rintro e w3 ⟨rfl, rfl⟩
        go_wp2_with (first | (at_builtin; refine wpList_append_list _ (.tmp 20) _ w.heap.size 30 i0 _ 3 32 _ 0 [] A n c xs rfl rfl Try.underlying23 hi hz0 hz1 hz2 rfl (by omega) rfl (World.ownsRow_nil _ _ _ _) rfl (h.ext hM hb1) Account.size Account.one (by unfold maxLen; omega) (by omega) hb1 (Nat.le_refl _) (Ext.le hb1) ?_; intro A1 cap1 w2 ho2 hb2 hs2; simp only [Nat.zero_add, List.nil_append] at ho2; simp only [Nat.zero_add]; obtain ⟨g, cap, e1, hg1, hg2⟩ := own_form ho2 (by omega); injection e1 with e1 _ e3; subst e1 e3; have c2 : w2.cell? ⟨g, k * 3 + 2, none⟩ = some (.int .i64 x.Used) := (by rw [ho2.cellAt _ (by omega), HG.out]; rfl); have z2 := ho2.frozenAt (k * 3 + 2); have HO := Lib.hid ho2; clear ho2))
        all_goals
          refine ret_ownB rfl ?_ HL2.out Account.size HOK.out (Ext.setCell hb2 hg1 _)
          rw [← HST.out]
          have hr := (HO.out.stored (k * 3 + 2) (.int .i64 (min 1000000000 (x.Used + q)))).1
          first | (rw [show min 1000000000 (x.Used + q) = x.Used + q by omega] at hr ⊢; exact hr) | (rw [show min 1000000000 (x.Used + q) = 1000000000 by omega] at hr ⊢; exact hr)
    · have e : chargeB xs name q = false := by unfold chargeB; rw [hq]; simp
      rw [chargeL, e]
      simp only [Bool.false_eq_true, if_false]
      have hq2 : withinB q 0 1000000000 = false := hq
      go_enter Try.func9, Try.ntmps9
      go_wp2_with fail
      refine hat.mono ?_
      rintro e w1 ⟨rfl, hb1⟩
      clear hat
      go_wp2_with fail
      refine (within_c _ _ _ _).mono ?_
      rintro e w3 ⟨rfl, rfl⟩
      go_wp2
      exact ret_ownB (ys := []) rfl (World.ownsRow_nil _ _ _ _) rfl Account.size (fun y hy => by cases hy) hb1
set_option maxHeartbeats 1000000 in
set_option maxRecDepth 4000 in
theorem sCharge_c (xs : List Account) (name : ByteArray) (q : Int) (A : Option Addr) (n c : Nat) (w : World) (h : SlAt RAccount 3 w A n xs) (hl : n ≤ maxLen) : Calls Try.prog 10 #[.slice A n c, .string name, .int .i64 q] w (RetOwnB RAccount 30 3 w (chargeL xs name q) (chargeB xs name q)) := by
  have hl' := hl
  unfold maxLen at hl
  have HN := Lib.hid h.len
  have hM := Flat.mono Account.enc Account.ok
  obtain ⟨i0, hi, hz0, hz1, hz2⟩ := info_parts Account.info
  have hat := sAccountAt_c xs name A n c w h hl'
  rcases acctAt_lt xs name with hk | ⟨hk0, hk1⟩
  · have e : chargeB xs name q = false := by unfold chargeB; rw [hk]; rfl
    rw [chargeL, e]
    simp only [Bool.false_eq_true, if_false]
    rw [hk] at hat
    go_enter Try.func10, Try.ntmps10
    go_wp2_with ((go_at_call 42; refine hat.mono ?_; rintro e w1 ⟨rfl, hb1⟩))
    exact ret_ownB (ys := []) rfl (World.ownsRow_nil _ _ _ _) rfl Account.size (fun y hy => by cases hy) hb1
  · obtain ⟨k, hkk⟩ := Int.eq_ofNat_of_zero_le hk0
    have hB := acctAt_ok hk0
    have hlt : k < n := by have := HN.out; omega
    have hn12 : n ≤ 12 := by have := acctsB_len hB; rw [HN.out] at this; exact this
    rw [hkk] at hat
    rcases Bool.eq_false_or_eq_true (usedB q) with hq | hq
    · have e : chargeB xs name q = true := by unfold chargeB; rw [hq, decide_eq_true hk0]; rfl
      obtain ⟨x, hx⟩ : ∃ x, xs[k]? = some x := ⟨_, List.getElem?_eq_getElem (by have := HN.out; omega)⟩
      have hux := acctsB_ok hB x (List.mem_of_getElem? hx)
      have hu0 : 0 ≤ x.Used := hux.2.2.1
      have hu1 : x.Used ≤ 1000000000 := hux.2.2.2
      have hq' := hq
      unfold usedB at hq'
      rw [decide_eq_true_iff] at hq'
      obtain ⟨q0, q1⟩ := hq'
      rw [chargeL, e, if_pos rfl, hkk, Int.toNat_natCast, modify_at hx]
      have hpre : (xs.take k).length = k := by rw [List.length_take, HN.out]; omega
      have hst := flatMap_set (u := .int .i64 (min 1000000000 (x.Used + q))) Account.size (show 2 < 3 by omega) (show (addUsed x q).enc = x.enc.set 2 (.int .i64 (min 1000000000 (x.Used + q))) from rfl) (xs.drop (k + 1)) (xs.take k)
      rw [← split_at hx, hpre] at hst
      have HG := Lib.hid (flatMap_get Account.size (show 2 < 3 by omega) hx)
      have HST := Lib.hid hst
      have HOK := Lib.hid (show ∀ y ∈ xs.take k ++ addUsed x q :: xs.drop (k + 1), y.ok from fun y hy => by
        rcases List.mem_append.1 hy with hy | hy
        · exact h.all y (List.mem_of_mem_take hy)
        · rcases List.mem_cons.1 hy with rfl | hy
          · have := h.all x (List.mem_of_getElem? hx)
            unfold Account.ok In64 at *; simp only [addUsed]; omega
          · exact h.all y (List.mem_of_mem_drop hy))
      have HL2 := Lib.hid (show (xs.take k ++ addUsed x q :: xs.drop (k + 1)).length = n by simp; have := HN.out; omega)
      have hq2 : withinB q 0 1000000000 = true := hq
      have hkk' := hkk
      clear hst hpre hx hux hkk hk0 hk1 hat e
      have hat := sAccountAt_c xs name A n c w h hl'
      rcases Int.le_total (x.Used + q) 1000000000 with hm | hm
      all_goals
        rw [hkk'] at hat
        go_enter Try.func10, Try.ntmps10
        go_wp2_with fail
        refine hat.mono ?_
        rintro e w1 ⟨rfl, hb1⟩
        clear hat
        go_wp2_with fail
        refine (l11Used_c _ _).mono ?_
        rintro e w3 ⟨rfl, rfl⟩
        go_wp2_with (first | (go_at_call 44; refine (l01Min_c _ _ _).mono ?_; rintro e w4 ⟨rfl, rfl⟩) | (at_builtin; refine wpList_append_list _ (.tmp 21) _ w.heap.size 30 i0 _ 3 32 _ 0 [] A n c xs rfl rfl Try.underlying23 hi hz0 hz1 hz2 rfl (by omega) rfl (owns_base (owns_empty w1 30 3) hb1.le) rfl (h.ext hM (hb1.alloc (.cells #[] 30))) Account.size Account.one (by unfold maxLen; omega) (by omega) (hb1.alloc (.cells #[] 30)) (Nat.le_refl _) (Ext.le (hb1.alloc (.cells #[] 30))) ?_; intro A1 cap1 w2 ho2 hb2 hs2; simp only [Nat.zero_add, List.nil_append] at ho2; simp only [Nat.zero_add]; obtain ⟨g, cap, e1, hg1, hg2⟩ := own_form ho2 (by omega); injection e1 with e1 _ e3; subst e1 e3; have c2 : w2.cell? ⟨g, k * 3 + 2, none⟩ = some (.int .i64 x.Used) := (by rw [ho2.cellAt _ (by omega), HG.out]; rfl); have z2 := ho2.frozenAt (k * 3 + 2); have HO := Lib.hid ho2; clear ho2))
        all_goals
          refine ret_ownB rfl ?_ HL2.out Account.size HOK.out (Ext.setCell hb2 hg1 _)
          rw [← HST.out]
          have hr := (HO.out.stored (k * 3 + 2) (.int .i64 (min 1000000000 (x.Used + q)))).1
          first | (rw [show min 1000000000 (x.Used + q) = x.Used + q by omega] at hr ⊢; exact hr) | (rw [show min 1000000000 (x.Used + q) = 1000000000 by omega] at hr ⊢; exact hr)
    · have e : chargeB xs name q = false := by unfold chargeB; rw [hq]; simp
      rw [chargeL, e]
      simp only [Bool.false_eq_true, if_false]
      have hq2 : withinB q 0 1000000000 = false := hq
      go_enter Try.func10, Try.ntmps10
      go_wp2_with fail
      refine hat.mono ?_
      rintro e w1 ⟨rfl, hb1⟩
      clear hat
      go_wp2_with fail
      refine (l11Used_c _ _).mono ?_
      rintro e w3 ⟨rfl, rfl⟩
      go_wp2
      exact ret_ownB (ys := []) rfl (World.ownsRow_nil _ _ _ _) rfl Account.size (fun y hy => by cases hy) hb1
end Go.Proofs.Ytbfambeoboiifaa
