/- Contracts over lists of accounts: where a name is. -/
import Derived.Test.YtbfambeoboiifaaAcct
namespace Go.Proofs.Ytbfambeoboiifaa
open Go.RowKit
def idxGo (name : ByteArray) : List Account → Nat → Int
  | [], _ => -1
  | a :: r, k => if (a.Name.toList == name.toList) = true then k else idxGo name r (k + 1)
def acctAt (l : List Account) (name : ByteArray) : Int := if acctsB l = true then idxGo name l 0 else -1
theorem idxGo_lt (name : ByteArray) (l : List Account) : ∀ k : Nat, idxGo name l k = -1 ∨ ((k : Int) ≤ idxGo name l k ∧ idxGo name l k < k + l.length) := by
  induction l with
  | nil => intro k; exact .inl rfl
  | cons a r ih =>
    intro k
    rw [idxGo]
    split
    · right; simp; omega
    · rcases ih (k + 1) with h | h
      · exact .inl h
      · right; simp at h ⊢; omega
theorem acctAt_lt (l : List Account) (name : ByteArray) : acctAt l name = -1 ∨ (0 ≤ acctAt l name ∧ acctAt l name < l.length) := by
  unfold acctAt
  split
  · have := idxGo_lt name l 0; simpa using this
  · exact .inl rfl
set_option maxHeartbeats 1000000 in
theorem AccountAt_c (xs : List Account) (name : ByteArray) (A : Option Addr) (n c : Nat) (w : World) (h : SlAt RAccount 3 w A n xs) (hl : n ≤ maxLen) : Calls Try.prog 40 #[.slice A n c, .string name] w (Ret w (.int .i64 (acctAt xs name))) := by
  have hl' := hl
  unfold maxLen at hl
  have HN := Lib.hid h.len
  rcases Bool.eq_false_or_eq_true (acctsB xs) with hB | hB
  · rw [acctAt, if_pos hB]
    go_enter Try.func40, Try.ntmps40
    go_wp2_with ((go_at_call 12; refine (AccountsOk_c xs _ _ _ _ h hl').mono ?_; rintro e w1 ⟨rfl, hb1⟩))
    go_loopw [12] (fun i wr => ∃ k : Nat, k ≤ n ∧ i = .int .i64 k ∧ Ext w wr ∧ idxGo name xs 0 = idxGo name (xs.drop k) k) (fun i _ => n - (intOf i).toNat)
    case atStart => exact ⟨0, Nat.zero_le _, rfl, hb1, rfl⟩
    case round =>
      obtain ⟨k, hk, rfl, hb, hE⟩ := hrel
      have HE := Lib.hid hE; clear hE
      by_cases hlt : k < n
      · obtain ⟨b, o, x, cs, rfl, hbw, hx, _, hc, rfl, _⟩ := (h.ext (Flat.mono _ _) hb).at_ hlt
        have c0 := hc 0 _ rfl
        have c1 := hc 1 _ rfl
        have c2 := hc 2 _ rfl
        simp only [Nat.add_zero] at c0
        have HX := Lib.hid hx
        clear hc hx h
        rcases Bool.eq_false_or_eq_true (x.Name.toList == name.toList) with h1 | h1
        · have H1 := Lib.hid h1
          go_wp2
          rw [HE.out, drop_cons HX.out, idxGo, if_pos H1.out]
          exact ret_is (by simp [results, Try.results40, go_sem]) rfl (by repeat (first | exact Ext.refl _ | assumption | apply Ext.alloc | apply Ext.drewN | apply Ext.drew | (refine Ext.setCell ?_ (by first | (simp; done) | (simp; omega) | omega) _) | (refine Ext.trans ?_ (by assumption))))
        · have H1 := Lib.hid h1
          go_wp2
          go_roundw
          case rel => exact ⟨k + 1, by omega, by go_num, hb.alloc _, by rw [HE.out, drop_cons HX.out, idxGo, if_neg (by rw [H1.out]; simp)]⟩
          case measure => simp [intOf]; omega
      · go_wp2
        rw [HE.out, List.drop_eq_nil_of_le (by have := HN.out; omega), idxGo]
        exact ret_is (by simp [results, Try.results40, go_sem]) rfl (by repeat (first | exact Ext.refl _ | assumption | apply Ext.alloc | apply Ext.drewN | apply Ext.drew | (refine Ext.setCell ?_ (by first | (simp; done) | (simp; omega) | omega) _) | (refine Ext.trans ?_ (by assumption))))
  · rw [acctAt, if_neg (by rw [hB]; simp)]
    go_enter Try.func40, Try.ntmps40
    go_wp2_with ((go_at_call 12; refine (AccountsOk_c xs _ _ _ _ h hl').mono ?_; rintro e w1 ⟨rfl, hb1⟩))
    exact ret_is (by simp [results, Try.results40, go_sem]) rfl (by repeat (first | exact Ext.refl _ | assumption | apply Ext.alloc | apply Ext.drewN | apply Ext.drew | (refine Ext.setCell ?_ (by first | (simp; done) | (simp; omega) | omega) _) | (refine Ext.trans ?_ (by assumption))))
set_option maxHeartbeats 1000000 in
theorem sAccountAt_c (xs : List Account) (name : ByteArray) (A : Option Addr) (n c : Nat) (w : World) (h : SlAt RAccount 3 w A n xs) (hl : n ≤ maxLen) : Calls Try.prog 42 #[.slice A n c, .string name] w (Ret w (.int .i64 (acctAt xs name))) := by
  have hl' := hl
  unfold maxLen at hl
  have HN := Lib.hid h.len
  rcases Bool.eq_false_or_eq_true (acctsB xs) with hB | hB
  · rw [acctAt, if_pos hB]
    go_enter Try.func42, Try.ntmps42
    go_wp2_with ((go_at_call 46; refine (sAccountsOk_c xs _ _ _ _ h hl').mono ?_; rintro e w1 ⟨rfl, hb1⟩))
    go_loopw [12] (fun i wr => ∃ k : Nat, k ≤ n ∧ i = .int .i64 k ∧ Ext w wr ∧ idxGo name xs 0 = idxGo name (xs.drop k) k) (fun i _ => n - (intOf i).toNat)
    case atStart => exact ⟨0, Nat.zero_le _, rfl, hb1, rfl⟩
    case round =>
      obtain ⟨k, hk, rfl, hb, hE⟩ := hrel
      have HE := Lib.hid hE; clear hE
      by_cases hlt : k < n
      · obtain ⟨b, o, x, cs, rfl, hbw, hx, _, hc, rfl, _⟩ := (h.ext (Flat.mono _ _) hb).at_ hlt
        have c0 := hc 0 _ rfl
        have c1 := hc 1 _ rfl
        have c2 := hc 2 _ rfl
        simp only [Nat.add_zero] at c0
        have HX := Lib.hid hx
        clear hc hx h
        rcases Bool.eq_false_or_eq_true (x.Name.toList == name.toList) with h1 | h1
        · have H1 := Lib.hid h1
          go_wp2
          rw [HE.out, drop_cons HX.out, idxGo, if_pos H1.out]
          exact ret_is (by simp [results, Try.results42, go_sem]) rfl (by repeat (first | exact Ext.refl _ | assumption | apply Ext.alloc | apply Ext.drewN | apply Ext.drew | (refine Ext.setCell ?_ (by first | (simp; done) | (simp; omega) | omega) _) | (refine Ext.trans ?_ (by assumption))))
        · have H1 := Lib.hid h1
          go_wp2
          go_roundw
          case rel => exact ⟨k + 1, by omega, by go_num, hb.alloc _, by rw [HE.out, drop_cons HX.out, idxGo, if_neg (by rw [H1.out]; simp)]⟩
          case measure => simp [intOf]; omega
      · go_wp2
        rw [HE.out, List.drop_eq_nil_of_le (by have := HN.out; omega), idxGo]
        exact ret_is (by simp [results, Try.results42, go_sem]) rfl (by repeat (first | exact Ext.refl _ | assumption | apply Ext.alloc | apply Ext.drewN | apply Ext.drew | (refine Ext.setCell ?_ (by first | (simp; done) | (simp; omega) | omega) _) | (refine Ext.trans ?_ (by assumption))))
  · rw [acctAt, if_neg (by rw [hB]; simp)]
    go_enter Try.func42, Try.ntmps42
    go_wp2_with ((go_at_call 46; refine (sAccountsOk_c xs _ _ _ _ h hl').mono ?_; rintro e w1 ⟨rfl, hb1⟩))
    exact ret_is (by simp [results, Try.results42, go_sem]) rfl (by repeat (first | exact Ext.refl _ | assumption | apply Ext.alloc | apply Ext.drewN | apply Ext.drew | (refine Ext.setCell ?_ (by first | (simp; done) | (simp; omega) | omega) _) | (refine Ext.trans ?_ (by assumption))))
end Go.Proofs.Ytbfambeoboiifaa
