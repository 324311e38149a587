/- Contracts over lists of accounts: halving, charging. -/
import Derived.Test.YtbfambeoboiifaaAcct2
namespace Go.Proofs.Ytbfambeoboiifaa
open Go.RowKit
theorem chainGo_all {α : Type} {ok : α → Bool} {lt : α → α → Bool} (l : List α) : ∀ p : Option α, chainGo ok lt p l = true → ∀ x ∈ l, ok x = true := by
  induction l with
  | nil => intro p _ x hx; cases hx
  | cons a r ih =>
    intro p h x hx
    have h' : ok a = true ∧ chainGo ok lt (some a) r = true := by
      cases p <;> simp [chainGo] at h
      · exact h
      · exact ⟨h.1.1, h.2⟩
    rcases List.mem_cons.1 hx with rfl | hx
    · exact h'.1
    · exact ih _ h'.2 x hx
theorem acctsB_ok {l : List Account} (h : acctsB l = true) : ∀ a ∈ l, 1 ≤ a.Share ∧ a.Share ≤ 1000 ∧ 0 ≤ a.Used ∧ a.Used ≤ 1000000000 := by
  intro a ha
  unfold acctsB at h
  rw [Bool.and_eq_true] at h
  have := chainGo_all l none h.1 a ha
  unfold acctOkB shareB usedB at this
  simp only [Bool.and_eq_true, decide_eq_true_eq] at this
  omega
theorem acctsB_len {l : List Account} (h : acctsB l = true) : l.length ≤ 12 := by
  unfold acctsB at h
  rw [Bool.and_eq_true, decide_eq_true_iff] at h
  exact h.2
def half (a : Account) : Account := { a with Used := a.Used / 2 }
def fadeL (l : List Account) : List Account := if acctsB l = true then l.map half else []
theorem half_ok {a : Account} (h : a.ok) (h0 : 0 ≤ a.Used) : (half a).ok := by
  unfold Account.ok In64 at *; simp only [half]; omega
theorem Account.one (y : Account) : ∀ u ∈ y.enc, u.oneCell' = true := by
  intro u hu; simp [Account.enc] at hu; obtain rfl | rfl | rfl := hu <;> rfl
theorem Account.info : (Try.prog.info? 30).map (fun i => (i.zero, i.size, i.bytes)) = some (some (.agg #[.string ByteArray.empty, .int .i64 0, .int .i64 0]), 3, 32) := by kernel_rfl
set_option maxHeartbeats 2000000 in
theorem Fade_c (xs : List Account) (A : Option Addr) (n c : Nat) (w : World) (h : SlAt RAccount 3 w A n xs) (hl : n ≤ maxLen) : Calls Try.prog 11 #[.slice A n c] w (RetOwn RAccount 30 3 w (fadeL xs)) := by
  have hl' := hl
  unfold maxLen at hl
  have HN := Lib.hid h.len
  have hM := Flat.mono Account.enc Account.ok
  obtain ⟨i0, hi, hz0, hz1, hz2⟩ := info_parts Account.info
  rcases Bool.eq_false_or_eq_true (acctsB xs) with hB | hB
  · have hn12 : n ≤ 12 := by have := acctsB_len hB; rw [HN.out] at this; exact this
    rw [fadeL, if_pos hB]
    have HB := Lib.hid (acctsB_ok hB)
    go_enter Try.func11, Try.ntmps11
    go_wp2_with (first | (go_at_call 12; refine (AccountsOk_c xs _ _ _ _ h hl').mono ?_; rintro e w1 ⟨rfl, hb1⟩) | (at_builtin; refine wpList_append_list _ (.tmp 8) _ w.heap.size 30 i0 _ 3 32 (.slice none 0 0) 0 [] A n c xs rfl rfl Try.underlying23 hi hz0 hz1 hz2 rfl (by omega) rfl (World.ownsRow_nil _ _ _ _) rfl (h.ext hM hb1) Account.size Account.one (by unfold maxLen; omega) (by omega) hb1 (Nat.le_refl _) hb1.le ?_; intro A1 c1 w2 ho2 hb2 hs2; simp only [Nat.zero_add, List.nil_append] at ho2; simp only [Nat.zero_add]))
    clear hi hz0 hz1 hz2
    go_loopw [12] (fun i wr => ∃ k : Nat, k ≤ n ∧ i = .int .i64 k ∧ wr.ownsRow w.heap.size 30 3 (.slice A1 n c1) n (((xs.take k).map half ++ xs.drop k).flatMap Account.enc) ∧ Ext w wr) (fun i _ => n - (intOf i).toNat)
    case atStart => exact ⟨0, Nat.zero_le _, rfl, by simpa using ho2, hb2⟩
    case round =>
      obtain ⟨k, hk, rfl, ho, hb⟩ := hrel
      clear ho2
      by_cases hlt : k < n
      · obtain ⟨g, cap, e1, hg1, hg2⟩ := own_form ho (by omega)
        injection e1 with e1 _ e3
        subst e1 e3
        obtain ⟨x, hx⟩ : ∃ x, xs[k]? = some x := ⟨_, List.getElem?_eq_getElem (by have := HN.out; omega)⟩
        have hux := HB.out x (List.mem_of_getElem? hx)
        have hpre : ((xs.take k).map half).length = k := by rw [List.length_map, List.length_take, HN.out]; omega
        have hgx : ((xs.take k).map half ++ xs.drop k)[k]? = some x := by rw [List.getElem?_append_right (by omega), hpre, Nat.sub_self, List.getElem?_drop]; simpa using hx
        have c2 : wr.cell? ⟨g, k * 3 + 2, none⟩ = some (.int .i64 x.Used) := by rw [ho.cellAt _ (by omega), flatMap_get Account.size (by omega) hgx]; rfl
        have z2 := ho.frozenAt (k * 3 + 2)
        have hu0 : 0 ≤ x.Used := hux.2.2.1
        have hu1 : x.Used ≤ 1000000000 := hux.2.2.2
        have hst := flatMap_set (u := .int .i64 (x.Used / 2)) Account.size (show 2 < 3 by omega) (show (half x).enc = x.enc.set 2 (.int .i64 (x.Used / 2)) from rfl) (xs.drop (k + 1)) ((xs.take k).map half)
        rw [← drop_cons hx, hpre] at hst
        have hnx : (xs.take (k + 1)).map half ++ xs.drop (k + 1) = (xs.take k).map half ++ half x :: xs.drop (k + 1) := by rw [take_succ hx]; simp
        have HST := Lib.hid hst; have HNX := Lib.hid hnx; have HO := Lib.hid ho
        clear hst hnx ho hgx hpre hux hx h
        go_wp2
        go_roundw
        case rel => exact ⟨k + 1, by omega, by go_num, by rw [HNX.out, ← HST.out]; exact (HO.out.stored _ _).1, Ext.setCell hb hg1 _⟩
        case measure => simp [intOf]; omega
      · have HO := Lib.hid ho
        clear ho
        go_wp2
        have hkn : k = n := by omega
        have ho := HO.out
        rw [List.drop_eq_nil_of_le (by have := HN.out; omega), List.append_nil, List.take_of_length_le (by have := HN.out; omega)] at ho
        exact ret_own2 rfl ho (by rw [List.length_map]; exact HN.out) Account.size (fun y hy => by obtain ⟨x, hx, rfl⟩ := List.mem_map.1 hy; exact half_ok (h.all x hx) (HB.out x hx).2.2.1) hb
  · rw [fadeL, if_neg (by rw [hB]; simp)]
    go_enter Try.func11, Try.ntmps11
    go_wp2_with ((go_at_call 12; refine (AccountsOk_c xs _ _ _ _ h hl').mono ?_; rintro e w1 ⟨rfl, hb1⟩))
    exact ret_own2 (ys := []) rfl (World.ownsRow_nil _ _ _ _) rfl Account.size (fun y hy => by cases hy) hb1
end Go.Proofs.Ytbfambeoboiifaa
