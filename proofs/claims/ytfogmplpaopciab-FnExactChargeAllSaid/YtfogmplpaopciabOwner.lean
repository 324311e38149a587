/- Contracts over owners and sums of bills. -/
import Derived.Test.YtfogmplpaopciabBills
namespace Go.Proofs.Ytfogmplpaopciab
open Go.RowKit
def ownL (l : List Owner) (id : Int) : Option Owner := l.find? (fun o => o.Id == id)
def ownV : Option Owner → Value
  | some o => .tuple #[.string o.Name, .bool true]
  | none => .tuple #[.string ByteArray.empty, .bool false]
def termI (os : List Owner) (name : ByteArray) (b : Bill) : Int := match ownL os b.Id with
  | some o => if (o.Name.toList == name.toList) = true then costI b else 0
  | none => 0
def sumI (os : List Owner) (name : ByteArray) (l : List Bill) : Int := (l.map (termI os name)).sum
def billSumI (bs : List Bill) (os : List Owner) (name : ByteArray) : Int := if billsB bs = true then sumI os name bs else 0
set_option maxHeartbeats 1000000 in
theorem ownerOf_c (xs : List Owner) (id : Int) (A : Option Addr) (n c : Nat) (w : World) (h : SlAt ROwner 2 w A n xs) (hl : n ≤ maxLen) : Calls Try.prog 62 #[.slice A n c, .int .i64 id] w (Ret w (ownV (ownL xs id))) := by
  unfold maxLen at hl
  have HN := Lib.hid h.len
  go_enter Try.func62, Try.ntmps62
  go_wp2
  go_loopw [10] (fun i wr => ∃ k : Nat, k ≤ n ∧ i = .int .i64 k ∧ Ext w wr ∧ ownL xs id = ownL (xs.drop k) id) (fun i _ => n - (intOf i).toNat)
  case atStart => exact ⟨0, Nat.zero_le _, rfl, Ext.refl _, rfl⟩
  case round =>
    obtain ⟨k, hk, rfl, hb, hE⟩ := hrel
    have HE := Lib.hid hE; clear hE
    by_cases hlt : k < n
    · obtain ⟨b, o, x, cs, rfl, hbw, hx, _, hc, rfl, _⟩ := (h.ext (Flat.mono _ _) hb).at_ hlt
      have c0 := hc 0 _ rfl
      have c1 := hc 1 _ rfl
      simp only [Nat.add_zero] at c0
      have HX := Lib.hid hx
      clear hc hx h
      rcases Bool.eq_false_or_eq_true (x.Id == id) with h1 | h1
      · have H1 := Lib.hid (show ownV (ownL xs id) = .tuple #[.string x.Name, .bool true] by rw [HE.out, drop_cons HX.out]; simp only [ownL, List.find?_cons, h1]; rfl)
        rw [H1.out]
        go_wp2
        exact ret_is (by simp [results, Try.results62, go_sem]) rfl (hb.alloc _)
      · have H1 := Lib.hid (show ownL (xs.drop k) id = ownL (xs.drop (k + 1)) id by rw [drop_cons HX.out]; simp only [ownL, List.find?_cons, h1])
        go_wp2
        go_roundw
        case rel => exact ⟨k + 1, by omega, by go_num, hb.alloc _, by rw [HE.out, H1.out]⟩
        case measure => simp [intOf]; omega
    · have H1 := Lib.hid (show ownV (ownL xs id) = .tuple #[.string ByteArray.empty, .bool false] by rw [HE.out, List.drop_eq_nil_of_le (by have := HN.out; omega)]; rfl)
      rw [H1.out]
      go_wp2
      exact ret_is (by rw [H1.out]; simp [results, Try.results62, go_sem] <;> rfl) rfl hb
set_option maxHeartbeats 1000000 in
theorem sOwnerOf_c (xs : List Owner) (id : Int) (A : Option Addr) (n c : Nat) (w : World) (h : SlAt ROwner 2 w A n xs) (hl : n ≤ maxLen) : Calls Try.prog 57 #[.slice A n c, .int .i64 id] w (Ret w (ownV (ownL xs id))) := by
  unfold maxLen at hl
  have HN := Lib.hid h.len
  go_enter Try.func57, Try.ntmps57
  go_wp2
  go_loopw [10] (fun i wr => ∃ k : Nat, k ≤ n ∧ i = .int .i64 k ∧ Ext w wr ∧ ownL xs id = ownL (xs.drop k) id) (fun i _ => n - (intOf i).toNat)
  case atStart => exact ⟨0, Nat.zero_le _, rfl, Ext.refl _, rfl⟩
  case round =>
    obtain ⟨k, hk, rfl, hb, hE⟩ := hrel
    have HE := Lib.hid hE; clear hE
    by_cases hlt : k < n
    · obtain ⟨b, o, x, cs, rfl, hbw, hx, _, hc, rfl, _⟩ := (h.ext (Flat.mono _ _) hb).at_ hlt
      have c0 := hc 0 _ rfl
      have c1 := hc 1 _ rfl
      simp only [Nat.add_zero] at c0
      have HX := Lib.hid hx
      clear hc hx h
      rcases Bool.eq_false_or_eq_true (x.Id == id) with h1 | h1
      · have H1 := Lib.hid (show ownV (ownL xs id) = .tuple #[.string x.Name, .bool true] by rw [HE.out, drop_cons HX.out]; simp only [ownL, List.find?_cons, h1]; rfl)
        rw [H1.out]
        go_wp2
        exact ret_is (by simp [results, Try.results57, go_sem]) rfl (hb.alloc _)
      · have H1 := Lib.hid (show ownL (xs.drop k) id = ownL (xs.drop (k + 1)) id by rw [drop_cons HX.out]; simp only [ownL, List.find?_cons, h1])
        go_wp2
        go_roundw
        case rel => exact ⟨k + 1, by omega, by go_num, hb.alloc _, by rw [HE.out, H1.out]⟩
        case measure => simp [intOf]; omega
    · have H1 := Lib.hid (show ownV (ownL xs id) = .tuple #[.string ByteArray.empty, .bool false] by rw [HE.out, List.drop_eq_nil_of_le (by have := HN.out; omega)]; rfl)
      rw [H1.out]
      go_wp2
      exact ret_is (by rw [H1.out]; simp [results, Try.results57, go_sem] <;> rfl) rfl hb
theorem termI_bounds (os : List Owner) (name : ByteArray) {b : Bill} (h : billB b = true) : 0 ≤ termI os name b ∧ termI os name b ≤ 24000000000000000 := by
  have := costI_range h
  unfold termI; split
  · split <;> omega
  · omega
theorem sumI_bounds (os : List Owner) (name : ByteArray) : ∀ l : List Bill, (∀ b ∈ l, billB b = true) → 0 ≤ sumI os name l ∧ sumI os name l ≤ l.length * 24000000000000000 := by
  intro l
  induction l with
  | nil => intro _; simp [sumI]
  | cons b r ih =>
    intro h
    have h1 := termI_bounds os name (h b (by simp))
    have h2 := ih (fun y hy => h y (by simp [hy]))
    simp only [sumI, List.map_cons, List.sum_cons, List.length_cons] at *
    omega
theorem sumI_succ {os : List Owner} {name : ByteArray} {l : List Bill} {k : Nat} {x : Bill} (hx : l[k]? = some x) : sumI os name (l.take (k + 1)) = sumI os name (l.take k) + termI os name x := by
  unfold sumI; rw [take_succ hx]; simp
theorem billsB_all {l : List Bill} (h : billsB l = true) : (∀ b ∈ l, billB b = true) ∧ l.length ≤ 300 := by
  unfold billsB at h
  rw [Bool.and_eq_true, decide_eq_true_iff, List.all_eq_true] at h
  exact h
set_option maxHeartbeats 4000000 in
theorem BillSum_c (xs : List Bill) (os : List Owner) (name : ByteArray) (A : Option Addr) (n c : Nat) (A2 : Option Addr) (n2 c2 : Nat) (w : World) (h : SlAt RBill 7 w A n xs) (hl : n ≤ maxLen) (h2 : SlAt ROwner 2 w A2 n2 os) (hl2 : n2 ≤ maxLen) : Calls Try.prog 30 #[.slice A n c, .slice A2 n2 c2, .string name] w (Ret w (.int .i64 (billSumI xs os name))) := by
  have hl' := hl
  unfold maxLen at hl
  have HN := Lib.hid h.len
  have hM := Flat.mono Bill.enc Bill.ok
  have hM2 := Flat.mono Owner.enc Owner.ok
  rcases Bool.eq_false_or_eq_true (billsB xs) with hB | hB
  · obtain ⟨hall, hlen⟩ := billsB_all hB
    have hn3 : n ≤ 300 := by rw [← HN.out]; exact hlen
    have HB := Lib.hid hall
    rw [billSumI, if_pos hB]
    clear hall hlen
    go_enter Try.func30, Try.ntmps30
    go_wp2_with ((go_at_call 61; refine (BillsOk_c xs _ _ _ _ h hl').mono ?_; rintro e w1 ⟨rfl, hb1⟩))
    go_loopw [7, 17] (fun v i wr => ∃ k : Nat, k ≤ n ∧ i = .int .i64 k ∧ v = .int .i64 (sumI os name (xs.take k)) ∧ Ext w wr) (fun _ i _ => n - (intOf i).toNat)
    case atStart => exact ⟨0, Nat.zero_le _, rfl, by simp [sumI], hb1⟩
    case round =>
      obtain ⟨k, hk, rfl, rfl, hb⟩ := hrel
      by_cases hlt : k < n
      · obtain ⟨b, o, x, cs, rfl, hbw, hx, _, hc, rfl, _⟩ := (h.ext hM hb).at_ hlt
        have f0 := hc 0 _ rfl
        have f1 := hc 1 _ rfl
        have f2 := hc 2 _ rfl
        have f3 := hc 3 _ rfl
        have f4 := hc 4 _ rfl
        have f5 := hc 5 _ rfl
        have f6 := hc 6 _ rfl
        simp only [Nat.add_zero] at f0
        have hxb := HB.out x (List.mem_of_getElem? hx)
        obtain ⟨t0, t1⟩ := termI_bounds os name hxb
        obtain ⟨s0, s1⟩ := sumI_bounds os name (xs.take k) (fun y hy => HB.out y (List.mem_of_mem_take hy))
        have hkl : (xs.take k).length ≤ 300 := by rw [List.length_take]; omega
        have s2 : sumI os name (xs.take k) ≤ 300 * 24000000000000000 := by omega
        have HS := Lib.hid (sumI_succ (os := os) (name := name) hx)
        have hown := fun (u : World) (e : Ext w u) => ownerOf_c os x.Id A2 n2 c2 u (h2.ext hM2 e) hl2
        clear hc hx s1 hkl
        rcases hO : ownL os x.Id with _ | q
        · have hT : termI os name x = 0 := by unfold termI; rw [hO]
          have HT := Lib.hid hT
          simp only [hO, ownV] at hown
          clear hO hT
          go_wp2_with ((go_at_call 62; refine (hown _ (hb.alloc _)).mono ?_; rintro e w2 ⟨rfl, hb2⟩))
          go_roundw
          case rel => exact ⟨k + 1, by omega, by go_num, by rw [HS.out, HT.out, Int.add_zero], (hb.alloc _).trans hb2⟩
          case measure => simp [intOf]; omega
        · simp only [hO, ownV] at hown
          rcases Bool.eq_false_or_eq_true (q.Name.toList == name.toList) with h1 | h1
          · have HT := Lib.hid (show termI os name x = costI x by unfold termI; rw [hO]; simp only [h1, if_true])
            rw [HT.out] at t0 t1
            clear hO
            go_wp2_with (first | (go_at_call 62; (with_reducible refine (hown _ (hb.alloc _)).mono ?_); rintro e w1 ⟨rfl, hb1⟩; obtain ⟨hcr1, hfr1, hz1⟩ := hb1.rules; (try simp at hz1); (try have hy1a := Nat.lt_of_succ_le hz1); (try have hy1b := Nat.lt_of_succ_lt hy1a); (try have hy1c := Nat.lt_of_succ_lt hy1b); (try have hy1d := Nat.lt_of_succ_lt hy1c)) | (go_at_call 63; (with_reducible refine (Cost_c x _).mono ?_); rintro e w2 ⟨rfl, hb2⟩; obtain ⟨hcr2, hfr2, hz2⟩ := hb2.rules; (try simp at hz2); (try have hy2a := Nat.lt_of_succ_le hz2); (try have hy2b := Nat.lt_of_succ_lt hy2a); (try have hy2c := Nat.lt_of_succ_lt hy2b); (try have hy2d := Nat.lt_of_succ_lt hy2c)))
            go_roundw
            case rel => exact ⟨k + 1, by omega, by go_num, by rw [HS.out, HT.out] <;> go_num, (hb.alloc _).trans (hb1.trans hb2)⟩
            case measure => simp [intOf]; omega
          · have HT := Lib.hid (show termI os name x = 0 by unfold termI; rw [hO]; simp only [h1, Bool.false_eq_true, if_false])
            clear hO
            go_wp2_with ((go_at_call 62; refine (hown _ (hb.alloc _)).mono ?_; rintro e w2 ⟨rfl, hb2⟩))
            go_roundw
            case rel => exact ⟨k + 1, by omega, by go_num, by rw [HS.out, HT.out, Int.add_zero], (hb.alloc _).trans hb2⟩
            case measure => simp [intOf]; omega
      · have hkn : xs.take k = xs := List.take_of_length_le (by have := HN.out; omega)
        rw [hkn]
        go_wp2
        exact ret_is (by simp [results, Try.results30, go_sem]) rfl hb
  · rw [billSumI, if_neg (by rw [hB]; simp)]
    go_enter Try.func30, Try.ntmps30
    go_wp2_with ((go_at_call 61; refine (BillsOk_c xs _ _ _ _ h hl').mono ?_; rintro e w1 ⟨rfl, hb1⟩))
    exact ret_is (by simp [results, Try.results30, go_sem]) rfl hb1
set_option maxHeartbeats 4000000 in
theorem sBillSum_c (xs : List Bill) (os : List Owner) (name : ByteArray) (A : Option Addr) (n c : Nat) (A2 : Option Addr) (n2 c2 : Nat) (w : World) (h : SlAt RBill 7 w A n xs) (hl : n ≤ maxLen) (h2 : SlAt ROwner 2 w A2 n2 os) (hl2 : n2 ≤ maxLen) : Calls Try.prog 27 #[.slice A n c, .slice A2 n2 c2, .string name] w (Ret w (.int .i64 (billSumI xs os name))) := by
  have hl' := hl
  unfold maxLen at hl
  have HN := Lib.hid h.len
  have hM := Flat.mono Bill.enc Bill.ok
  have hM2 := Flat.mono Owner.enc Owner.ok
  rcases Bool.eq_false_or_eq_true (billsB xs) with hB | hB
  · obtain ⟨hall, hlen⟩ := billsB_all hB
    have hn3 : n ≤ 300 := by rw [← HN.out]; exact hlen
    have HB := Lib.hid hall
    rw [billSumI, if_pos hB]
    clear hall hlen
    go_enter Try.func27, Try.ntmps27
    go_wp2_with ((go_at_call 56; refine (sBillsOk_c xs _ _ _ _ h hl').mono ?_; rintro e w1 ⟨rfl, hb1⟩))
    go_loopw [7, 18] (fun v i wr => ∃ k : Nat, k ≤ n ∧ i = .int .i64 k ∧ v = .int .i64 (sumI os name (xs.take k)) ∧ Ext w wr) (fun _ i _ => n - (intOf i).toNat)
    case atStart => exact ⟨0, Nat.zero_le _, rfl, by simp [sumI], hb1⟩
    case round =>
      obtain ⟨k, hk, rfl, rfl, hb⟩ := hrel
      by_cases hlt : k < n
      · obtain ⟨b, o, x, cs, rfl, hbw, hx, _, hc, rfl, _⟩ := (h.ext hM hb).at_ hlt
        have f0 := hc 0 _ rfl
        have f1 := hc 1 _ rfl
        have f2 := hc 2 _ rfl
        have f3 := hc 3 _ rfl
        have f4 := hc 4 _ rfl
        have f5 := hc 5 _ rfl
        have f6 := hc 6 _ rfl
        simp only [Nat.add_zero] at f0
        have hxb := HB.out x (List.mem_of_getElem? hx)
        obtain ⟨t0, t1⟩ := termI_bounds os name hxb
        obtain ⟨s0, s1⟩ := sumI_bounds os name (xs.take k) (fun y hy => HB.out y (List.mem_of_mem_take hy))
        have hkl : (xs.take k).length ≤ 300 := by rw [List.length_take]; omega
        have s2 : sumI os name (xs.take k) ≤ 300 * 24000000000000000 := by omega
        have HS := Lib.hid (sumI_succ (os := os) (name := name) hx)
        have hown := fun (u : World) (e : Ext w u) => sOwnerOf_c os x.Id A2 n2 c2 u (h2.ext hM2 e) hl2
        clear hc hx s1 hkl
        rcases hO : ownL os x.Id with _ | q
        · have hT : termI os name x = 0 := by unfold termI; rw [hO]
          have HT := Lib.hid hT
          simp only [hO, ownV] at hown
          clear hO hT
          go_wp2_with ((go_at_call 57; refine (hown _ (hb.alloc _)).mono ?_; rintro e w2 ⟨rfl, hb2⟩))
          go_roundw
          case rel => exact ⟨k + 1, by omega, by go_num, by rw [HS.out, HT.out, Int.add_zero], (hb.alloc _).trans hb2⟩
          case measure => simp [intOf]; omega
        · simp only [hO, ownV] at hown
          rcases Bool.eq_false_or_eq_true (q.Name.toList == name.toList) with h1 | h1
          · have HT := Lib.hid (show termI os name x = costI x by unfold termI; rw [hO]; simp only [h1, if_true])
            rw [HT.out] at t0 t1
            clear hO
            go_wp2_with (first | (go_at_call 57; (with_reducible refine (hown _ (hb.alloc _)).mono ?_); rintro e w1 ⟨rfl, hb1⟩; obtain ⟨hcr1, hfr1, hz1⟩ := hb1.rules; (try simp at hz1); (try have hy1a := Nat.lt_of_succ_le hz1); (try have hy1b := Nat.lt_of_succ_lt hy1a); (try have hy1c := Nat.lt_of_succ_lt hy1b); (try have hy1d := Nat.lt_of_succ_lt hy1c)) | (go_at_call 58; (with_reducible refine (sCost_c x _).mono ?_); rintro e w2 ⟨rfl, hb2⟩; obtain ⟨hcr2, hfr2, hz2⟩ := hb2.rules; (try simp at hz2); (try have hy2a := Nat.lt_of_succ_le hz2); (try have hy2b := Nat.lt_of_succ_lt hy2a); (try have hy2c := Nat.lt_of_succ_lt hy2b); (try have hy2d := Nat.lt_of_succ_lt hy2c)))
            go_roundw
            case rel => exact ⟨k + 1, by omega, by go_num, by rw [HS.out, HT.out] <;> go_num, (hb.alloc _).trans (hb1.trans hb2)⟩
            case measure => simp [intOf]; omega
          · have HT := Lib.hid (show termI os name x = 0 by unfold termI; rw [hO]; simp only [h1, Bool.false_eq_true, if_false])
            clear hO
            go_wp2_with ((go_at_call 57; refine (hown _ (hb.alloc _)).mono ?_; rintro e w2 ⟨rfl, hb2⟩))
            go_roundw
            case rel => exact ⟨k + 1, by omega, by go_num, by rw [HS.out, HT.out, Int.add_zero], (hb.alloc _).trans hb2⟩
            case measure => simp [intOf]; omega
      · have hkn : xs.take k = xs := List.take_of_length_le (by have := HN.out; omega)
        rw [hkn]
        go_wp2
        exact ret_is (by simp [results, Try.results27, go_sem]) rfl hb
  · rw [billSumI, if_neg (by rw [hB]; simp)]
    go_enter Try.func27, Try.ntmps27
    go_wp2_with ((go_at_call 56; refine (sBillsOk_c xs _ _ _ _ h hl').mono ?_; rintro e w1 ⟨rfl, hb1⟩))
    exact ret_is (by simp [results, Try.results27, go_sem]) rfl hb1
end Go.Proofs.Ytfogmplpaopciab
