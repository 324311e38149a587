/- Contracts: the k-th least of a list; the reference's way, and plain words. -/
import Derived.Test.YtdnbjmfngmahkaaMean
namespace Go.Proofs.Ytdnbjmfngmahkaa
open Go.RowKit
set_option linter.unusedVariables false
def leI (x y : Int) : Bool := decide (x ≤ y)
def lessN (l : List Int) (n : Int) : Nat := l.countP (fun m => decide (m < n))
def sameN (l : List Int) (n : Int) : Nat := l.countP (fun m => decide (m = n))
def hitB (l : List Int) (k : Int) (n : Int) : Bool := decide ((lessN l n : Int) < k) && decide (k ≤ lessN l n + sameN l n)
def quantI (l : List Int) (k : Int) : Int := if timesB l = true ∧ withinB k 1 l.length = true then (l.mergeSort leI).getD (k - 1).toNat 0 else -1
theorem sort_pair (l : List Int) : (l.mergeSort leI).Pairwise (fun a b => a ≤ b) := by
  have h := List.pairwise_mergeSort (le := leI) (fun a b c h1 h2 => by unfold leI at *; rw [decide_eq_true_iff] at *; omega) (fun a b => by unfold leI; simp; omega) l
  exact h.imp (fun h => by unfold leI at h; rwa [decide_eq_true_iff] at h)
theorem sort_perm (l : List Int) : (l.mergeSort leI).Perm l := List.mergeSort_perm l leI
theorem less_at {s : List Int} (hs : s.Pairwise (fun a b => a ≤ b)) {i : Nat} (hi : i < s.length) : s.countP (fun m => decide (m < s[i])) ≤ i := by
  have e : s.countP (fun m => decide (m < s[i])) = (s.take i).countP (fun m => decide (m < s[i])) + (s.drop i).countP (fun m => decide (m < s[i])) := by
    rw [← List.countP_append, List.take_append_drop]
  have h0 : (s.drop i).countP (fun m => decide (m < s[i])) = 0 := by
    rw [List.countP_eq_zero]
    intro m hm
    obtain ⟨j, hj, rfl⟩ := List.getElem_of_mem hm
    rw [List.getElem_drop]
    rw [List.length_drop] at hj
    have : s[i] ≤ s[i + j]'(by omega) := by
      rcases Nat.eq_zero_or_pos j with rfl | h
      · simp
      · exact List.pairwise_iff_getElem.1 hs i (i + j) hi (by omega) (by omega)
    simp; omega
  have h1 := List.countP_le_length (p := fun m => decide (m < s[i])) (l := s.take i)
  rw [List.length_take] at h1
  omega
theorem le_at {s : List Int} (hs : s.Pairwise (fun a b => a ≤ b)) {i : Nat} (hi : i < s.length) : i + 1 ≤ s.countP (fun m => decide (m ≤ s[i])) := by
  have e : s.countP (fun m => decide (m ≤ s[i])) = (s.take (i + 1)).countP (fun m => decide (m ≤ s[i])) + (s.drop (i + 1)).countP (fun m => decide (m ≤ s[i])) := by
    rw [← List.countP_append, List.take_append_drop]
  have h0 : (s.take (i + 1)).countP (fun m => decide (m ≤ s[i])) = (s.take (i + 1)).length := by
    rw [List.countP_eq_length]
    intro m hm
    obtain ⟨j, hj, rfl⟩ := List.getElem_of_mem hm
    rw [List.getElem_take]
    rw [List.length_take] at hj
    have : s[j]'(by omega) ≤ s[i] := by
      rcases Nat.lt_or_ge j i with h | h
      · exact List.pairwise_iff_getElem.1 hs j i (by omega) hi h
      · have : j = i := by omega
        subst this; exact Int.le_refl _
    simpa using this
  rw [List.length_take] at h0
  omega
theorem le_split (l : List Int) (n : Int) : l.countP (fun m => decide (m ≤ n)) = lessN l n + sameN l n := by
  unfold lessN sameN
  induction l with
  | nil => rfl
  | cons a r ih =>
    simp only [List.countP_cons, ih]
    by_cases h1 : a < n
    · have h2 : a ≤ n := by omega
      have h3 : ¬ a = n := by omega
      simp [h1, h2, h3]; omega
    · by_cases h3 : a = n
      · simp [h3]; omega
      · have h2 : ¬ a ≤ n := by omega
        simp [h1, h2, h3]
theorem cnt_mono (l : List Int) {p q : Int → Bool} (h : ∀ m, p m = true → q m = true) : l.countP p ≤ l.countP q := List.countP_mono_left (fun m _ => h m)
theorem hit_unique {l : List Int} {k : Int} {n : Int} (hk : withinB k 1 l.length = true) (h : hitB l k n = true) : n = (l.mergeSort leI).getD (k - 1).toNat 0 := by
  unfold withinB at hk; rw [decide_eq_true_iff] at hk
  unfold hitB at h; rw [Bool.and_eq_true, decide_eq_true_iff, decide_eq_true_iff] at h
  have hl : (l.mergeSort leI).length = l.length := (sort_perm l).length_eq
  have hi : (k - 1).toNat < (l.mergeSort leI).length := by omega
  rw [List.getD_eq_getElem?_getD, List.getElem?_eq_getElem hi, Option.getD_some]
  have h1 := less_at (sort_pair l) hi
  have h2 := le_at (sort_pair l) hi
  generalize (l.mergeSort leI)[(k - 1).toNat] = v at *
  rw [(sort_perm l).countP_eq] at h1 h2
  rw [le_split] at h2
  rcases Int.lt_trichotomy n v with hlt | rfl | hgt
  · have h3 : l.countP (fun m => decide (m ≤ n)) ≤ l.countP (fun m => decide (m < v)) := cnt_mono l (fun m hm => by rw [decide_eq_true_iff] at *; omega)
    rw [le_split] at h3; omega
  · rfl
  · have h3 : l.countP (fun m => decide (m ≤ v)) ≤ l.countP (fun m => decide (m < n)) := cnt_mono l (fun m hm => by rw [decide_eq_true_iff] at *; omega)
    rw [le_split] at h3; unfold lessN sameN at *; omega
theorem hit_sorted {l : List Int} {k : Int} (hk : withinB k 1 l.length = true) : (l.mergeSort leI).getD (k - 1).toNat 0 ∈ l ∧ hitB l k ((l.mergeSort leI).getD (k - 1).toNat 0) = true := by
  unfold withinB at hk; rw [decide_eq_true_iff] at hk
  have hl : (l.mergeSort leI).length = l.length := (sort_perm l).length_eq
  have hi : (k - 1).toNat < (l.mergeSort leI).length := by omega
  rw [List.getD_eq_getElem?_getD, List.getElem?_eq_getElem hi, Option.getD_some]
  refine ⟨(sort_perm l).mem_iff.1 (List.getElem_mem hi), ?_⟩
  have h1 := less_at (sort_pair l) hi
  have h2 := le_at (sort_pair l) hi
  generalize (l.mergeSort leI)[(k - 1).toNat] = v at *
  rw [(sort_perm l).countP_eq] at h1 h2
  rw [le_split] at h2
  unfold hitB; rw [Bool.and_eq_true, decide_eq_true_iff, decide_eq_true_iff]
  unfold lessN sameN at *
  omega
theorem quant_find {l : List Int} {k : Int} (hT : timesB l = true) (hk : withinB k 1 l.length = true) : quantI l k = (l.find? (hitB l k)).getD (-1) := by
  unfold quantI; rw [if_pos ⟨hT, hk⟩]
  obtain ⟨h1, h2⟩ := hit_sorted hk
  cases hf : l.find? (hitB l k) with
  | none => exact absurd h2 (by have := List.find?_eq_none.1 hf _ h1; simpa using this)
  | some n => exact (hit_unique hk (List.find?_some hf)).symm
theorem less_succ {l : List Int} {j : Nat} {m n : Int} (h : l[j]? = some m) : lessN (l.take (j + 1)) n = lessN (l.take j) n + (if m < n then 1 else 0) := by
  unfold lessN; rw [take_succ h, List.countP_append]; simp [List.countP_cons]
theorem same_succ {l : List Int} {j : Nat} {m n : Int} (h : l[j]? = some m) : sameN (l.take (j + 1)) n = sameN (l.take j) n + (if m = n then 1 else 0) := by
  unfold sameN; rw [take_succ h, List.countP_append]; simp [List.countP_cons]
theorem find_hit {l : List Int} {k : Int} {q : Nat} {n : Int} (h : l[q]? = some n) : ((l.drop q).find? (hitB l k)).getD (-1) = if hitB l k n = true then n else ((l.drop (q + 1)).find? (hitB l k)).getD (-1) := by
  rw [drop_cons h, List.find?_cons]; split <;> rename_i hh <;> simp [hh]
set_option maxHeartbeats 4000000 in
set_option maxRecDepth 4000 in
theorem sQuantile_c (xs : List Int) (k : Int) (A : Option Addr) (n c : Nat) (w : World) (h : SlAt RInt 1 w A n xs) (hl : n ≤ maxLen) : Calls Try.prog 6 #[.slice A n c, .int .i64 k] w (Ret w (.int .i64 (quantI xs k))) := by
  have hl' := hl
  unfold maxLen at hl
  have HN := Lib.hid h.len
  have HT := Lib.hid (l16List_c xs A n c w h hl')
  rcases (Bool.eq_false_or_eq_true (timesB xs)).symm with h1 | h1
  · have HF := Lib.hid (show quantI xs k = -1 by unfold quantI; rw [h1]; simp)
    rw [h1] at HT
    clear h1
    go_enter Try.func6, Try.ntmps6
    go_wp2_with fail
    refine (HT.out).mono ?_
    rintro e w1 ⟨rfl, rfl⟩
    go_wp2
    exact ret_int rfl rfl rfl HF.out.symm (Ext.refl _)
  by_cases g1 : k < 1
  · have HF := Lib.hid (show quantI xs k = -1 by unfold quantI withinB; rw [if_neg]; rintro ⟨_, h⟩; rw [decide_eq_true_iff] at h; omega)
    rw [h1] at HT
    clear h1
    go_enter Try.func6, Try.ntmps6
    go_wp2_with fail
    refine (HT.out).mono ?_
    rintro e w1 ⟨rfl, rfl⟩
    go_wp2
    exact ret_int rfl rfl rfl HF.out.symm (Ext.refl _)
  by_cases g2 : (n : Int) < k
  · have HF := Lib.hid (show quantI xs k = -1 by unfold quantI withinB; rw [if_neg]; rintro ⟨_, h⟩; rw [decide_eq_true_iff, HN.out] at h; omega)
    rw [h1] at HT
    clear h1
    go_enter Try.func6, Try.ntmps6
    go_wp2_with fail
    refine (HT.out).mono ?_
    rintro e w1 ⟨rfl, rfl⟩
    go_wp2
    exact ret_int rfl rfl rfl HF.out.symm (Ext.refl _)
  have hn1 : n ≤ 1000 := by unfold timesB at h1; rw [Bool.and_eq_true, decide_eq_true_iff, HN.out] at h1; exact h1.2
  have HQ := Lib.hid (quant_find h1 (k := k) (by unfold withinB; rw [decide_eq_true_iff, HN.out]; omega))
  rw [h1] at HT
  clear h1
  go_enter Try.func6, Try.ntmps6
  go_wp2_with fail
  refine (HT.out).mono ?_
  rintro e w1 ⟨rfl, rfl⟩
  go_wp2
  go_loop [26] (fun i => ∃ q : Nat, q ≤ n ∧ i = .int .i64 q ∧ Hid (quantI xs k = ((xs.drop q).find? (hitB xs k)).getD (-1))) (fun i => n - (intOf i).toNat)
  case atStart => exact ⟨0, Nat.zero_le _, rfl, Lib.hid HQ.out⟩
  case round =>
    obtain ⟨q, hq, rfl, HE⟩ := hrel
    by_cases hlt : q < n
    · obtain ⟨b, o, x, cs, rfl, hbw, hx, _, hc, rfl, _⟩ := h.at_ hlt
      have g0 := hc 0 _ rfl
      simp only [Nat.mul_one, Nat.add_zero] at g0
      have HX := Lib.hid (find_hit (k := k) hx)
      clear hc hx
      have hq3 : decide ((q : Int) < n) = true := by rw [decide_eq_true_iff]; omega
      go_wp2
      go_loop [7, 8, 32] (fun l s i => ∃ (j a b : Nat), j ≤ n ∧ i = .int .i64 j ∧ l = .int .i64 a ∧ s = .int .i64 b ∧ a ≤ j ∧ b ≤ j ∧ Hid (a = lessN (xs.take j) x ∧ b = sameN (xs.take j) x)) (fun _ _ i => n - (intOf i).toNat)
      case atStart => exact ⟨0, 0, 0, Nat.zero_le _, rfl, rfl, rfl, Nat.le_refl _, Nat.le_refl _, Lib.hid ⟨rfl, rfl⟩⟩
      case round =>
        obtain ⟨j, l, s, hj, rfl, rfl, rfl, hlj, hsj, HC⟩ := hrel
        by_cases hjn : j < n
        · obtain ⟨b', o', y, cs', e, _, hy, _, hc', rfl, _⟩ := h.at_ hjn
          simp only [Option.some.injEq, Addr.mk.injEq, and_true] at e
          obtain ⟨rfl, rfl⟩ := e
          have d0 := hc' 0 _ rfl
          simp only [Nat.mul_one, Nat.add_zero] at d0
          have HL := Lib.hid (less_succ (n := x) hy)
          have HS := Lib.hid (same_succ (n := x) hy)
          clear hc' hy h
          rcases Bool.eq_false_or_eq_true (decide (y < x)) with t1 | t1
          · have t2 : (y == x) = false := by rw [decide_eq_true_iff] at t1; rw [beq_eq_false_iff_ne]; omega
            have HA := Lib.hid (show (l + 1 = lessN (xs.take (j + 1)) x) ∧ s = sameN (xs.take (j + 1)) x by
              rw [decide_eq_true_iff] at t1
              rw [HL.out, HS.out, if_pos t1, if_neg (by omega), ← HC.out.1, ← HC.out.2]; exact ⟨rfl, rfl⟩)
            go_wp2
            go_round
            case rel => exact ⟨j + 1, l + 1, s, by omega, by go_num, by go_num, rfl, by omega, by omega, HA⟩
            case measure => simp [intOf]; omega
          rcases (Bool.eq_false_or_eq_true (y == x)) with t2 | t2
          · have HA := Lib.hid (show (l = lessN (xs.take (j + 1)) x) ∧ s + 1 = sameN (xs.take (j + 1)) x by
              rw [decide_eq_false_iff_not] at t1
              rw [beq_iff_eq] at t2
              rw [HL.out, HS.out, if_neg t1, if_pos t2, ← HC.out.1, ← HC.out.2]; exact ⟨rfl, rfl⟩)
            go_wp2
            go_round
            case rel => exact ⟨j + 1, l, s + 1, by omega, by go_num, rfl, by go_num, by omega, by omega, HA⟩
            case measure => simp [intOf]; omega
          · have HA := Lib.hid (show (l = lessN (xs.take (j + 1)) x) ∧ s = sameN (xs.take (j + 1)) x by
              rw [decide_eq_false_iff_not] at t1
              rw [beq_eq_false_iff_ne] at t2
              rw [HL.out, HS.out, if_neg t1, if_neg t2, ← HC.out.1, ← HC.out.2]; exact ⟨rfl, rfl⟩)
            go_wp2
            go_round
            case rel => exact ⟨j + 1, l, s, by omega, by go_num, rfl, rfl, by omega, by omega, HA⟩
            case measure => simp [intOf]; omega
        · have HH := Lib.hid (show hitB xs k x = (decide ((l : Int) < k) && decide (k ≤ l + s)) by
            unfold hitB
            obtain ⟨e1, e2⟩ := HC.out
            rw [List.take_of_length_le (by rw [HN.out]; omega)] at e1 e2
            rw [← e1, ← e2])
          clear h
          rcases Bool.eq_false_or_eq_true (decide ((l : Int) < k)) with t1 | t1
          · rcases Bool.eq_false_or_eq_true (decide (k ≤ (l : Int) + s)) with t2 | t2
            · have HR := Lib.hid (show quantI xs k = x by rw [HE.out, HX.out, HH.out, t1, t2]; rfl)
              go_wp2
              exact ret_int rfl rfl rfl HR.out.symm (Ext.refl _)
            · have HR := Lib.hid (show quantI xs k = ((xs.drop (q + 1)).find? (hitB xs k)).getD (-1) by rw [HE.out, HX.out, HH.out, t1, t2]; rfl)
              go_wp2
              go_round
              case rel => exact ⟨q + 1, by omega, by go_num, HR⟩
              case measure => simp [intOf]; omega
          · have HR := Lib.hid (show quantI xs k = ((xs.drop (q + 1)).find? (hitB xs k)).getD (-1) by rw [HE.out, HX.out, HH.out, t1]; rfl)
            go_wp2
            go_round
            case rel => exact ⟨q + 1, by omega, by go_num, HR⟩
            case measure => simp [intOf]; omega
    · have HR := Lib.hid (show quantI xs k = -1 by rw [HE.out, List.drop_eq_nil_of_le (by rw [HN.out]; omega)]; rfl)
      clear h
      go_wp2
      exact ret_int rfl rfl rfl HR.out.symm (Ext.refl _)
end Go.Proofs.Ytdnbjmfngmahkaa
