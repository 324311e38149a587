/- Contracts: the k-th least of a list, the given program. -/
import Derived.Test.YtdnbjmfngmahkaaQuant
import Derived.Test.YtdnbjmfngmahkaaShelf
import Derived.Sort.OwnSortedInts
namespace Go.Proofs.Ytdnbjmfngmahkaa
open Go.RowKit
set_option linter.unusedVariables false
theorem QInt.one (y : Int) : ∀ u ∈ encInt y, u.oneCell' = true := by
  intro u hu; simp [encInt] at hu; subst hu; rfl
theorem QInt.info : (Try.prog.info? 3).map (fun i => (i.zero, i.size, i.bytes)) = some (some (.int .i64 0), 1, 8) := by kernel_rfl
theorem flat_map (l : List Int) : l.flatMap encInt = l.map (Value.int .i64) := by
  induction l with
  | nil => rfl
  | cons a r ih => rw [List.flatMap_cons, ih]; rfl
def RetRow (w : World) (xs : List Int) : Ending → World → Prop := fun e w' => ∃ A c, e = .returned (.slice A xs.length c) ∧ w'.ownsRow w.heap.size 3 1 (.slice A xs.length c) xs.length (xs.flatMap encInt) ∧ Ext w w'
theorem copyInts_c (xs : List Int) (A : Option Addr) (n c : Nat) (w : World) (h : SlAt RInt 1 w A n xs) (hl : n ≤ 1048576) : Calls Try.prog 15 #[.slice A n c] w (RetRow w xs) := by
  obtain ⟨i0, hi, hI0, hI1, hI2⟩ := info_parts QInt.info
  obtain rfl := h.len
  go_enter Try.func15, Try.ntmps15
  go_wp2_with (at_builtin; go_must (refine wpList_append_list (w0 := w) (.const (.slice none 0 0)) (.tmp 3) _ w.heap.size 3 i0 _ 1 8 (.slice none 0 0) 0 [] A xs.length c xs rfl rfl Try.underlying23 hi hI0 hI1 hI2 rfl (by omega) rfl (World.ownsRow_nil _ _ _ _) rfl h (fun _ => rfl) QInt.one (by unfold maxLen; omega) (by omega) (Ext.refl _) (Nat.le_refl _) (Nat.le_refl _) ?_); intro A1 c1 w1 ho1 hb1 hs1)
  simp only [Nat.zero_add, List.nil_append] at ho1
  have HO := Lib.hid ho1
  clear ho1
  go_wp2
  exact bodyPost_ret (results_tmp rfl _ _ _) rfl ⟨A1, c1, by simp, HO.out, hb1⟩
set_option maxHeartbeats 4000000 in
set_option maxRecDepth 4000 in
theorem Quantile_c (xs : List Int) (k : Int) (A : Option Addr) (n c : Nat) (w : World) (h : SlAt RInt 1 w A n xs) (hl : n ≤ maxLen) : Calls Try.prog 5 #[.slice A n c, .int .i64 k] w (Ret w (.int .i64 (quantI xs k))) := by
  have hl' := hl
  unfold maxLen at hl
  obtain rfl := h.len
  have HT := Lib.hid (areTimes_c xs A xs.length c w h hl')
  have HK := Lib.hid (within_c k 1 xs.length w)
  rcases (Bool.eq_false_or_eq_true (timesB xs)).symm with h1 | h1
  · have HF := Lib.hid (show quantI xs k = -1 by unfold quantI; rw [h1]; simp)
    rw [h1] at HT
    clear h1
    go_enter Try.func5, Try.ntmps5
    go_wp2_with fail
    refine (HT.out).mono ?_
    rintro e w1 ⟨rfl, rfl⟩
    go_wp2
    exact ret_int rfl rfl rfl HF.out.symm (Ext.refl _)
  rcases (Bool.eq_false_or_eq_true (withinB k 1 xs.length)).symm with h2 | h2
  · have HF := Lib.hid (show quantI xs k = -1 by unfold quantI; rw [h2]; simp)
    rw [h1] at HT
    rw [h2] at HK
    clear h1 h2
    go_enter Try.func5, Try.ntmps5
    go_wp2_with fail
    refine (HT.out).mono ?_
    rintro e w1 ⟨rfl, rfl⟩
    go_wp2_with fail
    refine (HK.out).mono ?_
    rintro e w2 ⟨rfl, rfl⟩
    go_wp2
    exact ret_int rfl rfl rfl HF.out.symm (Ext.refl _)
  have hn1 : xs.length ≤ 1000 := by unfold timesB at h1; rw [Bool.and_eq_true, decide_eq_true_iff] at h1; exact h1.2
  have hkk : 1 ≤ k ∧ k ≤ xs.length := by unfold withinB at h2; rw [decide_eq_true_iff] at h2; exact h2
  have HF := Lib.hid (show quantI xs k = (xs.mergeSort leI).getD (k - 1).toNat 0 by unfold quantI; rw [if_pos ⟨h1, h2⟩])
  rw [h1] at HT
  rw [h2] at HK
  have HC := Lib.hid (copyInts_c xs A xs.length c w h (by omega))
  obtain ⟨K, rfl⟩ : ∃ K : Nat, k = (K : Int) + 1 := ⟨(k - 1).toNat, by omega⟩
  have hK : K < xs.length := by omega
  have HL := Lib.hid (show (xs.mergeSort leI).length = xs.length from (sort_perm xs).length_eq)
  clear h1 h2 hkk
  go_enter Try.func5, Try.ntmps5
  go_wp2_with fail
  refine (HT.out).mono ?_
  rintro e w1 ⟨rfl, rfl⟩
  go_wp2_with fail
  refine (HK.out).mono ?_
  rintro e w2 ⟨rfl, rfl⟩
  go_wp2_with fail
  refine HC.out.mono ?_
  rintro e w1 ⟨A1, c1, rfl, ho1, hb1⟩
  rw [flat_map] at ho1
  rcases ho1.2 with ⟨_, h0⟩ | ⟨g, cap, cur, hv, hg, hh, hnc, hcm, hcs, htake⟩
  · omega
  injection hv with e1 e2 e3
  subst e1 e3
  have hgl : g < w1.heap.size := (ho1.lt g rfl).2
  have HSO := Lib.hid (fun m os => ownsRow_sortedI (w := w1) (n := m) (os := os) (ts := xs.mergeSort leI) HL.out hg hh hnc hcm hcs)
  have HGR := Lib.hid (fun m os => grownBy_sortedI (w := w1) (g := g) (n := m) (os := os) (xs.mergeSort leI).toArray)
  have HS := Lib.hid (Try.slices_Sort_int g 0 c1 xs w1 (holds_of_blockI hh (by rw [Nat.mul_one] at htake; exact htake)) hgl (by omega))
  clear ho1 hh hcs htake hnc hcm
  go_wp2_with fail
  refine HS.out.mono ?_
  rintro e w2 ⟨rfl, m, os, e2⟩
  have ho2 := HSO.out m os
  have hg2 := HGR.out m os
  rw [show (fun x y => decide (x ≤ y)) = leI from rfl] at e2
  rw [← e2] at ho2 hg2
  have he := ext_grown hb1 hg2 (fun k hk => by injection hk with hk; omega)
  obtain ⟨v, HV, hc2⟩ : ∃ v : Int, Hid (v = (xs.mergeSort leI).getD K 0) ∧ w2.cell? ⟨g, K, none⟩ = some (.int .i64 v) := by
    refine ⟨_, Lib.hid rfl, ?_⟩
    rw [ho2.cellAt K (by omega), List.getElem?_map, List.getD_eq_getElem?_getD, List.getElem?_eq_getElem (by rw [HL.out]; omega)]; rfl
  have hgl2 : g < w2.heap.size := (ho2.lt g rfl).2
  clear e2 ho2 hg2
  go_wp2
  refine ret_int rfl rfl rfl ?_ he
  rw [HF.out, show ((K : Int) + 1 - 1).toNat = K by omega, HV.out]
end Go.Proofs.Ytdnbjmfngmahkaa
