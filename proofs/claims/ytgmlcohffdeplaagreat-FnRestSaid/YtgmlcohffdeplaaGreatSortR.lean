/- Contracts: a row of numbers of the call's own is sorted, and cut of what comes twice. -/
import Derived.Test.YtgmlcohffdeplaaGreatShelf
import Derived.Test.YtgmlcohffdeplaaGreatGRow
import Derived.Test.YtgmlcohffdeplaaGreatCompL
import Derived.Test.YtgmlcohffdeplaaGreatHelp
import Derived.Sort.OwnSortedInts
import Derived.Lib.RowBridge
namespace Go.Proofs.YtgmlcohffdeplaaGreat
open Go.RowKit
set_option linter.unusedVariables false
theorem enc_map (l : List Int) : l.flatMap encInt = l.map (Value.int .i64) := by
  induction l with
  | nil => rfl
  | cons a r ih => rw [List.flatMap_cons, ih]; rfl
theorem owns_cut {w : World} {base g n m cap sz : Nat} {e : TypeId} {L : List Value} (h : w.ownsRow base e sz (.slice (some ⟨g, 0, none⟩) n cap) n L) (hm : m ≤ n) : w.ownsRow base e sz (.slice (some ⟨g, 0, none⟩) m cap) m (L.take (m * sz)) := by
  obtain ⟨h1, h2⟩ := h
  have hl : m * sz ≤ n * sz := Nat.mul_le_mul_right _ hm
  refine ⟨by rw [List.length_take]; omega, ?_⟩
  rcases h2 with ⟨h2, _⟩ | ⟨g', cap', cur, hv, hg, hh, hn, hc, hs, ht⟩
  · cases h2
  · injection hv with e1 e2 e3
    subst e3
    refine .inr ⟨g', cap, cur, by rw [e1], hg, hh, by omega, hc, hs, ?_⟩
    rw [← ht, List.take_take, Nat.min_eq_left hl]
theorem sort_own (zs : List Int) (g c base : Nat) (w : World) (ho : w.ownsRow base 3 1 (.slice (some ⟨g, 0, none⟩) zs.length c) zs.length (zs.flatMap encInt)) (hn : zs.length ≤ 1048576) : Calls Tryz.prog 78 #[.slice (some ⟨g, 0, none⟩) zs.length c] w (fun e w' => e = .returned (.tuple #[]) ∧ w'.ownsRow base 3 1 (.slice (some ⟨g, 0, none⟩) zs.length c) zs.length ((zs.mergeSort leT).flatMap encInt) ∧ w.grownBy w' (some g)) := by
  have hl : (zs.mergeSort leT).length = zs.length := List.length_mergeSort _
  have ho' := ho
  rw [enc_map] at ho
  rcases ho.2 with ⟨h0, _⟩ | ⟨g', cap, cur, hv, hg, hh, hnc, hcm, hcs, htake⟩
  · cases h0
  injection hv with e1 e2 e3
  injection e1 with e1
  injection e1 with e1
  subst e1 e3
  refine (Tryz.slices_Sort_int g 0 c zs w (holds_of_blockI hh (by rw [Nat.mul_one] at htake; exact htake)) (ho.lt g rfl).2 (by omega)).mono ?_
  rintro e w2 ⟨rfl, m, os, rfl⟩
  refine ⟨rfl, ?_, grownBy_sortedI _⟩
  rw [enc_map]
  exact ownsRow_sortedI (ts := zs.mergeSort leT) hl hg hh hnc hcm hcs
theorem compact_own (zs : List Int) (g c base : Nat) (w : World) (ho : w.ownsRow base 3 1 (.slice (some ⟨g, 0, none⟩) zs.length c) zs.length (zs.flatMap encInt)) (hn : zs.length ≤ 1048576) : Calls Tryz.prog 79 #[.slice (some ⟨g, 0, none⟩) zs.length c] w (fun e w' => e = .returned (.slice (some ⟨g, 0, none⟩) (Lib.compact zs).length c) ∧ w'.ownsRow base 3 1 (.slice (some ⟨g, 0, none⟩) (Lib.compact zs).length c) (Lib.compact zs).length ((Lib.compact zs).flatMap encInt) ∧ w.grownBy w' (some g)) := by
  have hl := Lib.compact_length_le zs
  rw [enc_map] at ho
  rcases ho.2 with ⟨h0, _⟩ | ⟨g', cap, cur, hv, hg, hh, hnc, hcm, hcs, htake⟩
  · cases h0
  injection hv with e1 e2 e3
  injection e1 with e1
  injection e1 with e1
  subst e1 e3
  refine (Tryz.slices_Compact_int g 0 c zs w (holds_of_blockI hh (by rw [Nat.mul_one] at htake; exact htake)) (by omega) hnc).mono ?_
  rintro e w2 ⟨rfl, q, rfl⟩
  have hlen : (Lib.compact zs ++ List.replicate (zs.length - (Lib.compact zs).length) 0).length = zs.length := by rw [List.length_append, List.length_replicate]; omega
  have h1 := ownsRow_sortedI (n := q) (os := #[]) (ts := Lib.compact zs ++ List.replicate (zs.length - (Lib.compact zs).length) 0) hlen hg hh hnc hcm hcs
  have h2 := grownBy_sortedI (w := w) (g := g) (n := q) (os := #[]) (Lib.compact zs ++ List.replicate (zs.length - (Lib.compact zs).length) 0).toArray
  have eg : ∀ u : World, Sort.grow u #[] = u := fun u => by simp [Sort.grow]
  rw [eg] at h1 h2
  refine ⟨rfl, ?_, h2⟩
  have h3 := owns_cut h1 hl
  rw [enc_map]
  rw [Nat.mul_one, ← List.map_take, List.take_left] at h3
  exact h3
end Go.Proofs.YtgmlcohffdeplaaGreat
