/- Contracts of the draws: profiles are made. -/
import Derived.Test.YtbfambeoboiifaaDrawProf
namespace Go.Proofs.Ytbfambeoboiifaa
open Go.RowKit
set_option linter.unusedVariables false
def RetProfT (w : World) : Ending → World → Prop := fun e w' => ∃ (A : Option Addr) (c : Nat) (pts : List Pt), e = .returned (.tuple #[.agg #[.slice A pts.length c], .bool true]) ∧ w'.ownsRow w.heap.size 93 4 (.slice A pts.length c) pts.length (pts.flatMap Pt.enc) ∧ (∀ x ∈ pts, x.ok) ∧ pts.length ≤ 200 ∧ 1 ≤ pts.length ∧ Ext w w'
theorem profB_none (w : World) (w' : World) (h : Ext w w') : RetProfB w (.returned (.tuple #[.agg #[.slice none 0 0], .bool false])) w' := ⟨none, 0, [], false, rfl, World.ownsRow_nil _ _ _ _, (fun y hy => by cases hy), by simp, (fun h => by cases h), h⟩
set_option maxHeartbeats 4000000 in
set_option maxRecDepth 10000 in
theorem ProfTake_c (xs : List Pt) (fr to : Int) (v : Vec) (A : Option Addr) (n c : Nat) (w : World) (h : SlAt RPt 4 w A n xs) (hl : n ≤ 200) : Calls Try.prog 98 #[.agg #[.slice A n c], .int .i64 fr, .int .i64 to, .agg #[.int .i64 v.A, .int .i64 v.B, .int .i64 v.C]] w (RetProfB w) := by
  have hA := Lib.hid (fun (u : World) (e : Ext w u) => sProfMin_c xs fr to A n c u (h.ext (Flat.mono Pt.enc Pt.ok) e) (by unfold maxLen; omega))
  have hC := Lib.hid (fun (u : World) (e : Ext w u) (hO : overB xs fr to = true) => by
    obtain ⟨hP, hSp⟩ := Bool.and_eq_true_iff.1 hO
    obtain ⟨⟨f0, f1⟩, ⟨t0, t1⟩, ft⟩ := spanB_iff.1 hSp
    obtain ⟨l1, l2, _, _, hall⟩ := profB_parts hP
    exact l03Change_c xs fr to v A n c u (h.ext (Flat.mono Pt.enc Pt.ok) e) hl hall (by unfold In64; omega) (by unfold In64; omega))
  generalize overB xs fr to = ob at *
  go_enter Try.func98, Try.ntmps98
  go_wp2_with fail
  refine (hA.out _ (by repeat (first | exact Ext.refl _ | assumption | apply Ext.alloc | apply Ext.drewN | apply Ext.drew | (refine Ext.setCell ?_ (by first | (simp; done) | (simp; omega) | omega) _) | (refine Ext.trans ?_ (by assumption))))).mono ?_
  rintro e w1 ⟨v1, rfl, hb1⟩
  have hz1 := hb1.le
  simp at hz1
  have hy1 : w.heap.size < w1.heap.size := by omega
  have hy2 : w.heap.size + 1 < w1.heap.size := by omega
  have hy3 : w.heap.size + 1 + 1 < w1.heap.size := by omega
  have r0 := (hb1).cell (cell_box_at ((w.alloc (.cells #[.slice A n c] 40)).alloc (.cells #[.int .i64 v.A, .int .i64 v.B, .int .i64 v.C] 42)) (w.heap.size + 1 + 1) (by simp) [.slice none 0 0] 40 0 _ rfl)
  have rf0 := ((hb1).frozenEq (a := ⟨w.heap.size + 1 + 1, 0, none⟩) (by simp)).trans (frozen_box_at ((w.alloc (.cells #[.slice A n c] 40)).alloc (.cells #[.int .i64 v.A, .int .i64 v.B, .int .i64 v.C] 42)) (w.heap.size + 1 + 1) (by simp) #[.slice none 0 0] 40 0)
  have HE := Lib.hid (show Ext w w1 from (by repeat (first | exact Ext.refl _ | assumption | apply Ext.alloc | apply Ext.drewN | apply Ext.drew | (refine Ext.setCell ?_ (by first | (simp; done) | (simp; omega) | omega) _) | (refine Ext.trans ?_ (by assumption)))))
  cases ob
  · go_wp2
    exact bodyPost_ret (v := .tuple #[.agg #[.slice none 0 0], .bool false]) (by simp [results, Try.results98, go_sem, *]) rfl (profB_none _ _ ((Ext.setCell (p := ⟨w.heap.size + 1 + 1, 0, none⟩) HE.out (by show w.heap.size ≤ w.heap.size + 1 + 1; omega) _).alloc _))
  · have x0 := ((((Ext.refl _).alloc _).alloc _).trans hb1).cell (cell_box_at w (w.heap.size) (by simp) [.slice A n c] 40 0 _ rfl)
    have xf0 := (((((Ext.refl _).alloc _).alloc _).trans hb1).frozenEq (a := ⟨w.heap.size, 0, none⟩) (by simp)).trans (frozen_box_at w (w.heap.size) (by simp) #[.slice A n c] 40 0)
    have y0 := (((Ext.refl _).alloc _).trans hb1).cell (cell_box_at (w.alloc (.cells #[.slice A n c] 40)) (w.heap.size + 1) (by simp) [.int .i64 v.A, .int .i64 v.B, .int .i64 v.C] 42 0 _ rfl)
    have y1 := (((Ext.refl _).alloc _).trans hb1).cell (cell_box_at (w.alloc (.cells #[.slice A n c] 40)) (w.heap.size + 1) (by simp) [.int .i64 v.A, .int .i64 v.B, .int .i64 v.C] 42 1 _ rfl)
    have y2 := (((Ext.refl _).alloc _).trans hb1).cell (cell_box_at (w.alloc (.cells #[.slice A n c] 40)) (w.heap.size + 1) (by simp) [.int .i64 v.A, .int .i64 v.B, .int .i64 v.C] 42 2 _ rfl)
    have yf0 := ((((Ext.refl _).alloc _).trans hb1).frozenEq (a := ⟨w.heap.size + 1, 0, none⟩) (by simp)).trans (frozen_box_at (w.alloc (.cells #[.slice A n c] 40)) (w.heap.size + 1) (by simp) #[.int .i64 v.A, .int .i64 v.B, .int .i64 v.C] 42 0)
    have yf1 := ((((Ext.refl _).alloc _).trans hb1).frozenEq (a := ⟨w.heap.size + 1, 1, none⟩) (by simp)).trans (frozen_box_at (w.alloc (.cells #[.slice A n c] 40)) (w.heap.size + 1) (by simp) #[.int .i64 v.A, .int .i64 v.B, .int .i64 v.C] 42 1)
    have yf2 := ((((Ext.refl _).alloc _).trans hb1).frozenEq (a := ⟨w.heap.size + 1, 2, none⟩) (by simp)).trans (frozen_box_at (w.alloc (.cells #[.slice A n c] 40)) (w.heap.size + 1) (by simp) #[.int .i64 v.A, .int .i64 v.B, .int .i64 v.C] 42 2)
    go_wp2_with fail
    refine (hC.out _ (HE.out.alloc _) trivial).mono ?_
    rintro e w2 ⟨A2, c2, pts, b2, rfl, ho2, hk2, hl2, hp2, hb2⟩
    have r0' := (((Ext.refl _).alloc _).trans hb2).cell r0
    have rf0' := ((((Ext.refl _).alloc _).trans hb2).frozenEq hy3).trans rf0
    have hl2' : w.heap.size + 1 + 1 < w2.heap.size := lt_of_cell r0'
    have HO := Lib.hid ho2
    have HB2 := Lib.hid hb2
    clear r0 rf0 ho2 x0 xf0 y0 y1 y2 yf0 yf1 yf2
    go_wp2
    exact bodyPost_ret (v := .tuple #[.agg #[.slice A2 pts.length c2], .bool b2]) (by simp [results, Try.results98, go_sem, *]) rfl ⟨A2, c2, pts, b2, rfl, owns_other (p := ⟨w.heap.size + 1 + 1, 0, none⟩) (owns_base HO.out (by have := HE.out.le; simp; omega)) (fun q hq => by have := (HO.out.lt q hq).1; simp at this; simp only []; omega) _, hk2, hl2, hp2, Ext.setCell ((HE.out.alloc _).trans HB2.out) (by show w.heap.size ≤ w.heap.size + 1 + 1; omega) _⟩
set_option maxHeartbeats 4000000 in
set_option maxRecDepth 10000 in
theorem ProfNew_c (w : World) : Calls Try.prog 97 #[.agg #[.int .i64 8, .int .i64 16, .int .i64 2]] w (RetProfT w) := by
  have hV := Lib.hid (fun u : World => sVecOk_c ⟨8, 16, 2⟩ u)
  rw [show vecB ⟨8, 16, 2⟩ = true by decide] at hV
  go_enter Try.func97, Try.ntmps97
  go_wp2_with fail
  refine (hV.out _).mono ?_
  rintro e w1 ⟨rfl, hb1⟩
  have hz1 := hb1.le
  simp at hz1
  have hy1 : w.heap.size < w1.heap.size := by omega
  have hy2 : w.heap.size + 1 < w1.heap.size := by omega
  have x0 := (((Ext.refl _).alloc _).trans hb1).cell (cell_box_at w (w.heap.size) (by simp) [.int .i64 8, .int .i64 16, .int .i64 2] 42 0 _ rfl)
  have x1 := (((Ext.refl _).alloc _).trans hb1).cell (cell_box_at w (w.heap.size) (by simp) [.int .i64 8, .int .i64 16, .int .i64 2] 42 1 _ rfl)
  have x2 := (((Ext.refl _).alloc _).trans hb1).cell (cell_box_at w (w.heap.size) (by simp) [.int .i64 8, .int .i64 16, .int .i64 2] 42 2 _ rfl)
  have xf0 := ((((Ext.refl _).alloc _).trans hb1).frozenEq (a := ⟨w.heap.size, 0, none⟩) (by simp)).trans (frozen_box_at w (w.heap.size) (by simp) #[.int .i64 8, .int .i64 16, .int .i64 2] 42 0)
  have xf1 := ((((Ext.refl _).alloc _).trans hb1).frozenEq (a := ⟨w.heap.size, 1, none⟩) (by simp)).trans (frozen_box_at w (w.heap.size) (by simp) #[.int .i64 8, .int .i64 16, .int .i64 2] 42 1)
  have xf2 := ((((Ext.refl _).alloc _).trans hb1).frozenEq (a := ⟨w.heap.size, 2, none⟩) (by simp)).trans (frozen_box_at w (w.heap.size) (by simp) #[.int .i64 8, .int .i64 16, .int .i64 2] 42 2)
  have r0 := (hb1).cell (cell_box_at (w.alloc (.cells #[.int .i64 8, .int .i64 16, .int .i64 2] 42)) (w.heap.size + 1) (by simp) [.slice none 0 0] 40 0 _ rfl)
  have rf0 := ((hb1).frozenEq (a := ⟨w.heap.size + 1, 0, none⟩) (by simp)).trans (frozen_box_at (w.alloc (.cells #[.int .i64 8, .int .i64 16, .int .i64 2] 42)) (w.heap.size + 1) (by simp) #[.slice none 0 0] 40 0)
  have HE := Lib.hid (show Ext w w1 from (by repeat (first | exact Ext.refl _ | assumption | apply Ext.alloc | apply Ext.drewN | apply Ext.drew | (refine Ext.setCell ?_ (by first | (simp; done) | (simp; omega) | omega) _) | (refine Ext.trans ?_ (by assumption)))))
  go_wp2
  have HO : ((w1.setCell ⟨w.heap.size + 1, 0, none⟩ (.slice (some ⟨w1.heap.size, 0, none⟩) 1 1)).alloc (.cells #[.int .i64 0, .int .i64 8, .int .i64 16, .int .i64 2] 93)).ownsRow w1.heap.size 93 4 (.slice (some ⟨w1.heap.size, 0, none⟩) 1 1) 1 (Pt.enc ⟨0, ⟨8, 16, 2⟩⟩) := by
    have h := World.ownsRow_lit (e := 93) (size := 4) (w1.setCell ⟨w.heap.size + 1, 0, none⟩ (.slice (some ⟨w1.heap.size, 0, none⟩) 1 1)) #[.int .i64 0, .int .i64 8, .int .i64 16, .int .i64 2] 1 (Nat.le_refl _) (by unfold maxLen; omega) rfl
    simpa [Pt.enc] using h
  exact bodyPost_ret (v := .tuple #[.agg #[.slice (some ⟨w1.heap.size, 0, none⟩) 1 1], .bool true]) (by simp [results, Try.results97, go_sem, *]) rfl ⟨some ⟨w1.heap.size, 0, none⟩, 1, [⟨0, ⟨8, 16, 2⟩⟩], rfl, owns_base HO (by omega), (fun y hy => by rw [List.mem_singleton.1 hy]; refine ⟨?_, ?_, ?_, ?_⟩ <;> (unfold In64; decide)), by simp, by simp, (Ext.setCell (p := ⟨w.heap.size + 1, 0, none⟩) HE.out (by show w.heap.size ≤ w.heap.size + 1; omega) _).alloc _⟩
end Go.Proofs.Ytbfambeoboiifaa
