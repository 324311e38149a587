/- Contracts over spans of numbers: the numbers of one; the reference's test. -/
import Derived.Test.YtlaoflpgngfbpaaSpan
namespace Go.Proofs.Ytlaoflpgngfbpaa
open Go.RowKit
set_option linter.unusedVariables false
def cntN (x : Span) : Nat := (cntI x).toNat
def idsX (x : Span) : List Int := (List.range (cntN x)).map (fun (j : Nat) => x.Lo + (j : Int) * x.Step)
theorem idsX_len (x : Span) : (idsX x).length = cntN x := by simp [idsX]
theorem Int.one (y : Int) : ∀ u ∈ encInt y, u.oneCell' = true := by
  intro u hu; simp [encInt] at hu; subst hu; rfl
theorem Int.info : (Try.prog.info? 3).map (fun i => (i.zero, i.size, i.bytes)) = some (some (.int .i64 0), 1, 8) := by kernel_rfl
theorem step_le {x : Span} (h : spanOkB x = true) (j : Nat) : x.Lo + j * x.Step ≤ x.Hi ↔ j < cntN x := by
  obtain ⟨h1, h2, h3, _⟩ := spanOk_iff.1 h
  have hc := cnt_range h
  have : (j : Int) ≤ (x.Hi - x.Lo) / x.Step ↔ j * x.Step ≤ x.Hi - x.Lo := Int.le_ediv_iff_mul_le (by omega)
  unfold cntN cntI at *
  constructor
  · intro hh; have := this.2 (by omega); omega
  · intro hh; have := this.1 (by omega); omega
def upto (x : Span) (j : Nat) : List Int := (List.range j).map (fun (i : Nat) => x.Lo + (i : Int) * x.Step)
theorem upto_succ (x : Span) (j : Nat) : upto x (j + 1) = upto x j ++ [x.Lo + j * x.Step] := by simp [upto, List.range_succ]
theorem upto_len (x : Span) (j : Nat) : (upto x j).length = j := by simp [upto]
theorem step_next (x : Span) (j : Nat) : x.Lo + j * x.Step + x.Step = x.Lo + (j + 1 : Nat) * x.Step := by
  rw [Int.natCast_add, Int.add_mul, Int.natCast_one, Int.one_mul, Int.add_assoc]
theorem ids_in {x : Span} (h : spanOkB x = true) : ∀ y ∈ idsX x, 1 ≤ y ∧ y ≤ 999 := by
  intro y hy
  unfold idsX at hy
  rw [List.mem_map] at hy
  obtain ⟨j, hj, rfl⟩ := hy
  rw [List.mem_range] at hj
  have h1 := (step_le h j).2 hj
  obtain ⟨a, b, c, _⟩ := spanOk_iff.1 h
  have : 0 ≤ (j : Int) * x.Step := Int.mul_nonneg (by omega) (by omega)
  omega
set_option maxHeartbeats 4000000 in
set_option maxRecDepth 10000 in
theorem l13Ids_c (x : Span) (w : World) (hx : spanOkB x = true) : Calls Try.prog 16 #[.agg #[.int .i64 x.Lo, .int .i64 x.Hi, .int .i64 x.Step]] w (RetOwn RInt 3 1 w (idsX x)) := by
  obtain ⟨i0, hi, hz0, hz1, hz2⟩ := info_parts Int.info
  obtain ⟨⟨a1, a2⟩, ⟨a3, a4⟩, ⟨a5, a6⟩, _⟩ := spanOk_iff.1 hx
  obtain ⟨n0, n1⟩ := cnt_range hx
  have HST := Lib.hid (fun j => step_le hx j)
  have HC := Lib.hid (show ((cntN x : Nat) : Int) = cntI x by unfold cntN; omega)
  go_enter Try.func16, Try.ntmps16
  go_wp2
  go_loopw [3, 4] (fun v i wr => ∃ (j : Nat) (p : Int) (A1 : Option Addr) (c1 : Nat), i = .int .i64 p ∧ v = .slice A1 j c1 ∧ 1 ≤ p ∧ p ≤ 1998 ∧ j ≤ cntN x ∧ Hid (p = x.Lo + j * x.Step) ∧ wr.ownsRow (w.heap.size + 1) 3 1 (.slice A1 j c1) j ((upto x j).flatMap encInt) ∧ Ext (w.alloc (.cells #[.int .i64 x.Lo, .int .i64 x.Hi, .int .i64 x.Step] 46)) wr) (fun v i _ => (2000 - intOf i).toNat)
  case atStart => exact ⟨0, x.Lo, _, 0, rfl, rfl, by omega, by omega, Nat.zero_le _, Lib.hid (by simp), by simpa [upto] using owns_empty (w.alloc (.cells #[.int .i64 x.Lo, .int .i64 x.Hi, .int .i64 x.Step] 46)) 3 1, (Ext.refl _).alloc _⟩
  case round =>
    obtain ⟨j, p, A1, c1, rfl, rfl, p1, p2, hj, HP, ho, hb⟩ := hrel
    have hc0 := HC.out
    have hj999 : j ≤ 999 := by omega
    clear hc0
    have x1 := hb.cell (cell_box w [.int .i64 x.Lo, .int .i64 x.Hi, .int .i64 x.Step] 46 1 _ rfl)
    have x2 := hb.cell (cell_box w [.int .i64 x.Lo, .int .i64 x.Hi, .int .i64 x.Step] 46 2 _ rfl)
    have hwz := hb.le
    simp at hwz
    have hw1 : w.heap.size < wr.heap.size := by omega
    by_cases hle : p ≤ x.Hi
    · have hjn : j < cntN x := (HST.out j).1 (by rw [← HP.out]; exact hle)
      have HO := Lib.hid ho
      have hb0 : Ext w wr := ((Ext.refl w).alloc _).trans hb
      clear ho
      go_wp2_with (at_builtin; go_must (refine wpList_append_one (w0 := (w.alloc (.cells #[.int .i64 x.Lo, .int .i64 x.Hi, .int .i64 x.Step] 46))) (.tmp 16) (.tmp 18) _ (w.heap.size + 1) 3 i0 _ 1 8 (.slice A1 j c1) j _ (encInt p) rfl rfl Try.underlying31 hi hz0 hz1 hz2 rfl (by omega) rfl (HO.out) _ rfl (by simp) rfl (Int.one _) (by unfold maxLen; omega) (by omega) hb (by simp) (by omega) ?_); intro A3 c3 w3 ho3 hb3 hs3; have y2 := hb3.cell (cell_box w [.int .i64 x.Lo, .int .i64 x.Hi, .int .i64 x.Step] 46 2 _ rfl))
      have HO3 := Lib.hid ho3
      clear ho3 hi hz0 hz1 hz2
      go_wp2
      go_roundw
      case rel => exact ⟨j + 1, p + x.Step, A3, c3, rfl, rfl, by omega, by omega, by omega, Lib.hid (by rw [HP.out, step_next]), by rw [upto_succ, ← HP.out, List.flatMap_append]; simpa using HO3.out, hb3⟩
      case measure => simp [intOf]; omega
    · have hjn : j = cntN x := by
        have : ¬ j < cntN x := fun h => hle (by rw [HP.out]; exact (HST.out j).2 h)
        omega
      have HO := Lib.hid ho
      clear ho
      have HI := Lib.hid (ids_in hx)
      have HL := Lib.hid (show (idsX x).length = j by rw [idsX_len, hjn])
      have HU := Lib.hid (show upto x j = idsX x by rw [hjn]; rfl)
      clear hjn
      go_wp2
      have ho := HO.out
      rw [HU.out] at ho
      exact ret_own2 rfl (owns_base ho (by omega)) HL.out encInt_size (fun y hy => by have := HI.out y hy; unfold In64; omega) (by repeat (first | exact Ext.refl _ | assumption | apply Ext.alloc | apply Ext.drewN | apply Ext.drew | (refine Ext.setCell ?_ (by first | (simp; done) | (simp; omega) | omega) _) | (refine Ext.trans ?_ (by assumption))))
end Go.Proofs.Ytlaoflpgngfbpaa
