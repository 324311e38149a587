/- Contracts: an array as text. -/
import Derived.Test.YtlaoflpgngfbpaaSpan3
import Derived.Test.YtlaoflpgngfbpaaNum2
namespace Go.Proofs.Ytlaoflpgngfbpaa
open Go.RowKit
set_option linter.unusedVariables false
def chB (c : UInt8) : ByteArray := ⟨#[c]⟩
def addSpan (first : Bool) (out : ByteArray) (x : Span) : ByteArray :=
  let o1 := if first = true then out else out ++ chB 44
  let o2 := o1 ++ numText x.Lo.toNat
  let o3 := if x.Lo = x.Hi then o2 else o2 ++ chB 45 ++ numText x.Hi.toNat
  if x.Step = 1 then o3 else o3 ++ chB 58 ++ numText x.Step.toNat
theorem addSpan_def (f : Bool) (out : ByteArray) (x : Span) : addSpan f out x = if x.Step = 1 then (if x.Lo = x.Hi then ((if f = true then out else out ++ chB 44) ++ numText x.Lo.toNat) else ((if f = true then out else out ++ chB 44) ++ numText x.Lo.toNat) ++ chB 45 ++ numText x.Hi.toNat)
    else (if x.Lo = x.Hi then ((if f = true then out else out ++ chB 44) ++ numText x.Lo.toNat) else ((if f = true then out else out ++ chB 44) ++ numText x.Lo.toNat) ++ chB 45 ++ numText x.Hi.toNat) ++ chB 58 ++ numText x.Step.toNat := rfl
def textGo : Nat → ByteArray → List Span → ByteArray
  | _, out, [] => out
  | k, out, x :: r => textGo (k + 1) (addSpan (decide (k = 0)) out x) r
def specText (l : List Span) (m : Int) : ByteArray := if specB l m = true then (if 0 < m then textGo 0 ByteArray.empty l ++ chB 37 ++ numText m.toNat else textGo 0 ByteArray.empty l) else ByteArray.empty
theorem specB_parts {l : List Span} {m : Int} (h : specB l m = true) : l.length ≤ 8 ∧ (0 ≤ m ∧ m ≤ 60) ∧ ∀ x ∈ l, spanOkB x = true := by
  unfold specB withinB at h
  simp only [Bool.and_eq_true, decide_eq_true_iff] at h
  exact ⟨by omega, h.1.1.2, chain_all l none h.1.2⟩
theorem chB_size (c : UInt8) : (chB c).size = 1 := rfl
theorem NumText_i (n : Int) (w : World) (h0 : 0 ≤ n) (hk : n ≤ 1000000000) : Calls Try.prog 14 #[.int .i64 n] w (Ret w (.string (numText n.toNat))) := by
  have h := NumText_c n.toNat w (by omega)
  rw [Int.toNat_of_nonneg h0] at h
  exact h
set_option maxHeartbeats 8000000 in
set_option maxRecDepth 10000 in
theorem SpecText_c (xs : List Span) (m : Int) (A : Option Addr) (n c : Nat) (w : World) (h : SlAt RSpan 3 w A n xs) (hl : n ≤ maxLen) : Calls Try.prog 5 #[.agg #[.slice A n c, .int .i64 m]] w (Ret w (.string (specText xs m))) := by
  have hl' := hl
  unfold maxLen at hl
  have HN := Lib.hid h.len
  have HM := Lib.hid (Flat.mono Span.enc Span.ok)
  have hA := Lib.hid (fun (u : World) (e : Ext w u) => SpecOk_c xs m A n c u (h.ext HM.out e) hl')
  rcases (Bool.eq_false_or_eq_true (specB xs m)).symm with hB | hB
  all_goals rw [hB] at hA
  · have HF := Lib.hid (show specText xs m = ByteArray.empty by unfold specText; rw [hB]; rfl)
    go_enter Try.func5, Try.ntmps5
    go_wp2_with fail
    refine (hA.out _ (by repeat (first | exact Ext.refl _ | assumption | apply Ext.alloc | apply Ext.drewN | apply Ext.drew | (refine Ext.setCell ?_ (by first | (simp; done) | (simp; omega) | omega) _) | (refine Ext.trans ?_ (by assumption))))).mono ?_
    rintro e w1 ⟨rfl, hb1⟩
    obtain ⟨hcr1, hfr1, hz1⟩ := hb1.rules
    (try simp at hz1)
    have hy1_w0 : w.heap.size < w1.heap.size := (by omega)
    go_wp2
    rw [HF.out]
    exact ret_val rfl rfl rfl (by repeat (first | exact Ext.refl _ | assumption | apply Ext.alloc | apply Ext.drewN | apply Ext.drew | (refine Ext.setCell ?_ (by first | (simp; done) | (simp; omega) | omega) _) | (refine Ext.trans ?_ (by assumption))))
  obtain ⟨hn8, ⟨m0, m1⟩, hall⟩ := specB_parts hB
  rw [HN.out] at hn8
  have HALL := Lib.hid hall
  have HF := Lib.hid (show specText xs m = if 0 < m then textGo 0 ByteArray.empty xs ++ chB 37 ++ numText m.toNat else textGo 0 ByteArray.empty xs by unfold specText; rw [hB]; rfl)
  have HNT := Lib.hid (fun (x : Int) (h0 : 0 ≤ x) (h1 : x ≤ 1000000000) (u : World) => NumText_i x u h0 h1)
  clear hB hall
  go_enter Try.func5, Try.ntmps5
  go_wp2_with fail
  refine (hA.out _ (by repeat (first | exact Ext.refl _ | assumption | apply Ext.alloc | apply Ext.drewN | apply Ext.drew | (refine Ext.setCell ?_ (by first | (simp; done) | (simp; omega) | omega) _) | (refine Ext.trans ?_ (by assumption))))).mono ?_
  rintro e w1 ⟨rfl, hb1⟩
  obtain ⟨hcr1, hfr1, hz1⟩ := hb1.rules
  (try simp at hz1)
  have hy1_w0 : w.heap.size < w1.heap.size := (by omega)
  have q0 := hb1.cell (cell_box w [.slice A n c, .int .i64 m] 25 0 _ rfl)
  clear hA
  go_wp2
  go_loopw [3, 12] (fun s i wr => ∃ (k : Nat) (out : ByteArray), k ≤ n ∧ i = .int .i64 k ∧ s = .string out ∧ out.size ≤ 40 * k ∧ Hid (textGo 0 ByteArray.empty xs = textGo k out (xs.drop k)) ∧ Ext w1 wr) (fun _ i _ => n - (intOf i).toNat)
  case atStart => exact ⟨0, ByteArray.empty, Nat.zero_le _, rfl, rfl, Nat.le_refl _, Lib.hid rfl, Ext.refl _⟩
  case round =>
    obtain ⟨k, out, hk, rfl, rfl, hos, HE, hbr⟩ := hrel
    have hb0 := hb1.trans hbr
    have hb : Ext w wr := ((Ext.refl w).alloc _).trans hb0
    have hwz := hb0.le
    simp at hwz
    by_cases hlt : k < n
    · obtain ⟨b, o, d, cs, rfl, hbw, hx, _, hc, rfl, hok⟩ := (h.ext HM.out hb).at_ hlt
      have c0 := hc 0 _ rfl
      have c1 := hc 1 _ rfl
      have c2 := hc 2 _ rfl
      simp only [Nat.add_zero] at c0
      obtain ⟨⟨a1, a2⟩, ⟨a3, a4⟩, ⟨a5, a6⟩, _⟩ := spanOk_iff.1 (HALL.out d (List.mem_of_getElem? hx))
      have HX := Lib.hid (show textGo k out (xs.drop k) = textGo (k + 1) (addSpan (decide (k = 0)) out d) (xs.drop (k + 1)) by rw [drop_cons hx, textGo])
      have HAD := Lib.hid (addSpan_def (decide (k = 0)) out d)
      have H1 := Lib.hid (HNT.out d.Lo (by omega) (by omega))
      have H2 := Lib.hid (HNT.out d.Hi (by omega) (by omega))
      have H3 := Lib.hid (HNT.out d.Step (by omega) (by omega))
      have s1 := numText_size d.Lo.toNat (by omega)
      have s2 := numText_size d.Hi.toNat (by omega)
      have s3 := numText_size d.Step.toNat (by omega)
      generalize numText d.Lo.toNat = t1 at *
      generalize numText d.Hi.toNat = t2 at *
      generalize numText d.Step.toNat = t3 at *
      have hol : out.size ≤ 320 := by omega
      have E1 := HE.out.trans HX.out
      have HEX := Lib.hid E1
      clear E1 hc hx h
      by_cases hk0 : k = 0
      · by_cases e1 : d.Lo = d.Hi
        · by_cases e2 : d.Step = 1
          · have ht : decide (0 < k) = false := by first | (rw [decide_eq_false_iff_not]; omega) | (rw [decide_eq_true_iff]; omega)
            have HV := Lib.hid (show addSpan (decide (k = 0)) out d = (out ++ t1) by rw [HAD.out, if_pos e2, if_pos e1, show decide (k = 0) = true by rw [decide_eq_true_iff]; exact hk0, if_pos rfl])
            have f1 : (d.Lo != d.Hi) = false := by rw [bne_eq_false_iff_eq]; exact e1
            have f2 : decide (d.Lo < d.Hi) = false := by rw [decide_eq_false_iff_not]; omega
            have f3 : (d.Step != 1) = false := by rw [bne_eq_false_iff_eq]; exact e2
            have f4 : decide (1 < d.Step) = false := by rw [decide_eq_false_iff_not]; omega
            clear e1 e2 hk0
            have z0 : (out).size + (t1).size ≤ 9223372036854775807 := by have q44 : (⟨#[44]⟩ : ByteArray).size = 1 := rfl; have q45 : (⟨#[45]⟩ : ByteArray).size = 1 := rfl; have q58 : (⟨#[58]⟩ : ByteArray).size = 1 := rfl; (try simp only [ByteArray.size_append]); omega
            have zz : ((out ++ t1)).size ≤ 40 * (k + 1) := by simp only [ByteArray.size_append]; (try simp only [chB_size]); omega
            go_wp2_with fail
            refine (H1.out _).mono ?_
            rintro e w2 ⟨rfl, hb2⟩
            have hbx2 : Ext (wr.alloc (.cells #[.int .i64 d.Lo, .int .i64 d.Hi, .int .i64 d.Step] 46)) w2 := hb2
            have y20 := hbx2.cell (cell_box wr [.int .i64 d.Lo, .int .i64 d.Hi, .int .i64 d.Step] 46 0 _ rfl)
            have y21 := hbx2.cell (cell_box wr [.int .i64 d.Lo, .int .i64 d.Hi, .int .i64 d.Step] 46 1 _ rfl)
            have y22 := hbx2.cell (cell_box wr [.int .i64 d.Lo, .int .i64 d.Hi, .int .i64 d.Step] 46 2 _ rfl)
            have hz2 : wr.heap.size < w2.heap.size := by have := hbx2.le; simp at this; omega
            clear c0 c1 c2
            go_wp2
            go_roundw
            case rel => exact ⟨k + 1, _, by omega, by go_num, rfl, zz, Lib.hid (by rw [HEX.out, HV.out] <;> rfl), hbr.trans (((Ext.refl _).alloc _).trans hbx2)⟩
            case measure => simp [intOf]; omega
          · have ht : decide (0 < k) = false := by first | (rw [decide_eq_false_iff_not]; omega) | (rw [decide_eq_true_iff]; omega)
            have HV := Lib.hid (show addSpan (decide (k = 0)) out d = (((out ++ t1) ++ chB 58) ++ t3) by rw [HAD.out, if_neg e2, if_pos e1, show decide (k = 0) = true by rw [decide_eq_true_iff]; exact hk0, if_pos rfl])
            have f1 : (d.Lo != d.Hi) = false := by rw [bne_eq_false_iff_eq]; exact e1
            have f2 : decide (d.Lo < d.Hi) = false := by rw [decide_eq_false_iff_not]; omega
            have f3 : (d.Step != 1) = true := by rw [bne_iff_ne]; exact e2
            have f4 : decide (1 < d.Step) = true := by rw [decide_eq_true_iff]; omega
            clear e1 e2 hk0
            have z0 : (out).size + (t1).size ≤ 9223372036854775807 := by have q44 : (⟨#[44]⟩ : ByteArray).size = 1 := rfl; have q45 : (⟨#[45]⟩ : ByteArray).size = 1 := rfl; have q58 : (⟨#[58]⟩ : ByteArray).size = 1 := rfl; (try simp only [ByteArray.size_append]); omega
            have z1 : ((out ++ t1)).size + ((⟨#[58]⟩ : ByteArray)).size ≤ 9223372036854775807 := by have q44 : (⟨#[44]⟩ : ByteArray).size = 1 := rfl; have q45 : (⟨#[45]⟩ : ByteArray).size = 1 := rfl; have q58 : (⟨#[58]⟩ : ByteArray).size = 1 := rfl; (try simp only [ByteArray.size_append]); omega
            have z2 : (((out ++ t1) ++ (⟨#[58]⟩ : ByteArray))).size + (t3).size ≤ 9223372036854775807 := by have q44 : (⟨#[44]⟩ : ByteArray).size = 1 := rfl; have q45 : (⟨#[45]⟩ : ByteArray).size = 1 := rfl; have q58 : (⟨#[58]⟩ : ByteArray).size = 1 := rfl; (try simp only [ByteArray.size_append]); omega
            have zz : ((((out ++ t1) ++ chB 58) ++ t3)).size ≤ 40 * (k + 1) := by simp only [ByteArray.size_append]; (try simp only [chB_size]); omega
            go_wp2_with fail
            refine (H1.out _).mono ?_
            rintro e w2 ⟨rfl, hb2⟩
            have hbx2 : Ext (wr.alloc (.cells #[.int .i64 d.Lo, .int .i64 d.Hi, .int .i64 d.Step] 46)) w2 := hb2
            have y20 := hbx2.cell (cell_box wr [.int .i64 d.Lo, .int .i64 d.Hi, .int .i64 d.Step] 46 0 _ rfl)
            have y21 := hbx2.cell (cell_box wr [.int .i64 d.Lo, .int .i64 d.Hi, .int .i64 d.Step] 46 1 _ rfl)
            have y22 := hbx2.cell (cell_box wr [.int .i64 d.Lo, .int .i64 d.Hi, .int .i64 d.Step] 46 2 _ rfl)
            have hz2 : wr.heap.size < w2.heap.size := by have := hbx2.le; simp at this; omega
            clear c0 c1 c2
            go_wp2_with fail
            refine (H3.out _).mono ?_
            rintro e w3 ⟨rfl, hb3⟩
            have hbx3 : Ext (wr.alloc (.cells #[.int .i64 d.Lo, .int .i64 d.Hi, .int .i64 d.Step] 46)) w3 := hbx2.trans hb3
            have y30 := hbx3.cell (cell_box wr [.int .i64 d.Lo, .int .i64 d.Hi, .int .i64 d.Step] 46 0 _ rfl)
            have y31 := hbx3.cell (cell_box wr [.int .i64 d.Lo, .int .i64 d.Hi, .int .i64 d.Step] 46 1 _ rfl)
            have y32 := hbx3.cell (cell_box wr [.int .i64 d.Lo, .int .i64 d.Hi, .int .i64 d.Step] 46 2 _ rfl)
            have hz3 : wr.heap.size < w3.heap.size := by have := hbx3.le; simp at this; omega
            go_wp2
            go_roundw
            case rel => exact ⟨k + 1, _, by omega, by go_num, rfl, zz, Lib.hid (by rw [HEX.out, HV.out] <;> rfl), hbr.trans (((Ext.refl _).alloc _).trans hbx3)⟩
            case measure => simp [intOf]; omega
        · by_cases e2 : d.Step = 1
          · have ht : decide (0 < k) = false := by first | (rw [decide_eq_false_iff_not]; omega) | (rw [decide_eq_true_iff]; omega)
            have HV := Lib.hid (show addSpan (decide (k = 0)) out d = (((out ++ t1) ++ chB 45) ++ t2) by rw [HAD.out, if_pos e2, if_neg e1, show decide (k = 0) = true by rw [decide_eq_true_iff]; exact hk0, if_pos rfl])
            have f1 : (d.Lo != d.Hi) = true := by rw [bne_iff_ne]; exact e1
            have f2 : decide (d.Lo < d.Hi) = true := by rw [decide_eq_true_iff]; omega
            have f3 : (d.Step != 1) = false := by rw [bne_eq_false_iff_eq]; exact e2
            have f4 : decide (1 < d.Step) = false := by rw [decide_eq_false_iff_not]; omega
            clear e1 e2 hk0
            have z0 : (out).size + (t1).size ≤ 9223372036854775807 := by have q44 : (⟨#[44]⟩ : ByteArray).size = 1 := rfl; have q45 : (⟨#[45]⟩ : ByteArray).size = 1 := rfl; have q58 : (⟨#[58]⟩ : ByteArray).size = 1 := rfl; (try simp only [ByteArray.size_append]); omega
            have z1 : ((out ++ t1)).size + ((⟨#[45]⟩ : ByteArray)).size ≤ 9223372036854775807 := by have q44 : (⟨#[44]⟩ : ByteArray).size = 1 := rfl; have q45 : (⟨#[45]⟩ : ByteArray).size = 1 := rfl; have q58 : (⟨#[58]⟩ : ByteArray).size = 1 := rfl; (try simp only [ByteArray.size_append]); omega
            have z2 : (((out ++ t1) ++ (⟨#[45]⟩ : ByteArray))).size + (t2).size ≤ 9223372036854775807 := by have q44 : (⟨#[44]⟩ : ByteArray).size = 1 := rfl; have q45 : (⟨#[45]⟩ : ByteArray).size = 1 := rfl; have q58 : (⟨#[58]⟩ : ByteArray).size = 1 := rfl; (try simp only [ByteArray.size_append]); omega
            have zz : ((((out ++ t1) ++ chB 45) ++ t2)).size ≤ 40 * (k + 1) := by simp only [ByteArray.size_append]; (try simp only [chB_size]); omega
            go_wp2_with fail
            refine (H1.out _).mono ?_
            rintro e w2 ⟨rfl, hb2⟩
            have hbx2 : Ext (wr.alloc (.cells #[.int .i64 d.Lo, .int .i64 d.Hi, .int .i64 d.Step] 46)) w2 := hb2
            have y20 := hbx2.cell (cell_box wr [.int .i64 d.Lo, .int .i64 d.Hi, .int .i64 d.Step] 46 0 _ rfl)
            have y21 := hbx2.cell (cell_box wr [.int .i64 d.Lo, .int .i64 d.Hi, .int .i64 d.Step] 46 1 _ rfl)
            have y22 := hbx2.cell (cell_box wr [.int .i64 d.Lo, .int .i64 d.Hi, .int .i64 d.Step] 46 2 _ rfl)
            have hz2 : wr.heap.size < w2.heap.size := by have := hbx2.le; simp at this; omega
            clear c0 c1 c2
            go_wp2_with fail
            refine (H2.out _).mono ?_
            rintro e w3 ⟨rfl, hb3⟩
            have hbx3 : Ext (wr.alloc (.cells #[.int .i64 d.Lo, .int .i64 d.Hi, .int .i64 d.Step] 46)) w3 := hbx2.trans hb3
            have y30 := hbx3.cell (cell_box wr [.int .i64 d.Lo, .int .i64 d.Hi, .int .i64 d.Step] 46 0 _ rfl)
            have y31 := hbx3.cell (cell_box wr [.int .i64 d.Lo, .int .i64 d.Hi, .int .i64 d.Step] 46 1 _ rfl)
            have y32 := hbx3.cell (cell_box wr [.int .i64 d.Lo, .int .i64 d.Hi, .int .i64 d.Step] 46 2 _ rfl)
            have hz3 : wr.heap.size < w3.heap.size := by have := hbx3.le; simp at this; omega
            go_wp2
            go_roundw
            case rel => exact ⟨k + 1, _, by omega, by go_num, rfl, zz, Lib.hid (by rw [HEX.out, HV.out] <;> rfl), hbr.trans (((Ext.refl _).alloc _).trans hbx3)⟩
            case measure => simp [intOf]; omega
          · have ht : decide (0 < k) = false := by first | (rw [decide_eq_false_iff_not]; omega) | (rw [decide_eq_true_iff]; omega)
            have HV := Lib.hid (show addSpan (decide (k = 0)) out d = (((((out ++ t1) ++ chB 45) ++ t2) ++ chB 58) ++ t3) by rw [HAD.out, if_neg e2, if_neg e1, show decide (k = 0) = true by rw [decide_eq_true_iff]; exact hk0, if_pos rfl])
            have f1 : (d.Lo != d.Hi) = true := by rw [bne_iff_ne]; exact e1
            have f2 : decide (d.Lo < d.Hi) = true := by rw [decide_eq_true_iff]; omega
            have f3 : (d.Step != 1) = true := by rw [bne_iff_ne]; exact e2
            have f4 : decide (1 < d.Step) = true := by rw [decide_eq_true_iff]; omega
            clear e1 e2 hk0
            have z0 : (out).size + (t1).size ≤ 9223372036854775807 := by have q44 : (⟨#[44]⟩ : ByteArray).size = 1 := rfl; have q45 : (⟨#[45]⟩ : ByteArray).size = 1 := rfl; have q58 : (⟨#[58]⟩ : ByteArray).size = 1 := rfl; (try simp only [ByteArray.size_append]); omega
            have z1 : ((out ++ t1)).size + ((⟨#[45]⟩ : ByteArray)).size ≤ 9223372036854775807 := by have q44 : (⟨#[44]⟩ : ByteArray).size = 1 := rfl; have q45 : (⟨#[45]⟩ : ByteArray).size = 1 := rfl; have q58 : (⟨#[58]⟩ : ByteArray).size = 1 := rfl; (try simp only [ByteArray.size_append]); omega
            have z2 : (((out ++ t1) ++ (⟨#[45]⟩ : ByteArray))).size + (t2).size ≤ 9223372036854775807 := by have q44 : (⟨#[44]⟩ : ByteArray).size = 1 := rfl; have q45 : (⟨#[45]⟩ : ByteArray).size = 1 := rfl; have q58 : (⟨#[58]⟩ : ByteArray).size = 1 := rfl; (try simp only [ByteArray.size_append]); omega
            have z3 : ((((out ++ t1) ++ (⟨#[45]⟩ : ByteArray)) ++ t2)).size + ((⟨#[58]⟩ : ByteArray)).size ≤ 9223372036854775807 := by have q44 : (⟨#[44]⟩ : ByteArray).size = 1 := rfl; have q45 : (⟨#[45]⟩ : ByteArray).size = 1 := rfl; have q58 : (⟨#[58]⟩ : ByteArray).size = 1 := rfl; (try simp only [ByteArray.size_append]); omega
            have z4 : (((((out ++ t1) ++ (⟨#[45]⟩ : ByteArray)) ++ t2) ++ (⟨#[58]⟩ : ByteArray))).size + (t3).size ≤ 9223372036854775807 := by have q44 : (⟨#[44]⟩ : ByteArray).size = 1 := rfl; have q45 : (⟨#[45]⟩ : ByteArray).size = 1 := rfl; have q58 : (⟨#[58]⟩ : ByteArray).size = 1 := rfl; (try simp only [ByteArray.size_append]); omega
            have zz : ((((((out ++ t1) ++ chB 45) ++ t2) ++ chB 58) ++ t3)).size ≤ 40 * (k + 1) := by simp only [ByteArray.size_append]; (try simp only [chB_size]); omega
            go_wp2_with fail
            refine (H1.out _).mono ?_
            rintro e w2 ⟨rfl, hb2⟩
            have hbx2 : Ext (wr.alloc (.cells #[.int .i64 d.Lo, .int .i64 d.Hi, .int .i64 d.Step] 46)) w2 := hb2
            have y20 := hbx2.cell (cell_box wr [.int .i64 d.Lo, .int .i64 d.Hi, .int .i64 d.Step] 46 0 _ rfl)
            have y21 := hbx2.cell (cell_box wr [.int .i64 d.Lo, .int .i64 d.Hi, .int .i64 d.Step] 46 1 _ rfl)
            have y22 := hbx2.cell (cell_box wr [.int .i64 d.Lo, .int .i64 d.Hi, .int .i64 d.Step] 46 2 _ rfl)
            have hz2 : wr.heap.size < w2.heap.size := by have := hbx2.le; simp at this; omega
            clear c0 c1 c2
            go_wp2_with fail
            refine (H2.out _).mono ?_
            rintro e w3 ⟨rfl, hb3⟩
            have hbx3 : Ext (wr.alloc (.cells #[.int .i64 d.Lo, .int .i64 d.Hi, .int .i64 d.Step] 46)) w3 := hbx2.trans hb3
            have y30 := hbx3.cell (cell_box wr [.int .i64 d.Lo, .int .i64 d.Hi, .int .i64 d.Step] 46 0 _ rfl)
            have y31 := hbx3.cell (cell_box wr [.int .i64 d.Lo, .int .i64 d.Hi, .int .i64 d.Step] 46 1 _ rfl)
            have y32 := hbx3.cell (cell_box wr [.int .i64 d.Lo, .int .i64 d.Hi, .int .i64 d.Step] 46 2 _ rfl)
            have hz3 : wr.heap.size < w3.heap.size := by have := hbx3.le; simp at this; omega
            go_wp2_with fail
            refine (H3.out _).mono ?_
            rintro e w4 ⟨rfl, hb4⟩
            have hbx4 : Ext (wr.alloc (.cells #[.int .i64 d.Lo, .int .i64 d.Hi, .int .i64 d.Step] 46)) w4 := hbx3.trans hb4
            have y40 := hbx4.cell (cell_box wr [.int .i64 d.Lo, .int .i64 d.Hi, .int .i64 d.Step] 46 0 _ rfl)
            have y41 := hbx4.cell (cell_box wr [.int .i64 d.Lo, .int .i64 d.Hi, .int .i64 d.Step] 46 1 _ rfl)
            have y42 := hbx4.cell (cell_box wr [.int .i64 d.Lo, .int .i64 d.Hi, .int .i64 d.Step] 46 2 _ rfl)
            have hz4 : wr.heap.size < w4.heap.size := by have := hbx4.le; simp at this; omega
            go_wp2
            go_roundw
            case rel => exact ⟨k + 1, _, by omega, by go_num, rfl, zz, Lib.hid (by rw [HEX.out, HV.out] <;> rfl), hbr.trans (((Ext.refl _).alloc _).trans hbx4)⟩
            case measure => simp [intOf]; omega
      · by_cases e1 : d.Lo = d.Hi
        · by_cases e2 : d.Step = 1
          · have ht : decide (0 < k) = true := by first | (rw [decide_eq_false_iff_not]; omega) | (rw [decide_eq_true_iff]; omega)
            have HV := Lib.hid (show addSpan (decide (k = 0)) out d = ((out ++ chB 44) ++ t1) by rw [HAD.out, if_pos e2, if_pos e1, show decide (k = 0) = false by rw [decide_eq_false_iff_not]; exact hk0, if_neg Bool.false_ne_true])
            have f1 : (d.Lo != d.Hi) = false := by rw [bne_eq_false_iff_eq]; exact e1
            have f2 : decide (d.Lo < d.Hi) = false := by rw [decide_eq_false_iff_not]; omega
            have f3 : (d.Step != 1) = false := by rw [bne_eq_false_iff_eq]; exact e2
            have f4 : decide (1 < d.Step) = false := by rw [decide_eq_false_iff_not]; omega
            clear e1 e2 hk0
            have z0 : (out).size + ((⟨#[44]⟩ : ByteArray)).size ≤ 9223372036854775807 := by have q44 : (⟨#[44]⟩ : ByteArray).size = 1 := rfl; have q45 : (⟨#[45]⟩ : ByteArray).size = 1 := rfl; have q58 : (⟨#[58]⟩ : ByteArray).size = 1 := rfl; (try simp only [ByteArray.size_append]); omega
            have z1 : ((out ++ (⟨#[44]⟩ : ByteArray))).size + (t1).size ≤ 9223372036854775807 := by have q44 : (⟨#[44]⟩ : ByteArray).size = 1 := rfl; have q45 : (⟨#[45]⟩ : ByteArray).size = 1 := rfl; have q58 : (⟨#[58]⟩ : ByteArray).size = 1 := rfl; (try simp only [ByteArray.size_append]); omega
            have zz : (((out ++ chB 44) ++ t1)).size ≤ 40 * (k + 1) := by simp only [ByteArray.size_append]; (try simp only [chB_size]); omega
            go_wp2_with fail
            refine (H1.out _).mono ?_
            rintro e w2 ⟨rfl, hb2⟩
            have hbx2 : Ext (wr.alloc (.cells #[.int .i64 d.Lo, .int .i64 d.Hi, .int .i64 d.Step] 46)) w2 := hb2
            have y20 := hbx2.cell (cell_box wr [.int .i64 d.Lo, .int .i64 d.Hi, .int .i64 d.Step] 46 0 _ rfl)
            have y21 := hbx2.cell (cell_box wr [.int .i64 d.Lo, .int .i64 d.Hi, .int .i64 d.Step] 46 1 _ rfl)
            have y22 := hbx2.cell (cell_box wr [.int .i64 d.Lo, .int .i64 d.Hi, .int .i64 d.Step] 46 2 _ rfl)
            have hz2 : wr.heap.size < w2.heap.size := by have := hbx2.le; simp at this; omega
            clear c0 c1 c2
            go_wp2
            go_roundw
            case rel => exact ⟨k + 1, _, by omega, by go_num, rfl, zz, Lib.hid (by rw [HEX.out, HV.out] <;> rfl), hbr.trans (((Ext.refl _).alloc _).trans hbx2)⟩
            case measure => simp [intOf]; omega
          · have ht : decide (0 < k) = true := by first | (rw [decide_eq_false_iff_not]; omega) | (rw [decide_eq_true_iff]; omega)
            have HV := Lib.hid (show addSpan (decide (k = 0)) out d = ((((out ++ chB 44) ++ t1) ++ chB 58) ++ t3) by rw [HAD.out, if_neg e2, if_pos e1, show decide (k = 0) = false by rw [decide_eq_false_iff_not]; exact hk0, if_neg Bool.false_ne_true])
            have f1 : (d.Lo != d.Hi) = false := by rw [bne_eq_false_iff_eq]; exact e1
            have f2 : decide (d.Lo < d.Hi) = false := by rw [decide_eq_false_iff_not]; omega
            have f3 : (d.Step != 1) = true := by rw [bne_iff_ne]; exact e2
            have f4 : decide (1 < d.Step) = true := by rw [decide_eq_true_iff]; omega
            clear e1 e2 hk0
            have z0 : (out).size + ((⟨#[44]⟩ : ByteArray)).size ≤ 9223372036854775807 := by have q44 : (⟨#[44]⟩ : ByteArray).size = 1 := rfl; have q45 : (⟨#[45]⟩ : ByteArray).size = 1 := rfl; have q58 : (⟨#[58]⟩ : ByteArray).size = 1 := rfl; (try simp only [ByteArray.size_append]); omega
            have z1 : ((out ++ (⟨#[44]⟩ : ByteArray))).size + (t1).size ≤ 9223372036854775807 := by have q44 : (⟨#[44]⟩ : ByteArray).size = 1 := rfl; have q45 : (⟨#[45]⟩ : ByteArray).size = 1 := rfl; have q58 : (⟨#[58]⟩ : ByteArray).size = 1 := rfl; (try simp only [ByteArray.size_append]); omega
            have z2 : (((out ++ (⟨#[44]⟩ : ByteArray)) ++ t1)).size + ((⟨#[58]⟩ : ByteArray)).size ≤ 9223372036854775807 := by have q44 : (⟨#[44]⟩ : ByteArray).size = 1 := rfl; have q45 : (⟨#[45]⟩ : ByteArray).size = 1 := rfl; have q58 : (⟨#[58]⟩ : ByteArray).size = 1 := rfl; (try simp only [ByteArray.size_append]); omega
            have z3 : ((((out ++ (⟨#[44]⟩ : ByteArray)) ++ t1) ++ (⟨#[58]⟩ : ByteArray))).size + (t3).size ≤ 9223372036854775807 := by have q44 : (⟨#[44]⟩ : ByteArray).size = 1 := rfl; have q45 : (⟨#[45]⟩ : ByteArray).size = 1 := rfl; have q58 : (⟨#[58]⟩ : ByteArray).size = 1 := rfl; (try simp only [ByteArray.size_append]); omega
            have zz : (((((out ++ chB 44) ++ t1) ++ chB 58) ++ t3)).size ≤ 40 * (k + 1) := by simp only [ByteArray.size_append]; (try simp only [chB_size]); omega
            go_wp2_with fail
            refine (H1.out _).mono ?_
            rintro e w2 ⟨rfl, hb2⟩
            have hbx2 : Ext (wr.alloc (.cells #[.int .i64 d.Lo, .int .i64 d.Hi, .int .i64 d.Step] 46)) w2 := hb2
            have y20 := hbx2.cell (cell_box wr [.int .i64 d.Lo, .int .i64 d.Hi, .int .i64 d.Step] 46 0 _ rfl)
            have y21 := hbx2.cell (cell_box wr [.int .i64 d.Lo, .int .i64 d.Hi, .int .i64 d.Step] 46 1 _ rfl)
            have y22 := hbx2.cell (cell_box wr [.int .i64 d.Lo, .int .i64 d.Hi, .int .i64 d.Step] 46 2 _ rfl)
            have hz2 : wr.heap.size < w2.heap.size := by have := hbx2.le; simp at this; omega
            clear c0 c1 c2
            go_wp2_with fail
            refine (H3.out _).mono ?_
            rintro e w3 ⟨rfl, hb3⟩
            have hbx3 : Ext (wr.alloc (.cells #[.int .i64 d.Lo, .int .i64 d.Hi, .int .i64 d.Step] 46)) w3 := hbx2.trans hb3
            have y30 := hbx3.cell (cell_box wr [.int .i64 d.Lo, .int .i64 d.Hi, .int .i64 d.Step] 46 0 _ rfl)
            have y31 := hbx3.cell (cell_box wr [.int .i64 d.Lo, .int .i64 d.Hi, .int .i64 d.Step] 46 1 _ rfl)
            have y32 := hbx3.cell (cell_box wr [.int .i64 d.Lo, .int .i64 d.Hi, .int .i64 d.Step] 46 2 _ rfl)
            have hz3 : wr.heap.size < w3.heap.size := by have := hbx3.le; simp at this; omega
            go_wp2
            go_roundw
            case rel => exact ⟨k + 1, _, by omega, by go_num, rfl, zz, Lib.hid (by rw [HEX.out, HV.out] <;> rfl), hbr.trans (((Ext.refl _).alloc _).trans hbx3)⟩
            case measure => simp [intOf]; omega
        · by_cases e2 : d.Step = 1
          · have ht : decide (0 < k) = true := by first | (rw [decide_eq_false_iff_not]; omega) | (rw [decide_eq_true_iff]; omega)
            have HV := Lib.hid (show addSpan (decide (k = 0)) out d = ((((out ++ chB 44) ++ t1) ++ chB 45) ++ t2) by rw [HAD.out, if_pos e2, if_neg e1, show decide (k = 0) = false by rw [decide_eq_false_iff_not]; exact hk0, if_neg Bool.false_ne_true])
            have f1 : (d.Lo != d.Hi) = true := by rw [bne_iff_ne]; exact e1
            have f2 : decide (d.Lo < d.Hi) = true := by rw [decide_eq_true_iff]; omega
            have f3 : (d.Step != 1) = false := by rw [bne_eq_false_iff_eq]; exact e2
            have f4 : decide (1 < d.Step) = false := by rw [decide_eq_false_iff_not]; omega
            clear e1 e2 hk0
            have z0 : (out).size + ((⟨#[44]⟩ : ByteArray)).size ≤ 9223372036854775807 := by have q44 : (⟨#[44]⟩ : ByteArray).size = 1 := rfl; have q45 : (⟨#[45]⟩ : ByteArray).size = 1 := rfl; have q58 : (⟨#[58]⟩ : ByteArray).size = 1 := rfl; (try simp only [ByteArray.size_append]); omega
            have z1 : ((out ++ (⟨#[44]⟩ : ByteArray))).size + (t1).size ≤ 9223372036854775807 := by have q44 : (⟨#[44]⟩ : ByteArray).size = 1 := rfl; have q45 : (⟨#[45]⟩ : ByteArray).size = 1 := rfl; have q58 : (⟨#[58]⟩ : ByteArray).size = 1 := rfl; (try simp only [ByteArray.size_append]); omega
            have z2 : (((out ++ (⟨#[44]⟩ : ByteArray)) ++ t1)).size + ((⟨#[45]⟩ : ByteArray)).size ≤ 9223372036854775807 := by have q44 : (⟨#[44]⟩ : ByteArray).size = 1 := rfl; have q45 : (⟨#[45]⟩ : ByteArray).size = 1 := rfl; have q58 : (⟨#[58]⟩ : ByteArray).size = 1 := rfl; (try simp only [ByteArray.size_append]); omega
            have z3 : ((((out ++ (⟨#[44]⟩ : ByteArray)) ++ t1) ++ (⟨#[45]⟩ : ByteArray))).size + (t2).size ≤ 9223372036854775807 := by have q44 : (⟨#[44]⟩ : ByteArray).size = 1 := rfl; have q45 : (⟨#[45]⟩ : ByteArray).size = 1 := rfl; have q58 : (⟨#[58]⟩ : ByteArray).size = 1 := rfl; (try simp only [ByteArray.size_append]); omega
            have zz : (((((out ++ chB 44) ++ t1) ++ chB 45) ++ t2)).size ≤ 40 * (k + 1) := by simp only [ByteArray.size_append]; (try simp only [chB_size]); omega
            go_wp2_with fail
            refine (H1.out _).mono ?_
            rintro e w2 ⟨rfl, hb2⟩
            have hbx2 : Ext (wr.alloc (.cells #[.int .i64 d.Lo, .int .i64 d.Hi, .int .i64 d.Step] 46)) w2 := hb2
            have y20 := hbx2.cell (cell_box wr [.int .i64 d.Lo, .int .i64 d.Hi, .int .i64 d.Step] 46 0 _ rfl)
            have y21 := hbx2.cell (cell_box wr [.int .i64 d.Lo, .int .i64 d.Hi, .int .i64 d.Step] 46 1 _ rfl)
            have y22 := hbx2.cell (cell_box wr [.int .i64 d.Lo, .int .i64 d.Hi, .int .i64 d.Step] 46 2 _ rfl)
            have hz2 : wr.heap.size < w2.heap.size := by have := hbx2.le; simp at this; omega
            clear c0 c1 c2
            go_wp2_with fail
            refine (H2.out _).mono ?_
            rintro e w3 ⟨rfl, hb3⟩
            have hbx3 : Ext (wr.alloc (.cells #[.int .i64 d.Lo, .int .i64 d.Hi, .int .i64 d.Step] 46)) w3 := hbx2.trans hb3
            have y30 := hbx3.cell (cell_box wr [.int .i64 d.Lo, .int .i64 d.Hi, .int .i64 d.Step] 46 0 _ rfl)
            have y31 := hbx3.cell (cell_box wr [.int .i64 d.Lo, .int .i64 d.Hi, .int .i64 d.Step] 46 1 _ rfl)
            have y32 := hbx3.cell (cell_box wr [.int .i64 d.Lo, .int .i64 d.Hi, .int .i64 d.Step] 46 2 _ rfl)
            have hz3 : wr.heap.size < w3.heap.size := by have := hbx3.le; simp at this; omega
            go_wp2
            go_roundw
            case rel => exact ⟨k + 1, _, by omega, by go_num, rfl, zz, Lib.hid (by rw [HEX.out, HV.out] <;> rfl), hbr.trans (((Ext.refl _).alloc _).trans hbx3)⟩
            case measure => simp [intOf]; omega
          · have ht : decide (0 < k) = true := by first | (rw [decide_eq_false_iff_not]; omega) | (rw [decide_eq_true_iff]; omega)
            have HV := Lib.hid (show addSpan (decide (k = 0)) out d = ((((((out ++ chB 44) ++ t1) ++ chB 45) ++ t2) ++ chB 58) ++ t3) by rw [HAD.out, if_neg e2, if_neg e1, show decide (k = 0) = false by rw [decide_eq_false_iff_not]; exact hk0, if_neg Bool.false_ne_true])
            have f1 : (d.Lo != d.Hi) = true := by rw [bne_iff_ne]; exact e1
            have f2 : decide (d.Lo < d.Hi) = true := by rw [decide_eq_true_iff]; omega
            have f3 : (d.Step != 1) = true := by rw [bne_iff_ne]; exact e2
            have f4 : decide (1 < d.Step) = true := by rw [decide_eq_true_iff]; omega
            clear e1 e2 hk0
            have z0 : (out).size + ((⟨#[44]⟩ : ByteArray)).size ≤ 9223372036854775807 := by have q44 : (⟨#[44]⟩ : ByteArray).size = 1 := rfl; have q45 : (⟨#[45]⟩ : ByteArray).size = 1 := rfl; have q58 : (⟨#[58]⟩ : ByteArray).size = 1 := rfl; (try simp only [ByteArray.size_append]); omega
            have z1 : ((out ++ (⟨#[44]⟩ : ByteArray))).size + (t1).size ≤ 9223372036854775807 := by have q44 : (⟨#[44]⟩ : ByteArray).size = 1 := rfl; have q45 : (⟨#[45]⟩ : ByteArray).size = 1 := rfl; have q58 : (⟨#[58]⟩ : ByteArray).size = 1 := rfl; (try simp only [ByteArray.size_append]); omega
            have z2 : (((out ++ (⟨#[44]⟩ : ByteArray)) ++ t1)).size + ((⟨#[45]⟩ : ByteArray)).size ≤ 9223372036854775807 := by have q44 : (⟨#[44]⟩ : ByteArray).size = 1 := rfl; have q45 : (⟨#[45]⟩ : ByteArray).size = 1 := rfl; have q58 : (⟨#[58]⟩ : ByteArray).size = 1 := rfl; (try simp only [ByteArray.size_append]); omega
            have z3 : ((((out ++ (⟨#[44]⟩ : ByteArray)) ++ t1) ++ (⟨#[45]⟩ : ByteArray))).size + (t2).size ≤ 9223372036854775807 := by have q44 : (⟨#[44]⟩ : ByteArray).size = 1 := rfl; have q45 : (⟨#[45]⟩ : ByteArray).size = 1 := rfl; have q58 : (⟨#[58]⟩ : ByteArray).size = 1 := rfl; (try simp only [ByteArray.size_append]); omega
            have z4 : (((((out ++ (⟨#[44]⟩ : ByteArray)) ++ t1) ++ (⟨#[45]⟩ : ByteArray)) ++ t2)).size + ((⟨#[58]⟩ : ByteArray)).size ≤ 9223372036854775807 := by have q44 : (⟨#[44]⟩ : ByteArray).size = 1 := rfl; have q45 : (⟨#[45]⟩ : ByteArray).size = 1 := rfl; have q58 : (⟨#[58]⟩ : ByteArray).size = 1 := rfl; (try simp only [ByteArray.size_append]); omega
            have z5 : ((((((out ++ (⟨#[44]⟩ : ByteArray)) ++ t1) ++ (⟨#[45]⟩ : ByteArray)) ++ t2) ++ (⟨#[58]⟩ : ByteArray))).size + (t3).size ≤ 9223372036854775807 := by have q44 : (⟨#[44]⟩ : ByteArray).size = 1 := rfl; have q45 : (⟨#[45]⟩ : ByteArray).size = 1 := rfl; have q58 : (⟨#[58]⟩ : ByteArray).size = 1 := rfl; (try simp only [ByteArray.size_append]); omega
            have zz : (((((((out ++ chB 44) ++ t1) ++ chB 45) ++ t2) ++ chB 58) ++ t3)).size ≤ 40 * (k + 1) := by simp only [ByteArray.size_append]; (try simp only [chB_size]); omega
            go_wp2_with fail
            refine (H1.out _).mono ?_
            rintro e w2 ⟨rfl, hb2⟩
            have hbx2 : Ext (wr.alloc (.cells #[.int .i64 d.Lo, .int .i64 d.Hi, .int .i64 d.Step] 46)) w2 := hb2
            have y20 := hbx2.cell (cell_box wr [.int .i64 d.Lo, .int .i64 d.Hi, .int .i64 d.Step] 46 0 _ rfl)
            have y21 := hbx2.cell (cell_box wr [.int .i64 d.Lo, .int .i64 d.Hi, .int .i64 d.Step] 46 1 _ rfl)
            have y22 := hbx2.cell (cell_box wr [.int .i64 d.Lo, .int .i64 d.Hi, .int .i64 d.Step] 46 2 _ rfl)
            have hz2 : wr.heap.size < w2.heap.size := by have := hbx2.le; simp at this; omega
            clear c0 c1 c2
            go_wp2_with fail
            refine (H2.out _).mono ?_
            rintro e w3 ⟨rfl, hb3⟩
            have hbx3 : Ext (wr.alloc (.cells #[.int .i64 d.Lo, .int .i64 d.Hi, .int .i64 d.Step] 46)) w3 := hbx2.trans hb3
            have y30 := hbx3.cell (cell_box wr [.int .i64 d.Lo, .int .i64 d.Hi, .int .i64 d.Step] 46 0 _ rfl)
            have y31 := hbx3.cell (cell_box wr [.int .i64 d.Lo, .int .i64 d.Hi, .int .i64 d.Step] 46 1 _ rfl)
            have y32 := hbx3.cell (cell_box wr [.int .i64 d.Lo, .int .i64 d.Hi, .int .i64 d.Step] 46 2 _ rfl)
            have hz3 : wr.heap.size < w3.heap.size := by have := hbx3.le; simp at this; omega
            go_wp2_with fail
            refine (H3.out _).mono ?_
            rintro e w4 ⟨rfl, hb4⟩
            have hbx4 : Ext (wr.alloc (.cells #[.int .i64 d.Lo, .int .i64 d.Hi, .int .i64 d.Step] 46)) w4 := hbx3.trans hb4
            have y40 := hbx4.cell (cell_box wr [.int .i64 d.Lo, .int .i64 d.Hi, .int .i64 d.Step] 46 0 _ rfl)
            have y41 := hbx4.cell (cell_box wr [.int .i64 d.Lo, .int .i64 d.Hi, .int .i64 d.Step] 46 1 _ rfl)
            have y42 := hbx4.cell (cell_box wr [.int .i64 d.Lo, .int .i64 d.Hi, .int .i64 d.Step] 46 2 _ rfl)
            have hz4 : wr.heap.size < w4.heap.size := by have := hbx4.le; simp at this; omega
            go_wp2
            go_roundw
            case rel => exact ⟨k + 1, _, by omega, by go_num, rfl, zz, Lib.hid (by rw [HEX.out, HV.out] <;> rfl), hbr.trans (((Ext.refl _).alloc _).trans hbx4)⟩
            case measure => simp [intOf]; omega
    · have HZ := Lib.hid (show textGo 0 ByteArray.empty xs = out by rw [HE.out, List.drop_eq_nil_of_le (by have := HN.out; omega)]; rfl)
      have q1 := hb0.cell (cell_box w [.slice A n c, .int .i64 m] 25 1 _ rfl)
      have hol : out.size ≤ 320 := by omega
      clear h
      by_cases hm : 0 < m
      · have HR := Lib.hid (show specText xs m = out ++ chB 37 ++ numText m.toNat by rw [HF.out, if_pos hm, HZ.out])
        have H1 := Lib.hid (HNT.out m (by omega) (by omega))
        have s1 := numText_size m.toNat (by omega)
        generalize numText m.toNat = t1 at *
        have z1 : out.size + (⟨#[37]⟩ : ByteArray).size ≤ 9223372036854775807 := by have q37 : (⟨#[37]⟩ : ByteArray).size = 1 := rfl; omega
        have z2 : (out ++ (⟨#[37]⟩ : ByteArray)).size + t1.size ≤ 9223372036854775807 := by have q37 : (⟨#[37]⟩ : ByteArray).size = 1 := rfl; (try simp only [ByteArray.size_append]); omega
        go_wp2_with fail
        refine (H1.out _).mono ?_
        rintro e w2 ⟨rfl, hb2⟩
        go_wp2
        rw [HR.out]
        exact ret_val rfl rfl rfl (hb.trans hb2)
      · have HR := Lib.hid (show specText xs m = out by rw [HF.out, if_neg hm, HZ.out])
        go_wp2
        rw [HR.out]
        exact ret_val rfl rfl rfl hb
end Go.Proofs.Ytlaoflpgngfbpaa
