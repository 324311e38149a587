/- Contracts over lists of accounts: ranks. -/
import Derived.Test.YtbfambeoboiifaaAcct3
namespace Go.Proofs.Ytbfambeoboiifaa
open Go.RowKit
def aheadB (b a : Account) : Bool := decide (b.Used * a.Share < a.Used * b.Share) || ((b.Used * a.Share == a.Used * b.Share) && Op.bytesLess b.Name.toList a.Name.toList)
def rankN (l : List Account) (a : Account) : Nat := l.countP (aheadB · a)
def ranksL (l : List Account) : List Int := if acctsB l = true then l.map (fun a => (rankN l a : Int)) else []
theorem rankN_le (l : List Account) (a : Account) : rankN l a ≤ l.length := List.countP_le_length
theorem count_succ {l : List Account} {a x : Account} {k : Nat} (hx : l[k]? = some x) : rankN (l.take (k + 1)) a = rankN (l.take k) a + if aheadB x a = true then 1 else 0 := by
  unfold rankN; rw [take_succ hx, List.countP_append, List.countP_singleton]
theorem rank_in {l : List Account} {n : Nat} (h : n ≤ 12) (hl : l.length = n) (a : Account) : In64 (rankN l a : Int) := by
  have := rankN_le l a
  unfold In64; omega
theorem prod_ok {u s : Int} (h0 : 0 ≤ u) (h1 : u ≤ 1000000000) (h2 : 1 ≤ s) (h3 : s ≤ 1000) : 0 ≤ u * s ∧ u * s ≤ 1000000000000 := by
  have a := Int.mul_nonneg h0 (by omega : 0 ≤ s)
  have b := Int.mul_le_mul h1 h3 (by omega) (by omega : (0 : Int) ≤ 1000000000)
  omega
theorem Int.one (y : Int) : ∀ u ∈ encInt y, u.oneCell' = true := by
  intro u hu; simp [encInt] at hu; subst hu; rfl
theorem Int.info : (Try.prog.info? 3).map (fun i => (i.zero, i.size, i.bytes)) = some (some (.int .i64 0), 1, 8) := by kernel_rfl
set_option maxHeartbeats 1000000 in
theorem l11Ahead_c (b a : Account) (w : World) (hb : 1 ≤ b.Share ∧ b.Share ≤ 1000 ∧ 0 ≤ b.Used ∧ b.Used ≤ 1000000000) (ha : 1 ≤ a.Share ∧ a.Share ≤ 1000 ∧ 0 ≤ a.Used ∧ a.Used ≤ 1000000000) :
    Calls Try.prog 47 #[.agg #[.string b.Name, .int .i64 b.Share, .int .i64 b.Used], .agg #[.string a.Name, .int .i64 a.Share, .int .i64 a.Used]] w (Ret w (.bool (aheadB b a))) := by
  obtain ⟨p1, p2⟩ := prod_ok hb.2.2.1 hb.2.2.2 ha.1 ha.2.1
  obtain ⟨p3, p4⟩ := prod_ok ha.2.2.1 ha.2.2.2 hb.1 hb.2.1
  have q1 : wrap64 (b.Used * a.Share) = b.Used * a.Share := IntWalk.wrap64_in _ ⟨by omega, by omega⟩
  have q2 : wrap64 (a.Used * b.Share) = a.Used * b.Share := IntWalk.wrap64_in _ ⟨by omega, by omega⟩
  rcases Bool.eq_false_or_eq_true (decide (b.Used * a.Share < a.Used * b.Share)) with h1 | h1
  · have H1 := Lib.hid h1
    go_enter Try.func47, Try.ntmps47
    go_wp2
    exact ret_bool rfl rfl rfl (by unfold aheadB; rw [H1.out]; rfl) (by repeat (first | exact Ext.refl _ | assumption | apply Ext.alloc | apply Ext.drewN | apply Ext.drew | (refine Ext.setCell ?_ (by first | (simp; done) | (simp; omega) | omega) _) | (refine Ext.trans ?_ (by assumption))))
  · rcases Bool.eq_false_or_eq_true (b.Used * a.Share == a.Used * b.Share) with h2 | h2
    all_goals
      have H1 := Lib.hid h1
      have H2 := Lib.hid h2
      go_enter Try.func47, Try.ntmps47
      go_wp2
      exact ret_bool rfl rfl rfl (by unfold aheadB; rw [H1.out, H2.out]; first | rfl | simp) (by repeat (first | exact Ext.refl _ | assumption | apply Ext.alloc | apply Ext.drewN | apply Ext.drew | (refine Ext.setCell ?_ (by first | (simp; done) | (simp; omega) | omega) _) | (refine Ext.trans ?_ (by assumption))))
set_option maxHeartbeats 4000000 in
theorem Ranks_c (xs : List Account) (A : Option Addr) (n c : Nat) (w : World) (h : SlAt RAccount 3 w A n xs) (hl : n ≤ maxLen) : Calls Try.prog 14 #[.slice A n c] w (RetOwn RInt 3 1 w (ranksL xs)) := by
  have hl' := hl
  unfold maxLen at hl
  have HN := Lib.hid h.len
  have hM := Flat.mono Account.enc Account.ok
  obtain ⟨i0, hi, hz0, hz1, hz2⟩ := info_parts Int.info
  rcases Bool.eq_false_or_eq_true (acctsB xs) with hB | hB
  · have hn12 : n ≤ 12 := by have := acctsB_len hB; rw [HN.out] at this; exact this
    rw [ranksL, if_pos hB]
    have HB := Lib.hid (acctsB_ok hB)
    go_enter Try.func14, Try.ntmps14
    go_wp2_with ((go_at_call 12; refine (AccountsOk_c xs _ _ _ _ h hl').mono ?_; rintro e w1 ⟨rfl, hb1⟩))
    go_loopw [3, 17] (fun v i wr => ∃ (k : Nat) (A1 : Option Addr) (cap1 : Nat), k ≤ n ∧ i = .int .i64 k ∧ v = .slice A1 k cap1 ∧ wr.ownsRow w.heap.size 3 1 (.slice A1 k cap1) k (((xs.take k).map (fun a => (rankN xs a : Int))).flatMap encInt) ∧ Ext w wr) (fun _ i _ => n - (intOf i).toNat)
    case atStart => exact ⟨0, _, 0, Nat.zero_le _, rfl, rfl, by simpa using owns_base (owns_empty w1 3 1) hb1.le, hb1.alloc _⟩
    case round =>
      obtain ⟨k, A1, cap1, hk, rfl, rfl, ho, hb⟩ := hrel
      by_cases hlt : k < n
      · obtain ⟨b, o, a, cs, rfl, hbw, hx, _, hc, rfl, _⟩ := (h.ext hM hb).at_ hlt
        have f0 := hc 0 _ rfl
        have f1 := hc 1 _ rfl
        have f2 := hc 2 _ rfl
        simp only [Nat.add_zero] at f0
        have HA := Lib.hid (HB.out a (List.mem_of_getElem? hx))
        have HX := Lib.hid hx
        have HO := Lib.hid ho
        clear hc hx ho
        obtain ⟨wo, rfl⟩ : ∃ wo : World, wo = wr := ⟨_, rfl⟩
        go_wp2_with fail
        clear f0 f1 f2
        go_loopw [6, 23] (fun q i wr => ∃ j : Nat, j ≤ n ∧ i = .int .i64 j ∧ q = .int .i64 (rankN (xs.take j) a : Nat) ∧ Ext (wo.alloc (.cells #[.string a.Name, .int .i64 a.Share, .int .i64 a.Used] 30)) wr) (fun _ i _ => n - (intOf i).toNat)
        case atStart => exact ⟨0, Nat.zero_le _, rfl, by simp [rankN], Ext.refl _⟩
        case round =>
          obtain ⟨j, hj, rfl, rfl, hb2⟩ := hrel
          have ca0 := hb2.cell (a := ⟨wo.heap.size, 0, none⟩) (v := .string a.Name) (by simp)
          have ca1 := hb2.cell (a := ⟨wo.heap.size, 1, none⟩) (v := .int .i64 a.Share) (by simp)
          have ca2 := hb2.cell (a := ⟨wo.heap.size, 2, none⟩) (v := .int .i64 a.Used) (by simp)
          have hlo := hb2.le
          simp only [World.size_alloc] at hlo
          have hlo1 : wo.heap.size < wr.heap.size := by omega
          by_cases hlt2 : j < n
          · obtain ⟨b', o', x, cs, e, hbw', hx, _, hc, rfl, _⟩ := (h.ext hM ((hb.alloc _).trans hb2)).at_ hlt2
            simp only [Option.some.injEq, Addr.mk.injEq, and_true] at e
            obtain ⟨rfl, rfl⟩ := e
            have f0 := hc 0 _ rfl
            have f1 := hc 1 _ rfl
            have f2 := hc 2 _ rfl
            simp only [Nat.add_zero] at f0
            have hA := HA.out
            have hX := HB.out x (List.mem_of_getElem? hx)
            obtain ⟨p1, p2⟩ := prod_ok hX.2.2.1 hX.2.2.2 hA.1 hA.2.1
            obtain ⟨p3, p4⟩ := prod_ok hA.2.2.1 hA.2.2.2 hX.1 hX.2.1
            have q1 : wrap64 (x.Used * a.Share) = x.Used * a.Share := IntWalk.wrap64_in _ ⟨by omega, by omega⟩
            have q2 : wrap64 (a.Used * x.Share) = a.Used * x.Share := IntWalk.wrap64_in _ ⟨by omega, by omega⟩
            have q3 : IntKind.i64.wrap (x.Used * a.Share) = x.Used * a.Share := IntWalk.i64_in _ ⟨by omega, by omega⟩
            have q4 : IntKind.i64.wrap (a.Used * x.Share) = a.Used * x.Share := IntWalk.i64_in _ ⟨by omega, by omega⟩
            have HCS := Lib.hid (count_succ (a := a) hx)
            have hrk : rankN (xs.take j) a ≤ 12 := Nat.le_trans (rankN_le _ _) (by rw [List.length_take]; omega)
            have hcx := @Later.cell (wr.alloc (.cells #[.string x.Name, .int .i64 x.Share, .int .i64 x.Used] 30))
            clear hc hx hA hX
            rcases Bool.eq_false_or_eq_true (decide (x.Used * a.Share < a.Used * x.Share)) with h1 | h1
            · have HAH := Lib.hid (show aheadB x a = true by unfold aheadB; rw [h1]; rfl)
              go_wp2
              refine wp_region_ext (by kernel_rfl) (by kernel_rfl) ?_
              repeat (go_big_quiet_step (fail))
              refine wpQuiet_nil ?_
              intro w1 hb1
              have HB1 := Lib.hid hb1
              clear hcx ca0 ca1 ca2 f0 f1 f2 hb1
              go_wp2
              go_roundw
              case rel => exact ⟨j + 1, by omega, by go_num, by rw [HCS.out, HAH.out, if_pos rfl]; go_num, (hb2.alloc _).trans HB1.out⟩
              case measure => simp [intOf]; omega
            · rcases Bool.eq_false_or_eq_true (x.Used * a.Share == a.Used * x.Share) with h2 | h2
              · rcases Bool.eq_false_or_eq_true (Op.bytesLess x.Name.toList a.Name.toList) with h3 | h3
                · have HAH := Lib.hid (show aheadB x a = true by unfold aheadB; rw [h1, h2, h3]; rfl)
                  go_wp2
                  refine wp_region_ext (by kernel_rfl) (by kernel_rfl) ?_
                  repeat (go_big_quiet_step (fail))
                  refine wpQuiet_nil ?_
                  intro w1 hb1
                  have HB1 := Lib.hid hb1
                  clear hcx ca0 ca1 ca2 f0 f1 f2 hb1
                  have ce0 := HB1.out.cell (a := ⟨wr.heap.size, 0, none⟩) (v := .string x.Name) (by simp)
                  have cd0 := ((hb2.alloc (.cells #[.string x.Name, .int .i64 x.Share, .int .i64 x.Used] 30)).trans HB1.out).cell (a := ⟨wo.heap.size, 0, none⟩) (v := .string a.Name) (by simp)
                  go_wp2
                  go_roundw
                  case rel => exact ⟨j + 1, by omega, by go_num, by rw [HCS.out, HAH.out, if_pos rfl]; go_num, (hb2.alloc _).trans HB1.out⟩
                  case measure => simp [intOf]; omega
                · have HAH := Lib.hid (show aheadB x a = false by unfold aheadB; rw [h1, h2, h3]; rfl)
                  go_wp2
                  refine wp_region_ext (by kernel_rfl) (by kernel_rfl) ?_
                  repeat (go_big_quiet_step (fail))
                  refine wpQuiet_nil ?_
                  intro w1 hb1
                  have HB1 := Lib.hid hb1
                  clear hcx ca0 ca1 ca2 f0 f1 f2 hb1
                  have ce0 := HB1.out.cell (a := ⟨wr.heap.size, 0, none⟩) (v := .string x.Name) (by simp)
                  have cd0 := ((hb2.alloc (.cells #[.string x.Name, .int .i64 x.Share, .int .i64 x.Used] 30)).trans HB1.out).cell (a := ⟨wo.heap.size, 0, none⟩) (v := .string a.Name) (by simp)
                  go_wp2
                  go_roundw
                  case rel => exact ⟨j + 1, by omega, by go_num, by rw [HCS.out, HAH.out]; rfl, (hb2.alloc _).trans HB1.out⟩
                  case measure => simp [intOf]; omega
              · have HAH := Lib.hid (show aheadB x a = false by unfold aheadB; rw [h1, h2]; rfl)
                go_wp2
                refine wp_region_ext (by kernel_rfl) (by kernel_rfl) ?_
                repeat (go_big_quiet_step (fail))
                refine wpQuiet_nil ?_
                intro w1 hb1
                have HB1 := Lib.hid hb1
                clear hcx ca0 ca1 ca2 f0 f1 f2 hb1
                go_wp2
                go_roundw
                case rel => exact ⟨j + 1, by omega, by go_num, by rw [HCS.out, HAH.out]; rfl, (hb2.alloc _).trans HB1.out⟩
                case measure => simp [intOf]; omega
          · have hjn : j = n := by omega
            have hrk : rankN (xs.take j) a = rankN xs a := by rw [List.take_of_length_le (by have := HN.out; omega)]
            have hrl : rankN xs a ≤ 12 := Nat.le_trans (rankN_le _ _) (by have := HN.out; omega)
            rw [hrk]
            have HNX := Lib.hid (show (xs.take (k + 1)).map (fun a => (rankN xs a : Int)) = (xs.take k).map (fun a => (rankN xs a : Int)) ++ [(rankN xs a : Int)] by rw [take_succ HX.out]; simp)
            have hbo := (hb.alloc _).trans hb2
            have HOW := Lib.hid (owns_ext (owns_ext HO.out ((Ext.refl wo).alloc _)) hb2)
            have HE1 := Lib.hid hbo
            clear h hrk hbo ca0 ca1 ca2
            go_wp2_with (at_builtin; refine wpList_append_one (.tmp 55) (.tmp 57) _ w.heap.size 3 i0 _ 1 8 (.slice A1 k cap1) k _ (encInt (rankN xs a : Nat)) rfl rfl Try.underlying34 hi hz0 hz1 hz2 rfl (by omega) rfl HOW.out _ rfl (by simp) rfl (Int.one _) (by unfold maxLen; omega) (by omega) HE1.out (Nat.le_refl _) HE1.out.le ?_; intro A2 cap2 w2 ho2 hb3 hs2)
            have HO2 := Lib.hid ho2
            clear ho2 hi hz0 hz1 hz2
            go_wp2
            go_roundw
            case rel => exact ⟨k + 1, A2, cap2, by omega, by go_num, rfl, by rw [HNX.out, List.flatMap_append]; simpa using HO2.out, hb3⟩
            case measure => simp [intOf]; omega
      · have HO := Lib.hid ho
        clear ho hi hz0 hz1 hz2
        go_wp2
        have hkn : k = n := by omega
        subst hkn
        have ho := HO.out
        rw [List.take_of_length_le (by have := HN.out; omega)] at ho
        exact ret_own2 rfl ho (by rw [List.length_map]; exact HN.out) encInt_size (fun y hy => by obtain ⟨x, hx, rfl⟩ := List.mem_map.1 hy; exact rank_in hn12 HN.out x) hb
  · rw [ranksL, if_neg (by rw [hB]; simp)]
    go_enter Try.func14, Try.ntmps14
    go_wp2_with ((go_at_call 12; refine (AccountsOk_c xs _ _ _ _ h hl').mono ?_; rintro e w1 ⟨rfl, hb1⟩))
    exact ret_own2 (ys := []) rfl (World.ownsRow_nil _ _ _ _) rfl encInt_size (fun y hy => by cases hy) hb1
set_option maxHeartbeats 4000000 in
theorem sRanks_c (xs : List Account) (A : Option Addr) (n c : Nat) (w : World) (h : SlAt RAccount 3 w A n xs) (hl : n ≤ maxLen) : Calls Try.prog 15 #[.slice A n c] w (RetOwn RInt 3 1 w (ranksL xs)) := by
  have hl' := hl
  unfold maxLen at hl
  have HN := Lib.hid h.len
  have h1 := h.ext (Flat.mono Account.enc Account.ok) ((Ext.refl w).alloc (.cells #[] 3))
  have hM := Flat.mono Account.enc Account.ok
  obtain ⟨i0, hi, hz0, hz1, hz2⟩ := info_parts Int.info
  rcases Bool.eq_false_or_eq_true (acctsB xs) with hB | hB
  · have hn12 : n ≤ 12 := by have := acctsB_len hB; rw [HN.out] at this; exact this
    rw [ranksL, if_pos hB]
    have HB := Lib.hid (acctsB_ok hB)
    go_enter Try.func15, Try.ntmps15
    go_wp2_with ((go_at_call 46; refine (sAccountsOk_c xs _ _ _ _ h1 hl').mono ?_; rintro e w1 ⟨rfl, hb1⟩))
    go_loopw [3, 16] (fun v i wr => ∃ (k : Nat) (A1 : Option Addr) (cap1 : Nat), k ≤ n ∧ i = .int .i64 k ∧ v = .slice A1 k cap1 ∧ wr.ownsRow w.heap.size 3 1 (.slice A1 k cap1) k (((xs.take k).map (fun a => (rankN xs a : Int))).flatMap encInt) ∧ Ext w wr) (fun _ i _ => n - (intOf i).toNat)
    case atStart => exact ⟨0, _, 0, Nat.zero_le _, rfl, rfl, by simpa using owns_ext (owns_empty w 3 1) hb1, ((Ext.refl w).alloc _).trans hb1⟩
    case round =>
      obtain ⟨k, A1, cap1, hk, rfl, rfl, ho, hb⟩ := hrel
      by_cases hlt : k < n
      · obtain ⟨b, o, a, cs, rfl, hbw, hx, _, hc, rfl, _⟩ := (h.ext hM hb).at_ hlt
        have f0 := hc 0 _ rfl
        have f1 := hc 1 _ rfl
        have f2 := hc 2 _ rfl
        simp only [Nat.add_zero] at f0
        have HA := Lib.hid (HB.out a (List.mem_of_getElem? hx))
        have HX := Lib.hid hx
        have HO := Lib.hid ho
        clear hc hx ho
        obtain ⟨wo, rfl⟩ : ∃ wo : World, wo = wr := ⟨_, rfl⟩
        go_wp2_with fail
        clear f0 f1 f2
        go_loopw [6, 22] (fun q i wr => ∃ j : Nat, j ≤ n ∧ i = .int .i64 j ∧ q = .int .i64 (rankN (xs.take j) a : Nat) ∧ Ext (wo.alloc (.cells #[.string a.Name, .int .i64 a.Share, .int .i64 a.Used] 30)) wr) (fun _ i _ => n - (intOf i).toNat)
        case atStart => exact ⟨0, Nat.zero_le _, rfl, by simp [rankN], Ext.refl _⟩
        case round =>
          obtain ⟨j, hj, rfl, rfl, hb2⟩ := hrel
          have ca0 := hb2.cell (a := ⟨wo.heap.size, 0, none⟩) (v := .string a.Name) (by simp)
          have ca1 := hb2.cell (a := ⟨wo.heap.size, 1, none⟩) (v := .int .i64 a.Share) (by simp)
          have ca2 := hb2.cell (a := ⟨wo.heap.size, 2, none⟩) (v := .int .i64 a.Used) (by simp)
          have hlo := hb2.le
          simp only [World.size_alloc] at hlo
          have hlo1 : wo.heap.size < wr.heap.size := by omega
          by_cases hlt2 : j < n
          · obtain ⟨b', o', x, cs, e, hbw', hx, _, hc, rfl, _⟩ := (h.ext hM ((hb.alloc _).trans hb2)).at_ hlt2
            simp only [Option.some.injEq, Addr.mk.injEq, and_true] at e
            obtain ⟨rfl, rfl⟩ := e
            have f0 := hc 0 _ rfl
            have f1 := hc 1 _ rfl
            have f2 := hc 2 _ rfl
            simp only [Nat.add_zero] at f0
            have hA := HA.out
            have hX := HB.out x (List.mem_of_getElem? hx)
            have HCS := Lib.hid (count_succ (a := a) hx)
            have hrk : rankN (xs.take j) a ≤ 12 := Nat.le_trans (rankN_le _ _) (by rw [List.length_take]; omega)
            clear hc hx
            rcases Bool.eq_false_or_eq_true (aheadB x a) with h1 | h1
            · go_wp2_with ((go_at_call 47; refine (l11Ahead_c x a _ hX hA).mono ?_; rw [h1]; rintro e w1 ⟨rfl, hb1⟩))
              go_roundw
              case rel => exact ⟨j + 1, by omega, by go_num, by rw [HCS.out, h1, if_pos rfl]; go_num, (hb2.alloc _).trans hb1⟩
              case measure => simp [intOf]; omega
            · go_wp2_with ((go_at_call 47; refine (l11Ahead_c x a _ hX hA).mono ?_; rw [h1]; rintro e w1 ⟨rfl, hb1⟩))
              go_roundw
              case rel => exact ⟨j + 1, by omega, by go_num, by rw [HCS.out, h1]; rfl, (hb2.alloc _).trans hb1⟩
              case measure => simp [intOf]; omega
          · have hjn : j = n := by omega
            have hrk : rankN (xs.take j) a = rankN xs a := by rw [List.take_of_length_le (by have := HN.out; omega)]
            have hrl : rankN xs a ≤ 12 := Nat.le_trans (rankN_le _ _) (by have := HN.out; omega)
            rw [hrk]
            have HNX := Lib.hid (show (xs.take (k + 1)).map (fun a => (rankN xs a : Int)) = (xs.take k).map (fun a => (rankN xs a : Int)) ++ [(rankN xs a : Int)] by rw [take_succ HX.out]; simp)
            have hbo := (hb.alloc _).trans hb2
            have HOW := Lib.hid (owns_ext (owns_ext HO.out ((Ext.refl wo).alloc _)) hb2)
            have HE1 := Lib.hid hbo
            clear h hrk hbo ca0 ca1 ca2
            go_wp2_with (at_builtin; refine wpList_append_one (.tmp 32) (.tmp 34) _ w.heap.size 3 i0 _ 1 8 (.slice A1 k cap1) k _ (encInt (rankN xs a : Nat)) rfl rfl Try.underlying34 hi hz0 hz1 hz2 rfl (by omega) rfl HOW.out _ rfl (by simp) rfl (Int.one _) (by unfold maxLen; omega) (by omega) HE1.out (Nat.le_refl _) HE1.out.le ?_; intro A2 cap2 w2 ho2 hb3 hs2)
            have HO2 := Lib.hid ho2
            clear ho2 hi hz0 hz1 hz2
            go_wp2
            go_roundw
            case rel => exact ⟨k + 1, A2, cap2, by omega, by go_num, rfl, by rw [HNX.out, List.flatMap_append]; simpa using HO2.out, hb3⟩
            case measure => simp [intOf]; omega
      · have HO := Lib.hid ho
        clear ho hi hz0 hz1 hz2
        go_wp2
        have hkn : k = n := by omega
        subst hkn
        have ho := HO.out
        rw [List.take_of_length_le (by have := HN.out; omega)] at ho
        exact ret_own2 rfl ho (by rw [List.length_map]; exact HN.out) encInt_size (fun y hy => by obtain ⟨x, hx, rfl⟩ := List.mem_map.1 hy; exact rank_in hn12 HN.out x) hb
  · rw [ranksL, if_neg (by rw [hB]; simp)]
    go_enter Try.func15, Try.ntmps15
    go_wp2_with ((go_at_call 46; refine (sAccountsOk_c xs _ _ _ _ h1 hl').mono ?_; rintro e w1 ⟨rfl, hb1⟩))
    exact ret_own2 (ys := []) rfl (owns_ext (owns_empty w 3 1) hb1) rfl encInt_size (fun y hy => by cases hy) (((Ext.refl w).alloc _).trans hb1)
end Go.Proofs.Ytbfambeoboiifaa
