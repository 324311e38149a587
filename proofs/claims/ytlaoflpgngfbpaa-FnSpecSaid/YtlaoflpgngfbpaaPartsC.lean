/- Contracts: a text cut at a byte. -/
import Derived.Test.YtlaoflpgngfbpaaTextNum
import Derived.Test.YtlaoflpgngfbpaaAppR
namespace Go.Proofs.Ytlaoflpgngfbpaa
open Go.RowKit
set_option linter.unusedVariables false
def encStr (s : ByteArray) : List Value := [.string s]
def okStr (s : ByteArray) : Prop := s.size ≤ maxLen
theorem encStr_size (s : ByteArray) : (encStr s).length = 1 := rfl
theorem encStr_one (s : ByteArray) : ∀ u ∈ encStr s, u.oneCell' = true := by
  intro u hu; simp [encStr] at hu; subst hu; rfl
theorem Str.info : (Try.prog.info? 9).map (fun i => (i.zero, i.size, i.bytes)) = some (some (.string ByteArray.empty), 1, 16) := by kernel_rfl
theorem toL_extract (s : ByteArray) (a b : Nat) : toL (s.extract a b) = ((toL s).drop a).take (b - a) := by
  unfold toL
  rw [ByteArray.data_extract, Array.toList_extract, List.extract_eq_take_drop]
theorem parts_cut {s : ByteArray} {b c : UInt8} {f k : Nat} (hf : f ≤ k) (hd : (toL s).drop k = c :: (toL s).drop (k + 1)) (hc : c = b) (hn : b ∉ ((toL s).drop f).take (k - f)) : partsL b ((toL s).drop f) = toL (s.extract f k) :: partsL b ((toL s).drop (k + 1)) := by
  subst hc
  rw [toL_extract]
  have e : (toL s).drop f = ((toL s).drop f).take (k - f) ++ c :: (toL s).drop (k + 1) := by
    conv => lhs; rw [← List.take_append_drop (k - f) ((toL s).drop f)]
    rw [List.drop_drop, show f + (k - f) = k by omega, hd]
  rw [e, partsL_cut hn]
  rw [← e]
theorem parts_last {s : ByteArray} {b : UInt8} {f k : Nat} (hk : s.size ≤ k) (hn : b ∉ ((toL s).drop f).take (k - f)) : partsL b ((toL s).drop f) = [toL (s.extract f s.size)] := by
  have hl : ((toL s).drop f).length = s.size - f := by rw [List.length_drop, toL_len]
  rw [List.take_of_length_le (by omega)] at hn
  rw [partsL_no hn, toL_extract, List.take_of_length_le (by omega)]
theorem parts_on {s : ByteArray} {b c : UInt8} {f k : Nat} (hf : f ≤ k) (hd : (toL s).drop k = c :: (toL s).drop (k + 1)) (hc : ¬ b = c) (hn : b ∉ ((toL s).drop f).take (k - f)) : b ∉ ((toL s).drop f).take (k + 1 - f) := by
  have e : ((toL s).drop f)[k - f]? = some c := by
    rw [List.getElem?_drop, show f + (k - f) = k by omega]
    have := congrArg (fun l => l[0]?) hd
    simpa using this
  rw [show k + 1 - f = (k - f) + 1 by omega, take_succ e]
  intro hm
  rcases List.mem_append.1 hm with hm | hm
  · exact hn hm
  · exact hc (List.mem_singleton.1 hm)
set_option maxHeartbeats 4000000 in
set_option maxRecDepth 4000 in
theorem Parts_c (s : ByteArray) (b : UInt8) (w : World) (hs : s.size ≤ 1048576) : Calls Try.prog 19 #[.string s, .int .u8 b.toNat] w (RetOwn (Flat encStr okStr) 9 1 w (partsS s b)) := by
  obtain ⟨i0, hi, hz0, hz1, hz2⟩ := info_parts Str.info
  go_enter Try.func19, Try.ntmps19
  go_wp2
  go_loopw [5, 6, 7] (fun v fv iv wr => ∃ (k from_ : Nat) (A1 : Option Addr) (c1 : Nat) (acc : List ByteArray), k ≤ s.size ∧ from_ ≤ k ∧ iv = .int .i64 k ∧ fv = .int .i64 from_ ∧ v = .slice A1 acc.length c1 ∧ acc.length ≤ from_ ∧ Hid (wr.ownsRow w.heap.size 9 1 (.slice A1 acc.length c1) acc.length (acc.flatMap encStr)) ∧ Hid (acc ++ (partsL b ((toL s).drop from_)).map ofL = partsS s b) ∧ Hid (b ∉ ((toL s).drop from_).take (k - from_)) ∧ Ext w wr) (fun _ _ iv _ => s.size - (intOf iv).toNat)
  case atStart => exact ⟨0, 0, _, 0, [], Nat.zero_le _, Nat.le_refl _, rfl, rfl, rfl, Nat.le_refl _, Lib.hid (by simpa using owns_empty w 9 1), Lib.hid rfl, Lib.hid (by simp), (Ext.refl _).alloc _⟩
  case round =>
    obtain ⟨k, from_, A1, c1, acc, hk, hfk, rfl, rfl, rfl, hal, HO, HE, HNB, hb⟩ := hrel
    by_cases hlt : k < s.size
    · have HD := Lib.hid (drop_byte' hlt)
      by_cases h1 : (s[k].toNat : Int) = (b.toNat : Int)
      · have HB1 := Lib.hid (show s[k] = b from UInt8.toNat_inj.1 (by omega))
        have hbz := hb.le
        have HC := Lib.hid (parts_cut hfk HD.out HB1.out HNB.out)
        have HX := Lib.hid (show okStr (s.extract from_ k) from by unfold okStr maxLen; have := congrArg List.length (toL_extract s from_ k); rw [toL_len, List.length_take, List.length_drop, toL_len] at this; omega)
        go_wp2_with (at_builtin; go_must (refine wpList_append_r (enc := encStr) (ok := okStr) (.tmp 20) (.tmp 25) _ w.heap.size 9 i0 _ 1 16 (.slice A1 acc.length c1) acc.length (acc.flatMap encStr) _ 1 1 [s.extract from_ k] rfl rfl Try.underlying54 hi hz0 hz1 hz2 rfl (by omega) rfl (owns_ext HO.out ((Ext.refl _).alloc _)) rfl (by exact sl_one_r wr (s.extract from_ k) 9 rfl HX.out) encStr_size encStr_one (by unfold maxLen; omega) (by omega) (by simp; omega) ?_); intro A3 c3 w3 hr3)
        have HR3 := Lib.hid hr3
        clear hr3
        go_wp2
        go_roundw
        case rel =>
          have a2 := (Ext.refl wr).alloc (.cells (encStr (s.extract from_ k)).toArray 9)
          refine ⟨k + 1, k + 1, A3, c3, acc ++ [s.extract from_ k], by omega, Nat.le_refl _, by go_num, by first | rfl | go_num, by simp, by simp; omega, Lib.hid ?_, Lib.hid ?_, Lib.hid (by simp), ext_turned (hb.trans a2) (HR3.out.turned (lo := w.heap.size) (fun q e => (HO.out.lt q e).1)) (Nat.le_refl _)⟩
          · have := HR3.out.row; rw [List.flatMap_append, List.length_append]; simpa using this
          · rw [← HE.out, HC.out, List.append_assoc]; rfl
        case measure => simp [intOf]; omega
      · have hq : ((s[k].toNat : Int) == (b.toNat : Int)) = false := by rw [beq_eq_false_iff_ne]; exact h1
        have HB1 := Lib.hid (show ¬ b = s[k] from fun e => h1 (by rw [e]))
        go_wp2
        go_roundw
        case rel => exact ⟨k + 1, from_, A1, c1, acc, by omega, by omega, by go_num, rfl, rfl, hal, HO, HE, Lib.hid (parts_on hfk HD.out HB1.out HNB.out), hb⟩
        case measure => simp [intOf]; omega
    · have HC := Lib.hid (parts_last (by omega) HNB.out)
      have HX := Lib.hid (show okStr (s.extract from_ s.size) from by unfold okStr maxLen; have := congrArg List.length (toL_extract s from_ s.size); rw [toL_len, List.length_take, List.length_drop, toL_len] at this; omega)
      have hbz := hb.le
      go_wp2_with (at_builtin; go_must (refine wpList_append_r (enc := encStr) (ok := okStr) (.tmp 29) (.tmp 33) _ w.heap.size 9 i0 _ 1 16 (.slice A1 acc.length c1) acc.length (acc.flatMap encStr) _ 1 1 [s.extract from_ s.size] rfl rfl Try.underlying54 hi hz0 hz1 hz2 rfl (by omega) rfl (owns_ext HO.out ((Ext.refl _).alloc _)) rfl (by exact sl_one_r wr (s.extract from_ s.size) 9 rfl HX.out) encStr_size encStr_one (by unfold maxLen; omega) (by omega) (by simp; omega) ?_); intro A3 c3 w3 hr3)
      have HR3 := Lib.hid hr3
      clear hr3
      have HP := Lib.hid (show partsS s b = acc ++ [s.extract from_ s.size] by rw [← HE.out, HC.out]; rfl)
      have hsz := partsS_size s b
      go_wp2
      rw [HP.out] at hsz ⊢
      have a2 := (Ext.refl wr).alloc (.cells (encStr (s.extract from_ s.size)).toArray 9)
      exact ret_own2 (n := acc.length + 1) rfl (by have := HR3.out.row; rw [List.flatMap_append]; simpa using this) (by simp) encStr_size (fun y hy => by unfold okStr maxLen; have := hsz y hy; omega) (ext_turned (hb.trans a2) (HR3.out.turned (lo := w.heap.size) (fun q e => (HO.out.lt q e).1)) (Nat.le_refl _))
end Go.Proofs.Ytlaoflpgngfbpaa
