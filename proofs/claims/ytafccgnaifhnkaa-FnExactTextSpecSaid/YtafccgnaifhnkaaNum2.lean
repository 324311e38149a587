/- Contracts: a number as text, the reference's way. -/
import Derived.Test.YtafccgnaifhnkaaNum
namespace Go.Proofs.Ytafccgnaifhnkaa
open Go.RowKit
set_option linter.unusedVariables false
theorem run_byte_string_at {P : Program} {src dst e : TypeId} (hs : P.underlying src = some (.slice e)) (he : P.underlying e = some (.int .u8)) (hd : P.underlying dst = some .string) (W : World) (b : Nat) (n : Int) (h : W.cell? ⟨b, 0, none⟩ = some (.int .u8 n)) :
    (convert src dst (.slice (some ⟨b, 0, none⟩) 1 1)).run P W = .ok (.string ⟨#[UInt8.ofNat n.toNat]⟩) W := by
  rw [run_convert_bytes_string _ src dst e _ _ _ hs he hd, run_bytesToString _ _ _ _ [n] (by simp [go_sem, h])]
  rfl
set_option maxHeartbeats 2000000 in
theorem sNumText_c : ∀ (k : Nat) (w : World), k ≤ 1000000000 → Calls Try.prog 87 #[.int .i64 k] w (Ret w (.string (numText k))) := by
  intro k
  induction k using Nat.strongRecOn with
  | ind k ih =>
    intro w hk
    have HT := Lib.hid (sTime_c k w)
    rw [show timeB k = true by unfold timeB; rw [decide_eq_true_iff]; omega] at HT
    by_cases h9 : k < 10
    · have HF := Lib.hid (numText_small h9)
      have kc := run_byte_string (P := Try.prog) Try.underlying44 Try.underlying5 Try.underlying9
      clear ih
      go_enter Try.func87, Try.ntmps87
      go_wp2_with fail
      refine (HT.out).mono ?_
      rintro e w1 ⟨rfl, rfl⟩
      go_wp2
      rw [HF.out]
      refine ret_val rfl ?_ rfl (by repeat (first | exact Ext.refl _ | assumption | apply Ext.alloc | apply Ext.drewN | apply Ext.drew | (refine Ext.setCell ?_ (by first | (simp; done) | (simp; omega) | omega) _) | (refine Ext.trans ?_ (by assumption))))
      show Value.string ⟨#[UInt8.ofNat (48 + k)]⟩ = _
      rw [UInt8.ofNat_add]; rfl
    have HF := Lib.hid (numText_step h9)
    have hps := numText_size (k / 10) (by omega)
    have HIH := Lib.hid (fun (u : World) => ih (k / 10) (by omega) u (by omega))
    rw [show ((k / 10 : Nat) : Int) = (k : Int) / 10 by omega] at HIH
    generalize numText (k / 10) = p at *
    have q1 : IntKind.i64.wrap ((k : Int) / 10) = (k : Int) / 10 := IntWalk.i64_in _ ⟨by omega, by omega⟩
    have q2 : (k : Int).tmod 10 = ((k % 10 : Nat) : Int) := rfl
    have hd : k % 10 < 10 := Nat.mod_lt _ (by decide)
    generalize k % 10 = d at *
    have q3 : IntKind.i64.wrap (48 + (d : Int)) = 48 + (d : Int) := IntWalk.i64_in _ ⟨by omega, by omega⟩
    have q4 : IntKind.u8.wrap (48 + (d : Int)) = 48 + (d : Int) := IntWalk.u8_in _ ⟨by omega, by omega⟩
    have hsz : p.size + (⟨#[UInt8.ofNat (48 + d)]⟩ : ByteArray).size ≤ 9223372036854775807 := by
      have : (⟨#[UInt8.ofNat (48 + d)]⟩ : ByteArray).size = 1 := rfl
      omega
    have kc := fun (W : World) (b : Nat) (n : Int) (h : W.cell? ⟨b, 0, none⟩ = some (.int .u8 n)) => run_byte_string_at (P := Try.prog) Try.underlying44 Try.underlying5 Try.underlying9 W b n h
    clear ih
    go_enter Try.func87, Try.ntmps87
    go_wp2_with fail
    refine (HT.out).mono ?_
    rintro e w1 ⟨rfl, rfl⟩
    go_wp2
    go_region_held (fun u => Ext w u) ((first | (with_reducible assumption) | exact (Ext.refl _).drew | exact ((Ext.refl _).alloc _).drew | exact (Ext.refl _).alloc _ | exact Ext.alloc hx _)) (first | (go_at_call 87; (with_reducible refine (HIH.out _).mono ?_); rintro e w2 ⟨rfl, hb2⟩; have hx : Ext w w2 := (by first | exact ((Ext.refl _).drew).trans hb2 | exact (((Ext.refl _).alloc _).drew).trans hb2); (try have kb := hb2.cell (show ((w.alloc (.cells #[.int .u8 (48 + (d : Int))] 5)).drew).cell? ⟨w.heap.size, 0, none⟩ = some (.int .u8 (48 + (d : Int))) from law_box w [.int .u8 (48 + (d : Int))] 5 0 _ rfl))))
    all_goals
      clear kc
      go_wp2
      rw [HF.out]
      exact ret_val rfl rfl rfl (by first | exact hx | exact hx.alloc _)
end Go.Proofs.Ytafccgnaifhnkaa
