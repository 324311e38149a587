/- Contracts: whether dependencies go round, the reference's way. -/
import Derived.Test.YtgnbjnlcikpknaaReach
namespace Go.Proofs.Ytgnbjnlcikpknaa
open Go.RowKit
set_option linter.unusedVariables false
theorem reachL_inv {l : List Dep} {id : Int} : ∀ (f : Nat) {out : List Int}, RInv l id out → RInv l id (reachL f l id out) := by
  intro f
  induction f with
  | zero => intro out h; exact h
  | succ f ih =>
    intro out h
    rw [reachL]; split
    · exact h
    · exact ih (out := passR l id out) (h.fold l (fun _ hd => hd))
theorem reachS_len (l : List Dep) (id : Int) : (reachS l id).length ≤ l.length := (reachL_inv _ (RInv.nil id)).len
def selfR (l : List Dep) (d : Dep) : Bool := (reachS l d.Id).contains d.Id
set_option maxHeartbeats 4000000 in
set_option maxRecDepth 4000 in
theorem sRound_c (xs : List Dep) (A : Option Addr) (n c : Nat) (w : World) (h : SlAt RDep 2 w A n xs) (hl : n ≤ maxLen) : Calls Try.prog 48 #[.slice A n c] w (Ret w (.bool (roundB xs))) := by
  have hl' := hl
  unfold maxLen at hl
  obtain rfl := h.len
  have hM := Flat.mono Dep.enc Dep.ok
  have hA := Lib.hid (fun (u : World) (e : Ext w u) => sDepsOk_c xs A xs.length c u (h.ext hM e) hl')
  rcases Bool.eq_false_or_eq_true (depsB xs) with hB | hB
  all_goals rw [hB] at hA
  · have hn100 : xs.length ≤ 100 := depsB_len hB
    have HR := Lib.hid (show roundB xs = xs.any (selfR xs) by unfold roundB; rw [hB, cycB_reach]; rfl)
    go_enter Try.func48, Try.ntmps48
    go_wp2_with fail
    refine (hA.out _ (Ext.refl _)).mono ?_
    rintro e w0 ⟨rfl, hb0⟩
    go_wp2
    go_loopw [10] (fun i wr => ∃ k : Nat, k ≤ xs.length ∧ i = .int .i64 k ∧ Ext w wr ∧ xs.any (selfR xs) = (xs.drop k).any (selfR xs)) (fun i _ => xs.length - (intOf i).toNat)
    case atStart => exact ⟨0, Nat.zero_le _, rfl, hb0, rfl⟩
    case round =>
      obtain ⟨k, hk, rfl, hb, hE⟩ := hrel
      have HE := Lib.hid hE; clear hE
      by_cases hlt : k < xs.length
      · have hs := fun (u : World) (e : Ext w u) => h.ext hM e
        obtain ⟨b, o, x, cs, rfl, hbw, hx, _, hc, rfl, _⟩ := (h.ext hM hb).at_ hlt
        have f0 := hc 0 _ rfl
        have f1 := hc 1 _ rfl
        simp only [Nat.add_zero] at f0
        have HX := Lib.hid hx
        have HSl := Lib.hid hs
        have HQ := Lib.hid (fun u e => l12Reach_c xs x.Id (some ⟨b, o, none⟩) xs.length c u (HSl.out u e) hn100)
        have hq := fun A2 c2 u hh hl2 => l02Has_c (reachS xs x.Id) x.Id A2 (reachS xs x.Id).length c2 u hh hl2
        have hrl : (reachS xs x.Id).length ≤ maxLen := by have := reachS_len xs x.Id; unfold maxLen; omega
        have HB := Lib.hid hb
        clear hc hx h hs hA
        rcases Bool.eq_false_or_eq_true (selfR xs x) with h1 | h1
        all_goals
          have H1 := Lib.hid h1
          unfold selfR at h1
          generalize reachS xs x.Id = rs at *
          rw [h1] at hq
          have HQ2 := Lib.hid hq
          clear hq h1
          go_wp2
          have HBX := Lib.hid (HB.out.alloc (.cells #[.int .i64 x.Id, .int .i64 x.For] 31))
          have HG := Lib.hid (show (wr.alloc (.cells #[.int .i64 x.Id, .int .i64 x.For] 31)).drew.cell? ⟨wr.heap.size, 0, none⟩ = some (.int .i64 x.Id) from cell_box wr [.int .i64 x.Id, .int .i64 x.For] _ 0 _ rfl)
          go_region_held3 (fun w' => Ext (wr.alloc (.cells #[.int .i64 x.Id, .int .i64 x.For] 31)) w' ∧ w'.cell? ⟨wr.heap.size, 0, none⟩ = some (.int .i64 x.Id)) ((refine ⟨?_, ?_⟩ <;> first | assumption | exact Ext.refl _ | (apply Ext.drew; assumption) | (apply Ext.drew; exact Ext.refl _) | exact HG.out)) (first | (go_at_call 61; refine (HQ.out _ (by exact HBX.out.drew)).mono ?_; rintro e w2 ⟨A2, c2, rfl, ho2, hb2⟩; have HO2 := Lib.hid ho2.slAt; have e2 := ((Ext.refl _).drew).trans hb2; have g2 := hb2.cell HG.out) | (go_at_call 40; refine (HQ2.out _ _ _ (by exact HO2.out) hrl).mono ?_; rintro e w3 ⟨rfl, hb3⟩; have e3 := e2.trans hb3; have g3 := hb3.cell g2))
          have HE3 := Lib.hid (HBX.out.trans e3)
          clear e2 e3 g2 g3 hb2 hb3 ho2
        · go_wp2
          exact ret_bool rfl rfl rfl (by rw [HR.out, HE.out, drop_cons HX.out, List.any_cons, H1.out]; rfl) HE3.out
        · go_wp2
          go_roundw
          case rel => exact ⟨k + 1, by omega, by go_num, HE3.out, by rw [HE.out, drop_cons HX.out, List.any_cons, H1.out]; rfl⟩
          case measure => simp [intOf]; omega
      · go_wp2
        exact ret_bool rfl rfl rfl (by rw [HR.out, HE.out, List.drop_eq_nil_of_le (by omega)]; rfl) hb
  · have HR := Lib.hid (show roundB xs = false by unfold roundB; rw [hB]; rfl)
    go_enter Try.func48, Try.ntmps48
    go_wp2_with fail
    refine (hA.out _ (Ext.refl _)).mono ?_
    rintro e w0 ⟨rfl, hb0⟩
    go_wp2
    exact ret_bool rfl rfl rfl HR.out.symm hb0
end Go.Proofs.Ytgnbjnlcikpknaa
