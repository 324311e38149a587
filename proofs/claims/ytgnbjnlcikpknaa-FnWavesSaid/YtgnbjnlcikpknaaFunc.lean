/- Contracts of slices.IndexFunc, slices.ContainsFunc over what the function given does. -/
import Derived.Test.YtgnbjnlcikpknaaDeps2
namespace Go.Proofs.Ytgnbjnlcikpknaa
open Go.RowKit
set_option linter.unusedVariables false
def idxP {α : Type} (p : α → Bool) : List α → Nat → Int
  | [], _ => -1
  | a :: r, k => if p a = true then k else idxP p r (k + 1)
theorem idxP_ge {α : Type} (p : α → Bool) (l : List α) : ∀ k : Nat, (decide (0 ≤ idxP p l k)) = l.any p := by
  induction l with
  | nil => intro k; rfl
  | cons a r ih =>
    intro k
    rw [idxP]
    by_cases h : p a = true
    · rw [if_pos h, List.any_cons, h, Bool.true_or, decide_eq_true_iff]; omega
    · rw [if_neg h, ih, List.any_cons, Bool.eq_false_iff.2 h, Bool.false_or]
set_option maxHeartbeats 1000000 in
theorem IndexFunc_c (xs : List Dep) (p : Dep → Bool) (f : FuncId) (cap : Array Value) (A : Option Addr) (n c : Nat) (w : World) (h : SlAt RDep 2 w A n xs) (hl : n ≤ maxLen)
    (hr : ∀ (vs : Array Value) (u : World), Sem.run Try.prog (callFunc f vs) u = .ok (.enter f vs) u)
    (hf : ∀ (x : Dep) (u : World), Ext w u → Calls Try.prog f (#[.agg #[.int .i64 x.Id, .int .i64 x.For]] ++ cap) u (Ret u (.bool (p x)))) : Calls Try.prog 55 #[.slice A n c, .func (.func f) #[] cap] w (Ret w (.int .i64 (idxP p xs 0))) := by
  unfold maxLen at hl
  have HN := Lib.hid h.len
  have HF := Lib.hid hf
  clear hf
  go_enter Try.func55, Try.ntmps55
  go_wp2
  go_loopw [8] (fun i wr => ∃ k : Nat, k ≤ n ∧ i = .int .i64 k ∧ Ext w wr ∧ idxP p xs 0 = idxP p (xs.drop k) k) (fun i _ => n - (intOf i).toNat)
  case atStart => exact ⟨0, Nat.zero_le _, rfl, Ext.refl _, rfl⟩
  case round =>
    obtain ⟨k, hk, rfl, hb, hE⟩ := hrel
    have HE := Lib.hid hE; clear hE
    by_cases hlt : k < n
    · obtain ⟨b, o, x, cs, rfl, hbw, hx, _, hc, rfl, _⟩ := (h.ext (Flat.mono _ _) hb).at_ hlt
      have c0 := hc 0 _ rfl
      have c1 := hc 1 _ rfl
      simp only [Nat.add_zero] at c0
      have HX := Lib.hid hx
      clear hc hx h
      rcases Bool.eq_false_or_eq_true (p x) with h1 | h1
      · have H1 := Lib.hid (show idxP p (x :: xs.drop (k + 1)) k = k by rw [idxP, if_pos h1])
        go_wp2_with fail
        refine (HF.out x _ hb).mono ?_
        rintro e w1 ⟨rfl, hb1⟩
        go_wp2
        exact ret_int rfl rfl rfl (by rw [HE.out, drop_cons HX.out, H1.out]) (hb.trans hb1)
      · have H1 := Lib.hid (show idxP p (x :: xs.drop (k + 1)) k = idxP p (xs.drop (k + 1)) (k + 1) by rw [idxP, if_neg (by rw [h1]; simp)])
        go_wp2_with fail
        refine (HF.out x _ hb).mono ?_
        rintro e w1 ⟨rfl, hb1⟩
        go_wp2
        go_roundw
        case rel => exact ⟨k + 1, by omega, by go_num, hb.trans hb1, by rw [HE.out, drop_cons HX.out, H1.out]⟩
        case measure => simp [intOf]; omega
    · go_wp2
      exact ret_int rfl rfl rfl (by rw [HE.out, List.drop_eq_nil_of_le (by have := HN.out; omega)]; rfl) hb
theorem ContainsFunc_c (xs : List Dep) (p : Dep → Bool) (f : FuncId) (cap : Array Value) (A : Option Addr) (n c : Nat) (w : World) (h : SlAt RDep 2 w A n xs) (hl : n ≤ maxLen)
    (hr : ∀ (vs : Array Value) (u : World), Sem.run Try.prog (callFunc f vs) u = .ok (.enter f vs) u)
    (hf : ∀ (x : Dep) (u : World), Ext w u → Calls Try.prog f (#[.agg #[.int .i64 x.Id, .int .i64 x.For]] ++ cap) u (Ret u (.bool (p x)))) : Calls Try.prog 36 #[.slice A n c, .func (.func f) #[] cap] w (Ret w (.bool (xs.any p))) := by
  have HN := Lib.hid (idxP_ge p xs 0)
  have HC := Lib.hid (IndexFunc_c xs p f cap A n c w h hl hr hf)
  clear hr hf
  rw [← HN.out]
  generalize idxP p xs 0 = ix at *
  go_enter Try.func36, Try.ntmps36
  go_wp2_with fail
  refine HC.out.mono ?_
  rintro e w1 ⟨rfl, hb1⟩
  go_wp2
  exact ret_bool rfl rfl rfl rfl hb1
theorem Round1_c (x d : Dep) (b o : Nat) (w : World) (hb : b < w.heap.size) (h0 : w.cell? ⟨b, o, none⟩ = some (.int .i64 d.Id)) (h1 : w.cell? ⟨b, o + 1, none⟩ = some (.int .i64 d.For)) : Calls Try.prog 49 #[.agg #[.int .i64 x.Id, .int .i64 x.For], .pointer (some ⟨b, o, none⟩)] w (Ret w (.bool (x.Id == d.For))) := by
  go_enter Try.func49, Try.ntmps49
  go_wp2
  exact ret_bool rfl rfl rfl rfl (by repeat (first | exact Ext.refl _ | assumption | apply Ext.alloc | apply Ext.drewN | apply Ext.drew | (refine Ext.setCell ?_ (by first | (simp; done) | (simp; omega) | omega) _) | (refine Ext.trans ?_ (by assumption))))
theorem Round1_run (vs : Array Value) (u : World) : Sem.run Try.prog (callFunc 49 vs) u = .ok (.enter 49 vs) u := by
  simp [go_sem]
end Go.Proofs.Ytgnbjnlcikpknaa
