/- Contracts over lists of what is held. -/
import Derived.Test.YtbfambeoboiifaaWord
import Derived.Test.YtbfambeoboiifaaJob
namespace Go.Proofs.Ytbfambeoboiifaa
open Go.RowKit
set_option linter.unusedVariables false
def sameId (h x : Hold) : Bool := x.Job.Id == h.Job.Id
def holdOkB (h : Hold) : Bool := wordB h.Name && jobB h.Job
def holdsGo : List Hold → List Hold → Bool
  | _, [] => true
  | pre, h :: r => holdOkB h && !(pre.any (sameId h)) && holdsGo (pre ++ [h]) r
def holdsB (l : List Hold) : Bool := holdsGo [] l && decide (l.length ≤ 60)
theorem holdsGo_next {l : List Hold} {k : Nat} {h : Hold} (hx : l[k]? = some h) : holdsGo (l.take k) (l.drop k) = (holdOkB h && !((l.take k).any (sameId h)) && holdsGo (l.take (k + 1)) (l.drop (k + 1))) := by
  rw [drop_cons hx, take_succ hx]; rfl
theorem SlAt.take {α : Type} {R : Rel α} {sz n : Nat} {w : World} {A : Option Addr} {xs : List α} (h : SlAt R sz w A n xs) {k : Nat} (hk : k ≤ n) : SlAt R sz w A k (xs.take k) := by
  refine ⟨by rw [List.length_take, h.1]; omega, fun h0 => ?_⟩
  obtain ⟨b, o, e, hb, hc⟩ := h.2 (by omega)
  refine ⟨b, o, e, hb, fun j x hx => hc j x ?_⟩
  rw [List.getElem?_take] at hx; split at hx
  · exact hx
  · cases hx
theorem cell_box (w : World) (cs : List Value) (e : TypeId) (j : Nat) (u : Value) (h : cs[j]? = some u) : (w.alloc (.cells cs.toArray e)).cell? ⟨w.heap.size, j, none⟩ = some u := by
  rw [cell_of_row _ _ _ cs.toArray e (0, 0) (heap_alloc_new w _)]; simpa using h
def idxP {α : Type} (p : α → Bool) : List α → Nat → Int
  | [], _ => -1
  | a :: r, k => if p a = true then k else idxP p r (k + 1)
theorem idxP_ge {α : Type} (p : α → Bool) (l : List α) : ∀ k : Nat, (decide (0 ≤ idxP p l k)) = l.any p := by
  induction l with
  | nil => intro k; rfl
  | cons a r ih =>
    intro k
    rw [idxP]
    by_cases h : p a = true
    · rw [if_pos h, List.any_cons, h, Bool.true_or, decide_eq_true_iff]; omega
    · rw [if_neg h, ih, List.any_cons, Bool.eq_false_iff.2 h, Bool.false_or]
set_option maxHeartbeats 1000000 in
theorem IndexFuncH_c (xs : List Hold) (p : Hold → Bool) (f : FuncId) (cap : Array Value) (A : Option Addr) (n c : Nat) (w : World) (h : SlAt RHold 12 w A n xs) (hl : n ≤ maxLen)
    (hr : ∀ (vs : Array Value) (u : World), Sem.run Try.prog (callFunc f vs) u = .ok (.enter f vs) u)
    (hf : ∀ (x : Hold) (u : World), Ext w u → Calls Try.prog f (#[.agg #[.string x.Name, .int .i64 x.Job.Id, .int .i64 x.Job.Prio, .int .i64 x.Job.Nodes, .int .i64 x.Job.Need.A, .int .i64 x.Job.Need.B, .int .i64 x.Job.Need.C, .int .i64 x.Job.Lic.A, .int .i64 x.Job.Lic.B, .int .i64 x.Job.Lic.C, .int .i64 x.Job.Wall, .int .i64 x.Job.Level]] ++ cap) u (Ret u (.bool (p x)))) : Calls Try.prog 107 #[.slice A n c, .func (.func f) #[] cap] w (Ret w (.int .i64 (idxP p xs 0))) := by
  unfold maxLen at hl
  have HN := Lib.hid h.len
  have HF := Lib.hid hf
  clear hf
  go_enter Try.func107, Try.ntmps107
  go_wp2
  go_loopw [8] (fun i wr => ∃ k : Nat, k ≤ n ∧ i = .int .i64 k ∧ Ext w wr ∧ idxP p xs 0 = idxP p (xs.drop k) k) (fun i _ => n - (intOf i).toNat)
  case atStart => exact ⟨0, Nat.zero_le _, rfl, Ext.refl _, rfl⟩
  case round =>
    obtain ⟨k, hk, rfl, hb, hE⟩ := hrel
    have HE := Lib.hid hE; clear hE
    by_cases hlt : k < n
    · obtain ⟨b, o, x, cs, rfl, hbw, hx, _, hc, rfl, _⟩ := (h.ext (Flat.mono _ _) hb).at_ hlt
      have c0 := hc 0 _ rfl
      have c1 := hc 1 _ rfl
      have c2 := hc 2 _ rfl
      have c3 := hc 3 _ rfl
      have c4 := hc 4 _ rfl
      have c5 := hc 5 _ rfl
      have c6 := hc 6 _ rfl
      have c7 := hc 7 _ rfl
      have c8 := hc 8 _ rfl
      have c9 := hc 9 _ rfl
      have c10 := hc 10 _ rfl
      have c11 := hc 11 _ rfl
      simp only [Nat.add_zero] at c0
      have HX := Lib.hid hx
      clear hc hx h
      rcases Bool.eq_false_or_eq_true (p x) with h1 | h1
      · have H1 := Lib.hid (show idxP p (x :: xs.drop (k + 1)) k = k by rw [idxP, if_pos h1])
        go_wp2_with fail
        refine (HF.out x _ hb).mono ?_
        rintro e w1 ⟨rfl, hb1⟩
        go_wp2
        exact ret_int rfl rfl rfl (by rw [HE.out, drop_cons HX.out, H1.out]) (hb.trans hb1)
      · have H1 := Lib.hid (show idxP p (x :: xs.drop (k + 1)) k = idxP p (xs.drop (k + 1)) (k + 1) by rw [idxP, if_neg (by rw [h1]; simp)])
        go_wp2_with fail
        refine (HF.out x _ hb).mono ?_
        rintro e w1 ⟨rfl, hb1⟩
        go_wp2
        go_roundw
        case rel => exact ⟨k + 1, by omega, by go_num, hb.trans hb1, by rw [HE.out, drop_cons HX.out, H1.out]⟩
        case measure => simp [intOf]; omega
    · go_wp2
      exact ret_int rfl rfl rfl (by rw [HE.out, List.drop_eq_nil_of_le (by have := HN.out; omega)]; rfl) hb
theorem ContainsFuncH_c (xs : List Hold) (p : Hold → Bool) (f : FuncId) (cap : Array Value) (A : Option Addr) (n c : Nat) (w : World) (h : SlAt RHold 12 w A n xs) (hl : n ≤ maxLen)
    (hr : ∀ (vs : Array Value) (u : World), Sem.run Try.prog (callFunc f vs) u = .ok (.enter f vs) u)
    (hf : ∀ (x : Hold) (u : World), Ext w u → Calls Try.prog f (#[.agg #[.string x.Name, .int .i64 x.Job.Id, .int .i64 x.Job.Prio, .int .i64 x.Job.Nodes, .int .i64 x.Job.Need.A, .int .i64 x.Job.Need.B, .int .i64 x.Job.Need.C, .int .i64 x.Job.Lic.A, .int .i64 x.Job.Lic.B, .int .i64 x.Job.Lic.C, .int .i64 x.Job.Wall, .int .i64 x.Job.Level]] ++ cap) u (Ret u (.bool (p x)))) : Calls Try.prog 92 #[.slice A n c, .func (.func f) #[] cap] w (Ret w (.bool (xs.any p))) := by
  have HN := Lib.hid (idxP_ge p xs 0)
  have HC := Lib.hid (IndexFuncH_c xs p f cap A n c w h hl hr hf)
  clear hr hf
  rw [← HN.out]
  generalize idxP p xs 0 = ix at *
  go_enter Try.func92, Try.ntmps92
  go_wp2_with fail
  refine HC.out.mono ?_
  rintro e w1 ⟨rfl, hb1⟩
  go_wp2
  exact ret_bool rfl rfl rfl rfl hb1
theorem HoldsOk1_c (x d : Hold) (b : Nat) (w : World) (hb : b < w.heap.size) (h0 : w.cell? ⟨b, 1, none⟩ = some (.int .i64 d.Job.Id)) : Calls Try.prog 93 #[.agg #[.string x.Name, .int .i64 x.Job.Id, .int .i64 x.Job.Prio, .int .i64 x.Job.Nodes, .int .i64 x.Job.Need.A, .int .i64 x.Job.Need.B, .int .i64 x.Job.Need.C, .int .i64 x.Job.Lic.A, .int .i64 x.Job.Lic.B, .int .i64 x.Job.Lic.C, .int .i64 x.Job.Wall, .int .i64 x.Job.Level], .pointer (some ⟨b, 0, none⟩)] w (Ret w (.bool (sameId d x))) := by
  go_enter Try.func93, Try.ntmps93
  go_wp2
  exact ret_bool rfl rfl rfl rfl (by repeat (first | exact Ext.refl _ | assumption | apply Ext.alloc | apply Ext.drewN | apply Ext.drew | (refine Ext.setCell ?_ (by first | (simp; done) | (simp; omega) | omega) _) | (refine Ext.trans ?_ (by assumption))))
theorem HoldsOk1_run (vs : Array Value) (u : World) : Sem.run Try.prog (callFunc 93 vs) u = .ok (.enter 93 vs) u := by
  simp [go_sem]
set_option maxHeartbeats 4000000 in
set_option maxRecDepth 4000 in
theorem HoldsOk_c (xs : List Hold) (A : Option Addr) (n c : Nat) (w : World) (h : SlAt RHold 12 w A n xs) (hl : n ≤ maxLen) (hcap : n ≤ c) : Calls Try.prog 61 #[.slice A n c] w (Ret w (.bool (holdsB xs))) := by
  have hl' := hl
  unfold maxLen at hl
  have HN := Lib.hid h.len
  have hM := Flat.mono Hold.enc Hold.ok
  go_enter Try.func61, Try.ntmps61
  go_wp2
  go_loopw [7] (fun i wr => ∃ k : Nat, k ≤ n ∧ i = .int .i64 k ∧ Ext w wr ∧ holdsB xs = (holdsGo (xs.take k) (xs.drop k) && decide (xs.length ≤ 60))) (fun i _ => n - (intOf i).toNat)
  case atStart => exact ⟨0, Nat.zero_le _, rfl, Ext.refl _, rfl⟩
  case round =>
    obtain ⟨k, hk, rfl, hb, hE⟩ := hrel
    have HE := Lib.hid hE; clear hE
    by_cases hlt : k < n
    · have hsl := h.ext hM hb
      obtain ⟨b, o, x, cs, rfl, hbw, hx, _, hc, rfl, hok⟩ := hsl.at_ hlt
      have hsz := hok.1
      have hkc : k ≤ c := by omega
      clear hok
      have c0 := hc 0 _ rfl
      have c1 := hc 1 _ rfl
      have c2 := hc 2 _ rfl
      have c3 := hc 3 _ rfl
      have c4 := hc 4 _ rfl
      have c5 := hc 5 _ rfl
      have c6 := hc 6 _ rfl
      have c7 := hc 7 _ rfl
      have c8 := hc 8 _ rfl
      have c9 := hc 9 _ rfl
      have c10 := hc 10 _ rfl
      have c11 := hc 11 _ rfl
      simp only [Nat.add_zero] at c0
      have HG := Lib.hid (holdsGo_next hx)
      have HC := Lib.hid (fun (u : World) (e : Ext (wr.alloc (.cells #[.string x.Name, .int .i64 x.Job.Id, .int .i64 x.Job.Prio, .int .i64 x.Job.Nodes, .int .i64 x.Job.Need.A, .int .i64 x.Job.Need.B, .int .i64 x.Job.Need.C, .int .i64 x.Job.Lic.A, .int .i64 x.Job.Lic.B, .int .i64 x.Job.Lic.C, .int .i64 x.Job.Wall, .int .i64 x.Job.Level] 54)) u) => ContainsFuncH_c (xs.take k) (sameId x) 93 #[.pointer (some ⟨wr.heap.size, 0, none⟩)] (some ⟨b, o, none⟩) k c u ((hsl.ext hM (Ext.trans (Ext.alloc (Ext.refl _) _) e)).take (by omega)) (by omega) HoldsOk1_run (fun y u' e' => HoldsOk1_c y x wr.heap.size u' (Nat.lt_of_lt_of_le (by simp) (e.trans e').le) ((e.trans e').cell (cell_box wr [.string x.Name, .int .i64 x.Job.Id, .int .i64 x.Job.Prio, .int .i64 x.Job.Nodes, .int .i64 x.Job.Need.A, .int .i64 x.Job.Need.B, .int .i64 x.Job.Need.C, .int .i64 x.Job.Lic.A, .int .i64 x.Job.Lic.B, .int .i64 x.Job.Lic.C, .int .i64 x.Job.Wall, .int .i64 x.Job.Level] _ 1 _ rfl))))
      clear hc hx h hsl
      rcases (Bool.eq_false_or_eq_true (wordB x.Name)).symm with h1 | h1
      · have HF := Lib.hid (show holdsB xs = false by rw [HE.out, HG.out]; unfold holdOkB; rw [h1]; rfl)
        go_wp2_with fail
        refine (WordOk_c _ _ hsz).mono ?_
        rintro e w2 ⟨rfl, rfl⟩
        go_wp2
        exact ret_bool rfl rfl rfl HF.out.symm (hb.alloc _)
      rcases (Bool.eq_false_or_eq_true (jobB x.Job)).symm with h2 | h2
      · have HF := Lib.hid (show holdsB xs = false by rw [HE.out, HG.out]; unfold holdOkB; rw [h1, h2]; rfl)
        go_wp2_with fail
        refine (WordOk_c _ _ hsz).mono ?_
        rintro e w2 ⟨rfl, rfl⟩
        go_wp2_with fail
        refine (JobOk_c x.Job _).mono ?_
        rintro e w3 ⟨rfl, hb3⟩
        go_wp2
        exact ret_bool rfl rfl rfl HF.out.symm ((hb.alloc _).trans hb3)
      rcases (Bool.eq_false_or_eq_true ((xs.take k).any (sameId x))) with h3 | h3
      all_goals
        have H3 := Lib.hid h3
        rw [h3] at HC
        clear h3
        go_wp2_with fail
        refine (WordOk_c _ _ hsz).mono ?_
        rintro e w2 ⟨rfl, rfl⟩
        go_wp2_with fail
        refine (JobOk_c x.Job _).mono ?_
        rintro e w3 ⟨rfl, hb3⟩
        go_wp2_with fail
        refine (HC.out _ hb3).mono ?_
        rintro e w4 ⟨rfl, hb4⟩
      · have HF := Lib.hid (show holdsB xs = false by rw [HE.out, HG.out, H3.out]; simp)
        go_wp2
        exact ret_bool rfl rfl rfl HF.out.symm (((hb.alloc _).trans hb3).trans hb4)
      · have HF := Lib.hid (show holdOkB x = true by unfold holdOkB; rw [h1, h2]; rfl)
        go_wp2
        go_roundw
        case rel => exact ⟨k + 1, by omega, by go_num, ((hb.alloc _).trans hb3).trans hb4, by rw [HE.out, HG.out, H3.out, HF.out]; rfl⟩
        case measure => simp [intOf]; omega
    · go_wp2
      refine ret_bool rfl rfl rfl ?_ hb
      rw [HE.out, List.drop_eq_nil_of_le (by have := HN.out; omega), HN.out, holdsGo, Bool.true_and]
      (first | (symm; rw [decide_eq_true_iff]; omega) | (symm; rw [decide_eq_false_iff_not]; omega) | (rw [decide_eq_decide]; omega) | ((try simp only [beq_iff_eq, beq_eq_false_iff_ne, bne_iff_ne, bne_eq_false_iff_eq, ne_eq] at *); rw [Bool.eq_iff_iff]; simp; omega))
set_option maxHeartbeats 4000000 in
set_option maxRecDepth 4000 in
theorem sHoldsOk_c (xs : List Hold) (A : Option Addr) (n c : Nat) (w : World) (h : SlAt RHold 12 w A n xs) (hl : n ≤ maxLen) (hcap : n ≤ c) : Calls Try.prog 89 #[.slice A n c] w (Ret w (.bool (holdsB xs))) := by
  have hl' := hl
  unfold maxLen at hl
  have HN := Lib.hid h.len
  have hM := Flat.mono Hold.enc Hold.ok
  go_enter Try.func89, Try.ntmps89
  by_cases hbig : 60 < n
  · go_wp2
    exact ret_bool rfl rfl rfl (by unfold holdsB; rw [HN.out]; simp; intro _; omega) (Ext.refl _)
  go_wp2
  go_loopw [11] (fun i wr => ∃ k : Nat, k ≤ n ∧ i = .int .i64 k ∧ Ext w wr ∧ holdsB xs = holdsGo (xs.take k) (xs.drop k)) (fun i _ => n - (intOf i).toNat)
  case atStart => exact ⟨0, Nat.zero_le _, rfl, Ext.refl _, by unfold holdsB; rw [HN.out, show decide (n ≤ 60) = true by rw [decide_eq_true_iff]; omega]; simp⟩
  case round =>
    obtain ⟨k, hk, rfl, hb, hE⟩ := hrel
    have HE := Lib.hid hE; clear hE
    obtain ⟨wo, rfl⟩ : ∃ wo, wo = wr := ⟨_, rfl⟩
    by_cases hlt : k < n
    · have hsl := h.ext hM hb
      obtain ⟨b, o, x, cs, rfl, hbw, hx, _, hc, rfl, hok⟩ := hsl.at_ hlt
      have hsz := hok.1
      clear hok
      have c0 := hc 0 _ rfl
      have c1 := hc 1 _ rfl
      have c2 := hc 2 _ rfl
      have c3 := hc 3 _ rfl
      have c4 := hc 4 _ rfl
      have c5 := hc 5 _ rfl
      have c6 := hc 6 _ rfl
      have c7 := hc 7 _ rfl
      have c8 := hc 8 _ rfl
      have c9 := hc 9 _ rfl
      have c10 := hc 10 _ rfl
      have c11 := hc 11 _ rfl
      simp only [Nat.add_zero] at c0
      have HG := Lib.hid (holdsGo_next hx)
      have HSl := Lib.hid (fun (u : World) (e : Ext wo u) => hsl.ext hM e)
      have hbx := fun (u : World) (e : Ext (wo.alloc (.cells #[.string x.Name, .int .i64 x.Job.Id, .int .i64 x.Job.Prio, .int .i64 x.Job.Nodes, .int .i64 x.Job.Need.A, .int .i64 x.Job.Need.B, .int .i64 x.Job.Need.C, .int .i64 x.Job.Lic.A, .int .i64 x.Job.Lic.B, .int .i64 x.Job.Lic.C, .int .i64 x.Job.Wall, .int .i64 x.Job.Level] 54)) u) => e.cell (cell_box wo [.string x.Name, .int .i64 x.Job.Id, .int .i64 x.Job.Prio, .int .i64 x.Job.Nodes, .int .i64 x.Job.Need.A, .int .i64 x.Job.Need.B, .int .i64 x.Job.Need.C, .int .i64 x.Job.Lic.A, .int .i64 x.Job.Lic.B, .int .i64 x.Job.Lic.C, .int .i64 x.Job.Wall, .int .i64 x.Job.Level] _ 1 _ rfl)
      have HBX := Lib.hid hbx
      clear hc hx h hsl hbx
      rcases (Bool.eq_false_or_eq_true (wordB x.Name)).symm with h1 | h1
      · have HF := Lib.hid (show holdsB xs = false by rw [HE.out, HG.out]; unfold holdOkB; rw [h1]; rfl)
        go_wp2_with fail
        refine (sWordOk_c _ _ hsz).mono ?_
        rintro e w2 ⟨rfl, rfl⟩
        go_wp2
        exact ret_bool rfl rfl rfl HF.out.symm (hb.alloc _)
      rcases (Bool.eq_false_or_eq_true (jobB x.Job)).symm with h2 | h2
      · have HF := Lib.hid (show holdsB xs = false by rw [HE.out, HG.out]; unfold holdOkB; rw [h1, h2]; rfl)
        go_wp2_with fail
        refine (sWordOk_c _ _ hsz).mono ?_
        rintro e w2 ⟨rfl, rfl⟩
        go_wp2_with fail
        refine (sJobOk_c x.Job _).mono ?_
        rintro e w3 ⟨rfl, hb3⟩
        go_wp2
        exact ret_bool rfl rfl rfl HF.out.symm ((hb.alloc _).trans hb3)
      have HOK := Lib.hid (show holdOkB x = true by unfold holdOkB; rw [h1, h2]; rfl)
      go_wp2_with fail
      refine (sWordOk_c _ _ hsz).mono ?_
      rintro e w2 ⟨rfl, rfl⟩
      go_wp2_with fail
      refine (sJobOk_c x.Job _).mono ?_
      rintro e w3 ⟨rfl, hb3⟩
      have hs3 : wo.heap.size + 1 ≤ w3.heap.size := by have := hb3.le; simpa using this
      clear c0 c1 c2 c3 c4 c5 c6 c7 c8 c9 c10 c11
      go_wp2
      go_loopw [5] (fun i wr => ∃ j : Nat, j ≤ k ∧ i = .int .i64 j ∧ Ext w3 wr ∧ Hid ((xs.take j).any (sameId x) = false)) (fun i _ => k - (intOf i).toNat)
      case atStart => exact ⟨0, Nat.zero_le _, rfl, Ext.refl _, Lib.hid rfl⟩
      case round =>
        obtain ⟨j, hj, rfl, hbi, HA⟩ := hrel
        by_cases hjk : j < k
        · obtain ⟨b', o', y, cs', e, _, hy, _, hc', rfl, _⟩ := (HSl.out wr (((Ext.refl _).alloc _).trans (hb3.trans hbi))).at_ (show j < n by omega)
          simp only [Option.some.injEq, Addr.mk.injEq, and_true] at e
          obtain ⟨rfl, rfl⟩ := e
          have d1 := hc' 1 _ rfl
          have g1 := HBX.out wr (hb3.trans hbi)
          have hsr := hbi.le
          have hbw2 : b < wr.heap.size := by omega
          have hbw3 : wo.heap.size < wr.heap.size := by omega
          have HT := Lib.hid (take_succ hy)
          have HT2 := Lib.hid (show y ∈ xs.take k from List.mem_iff_getElem?.2 ⟨j, by rw [List.getElem?_take, if_pos hjk]; exact hy⟩)
          have HB := Lib.hid hbi
          have hcx := @Later.cell wr
          rcases Bool.eq_false_or_eq_true (y.Job.Id == x.Job.Id) with h3 | h3
          all_goals
            have H3 := Lib.hid (show sameId x y = _ from h3)
            clear hc' hy hbi
            go_wp2
            refine wp_region_ext (by kernel_rfl) (by kernel_rfl) ?_
            repeat (go_big_quiet_step (fail))
            refine wpQuiet_nil ?_
            intro w1 hb1
            have HB1 := Lib.hid hb1
            clear hcx d1 g1 hb1
            go_wp2
          · have HF := Lib.hid (show holdsB xs = false by rw [HE.out, HG.out, show (xs.take k).any (sameId x) = true from List.any_eq_true.2 ⟨y, HT2.out, H3.out⟩]; simp)
            exact ret_bool rfl rfl rfl HF.out.symm (((hb.alloc _).trans hb3).trans (HB.out.trans HB1.out))
          · go_roundw
            case rel => exact ⟨j + 1, by omega, by go_num, HB.out.trans HB1.out, Lib.hid (by rw [HT.out, List.any_append, HA.out]; simp [H3.out])⟩
            case measure => simp [intOf]; omega
        · have HF := Lib.hid (show (xs.take k).any (sameId x) = false by rw [← show j = k by omega]; exact HA.out)
          go_wp2
          go_roundw
          case rel => exact ⟨k + 1, by omega, by go_num, ((hb.alloc _).trans hb3).trans hbi, by rw [HE.out, HG.out, HF.out, HOK.out]; rfl⟩
          case measure => simp [intOf]; omega
    · go_wp2
      exact ret_bool rfl rfl rfl (by rw [HE.out, List.drop_eq_nil_of_le (by have := HN.out; omega), holdsGo]) hb
end Go.Proofs.Ytbfambeoboiifaa
