/- Contracts: whether one more may be held. -/
import Derived.Test.YtbfambeoboiifaaWithin
import Derived.Test.YtbfambeoboiifaaHold2
import Derived.Test.YtbfambeoboiifaaLaw
import Derived.Deep.RegionHeld3
import Derived.Deep.AppendLies
namespace Go.Proofs.Ytbfambeoboiifaa
open Go.RowKit
set_option linter.unusedVariables false
theorem run_append_list {P : Program} {w w0 : World} {α : Type} {enc : α → List Value} {ok : α → Prop} (t ty : TypeId) (base : Nat) (e : TypeId) (i : TypeInfo) (z : Value) (size bytes : Nat) (v : Value) (n : Nat) (L : List Value) (A : Option Addr) (m c : Nat) (ys : List α)
    (ht : P.underlying t = some (.slice e)) (hi : P.info? e = some i) (hz : i.zero = some z)
    (hsize : i.size = size) (hby : i.bytes = bytes) (hzs : z.cells.size = size) (hsz : 0 < size)
    (hown : w.ownsRow base e size v n L) (hys : SlAt (Flat enc ok) size w A m ys) (hl : ∀ y, (enc y).length = size) (h1 : ∀ y, ∀ u ∈ enc y, u.oneCell' = true)
    (h63 : n + m ≤ maxLen) (hbytes : (n + m) * bytes ≤ 140737488355328) (hext : Ext w0 w) (hb0 : w0.heap.size ≤ base) (hbw : base ≤ w.heap.size) :
    ∃ A' c' w', (Builtin.append_ #[t, t] ty #[v, .slice A m c]).run P w = .ok (.slice A' (n + m) c') w' ∧ w'.ownsRow base e size (.slice A' (n + m) c') (n + m) (L ++ ys.flatMap enc) ∧ Ext w0 w' ∧ w.heap.size ≤ w'.heap.size ∧ w.grownBy w' v.ownBlock := by
  have hshape : ∀ {w' : World} {v' : Value} {L' : List Value}, w'.ownsRow base e size v' (n + m) L' → ∃ A' c', v' = .slice A' (n + m) c' := by
    intro w' v' L' h'
    rcases h'.2 with ⟨rfl, h0⟩ | ⟨g, cap, cur, rfl, _⟩
    · exact ⟨none, 0, by rw [h0]⟩
    · exact ⟨_, _, rfl⟩
  rcases A with _ | ad
  · have h0 : m = 0 := by
      rcases Nat.eq_zero_or_pos m with h0 | h0
      · exact h0
      · obtain ⟨b, o, e1, _⟩ := hys.2 h0; cases e1
    subst h0
    have hy : ys = [] := List.eq_nil_of_length_eq_zero hys.1
    subst hy
    have hrun := run_append_of_nil (P := P) w base t ty e i size ht hi v n L hown c
    obtain ⟨A', c', e1⟩ := hshape (show w.ownsRow base e size v (n + 0) L from hown)
    subst e1
    exact ⟨A', c', w, by simpa using hrun, by simpa using hown, hext, Nat.le_refl _, World.grownBy.refl w _⟩
  · have hlen : (ys.flatMap enc).length = m * size := by
      rw [← hys.1]; clear hys
      induction ys with
      | nil => simp
      | cons y ys ih => rw [List.flatMap_cons, List.length_append, hl, ih, List.length_cons, Nat.add_mul]; omega
    have hcells : ∀ j u, (ys.flatMap enc)[j]? = some u → w.cell? (ad.add j) = some u := by
      intro j u hu
      rcases Nat.eq_zero_or_pos m with h0 | h0
      · subst h0
        have hy : ys = [] := List.eq_nil_of_length_eq_zero hys.1
        subst hy; simp at hu
      · obtain ⟨b, off, e1, hb, hc⟩ := hys.flatCells hl h0
        injection e1 with e1; subst e1
        have := hc j u hu
        unfold Addr.add; split
        · rename_i hj; subst hj; exact this
        · exact this
    obtain ⟨v', w', hr, h2, hg', _, _⟩ := run_append_own_at (P := P) w base t ty e i z size bytes ht hi hz hsize hby hzs hsz v n L hown ad m c (ys.flatMap enc) hlen hcells (fun u hu => by obtain ⟨y, _, hu⟩ := List.mem_flatMap.1 hu; exact h1 y u hu) h63 hbytes hbw
    obtain ⟨A', c', rfl⟩ := hshape h2
    exact ⟨A', c', w', hr, h2, Below.grown hext hg' hext.le (fun k hk => by have := hown.lt k hk; omega), hg'.size, hg'⟩
theorem step_append_list {P : Program} {w w0 : World} {α : Type} {enc : α → List Value} {ok : α → Prop} {ops : Array Oper} {o : Oper} {a : Act} {K : Act → World → Prop} {Q : Exit → Act → World → Prop} {E : Prop} (hw : Region.wanted o (yielded ops a.tmps) = true) (s x : Operand) (t : TypeId)
    (ho : o.op = .call { callee := .builtin .append, args := #[s, x], argTypes := #[t, t] })
    (base : Nat) (e : TypeId) (i : TypeInfo) (z : Value) (size bytes : Nat) (ht : P.underlying t = some (.slice e)) (hi : P.info? e = some i) (hz : i.zero = some z)
    (hsize : i.size = size) (hby : i.bytes = bytes) (hzs : z.cells.size = size) (hsz : 0 < size)
    (v : Value) (n : Nat) (L : List Value) (A : Option Addr) (m c : Nat) (ys : List α) (N : Nat) (hN : n + m = N) (hs : a.eval s = v) (hx : a.eval x = .slice A m c)
    (hown : w.ownsRow base e size v n L) (hys : SlAt (Flat enc ok) size w A m ys) (hl : ∀ y, (enc y).length = size) (h1 : ∀ y, ∀ u ∈ enc y, u.oneCell' = true)
    (h63 : n + m ≤ maxLen) (hbytes : (n + m) * bytes ≤ 140737488355328) (hext : Ext w0 w) (hb0 : w0.heap.size ≤ base) (hbw : base ≤ w.heap.size)
    (h : ∀ A' c' w', w'.ownsRow base e size (.slice A' N c') N (L ++ ys.flatMap enc) → Ext w0 w' → w.heap.size ≤ w'.heap.size → w.grownBy w' v.ownBlock → K (a.put o.dst (.slice A' N c')) w') :
    if Region.wanted o (yielded ops a.tmps) = true then Oper.wp P o a w K Q else E := by
  subst hN
  rw [if_pos hw]
  obtain ⟨A', c', w', hr, h2, h3, h4, h5⟩ := run_append_list (P := P) t o.type base e i z size bytes v n L A m c ys ht hi hz hsize hby hzs hsz hown hys hl h1 h63 hbytes hext hb0 hbw
  unfold Oper.wp execOp
  simp only [ho, resolve, invoke, builtin, Sem.run_bind, Sem.run_pure, Result.andThen_ok, List.map_toArray, List.map_cons, List.map_nil, hs, hx, hr]
  exact h A' c' w' h2 h3 h4 h5
theorem sl_box {α : Type} {enc : α → List Value} {ok : α → Prop} {sz : Nat} (w : World) (x : α) (e : TypeId) (hsz : (enc x).length = sz) (hx : ok x) : SlAt (Flat enc ok) sz (w.alloc (.cells (enc x).toArray e)) (some ⟨w.heap.size, 0, none⟩) 1 [x] := by
  refine ⟨rfl, fun _ => ⟨w.heap.size, 0, rfl, by simp, fun k y hy => ?_⟩⟩
  cases k with
  | zero =>
    simp at hy; subst hy
    exact ⟨enc x, hsz, fun j u hu => by rw [show 0 + 0 * sz + j = j by omega]; exact law_box w (enc x) e j u hu, rfl, hx⟩
  | succ k => simp at hy
theorem sl_box_at {α : Type} {enc : α → List Value} {ok : α → Prop} {sz : Nat} (w : World) (b : Nat) (hb : w.heap.size = b) (x : α) (e : TypeId) (hsz : (enc x).length = sz) (hx : ok x) : SlAt (Flat enc ok) sz (w.alloc (.cells (enc x).toArray e)) (some ⟨b, 0, none⟩) 1 [x] := by
  subst hb; exact sl_box w x e hsz hx
theorem owns_empty_at (w : World) (b : Nat) (hb : w.heap.size = b) (e : TypeId) (sz : Nat) : (w.alloc (.cells #[] e)).ownsRow b e sz (.slice (some ⟨b, 0, none⟩) 0 0) 0 [] := by
  subst hb; exact owns_empty w e sz
theorem SlAt.far {α : Type} {enc : α → List Value} {ok : α → Prop} {sz m b o : Nat} {w w' : World} {row : Option Nat} {xs : List α} (h : SlAt (Flat enc ok) sz w (some ⟨b, o, none⟩) m xs) (hg : w.grownBy w' row) (hne : row ≠ some b) : SlAt (Flat enc ok) sz w' (some ⟨b, o, none⟩) m xs := by
  refine ⟨h.1, fun hm => ?_⟩
  obtain ⟨b', o', e, hb, hc⟩ := h.2 hm
  injection e with e; injection e with e1 e2; subst e1 e2
  refine ⟨b, o, rfl, Nat.lt_of_lt_of_le hb hg.size, fun k x hx => ?_⟩
  obtain ⟨cs, h1, h2, h3⟩ := hc k x hx
  exact ⟨cs, h1, fun j u hu => by rw [hg.cell_far ⟨b, o + k * sz + j, none⟩ hb (Ne.symm hne)]; exact h2 j u hu, h3⟩
theorem withinL_len {q : List Quota} {l : List Hold} (h : withinL q l = true) : l.length ≤ 60 := by
  unfold withinL holdsB at h; simp only [Bool.and_eq_true, decide_eq_true_iff] at h; exact h.1.2.2
theorem ret_base {w w0 w1 : World} {v : Value} {e : Ending} {w' : World} (h : Ret w v e w') (hb : Ext w0 w) : Ret w0 v e w' := ⟨h.1, hb.trans h.2⟩
theorem may_sl {w : World} {base : Nat} {e : TypeId} {A : Option Addr} {c : Nat} {hs : List Hold} {x : Hold} (h : w.ownsRow base e 12 (.slice A (hs.length + 1) c) (hs.length + 1) (hs.flatMap Hold.enc ++ [x].flatMap Hold.enc)) (hok : ∀ y ∈ hs ++ [x], y.ok) : SlAt RHold 12 w A (hs.length + 1) (hs ++ [x]) := by
  have e1 : (hs ++ [x]).length = hs.length + 1 := by simp
  have h' : w.ownsRow base e 12 (.slice A (hs ++ [x]).length c) (hs ++ [x]).length ((hs ++ [x]).flatMap Hold.enc) := by rw [e1, List.flatMap_append]; simpa using h
  have h2 := (OwnAt.flat Hold.size hok h').slAt
  rw [e1] at h2; exact h2
theorem may_cap {w : World} {base : Nat} {e : TypeId} {A : Option Addr} {c : Nat} {hs : List Hold} {L : List Value} (h : w.ownsRow base e 12 (.slice A (hs.length + 1) c) (hs.length + 1) L) : hs.length + 1 ≤ c := by
  rcases h.2 with ⟨_, h0⟩ | ⟨g, cap, cur, hv, _, _, hn, _⟩
  · omega
  · injection hv with _ _ e; omega
set_option maxHeartbeats 4000000 in
set_option maxRecDepth 10000 in
theorem MayHold_c (xs : List Quota) (hs : List Hold) (x : Hold) (A : Option Addr) (n c : Nat) (A2 : Option Addr) (n2 c2 : Nat) (w : World) (h : SlAt RQuota 6 w A n xs) (hl : n ≤ maxLen) (h2 : SlAt RHold 12 w A2 n2 hs) (hl2 : n2 ≤ maxLen) (hcap : n2 ≤ c2) (hx : x.ok) : Calls Try.prog 23 #[.slice A n c, .slice A2 n2 c2, .agg #[.string x.Name, .int .i64 x.Job.Id, .int .i64 x.Job.Prio, .int .i64 x.Job.Nodes, .int .i64 x.Job.Need.A, .int .i64 x.Job.Need.B, .int .i64 x.Job.Need.C, .int .i64 x.Job.Lic.A, .int .i64 x.Job.Lic.B, .int .i64 x.Job.Lic.C, .int .i64 x.Job.Wall, .int .i64 x.Job.Level]] w (Ret w (.bool (mayHoldB xs hs x))) := by
  have hl' := hl
  have hl2' := hl2
  unfold maxLen at hl hl2
  obtain rfl := h2.len
  have hM := Flat.mono Quota.enc Quota.ok
  have HW := Lib.hid (fun (u : World) (e : Ext w u) => Within_c xs hs A n c A2 hs.length c2 u (h.ext hM e) hl' (h2.ext (Flat.mono _ _) e) hl2' hcap)
  have HS := Lib.hid (fun (u : World) (e : Ext w u) => h2.ext (Flat.mono Hold.enc Hold.ok) e)
  have hq := hl'
  have HW2 := Lib.hid (fun (hs' : List Hold) (m : Nat) (A' : Option Addr) (c' : Nat) (u : World) (e : Ext w u) (h' : SlAt RHold 12 u A' m hs') (hl' : m ≤ maxLen) (hc' : m ≤ c') => Within_c xs hs' A n c A' m c' u (h.ext hM e) hq h' hl' hc')
  obtain ⟨i0, hi, hI0, hI1, hI2⟩ := info_parts Hold.info
  rcases (Bool.eq_false_or_eq_true (withinL xs hs)).symm with h1 | h1
  · have HF := Lib.hid (show mayHoldB xs hs x = false by unfold mayHoldB; rw [h1]; rfl)
    rw [h1] at HW
    clear HW2 HS h h2 hi hI0 hI1 hI2
    go_enter Try.func23, Try.ntmps23
    go_wp2
    have hcx := @Later.cell (w.alloc (.cells #[.string x.Name, .int .i64 x.Job.Id, .int .i64 x.Job.Prio, .int .i64 x.Job.Nodes, .int .i64 x.Job.Need.A, .int .i64 x.Job.Need.B, .int .i64 x.Job.Need.C, .int .i64 x.Job.Lic.A, .int .i64 x.Job.Lic.B, .int .i64 x.Job.Lic.C, .int .i64 x.Job.Wall, .int .i64 x.Job.Level] 54))
    have HB := Lib.hid (Ext.refl w)
    refine wp_region_ext (by kernel_rfl) (by kernel_rfl) ?_
    repeat (go_big_quiet_step ((go_at_call 25; exact Calls.quiet_ext ((HW.out _ ((HB.out.alloc _).trans (Later.ext _)))))))
    refine wpQuiet_nil ?_
    intro w1 hb1
    have HB1 := Lib.hid hb1
    clear hcx  hb1
    go_wp2
    exact ret_bool rfl rfl rfl HF.out.symm (((Ext.refl w).alloc _).trans HB1.out)
  have HF := Lib.hid (show mayHoldB xs hs x = withinL xs (hs ++ [x]) by unfold mayHoldB; rw [h1]; rfl)
  have hn60 := withinL_len h1
  have HOK := Lib.hid (show ∀ y ∈ hs ++ [x], y.ok from fun y hy => by
    rcases List.mem_append.1 hy with hy | hy
    · exact h2.all y hy
    · rw [List.mem_singleton.1 hy]; exact hx)
  rw [h1] at HW
  have hW3 := HW2.out (hs ++ [x]) (hs.length + 1)
  generalize withinL xs (hs ++ [x]) = r at *
  have HW3 := Lib.hid hW3
  clear HW2 hW3 h h2
  go_enter Try.func23, Try.ntmps23
  go_wp2
  have HK := Lib.hid (fun (u : World) (e : Ext (w.alloc (.cells #[.string x.Name, .int .i64 x.Job.Id, .int .i64 x.Job.Prio, .int .i64 x.Job.Nodes, .int .i64 x.Job.Need.A, .int .i64 x.Job.Need.B, .int .i64 x.Job.Need.C, .int .i64 x.Job.Lic.A, .int .i64 x.Job.Lic.B, .int .i64 x.Job.Lic.C, .int .i64 x.Job.Wall, .int .i64 x.Job.Level] 54)) u) => show Ext (w.alloc (.cells #[.string x.Name, .int .i64 x.Job.Id, .int .i64 x.Job.Prio, .int .i64 x.Job.Nodes, .int .i64 x.Job.Need.A, .int .i64 x.Job.Need.B, .int .i64 x.Job.Need.C, .int .i64 x.Job.Lic.A, .int .i64 x.Job.Lic.B, .int .i64 x.Job.Lic.C, .int .i64 x.Job.Wall, .int .i64 x.Job.Level] 54)) u ∧ u.cell? ⟨w.heap.size, 0, none⟩ = some (.string x.Name) ∧ u.cell? ⟨w.heap.size, 1, none⟩ = some (.int .i64 x.Job.Id) ∧ u.cell? ⟨w.heap.size, 2, none⟩ = some (.int .i64 x.Job.Prio) ∧ u.cell? ⟨w.heap.size, 3, none⟩ = some (.int .i64 x.Job.Nodes) ∧ u.cell? ⟨w.heap.size, 4, none⟩ = some (.int .i64 x.Job.Need.A) ∧ u.cell? ⟨w.heap.size, 5, none⟩ = some (.int .i64 x.Job.Need.B) ∧ u.cell? ⟨w.heap.size, 6, none⟩ = some (.int .i64 x.Job.Need.C) ∧ u.cell? ⟨w.heap.size, 7, none⟩ = some (.int .i64 x.Job.Lic.A) ∧ u.cell? ⟨w.heap.size, 8, none⟩ = some (.int .i64 x.Job.Lic.B) ∧ u.cell? ⟨w.heap.size, 9, none⟩ = some (.int .i64 x.Job.Lic.C) ∧ u.cell? ⟨w.heap.size, 10, none⟩ = some (.int .i64 x.Job.Wall) ∧ u.cell? ⟨w.heap.size, 11, none⟩ = some (.int .i64 x.Job.Level) from ⟨e, e.cell (law_box w [.string x.Name, .int .i64 x.Job.Id, .int .i64 x.Job.Prio, .int .i64 x.Job.Nodes, .int .i64 x.Job.Need.A, .int .i64 x.Job.Need.B, .int .i64 x.Job.Need.C, .int .i64 x.Job.Lic.A, .int .i64 x.Job.Lic.B, .int .i64 x.Job.Lic.C, .int .i64 x.Job.Wall, .int .i64 x.Job.Level] 54 0 _ rfl), e.cell (law_box w [.string x.Name, .int .i64 x.Job.Id, .int .i64 x.Job.Prio, .int .i64 x.Job.Nodes, .int .i64 x.Job.Need.A, .int .i64 x.Job.Need.B, .int .i64 x.Job.Need.C, .int .i64 x.Job.Lic.A, .int .i64 x.Job.Lic.B, .int .i64 x.Job.Lic.C, .int .i64 x.Job.Wall, .int .i64 x.Job.Level] 54 1 _ rfl), e.cell (law_box w [.string x.Name, .int .i64 x.Job.Id, .int .i64 x.Job.Prio, .int .i64 x.Job.Nodes, .int .i64 x.Job.Need.A, .int .i64 x.Job.Need.B, .int .i64 x.Job.Need.C, .int .i64 x.Job.Lic.A, .int .i64 x.Job.Lic.B, .int .i64 x.Job.Lic.C, .int .i64 x.Job.Wall, .int .i64 x.Job.Level] 54 2 _ rfl), e.cell (law_box w [.string x.Name, .int .i64 x.Job.Id, .int .i64 x.Job.Prio, .int .i64 x.Job.Nodes, .int .i64 x.Job.Need.A, .int .i64 x.Job.Need.B, .int .i64 x.Job.Need.C, .int .i64 x.Job.Lic.A, .int .i64 x.Job.Lic.B, .int .i64 x.Job.Lic.C, .int .i64 x.Job.Wall, .int .i64 x.Job.Level] 54 3 _ rfl), e.cell (law_box w [.string x.Name, .int .i64 x.Job.Id, .int .i64 x.Job.Prio, .int .i64 x.Job.Nodes, .int .i64 x.Job.Need.A, .int .i64 x.Job.Need.B, .int .i64 x.Job.Need.C, .int .i64 x.Job.Lic.A, .int .i64 x.Job.Lic.B, .int .i64 x.Job.Lic.C, .int .i64 x.Job.Wall, .int .i64 x.Job.Level] 54 4 _ rfl), e.cell (law_box w [.string x.Name, .int .i64 x.Job.Id, .int .i64 x.Job.Prio, .int .i64 x.Job.Nodes, .int .i64 x.Job.Need.A, .int .i64 x.Job.Need.B, .int .i64 x.Job.Need.C, .int .i64 x.Job.Lic.A, .int .i64 x.Job.Lic.B, .int .i64 x.Job.Lic.C, .int .i64 x.Job.Wall, .int .i64 x.Job.Level] 54 5 _ rfl), e.cell (law_box w [.string x.Name, .int .i64 x.Job.Id, .int .i64 x.Job.Prio, .int .i64 x.Job.Nodes, .int .i64 x.Job.Need.A, .int .i64 x.Job.Need.B, .int .i64 x.Job.Need.C, .int .i64 x.Job.Lic.A, .int .i64 x.Job.Lic.B, .int .i64 x.Job.Lic.C, .int .i64 x.Job.Wall, .int .i64 x.Job.Level] 54 6 _ rfl), e.cell (law_box w [.string x.Name, .int .i64 x.Job.Id, .int .i64 x.Job.Prio, .int .i64 x.Job.Nodes, .int .i64 x.Job.Need.A, .int .i64 x.Job.Need.B, .int .i64 x.Job.Need.C, .int .i64 x.Job.Lic.A, .int .i64 x.Job.Lic.B, .int .i64 x.Job.Lic.C, .int .i64 x.Job.Wall, .int .i64 x.Job.Level] 54 7 _ rfl), e.cell (law_box w [.string x.Name, .int .i64 x.Job.Id, .int .i64 x.Job.Prio, .int .i64 x.Job.Nodes, .int .i64 x.Job.Need.A, .int .i64 x.Job.Need.B, .int .i64 x.Job.Need.C, .int .i64 x.Job.Lic.A, .int .i64 x.Job.Lic.B, .int .i64 x.Job.Lic.C, .int .i64 x.Job.Wall, .int .i64 x.Job.Level] 54 8 _ rfl), e.cell (law_box w [.string x.Name, .int .i64 x.Job.Id, .int .i64 x.Job.Prio, .int .i64 x.Job.Nodes, .int .i64 x.Job.Need.A, .int .i64 x.Job.Need.B, .int .i64 x.Job.Need.C, .int .i64 x.Job.Lic.A, .int .i64 x.Job.Lic.B, .int .i64 x.Job.Lic.C, .int .i64 x.Job.Wall, .int .i64 x.Job.Level] 54 9 _ rfl), e.cell (law_box w [.string x.Name, .int .i64 x.Job.Id, .int .i64 x.Job.Prio, .int .i64 x.Job.Nodes, .int .i64 x.Job.Need.A, .int .i64 x.Job.Need.B, .int .i64 x.Job.Need.C, .int .i64 x.Job.Lic.A, .int .i64 x.Job.Lic.B, .int .i64 x.Job.Lic.C, .int .i64 x.Job.Wall, .int .i64 x.Job.Level] 54 10 _ rfl), e.cell (law_box w [.string x.Name, .int .i64 x.Job.Id, .int .i64 x.Job.Prio, .int .i64 x.Job.Nodes, .int .i64 x.Job.Need.A, .int .i64 x.Job.Need.B, .int .i64 x.Job.Need.C, .int .i64 x.Job.Lic.A, .int .i64 x.Job.Lic.B, .int .i64 x.Job.Lic.C, .int .i64 x.Job.Wall, .int .i64 x.Job.Level] 54 11 _ rfl)⟩)
  have HWW := Lib.hid ((Ext.refl w).alloc (.cells #[.string x.Name, .int .i64 x.Job.Id, .int .i64 x.Job.Prio, .int .i64 x.Job.Nodes, .int .i64 x.Job.Need.A, .int .i64 x.Job.Need.B, .int .i64 x.Job.Need.C, .int .i64 x.Job.Lic.A, .int .i64 x.Job.Lic.B, .int .i64 x.Job.Lic.C, .int .i64 x.Job.Wall, .int .i64 x.Job.Level] 54))
  go_region_held3 (fun u => Ext (w.alloc (.cells #[.string x.Name, .int .i64 x.Job.Id, .int .i64 x.Job.Prio, .int .i64 x.Job.Nodes, .int .i64 x.Job.Need.A, .int .i64 x.Job.Need.B, .int .i64 x.Job.Need.C, .int .i64 x.Job.Lic.A, .int .i64 x.Job.Lic.B, .int .i64 x.Job.Lic.C, .int .i64 x.Job.Wall, .int .i64 x.Job.Level] 54)) u ∧ u.cell? ⟨w.heap.size, 0, none⟩ = some (.string x.Name) ∧ u.cell? ⟨w.heap.size, 1, none⟩ = some (.int .i64 x.Job.Id) ∧ u.cell? ⟨w.heap.size, 2, none⟩ = some (.int .i64 x.Job.Prio) ∧ u.cell? ⟨w.heap.size, 3, none⟩ = some (.int .i64 x.Job.Nodes) ∧ u.cell? ⟨w.heap.size, 4, none⟩ = some (.int .i64 x.Job.Need.A) ∧ u.cell? ⟨w.heap.size, 5, none⟩ = some (.int .i64 x.Job.Need.B) ∧ u.cell? ⟨w.heap.size, 6, none⟩ = some (.int .i64 x.Job.Need.C) ∧ u.cell? ⟨w.heap.size, 7, none⟩ = some (.int .i64 x.Job.Lic.A) ∧ u.cell? ⟨w.heap.size, 8, none⟩ = some (.int .i64 x.Job.Lic.B) ∧ u.cell? ⟨w.heap.size, 9, none⟩ = some (.int .i64 x.Job.Lic.C) ∧ u.cell? ⟨w.heap.size, 10, none⟩ = some (.int .i64 x.Job.Wall) ∧ u.cell? ⟨w.heap.size, 11, none⟩ = some (.int .i64 x.Job.Level)) ((refine HK.out _ ?_; first | exact (Ext.refl _).drew | assumption | exact hx2.alloc _ | exact (hx2.alloc _).alloc _ | exact hx3.alloc _)) (first
    | (go_at_call 25; (with_reducible refine (HW.out _ (HWW.out.drew)).mono ?_); rintro e w2 ⟨rfl, hb2⟩; have hx2 : Ext (w.alloc (.cells #[.string x.Name, .int .i64 x.Job.Id, .int .i64 x.Job.Prio, .int .i64 x.Job.Nodes, .int .i64 x.Job.Need.A, .int .i64 x.Job.Need.B, .int .i64 x.Job.Need.C, .int .i64 x.Job.Lic.A, .int .i64 x.Job.Lic.B, .int .i64 x.Job.Lic.C, .int .i64 x.Job.Wall, .int .i64 x.Job.Level] 54)) w2 := Ext.trans (Ext.refl _).drew hb2)
    | (refine step_append_list (w0 := (w.alloc (.cells #[.string x.Name, .int .i64 x.Job.Id, .int .i64 x.Job.Prio, .int .i64 x.Job.Nodes, .int .i64 x.Job.Need.A, .int .i64 x.Job.Need.B, .int .i64 x.Job.Need.C, .int .i64 x.Job.Lic.A, .int .i64 x.Job.Lic.B, .int .i64 x.Job.Lic.C, .int .i64 x.Job.Wall, .int .i64 x.Job.Level] 54))) (by rfl) _ _ _ (by rfl) w2.heap.size 54 i0 _ 12 104 Try.underlying50 hi hI0 hI1 hI2 rfl (by omega) _ 0 [] A2 hs.length c2 hs hs.length (by simp) (by rfl) (by rfl) (by first | exact owns_empty w2 54 12 | exact (owns_empty w2 54 12).alloc _ | exact owns_base (owns_empty_at (w2.alloc (.cells #[.string x.Name, .int .i64 x.Job.Id, .int .i64 x.Job.Prio, .int .i64 x.Job.Nodes, .int .i64 x.Job.Need.A, .int .i64 x.Job.Need.B, .int .i64 x.Job.Need.C, .int .i64 x.Job.Lic.A, .int .i64 x.Job.Lic.B, .int .i64 x.Job.Lic.C, .int .i64 x.Job.Wall, .int .i64 x.Job.Level] 54)) (w2.heap.size + 1) (by simp) 54 12) (by simp)) (HS.out _ (HWW.out.trans (by first | exact hx2.alloc _ | exact (hx2.alloc _).alloc _))) Hold.size Hold.one (by unfold maxLen; omega) (by omega) (by first | exact hx2.alloc _ | exact (hx2.alloc _).alloc _) (by exact hx2.le) (by simp; try omega) ?_; intro A3 c3 w3 ho3 hx3 hz3 hg3; simp only [List.nil_append] at ho3)
    | (refine step_append_list (w0 := (w.alloc (.cells #[.string x.Name, .int .i64 x.Job.Id, .int .i64 x.Job.Prio, .int .i64 x.Job.Nodes, .int .i64 x.Job.Need.A, .int .i64 x.Job.Need.B, .int .i64 x.Job.Need.C, .int .i64 x.Job.Lic.A, .int .i64 x.Job.Lic.B, .int .i64 x.Job.Lic.C, .int .i64 x.Job.Wall, .int .i64 x.Job.Level] 54))) (by rfl) _ _ _ (by rfl) w2.heap.size 54 i0 _ 12 104 Try.underlying50 hi hI0 hI1 hI2 rfl (by omega) _ hs.length _ _ 1 1 [x] (hs.length + 1) rfl (by rfl) (by rfl) (by first | exact ho3 | exact ho3.alloc _) (by first | exact sl_box w3 x 54 rfl hx | exact SlAt.far (enc := Hold.enc) (sl_box_at (w2.alloc (.cells #[] 54)) (w2.heap.size + 1) (by simp) x 54 rfl hx) hg3 (by show some w2.heap.size ≠ some (w2.heap.size + 1); simp) | exact SlAt.far (enc := Hold.enc) ((sl_box w2 x 54 rfl hx).ext (Flat.mono Hold.enc Hold.ok) ((Ext.refl _).alloc _)) hg3 (by show some (w2.heap.size + 1) ≠ some w2.heap.size; simp)) Hold.size Hold.one (by unfold maxLen; omega) (by omega) (by first | exact hx3 | exact hx3.alloc _) (by exact hx2.le) (by have := hz3; simp at this ⊢; omega) ?_; intro A4 c4 w4 ho4 hx4 hz4 hg4)
    | (go_at_call 25; (with_reducible refine (HW3.out _ _ _ (HWW.out.trans hx4) (may_sl ho4 HOK.out) (by unfold maxLen; omega) (may_cap ho4)).mono ?_); rintro e w5 ⟨rfl, hb5⟩; have hx5 : Ext (w.alloc (.cells #[.string x.Name, .int .i64 x.Job.Id, .int .i64 x.Job.Prio, .int .i64 x.Job.Nodes, .int .i64 x.Job.Need.A, .int .i64 x.Job.Need.B, .int .i64 x.Job.Need.C, .int .i64 x.Job.Lic.A, .int .i64 x.Job.Lic.B, .int .i64 x.Job.Lic.C, .int .i64 x.Job.Wall, .int .i64 x.Job.Level] 54)) w5 := Ext.trans hx4 hb5))
  all_goals
    clear hx2 hx3 hx4 HK
    go_wp2
    exact ret_bool rfl rfl rfl HF.out.symm (HWW.out.trans hx5)
set_option maxHeartbeats 4000000 in
set_option maxRecDepth 10000 in
theorem sMayHold_c (xs : List Quota) (hs : List Hold) (x : Hold) (A : Option Addr) (n c : Nat) (A2 : Option Addr) (n2 c2 : Nat) (w : World) (h : SlAt RQuota 6 w A n xs) (hl : n ≤ maxLen) (h2 : SlAt RHold 12 w A2 n2 hs) (hl2 : n2 ≤ maxLen) (hcap : n2 ≤ c2) (hx : x.ok) : Calls Try.prog 24 #[.slice A n c, .slice A2 n2 c2, .agg #[.string x.Name, .int .i64 x.Job.Id, .int .i64 x.Job.Prio, .int .i64 x.Job.Nodes, .int .i64 x.Job.Need.A, .int .i64 x.Job.Need.B, .int .i64 x.Job.Need.C, .int .i64 x.Job.Lic.A, .int .i64 x.Job.Lic.B, .int .i64 x.Job.Lic.C, .int .i64 x.Job.Wall, .int .i64 x.Job.Level]] w (Ret w (.bool (mayHoldB xs hs x))) := by
  have hl' := hl
  have hl2' := hl2
  unfold maxLen at hl hl2
  obtain rfl := h2.len
  have hM := Flat.mono Quota.enc Quota.ok
  have HW := Lib.hid (fun (u : World) (e : Ext w u) => sWithin_c xs hs A n c A2 hs.length c2 u (h.ext hM e) hl' (h2.ext (Flat.mono _ _) e) hl2' hcap)
  have HS := Lib.hid (fun (u : World) (e : Ext w u) => h2.ext (Flat.mono Hold.enc Hold.ok) e)
  have hq := hl'
  have HW2 := Lib.hid (fun (hs' : List Hold) (m : Nat) (A' : Option Addr) (c' : Nat) (u : World) (e : Ext w u) (h' : SlAt RHold 12 u A' m hs') (hl' : m ≤ maxLen) (hc' : m ≤ c') => sWithin_c xs hs' A n c A' m c' u (h.ext hM e) hq h' hl' hc')
  obtain ⟨i0, hi, hI0, hI1, hI2⟩ := info_parts Hold.info
  rcases (Bool.eq_false_or_eq_true (withinL xs hs)).symm with h1 | h1
  · have HF := Lib.hid (show mayHoldB xs hs x = false by unfold mayHoldB; rw [h1]; rfl)
    rw [h1] at HW
    clear HW2 HS h h2 hi hI0 hI1 hI2
    go_enter Try.func24, Try.ntmps24
    go_wp2
    have hcx := @Later.cell (w.alloc (.cells #[.string x.Name, .int .i64 x.Job.Id, .int .i64 x.Job.Prio, .int .i64 x.Job.Nodes, .int .i64 x.Job.Need.A, .int .i64 x.Job.Need.B, .int .i64 x.Job.Need.C, .int .i64 x.Job.Lic.A, .int .i64 x.Job.Lic.B, .int .i64 x.Job.Lic.C, .int .i64 x.Job.Wall, .int .i64 x.Job.Level] 54))
    have HB := Lib.hid (Ext.refl w)
    refine wp_region_ext (by kernel_rfl) (by kernel_rfl) ?_
    repeat (go_big_quiet_step ((go_at_call 59; exact Calls.quiet_ext ((HW.out _ ((HB.out.alloc _).trans (Later.ext _)))))))
    refine wpQuiet_nil ?_
    intro w1 hb1
    have HB1 := Lib.hid hb1
    clear hcx  hb1
    go_wp2
    exact ret_bool rfl rfl rfl HF.out.symm (((Ext.refl w).alloc _).trans HB1.out)
  have HF := Lib.hid (show mayHoldB xs hs x = withinL xs (hs ++ [x]) by unfold mayHoldB; rw [h1]; rfl)
  have hn60 := withinL_len h1
  have HOK := Lib.hid (show ∀ y ∈ hs ++ [x], y.ok from fun y hy => by
    rcases List.mem_append.1 hy with hy | hy
    · exact h2.all y hy
    · rw [List.mem_singleton.1 hy]; exact hx)
  rw [h1] at HW
  have hW3 := HW2.out (hs ++ [x]) (hs.length + 1)
  generalize withinL xs (hs ++ [x]) = r at *
  have HW3 := Lib.hid hW3
  clear HW2 hW3 h h2
  go_enter Try.func24, Try.ntmps24
  go_wp2
  have HK := Lib.hid (fun (u : World) (e : Ext (w.alloc (.cells #[.string x.Name, .int .i64 x.Job.Id, .int .i64 x.Job.Prio, .int .i64 x.Job.Nodes, .int .i64 x.Job.Need.A, .int .i64 x.Job.Need.B, .int .i64 x.Job.Need.C, .int .i64 x.Job.Lic.A, .int .i64 x.Job.Lic.B, .int .i64 x.Job.Lic.C, .int .i64 x.Job.Wall, .int .i64 x.Job.Level] 54)) u) => show Ext (w.alloc (.cells #[.string x.Name, .int .i64 x.Job.Id, .int .i64 x.Job.Prio, .int .i64 x.Job.Nodes, .int .i64 x.Job.Need.A, .int .i64 x.Job.Need.B, .int .i64 x.Job.Need.C, .int .i64 x.Job.Lic.A, .int .i64 x.Job.Lic.B, .int .i64 x.Job.Lic.C, .int .i64 x.Job.Wall, .int .i64 x.Job.Level] 54)) u ∧ u.cell? ⟨w.heap.size, 0, none⟩ = some (.string x.Name) ∧ u.cell? ⟨w.heap.size, 1, none⟩ = some (.int .i64 x.Job.Id) ∧ u.cell? ⟨w.heap.size, 2, none⟩ = some (.int .i64 x.Job.Prio) ∧ u.cell? ⟨w.heap.size, 3, none⟩ = some (.int .i64 x.Job.Nodes) ∧ u.cell? ⟨w.heap.size, 4, none⟩ = some (.int .i64 x.Job.Need.A) ∧ u.cell? ⟨w.heap.size, 5, none⟩ = some (.int .i64 x.Job.Need.B) ∧ u.cell? ⟨w.heap.size, 6, none⟩ = some (.int .i64 x.Job.Need.C) ∧ u.cell? ⟨w.heap.size, 7, none⟩ = some (.int .i64 x.Job.Lic.A) ∧ u.cell? ⟨w.heap.size, 8, none⟩ = some (.int .i64 x.Job.Lic.B) ∧ u.cell? ⟨w.heap.size, 9, none⟩ = some (.int .i64 x.Job.Lic.C) ∧ u.cell? ⟨w.heap.size, 10, none⟩ = some (.int .i64 x.Job.Wall) ∧ u.cell? ⟨w.heap.size, 11, none⟩ = some (.int .i64 x.Job.Level) from ⟨e, e.cell (law_box w [.string x.Name, .int .i64 x.Job.Id, .int .i64 x.Job.Prio, .int .i64 x.Job.Nodes, .int .i64 x.Job.Need.A, .int .i64 x.Job.Need.B, .int .i64 x.Job.Need.C, .int .i64 x.Job.Lic.A, .int .i64 x.Job.Lic.B, .int .i64 x.Job.Lic.C, .int .i64 x.Job.Wall, .int .i64 x.Job.Level] 54 0 _ rfl), e.cell (law_box w [.string x.Name, .int .i64 x.Job.Id, .int .i64 x.Job.Prio, .int .i64 x.Job.Nodes, .int .i64 x.Job.Need.A, .int .i64 x.Job.Need.B, .int .i64 x.Job.Need.C, .int .i64 x.Job.Lic.A, .int .i64 x.Job.Lic.B, .int .i64 x.Job.Lic.C, .int .i64 x.Job.Wall, .int .i64 x.Job.Level] 54 1 _ rfl), e.cell (law_box w [.string x.Name, .int .i64 x.Job.Id, .int .i64 x.Job.Prio, .int .i64 x.Job.Nodes, .int .i64 x.Job.Need.A, .int .i64 x.Job.Need.B, .int .i64 x.Job.Need.C, .int .i64 x.Job.Lic.A, .int .i64 x.Job.Lic.B, .int .i64 x.Job.Lic.C, .int .i64 x.Job.Wall, .int .i64 x.Job.Level] 54 2 _ rfl), e.cell (law_box w [.string x.Name, .int .i64 x.Job.Id, .int .i64 x.Job.Prio, .int .i64 x.Job.Nodes, .int .i64 x.Job.Need.A, .int .i64 x.Job.Need.B, .int .i64 x.Job.Need.C, .int .i64 x.Job.Lic.A, .int .i64 x.Job.Lic.B, .int .i64 x.Job.Lic.C, .int .i64 x.Job.Wall, .int .i64 x.Job.Level] 54 3 _ rfl), e.cell (law_box w [.string x.Name, .int .i64 x.Job.Id, .int .i64 x.Job.Prio, .int .i64 x.Job.Nodes, .int .i64 x.Job.Need.A, .int .i64 x.Job.Need.B, .int .i64 x.Job.Need.C, .int .i64 x.Job.Lic.A, .int .i64 x.Job.Lic.B, .int .i64 x.Job.Lic.C, .int .i64 x.Job.Wall, .int .i64 x.Job.Level] 54 4 _ rfl), e.cell (law_box w [.string x.Name, .int .i64 x.Job.Id, .int .i64 x.Job.Prio, .int .i64 x.Job.Nodes, .int .i64 x.Job.Need.A, .int .i64 x.Job.Need.B, .int .i64 x.Job.Need.C, .int .i64 x.Job.Lic.A, .int .i64 x.Job.Lic.B, .int .i64 x.Job.Lic.C, .int .i64 x.Job.Wall, .int .i64 x.Job.Level] 54 5 _ rfl), e.cell (law_box w [.string x.Name, .int .i64 x.Job.Id, .int .i64 x.Job.Prio, .int .i64 x.Job.Nodes, .int .i64 x.Job.Need.A, .int .i64 x.Job.Need.B, .int .i64 x.Job.Need.C, .int .i64 x.Job.Lic.A, .int .i64 x.Job.Lic.B, .int .i64 x.Job.Lic.C, .int .i64 x.Job.Wall, .int .i64 x.Job.Level] 54 6 _ rfl), e.cell (law_box w [.string x.Name, .int .i64 x.Job.Id, .int .i64 x.Job.Prio, .int .i64 x.Job.Nodes, .int .i64 x.Job.Need.A, .int .i64 x.Job.Need.B, .int .i64 x.Job.Need.C, .int .i64 x.Job.Lic.A, .int .i64 x.Job.Lic.B, .int .i64 x.Job.Lic.C, .int .i64 x.Job.Wall, .int .i64 x.Job.Level] 54 7 _ rfl), e.cell (law_box w [.string x.Name, .int .i64 x.Job.Id, .int .i64 x.Job.Prio, .int .i64 x.Job.Nodes, .int .i64 x.Job.Need.A, .int .i64 x.Job.Need.B, .int .i64 x.Job.Need.C, .int .i64 x.Job.Lic.A, .int .i64 x.Job.Lic.B, .int .i64 x.Job.Lic.C, .int .i64 x.Job.Wall, .int .i64 x.Job.Level] 54 8 _ rfl), e.cell (law_box w [.string x.Name, .int .i64 x.Job.Id, .int .i64 x.Job.Prio, .int .i64 x.Job.Nodes, .int .i64 x.Job.Need.A, .int .i64 x.Job.Need.B, .int .i64 x.Job.Need.C, .int .i64 x.Job.Lic.A, .int .i64 x.Job.Lic.B, .int .i64 x.Job.Lic.C, .int .i64 x.Job.Wall, .int .i64 x.Job.Level] 54 9 _ rfl), e.cell (law_box w [.string x.Name, .int .i64 x.Job.Id, .int .i64 x.Job.Prio, .int .i64 x.Job.Nodes, .int .i64 x.Job.Need.A, .int .i64 x.Job.Need.B, .int .i64 x.Job.Need.C, .int .i64 x.Job.Lic.A, .int .i64 x.Job.Lic.B, .int .i64 x.Job.Lic.C, .int .i64 x.Job.Wall, .int .i64 x.Job.Level] 54 10 _ rfl), e.cell (law_box w [.string x.Name, .int .i64 x.Job.Id, .int .i64 x.Job.Prio, .int .i64 x.Job.Nodes, .int .i64 x.Job.Need.A, .int .i64 x.Job.Need.B, .int .i64 x.Job.Need.C, .int .i64 x.Job.Lic.A, .int .i64 x.Job.Lic.B, .int .i64 x.Job.Lic.C, .int .i64 x.Job.Wall, .int .i64 x.Job.Level] 54 11 _ rfl)⟩)
  have HWW := Lib.hid ((Ext.refl w).alloc (.cells #[.string x.Name, .int .i64 x.Job.Id, .int .i64 x.Job.Prio, .int .i64 x.Job.Nodes, .int .i64 x.Job.Need.A, .int .i64 x.Job.Need.B, .int .i64 x.Job.Need.C, .int .i64 x.Job.Lic.A, .int .i64 x.Job.Lic.B, .int .i64 x.Job.Lic.C, .int .i64 x.Job.Wall, .int .i64 x.Job.Level] 54))
  go_region_held3 (fun u => Ext (w.alloc (.cells #[.string x.Name, .int .i64 x.Job.Id, .int .i64 x.Job.Prio, .int .i64 x.Job.Nodes, .int .i64 x.Job.Need.A, .int .i64 x.Job.Need.B, .int .i64 x.Job.Need.C, .int .i64 x.Job.Lic.A, .int .i64 x.Job.Lic.B, .int .i64 x.Job.Lic.C, .int .i64 x.Job.Wall, .int .i64 x.Job.Level] 54)) u ∧ u.cell? ⟨w.heap.size, 0, none⟩ = some (.string x.Name) ∧ u.cell? ⟨w.heap.size, 1, none⟩ = some (.int .i64 x.Job.Id) ∧ u.cell? ⟨w.heap.size, 2, none⟩ = some (.int .i64 x.Job.Prio) ∧ u.cell? ⟨w.heap.size, 3, none⟩ = some (.int .i64 x.Job.Nodes) ∧ u.cell? ⟨w.heap.size, 4, none⟩ = some (.int .i64 x.Job.Need.A) ∧ u.cell? ⟨w.heap.size, 5, none⟩ = some (.int .i64 x.Job.Need.B) ∧ u.cell? ⟨w.heap.size, 6, none⟩ = some (.int .i64 x.Job.Need.C) ∧ u.cell? ⟨w.heap.size, 7, none⟩ = some (.int .i64 x.Job.Lic.A) ∧ u.cell? ⟨w.heap.size, 8, none⟩ = some (.int .i64 x.Job.Lic.B) ∧ u.cell? ⟨w.heap.size, 9, none⟩ = some (.int .i64 x.Job.Lic.C) ∧ u.cell? ⟨w.heap.size, 10, none⟩ = some (.int .i64 x.Job.Wall) ∧ u.cell? ⟨w.heap.size, 11, none⟩ = some (.int .i64 x.Job.Level)) ((refine HK.out _ ?_; first | exact (Ext.refl _).drew | assumption | exact hx2.alloc _ | exact (hx2.alloc _).alloc _ | exact hx3.alloc _)) (first
    | (go_at_call 59; (with_reducible refine (HW.out _ (HWW.out.drew)).mono ?_); rintro e w2 ⟨rfl, hb2⟩; have hx2 : Ext (w.alloc (.cells #[.string x.Name, .int .i64 x.Job.Id, .int .i64 x.Job.Prio, .int .i64 x.Job.Nodes, .int .i64 x.Job.Need.A, .int .i64 x.Job.Need.B, .int .i64 x.Job.Need.C, .int .i64 x.Job.Lic.A, .int .i64 x.Job.Lic.B, .int .i64 x.Job.Lic.C, .int .i64 x.Job.Wall, .int .i64 x.Job.Level] 54)) w2 := Ext.trans (Ext.refl _).drew hb2)
    | (refine step_append_list (w0 := (w.alloc (.cells #[.string x.Name, .int .i64 x.Job.Id, .int .i64 x.Job.Prio, .int .i64 x.Job.Nodes, .int .i64 x.Job.Need.A, .int .i64 x.Job.Need.B, .int .i64 x.Job.Need.C, .int .i64 x.Job.Lic.A, .int .i64 x.Job.Lic.B, .int .i64 x.Job.Lic.C, .int .i64 x.Job.Wall, .int .i64 x.Job.Level] 54))) (by rfl) _ _ _ (by rfl) w2.heap.size 54 i0 _ 12 104 Try.underlying50 hi hI0 hI1 hI2 rfl (by omega) _ 0 [] A2 hs.length c2 hs hs.length (by simp) (by rfl) (by rfl) (by first | exact owns_empty w2 54 12 | exact (owns_empty w2 54 12).alloc _ | exact owns_base (owns_empty_at (w2.alloc (.cells #[.string x.Name, .int .i64 x.Job.Id, .int .i64 x.Job.Prio, .int .i64 x.Job.Nodes, .int .i64 x.Job.Need.A, .int .i64 x.Job.Need.B, .int .i64 x.Job.Need.C, .int .i64 x.Job.Lic.A, .int .i64 x.Job.Lic.B, .int .i64 x.Job.Lic.C, .int .i64 x.Job.Wall, .int .i64 x.Job.Level] 54)) (w2.heap.size + 1) (by simp) 54 12) (by simp)) (HS.out _ (HWW.out.trans (by first | exact hx2.alloc _ | exact (hx2.alloc _).alloc _))) Hold.size Hold.one (by unfold maxLen; omega) (by omega) (by first | exact hx2.alloc _ | exact (hx2.alloc _).alloc _) (by exact hx2.le) (by simp; try omega) ?_; intro A3 c3 w3 ho3 hx3 hz3 hg3; simp only [List.nil_append] at ho3)
    | (refine step_append_list (w0 := (w.alloc (.cells #[.string x.Name, .int .i64 x.Job.Id, .int .i64 x.Job.Prio, .int .i64 x.Job.Nodes, .int .i64 x.Job.Need.A, .int .i64 x.Job.Need.B, .int .i64 x.Job.Need.C, .int .i64 x.Job.Lic.A, .int .i64 x.Job.Lic.B, .int .i64 x.Job.Lic.C, .int .i64 x.Job.Wall, .int .i64 x.Job.Level] 54))) (by rfl) _ _ _ (by rfl) w2.heap.size 54 i0 _ 12 104 Try.underlying50 hi hI0 hI1 hI2 rfl (by omega) _ hs.length _ _ 1 1 [x] (hs.length + 1) rfl (by rfl) (by rfl) (by first | exact ho3 | exact ho3.alloc _) (by first | exact sl_box w3 x 54 rfl hx | exact SlAt.far (enc := Hold.enc) (sl_box_at (w2.alloc (.cells #[] 54)) (w2.heap.size + 1) (by simp) x 54 rfl hx) hg3 (by show some w2.heap.size ≠ some (w2.heap.size + 1); simp) | exact SlAt.far (enc := Hold.enc) ((sl_box w2 x 54 rfl hx).ext (Flat.mono Hold.enc Hold.ok) ((Ext.refl _).alloc _)) hg3 (by show some (w2.heap.size + 1) ≠ some w2.heap.size; simp)) Hold.size Hold.one (by unfold maxLen; omega) (by omega) (by first | exact hx3 | exact hx3.alloc _) (by exact hx2.le) (by have := hz3; simp at this ⊢; omega) ?_; intro A4 c4 w4 ho4 hx4 hz4 hg4)
    | (go_at_call 59; (with_reducible refine (HW3.out _ _ _ (HWW.out.trans hx4) (may_sl ho4 HOK.out) (by unfold maxLen; omega) (may_cap ho4)).mono ?_); rintro e w5 ⟨rfl, hb5⟩; have hx5 : Ext (w.alloc (.cells #[.string x.Name, .int .i64 x.Job.Id, .int .i64 x.Job.Prio, .int .i64 x.Job.Nodes, .int .i64 x.Job.Need.A, .int .i64 x.Job.Need.B, .int .i64 x.Job.Need.C, .int .i64 x.Job.Lic.A, .int .i64 x.Job.Lic.B, .int .i64 x.Job.Lic.C, .int .i64 x.Job.Wall, .int .i64 x.Job.Level] 54)) w5 := Ext.trans hx4 hb5))
  all_goals
    clear hx2 hx3 hx4 HK
    go_wp2
    exact ret_bool rfl rfl rfl HF.out.symm (HWW.out.trans hx5)
end Go.Proofs.Ytbfambeoboiifaa
