/- A profile changed over a span: plain words. -/
import Derived.Test.YtgmlcohffdeplaaGreatArea
import Derived.Test.YtgmlcohffdeplaaGreatFits
namespace Go.Proofs.YtgmlcohffdeplaaGreat
open Go.RowKit
set_option linter.unusedVariables false
def byV (v x : Vec) : Option Vec := if fitsB v x = true then some (subV x v) else none
def byG (h : Vec → Vec) (b : Vec → Bool) (x : Vec) : Option Vec := if b x = true then some (h x) else none
theorem byV_eq (v : Vec) : byV v = byG (fun x => subV x v) (fitsB v) := rfl
def atV (l : List Pt) (fr to : Int) (g : Vec → Option Vec) (t : Int) : Option Vec := if fr ≤ t ∧ t < to then g (freeAt l t) else some (freeAt l t)
def lastF (acc : List Pt) (v : Vec) : Bool := match acc.getLast? with
  | none => true
  | some q => !decide (q.Free = v)
def putPt (acc : List Pt) (t : Int) (v : Vec) : List Pt := if lastF acc v = true then acc ++ [⟨t, v⟩] else acc
def chgGo (l : List Pt) (fr to : Int) (v : Vec → Option Vec) : List Int → List Pt → Option (List Pt)
  | [], acc => some acc
  | t :: r, acc => match atV l fr to v t with
    | none => none
    | some x => chgGo l fr to v r (putPt acc t x)
def takeG (l : List Pt) (fr to : Int) (v : Vec → Option Vec) : Option (List Pt) :=
  match chgGo l fr to v (timesL l fr to) [] with
  | none => none
  | some o => if o.length ≤ 200 then some o else none
def takeP (l : List Pt) (fr to : Int) (v : Vec) : Option (List Pt) := takeG l fr to (byV v)
theorem chg_none {l : List Pt} {fr to : Int} {v : Vec → Option Vec} {t : Int} {r : List Int} {acc : List Pt} (h : atV l fr to v t = none) : chgGo l fr to v (t :: r) acc = none := by rw [chgGo, h]
theorem chg_some {l : List Pt} {fr to : Int} {v : Vec → Option Vec} {x : Vec} {t : Int} {r : List Int} {acc : List Pt} (h : atV l fr to v t = some x) : chgGo l fr to v (t :: r) acc = chgGo l fr to v r (putPt acc t x) := by rw [chgGo, h]
theorem take_none {l : List Pt} {fr to : Int} {v : Vec → Option Vec} (h : chgGo l fr to v (timesL l fr to) [] = none) : takeG l fr to v = none := by unfold takeG; rw [h]
theorem take_some {l o : List Pt} {fr to : Int} {v : Vec → Option Vec} (h : chgGo l fr to v (timesL l fr to) [] = some o) : takeG l fr to v = if o.length ≤ 200 then some o else none := by unfold takeG; rw [h]
theorem put_len (acc : List Pt) (t : Int) (v : Vec) : (putPt acc t v).length ≤ acc.length + 1 := by
  unfold putPt; split <;> simp
theorem chg_len {l : List Pt} {fr to : Int} {v : Vec → Option Vec} : ∀ (ts : List Int) (acc o : List Pt), chgGo l fr to v ts acc = some o → o.length ≤ acc.length + ts.length := by
  intro ts
  induction ts with
  | nil => intro acc o h; injection h with h; subst h; simp
  | cons t r ih =>
    intro acc o h
    rw [chgGo] at h
    split at h
    · cases h
    · have h1 := ih _ _ h
      rename_i x _
      have h2 := put_len acc t x
      simp only [List.length_cons]; omega
theorem chain_snoc {α : Type} {ok : α → Bool} {lt : α → α → Bool} : ∀ (l : List α) (p : Option α) (x : α), chainGo ok lt p (l ++ [x]) = (chainGo ok lt p l && (ok x && (match (match l.getLast? with | none => p | some q => some q) with | none => true | some q => lt q x))) := by
  intro l
  induction l with
  | nil => intro p x; cases p <;> simp [chainGo]
  | cons a r ih =>
    intro p x
    have e : ((a :: r).getLast?) = (match r.getLast? with | none => some a | some q => some q) := by
      cases r with
      | nil => rfl
      | cons b q => rw [List.getLast?_cons_cons]; cases h : (b :: q).getLast? with
                    | none => simp at h
                    | some z => rfl
    have h2 := ih (some a) x
    rw [List.cons_append]
    cases p with
    | none =>
      rw [chainGo, chainGo, h2, e]
      cases r.getLast? <;> simp [Bool.and_assoc]
    | some q =>
      rw [chainGo, chainGo, h2, e]
      cases r.getLast? <;> simp [Bool.and_assoc]
/-- What has been written so far is in order, and all that comes is later. -/
def chgInv (acc : List Pt) (ts : List Int) : Prop := chainGo ptB ptLt none acc = true ∧ (∀ q, acc.getLast? = some q → ∀ t ∈ ts, q.At < t) ∧ (acc = [] → (∃ r, ts = 0 :: r)) ∧ (acc ≠ [] → acc.head?.map Pt.At = some 0)
theorem byV_ok {v x y : Vec} (h : byV v x = some y) : vecB y = true := by
  unfold byV at h
  split at h
  · rename_i hf
    injection h with h; subst h
    have hf2 := hf
    unfold fitsB vecB at hf
    unfold subV
    rw [if_pos hf2]
    simp only [Bool.and_eq_true, decide_eq_true_iff] at hf
    unfold vecB
    rw [decide_eq_true_iff]
    simp only []
    omega
  · cases h
theorem last_app (acc : List Pt) (x : Pt) : (acc ++ [x]).getLast? = some x := by simp
theorem chg_valid {l : List Pt} {fr to : Int} {v : Vec → Option Vec} (hg : ∀ x y, vecB x = true → v x = some y → vecB y = true) (hF : ∀ t, vecB (freeAt l t) = true) : ∀ (ts : List Int) (acc o : List Pt), ts.Pairwise (· < ·) → (∀ t ∈ ts, timeB t = true) → chgInv acc ts → chgGo l fr to v ts acc = some o → chainGo ptB ptLt none o = true ∧ o.head?.map Pt.At = some 0 := by
  intro ts
  induction ts with
  | nil =>
    intro acc o hp ht ⟨h1, h2, h3, h4⟩ h
    injection h with h; subst h
    refine ⟨h1, h4 (fun e => ?_)⟩
    obtain ⟨r, hr⟩ := h3 e
    cases hr
  | cons t r ih =>
    intro acc o hp ht ⟨h1, h2, h3, h4⟩ h
    rw [chgGo] at h
    split at h
    · cases h
    · rename_i x hx
      have hv : vecB x = true := by
        unfold atV at hx
        split at hx
        · exact hg _ _ (hF t) hx
        · injection hx with hx; rw [← hx]; exact hF t
      obtain ⟨hp1, hp2⟩ := List.pairwise_cons.1 hp
      refine ih _ _ hp2 (fun y hy => ht y (List.mem_cons_of_mem _ hy)) ?_ h
      unfold putPt
      split
      · rename_i hl
        refine ⟨?_, fun q hq y hy => ?_, fun e => by simp at e, fun _ => ?_⟩
        · rw [chain_snoc, h1, Bool.true_and, Bool.and_eq_true]
          refine ⟨by unfold ptB; rw [ht t (List.mem_cons_self ..), hv]; rfl, ?_⟩
          unfold lastF at hl
          cases hq : acc.getLast? with
          | none => rfl
          | some q =>
            rw [hq] at hl
            simp only [Bool.not_eq_true', decide_eq_false_iff_not] at hl
            simp only []
            unfold ptLt
            rw [Bool.and_eq_true, decide_eq_true_iff]
            refine ⟨h2 q hq t (List.mem_cons_self ..), ?_⟩
            rw [Bool.not_eq_true', decide_eq_false_iff_not]
            intro e
            apply hl
            cases hqf : q.Free
            rw [hqf] at e
            cases x
            simp only [] at e
            rw [e.1, e.2.1, e.2.2]
        · rw [last_app] at hq; injection hq with hq; subst hq
          exact hp1 y hy
        · cases acc with
          | nil =>
            obtain ⟨r', hr'⟩ := h3 rfl
            injection hr' with e1 _
            subst e1; rfl
          | cons a q => exact h4 (by simp)
      · rename_i hl
        have hne : acc ≠ [] := fun e => by subst e; exact hl rfl
        exact ⟨h1, fun q hq y hy => h2 q hq y (List.mem_cons_of_mem _ hy), fun e => absurd e hne, h4⟩
theorem take_valid {l o : List Pt} {fr to : Int} {v : Vec → Option Vec} (hg : ∀ x y, vecB x = true → v x = some y → vecB y = true) (hl : profB l = true) (hs : timeB fr = true ∧ timeB to = true ∧ fr < to) (hF : ∀ t, vecB (freeAt l t) = true) (hts : (timesL l fr to).Pairwise (· < ·)) (htb : ∀ t ∈ timesL l fr to, timeB t = true) (h0 : ∃ r, timesL l fr to = 0 :: r) (h : chgGo l fr to v (timesL l fr to) [] = some o) : profB o = decide (o.length ≤ 200) := by
  obtain ⟨h1, h2⟩ := chg_valid hg hF _ _ _ hts htb ⟨rfl, fun q hq => by simp at hq, fun _ => h0, fun e => absurd rfl e⟩ h
  have hne : 1 ≤ o.length := by
    cases o with
    | nil => simp at h2
    | cons a q => simp
  unfold profB
  rw [h1, h2]
  by_cases hle : o.length ≤ 200
  · simp [hle, hne]
  · simp [hle]
end Go.Proofs.YtgmlcohffdeplaaGreat
