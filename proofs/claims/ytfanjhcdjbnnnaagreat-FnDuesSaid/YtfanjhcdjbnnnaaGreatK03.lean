/- ChgLaw, Tree, Ints, Topo. -/
import Derived.Test.YtfanjhcdjbnnnaaGreatK01
import Derived.Test.YtfanjhcdjbnnnaaGreatK02
namespace Go.Proofs.YtfanjhcdjbnnnaaGreat
open Go.RowKit
set_option linter.unusedVariables false
set_option maxHeartbeats 4000000
set_option maxRecDepth 10000
def byV (v x : Vec) : Option Vec := if fitsB v x = true then some (subV x v) else none
def byG (h : Vec → Vec) (b : Vec → Bool) (x : Vec) : Option Vec := if b x = true then some (h x) else none
def atV (l : List Pt) (fr to : Int) (g : Vec → Option Vec) (t : Int) : Option Vec := if fr ≤ t ∧ t < to then g (freeAt l t) else some (freeAt l t)
def lastF (acc : List Pt) (v : Vec) : Bool := match acc.getLast? with
 | none => true
 | some q => !decide (q.Free = v)
def putPt (acc : List Pt) (t : Int) (v : Vec) : List Pt := if lastF acc v = true then acc ++ [⟨t,v⟩] else acc
def chgGo (l : List Pt) (fr to : Int) (v : Vec → Option Vec) : List Int → List Pt → Option (List Pt)
 | [],acc => some acc
 | t :: r,acc => match atV l fr to v t with
  | none => none
  | some x => chgGo l fr to v r (putPt acc t x)
def takeG (l : List Pt) (fr to : Int) (v : Vec → Option Vec) : Option (List Pt) :=
 match chgGo l fr to v (timesL l fr to) [] with
 | none => none
 | some o => if o.length ≤ 200 then some o else none
def takeP (l : List Pt) (fr to : Int) (v : Vec) : Option (List Pt) := takeG l fr to (byV v)
theorem chg_none {l : List Pt} {fr to : Int} {v : Vec → Option Vec} {t : Int} {r : List Int} {acc : List Pt} (h : atV l fr to v t = none) : chgGo l fr to v (t :: r) acc = none := by rw [chgGo,h]
theorem chg_some {l : List Pt} {fr to : Int} {v : Vec → Option Vec} {x : Vec} {t : Int} {r : List Int} {acc : List Pt} (h : atV l fr to v t = some x) : chgGo l fr to v (t :: r) acc = chgGo l fr to v r (putPt acc t x) := by rw [chgGo,h]
theorem take_none {l : List Pt} {fr to : Int} {v : Vec → Option Vec} (h : chgGo l fr to v (timesL l fr to) [] = none) : takeG l fr to v = none := by unfold takeG;rw [h]
theorem take_some {l o : List Pt} {fr to : Int} {v : Vec → Option Vec} (h : chgGo l fr to v (timesL l fr to) [] = some o) : takeG l fr to v = if o.length ≤ 200 then some o else none := by unfold takeG;rw [h]
theorem chain_snoc {α : Type} {ok : α → Bool} {lt : α → α → Bool} : ∀ (l : List α) (p : Option α) (x : α),chainGo ok lt p (l ++ [x]) = (chainGo ok lt p l && (ok x && (match (match l.getLast? with | none => p | some q => some q) with | none => true | some q => lt q x))) := by
 intro l
 induction l with
 | nil => intro p x;cases p <;> simp [chainGo]
 | cons a r ih =>
  intro p x
  have e : ((a :: r).getLast?) = (match r.getLast? with | none => some a | some q => some q) := by
   cases r with
   | nil => rfl
   | cons b q => rw [List.getLast?_cons_cons];cases h : (b :: q).getLast? with
          | none => simp at h
          | some z => rfl
  have h2 := ih (some a) x
  rw [List.cons_append]
  cases p with
  | none =>
   rw [chainGo,chainGo,h2,e]
   cases r.getLast? <;> simp [Bool.and_assoc]
  | some q =>
   rw [chainGo,chainGo,h2,e]
   cases r.getLast? <;> simp [Bool.and_assoc]
def chgInv (acc : List Pt) (ts : List Int) : Prop := chainGo ptB ptLt none acc = true ∧ (∀ q,acc.getLast? = some q → ∀ t ∈ ts,q.At < t) ∧ (acc = [] → (∃ r,ts = 0 :: r)) ∧ (acc ≠ [] → acc.head?.map Pt.At = some 0)
theorem byV_ok {v x y : Vec} (h : byV v x = some y) : vecB y = true := by
 unfold byV at h
 split at h
 ·rename_i hf
  injection h with h;subst h
  have hf2 := hf
  unfold fitsB vecB at hf
  unfold subV
  rw [if_pos hf2]
  simp only [Bool.and_eq_true,decide_eq_true_iff] at hf
  unfold vecB
  rw [decide_eq_true_iff]
  simp only []
  omega
 ·cases h
theorem last_app (acc : List Pt) (x : Pt) : (acc ++ [x]).getLast? = some x := by simp
theorem chg_valid {l : List Pt} {fr to : Int} {v : Vec → Option Vec} (hg : ∀ x y,vecB x = true → v x = some y → vecB y = true) (hF : ∀ t,vecB (freeAt l t) = true) : ∀ (ts : List Int) (acc o : List Pt),ts.Pairwise (· < ·) → (∀ t ∈ ts,timeB t = true) → chgInv acc ts → chgGo l fr to v ts acc = some o → chainGo ptB ptLt none o = true ∧ o.head?.map Pt.At = some 0 := by
 intro ts
 induction ts with
 | nil =>
  intro acc o hp ht ⟨h1,h2,h3,h4⟩ h
  injection h with h;subst h
  refine ⟨h1,h4 (fun e => ?_)⟩
  obtain ⟨r,hr⟩ := h3 e
  cases hr
 | cons t r ih =>
  intro acc o hp ht ⟨h1,h2,h3,h4⟩ h
  rw [chgGo] at h
  split at h
  ·cases h
  ·rename_i x hx
   have hv : vecB x = true := by
    unfold atV at hx
    split at hx
    ·exact hg _ _ (hF t) hx
    ·injection hx with hx;rw [← hx];exact hF t
   obtain ⟨hp1,hp2⟩ := List.pairwise_cons.1 hp
   refine ih _ _ hp2 (fun y hy => ht y (List.mem_cons_of_mem _ hy)) ?_ h
   unfold putPt
   split
   ·rename_i hl
    refine ⟨?_,fun q hq y hy => ?_,fun e => by simp at e,fun _ => ?_⟩
    ·rw [chain_snoc,h1,Bool.true_and,Bool.and_eq_true]
     refine ⟨by unfold ptB;rw [ht t (List.mem_cons_self ..),hv];rfl, ?_⟩
     unfold lastF at hl
     cases hq : acc.getLast? with
     | none => rfl
     | some q =>
      rw [hq] at hl
      simp only [Bool.not_eq_true',decide_eq_false_iff_not] at hl
      simp only []
      unfold ptLt
      rw [Bool.and_eq_true,decide_eq_true_iff]
      refine ⟨h2 q hq t (List.mem_cons_self ..), ?_⟩
      rw [Bool.not_eq_true',decide_eq_false_iff_not]
      intro e
      apply hl
      cases hqf : q.Free
      rw [hqf] at e
      cases x
      simp only [] at e
      rw [e.1,e.2.1,e.2.2]
    ·rw [last_app] at hq;injection hq with hq;subst hq
     exact hp1 y hy
    ·cases acc with
     | nil =>
      obtain ⟨r',hr'⟩ := h3 rfl
      injection hr' with e1 _
      subst e1;rfl
     | cons a q => exact h4 (by simp)
   ·rename_i hl
    have hne : acc ≠ [] := fun e => by subst e;exact hl rfl
    exact ⟨h1,fun q hq y hy => h2 q hq y (List.mem_cons_of_mem _ hy),fun e => absurd e hne,h4⟩
theorem take_valid {l o : List Pt} {fr to : Int} {v : Vec → Option Vec} (hg : ∀ x y,vecB x = true → v x = some y → vecB y = true) (hl : profB l = true) (hs : timeB fr = true ∧ timeB to = true ∧ fr < to) (hF : ∀ t,vecB (freeAt l t) = true) (hts : (timesL l fr to).Pairwise (· < ·)) (htb : ∀ t ∈ timesL l fr to,timeB t = true) (h0 : ∃ r,timesL l fr to = 0 :: r) (h : chgGo l fr to v (timesL l fr to) [] = some o) : profB o = decide (o.length ≤ 200) := by
 obtain ⟨h1,h2⟩ := chg_valid hg hF _ _ _ hts htb ⟨rfl,fun q hq => by simp at hq,fun _ => h0,fun e => absurd rfl e⟩ h
 have hne : 1 ≤ o.length := by
  cases o with
  | nil => simp at h2
  | cons a q => simp
 unfold profB
 rw [h1,h2]
 by_cases hle : o.length ≤ 200
 ·simp [hle,hne]
 ·simp [hle]
end Go.Proofs.YtfanjhcdjbnnnaaGreat
namespace Go.Proofs.YtfanjhcdjbnnnaaGreat
set_option maxHeartbeats 4000000
set_option maxRecDepth 10000
open Go.RowKit
def parN (ps : List Int) (s : Nat) : Nat := (ps.getD s 0).toNat
def upGo : List Int → Nat → Bool
 | [],_ => true
 | p :: r,k => decide (0 ≤ p ∧ p < k) && upGo r (k + 1)
def leafB (ps : List Int) (s : Int) : Bool := !(ps.drop 1).contains s
def dep (ps : List Int) (s : Nat) : Nat := if s = 0 then 0 else if parN ps s < s then 1 + dep ps (parN ps s) else 0
termination_by s
def deepGo (ps : List Int) : Nat → Nat → Int → Bool
 | 0,_,_ => true
 | r + 1,s,d => if leafB ps s = true then (if 0 ≤ d ∧ (dep ps s : Int) ≠ d then false else deepGo ps r (s + 1) (dep ps s)) else deepGo ps r (s + 1) d
def kidsGo : List Int → Nat → Int → List Int
 | [],_,_ => []
 | p :: r,k,s => if (p == s) = true then (k : Int) :: kidsGo r (k + 1) s else kidsGo r (k + 1) s
def kidsL (ps : List Int) (s : Int) : List Int := kidsGo (ps.drop 1) 1 s
def levGo : List Int → Bool → Int → Int
 | [],_,l => l + 1
 | n :: r,first,l => if n < 0 ∨ (first = false ∧ n ≠ l) then -1 else levGo r false n
def levF (ps : List Int) : Nat → Int → Int
 | 0,_ => 0
 | f + 1,s => levGo ((kidsL ps s).map (levF ps f)) true (-1)
theorem upGo_at (l : List Int) : ∀ k : Nat,upGo l k = true → ∀ (j : Nat) (p : Int),l[j]? = some p → 0 ≤ p ∧ p < (k + j : Nat) := by
 induction l with
 | nil => intro k _ j p h;simp at h
 | cons a r ih =>
  intro k h j p hj
  rw [upGo,Bool.and_eq_true,decide_eq_true_iff] at h
  cases j with
  | zero => simp at hj;subst hj;simpa using h.1
  | succ j =>
   have := ih (k + 1) h.2 j p (by simpa using hj)
   rw [show k + 1 + j = k + (j + 1) by omega] at this;exact this
theorem par_lt {ps : List Int} (h : upGo (ps.drop 1) 1 = true) {s : Nat} (h1 : 1 ≤ s) (hs : s < ps.length) : ps[s] = (parN ps s : Int) ∧ parN ps s < s := by
 have := upGo_at _ _ h (s - 1) ps[s] (by rw [List.getElem?_drop,show 1 + (s - 1) = s by omega];exact List.getElem?_eq_getElem hs)
 unfold parN
 rw [List.getD_eq_getElem?_getD,List.getElem?_eq_getElem hs]
 simp only [Option.getD_some]
 omega
theorem kids_mem (l : List Int) (s : Int) : ∀ k : Nat,∀ c,c ∈ kidsGo l k s ↔ ∃ j,c = ((k + j : Nat) : Int) ∧ l[j]? = some s := by
 induction l with
 | nil => intro k c;simp [kidsGo]
 | cons a r ih =>
  intro k c
  have hr : (c ∈ kidsGo r (k + 1) s) ↔ ∃ j,c = ((k + (j + 1) : Nat) : Int) ∧ (a :: r)[j + 1]? = some s := by
   rw [ih];simp only [List.getElem?_cons_succ,show ∀ j,k + 1 + j = k + (j + 1) from fun j => by omega]
  rw [kidsGo]
  by_cases e : (a == s) = true
  ·rw [if_pos e,List.mem_cons,hr]
   rw [beq_iff_eq] at e
   constructor
   ·rintro (rfl | ⟨j,h1,h2⟩)
    ·exact ⟨0,rfl,by simp [e]⟩
    ·exact ⟨j + 1,h1,h2⟩
   ·rintro ⟨j,h1,h2⟩
    cases j with
    | zero => exact .inl h1
    | succ j => exact .inr ⟨j,h1,h2⟩
  ·rw [if_neg e,hr]
   rw [beq_iff_eq] at e
   constructor
   ·rintro ⟨j,h1,h2⟩;exact ⟨j + 1,h1,h2⟩
   ·rintro ⟨j,h1,h2⟩
    cases j with
    | zero => simp at h2;exact absurd h2 e
    | succ j => exact ⟨j,h1,h2⟩
theorem kidsL_mem {ps : List Int} {s c : Int} : c ∈ kidsL ps s ↔ ∃ k : Nat,c = (k : Int) ∧ 1 ≤ k ∧ ps[k]? = some s := by
 unfold kidsL
 rw [kids_mem]
 constructor
 ·rintro ⟨j,h1,h2⟩;rw [List.getElem?_drop] at h2;exact ⟨1 + j,h1,by omega,h2⟩
 ·rintro ⟨k,h1,h2,h3⟩;exact ⟨k - 1,by rw [h1];congr 1;omega,by rw [List.getElem?_drop,show 1 + (k - 1) = k by omega];exact h3⟩
theorem kids_nil {ps : List Int} {s : Int} : (kidsL ps s).isEmpty = leafB ps s := by
 unfold leafB
 rw [Bool.eq_iff_iff,List.isEmpty_iff,Bool.not_eq_true',← Bool.not_eq_true,List.contains_iff_mem]
 constructor
 ·intro h hm
  obtain ⟨j,hj⟩ := List.mem_iff_getElem?.1 hm
  rw [List.getElem?_drop] at hj
  have : ((1 + j : Nat) : Int) ∈ kidsL ps s := kidsL_mem.2 ⟨1 + j,rfl,by omega,hj⟩
  rw [h] at this;cases this
 ·intro h
  apply List.eq_nil_iff_forall_not_mem.2
  intro c hc
  obtain ⟨k,_,h1,h2⟩ := kidsL_mem.1 hc
  exact h (List.mem_iff_getElem?.2 ⟨k - 1,by rw [List.getElem?_drop,show 1 + (k - 1) = k by omega];exact h2⟩)
inductive Und (ps : List Int) (s : Nat) : Nat → Prop
 | refl : Und ps s s
 | step (x : Nat) : 1 ≤ x → x < ps.length → Und ps s (parN ps x) → Und ps s x
theorem Und.trans {ps : List Int} {a b x : Nat} (h : Und ps a b) (k : Und ps b x) : Und ps a x := by
 induction k with
 | refl => exact h
 | step x h1 h2 _ ih => exact .step x h1 h2 ih
theorem und_kid {ps : List Int} {s x : Nat} (h : Und ps s x) : x = s ∨ ∃ k,1 ≤ k ∧ k < ps.length ∧ parN ps k = s ∧ Und ps k x := by
 induction h with
 | refl => exact .inl rfl
 | step x h1 h2 _ ih =>
  rcases ih with ih | ⟨k,h3,h4,h5,h6⟩
  ·exact .inr ⟨x,h1,h2,ih,.refl⟩
  ·exact .inr ⟨k,h3,h4,h5,.step x h1 h2 h6⟩
theorem und_top {ps : List Int} (h : upGo (ps.drop 1) 1 = true) : ∀ x,x < ps.length → Und ps 0 x := by
 intro x
 induction x using Nat.strongRecOn with
 | ind x ih =>
  intro hx
  rcases Nat.eq_zero_or_pos x with rfl | h0
  ·exact .refl
  ·have := (par_lt h h0 hx).2
   exact .step x h0 hx (ih _ this (by omega))
theorem dep_kid {ps : List Int} (h : upGo (ps.drop 1) 1 = true) {k : Nat} (h1 : 1 ≤ k) (hk : k < ps.length) : dep ps k = 1 + dep ps (parN ps k) := by
 rw [dep,if_neg (by omega),if_pos (par_lt h h1 hk).2]
theorem levGo_false (L : List Int) : ∀ l : Int,0 ≤ l → (0 ≤ levGo L false l ∧ levGo L false l = l + 1 ∧ ∀ n ∈ L,n = l) ∨ (levGo L false l < 0 ∧ ((∃ n ∈ L,n < 0) ∨ ∃ n ∈ L,0 ≤ n ∧ n ≠ l)) := by
 induction L with
 | nil => intro l hl;left;rw [levGo];exact ⟨by omega,rfl,fun n hn => by cases hn⟩
 | cons a r ih =>
  intro l hl
  rw [levGo]
  by_cases h : a < 0 ∨ (false = false ∧ a ≠ l)
  ·rw [if_pos h];right
   refine ⟨by omega, ?_⟩
   rcases h with h | ⟨_,h⟩
   ·exact .inl ⟨a,List.mem_cons_self ..,h⟩
   ·rcases Int.lt_or_le a 0 with h2 | h2
    ·exact .inl ⟨a,List.mem_cons_self ..,h2⟩
    ·exact .inr ⟨a,List.mem_cons_self ..,h2,h⟩
  ·rw [if_neg h]
   have ha : a = l := by
    by_cases e : a = l
    ·exact e
    ·exact absurd (.inr ⟨rfl,e⟩) h
   subst ha
   rcases ih a hl with ⟨h1,h2,h3⟩ | ⟨h1,h2⟩
   ·left;refine ⟨h1,h2,fun n hn => ?_⟩
    rcases List.mem_cons.1 hn with rfl | hn
    ·rfl
    ·exact h3 n hn
   ·right;refine ⟨h1, ?_⟩
    rcases h2 with ⟨n,hn,h2⟩ | ⟨n,hn,h2,h3⟩
    ·exact .inl ⟨n,List.mem_cons_of_mem _ hn,h2⟩
    ·exact .inr ⟨n,List.mem_cons_of_mem _ hn,h2,h3⟩
theorem levGo_true (L : List Int) : (L = [] ∧ levGo L true (-1) = 0) ∨ (∃ v,0 ≤ v ∧ v ∈ L ∧ levGo L true (-1) = v + 1 ∧ ∀ n ∈ L,n = v) ∨ (levGo L true (-1) < 0 ∧ ((∃ n ∈ L,n < 0) ∨ ∃ a ∈ L,∃ b ∈ L,0 ≤ a ∧ 0 ≤ b ∧ a ≠ b)) := by
 cases L with
 | nil => exact .inl ⟨rfl,rfl⟩
 | cons a r =>
  right
  rw [levGo]
  by_cases h : a < 0
  ·right;rw [if_pos (.inl h)];exact ⟨by omega,.inl ⟨a,List.mem_cons_self ..,h⟩⟩
  ·rw [if_neg (by rintro (h1 | ⟨h1,_⟩);exact h h1;cases h1)]
   rcases levGo_false r a (by omega) with ⟨h1,h2,h3⟩ | ⟨h1,h2⟩
   ·left
    refine ⟨a,by omega,List.mem_cons_self ..,h2,fun n hn => ?_⟩
    rcases List.mem_cons.1 hn with rfl | hn
    ·rfl
    ·exact h3 n hn
   ·right;refine ⟨h1, ?_⟩
    rcases h2 with ⟨n,hn,h2⟩ | ⟨n,hn,h2,h3⟩
    ·exact .inl ⟨n,List.mem_cons_of_mem _ hn,h2⟩
    ·exact .inr ⟨n,List.mem_cons_of_mem _ hn,a,List.mem_cons_self ..,h2,by omega,h3⟩
theorem lev_spec {ps : List Int} (h : upGo (ps.drop 1) 1 = true) : ∀ f s,s < ps.length → ps.length - s ≤ f →
  (0 ≤ levF ps f s ∧ (∀ x,x < ps.length → leafB ps x = true → Und ps s x → (dep ps x : Int) = dep ps s + levF ps f s) ∧ ∃ x,x < ps.length ∧ leafB ps x = true ∧ Und ps s x)
  ∨ (levF ps f s < 0 ∧ ∃ x y,x < ps.length ∧ y < ps.length ∧ leafB ps x = true ∧ leafB ps y = true ∧ Und ps s x ∧ Und ps s y ∧ dep ps x ≠ dep ps y) := by
 intro f
 induction f with
 | zero => intro s hs hf;omega
 | succ f ih =>
  intro s hs hf
  have kid : ∀ c,c ∈ kidsL ps s → ∃ k : Nat,c = (k : Int) ∧ 1 ≤ k ∧ k < ps.length ∧ parN ps k = s ∧ s < k := by
   intro c hc
   obtain ⟨k,h1,h2,h3⟩ := kidsL_mem.1 hc
   obtain ⟨h4,h5⟩ := List.getElem?_eq_some_iff.1 h3
   obtain ⟨h6,h7⟩ := par_lt h h2 h4
   have e : parN ps k = s := by rw [h5] at h6;omega
   exact ⟨k,h1,h2,h4,e,by omega⟩
  have kid' : ∀ k : Nat,1 ≤ k → k < ps.length → parN ps k = s → (k : Int) ∈ kidsL ps s := by
   intro k h1 h2 h3
   refine kidsL_mem.2 ⟨k,rfl,h1, ?_⟩
   rw [List.getElem?_eq_getElem h2,(par_lt h h1 h2).1,h3]
  have up : ∀ k x,1 ≤ k → k < ps.length → parN ps k = s → Und ps k x → Und ps s x := fun k x h1 h2 h3 hx => (Und.step k h1 h2 (by rw [h3];exact .refl)).trans hx
  rw [levF]
  rcases levGo_true ((kidsL ps s).map (levF ps f)) with ⟨h1,h2⟩ | ⟨v,h1,h2,h3,h4⟩ | ⟨h1,h2⟩
  ·left
   rw [h2]
   have hk : kidsL ps s = [] := List.map_eq_nil_iff.1 h1
   have hl : leafB ps s = true := by rw [← kids_nil,hk];rfl
   refine ⟨by omega,fun x hx hlx hu => ?_,s,hs,hl,.refl⟩
   rcases und_kid hu with rfl | ⟨k,h3,h4,h5,_⟩
   ·omega
   ·have := kid' k h3 h4 h5;rw [hk] at this;cases this
  ·left
   rw [h3]
   refine ⟨by omega,fun x hx hlx hu => ?_, ?_⟩
   ·rcases und_kid hu with rfl | ⟨k,h5,h6,h7,h8⟩
    ·have : (kidsL ps x).isEmpty = true := by rw [kids_nil];exact hlx
     rw [List.isEmpty_iff.1 this] at h2;cases h2
    ·have hm := h4 _ (List.mem_map.2 ⟨_,kid' k h5 h6 h7,rfl⟩)
     obtain ⟨_,_,_,_,_,hks⟩ := kid k (kid' k h5 h6 h7)
     rcases ih k h6 (by omega) with ⟨i1,i2,_⟩ | ⟨i1,_⟩
     ·have := i2 x hx hlx h8
      rw [hm] at this
      rw [this,dep_kid h h5 h6,h7];omega
     ·omega
   ·obtain ⟨c,hc,hv⟩ := List.mem_map.1 h2
    obtain ⟨k,rfl,h5,h6,h7,h8⟩ := kid c hc
    rcases ih k h6 (by omega) with ⟨_,_,x,i1,i2,i3⟩ | ⟨i1,_⟩
    ·exact ⟨x,i1,i2,up k x h5 h6 h7 i3⟩
    ·omega
  ·right
   refine ⟨h1, ?_⟩
   rcases h2 with ⟨n,hn,h2⟩ | ⟨a,ha,b,hb,h2,h3,h4⟩
   ·obtain ⟨c,hc,hv⟩ := List.mem_map.1 hn
    obtain ⟨k,rfl,h5,h6,h7,h8⟩ := kid c hc
    rcases ih k h6 (by omega) with ⟨i1,_⟩ | ⟨_,x,y,i1,i2,i3,i4,i5,i6,i7⟩
    ·omega
    ·exact ⟨x,y,i1,i2,i3,i4,up k x h5 h6 h7 i5,up k y h5 h6 h7 i6,i7⟩
   ·obtain ⟨c,hc,hv⟩ := List.mem_map.1 ha
    obtain ⟨d,hd,hw⟩ := List.mem_map.1 hb
    obtain ⟨k,rfl,h5,h6,h7,h8⟩ := kid c hc
    obtain ⟨m,rfl,g5,g6,g7,g8⟩ := kid d hd
    rcases ih k h6 (by omega) with ⟨_,i2,x,i3,i4,i5⟩ | ⟨i1,_⟩
    ·rcases ih m g6 (by omega) with ⟨_,j2,y,j3,j4,j5⟩ | ⟨j1,_⟩
     ·refine ⟨x,y,i3,j3,i4,j4,up k x h5 h6 h7 i5,up m y g5 g6 g7 j5, ?_⟩
      have e1 := i2 x i3 i4 i5
      have e2 := j2 y j3 j4 j5
      have d1 := dep_kid h h5 h6
      have d2 := dep_kid h g5 g6
      rw [h7] at d1;rw [g7] at d2
      omega
     ·omega
    ·omega
theorem deep_nn (ps : List Int) : ∀ r s (d : Int),0 ≤ d → (deepGo ps r s d = true ↔ ∀ x,s ≤ x → x < s + r → leafB ps x = true → (dep ps x : Int) = d) := by
 intro r
 induction r with
 | zero => intro s d _;rw [deepGo];exact ⟨fun _ x h1 h2 => by omega,fun _ => rfl⟩
 | succ r ih =>
  intro s d hd
  rw [deepGo]
  by_cases hl : leafB ps s = true
  ·rw [if_pos hl]
   by_cases he : (dep ps s : Int) = d
   ·rw [if_neg (by rintro ⟨_,h⟩;exact h he),ih _ _ (by omega)]
    constructor
    ·intro h x h1 h2 h3
     rcases Nat.eq_or_lt_of_le h1 with rfl | h1
     ·exact he
     ·rw [h x h1 (by omega) h3];exact he
    ·intro h x h1 h2 h3
     rw [h x (by omega) (by omega) h3];exact he.symm
   ·rw [if_pos ⟨hd,he⟩]
    exact ⟨(fun h => by cases h),fun h => absurd (h s (Nat.le_refl _) (by omega) hl) he⟩
  ·rw [if_neg hl,ih _ _ hd]
   constructor
   ·intro h x h1 h2 h3
    rcases Nat.eq_or_lt_of_le h1 with rfl | h1
    ·exact absurd h3 hl
    ·exact h x h1 (by omega) h3
   ·intro h x h1 h2 h3;exact h x (by omega) (by omega) h3
theorem deep_neg (ps : List Int) : ∀ r s,(deepGo ps r s (-1) = true ↔ ∀ x y,s ≤ x → x < s + r → s ≤ y → y < s + r → leafB ps x = true → leafB ps y = true → dep ps x = dep ps y) := by
 intro r
 induction r with
 | zero => intro s;rw [deepGo];exact ⟨fun _ x y h1 h2 => by omega,fun _ => rfl⟩
 | succ r ih =>
  intro s
  rw [deepGo]
  by_cases hl : leafB ps s = true
  ·rw [if_pos hl,if_neg (by rintro ⟨h,_⟩;omega),deep_nn _ _ _ _ (by omega)]
   constructor
   ·intro h
    have key : ∀ x,s ≤ x → x < s + (r + 1) → leafB ps x = true → dep ps x = dep ps s := fun x h1 h2 h3 => by
     rcases Nat.eq_or_lt_of_le h1 with rfl | h1
     ·rfl
     ·have := h x h1 (by omega) h3;omega
    intro x y h1 h2 h3 h4 h5 h6
    rw [key x h1 h2 h5,key y h3 h4 h6]
   ·intro h x h1 h2 h3
    have := h x s (by omega) (by omega) (by omega) (by omega) h3 hl;omega
  ·rw [if_neg hl,ih]
   constructor
   ·intro h x y h1 h2 h3 h4 h5 h6
    rcases Nat.eq_or_lt_of_le h1 with rfl | h1
    ·exact absurd h5 hl
    ·rcases Nat.eq_or_lt_of_le h3 with rfl | h3
     ·exact absurd h6 hl
     ·exact h x y h1 (by omega) h3 (by omega) h5 h6
   ·intro h x y h1 h2 h3 h4 h5 h6;exact h x y (by omega) (by omega) (by omega) (by omega) h5 h6
theorem deep_lev {ps : List Int} (h : upGo (ps.drop 1) 1 = true) (h0 : 0 < ps.length) {f : Nat} (hf : ps.length ≤ f) : deepGo ps ps.length 0 (-1) = decide (0 ≤ levF ps f 0) := by
 rw [Bool.eq_iff_iff,deep_neg,decide_eq_true_iff]
 have hs := lev_spec h f 0 h0 (by omega)
 constructor
 ·intro hd
  rcases hs with ⟨h1,_⟩ | ⟨_,x,y,h1,h2,h3,h4,_,_,h5⟩
  ·exact h1
  ·exact absurd (hd x y (Nat.zero_le _) (by omega) (Nat.zero_le _) (by omega) h3 h4) h5
 ·intro hl x y _ h1 _ h2 h3 h4
  rcases hs with ⟨_,h5,_⟩ | ⟨h5,_⟩
  ·have e1 := h5 x (by omega) h3 (und_top h x (by omega))
   have e2 := h5 y (by omega) h4 (und_top h y (by omega))
   omega
  ·have : levF ps f ((0 : Nat) : Int) = levF ps f 0 := rfl
   omega
end Go.Proofs.YtfanjhcdjbnnnaaGreat
namespace Go.Proofs.YtfanjhcdjbnnnaaGreat
set_option maxHeartbeats 4000000
set_option maxRecDepth 10000
open Go.RowKit
def idxI (v : Int) : List Int → Nat → Int
 | [],_ => -1
 | a :: r,k => if (v == a) = true then k else idxI v r (k + 1)
theorem idxI_ge (v : Int) (l : List Int) : ∀ k : Nat,(decide (0 ≤ idxI v l k)) = l.contains v := by
 induction l with
 | nil => intro k;rfl
 | cons a r ih =>
  intro k
  rw [idxI]
  by_cases h : (v == a) = true
  ·rw [if_pos h,List.contains_cons,h,Bool.true_or,decide_eq_true_iff];omega
  ·rw [if_neg h,ih,List.contains_cons,Bool.eq_false_iff.2 h,Bool.false_or]
theorem contains_cons' (a v : Int) (r : List Int) : (a :: r).contains v = (a == v || r.contains v) := by
 rw [List.contains_cons];congr 1;rw [Bool.eq_iff_iff];simp only [beq_iff_eq];exact eq_comm
theorem l02Has_c (xs : List Int) (v : Int) (A : Option Addr) (n c : Nat) (w : World) (h : SlAt RInt 1 w A n xs) (hl : n ≤ maxLen) : Calls Tryz.prog 64 #[.slice A n c,.int .i64 v] w (Ret w (.bool (xs.contains v))) := by
 unfold maxLen at hl
 have HN := Hh h.len
 go_enter Tryz.func64,Tryz.ntmps64
 go_wp2
 go_loopw [9] (fun i wr => ∃ k : Nat,k ≤ n ∧ i = .int .i64 k ∧ Ext w wr ∧ xs.contains v = (xs.drop k).contains v) (fun i _ => n - (intOf i).toNat)
 case atStart => exact ⟨0,Nat.zero_le _,rfl,Ext.refl _,rfl⟩
 case round =>
  obtain ⟨k,hk,rfl,hb,hE⟩ := hrel
  have HE := Hh hE;clear hE
  by_cases hlt : k < n
  ·obtain ⟨b,o,x,cs,rfl,hbw,hx,_,hc,rfl,_⟩ := (h.ext (Flat.mono _ _) hb).at_ hlt
   have c0 := hc 0 _ rfl
   simp only [Nat.mul_one,Nat.add_zero] at c0
   have HX := Hh hx
   clear hc hx h
   rcases Bool.eq_false_or_eq_true (x == v) with h1 | h1
   ·have H1 := Hh (show (x :: xs.drop (k + 1)).contains v = true by rw [contains_cons',h1];rfl)
    go_wp2
    exact ret_bool rfl rfl rfl (by rw [HE.out,drop_cons HX.out,H1.out]) hb
   ·have H1 := Hh (show (x :: xs.drop (k + 1)).contains v = (xs.drop (k + 1)).contains v by rw [contains_cons',h1];rfl)
    go_wp2
    go_roundw
    case rel => exact ⟨k + 1,by omega,by go_num,hb,by rw [HE.out,drop_cons HX.out,H1.out]⟩
    case measure => simp [intOf];omega
  ·go_wp2
   exact ret_bool rfl rfl rfl (by rw [HE.out,List.drop_eq_nil_of_le (by have := HN.out;omega)];rfl) hb
theorem Index_c (xs : List Int) (v : Int) (A : Option Addr) (n c : Nat) (w : World) (h : SlAt RInt 1 w A n xs) (hl : n ≤ maxLen) : Calls Tryz.prog 86 #[.slice A n c,.int .i64 v] w (Ret w (.int .i64 (idxI v xs 0))) := by
 unfold maxLen at hl
 have HN := Hh h.len
 go_enter Tryz.func86,Tryz.ntmps86
 go_wp2
 go_loopw [8] (fun i wr => ∃ k : Nat,k ≤ n ∧ i = .int .i64 k ∧ Ext w wr ∧ idxI v xs 0 = idxI v (xs.drop k) k) (fun i _ => n - (intOf i).toNat)
 case atStart => exact ⟨0,Nat.zero_le _,rfl,Ext.refl _,rfl⟩
 case round =>
  obtain ⟨k,hk,rfl,hb,hE⟩ := hrel
  have HE := Hh hE;clear hE
  by_cases hlt : k < n
  ·obtain ⟨b,o,x,cs,rfl,hbw,hx,_,hc,rfl,_⟩ := (h.ext (Flat.mono _ _) hb).at_ hlt
   have c0 := hc 0 _ rfl
   simp only [Nat.mul_one,Nat.add_zero] at c0
   have HX := Hh hx
   clear hc hx h
   rcases Bool.eq_false_or_eq_true (v == x) with h1 | h1
   ·have H1 := Hh (show idxI v (x :: xs.drop (k + 1)) k = k by rw [idxI,if_pos h1])
    go_wp2
    exact ret_int rfl rfl rfl (by rw [HE.out,drop_cons HX.out,H1.out]) hb
   ·have H1 := Hh (show idxI v (x :: xs.drop (k + 1)) k = idxI v (xs.drop (k + 1)) (k + 1) by rw [idxI,if_neg (by rw [h1];simp)])
    go_wp2
    go_roundw
    case rel => exact ⟨k + 1,by omega,by go_num,hb,by rw [HE.out,drop_cons HX.out,H1.out]⟩
    case measure => simp [intOf];omega
  ·go_wp2
   exact ret_int rfl rfl rfl (by rw [HE.out,List.drop_eq_nil_of_le (by have := HN.out;omega)];rfl) hb
theorem Contains_c (xs : List Int) (v : Int) (A : Option Addr) (n c : Nat) (w : World) (h : SlAt RInt 1 w A n xs) (hl : n ≤ maxLen) : Calls Tryz.prog 55 #[.slice A n c,.int .i64 v] w (Ret w (.bool (xs.contains v))) := by
 have HN := Hh (idxI_ge v xs 0)
 have HC := Hh (Index_c xs v A n c w h hl)
 rw [← HN.out]
 generalize idxI v xs 0 = ix at *
 go_enter Tryz.func55,Tryz.ntmps55
 go_wp2_with fail
 refine HC.out.mono ?_
 rintro e w1 ⟨rfl,hb1⟩
 go_wp2
 exact ret_bool rfl rfl rfl rfl hb1
end Go.Proofs.YtfanjhcdjbnnnaaGreat
namespace Go.Proofs.YtfanjhcdjbnnnaaGreat
open Go.RowKit
set_option linter.unusedVariables false
set_option maxHeartbeats 4000000
set_option maxRecDepth 10000
def nodeB (ps : List Int) (x : Node) : Bool := withinB x.Leaf 0 ((ps.length : Int) - 1) && (leafB ps x.Leaf && vecB x.Cap)
def topoB (ps : List Int) (ns : List Node) : Bool := (decide (1 ≤ ps.length ∧ ps.length ≤ 24) && ((ps.getD 0 0 == 0) && decide (ns.length ≤ 24))) && (upGo (ps.drop 1) 1 && (deepGo ps ps.length 0 (-1) && ns.all (nodeB ps)))
theorem dep_le (ps : List Int) : ∀ s,dep ps s ≤ s := by
 intro s
 induction s using Nat.strongRecOn with
 | ind s ih =>
  rw [dep]
  split
  ·omega
  ·split
   ·rename_i h;have := ih _ h;omega
   ·omega
theorem upGo_next {l : List Int} {k : Nat} {x : Int} (hx : l[k]? = some x) : upGo (l.drop k) k = (decide (0 ≤ x ∧ x < k) && upGo (l.drop (k + 1)) (k + 1)) := by rw [drop_cons hx,upGo]
theorem deepGo_next (ps : List Int) (r s : Nat) (d : Int) : deepGo ps (r + 1) s d = if leafB ps s = true then (if 0 ≤ d ∧ (dep ps s : Int) ≠ d then false else deepGo ps r (s + 1) (dep ps s)) else deepGo ps r (s + 1) d := rfl
theorem isLeaf_c (ps : List Int) (s : Int) (A : Option Addr) (n c : Nat) (w : World) (h : SlAt RInt 1 w A n ps) (hl : n ≤ maxLen) : Calls Tryz.prog 74 #[.slice A n c,.int .i64 s] w (Same w (.bool (leafB ps s))) := by
 unfold maxLen at hl
 have HN := Hh h.len
 go_enter Tryz.func74,Tryz.ntmps74
 go_wp2
 go_loop [5] (fun iv => ∃ k : Nat,1 ≤ k ∧ k ≤ n + 1 ∧ iv = .int .i64 k ∧ Hid (leafB ps s = !(ps.drop k).contains s)) (fun iv => n + 1 - (intOf iv).toNat)
 case atStart => exact ⟨1,by omega,by omega,rfl,Hh rfl⟩
 case round =>
  obtain ⟨k,hk1,hk,rfl,HE⟩ := hrel
  by_cases hlt : k < n
  ·obtain ⟨b,o,x,cs,rfl,hbw,hx,_,hc,rfl,_⟩ := h.at_ hlt
   have c0 := hc 0 _ rfl
   simp only [Nat.mul_one,Nat.add_zero] at c0
   have HX := Hh hx
   clear hc hx h
   rcases Bool.eq_false_or_eq_true (x == s) with h1 | h1
   ·have H1 := Hh (show (x :: ps.drop (k + 1)).contains s = true by rw [contains_cons',h1];rfl)
    go_wp2
    exact same_bool rfl rfl rfl (by rw [HE.out,drop_cons HX.out,H1.out];rfl)
   ·have H1 := Hh (show (x :: ps.drop (k + 1)).contains s = (ps.drop (k + 1)).contains s by rw [contains_cons',h1];rfl)
    go_wp2
    go_round
    case rel => exact ⟨k + 1,by omega,by omega,by go_num,Hh (by rw [HE.out,drop_cons HX.out,H1.out])⟩
    case measure => simp [intOf];omega
  ·go_wp2
   exact same_bool rfl rfl rfl (by rw [HE.out,List.drop_eq_nil_of_le (by have := HN.out;omega)];rfl)
theorem depth_c (ps : List Int) (s : Nat) (A : Option Addr) (n c : Nat) (w : World) (h : SlAt RInt 1 w A n ps) (hl : n ≤ maxLen) (hs : s < n) (hup : upGo (ps.drop 1) 1 = true) : Calls Tryz.prog 53 #[.slice A n c,.int .i64 s] w (Same w (.int .i64 (dep ps s))) := by
 unfold maxLen at hl
 have HN := Hh h.len
 have HUP := Hh hup
 clear hup
 go_enter Tryz.func53,Tryz.ntmps53
 go_wp2
 go_loop [1,5] (fun sv nv => ∃ t d : Nat,sv = .int .i64 t ∧ nv = .int .i64 d ∧ t < n ∧ d + t ≤ s ∧ Hid (d + dep ps t = dep ps s)) (fun sv _ => (intOf sv).toNat)
 case atStart => exact ⟨s,0,rfl,rfl,hs,by omega,Hh (by omega)⟩
 case round =>
  obtain ⟨t,d,rfl,rfl,ht,hd,HE⟩ := hrel
  by_cases h0 : 0 < t
  ·obtain ⟨b,o,x,cs,rfl,hbw,hx,_,hc,rfl,_⟩ := h.at_ ht
   have c0 := hc 0 _ rfl
   simp only [Nat.mul_one,Nat.add_zero] at c0
   have hp := par_lt HUP.out h0 (by rw [HN.out];exact ht)
   have hxe : x = (parN ps t : Int) := by
    obtain ⟨h1,h2⟩ := List.getElem?_eq_some_iff.1 hx
    rw [← hp.1];exact h2.symm
   subst hxe
   have hp2 := hp.2
   have HQ := Hh (dep_kid HUP.out h0 (by rw [HN.out];exact ht))
   generalize parN ps t = q at *
   clear hc hx hp h
   go_wp2
   go_round
   case rel => exact ⟨q,d + 1,rfl,by go_num,by omega,by omega,Hh (by have h1 := HQ.out;have h2 := HE.out;omega)⟩
   case measure => simp [intOf];omega
  ·have h00 : t = 0 := by omega
   subst h00
   go_wp2
   exact same_int rfl rfl rfl (by
    have h1 := HE.out
    have h2 : dep ps 0 = 0 := by rw [dep];rfl
    omega)
theorem TopoOk_c (ps : List Int) (ns : List Node) (A : Option Addr) (n c : Nat) (B : Option Addr) (m d : Nat) (w : World) (h : SlAt RInt 1 w A n ps) (hl : n ≤ maxLen) (h2 : SlAt RNode 4 w B m ns) (hl2 : m ≤ maxLen) : Calls Tryz.prog 44 #[.agg #[.slice A n c,.slice B m d]] w (Ret w (.bool (topoB ps ns))) := by
 have hl' := hl
 unfold maxLen at hl hl2
 have HN := Hh h.len
 have HN2 := Hh h2.len
 have hM := Flat.mono Node.enc Node.ok
 have HWI := Hh (fun (x lo hi : Int) (u : World) => within_c x lo hi u)
 by_cases hn1 : 1 ≤ n
 rotate_left
 ·have h0 : n = 0 := by omega
  subst h0
  have HF := Hh (show topoB ps ns = false by unfold topoB;rw [HN.out];rfl)
  clear h h2
  go_enter Tryz.func44,Tryz.ntmps44
  go_wp2_with fail
  refine (HWI.out 0 1 24 _).mono ?_
  rintro e w1 ⟨rfl,rfl⟩
  have hw : withinB 0 1 24 = false := by decide
  go_wp2
  exact ret_bool rfl rfl rfl HF.out.symm Ext.go
 by_cases hn24 : n ≤ 24
 rotate_left
 ·have HF := Hh (show topoB ps ns = false by unfold topoB;rw [HN.out,show decide (1 ≤ n ∧ n ≤ 24) = false by rw [decide_eq_false_iff_not];omega];rfl)
  have hw : withinB n 1 24 = false := by unfold withinB;rw [decide_eq_false_iff_not];omega
  clear h h2
  go_enter Tryz.func44,Tryz.ntmps44
  go_wp2_with fail
  refine (HWI.out n 1 24 _).mono ?_
  rintro e w1 ⟨rfl,rfl⟩
  go_wp2
  exact ret_bool rfl rfl rfl HF.out.symm Ext.go
 have hw : withinB n 1 24 = true := by unfold withinB;rw [decide_eq_true_iff];omega
 obtain ⟨b,o,p0,cs,rfl,hbw,hp0,_,hc,rfl,_⟩ := h.at_ hn1
 have k0 := hc 0 _ rfl
 simp only [Nat.mul_one,Nat.add_zero] at k0
 have HG0 := Hh (show ps.getD 0 0 = p0 by rw [List.getD_eq_getElem?_getD,hp0];rfl)
 clear hc hp0
 rcases (Bool.eq_false_or_eq_true (p0 == 0)).symm with hz | hz
 ·have HF := Hh (show topoB ps ns = false by unfold topoB;rw [HG0.out,hz];simp)
  have hz' : (p0 != 0) = true := by rw [bne,hz];rfl
  clear h h2
  go_enter Tryz.func44,Tryz.ntmps44
  go_wp2_with fail
  refine (HWI.out n 1 24 _).mono ?_
  rintro e w1 ⟨rfl,rfl⟩
  go_wp2
  exact ret_bool rfl rfl rfl HF.out.symm Ext.go
 have hz' : (p0 != 0) = false := by rw [bne,hz];rfl
 by_cases hm24 : m ≤ 24
 rotate_left
 ·have HF := Hh (show topoB ps ns = false by unfold topoB;rw [HN2.out,show decide (m ≤ 24) = false by rw [decide_eq_false_iff_not];omega];simp)
  clear h h2
  go_enter Tryz.func44,Tryz.ntmps44
  go_wp2_with fail
  refine (HWI.out n 1 24 _).mono ?_
  rintro e w1 ⟨rfl,rfl⟩
  go_wp2
  exact ret_bool rfl rfl rfl HF.out.symm Ext.go
 have HHD := Hh (show topoB ps ns = (upGo (ps.drop 1) 1 && (deepGo ps n 0 (-1) && ns.all (nodeB ps))) by
  unfold topoB
  rw [HG0.out,hz,HN.out,HN2.out,show decide (1 ≤ n ∧ n ≤ 24) = true by rw [decide_eq_true_iff];omega,show decide (m ≤ 24) = true by rw [decide_eq_true_iff];omega];rfl)
 have HS := Hh (fun (u : World) (e : Ext w u) => h.ext (Flat.mono _ _) e)
 have HS2 := Hh (fun (u : World) (e : Ext w u) => h2.ext hM e)
 clear h h2 HG0
 go_enter Tryz.func44,Tryz.ntmps44
 go_wp2_with fail
 refine (HWI.out n 1 24 _).mono ?_
 rintro e w1 ⟨rfl,rfl⟩
 go_wp2
 clear k0 hz hz' hw
 obtain ⟨W1,hW1⟩ : ∃ u,u = w.alloc (.cells #[.slice (some ⟨b,o,none⟩) n c,.slice B m d] 26) := ⟨_,rfl⟩
 have E1 : Ext w W1 := by rw [hW1];exact (Ext.refl w).alloc _
 have q0 : W1.cell? ⟨w.heap.size,0,none⟩ = some (.slice (some ⟨b,o,none⟩) n c) := by rw [hW1];exact law_box w [.slice (some ⟨b,o,none⟩) n c,.slice B m d] _ 0 _ rfl
 have q1 : W1.cell? ⟨w.heap.size,1,none⟩ = some (.slice B m d) := by rw [hW1];exact law_box w [.slice (some ⟨b,o,none⟩) n c,.slice B m d] _ 1 _ rfl
 rw [← hW1]
 clear hW1
 go_loop [3] (fun iv => ∃ k : Nat,1 ≤ k ∧ k ≤ n ∧ iv = .int .i64 k ∧ Hid (upGo (ps.drop 1) 1 = upGo (ps.drop k) k)) (fun iv => n - (intOf iv).toNat)
 case atStart => exact ⟨1,by omega,hn1,rfl,Hh rfl⟩
 case round =>
  obtain ⟨k,hk1,hk,rfl,HE⟩ := hrel
  by_cases hlt : k < n
  ·obtain ⟨b',o',x,cs,eb,hbw',hx,_,hc,rfl,_⟩ := (HS.out W1 E1).at_ hlt
   injection eb with eb
   injection eb with eb eo
   subst eb eo
   have c0 := hc 0 _ rfl
   simp only [Nat.mul_one,Nat.add_zero] at c0
   have HU := Hh (upGo_next hx)
   have HWX := Hh (show withinB x 0 ((k : Int) - 1) = decide (0 ≤ x ∧ x < k) by unfold withinB;rw [decide_eq_decide];omega)
   clear hc hx
   go_wp2_with fail
   refine (HWI.out x 0 ((k : Int) - 1) _).mono ?_
   rintro e w1 ⟨rfl,rfl⟩
   rcases (Bool.eq_false_or_eq_true (withinB x 0 ((k : Int) - 1))).symm with h1 | h1
   ·have HF := Hh (show topoB ps ns = false by rw [HHD.out,HE.out,HU.out,← HWX.out,h1];rfl)
    go_wp2
    exact ret_bool rfl rfl rfl HF.out.symm E1
   ·have HT := Hh (show upGo (ps.drop 1) 1 = upGo (ps.drop (k + 1)) (k + 1) by rw [HE.out,HU.out,← HWX.out,h1];rfl)
    go_wp2
    go_round
    case rel => exact ⟨k + 1,by omega,by omega,by go_num,HT⟩
    case measure => simp [intOf];omega
  ·have HUP := Hh (show upGo (ps.drop 1) 1 = true by rw [HE.out,List.drop_eq_nil_of_le (by have := HN.out;omega)];rfl)
   have HH2 := Hh (show topoB ps ns = (deepGo ps n 0 (-1) && ns.all (nodeB ps)) by rw [HHD.out,HUP.out];rfl)
   have HLF := Hh (fun (s : Int) (u : World) (e : Ext w u) => isLeaf_c ps s (some ⟨b,o,none⟩) n c u (HS.out u e) hl')
   have HDP := Hh (fun (s : Nat) (hs : s < n) (u : World) (e : Ext w u) => depth_c ps s (some ⟨b,o,none⟩) n c u (HS.out u e) hl' hs HUP.out)
   clear HE HHD
   go_wp2
   go_loop [4,46] (fun dv iv => ∃ (k : Nat) (d : Int),k ≤ n ∧ iv = .int .i64 k ∧ dv = .int .i64 d ∧ -1 ≤ d ∧ d ≤ 1000 ∧ Hid (deepGo ps n 0 (-1) = deepGo ps (n - k) k d)) (fun _ iv => n - (intOf iv).toNat)
   case atStart => exact ⟨0,-1,Nat.zero_le _,rfl,rfl,by omega,by omega,Hh rfl⟩
   case round =>
    obtain ⟨k,d',hk,rfl,rfl,hd0,hd1,HE⟩ := hrel
    by_cases hlt : k < n
    ·have HNX := Hh (show deepGo ps (n - k) k d' = (if leafB ps k = true then (if 0 ≤ d' ∧ (dep ps k : Int) ≠ d' then false else deepGo ps (n - (k + 1)) (k + 1) (dep ps k)) else deepGo ps (n - (k + 1)) (k + 1) d') by rw [show n - k = (n - (k + 1)) + 1 by omega,deepGo_next])
     go_wp2_with fail
     refine (HLF.out k _ E1).mono ?_
     rintro e w1 ⟨rfl,rfl⟩
     rcases (Bool.eq_false_or_eq_true (leafB ps k)).symm with h1 | h1
     ·have HT := Hh (show deepGo ps n 0 (-1) = deepGo ps (n - (k + 1)) (k + 1) d' by rw [HE.out,HNX.out,if_neg (by rw [h1];simp)])
      go_wp2
      go_round
      case rel => exact ⟨k + 1,d',by omega,by go_num,rfl,hd0,hd1,HT⟩
      case measure => simp [intOf];omega
     ·have hdl := dep_le ps k
      have HNY := Hh (show deepGo ps n 0 (-1) = if 0 ≤ d' ∧ (dep ps k : Int) ≠ d' then false else deepGo ps (n - (k + 1)) (k + 1) (dep ps k) by rw [HE.out,HNX.out,if_pos h1])
      go_wp2_with fail
      refine (HDP.out k hlt _ E1).mono ?_
      rintro e w1 ⟨rfl,rfl⟩
      generalize dep ps k = q at *
      by_cases hdn : 0 ≤ d'
      ·rcases (Bool.eq_false_or_eq_true ((q : Int) == d')).symm with h3 | h3
       ·have h3' : ((q : Int) != d') = true := by rw [bne,h3];rfl
        have HF := Hh (show topoB ps ns = false by rw [HH2.out,HNY.out,if_pos ⟨hdn,by simpa using h3⟩];rfl)
        go_wp2
        exact ret_bool rfl rfl rfl HF.out.symm E1
       ·have h3' : ((q : Int) != d') = false := by rw [bne,h3];rfl
        have HT := Hh (show deepGo ps n 0 (-1) = deepGo ps (n - (k + 1)) (k + 1) (q : Int) by rw [HNY.out,if_neg (by rintro ⟨_,h⟩;exact h (by simpa using h3))])
        clear h3
        go_wp2
        go_round
        case rel => exact ⟨k + 1,q,by omega,by go_num,rfl,by omega,by omega,HT⟩
        case measure => simp [intOf];omega
      ·have HT := Hh (show deepGo ps n 0 (-1) = deepGo ps (n - (k + 1)) (k + 1) (q : Int) by rw [HNY.out,if_neg (by rintro ⟨h,_⟩;exact hdn h)])
       go_wp2
       go_round
       case rel => exact ⟨k + 1,q,by omega,by go_num,rfl,by omega,by omega,HT⟩
       case measure => simp [intOf];omega
    ·have hkn : k = n := by omega
     subst hkn
     have HH3 := Hh (show topoB ps ns = ns.all (nodeB ps) by rw [HH2.out,HE.out,Nat.sub_self];rfl)
     clear HE HH2 HDP
     go_wp2
     go_loopw [70] (fun iv wr => ∃ j : Nat,j ≤ m ∧ iv = .int .i64 j ∧ Ext W1 wr ∧ Hid (ns.all (nodeB ps) = (ns.drop j).all (nodeB ps))) (fun iv _ => m - (intOf iv).toNat)
     case atStart => exact ⟨0,Nat.zero_le _,rfl,Ext.refl _,Hh rfl⟩
     case round =>
      obtain ⟨j,hj,rfl,hb,HE⟩ := hrel
      have E2 := E1.trans hb
      by_cases hlt : j < m
      ·obtain ⟨b',o',x,cs,rfl,hbw',hx,_,hc,rfl,_⟩ := (HS2.out wr E2).at_ hlt
       have y0 := hc 0 _ rfl
       have y1 := hc 1 _ rfl
       have y2 := hc 2 _ rfl
       have y3 := hc 3 _ rfl
       simp only [Nat.add_zero] at y0
       have r0 := hb.cell q0
       have r1 := hb.cell q1
       have hsz : w.heap.size < wr.heap.size := lt_of_cell r0
       have HA := Hh (show ns.all (nodeB ps) = (nodeB ps x && (ns.drop (j + 1)).all (nodeB ps)) by rw [HE.out,drop_cons hx,List.all_cons])
       have HQ := Hh (show nodeB ps x = (withinB x.Leaf 0 ((k : Int) - 1) && (leafB ps x.Leaf && vecB x.Cap)) by unfold nodeB;rw [HN.out])
       clear hc hx
       go_wp2_with fail
       refine (HWI.out x.Leaf 0 ((k : Int) - 1) _).mono ?_
       rintro e w1 ⟨rfl,rfl⟩
       rcases (Bool.eq_false_or_eq_true (withinB x.Leaf 0 ((k : Int) - 1))).symm with h1 | h1
       ·have HF := Hh (show topoB ps ns = false by rw [HH3.out,HA.out,HQ.out,h1];rfl)
        go_wp2
        exact ret_bool rfl rfl rfl HF.out.symm (E2.trans ((Ext.refl _).alloc _))
       go_wp2_with fail
       refine (HLF.out x.Leaf _ (E2.trans ((Ext.refl _).alloc _))).mono ?_
       rintro e w1 ⟨rfl,rfl⟩
       rcases (Bool.eq_false_or_eq_true (leafB ps x.Leaf)).symm with h2 | h2
       ·have HF := Hh (show topoB ps ns = false by rw [HH3.out,HA.out,HQ.out,h1,h2];rfl)
        go_wp2
        exact ret_bool rfl rfl rfl HF.out.symm (E2.trans ((Ext.refl _).alloc _))
       go_wp2_with fail
       refine (VecOk_c x.Cap _).mono ?_
       rintro e w3 ⟨rfl,hb3⟩
       have E3 := Hh (hb.trans (((Ext.refl _).alloc _).trans hb3))
       clear hb3 y0 y1 y2 y3 r0 r1
       rcases (Bool.eq_false_or_eq_true (vecB x.Cap)).symm with h3 | h3
       ·have HF := Hh (show topoB ps ns = false by rw [HH3.out,HA.out,HQ.out,h1,h2,h3];rfl)
        go_wp2
        exact ret_bool rfl rfl rfl HF.out.symm (E1.trans E3.out)
       ·have HT := Hh (show ns.all (nodeB ps) = (ns.drop (j + 1)).all (nodeB ps) by rw [HA.out,HQ.out,h1,h2,h3];rfl)
        go_wp2
        go_roundw
        case rel => exact ⟨j + 1,by omega,by go_num,E3.out,HT⟩
        case measure => simp [intOf];omega
      ·have HT := Hh (show topoB ps ns = true by rw [HH3.out,HE.out,List.drop_eq_nil_of_le (by have := HN2.out;omega)];rfl)
       go_wp2
       exact ret_bool rfl rfl rfl HT.out.symm E2
end Go.Proofs.YtfanjhcdjbnnnaaGreat
