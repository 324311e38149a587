/- Grow, GrowA, PRow. -/
import Derived.Test.YtfanjhcdjbnnnaaGreatK01
import Derived.StillTail
import Derived.Test.YtfanjhcdjbnnnaaGreatK04
import Derived.Test.YtfanjhcdjbnnnaaGreatK06
namespace Go.Proofs.YtfanjhcdjbnnnaaGreat
open Go.RowKit
set_option linter.unusedVariables false
def growUpon (P : Program) (w : World) (V : Value → Prop) (F : Value → World → Prop) : Result Next → Prop
 | .ok (.value u) w' => Ext w w' ∧ V u ∧ F u w'
 | .ok .skip w' => Ext w w' ∧ V undef ∧ F undef w'
 | .ok (.enter f args) w' => Ext w w' ∧ Calls P f args w' (fun e w'' => ∃ v,e = .returned v ∧ Ext w' w'' ∧ V v ∧ F v w'')
 | _ => False
def constUpon (w : World) (v : Value) : Result Next → Prop
 | .ok (.value u) w' => w' = w ∧ u = v
 | .ok .skip w' => w' = w ∧ v = undef
 | _ => False
structure GSp where
 V : Value → Prop
 F : Value → World → Prop
def FMono (F : World → Prop) : Prop := ∀ w w',Ext w w' → F w → F w'
section
variable {P : Program} {ops : Array Oper} {md : Region.Mode} {w0 : World} {sp : Nat → Option GSp}
def GConst (P : Program) (w0 : World) (m : Sem Next) (u : Value) : Prop := ∀ w,Ext w0 w → constUpon w u (m.run P w)
theorem GConst.uniq {m : Sem Next} {u u' : Value} (h : GConst P w0 m u) (h' : GConst P w0 m u') : u = u' := by
 have h1 := h w0 (Ext.refl _)
 have h2 := h' w0 (Ext.refl _)
 generalize m.run P w0 = r at *
 cases r with
 | ok n w' =>
  cases n <;> simp only [constUpon] at h1 h2
  ·exact h1.2.symm.trans h2.2
  ·exact h1.2.trans h2.2.symm
 | halt x w' => simp only [constUpon] at h1
def Vof (P : Program) (w0 : World) (sp : Nat → Option GSp) (i : Nat) (m : Sem Next) (v : Value) : Prop := match sp i with
 | some g => g.V v
 | none => ∀ u,GConst P w0 m u → v = u
def Fof (sp : Nat → Option GSp) (i : Nat) (v : Value) (w : World) : Prop := match sp i with
 | some g => g.F v w
 | none => True
def GYd (P : Program) (ops : Array Oper) (w0 : World) (sp : Nat → Option GSp) (i : Nat) (o : Oper) (a : Act) : Prop :=
 Region.wanted o (yielded ops a.tmps) = true → ∀ w,Ext w0 w → growUpon P w (Vof P w0 sp i (execOp a.eval o)) (Fof sp i) ((execOp a.eval o).run P w)
def GV (P : Program) (ops : Array Oper) (w0 : World) (sp : Nat → Option GSp) (i : Nat) (o : Oper) (a : Act) (v : Value) : Prop :=
 if Region.wanted o (yielded ops a.tmps) = true then Vof P w0 sp i (execOp a.eval o) v else v = undef
def GF (ops : Array Oper) (sp : Nat → Option GSp) (i : Nat) (o : Oper) (a : Act) (v : Value) (w : World) : Prop :=
 Region.wanted o (yielded ops a.tmps) = true → Fof sp i v w
def grOp (P : Program) (ops : Array Oper) (w0 : World) (sp : Nat → Option GSp) (i : Nat) (K : Act → (World → Prop) → Prop) (a : Act) (Φ : World → Prop) : Prop :=
 match ops[i]? with
 | none => K a Φ
 | some o => GYd P ops w0 sp i o a ∧ ∀ v,GV P ops w0 sp i o a v → K (a.put o.dst v) (fun w => Φ w ∧ GF ops sp i o a v w)
theorem grOp_mono {i : Nat} {a : Act} {Φ : World → Prop} {K K' : Act → (World → Prop) → Prop} (h : ∀ a Φ,K a Φ → K' a Φ) (hh : grOp P ops w0 sp i K a Φ) : grOp P ops w0 sp i K' a Φ := by
 unfold grOp at *
 split
 ·rename_i ho;simp only [ho] at hh;exact h _ _ hh
 ·rename_i o ho;simp only [ho] at hh;exact ⟨hh.1,fun v hv => h _ _ (hh.2 v hv)⟩
theorem fof_mono (hm : ∀ i g,sp i = some g → ∀ v,FMono (g.F v)) (i : Nat) (v : Value) : FMono (Fof sp i v) := by
 intro w w' hb h
 unfold Fof at *
 split
 ·rename_i g hg;simp only [hg] at h;exact hm i g hg v w w' hb h
 ·trivial
theorem wpOp_of_grOp {i : Nat} {a : Act} {Φ : World → Prop} {K : Act → (World → Prop) → Prop} {K' : Act → World → Prop} {Q' : Exit → Act → World → Prop} {w : World} (hm : ∀ i g,sp i = some g → ∀ v,FMono (g.F v)) (hw : Ext w0 w) (hΦm : FMono Φ) (hΦ : Φ w)
  (h : ∀ a Φ w',Ext w0 w' → FMono Φ → Φ w' → K a Φ → K' a w') (hh : grOp P ops w0 sp i K a Φ) : wpOp P ops Q' i K' a w := by
 unfold grOp at hh
 unfold wpOp
 split
 ·rename_i ho;simp only [ho] at hh;exact h _ _ _ hw hΦm hΦ hh
 ·rename_i o ho
  simp only [ho] at hh
  obtain ⟨h1,h2⟩ := hh
  have hfm : ∀ v,FMono (fun w => Φ w ∧ GF ops sp i o a v w) := fun v x y hb hx => ⟨hΦm x y hb hx.1,fun hwn => fof_mono hm i v x y hb (hx.2 hwn)⟩
  split
  ·rename_i hwn
   refine .inl ?_
   have h3 := h1 hwn w hw
   have hgo : ∀ (v : Value) (w' : World),Ext w w' → Vof P w0 sp i (execOp a.eval o) v → Fof sp i v w' → K' (a.put o.dst v) w' := fun v w' hb hv hf =>
    h _ _ w' (hw.trans hb) (hfm v) ⟨hΦm _ _ hb hΦ,fun _ => hf⟩ (h2 v (by unfold GV;rw [if_pos hwn];exact hv))
   unfold Oper.wp
   generalize Vof P w0 sp i (execOp a.eval o) = V at *
   generalize (execOp a.eval o).run P w = r at *
   cases r with
   | ok n w' =>
    cases n <;> simp only [growUpon] at h3 <;> simp only [Oper.upon]
    case value u => exact hgo _ _ h3.1 h3.2.1 h3.2.2
    case skip => exact hgo _ _ h3.1 h3.2.1 h3.2.2
    case enter f args =>
     obtain ⟨hb,hc⟩ := h3
     exact hc.mono fun e w'' ⟨v,he,hb',hv,hf⟩ => by subst he;exact hgo _ _ (hb.trans hb') hv hf
   | halt x w' => simp only [growUpon] at h3
  ·rename_i hwn
   exact h _ _ w hw (hfm undef) ⟨hΦ,fun h' => absurd h' hwn⟩ (h2 undef (by unfold GV;rw [if_neg hwn]))
theorem gyd_put {i : Nat} {o : Oper} (hs : ∀ cs b,o.op ≠ .select cs b) (a : Act) (dst : Option Tmp) (v : Value) (h : ∀ d,dst = some d → d ∉ o.looksAt ops) : GYd P ops w0 sp i o (a.put dst v) = GYd P ops w0 sp i o a := by
 unfold GYd;rw [execOp_put o hs a dst v h,wanted_put o a dst v h]
theorem gv_put {i : Nat} {o : Oper} (hs : ∀ cs b,o.op ≠ .select cs b) (a : Act) (dst : Option Tmp) (v u : Value) (h : ∀ d,dst = some d → d ∉ o.looksAt ops) : GV P ops w0 sp i o (a.put dst v) u = GV P ops w0 sp i o a u := by
 unfold GV;rw [execOp_put o hs a dst v h,wanted_put o a dst v h]
theorem gf_put {i : Nat} {o : Oper} (a : Act) (dst : Option Tmp) (v u : Value) (w : World) (h : ∀ d,dst = some d → d ∉ o.looksAt ops) : GF ops sp i o (a.put dst v) u w = GF ops sp i o a u w := by
 unfold GF;rw [wanted_put o a dst v h]
theorem gv_some {i : Nat} {o : Oper} {a : Act} (hv : ∀ i g,sp i = some g → ∃ v,g.V v) : ∃ v,GV P ops w0 sp i o a v := by
 unfold GV
 split
 ·unfold Vof
  split
  ·rename_i g hg;exact hv i g hg
  ·by_cases hc : ∃ u,GConst P w0 (execOp a.eval o) u
   ·obtain ⟨u,hu⟩ := hc;exact ⟨u,fun u' hu' => hu.uniq hu'⟩
   ·exact ⟨undef,fun u hu => absurd ⟨u,hu⟩ hc⟩
 ·exact ⟨undef,rfl⟩
theorem grOp_put {i j : Nat} {oi oj : Oper} (hv : ∀ i g,sp i = some g → ∃ v,g.V v) (hj : ops[j]? = some oj) (hap : oi.apart ops oj = true) (hsi : ∀ cs b,oi.op ≠ .select cs b) (hsj : ∀ cs b,oj.op ≠ .select cs b) {K : Act → (World → Prop) → Prop} {a : Act} {Φ : World → Prop}
  (hy : GYd P ops w0 sp i oi a) (h : ∀ v,GV P ops w0 sp i oi a v → grOp P ops w0 sp j K (a.put oi.dst v) (fun w => Φ w ∧ GF ops sp i oi a v w)) :
  grOp P ops w0 sp j (fun a' Φ' => GYd P ops w0 sp i oi a' ∧ ∀ v,GV P ops w0 sp i oi a' v → K (a'.put oi.dst v) (fun w => Φ' w ∧ GF ops sp i oi a' v w)) a Φ := by
 obtain ⟨h1,h2,h3⟩ := Oper.apart_spec hap
 unfold grOp at *
 simp only [hj] at *
 obtain ⟨v0,hv0⟩ := gv_some (P := P) (ops := ops) (w0 := w0) (i := i) (o := oi) (a := a) hv
 have hyj := (h v0 hv0).1
 rw [gyd_put hsj a oi.dst v0 h1] at hyj
 refine ⟨hyj,fun u hu => ⟨by rw [gyd_put hsi a oj.dst u h3];exact hy,fun v hv' => ?_⟩⟩
 rw [gv_put hsi a oj.dst u v h3] at hv'
 have h4 := (h v hv').2 u (by rw [gv_put hsj a oi.dst v u h1];exact hu)
 rw [Act.put_comm a v u h2] at h4
 have e : (fun w => (Φ w ∧ GF ops sp i oi a v w) ∧ GF ops sp j oj (a.put oi.dst v) u w) = (fun w => (Φ w ∧ GF ops sp j oj a u w) ∧ GF ops sp i oi (a.put oj.dst u) v w) := by
  funext w
  rw [gf_put a oi.dst v u w h1,gf_put a oj.dst u v w h3]
  exact propext ⟨fun ⟨⟨x,y⟩,z⟩ => ⟨⟨x,z⟩,y⟩,fun ⟨⟨x,y⟩,z⟩ => ⟨⟨x,z⟩,y⟩⟩
 rw [← e]
 exact h4
def wpAnyG (P : Program) (md : Region.Mode) (ops : Array Oper) (w0 : World) (sp : Nat → Option GSp) (n : Nat) (L : Array Bool → Act → (World → Prop) → Prop) : Nat → Array Bool → Act → (World → Prop) → Prop
 | 0,listed,a,Φ => L listed a Φ
 | f + 1,listed,a,Φ => Region.ready md ops listed ≠ [] ∧ ∀ i ∈ Region.ready md ops listed,i < n ∧ grOp P ops w0 sp i (wpAnyG P md ops w0 sp n L f (listed.setIfInBounds i true)) a Φ
theorem wpAny_of_headG {n g : Nat} {L : Array Bool → Act → (World → Prop) → Prop} {Q' : Exit → Act → World → Prop} (hm : ∀ i g,sp i = some g → ∀ v,FMono (g.F v)) (hL : ∀ listed a Φ w,Ext w0 w → FMono Φ → Φ w → L listed a Φ → wpAny P md ops Q' g listed a w) :
  ∀ (f : Nat) (listed : Array Bool) (a : Act) (Φ : World → Prop) (w : World),Ext w0 w → FMono Φ → Φ w → wpAnyG P md ops w0 sp n L f listed a Φ → wpAny P md ops Q' (f + g) listed a w
 | 0,listed,a,Φ,w,hw,hm',hΦ,h => by rw [Nat.zero_add];exact hL _ _ _ _ hw hm' hΦ h
 | f + 1,listed,a,Φ,w,hw,hm',hΦ,h => by
  rw [show f + 1 + g = (f + g) + 1 by omega]
  exact ⟨fun h0 => absurd h0 h.1,fun i hi => wpOp_of_grOp hm hw hm' hΦ (fun a' Φ' w' hw' hm'' hΦ' h' => wpAny_of_headG hm hL f _ a' Φ' w' hw' hm'' hΦ' h') (h.2 i hi).2⟩
theorem wpAnyG_first {n i : Nat} {oi : Oper} {L : Array Bool → Act → (World → Prop) → Prop} (hv : ∀ i g,sp i = some g → ∃ v,g.V v) (hi : ops[i]? = some oi) (hsel : ∀ (j : Nat) (o : Oper) cs b,ops[j]? = some o → o.op ≠ .select cs b)
  (hs : Region.sinkB md ops n = true) (hc : Region.chainB md ops n = true) (hn : n < ops.size) (hin : i < n)
  (hdone : ∀ listed a Φ,L listed a Φ → ∀ j ∈ Region.ready md ops listed,n ≤ j) :
  ∀ (f : Nat) (listed : Array Bool) (a : Act) (Φ : World → Prop),HeadInv md ops n listed →
   (∀ j oj,ops[j]? = some oj → j ≠ i → listed.getD j true = false → (∀ e ∈ oj.after,Region.binds md e = true → e.on ≠ i) → oi.apart ops oj = true) →
   i ∈ Region.ready md ops listed → GYd P ops w0 sp i oi a →
   (∀ v,GV P ops w0 sp i oi a v → wpAnyG P md ops w0 sp n L f (listed.setIfInBounds i true) (a.put oi.dst v) (fun w => Φ w ∧ GF ops sp i oi a v w)) → wpAnyG P md ops w0 sp n L (f + 1) listed a Φ := by
 intro f
 induction f with
 | zero =>
  intro listed a Φ inv _ hr hy H
  have hun := (mem_ready.1 hr).1
  refine ⟨fun h => (by rw [h] at hr;cases hr),fun j hj => ?_⟩
  have hjn : j < n := by
   rcases Nat.lt_or_ge j n with h | h
   ·exact h
   ·exact absurd hj (tail_waits hs hc hn inv _ i rfl hin hun j h)
  refine ⟨hjn, ?_⟩
  by_cases hji : j = i
  ·subst hji;unfold grOp;simp only [hi];exact ⟨hy,H⟩
  ·obtain ⟨v0,hv0⟩ := gv_some (P := P) (ops := ops) (w0 := w0) (i := i) (o := oi) (a := a) hv
   have := hdone _ _ _ (H v0 hv0) j (ready_mono hj hji)
   omega
 | succ f ih =>
  intro listed a Φ inv hfree hr hy H
  have hun := (mem_ready.1 hr).1
  refine ⟨fun h => (by rw [h] at hr;cases hr),fun j hj => ?_⟩
  have hjn : j < n := by
   rcases Nat.lt_or_ge j n with h | h
   ·exact h
   ·exact absurd hj (tail_waits hs hc hn inv _ i rfl hin hun j h)
  refine ⟨hjn, ?_⟩
  by_cases hji : j = i
  ·subst hji;unfold grOp;simp only [hi];exact ⟨hy,H⟩
  ·obtain ⟨hjun,oj,hoj,hall⟩ := mem_ready.1 hj
   have hnot : ∀ e ∈ oj.after,Region.binds md e = true → e.on ≠ i := fun e he hb heq => by
    have h1 := hall e he hb
    rw [heq,getD_both hun] at h1
    cases h1
   have h2 := grOp_put hv hoj (hfree j oj hoj hji hjun hnot) (fun cs b => hsel i oi cs b hi) (fun cs b => hsel j oj cs b hoj) hy (fun v hv' => ((H v hv').2 j (ready_mono hj hji)).2)
   have hfree' : ∀ k ok,ops[k]? = some ok → k ≠ i → (listed.setIfInBounds j true).getD k true = false →
     (∀ e ∈ ok.after,Region.binds md e = true → e.on ≠ i) → oi.apart ops ok = true := fun k ok hk hki hun hno => by
    refine hfree k ok hk hki ?_ hno
    by_cases hjk : j = k
    ·subst hjk;exact hjun
    ·rw [getD_set_ne true hjk] at hun;exact hun
   refine grOp_mono (fun a' Φ' h3 => ih (listed.setIfInBounds j true) a' Φ' (inv.set hj hjn) hfree' (ready_mono hr (Ne.symm hji)) h3.1 (fun v hv' => ?_)) h2
   rw [Array.setIfInBounds_comm _ _ hji]
   exact h3.2 v hv'
def wpGrow (P : Program) (ops : Array Oper) (w0 : World) (sp : Nat → Option GSp) (Lq : Act → (World → Prop) → Prop) : Nat → List Oper → Act → (World → Prop) → Prop
 | _,[],a,Φ => Lq a Φ
 | k,o :: rest,a,Φ => GYd P ops w0 sp k o a ∧ ∀ v,GV P ops w0 sp k o a v → wpGrow P ops w0 sp Lq (k + 1) rest (a.put o.dst v) (fun w => Φ w ∧ GF ops sp k o a v w)
theorem wpAnyG_lex {n g : Nat} {Lq : Act → (World → Prop) → Prop} (hv : ∀ i g,sp i = some g → ∃ v,g.V v) (hsel : Region.noSelect ops = true) (hs : Region.sinkB md ops n = true) (hc : Region.chainB md ops n = true) (hn : n < ops.size) :
  ∀ (l : List Oper) (k : Nat) (listed : Array Bool) (a : Act) (Φ : World → Prop),(∀ j,j < l.length → l[j]? = ops[k + j]?) → k + l.length = n → HeadInv md ops n listed →
  Region.lexHead md ops g l.length k listed = true → wpGrow P ops w0 sp Lq k l a Φ →
  wpAnyG P md ops w0 sp n (fun listed' a' Φ' => Region.seqB md ops g n listed' = true ∧ Lq a' Φ') l.length listed a Φ
 | [],k,listed,a,Φ,_,hk,_,hB,h => by
  have : k = n := by simpa using hk
  subst this
  exact ⟨by simpa [Region.lexHead] using hB,h⟩
 | o :: l,k,listed,a,Φ,hl,hk,inv,hB,h => by
  have h0 : ops[k]? = some o := by simpa using (hl 0 (by simp)).symm
  simp only [List.length_cons,Region.lexHead,Bool.and_eq_true] at hB
  obtain ⟨⟨hr,hf⟩,hB'⟩ := hB
  have hkn : k < n := by simp only [List.length_cons] at hk;omega
  have hr' : k ∈ Region.ready md ops listed := by simpa using hr
  exact wpAnyG_first hv h0 (Region.noSelect_spec hsel) hs hc hn hkn (fun listed' a' Φ' hL => seqB_ready hL.1) l.length listed a Φ inv (Region.free_spec h0 hf) hr' h.1
   (fun v hv' => wpAnyG_lex hv hsel hs hc hn l (k + 1) _ _ _ (fun j hj => by have := hl (j + 1) (by simp;omega);simpa [Nat.add_assoc,Nat.add_comm 1 j] using this) (by simp only [List.length_cons] at hk;omega) (inv.set hr' hkn) hB' (h.2 v hv'))
theorem wp_region_grow {id : Nat} {Q : Exit → Act → World → Prop} {a : Act} {w : World} {l : List Oper} (n : Nat) (sp : Nat → Option GSp) (hm : P.follows .mixedOrders = true) (hB : Region.lexTailB .any l.toArray n = true) (hmo : ∀ i g,sp i = some g → ∀ v,FMono (g.F v)) (hv : ∀ i g,sp i = some g → ∃ v,g.V v)
  (h : wpGrow P l.toArray w sp (fun a' Φ => ∀ w',Ext w w' → Φ w' → wpList P l.toArray Q (l.drop n) a' w') 0 (l.take n) a (fun _ => True)) : (Code.region id l.toArray true).wp P Q a w := by
 simp only [Region.lexTailB,Bool.and_eq_true,decide_eq_true_eq] at hB
 obtain ⟨⟨⟨⟨hsel,hn⟩,hs⟩,hc⟩,hlex⟩ := hB
 have hn' : n < l.length := by simpa using hn
 have htl : (l.take n).length = n := by simp;omega
 have hdl : (l.drop n).length = l.toArray.size - n := by simp
 have inv0 : HeadInv .any l.toArray n (Array.replicate l.toArray.size false) :=
  ⟨by simp,fun j oj _ hl => (by rw [getD_replicate_false] at hl;cases hl),fun t _ ht => getD_in (by simpa using ht) (getD_replicate_false _ _)⟩
 have H := wpAnyG_lex (md := .any) (g := l.toArray.size - n) hv hsel hs hc hn (l.take n) 0 _ a _ (fun j hj => by
  have hj' : j < n := by rw [htl] at hj;exact hj
  simp [hj']) (by simpa using htl) inv0 (by rw [htl];exact hlex) h
 refine wp_region_any hm ?_
 have := wpAny_of_headG (Q' := Q) (g := l.toArray.size - n) hmo (fun listed a' Φ' w' hw' _ hΦ' hL => by
  have := wpAny_of_seq (md := .any) (Q' := Q) (l.drop n) n listed a' w' (fun j => by simp [List.getElem?_drop]) (by rw [hdl];exact hL.1) (hL.2 w' hw' hΦ')
  rwa [hdl] at this) _ _ _ _ _ ((Ext.refl w).drew) (fun _ _ _ _ => trivial) trivial H
 rw [htl,show n + (l.toArray.size - n) = l.toArray.size by omega] at this
 exact this
theorem grow_nil {Lq : Act → (World → Prop) → Prop} {k : Nat} {a : Act} {Φ : World → Prop} (h : Lq a Φ) : wpGrow P ops w0 sp Lq k [] a Φ := h
theorem grow_const {Lq : Act → (World → Prop) → Prop} {k : Nat} {o : Oper} {rest : List Oper} {a : Act} {Φ : World → Prop} (hk : sp k = none) (hw : Region.wanted o (yielded ops a.tmps) = true) (v : Value) (hc : ∀ u,Ext w0 u → constUpon u v ((execOp a.eval o).run P u)) (h : ∀ Φ' : World → Prop,(∀ w,Φ' w → Φ w) → wpGrow P ops w0 sp Lq (k + 1) rest (a.put o.dst v) Φ') : wpGrow P ops w0 sp Lq k (o :: rest) a Φ := by
 have hV : ∀ v',Vof P w0 sp k (execOp a.eval o) v' ↔ v' = v := fun v' => by
  unfold Vof;simp only [hk]
  exact ⟨fun h => h v hc,fun h u hu => by subst h;exact GConst.uniq hc hu⟩
 refine ⟨fun _ u hu => ?_,fun v' hv' => ?_⟩
 ·have h1 := hc u hu
  have hF : ∀ x,Fof sp k x u := fun x => by unfold Fof;simp only [hk]
  have hV1 := hV
  generalize Vof P w0 sp k (execOp a.eval o) = V at *
  generalize (execOp a.eval o).run P u = r at *
  cases r with
  | ok n w' =>
   cases n <;> simp only [constUpon] at h1 <;> simp only [growUpon]
   ·obtain ⟨rfl,rfl⟩ := h1;exact ⟨Ext.refl _,(hV1 _).2 rfl,hF _⟩
   ·obtain ⟨rfl,rfl⟩ := h1;exact ⟨Ext.refl _,(hV1 _).2 rfl,hF _⟩
  | halt x w' => simp only [constUpon] at h1
 ·unfold GV at hv'
  rw [if_pos hw] at hv'
  obtain rfl := (hV v').1 hv'
  exact h _ (fun w hw' => hw'.1)
theorem grow_constE {Lq : Act → (World → Prop) → Prop} {k : Nat} {o : Oper} {rest : List Oper} {a : Act} {Φ : World → Prop} (hk : sp k = none) (hw : Region.wanted o (yielded ops a.tmps) = true) (h : ∃ v,(∀ u,Ext w0 u → constUpon u v ((execOp a.eval o).run P u)) ∧ ∀ Φ' : World → Prop,(∀ w,Φ' w → Φ w) → wpGrow P ops w0 sp Lq (k + 1) rest (a.put o.dst v) Φ') : wpGrow P ops w0 sp Lq k (o :: rest) a Φ := by
 obtain ⟨v,h1,h2⟩ := h
 exact grow_const hk hw v h1 h2
theorem grow_make {Lq : Act → (World → Prop) → Prop} {k : Nat} {o : Oper} {rest : List Oper} {a : Act} {Φ : World → Prop} (V : Value → Prop) (F : Value → World → Prop) (hk : sp k = some ⟨V,F⟩) (hw : Region.wanted o (yielded ops a.tmps) = true) (hc : ∀ u,Ext w0 u → growUpon P u V F ((execOp a.eval o).run P u)) (h : ∀ v,V v → ∀ Φ' : World → Prop,(∀ w,Φ' w → Φ w ∧ F v w) → wpGrow P ops w0 sp Lq (k + 1) rest (a.put o.dst v) Φ') : wpGrow P ops w0 sp Lq k (o :: rest) a Φ := by
 have hV : Vof P w0 sp k (execOp a.eval o) = V := by funext v;unfold Vof;simp only [hk]
 have hF : Fof sp k = F := by funext v w;unfold Fof;simp only [hk]
 refine ⟨fun _ u hu => by rw [hV,hF];exact hc u hu,fun v hv => ?_⟩
 unfold GV at hv
 rw [if_pos hw,hV] at hv
 exact h v hv _ (fun w hw' => ⟨hw'.1,by have := hw'.2 hw;rw [hF] at this;exact this⟩)
def gtab (tbl : List (Nat × GSp)) (k : Nat) : Option GSp := match tbl with
 | [] => none
 | p :: r => if p.1 = k then some p.2 else gtab r k
theorem gtab_mem {tbl : List (Nat × GSp)} {k : Nat} {g : GSp} (h : gtab tbl k = some g) : ∃ j,(j,g) ∈ tbl := by
 induction tbl with
 | nil => cases h
 | cons p r ih =>
  rw [gtab] at h
  split at h
  ·injection h with h;subst h;exact ⟨p.1,List.mem_cons_self ..⟩
  ·obtain ⟨j,hj⟩ := ih h;exact ⟨j,List.mem_cons_of_mem _ hj⟩
theorem wp_region_grow_tab {id : Nat} {Q : Exit → Act → World → Prop} {a : Act} {w : World} {l : List Oper} (n : Nat) (tbl : List (Nat × GSp)) (hm : P.follows .mixedOrders = true) (hB : Region.lexTailB .any l.toArray n = true) (hg : ∀ p ∈ tbl,(∀ v,FMono (p.2.F v)) ∧ ∃ v,p.2.V v)
  (h : wpGrow P l.toArray w (gtab tbl) (fun a' Φ => ∀ w',Ext w w' → Φ w' → wpList P l.toArray Q (l.drop n) a' w') 0 (l.take n) a (fun _ => True)) : (Code.region id l.toArray true).wp P Q a w :=
 wp_region_grow n (gtab tbl) hm hB (fun i g h => by obtain ⟨j,hj⟩ := gtab_mem h;exact (hg _ hj).1) (fun i g h => by obtain ⟨j,hj⟩ := gtab_mem h;exact (hg _ hj).2) h
end
theorem grow_append {P : Program} {u : World} {V : Value → Prop} {F : Value → World → Prop} {α : Type} {enc : α → List Value} {ok : α → Prop} {o : Oper} {a : Act} (s x : Operand) (t : TypeId)
  (ho : o.op = .call { callee := .builtin .append,args := #[s,x],argTypes := #[t,t] })
  (base : Nat) (e : TypeId) (i : TypeInfo) (z : Value) (size bytes : Nat) (ht : P.underlying t = some (.slice e)) (hi : P.info? e = some i) (hz : i.zero = some z)
  (hsize : i.size = size) (hby : i.bytes = bytes) (hzs : z.cells.size = size) (hsz : 0 < size)
  (v : Value) (n : Nat) (L : List Value) (A : Option Addr) (m c : Nat) (ys : List α) (N : Nat) (hN : n + m = N) (hs : a.eval s = v) (hx : a.eval x = .slice A m c)
  (hown : u.ownsRow base e size v n L) (hys : SlAt (Flat enc ok) size u A m ys) (hl : ∀ y,(enc y).length = size) (h1 : ∀ y,∀ u ∈ enc y,u.oneCell' = true)
  (h63 : n + m ≤ maxLen) (hbytes : (n + m) * bytes ≤ 140737488355328) (hbw : base ≤ u.heap.size)
  (h : ∀ A' c' w',AppR u w' base e size v A' N c' (L ++ ys.flatMap enc) → Ext u w' ∧ V (.slice A' N c') ∧ F (.slice A' N c') w') :
  growUpon P u V F ((execOp a.eval o).run P u) := by
 subst hN
 obtain ⟨A',c',w',hr,h2⟩ := run_append_r (P := P) t o.type base e i z size bytes v n L A m c ys ht hi hz hsize hby hzs hsz hown hys hl h1 h63 hbytes hbw
 unfold execOp
 simp only [ho,resolve,invoke,builtin,Sem.run_bind,Sem.run_pure,Result.andThen_ok,List.map_toArray,List.map_cons,List.map_nil,hs,hx,hr]
 exact h A' c' w' h2
theorem AppR.nil_ext {w w' : World} {base : Nat} {e : TypeId} {size : Nat} {A' : Option Addr} {n' c' n c : Nat} {L' : List Value} (h : AppR w w' base e size (.slice none n c) A' n' c' L') : Ext w w' :=
 ext_turned (Ext.refl w) (h.turned (lo := w.heap.size) (fun q hq => by cases hq)) (Nat.le_refl _)
def RPf : Rel (List Pt) := fun w cs p => ∃ A c,cs = [.slice A p.length c] ∧ SlAt RPt 4 w A p.length p
theorem RPf.mono : RPf.Mono := fun w w' cs x hb ⟨A,c,e,h⟩ => ⟨A,c,e,h.ext (Flat.mono Pt.enc Pt.ok) hb⟩
theorem owns_sl {α : Type} {enc : α → List Value} {ok : α → Prop} {sz : Nat} {w : World} {base : Nat} {e : TypeId} {A : Option Addr} {c : Nat} {xs : List α} (hsz : ∀ x,(enc x).length = sz) (h : w.ownsRow base e sz (.slice A xs.length c) xs.length (xs.flatMap enc)) (hok : ∀ x ∈ xs,ok x) : SlAt (Flat enc ok) sz w A xs.length xs := (OwnAt.flat hsz hok h).slAt
def PO (w : World) (lo : Nat) (A : Option Addr) (n c : Nat) (ps : List (List Pt)) : Prop :=
 ps.length = n ∧ ∃ L : List Value,w.ownsRow lo 71 1 (.slice A n c) n L ∧ ∀ (k : Nat) (p : List Pt),ps[k]? = some p → ∃ A' c',L[k]? = some (.slice A' p.length c') ∧ w.ownsRow lo 133 4 (.slice A' p.length c') p.length (p.flatMap Pt.enc) ∧ ∀ y ∈ p,y.ok
theorem PO.ext {w w' : World} {lo : Nat} {A : Option Addr} {n c : Nat} {ps : List (List Pt)} (h : PO w lo A n c ps) (hb : Ext w w') : PO w' lo A n c ps := by
 obtain ⟨h1,L,h2,h3⟩ := h
 refine ⟨h1,L,owns_ext h2 hb,fun k p hk => ?_⟩
 obtain ⟨A',c',e,ho,hy⟩ := h3 k p hk
 exact ⟨A',c',e,owns_ext ho hb,hy⟩
theorem PO.base {w : World} {lo lo' : Nat} {A : Option Addr} {n c : Nat} {ps : List (List Pt)} (h : PO w lo A n c ps) (hb : lo' ≤ lo) : PO w lo' A n c ps := by
 obtain ⟨h1,L,h2,h3⟩ := h
 refine ⟨h1,L,owns_base h2 hb,fun k p hk => ?_⟩
 obtain ⟨A',c',e,ho,hy⟩ := h3 k p hk
 exact ⟨A',c',e,owns_base ho hb,hy⟩
theorem PO.nil (w : World) (lo : Nat) : PO w lo none 0 0 [] := ⟨rfl,[],World.ownsRow_nil _ _ _ _,fun k p hk => by simp at hk⟩
theorem PO.sl {w : World} {lo : Nat} {A : Option Addr} {n c : Nat} {ps : List (List Pt)} (h : PO w lo A n c ps) : SlAt RPf 1 w A n ps := by
 obtain ⟨rfl,L,h2,h3⟩ := h
 have hO : OwnAt RPf 71 1 w lo (.slice A ps.length c) ps := ⟨L,h2,fun j x hx => by
  obtain ⟨A',c',e,ho,hy⟩ := h3 j x hx
  refine ⟨A',c', ?_,owns_sl Pt.size ho hy⟩
  rw [Nat.mul_one]
  obtain ⟨hj,e2⟩ := List.getElem?_eq_some_iff.1 e
  rw [List.drop_eq_getElem_cons hj,e2];rfl⟩
 exact hO.slAt
theorem PO.get {w : World} {lo g : Nat} {n c k : Nat} {ps : List (List Pt)} {p : List Pt} (h : PO w lo (some ⟨g,0,none⟩) n c ps) (hk : ps[k]? = some p) : ∃ A' c',w.cell? ⟨g,k,none⟩ = some (.slice A' p.length c') ∧ SlAt RPt 4 w A' p.length p ∧ w.frozen? ⟨g,k,none⟩ = false ∧ g < w.heap.size ∧ lo ≤ g := by
 obtain ⟨rfl,L,h2,h3⟩ := h
 obtain ⟨A',c',e,ho,hy⟩ := h3 k p hk
 have hkl := (List.getElem?_eq_some_iff.1 hk).1
 exact ⟨A',c',by rw [h2.cellAt k (by omega),e],owns_sl Pt.size ho hy,h2.frozenAt k,(h2.lt g rfl).2,(h2.lt g rfl).1⟩
theorem PO.form {w : World} {lo : Nat} {A : Option Addr} {n c : Nat} {ps : List (List Pt)} (h : PO w lo A n c ps) (hn : 0 < n) : ∃ g,A = some ⟨g,0,none⟩ ∧ lo ≤ g ∧ g < w.heap.size := by
 obtain ⟨h1,L,h2,h3⟩ := h
 exact own_some h2 hn
theorem PO.set {w : World} {lo g : Nat} {n c k : Nat} {ps : List (List Pt)} {p : List Pt} {A' : Option Addr} {c' : Nat} (h : PO w lo (some ⟨g,0,none⟩) n c ps) (hk : k < n) (ho : w.ownsRow lo 133 4 (.slice A' p.length c') p.length (p.flatMap Pt.enc)) (hy : ∀ y ∈ p,y.ok) : PO (w.setCell ⟨g,k,none⟩ (.slice A' p.length c')) lo (some ⟨g,0,none⟩) n c (ps.set k p) := by
 obtain ⟨h1,L,h2,h3⟩ := h
 have hfar : ∀ {A2 : Option Addr} {c2 : Nat} {q : List Pt},w.ownsRow lo 133 4 (.slice A2 q.length c2) q.length (q.flatMap Pt.enc) → (w.setCell ⟨g,k,none⟩ (.slice A' p.length c')).ownsRow lo 133 4 (.slice A2 q.length c2) q.length (q.flatMap Pt.enc) := fun h' => g_far h' (fun e => g_apart h' h2 (by decide) _ e rfl)
 refine ⟨by rw [List.length_set];exact h1,L.set k (.slice A' p.length c'),(h2.stored k _).1,fun j q hj => ?_⟩
 have hL : L.length = n := by have := h2.1;omega
 by_cases e : k = j
 ·subst e
  rw [List.getElem?_set_self (by omega)] at hj
  injection hj with hj;subst hj
  exact ⟨A',c',by rw [List.getElem?_set_self (by omega)],hfar ho,hy⟩
 ·rw [List.getElem?_set_ne e] at hj
  obtain ⟨A2,c2,e2,ho2,hy2⟩ := h3 j q hj
  exact ⟨A2,c2,by rw [List.getElem?_set_ne e];exact e2,hfar ho2,hy2⟩
theorem PO.grow {w w' : World} {lo m c c' : Nat} {A A' : Option Addr} {ps : List (List Pt)} {L L' : List Value} {p : List Pt} {A1 : Option Addr} {c1 : Nat} (hm : ps.length = m) (h2 : w.ownsRow lo 71 1 (.slice A m c) m L) (h3 : ∀ (k : Nat) (p : List Pt),ps[k]? = some p → ∃ A' c',L[k]? = some (.slice A' p.length c') ∧ w.ownsRow lo 133 4 (.slice A' p.length c') p.length (p.flatMap Pt.enc) ∧ ∀ y ∈ p,y.ok)
  (hr : AppR w w' lo 71 1 (.slice A m c) A' (m + 1) c' L') (e : L' = L ++ [.slice A1 p.length c1]) (ho : w.ownsRow lo 133 4 (.slice A1 p.length c1) p.length (p.flatMap Pt.enc)) (hy : ∀ y ∈ p,y.ok) : PO w' lo A' (m + 1) c' (ps ++ [p]) := by
 subst e
 have hk := hr.kept_type h2
 have hL : L.length = m := by have := h2.1;omega
 refine ⟨by rw [List.length_append,hm];rfl,_,hr.row,fun j q hj => ?_⟩
 by_cases e : j < m
 ·rw [List.getElem?_append_left (by omega)] at hj
  obtain ⟨A2,c2,e2,ho2,hy2⟩ := h3 j q hj
  exact ⟨A2,c2,by rw [List.getElem?_append_left (by omega)];exact e2,g_type ho2 hk (by decide),hy2⟩
 ·have hj1 : j = m := by
   have := (List.getElem?_eq_some_iff.1 hj).1
   rw [List.length_append,hm] at this
   simp at this;omega
  subst hj1
  rw [← hm,List.getElem?_concat_length] at hj
  injection hj with hj;subst hj
  exact ⟨A1,c1,by rw [← hL,List.getElem?_concat_length],g_type ho hk (by decide),hy⟩
def encB (b : Bool) : List Value := [.bool b]
abbrev RB : Rel Bool := Flat encB (fun _ => True)
theorem encB_one (b : Bool) : ∀ u ∈ encB b,u.oneCell' = true := by
 intro u hu;simp [encB] at hu;subst hu;rfl
def RoomAt (w : World) (ps : List Int) (ns : List Node) (up : List Bool) (r : List (List Pt) × List Pt) (v : Value) : Prop :=
 ∃ A1 c1 A2 c2 A3 c3 A4 c4 A5 c5,v = .agg #[.slice A1 ps.length c1,.slice A2 ns.length c2,.slice A3 up.length c3,.slice A4 r.1.length c4,.slice A5 r.2.length c5] ∧ SlAt RInt 1 w A1 ps.length ps ∧ SlAt RNode 4 w A2 ns.length ns ∧ SlAt RB 1 w A3 up.length up ∧ SlAt RPf 1 w A4 r.1.length r.1 ∧ SlAt RPt 4 w A5 r.2.length r.2
theorem RoomAt.ext {w w' : World} {ps : List Int} {ns : List Node} {up : List Bool} {r : List (List Pt) × List Pt} {v : Value} (h : RoomAt w ps ns up r v) (hb : Ext w w') : RoomAt w' ps ns up r v := by
 obtain ⟨A1,c1,A2,c2,A3,c3,A4,c4,A5,c5,e,h1,h2,h3,h4,h5⟩ := h
 exact ⟨A1,c1,A2,c2,A3,c3,A4,c4,A5,c5,e,h1.ext (Flat.mono _ _) hb,h2.ext (Flat.mono _ _) hb,h3.ext (Flat.mono _ _) hb,h4.ext RPf.mono hb,h5.ext (Flat.mono _ _) hb⟩
theorem own_set {w : World} {lo b p : Nat} {e : TypeId} {sz n : Nat} {v u : Value} {L : List Value} (h : w.ownsRow lo e sz v n L) (hb : b < lo) : (w.setCell ⟨b,p,none⟩ u).ownsRow lo e sz v n L := g_far h (fun e => by have := (h.lt _ e).1;omega)
theorem PO.low {w : World} {lo b p : Nat} {u : Value} {A : Option Addr} {n c : Nat} {ps : List (List Pt)} (h : PO w lo A n c ps) (hb : b < lo) : PO (w.setCell ⟨b,p,none⟩ u) lo A n c ps := by
 obtain ⟨h1,L,h2,h3⟩ := h
 refine ⟨h1,L,own_set h2 hb,fun k p hk => ?_⟩
 obtain ⟨A',c',e,ho,hy⟩ := h3 k p hk
 exact ⟨A',c',e,own_set ho hb,hy⟩
structure RoomO (w : World) (lo : Nat) (ps : List Int) (ns : List Node) (up : List Bool) (r : List (List Pt) × List Pt) (A1 : Option Addr) (c1 : Nat) (A2 : Option Addr) (c2 : Nat) (A3 : Option Addr) (c3 : Nat) (A4 : Option Addr) (c4 : Nat) (A5 : Option Addr) (c5 : Nat) : Prop where
 par : w.ownsRow lo 3 1 (.slice A1 ps.length c1) ps.length (ps.flatMap encInt)
 nod : w.ownsRow lo 85 4 (.slice A2 ns.length c2) ns.length (ns.flatMap Node.enc)
 ups : w.ownsRow lo 4 1 (.slice A3 up.length c3) up.length (up.flatMap encB)
 pro : PO w lo A4 r.1.length c4 r.1
 lic : w.ownsRow lo 133 4 (.slice A5 r.2.length c5) r.2.length (r.2.flatMap Pt.enc)
 ok1 : ∀ x ∈ ps,In64 x
 ok2 : ∀ x ∈ ns,x.ok
 ok3 : ∀ x ∈ r.2,x.ok
section
variable {w w' : World} {lo lo' b p : Nat} {u : Value} {ps : List Int} {ns : List Node} {up : List Bool} {r : List (List Pt) × List Pt} {A1 : Option Addr} {c1 : Nat} {A2 : Option Addr} {c2 : Nat} {A3 : Option Addr} {c3 : Nat} {A4 : Option Addr} {c4 : Nat} {A5 : Option Addr} {c5 : Nat}
theorem RoomO.ext (h : RoomO w lo ps ns up r A1 c1 A2 c2 A3 c3 A4 c4 A5 c5) (hb : Ext w w') : RoomO w' lo ps ns up r A1 c1 A2 c2 A3 c3 A4 c4 A5 c5 :=
 ⟨owns_ext h.par hb,owns_ext h.nod hb,owns_ext h.ups hb,h.pro.ext hb,owns_ext h.lic hb,h.ok1,h.ok2,h.ok3⟩
theorem RoomO.base (h : RoomO w lo ps ns up r A1 c1 A2 c2 A3 c3 A4 c4 A5 c5) (hb : lo' ≤ lo) : RoomO w lo' ps ns up r A1 c1 A2 c2 A3 c3 A4 c4 A5 c5 :=
 ⟨owns_base h.par hb,owns_base h.nod hb,owns_base h.ups hb,h.pro.base hb,owns_base h.lic hb,h.ok1,h.ok2,h.ok3⟩
theorem RoomO.low (h : RoomO w lo ps ns up r A1 c1 A2 c2 A3 c3 A4 c4 A5 c5) (hb : b < lo) : RoomO (w.setCell ⟨b,p,none⟩ u) lo ps ns up r A1 c1 A2 c2 A3 c3 A4 c4 A5 c5 :=
 ⟨own_set h.par hb,own_set h.nod hb,own_set h.ups hb,h.pro.low hb,own_set h.lic hb,h.ok1,h.ok2,h.ok3⟩
theorem RoomO.at_ (h : RoomO w lo ps ns up r A1 c1 A2 c2 A3 c3 A4 c4 A5 c5) : RoomAt w ps ns up r (.agg #[.slice A1 ps.length c1,.slice A2 ns.length c2,.slice A3 up.length c3,.slice A4 r.1.length c4,.slice A5 r.2.length c5]) :=
 ⟨A1,c1,A2,c2,A3,c3,A4,c4,A5,c5,rfl,owns_sl (fun _ => rfl) h.par h.ok1,owns_sl Node.size h.nod h.ok2,owns_sl (enc := encB) (ok := fun _ => True) (fun _ => rfl) h.ups (fun _ _ => trivial),h.pro.sl,owns_sl Pt.size h.lic h.ok3⟩
end
theorem box_after (w : World) (a : Addr) (u : Value) (cs : List Value) (e : TypeId) (sz : Nat) (h : cs.length = sz) {lo : Nat} (hlo : lo ≤ w.heap.size) : ((w.setCell a u).alloc (.cells cs.toArray e)).ownsRow lo e sz (.slice (some ⟨w.heap.size,0,none⟩) 1 1) 1 cs := by
 have h := gbox (w.setCell a u) cs e sz h
 rw [show (w.setCell a u).heap.size = w.heap.size by simp] at h
 exact owns_base h hlo
theorem AppR.ext_nil {w w' : World} {base : Nat} {e : TypeId} {size : Nat} {A' : Option Addr} {n' c' n c : Nat} {L' : List Value} (h : AppR w w' base e size (.slice none n c) A' n' c' L') : Ext w w' :=
 ext_turned (Ext.refl w) (h.turned (lo := w.heap.size) (fun q hq => by cases hq)) (Nat.le_refl _)
end Go.Proofs.YtfanjhcdjbnnnaaGreat
