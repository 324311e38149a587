/- What a law's walk keeps of what was made: each piece of memory between two heights of the heap. Plain lemmas, no program. -/
import Derived.Test.YtgmlcohffdeplaaGreatBase
namespace Go.Proofs.YtgmlcohffdeplaaGreat
open Go.RowKit
theorem law_box (w : World) (cs : List Value) (e : TypeId) (j : Nat) (u : Value) (h : cs[j]? = some u) : (w.alloc (.cells cs.toArray e)).cell? ⟨w.heap.size, j, none⟩ = some u := by
  rw [cell_of_row _ _ _ cs.toArray e (0, 0) (heap_alloc_new w _)]; simpa using h
theorem law_box_at (w : World) (b : Nat) (hb : w.heap.size = b) (cs : List Value) (e : TypeId) (j : Nat) (u : Value) (h : cs[j]? = some u) : (w.alloc (.cells cs.toArray e)).cell? ⟨b, j, none⟩ = some u := by
  subst hb; exact law_box w cs e j u h
/-- Nothing has turned but in the blocks from lo to hi. -/
structure Turned (lo hi : Nat) (w w' : World) : Prop where
  os : w'.os = w.os
  tape : w'.tape = w.tape
  output : w'.output = w.output
  size : w.heap.size ≤ w'.heap.size
  block : ∀ k, k < w.heap.size → (k < lo ∨ hi ≤ k) → w'.heap[k]? = w.heap[k]?
theorem Ext.turned {w w' : World} (h : Ext w w') (lo hi : Nat) : Turned lo hi w w' := ⟨h.os, h.tape, h.output, h.size, fun k hk _ => h.block k hk⟩
theorem Turned.refl (lo hi : Nat) (w : World) : Turned lo hi w w := (Ext.refl w).turned lo hi
theorem Turned.trans {lo hi : Nat} {w w1 w2 : World} (h : Turned lo hi w w1) (k : Turned lo hi w1 w2) : Turned lo hi w w2 :=
  ⟨k.os.trans h.os, k.tape.trans h.tape, k.output.trans h.output, Nat.le_trans h.size k.size, fun b hb hr => (k.block b (Nat.lt_of_lt_of_le hb h.size) hr).trans (h.block b hb hr)⟩
theorem Turned.wide {lo hi lo' hi' : Nat} {w w' : World} (h : Turned lo hi w w') (h1 : lo' ≤ lo) (h2 : hi ≤ hi') : Turned lo' hi' w w' :=
  ⟨h.os, h.tape, h.output, h.size, fun k hk hr => h.block k hk (by omega)⟩
theorem ext_turned {lo hi : Nat} {w w1 w2 : World} (h : Ext w w1) (k : Turned lo hi w1 w2) (hl : w.heap.size ≤ lo) : Ext w w2 :=
  ⟨k.os.trans h.os, k.tape.trans h.tape, k.output.trans h.output, Nat.le_trans h.size k.size, fun b hb => (k.block b (Nat.lt_of_lt_of_le hb h.size) (.inl (Nat.lt_of_lt_of_le hb hl))).trans (h.block b hb)⟩
theorem Turned.le {lo hi : Nat} {w w' : World} (h : Turned lo hi w w') : w.heap.size ≤ w'.heap.size := h.size
section
variable {α : Type} {enc : α → List Value} {ok : α → Prop} {e : TypeId} {sz lo hi lo' hi' : Nat} {w w' : World} {v : Value} {xs : List α}
/-- A flat slice whose memory lies between lo and hi. -/
def OwnIn (R : Rel α) (e : TypeId) (sz : Nat) (lo hi : Nat) (w : World) (v : Value) (xs : List α) : Prop :=
  OwnAt R e sz w lo v xs ∧ (∀ k, v.ownBlock = some k → k < hi) ∧ hi ≤ w.heap.size
theorem OwnIn.of {R : Rel α} {w0 : World} (h : OwnAt R e sz w w0.heap.size v xs) : OwnIn R e sz w0.heap.size w.heap.size w v xs := ⟨h, fun k hk => (h.block k hk).2, Nat.le_refl _⟩
theorem OwnIn.ext {R : Rel α} (h : OwnIn R e sz lo hi w v xs) (hm : R.Mono) (hb : Ext w w') : OwnIn R e sz lo hi w' v xs := ⟨h.1.ext hm hb, h.2.1, Nat.le_trans h.2.2 hb.le⟩
theorem OwnIn.keep (h : OwnIn (Flat enc ok) e sz lo hi w v xs) (ht : Turned lo' hi' w w') (hd : hi ≤ lo' ∨ hi' ≤ lo) : OwnIn (Flat enc ok) e sz lo hi w' v xs := by
  obtain ⟨⟨L, ⟨h1, h2⟩, h3⟩, hlt, hle⟩ := h
  refine ⟨⟨L, ⟨h1, ?_⟩, h3⟩, hlt, Nat.le_trans hle ht.size⟩
  rcases h2 with h2 | ⟨g, cap, cur, hv, hg, hh, r⟩
  · exact .inl h2
  · have hgl := hlt g (by rw [hv]; rfl)
    exact .inr ⟨g, cap, cur, hv, hg, (ht.block g (by omega) (by omega)).trans hh, r⟩
theorem OwnIn.sl {R : Rel α} {A : Option Addr} {c : Nat} (h : OwnIn R e sz lo hi w (.slice A xs.length c) xs) : SlAt R sz w A xs.length xs := h.1.slAt
theorem OwnIn.cap {R : Rel α} {A : Option Addr} {c : Nat} (h : OwnIn R e sz lo hi w (.slice A xs.length c) xs) : xs.length ≤ c := by
  obtain ⟨⟨L, ⟨_, h1⟩, _⟩, _⟩ := h
  rcases h1 with ⟨_, h0⟩ | ⟨g, cap, cur, hv, _, _, hn, _⟩
  · omega
  · injection hv with _ _ e; omega
theorem OwnIn.owns {R : Rel α} (h : OwnIn R e sz lo hi w v xs) : ∃ L, w.ownsRow lo e sz v xs.length L := by
  obtain ⟨⟨L, h1, _⟩, _⟩ := h; exact ⟨L, h1⟩
theorem turned_of {R : Rel α} (h : OwnIn R e sz lo hi w v xs) (hg : w.grownBy w' v.ownBlock) : Turned lo hi w w' :=
  ⟨hg.os, hg.tape, hg.output, hg.size, fun k hk hr => hg.block k hk (fun e => by have h1 := (h.1.block k e.symm).1; have h2 := h.2.1 k e.symm; omega)⟩
end
end Go.Proofs.YtgmlcohffdeplaaGreat
