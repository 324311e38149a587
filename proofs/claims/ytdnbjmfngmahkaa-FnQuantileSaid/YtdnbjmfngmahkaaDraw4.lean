/- Contracts of the draws: a list of times. -/
import Derived.Test.YtdnbjmfngmahkaaDraw3
namespace Go.Proofs.Ytdnbjmfngmahkaa
open Go.RowKit
set_option linter.unusedVariables false
theorem DInt.one (y : Int) : ∀ u ∈ encInt y, u.oneCell' = true := by
  intro u hu; simp [encInt] at hu; subst hu; rfl
theorem DInt.info : (Try.prog.info? 3).map (fun i => (i.zero, i.size, i.bytes)) = some (some (.int .i64 0), 1, 8) := by kernel_rfl
/-- Low blocks stay: what lies from base on may turn. -/
theorem turned_low {g base : Nat} {w w1 w2 : World} (h : Turned g (g + 1) w w1) (k : Turned base (w2.heap.size) w1 w2) (hb : w.heap.size ≤ base) : Turned g (g + 1) w w2 :=
  ⟨k.os.trans h.os, k.tape.trans h.tape, k.output.trans h.output, Nat.le_trans h.size k.size, fun b hb1 hr => (k.block b (Nat.lt_of_lt_of_le hb1 h.size) (.inl (by omega))).trans (h.block b hb1 hr)⟩
theorem Cur.keep {g lo hi : Nat} {w w' : World} (hc : Cur w g) (ht : Turned lo hi w w') (hg : g < lo) : Cur w' g := by
  obtain ⟨hlt, hfz, A, n, c, bs, i, h, c0, c1, c2, hin, hn, hh, hsl, hA⟩ := hc
  have hblk : ∀ b, b ≤ g → w'.heap[b]? = w.heap[b]? := fun b hb => ht.block b (by omega) (.inl (by omega))
  refine ⟨Nat.lt_of_lt_of_le hlt ht.size, fun j => by rw [World.frozen?_of_block (a := ⟨g, j, none⟩) (hblk g (Nat.le_refl _))]; exact hfz j, A, n, c, bs, i, h, by rw [World.cell?_of_block (a := ⟨g, 0, none⟩) (hblk g (Nat.le_refl _))]; exact c0, by rw [World.cell?_of_block (a := ⟨g, 1, none⟩) (hblk g (Nat.le_refl _))]; exact c1, by rw [World.cell?_of_block (a := ⟨g, 2, none⟩) (hblk g (Nat.le_refl _))]; exact c2, hin, hn, hh, ?_, hA⟩
  refine ⟨hsl.1, fun h0 => ?_⟩
  obtain ⟨b, o, e, hb, hcs⟩ := hsl.2 h0
  have hbg := hA h0 b o e
  refine ⟨b, o, e, Nat.lt_of_lt_of_le hb ht.size, fun k x hx => ?_⟩
  obtain ⟨cs, q1, q2, q3⟩ := hcs k x hx
  exact ⟨cs, q1, fun j u hu => by rw [World.cell?_of_block (a := ⟨b, o + k * 1 + j, none⟩) (hblk b (by omega))]; exact q2 j u hu, q3⟩
/-- 'out = append(out, x)': one value, laid in a box of its own; what lies below the row's base stays. -/
theorem wpList_append_one_t {P : Program} {w : World} {ops : Array Oper} {rest : List Oper} {o : Oper} {a : Act} {Q : Exit → Act → World → Prop} (s x : Operand) (t : TypeId)
    (base : Nat) (e : TypeId) (i : TypeInfo) (z : Value) (size bytes : Nat) (v : Value) (n : Nat) (L cs : List Value) (hgd : o.guard = none)
    (ho : o.op = .call { callee := .builtin .append, args := #[s, x], argTypes := #[t, t] })
    (ht : P.underlying t = some (.slice e)) (hi : P.info? e = some i) (hz : i.zero = some z)
    (hsize : i.size = size) (hby : i.bytes = bytes) (hzs : z.cells.size = size) (hsz : 0 < size)
    (hs : a.eval s = v) (hown : w.ownsRow base e size v n L)
    (p : Nat) (hx : a.eval x = .slice (some ⟨p, 0, none⟩) 1 1) (hp : p = w.heap.size) (hl : cs.length = size) (h1 : ∀ u ∈ cs, u.oneCell' = true)
    (h63 : n + 1 ≤ maxLen) (hbytes : (n + 1) * bytes ≤ 140737488355328) (hbw : base ≤ w.heap.size)
    (h : ∀ A c w', w'.ownsRow base e size (.slice A (n + 1) c) (n + 1) (L ++ cs) → Turned base w'.heap.size w w' → w.heap.size < w'.heap.size → wpList P ops Q rest (a.put o.dst (.slice A (n + 1) c)) w') : wpList P ops Q (o :: rest) a (w.alloc (.cells cs.toArray e)) := by
  subst hp
  refine wpList_append_own _ hgd s x t ho base e i z size bytes ht hi hz hsize hby hzs hsz v n L hs (hown.alloc _) ⟨w.heap.size, 0, none⟩ 1 1 cs hx (by rw [hl, Nat.one_mul]) (cell_boxed w cs e) h1 h63 hbytes (by simp; omega) ?_
  intro v' w' ho' hg' _
  have hsz' := hg'.size
  simp at hsz'
  have htu : Turned base w'.heap.size w w' := ⟨hg'.os, hg'.tape, hg'.output, by omega, fun b hb hr => by
    have hb1 : b < base := by omega
    rw [hg'.block b (by simp; omega) (fun hv => by have := (hown.lt b hv.symm).1; omega)]
    exact ((Ext.refl w).alloc (.cells cs.toArray e)).block b hb⟩
  obtain ⟨hlen, ⟨_, h0⟩ | ⟨g, cap, cur, rfl, r⟩⟩ := ho'
  · omega
  · exact h _ _ _ ⟨hlen, .inr ⟨g, cap, cur, rfl, r⟩⟩ htu (by omega)
end Go.Proofs.Ytdnbjmfngmahkaa
