/- Contracts of the marks that the laws set and ask for. -/
import Derived.Test.YtgmlcohffdeplaaGreatSmall
namespace Go.Proofs.YtgmlcohffdeplaaGreat
open Go.RowKit
def mdigF : Nat → Nat → List UInt8 → List UInt8
  | 0, _, acc => acc
  | f + 1, k, acc => if k = 0 then acc else mdigF f (k / 10) ((48 + UInt8.ofNat (k % 10)) :: acc)
theorem mdigF_zero (f : Nat) (acc : List UInt8) : mdigF f 0 acc = acc := by cases f <;> simp [mdigF]
def mtext (k : Nat) : ByteArray := ⟨(109 :: mdigF k k []).toArray⟩
theorem grownBy_trans {w w1 w2 : World} {row : Option Nat} (h : w.grownBy w1 row) (k : w1.grownBy w2 row) : w.grownBy w2 row :=
  ⟨k.os.trans h.os, k.tape.trans h.tape, k.output.trans h.output, Nat.le_trans h.size k.size, fun b hb hr => (k.block b (Nat.lt_of_lt_of_le hb h.size) hr).trans (h.block b hb hr)⟩
theorem grownBy_ext {w w1 w2 : World} {row : Option Nat} (h : w.grownBy w1 row) (k : Ext w1 w2) : w.grownBy w2 row :=
  ⟨k.os.trans h.os, k.tape.trans h.tape, k.output.trans h.output, Nat.le_trans h.size k.size, fun b hb hr => (k.block b (Nat.lt_of_lt_of_le hb h.size)).trans (h.block b hb hr)⟩
theorem grownBy_puts {w : World} {g : Nat} (us : List Value) : ∀ (w1 : World) (p : Nat), w.grownBy w1 (some g) → w.grownBy (setCells w1 g p us) (some g) := by
  induction us with
  | nil => intro w1 p h; exact h
  | cons u us ih =>
    intro w1 p h
    refine ih _ _ (grownBy_trans h ⟨rfl, rfl, rfl, by simp [World.setCell], fun b _ hr => ?_⟩)
    exact Below.heap_setCell _ _ _ _ (fun e => hr (by rw [e]))
/-- The marks of n elements, each of cnt cells. -/
def marks (f : Int → List Value) (cnt : Nat) (k : Int) : Nat → List Value
  | 0 => []
  | n + 1 => f k ++ marks f cnt (k + cnt) n
theorem marks_succ (f : Int → List Value) (cnt : Nat) (n : Nat) : ∀ k : Int, marks f cnt k (n + 1) = marks f cnt k n ++ f (k + cnt * n) := by
  induction n with
  | zero => intro k; simp [marks]
  | succ n ih =>
    intro k
    rw [marks, ih (k + cnt)]
    rw [show marks f cnt k (n + 1) = f k ++ marks f cnt (k + cnt) n from rfl, List.append_assoc]
    congr 3
    have : ((n + 1 : Nat) : Int) = n + 1 := by omega
    rw [this, Int.mul_add]; omega
theorem marks_len {f : Int → List Value} {cnt : Nat} (hf : ∀ k, (f k).length = cnt) (n : Nat) : ∀ k : Int, (marks f cnt k n).length = n * cnt := by
  induction n with
  | zero => intro k; simp [marks]
  | succ n ih => intro k; rw [marks, List.length_append, hf, ih, Nat.add_mul]; omega
theorem marks_get {f : Int → List Value} {cnt : Nat} (hf : ∀ k, (f k).length = cnt) (n : Nat) : ∀ (k : Int) (i j : Nat), i < n → j < cnt → (marks f cnt k n)[i * cnt + j]? = (f (k + cnt * i))[j]? := by
  induction n with
  | zero => intro k i j h; omega
  | succ n ih =>
    intro k i j hi hj
    cases i with
    | zero =>
      rw [marks, List.getElem?_append_left (by rw [hf]; omega)]; simp
    | succ i =>
      rw [marks, List.getElem?_append_right (by rw [hf, Nat.add_mul]; omega), hf, show (i + 1) * cnt + j - cnt = i * cnt + j by rw [Nat.add_mul]; omega, ih (k + cnt) i j (by omega) hj]
      congr 2
      have : ((i + 1 : Nat) : Int) = i + 1 := by omega
      rw [this, Int.mul_add]; omega
/-- Marked: the row holds the marks; nothing else has turned. -/
def Marked (f : Int → List Value) (cnt : Nat) (e : TypeId) (w : World) (base : Nat) (v : Value) (k : Int) (n : Nat) : Ending → World → Prop :=
  fun en w' => en = .returned (.int .i64 (k + cnt * n)) ∧ w'.ownsRow base e cnt v n (marks f cnt k n) ∧ w.grownBy w' v.ownBlock
theorem ret_marked {f : Int → List Value} {cnt : Nat} {e : TypeId} {w w0 : World} {P : Program} {fn : Func} {a : Act} {t : Tmp} {base n i : Nat} {v : Value} {k : Int} {L : List Value} (hr : fn.results = #[.tmp t])
    (hown : w.ownsRow base e cnt v n L) (hL : L.take (i * cnt) = marks f cnt k i) (hi : i = n) (hg : w0.grownBy w v.ownBlock)
    (hv : a.tmps.getD t undef = .int .i64 (k + cnt * i)) (hd : a.defers = [] := by rfl) : bodyPost P fn (Marked f cnt e w0 base v k n) .ret a w := by
  subst hi
  refine bodyPost_ret (results_tmp hr _ _ _) hd ⟨by rw [hv], ?_, hg⟩
  rw [List.take_of_length_le (by rw [hown.1]; exact Nat.le_refl _)] at hL
  rw [← hL]; exact hown

end Go.Proofs.YtgmlcohffdeplaaGreat
