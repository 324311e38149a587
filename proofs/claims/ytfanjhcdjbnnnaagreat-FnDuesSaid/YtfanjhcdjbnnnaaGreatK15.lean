/- StD, SRoom1. -/
import Derived.Test.YtfanjhcdjbnnnaaGreatK11
import Derived.Test.YtfanjhcdjbnnnaaGreatK13
import Derived.Test.YtfanjhcdjbnnnaaGreatK14
import Derived.Test.YtfanjhcdjbnnnaaGreatK08
import Derived.Test.YtfanjhcdjbnnnaaGreatK09
namespace Go.Proofs.YtfanjhcdjbnnnaaGreat
open Go.RowKit
set_option linter.unusedVariables false
set_option maxHeartbeats 8000000
set_option maxRecDepth 8000
structure Kept (w w' : World) (k : Option Nat) : Prop where
 os : w'.os = w.os
 tape : w'.tape = w.tape
 output : w'.output = w.output
 size : w.heap.size ≤ w'.heap.size
 kept : ∀ b,b < w.heap.size → k ≠ some b → w'.heap[b]? = w.heap[b]?
section
variable {w w0 w1 w' : World} {k k' : Option Nat} {base n sz lo : Nat} {e : TypeId} {v : Value} {L : List Value}
theorem Kept.own (h : Kept w w' k) (ho : w.ownsRow base e sz v n L) (ha : rowsApart v.ownBlock k) : w'.ownsRow base e sz v n L := by
 have hlt := ho.lt
 obtain ⟨h1,h2⟩ := ho
 refine ⟨h1, ?_⟩
 rcases h2 with h2 | ⟨g,cap,cur,rfl,hg,hh,r⟩
 ·exact .inl h2
 ·exact .inr ⟨g,cap,cur,rfl,hg,(h.kept g (hlt g rfl).2 (fun e => ha g rfl e)).trans hh,r⟩
theorem Kept.ofExt (h : Ext w w') (k : Option Nat) : Kept w w' k := ⟨h.os,h.tape,h.output,h.size,fun b hb _ => h.block b hb⟩
theorem Kept.trans (h : Kept w w1 k) (h' : Kept w1 w' k') (hk : ∀ q,k' = some q → k = some q ∨ w.heap.size ≤ q) : Kept w w' k :=
 ⟨h'.os.trans h.os,h'.tape.trans h.tape,h'.output.trans h.output,Nat.le_trans h.size h'.size,fun b hb hne => (h'.kept b (Nat.lt_of_lt_of_le hb h.size) (fun e => by rcases hk b e with h1 | h1;exact hne h1;omega)).trans (h.kept b hb hne)⟩
theorem Kept.ext (h : Kept w w' k) (hb : Ext w0 w) (hk : ∀ q,k = some q → w0.heap.size ≤ q) : Ext w0 w' :=
 ⟨h.os.trans hb.os,h.tape.trans hb.tape,h.output.trans hb.output,Nat.le_trans hb.le h.size,fun b hb' => (h.kept b (Nat.lt_of_lt_of_le hb' hb.le) (fun e => by have := hk b e;omega)).trans (hb.block b hb')⟩
theorem AppR.kp {A' : Option Addr} {n' c' : Nat} {L' : List Value} (h : AppR w w' base e sz v A' n' c' L') : Kept w w' v.ownBlock := ⟨h.os,h.tape,h.output,h.size,h.kept⟩
theorem kept_set (w : World) (b p : Nat) (u : Value) : Kept w (w.setCell ⟨b,p,none⟩ u) (some b) :=
 ⟨rfl,rfl,rfl,by simp [World.setCell],fun q _ hne => Below.heap_setCell _ _ _ _ (fun e => hne (by simp only [] at e;rw [e]))⟩
theorem Kept.turned (h : Kept w w' k) (hk : ∀ q,k = some q → lo ≤ q) : Turned lo w'.heap.size w w' :=
 ⟨h.os,h.tape,h.output,h.size,fun b hb hr => h.kept b hb (fun e => by have := hk b e;have := h.size;omega)⟩
end
structure RawRun where
 j : Job
 at_ : Int
 A : Option Addr
 n : Nat
 c : Nat
def RawRun.enc (r : RawRun) : List Value := r.j.enc ++ [.int .i64 r.at_,.slice r.A r.n r.c]
theorem RawRun.size (r : RawRun) : r.enc.length = 13 := rfl
def RawRun.ok (r : RawRun) : Prop := r.j.ok ∧ In64 r.at_ ∧ r.n ≤ 1048576 ∧ r.n ≤ r.c
def RawRun.mem (w : World) (lo : Nat) (r : RawRun) : Prop := ∃ xs,RowI w lo r.A r.n r.c xs
theorem RawRun.one (r : RawRun) : ∀ u ∈ r.enc,u.oneCell' = true := by
 intro u hu
 simp [RawRun.enc,Job.enc] at hu
 rcases hu with rfl | rfl | rfl | rfl | rfl | rfl | rfl | rfl | rfl | rfl | rfl | rfl | rfl <;> rfl
theorem RowI.kept {w w' : World} {lo n c base nb sz : Nat} {A : Option Addr} {xs : List Int} {e : TypeId} {v : Value} {L : List Value} (h : RowI w lo A n c xs) (ho : w.ownsRow base e sz v nb L) (hk : Kept w w' v.ownBlock) (hne : 3 ≠ e) : RowI w' lo A n c xs := by
 have h2 := hk.own h.2 (g_apart h.2 ho hne)
 have hl := h.1.len
 refine ⟨?_,h2⟩
 subst hl
 exact owns_sl encInt_size h2 h.1.all
theorem RowI.turn {w w' : World} {lo n c g : Nat} {A : Option Addr} {xs : List Int} (h : RowI w lo A n c xs) (ht : Turned g (g + 1) w w') (hg : g < lo) : RowI w' lo A n c xs := by
 have h2 := ownsT h.2 ht hg
 have hl := h.1.len
 refine ⟨?_,h2⟩
 subst hl
 exact owns_sl encInt_size h2 h.1.all
structure StD where
 ps : List Int
 ns : List Node
 up : List Bool
 lic : Vec
 dep : Int
 now : Int
 q : List Job
 rs : List RawRun
 es : List End
 A1 : Option Addr
 n1 : Nat
 c1 : Nat
 A2 : Option Addr
 n2 : Nat
 c2 : Nat
 A3 : Option Addr
 n3 : Nat
 c3 : Nat
 A6 : Option Addr
 n6 : Nat
 c6 : Nat
 A7 : Option Addr
 n7 : Nat
 c7 : Nat
 A8 : Option Addr
 n8 : Nat
 c8 : Nat
structure StD.good (w : World) (lo : Nat) (d : StD) : Prop where
 l1 : d.n1 = d.ps.length
 l2 : d.n2 = d.ns.length
 l3 : d.n3 = d.up.length
 l6 : d.n6 = d.q.length
 l7 : d.n7 = d.rs.length
 l8 : d.n8 = d.es.length
 r1 : own0 w lo 3 1 d.A1 d.c1 d.n1 (d.ps.flatMap encInt)
 r2 : own0 w lo 85 4 d.A2 d.c2 d.n2 (d.ns.flatMap Node.enc)
 r3 : w.ownsRow lo 4 1 (.slice d.A3 d.n3 d.c3) d.n3 (d.up.flatMap encB)
 r6 : w.ownsRow lo 52 11 (.slice d.A6 d.n6 d.c6) d.n6 (d.q.flatMap Job.enc)
 r7 : w.ownsRow lo 54 13 (.slice d.A7 d.n7 d.c7) d.n7 (d.rs.flatMap RawRun.enc)
 r8 : w.ownsRow lo 64 3 (.slice d.A8 d.n8 d.c8) d.n8 (d.es.flatMap End.enc)
 k1 : ∀ x ∈ d.ps,In64 x
 k2 : ∀ x ∈ d.ns,x.ok
 k6 : ∀ x ∈ d.q,x.ok
 k7 : ∀ x ∈ d.rs,x.ok ∧ RawRun.mem w lo x
 k8 : ∀ x ∈ d.es,x.ok
 kn : In64 d.now
def StD.sm (d : StD) : Prop := d.n1 ≤ 1000 ∧ d.n2 ≤ 1000 ∧ d.n3 ≤ 1000 ∧ d.n6 ≤ 500 ∧ d.n7 ≤ 100000 ∧ d.n8 ≤ 100000
section
variable {w w' : World} {lo lo' : Nat} {d : StD}
theorem StD.good.ext (h : d.good w lo) (hb : Ext w w') : d.good w' lo :=
 ⟨h.l1,h.l2,h.l3,h.l6,h.l7,h.l8,h.r1.ext hb,h.r2.ext hb,owns_ext h.r3 hb,owns_ext h.r6 hb,owns_ext h.r7 hb,owns_ext h.r8 hb,h.k1,h.k2,h.k6,fun x hx => ⟨(h.k7 x hx).1,by obtain ⟨xs,hx⟩ := (h.k7 x hx).2;exact ⟨xs,hx.ext hb⟩⟩,h.k8,h.kn⟩
theorem StD.good.base (h : d.good w lo) (hb : lo' ≤ lo) : d.good w lo' :=
 ⟨h.l1,h.l2,h.l3,h.l6,h.l7,h.l8,h.r1.base hb,h.r2.base hb,owns_base h.r3 hb,owns_base h.r6 hb,owns_base h.r7 hb,owns_base h.r8 hb,h.k1,h.k2,h.k6,fun x hx => ⟨(h.k7 x hx).1,by obtain ⟨xs,hx⟩ := (h.k7 x hx).2;exact ⟨xs,hx.base hb⟩⟩,h.k8,h.kn⟩
theorem own0.turn' {g : Nat} {e : TypeId} {sz n c : Nat} {A : Option Addr} {L : List Value} (h : own0 w lo e sz A c n L) (ht : Turned g (g + 1) w w') (hg : g < lo) : own0 w' lo e sz A c n L := h.imp id (fun h => ownsT h ht hg)
theorem StD.good.turn {g : Nat} (h : d.good w lo) (ht : Turned g (g + 1) w w') (hg : g < lo) : d.good w' lo :=
 ⟨h.l1,h.l2,h.l3,h.l6,h.l7,h.l8,h.r1.turn' ht hg,h.r2.turn' ht hg,ownsT h.r3 ht hg,ownsT h.r6 ht hg,ownsT h.r7 ht hg,ownsT h.r8 ht hg,h.k1,h.k2,h.k6,fun x hx => ⟨(h.k7 x hx).1,by obtain ⟨xs,hx⟩ := (h.k7 x hx).2;exact ⟨xs,hx.turn ht hg⟩⟩,h.k8,h.kn⟩
def rowTypes : List TypeId := [3,85,4,52,54,64]
theorem own0.keep {base nb sz' : Nat} {e' : TypeId} {v : Value} {L' : List Value} {e : TypeId} {sz n c : Nat} {A : Option Addr} {L : List Value} (h : own0 w lo e sz A c n L) (ho : w.ownsRow base e' sz' v nb L') (hk : Kept w w' v.ownBlock) (hne : e ≠ e') : own0 w' lo e sz A c n L := h.imp id (fun h => hk.own h (g_apart h ho hne))
theorem StD.good.kept {base nb sz : Nat} {e : TypeId} {v : Value} {L : List Value} (h : d.good w lo) (ho : w.ownsRow base e sz v nb L) (hk : Kept w w' v.ownBlock) (hne : ∀ t ∈ rowTypes,t ≠ e) : d.good w' lo := by
 have h1 := hne 3 (by simp [rowTypes])
 have h2 := hne 85 (by simp [rowTypes])
 have h3 := hne 4 (by simp [rowTypes])
 have h6 := hne 52 (by simp [rowTypes])
 have h7 := hne 54 (by simp [rowTypes])
 have h8 := hne 64 (by simp [rowTypes])
 exact ⟨h.l1,h.l2,h.l3,h.l6,h.l7,h.l8,h.r1.keep ho hk h1,h.r2.keep ho hk h2,hk.own h.r3 (g_apart h.r3 ho h3),hk.own h.r6 (g_apart h.r6 ho h6),hk.own h.r7 (g_apart h.r7 ho h7),hk.own h.r8 (g_apart h.r8 ho h8),h.k1,h.k2,h.k6,fun x hx => ⟨(h.k7 x hx).1,by obtain ⟨xs,hx⟩ := (h.k7 x hx).2;exact ⟨xs,hx.kept ho hk h1⟩⟩,h.k8,h.kn⟩
theorem StD.good.far {base sz g p : Nat} {e : TypeId} {L : List Value} {u : Value} (h : d.good w lo) (ho : w.ownsRow base e sz (.slice (some ⟨g,0,none⟩) 1 1) 1 L) (hne : ∀ t ∈ rowTypes,t ≠ e) : d.good (w.setCell ⟨g,p,none⟩ u) lo := h.kept ho (kept_set w g p u) hne
theorem StD.good.low {g p : Nat} {u : Value} (h : d.good w lo) (hg : g < lo) : d.good (w.setCell ⟨g,p,none⟩ u) lo :=
 h.turn ⟨rfl,rfl,rfl,by simp [World.setCell],fun b hb hr => Below.heap_setCell _ _ _ _ (by simp only [];omega)⟩ hg
end
def StD.withQ (d : StD) (q : List Job) (A : Option Addr) (n c : Nat) : StD := { d with q := q,A6 := A,n6 := n,c6 := c }
def StD.withR (d : StD) (rs : List RawRun) (A : Option Addr) (n c : Nat) : StD := { d with rs := rs,A7 := A,n7 := n,c7 := c }
def StD.withE (d : StD) (es : List End) (A : Option Addr) (n c : Nat) : StD := { d with es := es,A8 := A,n8 := n,c8 := c }
def StD.withNow (d : StD) (t : Int) : StD := { d with now := t }
def StD.withDep (d : StD) (t : Int) : StD := { d with dep := t }
def StD.withLic (d : StD) (v : Vec) : StD := { d with lic := v }
def StD.withUp (d : StD) (l : List Bool) (A : Option Addr) (n c : Nat) : StD := { d with up := l,A3 := A,n3 := n,c3 := c }
def StD.withTopo (d : StD) (ps : List Int) (A : Option Addr) (n c : Nat) (ns : List Node) (A' : Option Addr) (n' c' : Nat) : StD := { d with ps := ps,A1 := A,n1 := n,c1 := c,ns := ns,A2 := A',n2 := n',c2 := c' }
def StD.zero : StD := ⟨[],[],[],⟨0,0,0⟩,0,0,[],[],[],none,0,0,none,0,0,none,0,0,none,0,0,none,0,0,none,0,0⟩
section
variable {w w' : World} {lo lo' : Nat} {d : StD} {A : Option Addr} {n c : Nat}
theorem StD.zero_good (w : World) (lo : Nat) : StD.zero.good w lo :=
 ⟨rfl,rfl,rfl,rfl,rfl,rfl,.inl rfl,.inl rfl,World.ownsRow_nil _ _ _ _,World.ownsRow_nil _ _ _ _,World.ownsRow_nil _ _ _ _,World.ownsRow_nil _ _ _ _,(fun x hx => by cases hx),(fun x hx => by cases hx),(fun x hx => by cases hx),(fun x hx => by cases hx),(fun x hx => by cases hx),by simp [StD.zero,In64]⟩
theorem StD.zero_sm : StD.zero.sm := by simp [StD.sm,StD.zero]
theorem StD.good.now (h : d.good w lo) {t : Int} (ht : In64 t) : (d.withNow t).good w lo := ⟨h.l1,h.l2,h.l3,h.l6,h.l7,h.l8,h.r1,h.r2,h.r3,h.r6,h.r7,h.r8,h.k1,h.k2,h.k6,h.k7,h.k8,ht⟩
theorem StD.good.dep (h : d.good w lo) (t : Int) : (d.withDep t).good w lo := ⟨h.l1,h.l2,h.l3,h.l6,h.l7,h.l8,h.r1,h.r2,h.r3,h.r6,h.r7,h.r8,h.k1,h.k2,h.k6,h.k7,h.k8,h.kn⟩
theorem StD.good.lic (h : d.good w lo) (v : Vec) : (d.withLic v).good w lo := ⟨h.l1,h.l2,h.l3,h.l6,h.l7,h.l8,h.r1,h.r2,h.r3,h.r6,h.r7,h.r8,h.k1,h.k2,h.k6,h.k7,h.k8,h.kn⟩
theorem StD.good.topo {ps : List Int} {ns : List Node} {A' : Option Addr} {n' c' : Nat} (h : d.good w lo) (h1 : n = ps.length) (h2 : n' = ns.length) (r1 : own0 w lo 3 1 A c n (ps.flatMap encInt)) (r2 : own0 w lo 85 4 A' c' n' (ns.flatMap Node.enc)) (k1 : ∀ x ∈ ps,In64 x) (k2 : ∀ x ∈ ns,x.ok) : (d.withTopo ps A n c ns A' n' c').good w lo :=
 ⟨h1,h2,h.l3,h.l6,h.l7,h.l8,r1,r2,h.r3,h.r6,h.r7,h.r8,k1,k2,h.k6,h.k7,h.k8,h.kn⟩
theorem StD.good.queue {q : List Job} (h : d.good w lo) (h1 : n = q.length) (r : w.ownsRow lo 52 11 (.slice A n c) n (q.flatMap Job.enc)) (k : ∀ x ∈ q,x.ok) : (d.withQ q A n c).good w lo :=
 ⟨h.l1,h.l2,h.l3,h1,h.l7,h.l8,h.r1,h.r2,h.r3,r,h.r7,h.r8,h.k1,h.k2,k,h.k7,h.k8,h.kn⟩
theorem StD.good.runs {rs : List RawRun} (h : d.good w lo) (h1 : n = rs.length) (r : w.ownsRow lo 54 13 (.slice A n c) n (rs.flatMap RawRun.enc)) (k : ∀ x ∈ rs,x.ok ∧ RawRun.mem w lo x) : (d.withR rs A n c).good w lo :=
 ⟨h.l1,h.l2,h.l3,h.l6,h1,h.l8,h.r1,h.r2,h.r3,h.r6,r,h.r8,h.k1,h.k2,h.k6,k,h.k8,h.kn⟩
theorem StD.good.ends {es : List End} (h : d.good w lo) (h1 : n = es.length) (r : w.ownsRow lo 64 3 (.slice A n c) n (es.flatMap End.enc)) (k : ∀ x ∈ es,x.ok) : (d.withE es A n c).good w lo :=
 ⟨h.l1,h.l2,h.l3,h.l6,h.l7,h1,h.r1,h.r2,h.r3,h.r6,h.r7,r,h.k1,h.k2,h.k6,h.k7,k,h.kn⟩
theorem StD.good.ups {l : List Bool} (h : d.good w lo) (h1 : n = l.length) (r : w.ownsRow lo 4 1 (.slice A n c) n (l.flatMap encB)) : (d.withUp l A n c).good w lo :=
 ⟨h.l1,h.l2,h1,h.l6,h.l7,h.l8,h.r1,h.r2,r,h.r6,h.r7,h.r8,h.k1,h.k2,h.k6,h.k7,h.k8,h.kn⟩
theorem StD.good.pushQ {x : Job} (h : d.good w lo) (hr : AppR w w' lo 52 11 (.slice d.A6 d.n6 d.c6) A (d.n6 + 1) c (d.q.flatMap Job.enc ++ [x].flatMap Job.enc)) (hx : x.ok) : (d.withQ (d.q ++ [x]) A (d.n6 + 1) c).good w' lo :=
 ⟨h.l1,h.l2,h.l3,(by show d.n6 + 1 = (d.q ++ [x]).length;rw [h.l6,List.length_append];rfl),h.l7,h.l8,h.r1.keep h.r6 hr.kp (by decide),h.r2.keep h.r6 hr.kp (by decide),hr.kp.own h.r3 (g_apart h.r3 h.r6 (by decide)),(by have := hr.row;rw [← List.flatMap_append] at this;exact this),hr.kp.own h.r7 (g_apart h.r7 h.r6 (by decide)),hr.kp.own h.r8 (g_apart h.r8 h.r6 (by decide)),h.k1,h.k2,
  (fun y hy => by rcases List.mem_append.1 hy with hy | hy;exact h.k6 y hy;(rw [List.mem_singleton.1 hy];exact hx)),(fun y hy => ⟨(h.k7 y hy).1,by obtain ⟨xs,hy⟩ := (h.k7 y hy).2;exact ⟨xs,hy.kept h.r6 hr.kp (by decide)⟩⟩),h.k8,h.kn⟩
theorem StD.good.pushE {x : End} (h : d.good w lo) (hr : AppR w w' lo 64 3 (.slice d.A8 d.n8 d.c8) A (d.n8 + 1) c (d.es.flatMap End.enc ++ [x].flatMap End.enc)) (hx : x.ok) : (d.withE (d.es ++ [x]) A (d.n8 + 1) c).good w' lo :=
 ⟨h.l1,h.l2,h.l3,h.l6,h.l7,(by show d.n8 + 1 = (d.es ++ [x]).length;rw [h.l8,List.length_append];rfl),h.r1.keep h.r8 hr.kp (by decide),h.r2.keep h.r8 hr.kp (by decide),hr.kp.own h.r3 (g_apart h.r3 h.r8 (by decide)),hr.kp.own h.r6 (g_apart h.r6 h.r8 (by decide)),hr.kp.own h.r7 (g_apart h.r7 h.r8 (by decide)),(by have := hr.row;rw [← List.flatMap_append] at this;exact this),h.k1,h.k2,h.k6,
  (fun y hy => ⟨(h.k7 y hy).1,by obtain ⟨xs,hy⟩ := (h.k7 y hy).2;exact ⟨xs,hy.kept h.r8 hr.kp (by decide)⟩⟩),(fun y hy => by rcases List.mem_append.1 hy with hy | hy;exact h.k8 y hy;(rw [List.mem_singleton.1 hy];exact hx)),h.kn⟩
theorem StD.good.pushR {x : RawRun} (h : d.good w lo) (hr : AppR w w' lo 54 13 (.slice d.A7 d.n7 d.c7) A (d.n7 + 1) c (d.rs.flatMap RawRun.enc ++ [x].flatMap RawRun.enc)) (hx : x.ok) (hm : RawRun.mem w lo x) : (d.withR (d.rs ++ [x]) A (d.n7 + 1) c).good w' lo :=
 ⟨h.l1,h.l2,h.l3,h.l6,(by show d.n7 + 1 = (d.rs ++ [x]).length;rw [h.l7,List.length_append];rfl),h.l8,h.r1.keep h.r7 hr.kp (by decide),h.r2.keep h.r7 hr.kp (by decide),hr.kp.own h.r3 (g_apart h.r3 h.r7 (by decide)),hr.kp.own h.r6 (g_apart h.r6 h.r7 (by decide)),(by have := hr.row;rw [← List.flatMap_append] at this;exact this),hr.kp.own h.r8 (g_apart h.r8 h.r7 (by decide)),h.k1,h.k2,h.k6,
  (fun y hy => by
   have hmm : RawRun.mem w lo y ∧ y.ok := by
    rcases List.mem_append.1 hy with hy | hy
    ·exact ⟨(h.k7 y hy).2,(h.k7 y hy).1⟩
    ·rw [List.mem_singleton.1 hy];exact ⟨hm,hx⟩
   obtain ⟨⟨xs,h1⟩,h2⟩ := hmm
   exact ⟨h2,xs,h1.kept h.r7 hr.kp (by decide)⟩),h.k8,h.kn⟩
end
theorem runs_of {w : World} {lo : Nat} : ∀ rs : List RawRun,(∀ x ∈ rs,x.ok ∧ RawRun.mem w lo x) → ∃ xs : List Run,xs.length = rs.length ∧ ∀ (k : Nat) (r : RawRun),rs[k]? = some r → ∃ x,xs[k]? = some x ∧ RRun w r.enc x ∧ x.At = r.at_ ∧ x.Job = r.j := by
 intro rs
 induction rs with
 | nil => intro _;exact ⟨[],rfl,fun k r hk => by simp at hk⟩
 | cons r rs ih =>
  intro h
  obtain ⟨xs,h1,h2⟩ := ih (fun x hx => h x (List.mem_cons_of_mem _ hx))
  obtain ⟨⟨hj,hat,hn,hc⟩,ys,hy⟩ := h r (List.mem_cons_self ..)
  have hl := hy.1.len
  refine ⟨⟨r.j,r.at_,ys⟩ :: xs,by simp [h1],fun k q hk => ?_⟩
  cases k with
  | zero =>
   simp at hk;subst hk
   exact ⟨_,rfl,⟨r.A,r.c,by show r.enc = _;rw [hl];rfl,by rw [hl];exact hy.1,by rw [hl];exact hc,by rw [hl];exact hn,hat,hj⟩,rfl,rfl⟩
  | succ k => simp at hk;simpa using h2 k q hk
section
variable {w : World} {lo : Nat} {d : StD}
theorem StD.good.sl1 (h : d.good w lo) : SlAt RInt 1 w d.A1 d.n1 d.ps := by have := h.r1;rw [h.l1] at this ⊢;exact this.sl encInt_size h.k1
theorem StD.good.sl2 (h : d.good w lo) : SlAt RNode 4 w d.A2 d.n2 d.ns := by have := h.r2;rw [h.l2] at this ⊢;exact this.sl Node.size h.k2
theorem StD.good.sl3 (h : d.good w lo) : SlAt RB 1 w d.A3 d.n3 d.up := by have := h.r3;rw [h.l3] at this ⊢;exact owns_sl (fun _ => rfl) this (fun _ _ => trivial)
theorem StD.good.sl6 (h : d.good w lo) : SlAt RJob 11 w d.A6 d.n6 d.q := by have := h.r6;rw [h.l6] at this ⊢;exact owns_sl Job.size this h.k6
theorem StD.good.sl7 (h : d.good w lo) : SlAt (Flat RawRun.enc RawRun.ok) 13 w d.A7 d.n7 d.rs := by have := h.r7;rw [h.l7] at this ⊢;exact owns_sl RawRun.size this (fun x hx => (h.k7 x hx).1)
theorem StD.good.sl8 (h : d.good w lo) : SlAt REnd 3 w d.A8 d.n8 d.es := by have := h.r8;rw [h.l8] at this ⊢;exact owns_sl End.size this h.k8
theorem StD.good.runsAt (h : d.good w lo) : ∃ xs : List Run,xs.length = d.n7 ∧ SlAt RRun 13 w d.A7 d.n7 xs := by
 obtain ⟨xs,h1,h2⟩ := runs_of (w := w) (lo := lo) d.rs h.k7
 have hs := h.sl7
 refine ⟨xs,by rw [h1,h.l7],by rw [h1,← h.l7],fun hn => ?_⟩
 obtain ⟨b,o,e,hb,hc⟩ := hs.2 hn
 refine ⟨b,o,e,hb,fun k x hx => ?_⟩
 have hk : k < d.rs.length := by rw [← h1];exact (List.getElem?_eq_some_iff.1 hx).1
 obtain ⟨y,hy,hr,_⟩ := h2 k _ (List.getElem?_eq_getElem hk)
 rw [hx] at hy;injection hy with hy;subst hy
 obtain ⟨cs,q1,q2,q3,_⟩ := hc k _ (List.getElem?_eq_getElem hk)
 subst q3
 exact ⟨_,q1,q2,hr⟩
theorem StD.good.state (h : d.good w lo) : ∃ s : State,StateAt w s (.agg #[.slice d.A1 d.n1 d.c1,.slice d.A2 d.n2 d.c2,.slice d.A3 d.n3 d.c3,.int .i64 d.lic.A,.int .i64 d.lic.B,.int .i64 d.lic.C,.int .i64 d.dep,.int .i64 d.now,.slice d.A6 d.n6 d.c6,.slice d.A7 d.n7 d.c7,.slice d.A8 d.n8 d.c8]) ∧ (s.Topo.Parents.length = d.n1 ∧ s.Topo.Nodes.length = d.n2 ∧ s.Up.length = d.n3 ∧ s.Queue.length = d.n6 ∧ s.Runs.length = d.n7 ∧ s.Ends.length = d.n8) ∧ s.Topo.Parents = d.ps ∧ s.Topo.Nodes = d.ns ∧ s.Up = d.up ∧ s.Queue = d.q ∧ s.Now = d.now := by
 obtain ⟨xs,h1,h2⟩ := h.runsAt
 have s1 := h.sl1;have s2 := h.sl2;have s3 := h.sl3;have s6 := h.sl6;have s8 := h.sl8
 have e1 := h.l1;have e2 := h.l2;have e3 := h.l3;have e6 := h.l6;have e8 := h.l8
 refine ⟨⟨⟨d.ps,d.ns⟩,d.up,d.lic,d.dep,d.now,d.q,xs,d.es⟩,⟨d.A1,d.c1,d.A2,d.c2,d.A3,d.c3,d.A6,d.c6,d.A7,d.c7,d.A8,d.c8, ?_, ?_, ?_, ?_, ?_, ?_, ?_⟩,⟨e1.symm,e2.symm,e3.symm,e6.symm,h1,e8.symm⟩,rfl,rfl,rfl,rfl,rfl⟩
 ·simp only [];rw [← e1,← e2,← e3,← e6,h1,← e8]
 ·simp only [];rw [← e1];exact s1
 ·simp only [];rw [← e2];exact s2
 ·simp only [];rw [← e3];exact s3
 ·simp only [];rw [← e6];exact s6
 ·simp only [];rw [h1];exact h2
 ·simp only [];rw [← e8];exact s8
end
theorem cells11 {w : World} {base b : Nat} {e : TypeId} {u0 u1 u2 u3 u4 u5 u6 u7 u8 u9 u10 : Value} (h : w.ownsRow base e 11 (.slice (some ⟨b,0,none⟩) 1 1) 1 [u0,u1,u2,u3,u4,u5,u6,u7,u8,u9,u10]) :
  (w.cell? ⟨b,0,none⟩ = some u0 ∧ w.cell? ⟨b,1,none⟩ = some u1 ∧ w.cell? ⟨b,2,none⟩ = some u2 ∧ w.cell? ⟨b,3,none⟩ = some u3 ∧ w.cell? ⟨b,4,none⟩ = some u4 ∧ w.cell? ⟨b,5,none⟩ = some u5 ∧ w.cell? ⟨b,6,none⟩ = some u6 ∧ w.cell? ⟨b,7,none⟩ = some u7 ∧ w.cell? ⟨b,8,none⟩ = some u8 ∧ w.cell? ⟨b,9,none⟩ = some u9 ∧ w.cell? ⟨b,10,none⟩ = some u10) ∧
  (w.frozen? ⟨b,0,none⟩ = false ∧ w.frozen? ⟨b,1,none⟩ = false ∧ w.frozen? ⟨b,2,none⟩ = false ∧ w.frozen? ⟨b,3,none⟩ = false ∧ w.frozen? ⟨b,4,none⟩ = false ∧ w.frozen? ⟨b,5,none⟩ = false ∧ w.frozen? ⟨b,6,none⟩ = false ∧ w.frozen? ⟨b,7,none⟩ = false ∧ w.frozen? ⟨b,8,none⟩ = false ∧ w.frozen? ⟨b,9,none⟩ = false ∧ w.frozen? ⟨b,10,none⟩ = false) ∧ b < w.heap.size :=
 ⟨⟨gcell h 0 _ rfl,gcell h 1 _ rfl,gcell h 2 _ rfl,gcell h 3 _ rfl,gcell h 4 _ rfl,gcell h 5 _ rfl,gcell h 6 _ rfl,gcell h 7 _ rfl,gcell h 8 _ rfl,gcell h 9 _ rfl,gcell h 10 _ rfl⟩,⟨h.frozenAt 0,h.frozenAt 1,h.frozenAt 2,h.frozenAt 3,h.frozenAt 4,h.frozenAt 5,h.frozenAt 6,h.frozenAt 7,h.frozenAt 8,h.frozenAt 9,h.frozenAt 10⟩,(h.lt b rfl).2⟩
theorem puts11 {w : World} {lo g : Nat} {e : TypeId} {L us : List Value} (h : w.ownsRow lo e 11 (.slice (some ⟨g,0,none⟩) 1 1) 1 L) (hu : us.length = 11) : (setCells w g 0 us).ownsRow lo e 11 (.slice (some ⟨g,0,none⟩) 1 1) 1 us := by
 have h1 := owns_puts us w L 0 h
 have hl : L.length = 11 := by have := h.1;simpa using this
 have h2 := take_setAll us L 0 (by omega)
 rw [Nat.zero_add,hu,List.take_zero,List.nil_append,List.take_of_length_le (by rw [length_setAll,hl];omega)] at h2
 rw [h2] at h1
 exact h1
theorem kept_puts (g : Nat) (us : List Value) : ∀ (w : World) (p : Nat),Kept w (setCells w g p us) (some g) := by
 induction us with
 | nil => intro w p;exact Kept.ofExt (Ext.refl w) _
 | cons u us ih => intro w p;exact (kept_set w g p u).trans (ih _ _) (fun q hq => .inl hq)
theorem StD.good.puts {lo g : Nat} {d : StD} (hg : g < lo) (us : List Value) : ∀ (w : World) (p : Nat),d.good w lo → d.good (setCells w g p us) lo := by
 induction us with
 | nil => intro w p h;exact h
 | cons u us ih => intro w p h;exact ih _ _ (h.low hg)
theorem cells13 {w : World} {base b : Nat} {e : TypeId} {u0 u1 u2 u3 u4 u5 u6 u7 u8 u9 u10 u11 u12 : Value} (h : w.ownsRow base e 13 (.slice (some ⟨b,0,none⟩) 1 1) 1 [u0,u1,u2,u3,u4,u5,u6,u7,u8,u9,u10,u11,u12]) :
  (w.cell? ⟨b,0,none⟩ = some u0 ∧ w.cell? ⟨b,1,none⟩ = some u1 ∧ w.cell? ⟨b,2,none⟩ = some u2 ∧ w.cell? ⟨b,3,none⟩ = some u3 ∧ w.cell? ⟨b,4,none⟩ = some u4 ∧ w.cell? ⟨b,5,none⟩ = some u5 ∧ w.cell? ⟨b,6,none⟩ = some u6 ∧ w.cell? ⟨b,7,none⟩ = some u7 ∧ w.cell? ⟨b,8,none⟩ = some u8 ∧ w.cell? ⟨b,9,none⟩ = some u9 ∧ w.cell? ⟨b,10,none⟩ = some u10 ∧ w.cell? ⟨b,11,none⟩ = some u11 ∧ w.cell? ⟨b,12,none⟩ = some u12) ∧
  w.frozen? ⟨b,12,none⟩ = false ∧ b < w.heap.size :=
 ⟨⟨gcell h 0 _ rfl,gcell h 1 _ rfl,gcell h 2 _ rfl,gcell h 3 _ rfl,gcell h 4 _ rfl,gcell h 5 _ rfl,gcell h 6 _ rfl,gcell h 7 _ rfl,gcell h 8 _ rfl,gcell h 9 _ rfl,gcell h 10 _ rfl,gcell h 11 _ rfl,gcell h 12 _ rfl⟩,h.frozenAt 12,(h.lt b rfl).2⟩
theorem wpList_append_k {P : Program} {w : World} {ops : Array Oper} {rest : List Oper} {o : Oper} {a : Act} {Q : Exit → Act → World → Prop} {α : Type} {enc : α → List Value} {ok : α → Prop} (s x : Operand) (t : TypeId)
  (base : Nat) (e : TypeId) (i : TypeInfo) (z : Value) (size bytes : Nat) (v : Value) (n : Nat) (L : List Value) (A : Option Addr) (m c : Nat) (ys : List α) (N : Nat) (LN : List Value) (hN : n + m = N) (hLN : L ++ ys.flatMap enc = LN) (hgd : o.guard = none)
  (ho : o.op = .call { callee := .builtin .append,args := #[s,x],argTypes := #[t,t] })
  (ht : P.underlying t = some (.slice e)) (hi : P.info? e = some i) (hz : i.zero = some z)
  (hsize : i.size = size) (hby : i.bytes = bytes) (hzs : z.cells.size = size) (hsz : 0 < size)
  (hs : a.eval s = v) (hown : w.ownsRow base e size v n L)
  (hx : a.eval x = .slice A m c) (hys : SlAt (Flat enc ok) size w A m ys) (hl : ∀ y,(enc y).length = size) (h1 : ∀ y,∀ u ∈ enc y,u.oneCell' = true)
  (h63 : n + m ≤ maxLen) (hbytes : (n + m) * bytes ≤ 140737488355328)
  (hbw : base ≤ w.heap.size)
  (h : ∀ A' c' w',AppR w w' base e size v A' N c' LN → wpList P ops Q rest (a.put o.dst (.slice A' N c')) w') : wpList P ops Q (o :: rest) a w := by
 subst hN;subst hLN
 exact wpList_append_r s x t base e i z size bytes v n L A m c ys hgd ho ht hi hz hsize hby hzs hsz hs hown hx hys hl h1 h63 hbytes hbw h
theorem AppR.fresh_ext {w u w' : World} {base : Nat} {e : TypeId} {size : Nat} {v : Value} {A' : Option Addr} {n' c' : Nat} {L' : List Value} (h : AppR w w' base e size v A' n' c' L') (hb : Ext u w) (hv : ∀ q,v.ownBlock = some q → u.heap.size ≤ q) : Ext u w' := h.kp.ext hb hv
def RetStI (w : World) : Ending → World → Prop := fun e w' => ∃ (d : StD) (k : Int),e = .returned (.tuple #[.agg #[.slice d.A1 d.n1 d.c1,.slice d.A2 d.n2 d.c2,.slice d.A3 d.n3 d.c3,.int .i64 d.lic.A,.int .i64 d.lic.B,.int .i64 d.lic.C,.int .i64 d.dep,.int .i64 d.now,.slice d.A6 d.n6 d.c6,.slice d.A7 d.n7 d.c7,.slice d.A8 d.n8 d.c8],.int .i64 k]) ∧ d.good w' w.heap.size ∧ d.sm ∧ Ext w w'
def RetStB (w : World) : Ending → World → Prop := fun e w' => ∃ (d : StD) (k : Bool),e = .returned (.tuple #[.agg #[.slice d.A1 d.n1 d.c1,.slice d.A2 d.n2 d.c2,.slice d.A3 d.n3 d.c3,.int .i64 d.lic.A,.int .i64 d.lic.B,.int .i64 d.lic.C,.int .i64 d.dep,.int .i64 d.now,.slice d.A6 d.n6 d.c6,.slice d.A7 d.n7 d.c7,.slice d.A8 d.n8 d.c8],.bool k]) ∧ d.good w' w.heap.size ∧ d.sm ∧ Ext w w'
def RetCopy (w : World) (s : State) : Ending → World → Prop := fun e w' => ∃ d : StD,e = .returned (.agg #[.slice d.A1 d.n1 d.c1,.slice d.A2 d.n2 d.c2,.slice d.A3 d.n3 d.c3,.int .i64 d.lic.A,.int .i64 d.lic.B,.int .i64 d.lic.C,.int .i64 d.dep,.int .i64 d.now,.slice d.A6 d.n6 d.c6,.slice d.A7 d.n7 d.c7,.slice d.A8 d.n8 d.c8]) ∧ d.good w' w.heap.size ∧ (d.n1 = s.Topo.Parents.length ∧ d.n2 = s.Topo.Nodes.length ∧ d.n3 = s.Up.length ∧ d.n6 = s.Queue.length ∧ d.n7 = s.Runs.length ∧ d.n8 = s.Ends.length) ∧ Ext w w'
abbrev C11 (x : World) (b : Nat) (d : StD) : Prop := x.cell? ⟨b, 0, none⟩ = some (.slice d.A1 d.n1 d.c1) ∧ x.cell? ⟨b, 1, none⟩ = some (.slice d.A2 d.n2 d.c2) ∧ x.cell? ⟨b, 2, none⟩ = some (.slice d.A3 d.n3 d.c3) ∧ x.cell? ⟨b, 3, none⟩ = some (.int .i64 d.lic.A) ∧ x.cell? ⟨b, 4, none⟩ = some (.int .i64 d.lic.B) ∧ x.cell? ⟨b, 5, none⟩ = some (.int .i64 d.lic.C) ∧ x.cell? ⟨b, 6, none⟩ = some (.int .i64 d.dep) ∧ x.cell? ⟨b, 7, none⟩ = some (.int .i64 d.now) ∧ x.cell? ⟨b, 8, none⟩ = some (.slice d.A6 d.n6 d.c6) ∧ x.cell? ⟨b, 9, none⟩ = some (.slice d.A7 d.n7 d.c7) ∧ x.cell? ⟨b, 10, none⟩ = some (.slice d.A8 d.n8 d.c8)
theorem sProfNew_c (v : Vec) (w : World) : Calls Tryz.prog 89 #[.agg #[.int .i64 v.A,.int .i64 v.B,.int .i64 v.C]] w (RetP w (if vecB v = true then some [⟨0,v⟩] else none)) := by
 have HVO := Hh (fun u : World => sVecOk_c v u)
 have HOK := Hh (fun (h : vecB v = true) => show Pt.ok ⟨0,v⟩ from pt_ok (t := 0) rfl h)
 rcases (Bool.eq_false_or_eq_true (vecB v)).symm with h1 | h1
 all_goals rw [h1] at HVO ⊢
 ·clear h1 HOK
  go_enter Tryz.func89,Tryz.ntmps89
  go_wp2_with fail
  refine (HVO.out _).mono ?_
  rintro e w1 ⟨rfl,hb1⟩
  obtain ⟨hcr1,hfr1,hz1⟩ := hb1.rules
  (try simp at hz1)
  have hy1_w0 : w.heap.size < w1.heap.size := (by omega)
  have hy1_w1 : w.heap.size + 1 < w1.heap.size := (by omega)
  have q0 := bc1 (w.alloc (.cells #[.int .i64 v.A,.int .i64 v.B,.int .i64 v.C] 29)) (w.heap.size + 1) (.slice none 0 0) 71 ((hb1)) (by simp)
  have qf0 := bf1 (w.alloc (.cells #[.int .i64 v.A,.int .i64 v.B,.int .i64 v.C] 29)) (w.heap.size + 1) (.slice none 0 0) 71 ((hb1)) (by simp)
  go_wp2
  exact bodyPost_ret (v := .tuple #[.agg #[.slice none 0 0],.bool false]) (by simp [results,Tryz.results89,go_sem, *]) rfl (retP_none rfl Ext.go)
 ·have HK := Hh (HOK.out h1)
  clear h1 HOK
  go_enter Tryz.func89,Tryz.ntmps89
  go_wp2_with fail
  refine (HVO.out _).mono ?_
  rintro e w1 ⟨rfl,hb1⟩
  obtain ⟨hcr1,hfr1,hz1⟩ := hb1.rules
  (try simp at hz1)
  have hy1_w0 : w.heap.size < w1.heap.size := (by omega)
  have hy1_w1 : w.heap.size + 1 < w1.heap.size := (by omega)
  have q0 := bc1 (w.alloc (.cells #[.int .i64 v.A,.int .i64 v.B,.int .i64 v.C] 29)) (w.heap.size + 1) (.slice none 0 0) 71 ((hb1)) (by simp)
  have qf0 := bf1 (w.alloc (.cells #[.int .i64 v.A,.int .i64 v.B,.int .i64 v.C] 29)) (w.heap.size + 1) (.slice none 0 0) 71 ((hb1)) (by simp)
  go_wp2
  exact bodyPost_ret (v := .tuple #[.agg #[.slice (some ⟨w1.heap.size,0,none⟩) 1 1],.bool true]) (by simp [results,Tryz.results89,go_sem, *]) rfl ⟨_,_,[⟨0,v⟩],rfl,.inl rfl,box_after w1 _ _ (Pt.enc ⟨0,v⟩) 133 4 rfl (by omega),fun y hy => by rw [List.mem_singleton.1 hy];exact HK.out,Ext.go⟩
theorem l04Prof_c (xs : List Pt) (A : Option Addr) (n c : Nat) (w : World) (h : SlAt RPt 4 w A n xs) (hl : n ≤ 1048576) : Calls Tryz.prog 107 #[.agg #[.slice A n c]] w (RetProf w xs) := by
 obtain ⟨i0,hi,hI0,hI1,hI2⟩ := info_parts CPt.info
 obtain rfl := h.len
 have HS := Hh (fun (u : World) (e : Ext w u) => h.ext (Flat.mono Pt.enc Pt.ok) e)
 clear h
 have HE0 := Hh (show (((w.alloc (.cells #[.slice A xs.length c] 71)).alloc (.cells #[.slice none 0 0] 71)).alloc (.cells #[] 133)).ownsRow (w.heap.size + 1 + 1) 133 4 (.slice (some ⟨w.heap.size + 1 + 1,0,none⟩) 0 0) 0 [] from by
  have h := owns_empty ((w.alloc (.cells #[.slice A xs.length c] 71)).alloc (.cells #[.slice none 0 0] 71)) 133 4
  rw [show ((w.alloc (.cells #[.slice A xs.length c] 71)).alloc (.cells #[.slice none 0 0] 71)).heap.size = w.heap.size + 1 + 1 by simp] at h
  exact h)
 go_enter Tryz.func107,Tryz.ntmps107
 go_wp2_with (at_builtin;go_must (refine wpList_append_r (enc := Pt.enc) (ok := Pt.ok) (.tmp 3) (.tmp 5) _ (w.heap.size + 1 + 1) 133 i0 _ 4 32 (.slice (some ⟨w.heap.size + 1 + 1,0,none⟩) 0 0) 0 [] A xs.length c xs rfl rfl Tryz.underlying69 hi hI0 hI1 hI2 rfl (by omega) rfl HE0.out rfl (HS.out _ ((((Ext.refl w).alloc _).alloc _).alloc _)) Pt.size pt_one (by unfold maxLen;omega) (by omega) (by simp) ?_);intro A1 c1 w1 hr1;have HO := Hh hr1.row;have hb1 : Ext ((w.alloc (.cells #[.slice A xs.length c] 71)).alloc (.cells #[.slice none 0 0] 71)) w1 := ext_turned ((Ext.refl _).alloc _) (hr1.turned (lo := w.heap.size + 1 + 1) (fun q hq => by have h2 : w.heap.size + 1 + 1 = q := Option.some.inj hq;omega)) (by simp);have q0 := hb1.cell (cell_box_at (w.alloc (.cells #[.slice A xs.length c] 71)) (w.heap.size + 1) (by simp) [.slice none 0 0] 71 0 _ rfl);have qf0 := (hb1.frozenEq (a := ⟨w.heap.size + 1,0,none⟩) (by simp)).trans (frozen_box_at (w.alloc (.cells #[.slice A xs.length c] 71)) (w.heap.size + 1) (by simp) #[.slice none 0 0] 71 0);have hq := lt_of_cell q0;clear hr1)
 simp only [Nat.zero_add,List.nil_append] at HO ⊢
 have hx1 : Ext w w1 := (((Ext.refl w).alloc _).alloc _).trans hb1
 clear hb1
 go_wp2
 exact bodyPost_ret (v := .agg #[.slice A1 xs.length c1]) (by simp [results,Tryz.results107,go_sem, *]) rfl ⟨A1,c1,rfl,owns_base (own_set HO.out (by omega)) (by omega),hx1.setCell (by simp) _⟩
theorem sRoomOk_c (ps : List Int) (ns : List Node) (up : List Bool) (r : List (List Pt) × List Pt) (v : Value) (w : World) (h : RoomAt w ps ns up r v) (ht : topoB ps ns = true) (hu : up.length = ns.length) (hr : roomOkM ns.length r) : Calls Tryz.prog 91 #[v] w (Ret w (.bool true)) := by
 obtain ⟨A1,c1,A2,c2,A3,c3,A4,c4,A5,c5,rfl,h1,h2,h3,h4,h5⟩ := h
 obtain ⟨hr1,hr2,hr3⟩ := hr
 obtain ⟨⟨_,hp1⟩,hn1,_⟩ := topo_parts ht
 have hl5 := (profB_parts hr3).2.1
 have HT := Hh (fun (u : World) (e : Ext w u) => sTopoOk_c ps ns A1 ps.length c1 A2 ns.length c2 u (h1.ext (Flat.mono _ _) e) (by unfold maxLen;omega) (h2.ext (Flat.mono _ _) e) (by unfold maxLen;omega))
 rw [ht] at HT
 have HL := Hh (fun (u : World) (e : Ext w u) => sProfOk_c r.2 A5 r.2.length c5 u (h5.ext (Flat.mono _ _) e) (by unfold maxLen;omega))
 rw [hr3] at HL
 have HP := Hh (fun (p : List Pt) (hp : p ∈ r.1) (A : Option Addr) (c : Nat) (u : World) (hs : SlAt RPt 4 u A p.length p) => show Calls Tryz.prog 108 #[.agg #[.slice A p.length c]] u (Ret u (.bool true)) from by
  have := sProfOk_c p A p.length c u hs (by have := (profB_parts (hr2 p hp)).2.1;unfold maxLen;omega)
  rw [hr2 p hp] at this;exact this)
 have H4 := Hh (fun (u : World) (e : Ext w u) => h4.ext RPf.mono e)
 clear h1 h2 h3 h4 h5 ht hr2 hr3
 rw [hr1] at H4
 rw [hu,hr1]
 clear hu hr1
 generalize ns.length = m at *
 generalize ps.length = n at *
 generalize r.2.length = q at *
 go_enter Tryz.func91,Tryz.ntmps91
 go_wp2_with fail
 refine (HT.out _ Ext.go).mono ?_
 rintro e w1 ⟨rfl,hb1⟩
 obtain ⟨hcr1,hfr1,hz1⟩ := hb1.rules
 (try simp at hz1)
 have hy1_w0 : w.heap.size < w1.heap.size := (by omega)
 go_wp2_with fail
 refine (HL.out _ (((Ext.refl w).alloc _).trans hb1)).mono ?_
 rintro e w2 ⟨rfl,hb2⟩
 obtain ⟨hcr2,hfr2,hz2⟩ := hb2.rules
 (try simp at hz2)
 have hy2_w0 : w.heap.size < w2.heap.size := (by omega)
 obtain ⟨b0,b1,b2,b3,b4⟩ := bc5 w (w.heap.size) (.slice A1 n c1) (.slice A2 m c2) (.slice A3 m c3) (.slice A4 m c4) (.slice A5 q c5) 73 ((hb1.trans hb2)) (by simp)
 obtain ⟨bf0,bf1,bf2,bf3,bf4⟩ := bf5 w (w.heap.size) (.slice A1 n c1) (.slice A2 m c2) (.slice A3 m c3) (.slice A4 m c4) (.slice A5 q c5) 73 ((hb1.trans hb2)) (by simp)
 go_wp2
 go_loopw [38] (fun i wr => ∃ k : Nat,k ≤ m ∧ i = .int .i64 k ∧ Ext (w.alloc (.cells #[.slice A1 n c1,.slice A2 m c2,.slice A3 m c3,.slice A4 m c4,.slice A5 q c5] 73)) wr) (fun i _ => m - (intOf i).toNat)
 case atStart => exact ⟨0,Nat.zero_le _,rfl,hb1.trans hb2⟩
 case round =>
  obtain ⟨k,hk,rfl,hb⟩ := hrel
  clear b0 b1 b2 b3 b4 bf0 bf1 bf2 bf3 bf4 hcr1 hfr1 hcr2 hfr2
  by_cases hlt : k < m
  ·obtain ⟨b,o,x,cs,rfl,hbw,hx,_,hc,A',c',rfl,hs⟩ := (H4.out wr (((Ext.refl w).alloc _).trans hb)).at_ hlt
   have g0 := hc 0 _ rfl
   simp only [Nat.mul_one,Nat.add_zero] at g0
   have HX := Hh (List.mem_of_getElem? hx)
   have HS := Hh (fun (u : World) (e : Ext wr u) => HP.out x HX.out A' c' u (hs.ext (Flat.mono _ _) e))
   clear hx hc hs
   generalize x.length = xl at *
   go_wp2_with fail
   refine (HS.out _ ((Ext.refl _).alloc _)).mono ?_
   rintro e w4 ⟨rfl,hb4⟩
   go_wp2
   go_roundw
   case rel => exact ⟨k + 1,by omega,by go_num,hb.trans (((Ext.refl _).alloc _).trans hb4)⟩
   case measure => simp [intOf];omega
  ·obtain rfl : k = m := by omega
   go_wp2
   exact ret_bool rfl rfl rfl rfl (((Ext.refl w).alloc _).trans hb)
end Go.Proofs.YtfanjhcdjbnnnaaGreat
