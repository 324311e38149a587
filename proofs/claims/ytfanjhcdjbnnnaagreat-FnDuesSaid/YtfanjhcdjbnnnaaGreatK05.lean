/- ProfT, Shelf, CompL, SortR. -/
import Derived.Test.YtfanjhcdjbnnnaaGreatK04
import Derived.Shelf.Sort.Plain
import Derived.Shelf.Slices.Turned
import Derived.Ground.Names2Prog
import Derived.Shelf.Slices.CompactI
import Derived.Test.YtfanjhcdjbnnnaaGreatProg
import Derived.Test.YtfanjhcdjbnnnaaGreatK01
import Derived.Lib.SlicesCompact
import Derived.Sort.OwnSortedInts
import Derived.Lib.RowBridge
namespace Go.Proofs.YtfanjhcdjbnnnaaGreat
open Go.RowKit
set_option linter.unusedVariables false
set_option maxHeartbeats 4000000
theorem vecB_iffT {v : Vec} : vecB v = true ↔ (0 ≤ v.A ∧ v.A ≤ 1000000) ∧ (0 ≤ v.B ∧ v.B ≤ 1000000) ∧ (0 ≤ v.C ∧ v.C ≤ 1000000) := by unfold vecB;rw [decide_eq_true_iff]
theorem sub_valid {a b : Vec} (ha : vecB a = true) (hb : vecB b = true) : (vecB a && vecB b && vecB ⟨a.A - b.A,a.B - b.B,a.C - b.C⟩) = fitsB b a ∧ validV a b ⟨a.A - b.A,a.B - b.B,a.C - b.C⟩ = subV a b := by
 have h1 := vecB_iffT.1 ha
 have h2 := vecB_iffT.1 hb
 have e : vecB ⟨a.A - b.A,a.B - b.B,a.C - b.C⟩ = decide (b.A ≤ a.A ∧ b.B ≤ a.B ∧ b.C ≤ a.C) := by
  unfold vecB
  rw [decide_eq_decide]
  simp only []
  omega
 have e2 : (vecB a && vecB b && vecB ⟨a.A - b.A,a.B - b.B,a.C - b.C⟩) = fitsB b a := by
  rw [e];unfold fitsB;rw [ha,hb]
 refine ⟨e2, ?_⟩
 unfold validV subV
 rw [e2]
theorem sub_bad {a b c : Vec} (h : (vecB a && vecB b) = false) : (vecB a && vecB b && vecB c) = false ∧ validV a b c = ⟨0,0,0⟩ ∧ fitsB b a = false ∧ subV a b = ⟨0,0,0⟩ := by
 have e : fitsB b a = false := by unfold fitsB;rw [Bool.and_comm (vecB b),h];rfl
 refine ⟨by rw [h];rfl, ?_,e, ?_⟩
 ·unfold validV;rw [h];rfl
 ·unfold subV;rw [e];rfl
theorem VecSub_c (a b : Vec) (w : World) : Calls Tryz.prog 84 #[.agg #[.int .i64 a.A,.int .i64 a.B,.int .i64 a.C],.agg #[.int .i64 b.A,.int .i64 b.B,.int .i64 b.C]] w (Ret w (.tuple #[.agg #[.int .i64 (subV a b).A,.int .i64 (subV a b).B,.int .i64 (subV a b).C],.bool (fitsB b a)])) := by
 have hV := Hh (fun (c : Vec) (u : World) => valid_c a b c u)
 rcases Bool.eq_false_or_eq_true (vecB a && vecB b) with h1 | h1
 ·rw [Bool.and_eq_true] at h1
  obtain ⟨e1,e2⟩ := sub_valid h1.1 h1.2
  have h2 := vecB_iffT.1 h1.1
  have h3 := vecB_iffT.1 h1.2
  have hC := Hh (fun u => hV.out ⟨a.A - b.A,a.B - b.B,a.C - b.C⟩ u)
  rw [e1,e2] at hC
  have q1 : IntKind.i64.wrap (a.A - b.A) = a.A - b.A := IntWalk.i64_in _ ⟨by omega,by omega⟩
  have q2 : IntKind.i64.wrap (a.B - b.B) = a.B - b.B := IntWalk.i64_in _ ⟨by omega,by omega⟩
  have q3 : IntKind.i64.wrap (a.C - b.C) = a.C - b.C := IntWalk.i64_in _ ⟨by omega,by omega⟩
  clear h1 e1 e2 hV
  generalize subV a b = r at *
  generalize fitsB b a = f at *
  go_enter Tryz.func84,Tryz.ntmps84
  go_wp2_with fail
  refine (hC.out _).mono ?_
  rintro e w1 ⟨rfl,hb1⟩
  obtain ⟨hcr1,hfr1,hz1⟩ := hb1.rules
  (try simp at hz1)
  have hy1_w0 : w.heap.size < w1.heap.size := (by omega)
  have hy1_w1 : w.heap.size + 1 < w1.heap.size := (by omega)
  have hy1_w2 : w.heap.size + 1 + 1 < w1.heap.size := (by omega)
  obtain ⟨q0,q1,q2⟩ := bc3 ((w.alloc (.cells #[.int .i64 a.A,.int .i64 a.B,.int .i64 a.C] 29)).alloc (.cells #[.int .i64 b.A,.int .i64 b.B,.int .i64 b.C] 29)) (w.heap.size + 1 + 1) (.int .i64 0) (.int .i64 0) (.int .i64 0) 29 ((hb1)) (by simp)
  obtain ⟨qf0,qf1,qf2⟩ := bf3 ((w.alloc (.cells #[.int .i64 a.A,.int .i64 a.B,.int .i64 a.C] 29)).alloc (.cells #[.int .i64 b.A,.int .i64 b.B,.int .i64 b.C] 29)) (w.heap.size + 1 + 1) (.int .i64 0) (.int .i64 0) (.int .i64 0) 29 ((hb1)) (by simp)
  go_wp2
  exact ret_is (by simp [results,Tryz.results84,go_sem, *]) rfl Ext.go
 ·have hB := Hh (fun (c : Vec) => sub_bad (c := c) h1)
  obtain ⟨_,_,e3,e4⟩ := hB.out ⟨0,0,0⟩
  have hC := Hh (fun (c : Vec) (u : World) => show Calls Tryz.prog 105 #[.agg #[.int .i64 a.A,.int .i64 a.B,.int .i64 a.C],.agg #[.int .i64 b.A,.int .i64 b.B,.int .i64 b.C],.agg #[.int .i64 c.A,.int .i64 c.B,.int .i64 c.C]] u (Ret u (.tuple #[.agg #[.int .i64 0,.int .i64 0,.int .i64 0],.bool false])) by
   have := hV.out c u
   rw [(hB.out c).1,(hB.out c).2.1] at this
   exact this)
  rw [e3,e4]
  clear h1 hB e3 e4 hV
  go_enter Tryz.func84,Tryz.ntmps84
  go_wp2_with fail
  refine (hC.out ⟨_,_,_⟩ _).mono ?_
  rintro e w1 ⟨rfl,hb1⟩
  obtain ⟨hcr1,hfr1,hz1⟩ := hb1.rules
  (try simp at hz1)
  have hy1 : w.heap.size < w1.heap.size := by omega
  have hy2 : w.heap.size + 1 < w1.heap.size := by omega
  have hy3 : w.heap.size + 1 + 1 < w1.heap.size := by omega
  obtain ⟨q0,q1,q2⟩ := bc3 ((w.alloc (.cells #[.int .i64 a.A,.int .i64 a.B,.int .i64 a.C] 29)).alloc (.cells #[.int .i64 b.A,.int .i64 b.B,.int .i64 b.C] 29)) (w.heap.size + 1 + 1) (.int .i64 0) (.int .i64 0) (.int .i64 0) 29 ((hb1)) (by simp)
  obtain ⟨qf0,qf1,qf2⟩ := bf3 ((w.alloc (.cells #[.int .i64 a.A,.int .i64 a.B,.int .i64 a.C] 29)).alloc (.cells #[.int .i64 b.A,.int .i64 b.B,.int .i64 b.C] 29)) (w.heap.size + 1 + 1) (.int .i64 0) (.int .i64 0) (.int .i64 0) 29 ((hb1)) (by simp)
  go_wp2
  exact ret_is (by simp [results,Tryz.results84,go_sem, *]) rfl Ext.go
theorem Take1_run (vs : Array Value) (u : World) : Sem.run Tryz.prog (callFunc 83 vs) u = .ok (.enter 83 vs) u := by
 simp [go_sem]
theorem Take1_c (x v : Vec) (b : Nat) (w : World) (hb : b < w.heap.size) (h0 : w.cell? ⟨b,0,none⟩ = some (.int .i64 v.A)) (h1 : w.cell? ⟨b,1,none⟩ = some (.int .i64 v.B)) (h2 : w.cell? ⟨b,2,none⟩ = some (.int .i64 v.C)) : Calls Tryz.prog 83 #[.agg #[.int .i64 x.A,.int .i64 x.B,.int .i64 x.C],.pointer (some ⟨b,0,none⟩)] w (Ret w (.tuple #[.agg #[.int .i64 (subV x v).A,.int .i64 (subV x v).B,.int .i64 (subV x v).C],.bool (fitsB v x)])) := by
 have hC := Hh (fun u => VecSub_c x v u)
 generalize subV x v = r at *
 generalize fitsB v x = f at *
 go_enter Tryz.func83,Tryz.ntmps83
 go_wp2_with fail
 refine (hC.out _).mono ?_
 rintro e w1 ⟨rfl,hb1⟩
 obtain ⟨hcr1,hfr1,hz1⟩ := hb1.rules
 (try simp at hz1)
 have hy1_w0 : w.heap.size < w1.heap.size := (by omega)
 have hy1_w1 : w.heap.size + 1 < w1.heap.size := (by omega)
 obtain ⟨q0,q1,q2⟩ := bc3 (w.alloc (.cells #[.int .i64 x.A,.int .i64 x.B,.int .i64 x.C] 29)) (w.heap.size + 1) (.int .i64 0) (.int .i64 0) (.int .i64 0) 29 ((hb1)) (by simp)
 obtain ⟨qf0,qf1,qf2⟩ := bf3 (w.alloc (.cells #[.int .i64 x.A,.int .i64 x.B,.int .i64 x.C] 29)) (w.heap.size + 1) (.int .i64 0) (.int .i64 0) (.int .i64 0) 29 ((hb1)) (by simp)
 go_wp2
 exact ret_is (by simp [results,Tryz.results83,go_sem, *]) rfl Ext.go
end Go.Proofs.YtfanjhcdjbnnnaaGreat
namespace Go.Proofs
set_option maxHeartbeats 4000000
open Go.Shelf
def Tryz.lays189_ren : Go.Shelf.Ren := ⟨fun | 189 => 102 | 125 => 114 | 257 => 113 | 128 => 132 | 129 => 133 | 294 => 123 | 295 => 124 | 296 => 125 | 297 => 126 | 298 => 127 | 299 => 128 | 216 => 129 | 300 => 130 | 301 => 131 | 328 => 140 | 329 => 141 | 330 => 142 | 331 => 143 | 332 => 144 | 215 => 145 | 343 => 149 | n => n,fun | 28 => 23 | 3 => 3 | 46 => 110 | 0 => 0 | 51 => 165 | 53 => 167 | 4 => 4 | 183 => 158 | 182 => 157 | 131 => 162 | 5 => 5 | 9 => 9 | 218 => 174 | 222 => 178 | 228 => 183 | 229 => 184 | n => n,fun | n => n⟩
theorem Tryz.lays189 : Go.Proofs.Lays.n189 Tryz.prog Tryz.lays189_ren := {
 mixed := by kernel_rfl
 f125 := Tryz.func114.trans (congrArg some (by kernel_rfl))
 f128 := Tryz.func132.trans (congrArg some (by kernel_rfl))
 f129 := Tryz.func133.trans (congrArg some (by kernel_rfl))
 f189 := Tryz.func102.trans (congrArg some (by kernel_rfl))
 f215 := Tryz.func145.trans (congrArg some (by kernel_rfl))
 f216 := Tryz.func129.trans (congrArg some (by kernel_rfl))
 f257 := Tryz.func113.trans (congrArg some (by kernel_rfl))
 f294 := Tryz.func123.trans (congrArg some (by kernel_rfl))
 f295 := Tryz.func124.trans (congrArg some (by kernel_rfl))
 f296 := Tryz.func125.trans (congrArg some (by kernel_rfl))
 f297 := Tryz.func126.trans (congrArg some (by kernel_rfl))
 f298 := Tryz.func127.trans (congrArg some (by kernel_rfl))
 f299 := Tryz.func128.trans (congrArg some (by kernel_rfl))
 f300 := Tryz.func130.trans (congrArg some (by kernel_rfl))
 f301 := Tryz.func131.trans (congrArg some (by kernel_rfl))
 f328 := Tryz.func140.trans (congrArg some (by kernel_rfl))
 f329 := Tryz.func141.trans (congrArg some (by kernel_rfl))
 f330 := Tryz.func142.trans (congrArg some (by kernel_rfl))
 f331 := Tryz.func143.trans (congrArg some (by kernel_rfl))
 f332 := Tryz.func144.trans (congrArg some (by kernel_rfl))
 f343 := Tryz.func149.trans (congrArg some (by kernel_rfl))
 t0 := Tryz.underlying0
 a0 := Tryz.isAgg0
 z0 := Tryz.sizeOf0
 v0 := Tryz.zeroValue0
 t3 := Tryz.underlying3
 a3 := Tryz.isAgg3
 z3 := Tryz.sizeOf3
 v3 := Tryz.zeroValue3
 t4 := Tryz.underlying4
 a4 := Tryz.isAgg4
 z4 := Tryz.sizeOf4
 v4 := Tryz.zeroValue4
 t5 := Tryz.underlying5
 a5 := Tryz.isAgg5
 z5 := Tryz.sizeOf5
 v5 := Tryz.zeroValue5
 t9 := Tryz.underlying9
 a9 := Tryz.isAgg9
 z9 := Tryz.sizeOf9
 v9 := Tryz.zeroValue9
 t28 := Tryz.underlying23
 a28 := Tryz.isAgg23
 z28 := Tryz.sizeOf23
 v28 := Tryz.zeroValue23
 t46 := Tryz.underlying110
 a46 := Tryz.isAgg110
 z46 := Tryz.sizeOf110
 v46 := Tryz.zeroValue110
 t51 := Tryz.underlying165
 a51 := Tryz.isAgg165
 z51 := Tryz.sizeOf165
 v51 := Tryz.zeroValue165
 t53 := Tryz.underlying167
 a53 := Tryz.isAgg167
 z53 := Tryz.sizeOf167
 v53 := Tryz.zeroValue167
 t131 := Tryz.underlying162
 a131 := Tryz.isAgg162
 z131 := Tryz.sizeOf162
 v131 := Tryz.zeroValue162
 t182 := Tryz.underlying157
 a182 := Tryz.isAgg157
 z182 := Tryz.sizeOf157
 v182 := Tryz.zeroValue157
 t183 := Tryz.underlying158
 a183 := Tryz.isAgg158
 z183 := Tryz.sizeOf158
 v183 := Tryz.zeroValue158
 t218 := Tryz.underlying174
 a218 := Tryz.isAgg174
 z218 := Tryz.sizeOf174
 v218 := Tryz.zeroValue174
 t222 := Tryz.underlying178
 a222 := Tryz.isAgg178
 z222 := Tryz.sizeOf178
 v222 := Tryz.zeroValue178
 t228 := Tryz.underlying183
 a228 := Tryz.isAgg183
 z228 := Tryz.sizeOf183
 v228 := Tryz.zeroValue183
 t229 := Tryz.underlying184
 a229 := Tryz.isAgg184
 z229 := Tryz.sizeOf184
 v229 := Tryz.zeroValue184 }
open Go.Sort Go.RowKit in
theorem Tryz.slices_Sort_int (blk off cap : Nat) (zs : List Int) (w : World) (hH : Holds (Value.int .i64) w blk off zs.toArray) (hblk : blk < w.heap.size) (hsz : zs.length < 4611686018427387904) :
  Calls Tryz.prog 102 #[.slice (some ⟨blk,off,none⟩) zs.length cap] w fun e w' =>
   e = .returned (.tuple #[]) ∧ ∃ n os,w' = grow (putRow (Value.int .i64) (Sort.ahead w n) blk off (zs.mergeSort fun x y => decide (x ≤ y)).toArray) os := Any.slices_Sort_int Tryz.lays189 blk off cap zs w hH hblk hsz
def Tryz.laysNm220_ren : Go.Shelf.Ren := ⟨fun | 20 => 103 | n => n,fun | 22 => 23 | 3 => 3 | 4 => 4 | 0 => 0 | n => n,fun | n => n⟩
theorem Tryz.laysNm220 : Go.Proofs.Lays2.n20 Tryz.prog Tryz.laysNm220_ren := {
 mixed := by kernel_rfl
 f20 := Tryz.func103.trans (congrArg some (by kernel_rfl))
 t0 := Tryz.underlying0
 a0 := Tryz.isAgg0
 z0 := Tryz.sizeOf0
 v0 := Tryz.zeroValue0
 t3 := Tryz.underlying3
 a3 := Tryz.isAgg3
 z3 := Tryz.sizeOf3
 v3 := Tryz.zeroValue3
 t4 := Tryz.underlying4
 a4 := Tryz.isAgg4
 z4 := Tryz.sizeOf4
 v4 := Tryz.zeroValue4
 t22 := Tryz.underlying23
 a22 := Tryz.isAgg23
 z22 := Tryz.sizeOf23
 v22 := Tryz.zeroValue23
 i3 := by kernel_rfl }
open Go.RowKit Go.Lib Go.Sort in
theorem Tryz.slices_Compact_int (blk off cap : Nat) (zs : List Int) (w : World) (hH : Holds (Value.int .i64) w blk off zs.toArray) (hsz : zs.length ≤ 9223372036854775807) (hcap : zs.length ≤ cap) :
  Calls Tryz.prog 103 #[.slice (some ⟨blk,off,none⟩) zs.length cap] w fun e w' => e = .returned (.slice (some ⟨blk,off,none⟩) (Lib.compact zs).length cap) ∧ ∃ q,w' = putRow (Value.int .i64) (Sort.ahead w q) blk off (Lib.compact zs ++ List.replicate (zs.length - (Lib.compact zs).length) 0).toArray := Any.slices_Compact_int Tryz.laysNm220 blk off cap zs w hH hsz hcap
end Go.Proofs
namespace Go.Proofs.YtfanjhcdjbnnnaaGreat
open Go.RowKit
set_option linter.unusedVariables false
set_option maxHeartbeats 4000000
theorem comp_inv (zs : List Int) (hs : zs.Pairwise (· ≤ ·)) : ∀ m,m ≤ zs.length → (Lib.compactUpTo zs.toArray m).Pairwise (· < ·) ∧ ∀ y,y ∈ Lib.compactUpTo zs.toArray m ↔ ∃ j,j < m ∧ zs[j]? = some y := by
 intro m
 induction m with
 | zero => intro _;exact ⟨by simp [Lib.compactUpTo],fun y => by simp [Lib.compactUpTo]⟩
 | succ m ih =>
  intro hm
  obtain ⟨h1,h2⟩ := ih (by omega)
  have hl : m < zs.length := by omega
  have e0 : zs.toArray[m]! = zs[m] := by simp [hl]
  rw [Lib.compactUpTo_succ,e0]
  have hle : ∀ i j (hi : i < zs.length) (hj : j < zs.length),i ≤ j → zs[i] ≤ zs[j] := fun i j hi hj hij => by
   rcases Nat.lt_or_ge i j with h | h
   ·exact List.pairwise_iff_getElem.1 hs i j hi hj h
   ·have : i = j := by omega
    subst this;exact Int.le_refl _
  by_cases hk : Lib.keeps zs.toArray m = true
  ·rw [if_pos hk]
   have hlt : ∀ y ∈ Lib.compactUpTo zs.toArray m,y < zs[m] := fun y hy => by
    obtain ⟨j,hj,hy⟩ := (h2 y).1 hy
    obtain ⟨hj2,rfl⟩ := List.getElem?_eq_some_iff.1 hy
    have hm0 : m ≠ 0 := by omega
    have hne : zs[m] ≠ zs[m - 1] := by
     intro e
     unfold Lib.keeps at hk
     simp [hm0,hl,show m - 1 < zs.length by omega,e] at hk
    have a1 := hle j (m - 1) hj2 (by omega) (by omega)
    have a2 := hle (m - 1) m (by omega) hl (by omega)
    omega
   refine ⟨?_,fun y => ?_⟩
   ·rw [List.pairwise_append]
    exact ⟨h1,List.pairwise_singleton _ _,fun y hy z hz => by rw [List.mem_singleton.1 hz];exact hlt y hy⟩
   ·rw [List.mem_append,h2 y,List.mem_singleton]
    constructor
    ·rintro (⟨j,hj,hy⟩ | rfl)
     ·exact ⟨j,by omega,hy⟩
     ·exact ⟨m,by omega,List.getElem?_eq_getElem hl⟩
    ·rintro ⟨j,hj,hy⟩
     rcases Nat.lt_or_ge j m with hjm | hjm
     ·exact .inl ⟨j,hjm,hy⟩
     ·have : j = m := by omega
      subst this
      rw [List.getElem?_eq_getElem hl] at hy
      injection hy with hy
      exact .inr hy.symm
  ·rw [if_neg hk,List.append_nil]
   refine ⟨h1,fun y => ?_⟩
   rw [h2 y]
   constructor
   ·rintro ⟨j,hj,hy⟩;exact ⟨j,by omega,hy⟩
   ·rintro ⟨j,hj,hy⟩
    rcases Nat.lt_or_ge j m with hjm | hjm
    ·exact ⟨j,hjm,hy⟩
    ·have : j = m := by omega
     subst this
     have hj0 : j ≠ 0 := fun e => by subst e;exact hk (by simp [Lib.keeps])
     have he : zs[j] = zs[j - 1] := by
      by_cases e : zs[j] = zs[j - 1]
      ·exact e
      ·exfalso;apply hk
       unfold Lib.keeps
       simp [hj0,hl,show j - 1 < zs.length by omega,e]
     rw [List.getElem?_eq_getElem hl,he] at hy
     exact ⟨j - 1,by omega,by rw [List.getElem?_eq_getElem (by omega)];exact hy⟩
theorem strict_unique : ∀ {a b : List Int},a.Pairwise (· < ·) → b.Pairwise (· < ·) → (∀ y,y ∈ a ↔ y ∈ b) → a = b := by
 intro a
 induction a with
 | nil =>
  intro b _ _ h
  cases b with
  | nil => rfl
  | cons x r => exact absurd ((h x).2 (List.mem_cons_self ..)) (by simp)
 | cons x r ih =>
  intro b ha hb h
  cases b with
  | nil => exact absurd ((h x).1 (List.mem_cons_self ..)) (by simp)
  | cons y q =>
   obtain ⟨a1,a2⟩ := List.pairwise_cons.1 ha
   obtain ⟨b1,b2⟩ := List.pairwise_cons.1 hb
   have hxy : x = y := by
    rcases List.mem_cons.1 ((h x).1 (List.mem_cons_self ..)) with e | e
    ·exact e
    ·rcases List.mem_cons.1 ((h y).2 (List.mem_cons_self ..)) with e2 | e2
     ·exact e2.symm
     ·have := b1 x e;have := a1 y e2;omega
   subst hxy
   congr 1
   refine ih a2 b2 (fun z => ?_)
   constructor
   ·intro hz
    rcases List.mem_cons.1 ((h z).1 (List.mem_cons_of_mem _ hz)) with e | e
    ·subst e;have := a1 z hz;omega
    ·exact e
   ·intro hz
    rcases List.mem_cons.1 ((h z).2 (List.mem_cons_of_mem _ hz)) with e | e
    ·subst e;have := b1 z hz;omega
    ·exact e
def leT (x y : Int) : Bool := decide (x ≤ y)
theorem sorted_le (l : List Int) : (l.mergeSort leT).Pairwise (· ≤ ·) := by
 have := List.pairwise_mergeSort (le := leT) (fun a b c h1 h2 => by unfold leT at *;simp at *;omega) (fun a b => by unfold leT;simp;omega) l
 exact this.imp (fun h => by unfold leT at h;simpa using h)
theorem times_comp {l : List Pt} (fr to : Int) (h : l.Pairwise (fun a b => a.At < b.At)) : Lib.compact ((fr :: to :: l.map Pt.At).mergeSort leT) = timesL l fr to := by
 have hi := comp_inv _ (sorted_le (fr :: to :: l.map Pt.At)) _ (Nat.le_refl _)
 refine strict_unique hi.1 (timesL_sorted fr to h) (fun y => ?_)
 unfold Lib.compact
 rw [hi.2 y,timesL_mem]
 have hm : (∃ j,j < ((fr :: to :: l.map Pt.At).mergeSort leT).length ∧ ((fr :: to :: l.map Pt.At).mergeSort leT)[j]? = some y) ↔ y ∈ (fr :: to :: l.map Pt.At).mergeSort leT := by
  rw [List.mem_iff_getElem?]
  constructor
  ·rintro ⟨j,_,h⟩;exact ⟨j,h⟩
  ·rintro ⟨j,h⟩;exact ⟨j,(List.getElem?_eq_some_iff.1 h).1,h⟩
 rw [hm,List.mem_mergeSort,List.mem_cons,List.mem_cons,List.mem_map]
 constructor
 ·rintro (rfl | rfl | h)
  ·exact .inr (.inl rfl)
  ·exact .inl rfl
  ·exact .inr (.inr h)
 ·rintro (rfl | rfl | h)
  ·exact .inr (.inl rfl)
  ·exact .inl rfl
  ·exact .inr (.inr h)
theorem enc_map (l : List Int) : l.flatMap encInt = l.map (Value.int .i64) := by
 induction l with
 | nil => rfl
 | cons a r ih => rw [List.flatMap_cons,ih];rfl
theorem owns_cut {w : World} {base g n m cap sz : Nat} {e : TypeId} {L : List Value} (h : w.ownsRow base e sz (.slice (some ⟨g,0,none⟩) n cap) n L) (hm : m ≤ n) : w.ownsRow base e sz (.slice (some ⟨g,0,none⟩) m cap) m (L.take (m * sz)) := by
 obtain ⟨h1,h2⟩ := h
 have hl : m * sz ≤ n * sz := Nat.mul_le_mul_right _ hm
 refine ⟨by rw [List.length_take];omega, ?_⟩
 rcases h2 with ⟨h2,_⟩ | ⟨g',cap',cur,hv,hg,hh,hn,hc,hs,ht⟩
 ·cases h2
 ·injection hv with e1 e2 e3
  subst e3
  refine .inr ⟨g',cap,cur,by rw [e1],hg,hh,by omega,hc,hs, ?_⟩
  rw [← ht,List.take_take,Nat.min_eq_left hl]
theorem sort_own (zs : List Int) (g c base : Nat) (w : World) (ho : w.ownsRow base 3 1 (.slice (some ⟨g,0,none⟩) zs.length c) zs.length (zs.flatMap encInt)) (hn : zs.length ≤ 1048576) : Calls Tryz.prog 102 #[.slice (some ⟨g,0,none⟩) zs.length c] w (fun e w' => e = .returned (.tuple #[]) ∧ w'.ownsRow base 3 1 (.slice (some ⟨g,0,none⟩) zs.length c) zs.length ((zs.mergeSort leT).flatMap encInt) ∧ w.grownBy w' (some g)) := by
 have hl : (zs.mergeSort leT).length = zs.length := List.length_mergeSort _
 have ho' := ho
 rw [enc_map] at ho
 rcases ho.2 with ⟨h0,_⟩ | ⟨g',cap,cur,hv,hg,hh,hnc,hcm,hcs,htake⟩
 ·cases h0
 injection hv with e1 e2 e3
 injection e1 with e1
 injection e1 with e1
 subst e1 e3
 refine (Tryz.slices_Sort_int g 0 c zs w (holds_of_blockI hh (by rw [Nat.mul_one] at htake;exact htake)) (ho.lt g rfl).2 (by omega)).mono ?_
 rintro e w2 ⟨rfl,m,os,rfl⟩
 refine ⟨rfl, ?_,grownBy_sortedI _⟩
 rw [enc_map]
 exact ownsRow_sortedI (ts := zs.mergeSort leT) hl hg hh hnc hcm hcs
theorem compact_own (zs : List Int) (g c base : Nat) (w : World) (ho : w.ownsRow base 3 1 (.slice (some ⟨g,0,none⟩) zs.length c) zs.length (zs.flatMap encInt)) (hn : zs.length ≤ 1048576) : Calls Tryz.prog 103 #[.slice (some ⟨g,0,none⟩) zs.length c] w (fun e w' => e = .returned (.slice (some ⟨g,0,none⟩) (Lib.compact zs).length c) ∧ w'.ownsRow base 3 1 (.slice (some ⟨g,0,none⟩) (Lib.compact zs).length c) (Lib.compact zs).length ((Lib.compact zs).flatMap encInt) ∧ w.grownBy w' (some g)) := by
 have hl := Lib.compact_length_le zs
 rw [enc_map] at ho
 rcases ho.2 with ⟨h0,_⟩ | ⟨g',cap,cur,hv,hg,hh,hnc,hcm,hcs,htake⟩
 ·cases h0
 injection hv with e1 e2 e3
 injection e1 with e1
 injection e1 with e1
 subst e1 e3
 refine (Tryz.slices_Compact_int g 0 c zs w (holds_of_blockI hh (by rw [Nat.mul_one] at htake;exact htake)) (by omega) hnc).mono ?_
 rintro e w2 ⟨rfl,q,rfl⟩
 have hlen : (Lib.compact zs ++ List.replicate (zs.length - (Lib.compact zs).length) 0).length = zs.length := by rw [List.length_append,List.length_replicate];omega
 have h1 := ownsRow_sortedI (n := q) (os := #[]) (ts := Lib.compact zs ++ List.replicate (zs.length - (Lib.compact zs).length) 0) hlen hg hh hnc hcm hcs
 have h2 := grownBy_sortedI (w := w) (g := g) (n := q) (os := #[]) (Lib.compact zs ++ List.replicate (zs.length - (Lib.compact zs).length) 0).toArray
 have eg : ∀ u : World,Sort.grow u #[] = u := fun u => by simp [Sort.grow]
 rw [eg] at h1 h2
 refine ⟨rfl, ?_,h2⟩
 have h3 := owns_cut h1 hl
 rw [enc_map]
 rw [Nat.mul_one,← List.map_take,List.take_left] at h3
 exact h3
end Go.Proofs.YtfanjhcdjbnnnaaGreat
