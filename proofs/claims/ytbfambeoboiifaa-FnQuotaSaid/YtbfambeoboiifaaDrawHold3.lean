/- Contracts of the draws: quotas, holds and one more. Written by gq.py. -/
import Derived.Test.YtbfambeoboiifaaDrawHold2
import Derived.Test.YtbfambeoboiifaaDrawQuota
namespace Go.Proofs.Ytbfambeoboiifaa
open Go.RowKit
set_option linter.unusedVariables false
def RetDrawMay (w : World) : Ending → World → Prop := fun e w' => ∃ (A : Option Addr) (c : Nat) (xs : List Quota) (A2 : Option Addr) (c2 : Nat) (hs : List Hold) (x : Hold), e = .returned (.tuple #[.slice A xs.length c, .slice A2 hs.length c2, .agg #[.string x.Name, .int .i64 x.Job.Id, .int .i64 x.Job.Prio, .int .i64 x.Job.Nodes, .int .i64 x.Job.Need.A, .int .i64 x.Job.Need.B, .int .i64 x.Job.Need.C, .int .i64 x.Job.Lic.A, .int .i64 x.Job.Lic.B, .int .i64 x.Job.Lic.C, .int .i64 x.Job.Wall, .int .i64 x.Job.Level]]) ∧ SlAt RQuota 6 w' A xs.length xs ∧ xs.length ≤ 4 ∧ SlAt RHold 12 w' A2 hs.length hs ∧ hs.length ≤ 5 ∧ hs.length ≤ c2 ∧ x.ok ∧ Ext w w'
theorem row_cap {w : World} {base : Nat} {e : TypeId} {sz n c : Nat} {A : Option Addr} {L : List Value} (h : w.ownsRow base e sz (.slice A n c) n L) : n ≤ c := by
  rcases h.2 with ⟨_, h0⟩ | ⟨g, cap, cur, hv, _, _, hn, _⟩
  · omega
  · injection hv with _ _ e; omega
set_option maxHeartbeats 8000000 in
set_option maxRecDepth 20000 in
theorem DrawMayHold_c (bs : List Int) (A : Option Addr) (n c : Nat) (w : World) (hs : SlAt RU8 1 w A n bs) (hn : n ≤ 1048576) : Calls Try.prog 22 #[.slice A n c] w (RetDrawMay w) := by
  have HN := Lib.hid (l01New_c bs A n c (w.alloc (.cells #[.string ByteArray.empty, .int .i64 0, .int .i64 0, .int .i64 0, .int .i64 0, .int .i64 0, .int .i64 0, .int .i64 0, .int .i64 0, .int .i64 0, .int .i64 0, .int .i64 0] 54)) (hs.ext RU8.mono ((Ext.refl w).alloc _)) hn)
  clear hs
  go_enter Try.func22, Try.ntmps22
  go_wp2_with fail
  refine HN.out.mono ?_
  rintro e w0 ⟨g, rfl, hg, hb0, hc0⟩
  have hg1 : g < w0.heap.size := hc0.lt
  have hgw : w.heap.size < g := by simp at hg; omega
  have HE0 := Lib.hid (((Ext.refl w).alloc (.cells #[.string ByteArray.empty, .int .i64 0, .int .i64 0, .int .i64 0, .int .i64 0, .int .i64 0, .int .i64 0, .int .i64 0, .int .i64 0, .int .i64 0, .int .i64 0, .int .i64 0] 54)).trans hb0)
  have HY0 := Lib.hid (heapE hb0 (heap_alloc_new w (.cells #[.string ByteArray.empty, .int .i64 0, .int .i64 0, .int .i64 0, .int .i64 0, .int .i64 0, .int .i64 0, .int .i64 0, .int .i64 0, .int .i64 0, .int .i64 0, .int .i64 0] 54)))
  go_wp2_with fail
  refine (l14AnyQuotas_c g _ hc0).mono ?_
  rintro e w1 ⟨A1, c1, xs, rfl, ho1, hin1, hl1, ht1, hc1⟩
  have HO1 := Lib.hid ho1
  have HIN1 := Lib.hid hin1
  have HT1 := Lib.hid ht1
  have HY1 := Lib.hid (heapT ht1 HY0.out (by omega))
  have hs1 := ht1.le
  clear ho1 hin1 ht1 hc0 hb0
  go_wp2_with fail
  refine (l14AnyHolds_c g _ hc1).mono ?_
  rintro e w2 ⟨A2, c2, hl, rfl, ho2, hin2, hl2, ht2, hc2⟩
  have HP2 := Lib.hid ho2
  have HIN2 := Lib.hid hin2
  have HT2 := Lib.hid (HT1.out.trans ht2)
  have HO2 := Lib.hid (ownsT HO1.out ht2 (by omega))
  have HY2 := Lib.hid (heapT ht2 HY1.out (by omega))
  have hs2 := ht2.le
  have HCP := Lib.hid (row_cap HP2.out)
  clear ho2 hin2 ht2 hc1
  go_wp2_with fail
  refine (l14Hold_c g _ hc2).mono ?_
  rintro e w3 ⟨x, rfl, hx, ht3, hc3⟩
  have HXO := Lib.hid hx
  have HT3 := Lib.hid (HT2.out.trans ht3)
  have HO3 := Lib.hid (ownsT HO2.out ht3 (by omega))
  have HP3 := Lib.hid (ownsT HP2.out ht3 (by omega))
  have HY3 := Lib.hid (heapT ht3 HY2.out (by omega))
  have HE3 := Lib.hid (ext_turned HE0.out HT3.out (by omega))
  clear hx ht3 hc3 hc2
  have y0 := cell_block HY3.out 0 _ rfl
  have y1 := cell_block HY3.out 1 _ rfl
  have y2 := cell_block HY3.out 2 _ rfl
  have y3 := cell_block HY3.out 3 _ rfl
  have y4 := cell_block HY3.out 4 _ rfl
  have y5 := cell_block HY3.out 5 _ rfl
  have y6 := cell_block HY3.out 6 _ rfl
  have y7 := cell_block HY3.out 7 _ rfl
  have y8 := cell_block HY3.out 8 _ rfl
  have y9 := cell_block HY3.out 9 _ rfl
  have y10 := cell_block HY3.out 10 _ rfl
  have y11 := cell_block HY3.out 11 _ rfl
  have yf0 := draw_frozen HY3.out 0
  have yf1 := draw_frozen HY3.out 1
  have yf2 := draw_frozen HY3.out 2
  have yf3 := draw_frozen HY3.out 3
  have yf4 := draw_frozen HY3.out 4
  have yf5 := draw_frozen HY3.out 5
  have yf6 := draw_frozen HY3.out 6
  have yf7 := draw_frozen HY3.out 7
  have yf8 := draw_frozen HY3.out 8
  have yf9 := draw_frozen HY3.out 9
  have yf10 := draw_frozen HY3.out 10
  have yf11 := draw_frozen HY3.out 11
  have hly := heap_lt HY3.out
  go_wp2
  refine bodyPost_ret (v := .tuple #[.slice A1 xs.length c1, .slice A2 hl.length c2, .agg #[.string x.Name, .int .i64 x.Job.Id, .int .i64 x.Job.Prio, .int .i64 x.Job.Nodes, .int .i64 x.Job.Need.A, .int .i64 x.Job.Need.B, .int .i64 x.Job.Need.C, .int .i64 x.Job.Lic.A, .int .i64 x.Job.Lic.B, .int .i64 x.Job.Lic.C, .int .i64 x.Job.Wall, .int .i64 x.Job.Level]]) (by simp [results, Try.results22, go_sem, y0, y1, y2, y3, y4, y5, y6, y7, y8, y9, y10, y11]) rfl ⟨A1, c1, xs, A2, c2, hl, x, rfl, rowD_sl (c := c1) (base := w0.heap.size) (e := 104) Quota.size ?_ HIN1.out, hl1, rowD_sl (c := c2) (base := w1.heap.size) (e := 54) Hold.size ?_ HIN2.out, hl2, HCP.out, HXO.out, ?_⟩
  · repeat (first | with_reducible exact HO3.out | refine owns_other ?_ (fun q hq => by have := (HO3.out.lt q hq).1; simp only []; omega) _)
  · repeat (first | with_reducible exact HP3.out | refine owns_other ?_ (fun q hq => by have := (HP3.out.lt q hq).1; simp only []; omega) _)
  · repeat (first | with_reducible exact HE3.out | refine Ext.setCell ?_ (Nat.le_refl _) _)
end Go.Proofs.Ytbfambeoboiifaa
