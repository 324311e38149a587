/- Contracts of the draws: a tree of switches. -/
import Derived.Test.YtafccgnaifhnkaaDrawTopo
import Derived.Test.YtafccgnaifhnkaaTopo2
import Derived.Deep.RegionLaw
namespace Go.Proofs.Ytafccgnaifhnkaa
open Go.RowKit
set_option linter.unusedVariables false
def RetTopoD (w : World) (g : Nat) : Ending → World → Prop := fun e w' => ∃ (A : Option Addr) (c : Nat) (ps : List Int) (B : Option Addr) (d : Nat) (ns : List Node), e = .returned (.agg #[.slice A ps.length c, .slice B ns.length d]) ∧ w'.ownsRow (w.heap.size + 1) 3 1 (.slice A ps.length c) ps.length (ps.flatMap encInt) ∧ (∀ y ∈ ps, In64 y) ∧ w'.ownsRow (w.heap.size + 1) 101 4 (.slice B ns.length d) ns.length (ns.flatMap Node.enc) ∧ (∀ y ∈ ns, y.ok) ∧ 1 ≤ ps.length ∧ ps.length ≤ 18 ∧ ns.length ≤ 10 ∧ Turned g (g + 1) w w' ∧ Cur w' g
theorem TD.start {w : World} {g : Nat} (hc : Cur w g) : TD w g (((w.alloc (.cells #[.slice none 0 0, .slice none 0 0] 32)).alloc (.cells #[.int .i64 0] 3)).alloc (.cells #[.slice (some ⟨w.heap.size + 1, 0, none⟩) 1 1, .slice none 0 0] 32)) (some ⟨w.heap.size + 1, 0, none⟩) 1 1 [0] none 0 0 [] := by
  have hgw := hc.lt
  have e : Ext w (((w.alloc (.cells #[.slice none 0 0, .slice none 0 0] 32)).alloc (.cells #[.int .i64 0] 3)).alloc (.cells #[.slice (some ⟨w.heap.size + 1, 0, none⟩) 1 1, .slice none 0 0] 32)) := ((Ext.refl _).alloc _).alloc _ |>.alloc _
  have e1 : Ext (w.alloc (.cells #[.slice none 0 0, .slice none 0 0] 32)) (((w.alloc (.cells #[.slice none 0 0, .slice none 0 0] 32)).alloc (.cells #[.int .i64 0] 3)).alloc (.cells #[.slice (some ⟨w.heap.size + 1, 0, none⟩) 1 1, .slice none 0 0] 32)) := ((Ext.refl _).alloc _).alloc _
  have hr := World.ownsRow_lit (e := 3) (size := 1) (w.alloc (.cells #[.slice none 0 0, .slice none 0 0] 32)) #[.int .i64 0] 1 (Nat.le_refl _) (by unfold maxLen; omega) rfl
  refine ⟨e.turned _ _, hc.ext e, by go_simp, by go_simp, by go_simp, by go_simp, e1.cell (dcell_box w [.slice none 0 0, .slice none 0 0] 32 0 _ rfl), e1.cell (dcell_box w [.slice none 0 0, .slice none 0 0] 32 1 _ rfl), by go_simp, by go_simp, ⟨_, heap_box _ _ (by simp) _⟩, rfl, ?_, ?_, by omega, by omega, rfl, World.ownsRow_nil _ _ _ _, fun y hy => by cases hy⟩
  · have := owns_ext hr ((Ext.refl _).alloc (.cells #[.slice (some ⟨w.heap.size + 1, 0, none⟩) 1 1, .slice none 0 0] 32))
    simpa [encInt] using this
  · intro y hy
    rw [List.mem_singleton.1 hy]; unfold In64; omega
theorem TNode.info : (Try.prog.info? 101).map (fun i => (i.zero, i.size, i.bytes)) = some (some (.agg #[.int .i64 0, .int .i64 0, .int .i64 0, .int .i64 0]), 4, 32) := by kernel_rfl
theorem Node.one (x : Node) : ∀ u ∈ x.enc, u.oneCell' = true := by
  intro u hu
  simp [Node.enc] at hu
  rcases hu with rfl | rfl | rfl | rfl <;> rfl
theorem AppR.one {w w' : World} {base : Nat} {e : TypeId} {size : Nat} {v : Value} {A' : Option Addr} {n' c' : Nat} {L : List Value} {α : Type} {enc : α → List Value} {x : α} (h : AppR w w' base e size v A' n' c' (L ++ [x].flatMap enc)) : AppR w w' base e size v A' n' c' (L ++ enc x) := by
  have e1 : [x].flatMap enc = enc x := by simp
  rw [e1] at h; exact h
theorem wrap_in64 (n : Int) : In64 (IntKind.i64.wrap n) := by
  rw [IntKind.wrap_i64]; unfold In64; omega
set_option maxHeartbeats 8000000 in
set_option maxRecDepth 10000 in
theorem l02Draw_c (g : Nat) (w : World) (hc : Cur w g) : Calls Try.prog 53 #[.pointer (some ⟨g, 0, none⟩)] w (RetTopoD w g) := by
  obtain ⟨i0, hi, hI0, hI1, hI2⟩ := info_parts TInt.info
  obtain ⟨i1, hi1, hJ0, hJ1, hJ2⟩ := info_parts TNode.info
  have hgw := hc.lt
  have HB := Lib.hid (fun (n : Int) (hn : In64 n) (u : World) (hu : Cur u g) => l01Below_c g n u hu hn)
  have H9 : Hid (∀ n : Int, -1000000 ≤ n → n ≤ 1000000 → In64 n) := Lib.hid (fun n h1 h2 => by unfold In64; omega)
  have HD0 := Lib.hid (TD.start hc)
  clear hc
  go_enter Try.func53, Try.ntmps53
  go_wp2_with fail
  refine (HB.out 3 (H9.out _ (by omega) (by omega)) _ HD0.out.cur).mono ?_
  rintro e w1 ⟨v1, rfl, ⟨hv1a, hv1b⟩, ht1, hc1⟩
  have HD1 := Lib.hid (HD0.out.draw hgw ht1 hc1)
  obtain ⟨V, rfl⟩ := Int.eq_ofNat_of_zero_le hv1a
  have hV : V ≤ 2 := by omega
  clear ht1 hc1 hv1a hv1b
  go_wp2
  go_loopw [5, 6] (fun lv kv wr => ∃ (k : Nat) (A5 : Option Addr) (q c5 : Nat) (la : List Int) (A : Option Addr) (n c : Nat) (ps : List Int), k ≤ V ∧ kv = .int .i64 k ∧ lv = .slice A5 q c5 ∧ 1 ≤ q ∧ q ≤ 18 ∧ Hid (la.length = q) ∧ Hid (wr.ownsRow (w.heap.size + 1) 3 1 (.slice A5 q c5) q (la.flatMap encInt)) ∧ Hid (∀ y ∈ la, In64 y) ∧ Hid (rowsApart (Value.slice A n c).ownBlock (Value.slice A5 q c5).ownBlock) ∧ Hid (TD w g wr A n c ps none 0 0 [])) (fun _ kv _ => V - (intOf kv).toNat)
  case atStart =>
    have hr := World.ownsRow_lit (e := 3) (size := 1) w1 #[.int .i64 0] 1 (Nat.le_refl _) (by unfold maxLen; omega) rfl
    have hl1 := HD1.out.le
    exact ⟨0, _, 1, 1, [0], _, 1, 1, [0], by omega, rfl, rfl, by omega, by omega, Lib.hid rfl, Lib.hid (by have := owns_base hr (show w.heap.size + 1 ≤ w1.heap.size by omega); simpa [encInt] using this), Lib.hid (fun y hy => by rw [List.mem_singleton.1 hy]; unfold In64; omega), Lib.hid (rowsApart.new HD1.out.row (fun q hq => (hr.lt q hq).1)), Lib.hid (HD1.out.ext ((Ext.refl _).alloc _))⟩
  case round =>
    obtain ⟨k, A5, q, c5, la, A, n, c, ps, hk, rfl, rfl, hq1, hq18, HLA, HLR, HLO, HAP, HD⟩ := hrel
    by_cases hlt : k < V
    · go_wp2
      go_loopw [7, 26] (fun nv jv wj => ∃ (j : Nat) (A7 : Option Addr) (p c7 : Nat) (nx : List Int) (A : Option Addr) (n c : Nat) (ps : List Int), j ≤ q ∧ jv = .int .i64 j ∧ nv = .slice A7 p c7 ∧ p + 1 ≤ n ∧ Hid (nx.length = p) ∧ Hid (wj.ownsRow (w.heap.size + 1) 3 1 (.slice A7 p c7) p (nx.flatMap encInt)) ∧ Hid (∀ y ∈ nx, In64 y) ∧ Hid (wj.ownsRow (w.heap.size + 1) 3 1 (.slice A5 q c5) q (la.flatMap encInt)) ∧ Hid (rowsApart (Value.slice A n c).ownBlock (Value.slice A7 p c7).ownBlock) ∧ Hid (rowsApart (Value.slice A5 q c5).ownBlock (Value.slice A7 p c7).ownBlock) ∧ Hid (rowsApart (Value.slice A n c).ownBlock (Value.slice A5 q c5).ownBlock) ∧ Hid (TD w g wj A n c ps none 0 0 [])) (fun _ jv _ => q - (intOf jv).toNat)
      case atStart =>
        have hr := owns_empty wr 3 1
        have hle := HD.out.le
        have hp1 := HD.out.p1
        exact ⟨0, _, 0, 0, [], A, n, c, ps, by omega, rfl, rfl, by omega, Lib.hid rfl, Lib.hid (by simpa using owns_base hr (show w.heap.size + 1 ≤ wr.heap.size by omega)), Lib.hid (fun y hy => by cases hy), Lib.hid (owns_ext HLR.out ((Ext.refl _).alloc _)), Lib.hid (rowsApart.new HD.out.row (fun q hq => (hr.lt q hq).1)), Lib.hid (rowsApart.new HLR.out (fun q hq => (hr.lt q hq).1)), HAP, Lib.hid (HD.out.ext ((Ext.refl _).alloc _))⟩
      case round =>
        obtain ⟨j, A7, p, c7, nx, A, n, c, ps, hj, rfl, rfl, hpn, HNL, HNR, HNO, HLR, HAN, HLN, HAL, HD⟩ := hrel
        by_cases hjq : j < q
        · obtain ⟨bl, ol, s, cs, rfl, hbl, hx, _, hcl, rfl, hso⟩ := (show SlAt RInt 1 wr A5 q la by have h := HLR.out; rw [← HLA.out] at h ⊢; exact rowD_sl (enc := encInt) (ok := In64) (fun _ => rfl) h HLO.out).at_ hjq
          have e0 := hcl 0 _ rfl
          simp only [Nat.mul_one, Nat.add_zero] at e0
          have HSO := Lib.hid hso
          clear hcl hx hso
          go_wp2_with fail
          refine (HB.out 3 (H9.out _ (by omega) (by omega)) _ HD.out.cur).mono ?_
          rintro e w2 ⟨v2, rfl, ⟨hv2a, hv2b⟩, ht2, hc2⟩
          have HD2 := Lib.hid (HD.out.draw hgw ht2 hc2)
          have HNR2 := Lib.hid (ownsT HNR.out ht2 (by omega))
          have HLR2 := Lib.hid (ownsT HLR.out ht2 (by omega))
          clear ht2 hc2 e0
          go_wp2
          go_loopw [7, 10] (fun nv vv wj => ∃ (v : Int) (A7 : Option Addr) (p c7 : Nat) (nx : List Int) (A : Option Addr) (n c : Nat) (ps : List Int), 0 ≤ v ∧ v ≤ 3 ∧ vv = .int .i64 v ∧ nv = .slice A7 p c7 ∧ p + 1 ≤ n ∧ Hid (nx.length = p) ∧ Hid (wj.ownsRow (w.heap.size + 1) 3 1 (.slice A7 p c7) p (nx.flatMap encInt)) ∧ Hid (∀ y ∈ nx, In64 y) ∧ Hid (wj.ownsRow (w.heap.size + 1) 3 1 (.slice (some ⟨bl, ol, none⟩) q c5) q (la.flatMap encInt)) ∧ Hid (rowsApart (Value.slice A n c).ownBlock (Value.slice A7 p c7).ownBlock) ∧ Hid (rowsApart (Value.slice (some ⟨bl, ol, none⟩) q c5).ownBlock (Value.slice A7 p c7).ownBlock) ∧ Hid (rowsApart (Value.slice A n c).ownBlock (Value.slice (some ⟨bl, ol, none⟩) q c5).ownBlock) ∧ Hid (TD w g wj A n c ps none 0 0 [])) (fun _ vv _ => (intOf vv).toNat)
          case atStart => exact ⟨1 + v2, A7, p, c7, nx, A, n, c, ps, by omega, by omega, rfl, rfl, hpn, HNL, HNR2, HNO, HLR2, HAN, HLN, HAL, HD2⟩
          case round =>
            obtain ⟨v, A7, p, c7, nx, A, n, c, ps, hv0, hv3, rfl, rfl, hpn, HNL, HNR, HNO, HLR, HAN, HLN, HAL, HD⟩ := hrel
            have t0 := HD.out.t0
            have f0 := HD.out.f0
            have hl0 := HD.out.le
            have hn18 := HD.out.p2
            rcases (show (0 < v ∧ n < 18) ∨ ¬ 0 < v ∨ (0 < v ∧ ¬ n < 18) by omega) with ⟨h1, h2⟩ | h1 | ⟨h1, h2⟩
            · go_wp2_with (first | (at_builtin; (with_reducible refine wpList_append_r (enc := encInt) (ok := In64) (.tmp 44) (.tmp 46) _ (w.heap.size + 1) 3 i0 _ 1 8 (.slice A n c) n _ (some ⟨wr.heap.size, 0, none⟩) 1 1 [s] rfl rfl Try.underlying22 hi hI0 hI1 hI2 rfl (by omega) rfl (owns_ext HD.out.row ((Ext.refl _).alloc _)) rfl (sl_one_r wr s 3 rfl HSO.out) (fun _ => rfl) TInt.one (by unfold maxLen; omega) (by omega) (by simp; omega) ?_); intro A9 c9 w3 ha3; have x3 := ha3.cell (Ext.cell ((Ext.refl _).alloc _) t0) (block_ne (owns_ext HD.out.row ((Ext.refl _).alloc _)) (HD.out.ext ((Ext.refl _).alloc (.cells #[.int .i64 s] 3))).tb (by decide)); have z3 := ha3.frozen ((Ext.frozenEq ((Ext.refl _).alloc (.cells #[.int .i64 s] 3)) (lt_of_cell t0)).trans f0) (by simp; omega) (block_ne (owns_ext HD.out.row ((Ext.refl _).alloc _)) (HD.out.ext ((Ext.refl _).alloc (.cells #[.int .i64 s] 3))).tb (by decide)); have hl3 : w.heap.size + 1 + 1 < w3.heap.size := lt_of_cell x3; have HA3 := Lib.hid ha3; have HD3 := Lib.hid ((HD.out.ext ((Ext.refl _).alloc (.cells #[.int .i64 s] 3))).push hgw (by simpa using ha3) HSO.out (by omega)); have HTB := Lib.hid (HD.out.ext ((Ext.refl _).alloc (.cells #[.int .i64 s] 3))).tb; have HN3 := Lib.hid (owns_other (p := ⟨w.heap.size + 1 + 1, 0, none⟩) (HA3.out.other (owns_ext HNR.out ((Ext.refl _).alloc _)) HAN.out.symm) (ne_at (block_ne (owns_ext HNR.out ((Ext.refl _).alloc (.cells #[.int .i64 s] 3))) HTB.out (by decide))) (.slice A9 (n + 1) c9)); have HL3 := Lib.hid (owns_other (p := ⟨w.heap.size + 1 + 1, 0, none⟩) (HA3.out.other (owns_ext HLR.out ((Ext.refl _).alloc _)) HAL.out.symm) (ne_at (block_ne (owns_ext HLR.out ((Ext.refl _).alloc (.cells #[.int .i64 s] 3))) HTB.out (by decide))) (.slice A9 (n + 1) c9)); have HAN3 := Lib.hid (HA3.out.apart (owns_ext HNR.out ((Ext.refl _).alloc _)) HAN.out.symm).symm; have HAL3 := Lib.hid (HA3.out.apart (owns_ext HLR.out ((Ext.refl _).alloc _)) HAL.out.symm).symm; clear ha3 t0 f0) | (at_builtin; go_must (refine wpList_append_r (enc := encInt) (ok := In64) (.tmp 49) (.tmp 54) _ (w.heap.size + 1) 3 i0 _ 1 8 (.slice A7 p c7) p _ (some ⟨w3.heap.size, 0, none⟩) 1 1 [(n : Int)] rfl rfl Try.underlying22 hi hI0 hI1 hI2 rfl (by omega) rfl (owns_ext HN3.out ((Ext.refl _).alloc _)) rfl (by have h := sl_one_r (enc := encInt) (ok := In64) (w3.setCell ⟨w.heap.size + 1 + 1, 0, none⟩ (.slice A9 (n + 1) c9)) (n : Int) 3 rfl (in64_of (n := (n : Int)) (by omega) (by omega)); simpa [encInt] using h) (fun _ => rfl) TInt.one (by unfold maxLen; omega) (by omega) (by simp; omega) ?_); intro A5' c5' w5 ha5))
              have HD5 := Lib.hid ((HD3.out.ext ((Ext.refl _).alloc (.cells #[.int .i64 (n : Int)] 3))).side hgw (owns_ext HN3.out ((Ext.refl _).alloc _)) ha5 (Nat.le_refl _) HAN3.out)
              have HL5 := Lib.hid (ha5.other (owns_ext HL3.out ((Ext.refl _).alloc (.cells #[.int .i64 (n : Int)] 3))) HLN.out)
              have HAN5 := Lib.hid (ha5.apart (owns_ext HD3.out.row ((Ext.refl _).alloc (.cells #[.int .i64 (n : Int)] 3))) HAN3.out)
              have HLN5 := Lib.hid (ha5.apart (owns_ext HL3.out ((Ext.refl _).alloc (.cells #[.int .i64 (n : Int)] 3))) HLN.out)
              have HR5 := Lib.hid ha5.row
              have HIN := Lib.hid (all_snoc (ok := In64) HNO.out (in64_of (n := (n : Int)) (by omega) (by omega)))
              clear ha5
              go_wp2
              go_roundw
              case rel => exact ⟨v - 1, A5', p + 1, c5', nx ++ [(n : Int)], A9, n + 1, c9, ps ++ [s], by omega, by omega, by go_num, rfl, by omega, Lib.hid (by rw [List.length_append, HNL.out]; rfl), Lib.hid (by rw [List.flatMap_append]; simpa using HR5.out), HIN, HL5, HAN5, HLN5, HAL3, HD5⟩
              case measure => simp [intOf]; omega
            all_goals
              go_wp2
              go_roundw
              case rel => exact ⟨j + 1, A7, p, c7, nx, A, n, c, ps, by omega, by go_num, rfl, hpn, HNL, HNR, HNO, HLR, HAN, HLN, HAL, HD⟩
              case measure => simp [intOf]; omega
        · by_cases hp : 0 < p
          · have hn18 := HD.out.p2
            go_wp2
            go_roundw
            case rel => exact ⟨k + 1, A7, p, c7, nx, A, n, c, ps, by omega, by go_num, rfl, by omega, by omega, HNL, HNR, HNO, HAN, HD⟩
            case measure => simp [intOf]; omega
          · go_wp2
            go_roundw
            case rel => exact ⟨k + 1, A5, q, c5, la, A, n, c, ps, by omega, by go_num, rfl, hq1, hq18, HLA, HLR, HLO, HAL, HD⟩
            case measure => simp [intOf]; omega
    · clear HD0 HD1
      go_wp2_with fail
      refine (HB.out 10 (H9.out _ (by omega) (by omega)) _ HD.out.cur).mono ?_
      rintro e w2 ⟨v2, rfl, ⟨hv2a, hv2b⟩, ht2, hc2⟩
      have HD2 := Lib.hid (HD.out.draw hgw ht2 hc2)
      have HLR2 := Lib.hid (ownsT HLR.out ht2 (by omega))
      clear ht2 hc2
      go_wp2
      go_loopw [11] (fun nv wj => ∃ (v : Int) (B : Option Addr) (m d : Nat) (ns : List Node), 0 ≤ v ∧ v ≤ 10 ∧ nv = .int .i64 v ∧ m + v ≤ 10 ∧ Hid (wj.ownsRow (w.heap.size + 1) 3 1 (.slice A5 q c5) q (la.flatMap encInt)) ∧ Hid (TD w g wj A n c ps B m d ns)) (fun nv _ => (intOf nv).toNat)
      case atStart => exact ⟨1 + v2, none, 0, 0, [], by omega, by omega, rfl, by omega, HLR2, HD2⟩
      case round =>
        obtain ⟨v, B, m, d, ns, hv0, hv10, rfl, hmv, HLR, HD⟩ := hrel
        by_cases hv : 0 < v
        · go_wp2_with fail
          refine (HB.out q (H9.out _ (by omega) (by omega)) _ HD.out.cur).mono ?_
          rintro e w3 ⟨v3, rfl, ⟨hv3a, hv3b⟩, ht3, hc3⟩
          have HD3 := Lib.hid (HD.out.draw hgw ht3 hc3)
          have HLR3 := Lib.hid (ownsT HLR.out ht3 (by omega))
          clear ht3 hc3
          obtain ⟨j, rfl⟩ := Int.eq_ofNat_of_zero_le hv3a
          have hjq : j < q := by omega
          obtain ⟨bl, ol, s, cs, rfl, hbl, hx, _, hcl, rfl, hso⟩ := (show SlAt RInt 1 w3 A5 q la by have h := HLR3.out; rw [← HLA.out] at h ⊢; exact rowD_sl (enc := encInt) (ok := In64) (fun _ => rfl) h HLO.out).at_ hjq
          have e0 := hcl 0 _ rfl
          simp only [Nat.mul_one, Nat.add_zero] at e0
          have HSO := Lib.hid hso
          have t0 := HD3.out.t0
          have t1 := HD3.out.t1
          have hl3 := HD3.out.le
          have HKD := Lib.hid (l02Kids_c ps s A n c B m d w3 (by have h := HD3.out.row; have hn := HD3.out.hn; rw [← hn] at h ⊢; exact rowD_sl (enc := encInt) (ok := In64) (fun _ => rfl) h HD3.out.pok) (by have := HD3.out.p2; omega))
          clear hcl hx hso
          go_wp2_with fail
          refine HKD.out.mono ?_
          rintro e w4 ⟨A4, c4, rfl, ho4, hb4⟩
          have HD4 := Lib.hid (HD3.out.ext hb4)
          have HLR4 := Lib.hid (owns_ext HLR3.out hb4)
          clear t0 t1 hl3 ho4 hb4 HKD e0
          generalize (kidsL ps s).length = kl at *
          by_cases hkl : kl = 0
          · subst hkl
            go_wp2
            have x4 := HD4.out.t1
            have hl4 := HD4.out.le
            go_region_law (first | (go_simp; go_at_call 56; (with_reducible refine (HB.out 5 (H9.out _ (by omega) (by omega)) _ (HD4.out.ext (by repeat (first | exact Ext.refl _ | apply Ext.alloc | apply Ext.drew | apply Ext.drewN))).cur).mono ?_); rintro e w5 ⟨v5, rfl, ⟨hv5a, hv5b⟩, ht5, hc5⟩; have HD5 := Lib.hid ((HD4.out.ext (by repeat (first | exact Ext.refl _ | apply Ext.alloc | apply Ext.drew | apply Ext.drewN))).draw hgw ht5 hc5); have HLR5 := Lib.hid (ownsT (owns_ext HLR4.out (by repeat (first | exact Ext.refl _ | apply Ext.alloc | apply Ext.drew | apply Ext.drewN))) ht5 (by omega)); have x5 := HD5.out.t1; have hl5 := HD5.out.le; clear ht5 hc5) | (go_simp; go_at_call 56; (with_reducible refine (HB.out 9 (H9.out _ (by omega) (by omega)) _ (HD5.out.ext (by repeat (first | exact Ext.refl _ | apply Ext.alloc | apply Ext.drew | apply Ext.drewN))).cur).mono ?_); rintro e w6 ⟨v6, rfl, ⟨hv6a, hv6b⟩, ht6, hc6⟩; have HD6 := Lib.hid ((HD5.out.ext (by repeat (first | exact Ext.refl _ | apply Ext.alloc | apply Ext.drew | apply Ext.drewN))).draw hgw ht6 hc6); have HLR6 := Lib.hid (ownsT (owns_ext HLR5.out (by repeat (first | exact Ext.refl _ | apply Ext.alloc | apply Ext.drew | apply Ext.drewN))) ht6 (by omega)); have x6 := HD6.out.t1; have hl6 := HD6.out.le; clear ht6 hc6) | (go_simp; go_at_call 56; (with_reducible refine (HB.out 3 (H9.out _ (by omega) (by omega)) _ (HD6.out.ext (by repeat (first | exact Ext.refl _ | apply Ext.alloc | apply Ext.drew | apply Ext.drewN))).cur).mono ?_); rintro e w7 ⟨v7, rfl, ⟨hv7a, hv7b⟩, ht7, hc7⟩; have HD7 := Lib.hid ((HD6.out.ext (by repeat (first | exact Ext.refl _ | apply Ext.alloc | apply Ext.drew | apply Ext.drewN))).draw hgw ht7 hc7); have HLR7 := Lib.hid (ownsT (owns_ext HLR6.out (by repeat (first | exact Ext.refl _ | apply Ext.alloc | apply Ext.drew | apply Ext.drewN))) ht7 (by omega)); have x7 := HD7.out.t1; have hl7 := HD7.out.le; clear ht7 hc7) | (refine step_append_r (enc := Node.enc) (ok := Node.ok) (by rfl) _ _ _ (by rfl) (w.heap.size + 1) 101 i1 _ 4 32 Try.underlying30 hi1 hJ0 hJ1 hJ2 rfl (by omega) (.slice B m d) m _ _ 1 1 [⟨s, ⟨IntKind.i64.wrap (4 + v5), IntKind.i64.wrap (8 + v6), v7⟩⟩] (m + 1) rfl (by rfl) (by rfl) (owns_ext HD7.out.nrow ((Ext.refl _).alloc _)) (by exact sl_one_r w7 ⟨s, ⟨IntKind.i64.wrap (4 + v5), IntKind.i64.wrap (8 + v6), v7⟩⟩ 101 (Node.size _) (show Node.ok ⟨s, ⟨IntKind.i64.wrap (4 + v5), IntKind.i64.wrap (8 + v6), v7⟩⟩ from ⟨HSO.out, wrap_in64 _, wrap_in64 _, in64_of (n := v7) (by omega) (by omega)⟩)) Node.size Node.one (by unfold maxLen; omega) (by omega) (by simp; omega) ?_; intro B8 d8 w8 ha8; have HA8 := Lib.hid ha8; have HDP := Lib.hid ((HD7.out.ext ((Ext.refl _).alloc _)).pushN hgw ha8.one (show Node.ok ⟨s, ⟨IntKind.i64.wrap (4 + v5), IntKind.i64.wrap (8 + v6), v7⟩⟩ from ⟨HSO.out, wrap_in64 _, wrap_in64 _, in64_of (n := v7) (by omega) (by omega)⟩)); have HTB := Lib.hid ((HD7.out.ext ((Ext.refl w7).alloc (.cells (Node.enc ⟨s, ⟨IntKind.i64.wrap (4 + v5), IntKind.i64.wrap (8 + v6), v7⟩⟩).toArray 101))).tb); have hTn := block_ne (owns_ext HD7.out.nrow ((Ext.refl w7).alloc (.cells (Node.enc ⟨s, ⟨IntKind.i64.wrap (4 + v5), IntKind.i64.wrap (8 + v6), v7⟩⟩).toArray 101))) HTB.out (by decide); have x8 := ha8.cell (Ext.cell ((Ext.refl _).alloc _) x7) hTn; have z8 := ha8.frozen ((Ext.frozenEq ((Ext.refl w7).alloc (.cells (Node.enc ⟨s, ⟨IntKind.i64.wrap (4 + v5), IntKind.i64.wrap (8 + v6), v7⟩⟩).toArray 101)) (lt_of_cell x7)).trans HD7.out.f1) (by have := lt_of_cell x7; simp at this ⊢; omega) hTn; have hl8 : w.heap.size + 1 + 1 < w8.heap.size := lt_of_cell x8; have HLR8 := Lib.hid (owns_other (p := ⟨w.heap.size + 1 + 1, 1, none⟩) (ha8.other (owns_ext HLR7.out ((Ext.refl _).alloc _)) (type_apart HLR7.out HD7.out.nrow (by decide))) (ne_at (block_ne HLR7.out HD7.out.tb (by decide))) (.slice B8 (m + 1) d8)); clear ha8))
            all_goals
              clear x4 x5 x6 x7 x8 z8 hTn hl4 hl5 hl6 hl7 hl8
              go_wp2
              go_roundw
              case rel => exact ⟨v - 1, B8, m + 1, d8, _, by omega, by omega, by go_num, by omega, HLR8, HDP⟩
              case measure => simp [intOf]; omega
          · go_wp2
            go_roundw
            case rel => exact ⟨v - 1, B, m, d, ns, by omega, by omega, by go_num, by omega, HLR4, HD4⟩
            case measure => simp [intOf]; omega
        · have hv : v = 0 := by omega
          subst hv
          have t0 := HD.out.t0
          have t1 := HD.out.t1
          have r0 := HD.out.r0
          have r1 := HD.out.r1
          have g0 := HD.out.g0
          have g1 := HD.out.g1
          have hl0 := HD.out.le
          have hl1 : w.heap.size < wr.heap.size := by omega
          have hn := HD.out.hn
          have hm := HD.out.hm
          have HO1 := Lib.hid (show ((wr.setCell ⟨w.heap.size, 0, none⟩ (.slice A n c)).setCell ⟨w.heap.size, 1, none⟩ (.slice B m d)).ownsRow (w.heap.size + 1) 3 1 (.slice A n c) n (ps.flatMap encInt) from owns_other (owns_other HD.out.row (ne_at (block_low HD.out.row (by omega))) _) (ne_at (block_low HD.out.row (by omega))) _)
          have HO2 := Lib.hid (show ((wr.setCell ⟨w.heap.size, 0, none⟩ (.slice A n c)).setCell ⟨w.heap.size, 1, none⟩ (.slice B m d)).ownsRow (w.heap.size + 1) 101 4 (.slice B m d) m (ns.flatMap Node.enc) from owns_other (owns_other HD.out.nrow (ne_at (block_low HD.out.nrow (by omega))) _) (ne_at (block_low HD.out.nrow (by omega))) _)
          have HHN := Lib.hid hn
          have HHM := Lib.hid hm
          have HPP := Lib.hid (show 1 ≤ n ∧ n ≤ 18 from ⟨HD.out.p1, HD.out.p2⟩)
          clear hn hm
          go_wp2
          exact bodyPost_ret (v := .agg #[.slice A n c, .slice B m d]) (by simp [results, Try.results53, go_sem, *]) rfl ⟨A, c, ps, B, d, ns, by rw [HHN.out, HHM.out], by rw [HHN.out]; exact HO1.out, HD.out.pok, by rw [HHM.out]; exact HO2.out, HD.out.nok, by rw [HHN.out]; exact HPP.out.1, by rw [HHN.out]; exact HPP.out.2, by rw [HHM.out]; omega, turned_own (turned_own HD.out.turned (Nat.le_refl _)) (Nat.le_refl _), (HD.out.cur.put hgw).put hgw⟩
end Go.Proofs.Ytafccgnaifhnkaa
