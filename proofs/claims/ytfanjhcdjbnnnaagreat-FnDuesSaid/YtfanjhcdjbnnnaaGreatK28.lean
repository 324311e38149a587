/- DrawTopo2, MvDropL. -/
import Derived.Test.YtfanjhcdjbnnnaaGreatK27
import Derived.Test.YtfanjhcdjbnnnaaGreatK09
import Derived.Deep.RegionLaw
namespace Go.Proofs.YtfanjhcdjbnnnaaGreat
open Go.RowKit
set_option linter.unusedVariables false
set_option maxHeartbeats 8000000
set_option maxRecDepth 10000
def RetTopoD (w : World) (g : Nat) : Ending → World → Prop := fun e w' => ∃ (A : Option Addr) (c : Nat) (ps : List Int) (B : Option Addr) (d : Nat) (ns : List Node),e = .returned (.agg #[.slice A ps.length c,.slice B ns.length d]) ∧ w'.ownsRow (w.heap.size + 1) 3 1 (.slice A ps.length c) ps.length (ps.flatMap encInt) ∧ (∀ y ∈ ps,In64 y) ∧ w'.ownsRow (w.heap.size + 1) 85 4 (.slice B ns.length d) ns.length (ns.flatMap Node.enc) ∧ (∀ y ∈ ns,y.ok) ∧ 1 ≤ ps.length ∧ ps.length ≤ 18 ∧ ns.length ≤ 10 ∧ Turned g (g + 1) w w' ∧ Cur w' g
theorem TD.start {w : World} {g : Nat} (hc : Cur w g) : TD w g (((w.alloc (.cells #[.slice none 0 0,.slice none 0 0] 26)).alloc (.cells #[.int .i64 0] 3)).alloc (.cells #[.slice (some ⟨w.heap.size + 1,0,none⟩) 1 1,.slice none 0 0] 26)) (some ⟨w.heap.size + 1,0,none⟩) 1 1 [0] none 0 0 [] := by
 have hgw := hc.lt
 have e : Ext w (((w.alloc (.cells #[.slice none 0 0,.slice none 0 0] 26)).alloc (.cells #[.int .i64 0] 3)).alloc (.cells #[.slice (some ⟨w.heap.size + 1,0,none⟩) 1 1,.slice none 0 0] 26)) := ((Ext.refl _).alloc _).alloc _ |>.alloc _
 have e1 : Ext (w.alloc (.cells #[.slice none 0 0,.slice none 0 0] 26)) (((w.alloc (.cells #[.slice none 0 0,.slice none 0 0] 26)).alloc (.cells #[.int .i64 0] 3)).alloc (.cells #[.slice (some ⟨w.heap.size + 1,0,none⟩) 1 1,.slice none 0 0] 26)) := ((Ext.refl _).alloc _).alloc _
 have hr := World.ownsRow_lit (e := 3) (size := 1) (w.alloc (.cells #[.slice none 0 0,.slice none 0 0] 26)) #[.int .i64 0] 1 (Nat.le_refl _) (by unfold maxLen;omega) rfl
 refine ⟨e.turned _ _,hc.ext e,by go_simp,by go_simp,by go_simp,by go_simp,e1.cell (dcell_box w [.slice none 0 0,.slice none 0 0] 26 0 _ rfl),e1.cell (dcell_box w [.slice none 0 0,.slice none 0 0] 26 1 _ rfl),by go_simp,by go_simp,⟨_,heap_box _ _ (by simp) _⟩,rfl, ?_, ?_,by omega,by omega,rfl,World.ownsRow_nil _ _ _ _,fun y hy => by cases hy⟩
 ·have := owns_ext hr ((Ext.refl _).alloc (.cells #[.slice (some ⟨w.heap.size + 1,0,none⟩) 1 1,.slice none 0 0] 26))
  simpa [encInt] using this
 ·intro y hy
  rw [List.mem_singleton.1 hy];unfold In64;omega
theorem TNode.info : (Tryz.prog.info? 85).map (fun i => (i.zero,i.size,i.bytes)) = some (some (.agg #[.int .i64 0,.int .i64 0,.int .i64 0,.int .i64 0]),4,32) := by kernel_rfl
theorem Node.one (x : Node) : ∀ u ∈ x.enc,u.oneCell' = true := by
 intro u hu
 simp [Node.enc] at hu
 rcases hu with rfl | rfl | rfl | rfl <;> rfl
theorem AppR.one {w w' : World} {base : Nat} {e : TypeId} {size : Nat} {v : Value} {A' : Option Addr} {n' c' : Nat} {L : List Value} {α : Type} {enc : α → List Value} {x : α} (h : AppR w w' base e size v A' n' c' (L ++ [x].flatMap enc)) : AppR w w' base e size v A' n' c' (L ++ enc x) := by
 have e1 : [x].flatMap enc = enc x := by simp
 rw [e1] at h;exact h
theorem wrap_in64 (n : Int) : In64 (IntKind.i64.wrap n) := by
 rw [IntKind.wrap_i64];unfold In64;omega
theorem l02Draw_c (g : Nat) (w : World) (hc : Cur w g) : Calls Tryz.prog 42 #[.pointer (some ⟨g,0,none⟩)] w (RetTopoD w g) := by
 obtain ⟨i0,hi,hI0,hI1,hI2⟩ := info_parts TInt.info
 obtain ⟨i1,hi1,hJ0,hJ1,hJ2⟩ := info_parts TNode.info
 have hgw := hc.lt
 have HB := Hh (fun (n : Int) (hn : In64 n) (u : World) (hu : Cur u g) => l01Below_c g n u hu hn)
 have H9 : Hid (∀ n : Int,-1000000 ≤ n → n ≤ 1000000 → In64 n) := Hh (fun n h1 h2 => by unfold In64;omega)
 have HD0 := Hh (TD.start hc)
 clear hc
 go_enter Tryz.func42,Tryz.ntmps42
 go_wp2_with fail
 refine (HB.out 3 (H9.out _ (by omega) (by omega)) _ HD0.out.cur).mono ?_
 rintro e w1 ⟨v1,rfl,⟨hv1a,hv1b⟩,ht1,hc1⟩
 have HD1 := Hh (HD0.out.draw hgw ht1 hc1)
 obtain ⟨V,rfl⟩ := Int.eq_ofNat_of_zero_le hv1a
 have hV : V ≤ 2 := by omega
 clear ht1 hc1 hv1a hv1b
 go_wp2
 go_loopw [5,6] (fun lv kv wr => ∃ (k : Nat) (A5 : Option Addr) (q c5 : Nat) (la : List Int) (A : Option Addr) (n c : Nat) (ps : List Int),k ≤ V ∧ kv = .int .i64 k ∧ lv = .slice A5 q c5 ∧ 1 ≤ q ∧ q ≤ 18 ∧ Hid (la.length = q) ∧ Hid (wr.ownsRow (w.heap.size + 1) 3 1 (.slice A5 q c5) q (la.flatMap encInt)) ∧ Hid (∀ y ∈ la,In64 y) ∧ Hid (rowsApart (Value.slice A n c).ownBlock (Value.slice A5 q c5).ownBlock) ∧ Hid (TD w g wr A n c ps none 0 0 [])) (fun _ kv _ => V - (intOf kv).toNat)
 case atStart =>
  have hr := World.ownsRow_lit (e := 3) (size := 1) w1 #[.int .i64 0] 1 (Nat.le_refl _) (by unfold maxLen;omega) rfl
  have hl1 := HD1.out.le
  exact ⟨0,_,1,1,[0],_,1,1,[0],by omega,rfl,rfl,by omega,by omega,Hh rfl,Hh (by have := owns_base hr (show w.heap.size + 1 ≤ w1.heap.size by omega);simpa [encInt] using this),Hh (fun y hy => by rw [List.mem_singleton.1 hy];unfold In64;omega),Hh (rowsApart.new HD1.out.row (fun q hq => (hr.lt q hq).1)),Hh (HD1.out.ext ((Ext.refl _).alloc _))⟩
 case round =>
  obtain ⟨k,A5,q,c5,la,A,n,c,ps,hk,rfl,rfl,hq1,hq18,HLA,HLR,HLO,HAP,HD⟩ := hrel
  by_cases hlt : k < V
  ·go_wp2
   go_loopw [7,26] (fun nv jv wj => ∃ (j : Nat) (A7 : Option Addr) (p c7 : Nat) (nx : List Int) (A : Option Addr) (n c : Nat) (ps : List Int),j ≤ q ∧ jv = .int .i64 j ∧ nv = .slice A7 p c7 ∧ p + 1 ≤ n ∧ Hid (nx.length = p) ∧ Hid (wj.ownsRow (w.heap.size + 1) 3 1 (.slice A7 p c7) p (nx.flatMap encInt)) ∧ Hid (∀ y ∈ nx,In64 y) ∧ Hid (wj.ownsRow (w.heap.size + 1) 3 1 (.slice A5 q c5) q (la.flatMap encInt)) ∧ Hid (rowsApart (Value.slice A n c).ownBlock (Value.slice A7 p c7).ownBlock) ∧ Hid (rowsApart (Value.slice A5 q c5).ownBlock (Value.slice A7 p c7).ownBlock) ∧ Hid (rowsApart (Value.slice A n c).ownBlock (Value.slice A5 q c5).ownBlock) ∧ Hid (TD w g wj A n c ps none 0 0 [])) (fun _ jv _ => q - (intOf jv).toNat)
   case atStart =>
    have hr := owns_empty wr 3 1
    have hle := HD.out.le
    have hp1 := HD.out.p1
    exact ⟨0,_,0,0,[],A,n,c,ps,by omega,rfl,rfl,by omega,Hh rfl,Hh (by simpa using owns_base hr (show w.heap.size + 1 ≤ wr.heap.size by omega)),Hh (fun y hy => by cases hy),Hh (owns_ext HLR.out ((Ext.refl _).alloc _)),Hh (rowsApart.new HD.out.row (fun q hq => (hr.lt q hq).1)),Hh (rowsApart.new HLR.out (fun q hq => (hr.lt q hq).1)),HAP,Hh (HD.out.ext ((Ext.refl _).alloc _))⟩
   case round =>
    obtain ⟨j,A7,p,c7,nx,A,n,c,ps,hj,rfl,rfl,hpn,HNL,HNR,HNO,HLR,HAN,HLN,HAL,HD⟩ := hrel
    by_cases hjq : j < q
    ·obtain ⟨bl,ol,s,cs,rfl,hbl,hx,_,hcl,rfl,hso⟩ := (show SlAt RInt 1 wr A5 q la by have h := HLR.out;rw [← HLA.out] at h ⊢;exact rowD_sl (enc := encInt) (ok := In64) (fun _ => rfl) h HLO.out).at_ hjq
     have e0 := hcl 0 _ rfl
     simp only [Nat.mul_one,Nat.add_zero] at e0
     have HSO := Hh hso
     clear hcl hx hso
     go_wp2_with fail
     refine (HB.out 3 (H9.out _ (by omega) (by omega)) _ HD.out.cur).mono ?_
     rintro e w2 ⟨v2,rfl,⟨hv2a,hv2b⟩,ht2,hc2⟩
     have HD2 := Hh (HD.out.draw hgw ht2 hc2)
     have HNR2 := Hh (ownsT HNR.out ht2 (by omega))
     have HLR2 := Hh (ownsT HLR.out ht2 (by omega))
     clear ht2 hc2 e0
     go_wp2
     go_loopw [7,10] (fun nv vv wj => ∃ (v : Int) (A7 : Option Addr) (p c7 : Nat) (nx : List Int) (A : Option Addr) (n c : Nat) (ps : List Int),0 ≤ v ∧ v ≤ 3 ∧ vv = .int .i64 v ∧ nv = .slice A7 p c7 ∧ p + 1 ≤ n ∧ Hid (nx.length = p) ∧ Hid (wj.ownsRow (w.heap.size + 1) 3 1 (.slice A7 p c7) p (nx.flatMap encInt)) ∧ Hid (∀ y ∈ nx,In64 y) ∧ Hid (wj.ownsRow (w.heap.size + 1) 3 1 (.slice (some ⟨bl,ol,none⟩) q c5) q (la.flatMap encInt)) ∧ Hid (rowsApart (Value.slice A n c).ownBlock (Value.slice A7 p c7).ownBlock) ∧ Hid (rowsApart (Value.slice (some ⟨bl,ol,none⟩) q c5).ownBlock (Value.slice A7 p c7).ownBlock) ∧ Hid (rowsApart (Value.slice A n c).ownBlock (Value.slice (some ⟨bl,ol,none⟩) q c5).ownBlock) ∧ Hid (TD w g wj A n c ps none 0 0 [])) (fun _ vv _ => (intOf vv).toNat)
     case atStart => exact ⟨1 + v2,A7,p,c7,nx,A,n,c,ps,by omega,by omega,rfl,rfl,hpn,HNL,HNR2,HNO,HLR2,HAN,HLN,HAL,HD2⟩
     case round =>
      obtain ⟨v,A7,p,c7,nx,A,n,c,ps,hv0,hv3,rfl,rfl,hpn,HNL,HNR,HNO,HLR,HAN,HLN,HAL,HD⟩ := hrel
      have t0 := HD.out.t0
      have f0 := HD.out.f0
      have hl0 := HD.out.le
      have hn18 := HD.out.p2
      rcases (show (0 < v ∧ n < 18) ∨ ¬ 0 < v ∨ (0 < v ∧ ¬ n < 18) by omega) with ⟨h1,h2⟩ | h1 | ⟨h1,h2⟩
      ·go_wp2_with (first | (at_builtin;(with_reducible refine wpList_append_r (enc := encInt) (ok := In64) (.tmp 44) (.tmp 46) _ (w.heap.size + 1) 3 i0 _ 1 8 (.slice A n c) n _ (some ⟨wr.heap.size,0,none⟩) 1 1 [s] rfl rfl Tryz.underlying23 hi hI0 hI1 hI2 rfl (by omega) rfl (owns_ext HD.out.row ((Ext.refl _).alloc _)) rfl (sl_one_r wr s 3 rfl HSO.out) (fun _ => rfl) TInt.one (by unfold maxLen;omega) (by omega) (by simp;omega) ?_);intro A9 c9 w3 ha3;have x3 := ha3.cell (Ext.cell ((Ext.refl _).alloc _) t0) (block_ne (owns_ext HD.out.row ((Ext.refl _).alloc _)) (HD.out.ext ((Ext.refl _).alloc (.cells #[.int .i64 s] 3))).tb (by decide));have z3 := ha3.frozen ((Ext.frozenEq ((Ext.refl _).alloc (.cells #[.int .i64 s] 3)) (lt_of_cell t0)).trans f0) (by simp;omega) (block_ne (owns_ext HD.out.row ((Ext.refl _).alloc _)) (HD.out.ext ((Ext.refl _).alloc (.cells #[.int .i64 s] 3))).tb (by decide));have hl3 : w.heap.size + 1 + 1 < w3.heap.size := lt_of_cell x3;have HA3 := Hh ha3;have HD3 := Hh ((HD.out.ext ((Ext.refl _).alloc (.cells #[.int .i64 s] 3))).push hgw (by simpa using ha3) HSO.out (by omega));have HTB := Hh (HD.out.ext ((Ext.refl _).alloc (.cells #[.int .i64 s] 3))).tb;have HN3 := Hh (owns_other (p := ⟨w.heap.size + 1 + 1,0,none⟩) (HA3.out.other (owns_ext HNR.out ((Ext.refl _).alloc _)) HAN.out.symm) (ne_at (block_ne (owns_ext HNR.out ((Ext.refl _).alloc (.cells #[.int .i64 s] 3))) HTB.out (by decide))) (.slice A9 (n + 1) c9));have HL3 := Hh (owns_other (p := ⟨w.heap.size + 1 + 1,0,none⟩) (HA3.out.other (owns_ext HLR.out ((Ext.refl _).alloc _)) HAL.out.symm) (ne_at (block_ne (owns_ext HLR.out ((Ext.refl _).alloc (.cells #[.int .i64 s] 3))) HTB.out (by decide))) (.slice A9 (n + 1) c9));have HAN3 := Hh (HA3.out.apart (owns_ext HNR.out ((Ext.refl _).alloc _)) HAN.out.symm).symm;have HAL3 := Hh (HA3.out.apart (owns_ext HLR.out ((Ext.refl _).alloc _)) HAL.out.symm).symm;clear ha3 t0 f0) | (at_builtin;go_must (refine wpList_append_r (enc := encInt) (ok := In64) (.tmp 49) (.tmp 54) _ (w.heap.size + 1) 3 i0 _ 1 8 (.slice A7 p c7) p _ (some ⟨w3.heap.size,0,none⟩) 1 1 [(n : Int)] rfl rfl Tryz.underlying23 hi hI0 hI1 hI2 rfl (by omega) rfl (owns_ext HN3.out ((Ext.refl _).alloc _)) rfl (by have h := sl_one_r (enc := encInt) (ok := In64) (w3.setCell ⟨w.heap.size + 1 + 1,0,none⟩ (.slice A9 (n + 1) c9)) (n : Int) 3 rfl (in64_of (n := (n : Int)) (by omega) (by omega));simpa [encInt] using h) (fun _ => rfl) TInt.one (by unfold maxLen;omega) (by omega) (by simp;omega) ?_);intro A5' c5' w5 ha5))
       have HD5 := Hh ((HD3.out.ext ((Ext.refl _).alloc (.cells #[.int .i64 (n : Int)] 3))).side hgw (owns_ext HN3.out ((Ext.refl _).alloc _)) ha5 (Nat.le_refl _) HAN3.out)
       have HL5 := Hh (ha5.other (owns_ext HL3.out ((Ext.refl _).alloc (.cells #[.int .i64 (n : Int)] 3))) HLN.out)
       have HAN5 := Hh (ha5.apart (owns_ext HD3.out.row ((Ext.refl _).alloc (.cells #[.int .i64 (n : Int)] 3))) HAN3.out)
       have HLN5 := Hh (ha5.apart (owns_ext HL3.out ((Ext.refl _).alloc (.cells #[.int .i64 (n : Int)] 3))) HLN.out)
       have HR5 := Hh ha5.row
       have HIN := Hh (all_snoc (ok := In64) HNO.out (in64_of (n := (n : Int)) (by omega) (by omega)))
       clear ha5
       go_wp2
       go_roundw
       case rel => exact ⟨v - 1,A5',p + 1,c5',nx ++ [(n : Int)],A9,n + 1,c9,ps ++ [s],by omega,by omega,by go_num,rfl,by omega,Hh (by rw [List.length_append,HNL.out];rfl),Hh (by rw [List.flatMap_append];simpa using HR5.out),HIN,HL5,HAN5,HLN5,HAL3,HD5⟩
       case measure => simp [intOf];omega
      all_goals
       go_wp2
       go_roundw
       case rel => exact ⟨j + 1,A7,p,c7,nx,A,n,c,ps,by omega,by go_num,rfl,hpn,HNL,HNR,HNO,HLR,HAN,HLN,HAL,HD⟩
       case measure => simp [intOf];omega
    ·by_cases hp : 0 < p
     ·have hn18 := HD.out.p2
      go_wp2
      go_roundw
      case rel => exact ⟨k + 1,A7,p,c7,nx,A,n,c,ps,by omega,by go_num,rfl,by omega,by omega,HNL,HNR,HNO,HAN,HD⟩
      case measure => simp [intOf];omega
     ·go_wp2
      go_roundw
      case rel => exact ⟨k + 1,A5,q,c5,la,A,n,c,ps,by omega,by go_num,rfl,hq1,hq18,HLA,HLR,HLO,HAL,HD⟩
      case measure => simp [intOf];omega
  ·clear HD0 HD1
   go_wp2_with fail
   refine (HB.out 10 (H9.out _ (by omega) (by omega)) _ HD.out.cur).mono ?_
   rintro e w2 ⟨v2,rfl,⟨hv2a,hv2b⟩,ht2,hc2⟩
   have HD2 := Hh (HD.out.draw hgw ht2 hc2)
   have HLR2 := Hh (ownsT HLR.out ht2 (by omega))
   clear ht2 hc2
   go_wp2
   go_loopw [11] (fun nv wj => ∃ (v : Int) (B : Option Addr) (m d : Nat) (ns : List Node),0 ≤ v ∧ v ≤ 10 ∧ nv = .int .i64 v ∧ m + v ≤ 10 ∧ Hid (wj.ownsRow (w.heap.size + 1) 3 1 (.slice A5 q c5) q (la.flatMap encInt)) ∧ Hid (TD w g wj A n c ps B m d ns)) (fun nv _ => (intOf nv).toNat)
   case atStart => exact ⟨1 + v2,none,0,0,[],by omega,by omega,rfl,by omega,HLR2,HD2⟩
   case round =>
    obtain ⟨v,B,m,d,ns,hv0,hv10,rfl,hmv,HLR,HD⟩ := hrel
    by_cases hv : 0 < v
    ·go_wp2_with fail
     refine (HB.out q (H9.out _ (by omega) (by omega)) _ HD.out.cur).mono ?_
     rintro e w3 ⟨v3,rfl,⟨hv3a,hv3b⟩,ht3,hc3⟩
     have HD3 := Hh (HD.out.draw hgw ht3 hc3)
     have HLR3 := Hh (ownsT HLR.out ht3 (by omega))
     clear ht3 hc3
     obtain ⟨j,rfl⟩ := Int.eq_ofNat_of_zero_le hv3a
     have hjq : j < q := by omega
     obtain ⟨bl,ol,s,cs,rfl,hbl,hx,_,hcl,rfl,hso⟩ := (show SlAt RInt 1 w3 A5 q la by have h := HLR3.out;rw [← HLA.out] at h ⊢;exact rowD_sl (enc := encInt) (ok := In64) (fun _ => rfl) h HLO.out).at_ hjq
     have e0 := hcl 0 _ rfl
     simp only [Nat.mul_one,Nat.add_zero] at e0
     have HSO := Hh hso
     have t0 := HD3.out.t0
     have t1 := HD3.out.t1
     have hl3 := HD3.out.le
     have HKD := Hh (l02Kids_c ps s A n c B m d w3 (by have h := HD3.out.row;have hn := HD3.out.hn;rw [← hn] at h ⊢;exact rowD_sl (enc := encInt) (ok := In64) (fun _ => rfl) h HD3.out.pok) (by have := HD3.out.p2;omega))
     clear hcl hx hso
     go_wp2_with fail
     refine HKD.out.mono ?_
     rintro e w4 ⟨A4,c4,rfl,ho4,hb4⟩
     have HD4 := Hh (HD3.out.ext hb4)
     have HLR4 := Hh (owns_ext HLR3.out hb4)
     clear t0 t1 hl3 ho4 hb4 HKD e0
     generalize (kidsL ps s).length = kl at *
     by_cases hkl : kl = 0
     ·subst hkl
      go_wp2
      have x4 := HD4.out.t1
      have hl4 := HD4.out.le
      go_region_law (first | (go_simp;go_at_call 20;(with_reducible refine (HB.out 5 (H9.out _ (by omega) (by omega)) _ (HD4.out.ext (by repeat (first | exact Ext.refl _ | apply Ext.alloc | apply Ext.drew | apply Ext.drewN))).cur).mono ?_);rintro e w5 ⟨v5,rfl,⟨hv5a,hv5b⟩,ht5,hc5⟩;have HD5 := Hh ((HD4.out.ext (by repeat (first | exact Ext.refl _ | apply Ext.alloc | apply Ext.drew | apply Ext.drewN))).draw hgw ht5 hc5);have HLR5 := Hh (ownsT (owns_ext HLR4.out (by repeat (first | exact Ext.refl _ | apply Ext.alloc | apply Ext.drew | apply Ext.drewN))) ht5 (by omega));have x5 := HD5.out.t1;have hl5 := HD5.out.le;clear ht5 hc5) | (go_simp;go_at_call 20;(with_reducible refine (HB.out 9 (H9.out _ (by omega) (by omega)) _ (HD5.out.ext (by repeat (first | exact Ext.refl _ | apply Ext.alloc | apply Ext.drew | apply Ext.drewN))).cur).mono ?_);rintro e w6 ⟨v6,rfl,⟨hv6a,hv6b⟩,ht6,hc6⟩;have HD6 := Hh ((HD5.out.ext (by repeat (first | exact Ext.refl _ | apply Ext.alloc | apply Ext.drew | apply Ext.drewN))).draw hgw ht6 hc6);have HLR6 := Hh (ownsT (owns_ext HLR5.out (by repeat (first | exact Ext.refl _ | apply Ext.alloc | apply Ext.drew | apply Ext.drewN))) ht6 (by omega));have x6 := HD6.out.t1;have hl6 := HD6.out.le;clear ht6 hc6) | (go_simp;go_at_call 20;(with_reducible refine (HB.out 3 (H9.out _ (by omega) (by omega)) _ (HD6.out.ext (by repeat (first | exact Ext.refl _ | apply Ext.alloc | apply Ext.drew | apply Ext.drewN))).cur).mono ?_);rintro e w7 ⟨v7,rfl,⟨hv7a,hv7b⟩,ht7,hc7⟩;have HD7 := Hh ((HD6.out.ext (by repeat (first | exact Ext.refl _ | apply Ext.alloc | apply Ext.drew | apply Ext.drewN))).draw hgw ht7 hc7);have HLR7 := Hh (ownsT (owns_ext HLR6.out (by repeat (first | exact Ext.refl _ | apply Ext.alloc | apply Ext.drew | apply Ext.drewN))) ht7 (by omega));have x7 := HD7.out.t1;have hl7 := HD7.out.le;clear ht7 hc7) | (refine step_append_r (enc := Node.enc) (ok := Node.ok) (by rfl) _ _ _ (by rfl) (w.heap.size + 1) 85 i1 _ 4 32 Tryz.underlying24 hi1 hJ0 hJ1 hJ2 rfl (by omega) (.slice B m d) m _ _ 1 1 [⟨s,⟨IntKind.i64.wrap (4 + v5),IntKind.i64.wrap (8 + v6),v7⟩⟩] (m + 1) rfl (by rfl) (by rfl) (owns_ext HD7.out.nrow ((Ext.refl _).alloc _)) (by exact sl_one_r w7 ⟨s,⟨IntKind.i64.wrap (4 + v5),IntKind.i64.wrap (8 + v6),v7⟩⟩ 85 (Node.size _) (show Node.ok ⟨s,⟨IntKind.i64.wrap (4 + v5),IntKind.i64.wrap (8 + v6),v7⟩⟩ from ⟨HSO.out,wrap_in64 _,wrap_in64 _,in64_of (n := v7) (by omega) (by omega)⟩)) Node.size Node.one (by unfold maxLen;omega) (by omega) (by simp;omega) ?_;intro B8 d8 w8 ha8;have HA8 := Hh ha8;have HDP := Hh ((HD7.out.ext ((Ext.refl _).alloc _)).pushN hgw ha8.one (show Node.ok ⟨s,⟨IntKind.i64.wrap (4 + v5),IntKind.i64.wrap (8 + v6),v7⟩⟩ from ⟨HSO.out,wrap_in64 _,wrap_in64 _,in64_of (n := v7) (by omega) (by omega)⟩));have HTB := Hh ((HD7.out.ext ((Ext.refl w7).alloc (.cells (Node.enc ⟨s,⟨IntKind.i64.wrap (4 + v5),IntKind.i64.wrap (8 + v6),v7⟩⟩).toArray 85))).tb);have hTn := block_ne (owns_ext HD7.out.nrow ((Ext.refl w7).alloc (.cells (Node.enc ⟨s,⟨IntKind.i64.wrap (4 + v5),IntKind.i64.wrap (8 + v6),v7⟩⟩).toArray 85))) HTB.out (by decide);have x8 := ha8.cell (Ext.cell ((Ext.refl _).alloc _) x7) hTn;have z8 := ha8.frozen ((Ext.frozenEq ((Ext.refl w7).alloc (.cells (Node.enc ⟨s,⟨IntKind.i64.wrap (4 + v5),IntKind.i64.wrap (8 + v6),v7⟩⟩).toArray 85)) (lt_of_cell x7)).trans HD7.out.f1) (by have := lt_of_cell x7;simp at this ⊢;omega) hTn;have hl8 : w.heap.size + 1 + 1 < w8.heap.size := lt_of_cell x8;have HLR8 := Hh (owns_other (p := ⟨w.heap.size + 1 + 1,1,none⟩) (ha8.other (owns_ext HLR7.out ((Ext.refl _).alloc _)) (type_apart HLR7.out HD7.out.nrow (by decide))) (ne_at (block_ne HLR7.out HD7.out.tb (by decide))) (.slice B8 (m + 1) d8));clear ha8))
      all_goals
       clear x4 x5 x6 x7 x8 z8 hTn hl4 hl5 hl6 hl7 hl8
       go_wp2
       go_roundw
       case rel => exact ⟨v - 1,B8,m + 1,d8,_,by omega,by omega,by go_num,by omega,HLR8,HDP⟩
       case measure => simp [intOf];omega
     ·go_wp2
      go_roundw
      case rel => exact ⟨v - 1,B,m,d,ns,by omega,by omega,by go_num,by omega,HLR4,HD4⟩
      case measure => simp [intOf];omega
    ·have hv : v = 0 := by omega
     subst hv
     have t0 := HD.out.t0
     have t1 := HD.out.t1
     have r0 := HD.out.r0
     have r1 := HD.out.r1
     have g0 := HD.out.g0
     have g1 := HD.out.g1
     have hl0 := HD.out.le
     have hl1 : w.heap.size < wr.heap.size := by omega
     have hn := HD.out.hn
     have hm := HD.out.hm
     have HO1 := Hh (show ((wr.setCell ⟨w.heap.size,0,none⟩ (.slice A n c)).setCell ⟨w.heap.size,1,none⟩ (.slice B m d)).ownsRow (w.heap.size + 1) 3 1 (.slice A n c) n (ps.flatMap encInt) from owns_other (owns_other HD.out.row (ne_at (block_low HD.out.row (by omega))) _) (ne_at (block_low HD.out.row (by omega))) _)
     have HO2 := Hh (show ((wr.setCell ⟨w.heap.size,0,none⟩ (.slice A n c)).setCell ⟨w.heap.size,1,none⟩ (.slice B m d)).ownsRow (w.heap.size + 1) 85 4 (.slice B m d) m (ns.flatMap Node.enc) from owns_other (owns_other HD.out.nrow (ne_at (block_low HD.out.nrow (by omega))) _) (ne_at (block_low HD.out.nrow (by omega))) _)
     have HHN := Hh hn
     have HHM := Hh hm
     have HPP := Hh (show 1 ≤ n ∧ n ≤ 18 from ⟨HD.out.p1,HD.out.p2⟩)
     clear hn hm
     go_wp2
     exact bodyPost_ret (v := .agg #[.slice A n c,.slice B m d]) (by simp [results,Tryz.results42,go_sem, *]) rfl ⟨A,c,ps,B,d,ns,by rw [HHN.out,HHM.out],by rw [HHN.out];exact HO1.out,HD.out.pok,by rw [HHM.out];exact HO2.out,HD.out.nok,by rw [HHN.out];exact HPP.out.1,by rw [HHN.out];exact HPP.out.2,by rw [HHM.out];omega,turned_own (turned_own HD.out.turned (Nat.le_refl _)) (Nat.le_refl _),(HD.out.cur.put hgw).put hgw⟩
theorem nextGo_hit : ∀ (l : List Run) (b : Int),nextGo b l = b ∨ ∃ (k : Nat) (x : Run),l[k]? = some x ∧ endE x = nextGo b l := by
 intro l
 induction l with
 | nil => intro b;exact .inl rfl
 | cons x r ih =>
  intro b
  rw [nextGo]
  rcases ih (if b < 0 ∨ endE x < b then endE x else b) with h | ⟨k,y,h1,h2⟩
  ·rw [h]
   split
   ·exact .inr ⟨0,x,rfl,rfl⟩
   ·exact .inl rfl
  ·exact .inr ⟨k + 1,y,by simpa using h1,h2⟩
def endR (r : RawRun) : Int := IntKind.i64.wrap (r.at_ + r.j.Wall)
def RetNext (w : World) (rs : List RawRun) : Ending → World → Prop := fun e w' => ∃ n : Int,e = .returned (.int .i64 n) ∧ In64 n ∧ (0 ≤ n → ∃ (k : Nat) (r : RawRun),rs[k]? = some r ∧ endR r = n) ∧ Ext w w'
theorem StD.good.state2 {w : World} {lo : Nat} {d : StD} (h : d.good w lo) : ∃ s : State,StateAt w s (.agg #[.slice d.A1 d.n1 d.c1,.slice d.A2 d.n2 d.c2,.slice d.A3 d.n3 d.c3,.int .i64 d.lic.A,.int .i64 d.lic.B,.int .i64 d.lic.C,.int .i64 d.dep,.int .i64 d.now,.slice d.A6 d.n6 d.c6,.slice d.A7 d.n7 d.c7,.slice d.A8 d.n8 d.c8]) ∧ (s.Topo.Parents.length = d.n1 ∧ s.Topo.Nodes.length = d.n2 ∧ s.Up.length = d.n3 ∧ s.Queue.length = d.n6 ∧ s.Runs.length = d.n7 ∧ s.Ends.length = d.n8) ∧ ∀ (k : Nat) (x : Run),s.Runs[k]? = some x → ∃ r,d.rs[k]? = some r ∧ x.At = r.at_ ∧ x.Job = r.j := by
 obtain ⟨xs,h1,h2⟩ := runs_of (w := w) (lo := lo) d.rs h.k7
 have hs := h.sl7
 have h3 : SlAt RRun 13 w d.A7 d.n7 xs := by
  refine ⟨by rw [h1,← h.l7],fun hn => ?_⟩
  obtain ⟨b,o,e,hb,hc⟩ := hs.2 hn
  refine ⟨b,o,e,hb,fun k x hx => ?_⟩
  have hk : k < d.rs.length := by rw [← h1];exact (List.getElem?_eq_some_iff.1 hx).1
  obtain ⟨y,hy,hr,_⟩ := h2 k _ (List.getElem?_eq_getElem hk)
  rw [hx] at hy;injection hy with hy;subst hy
  obtain ⟨cs,q1,q2,q3,_⟩ := hc k _ (List.getElem?_eq_getElem hk)
  subst q3
  exact ⟨_,q1,q2,hr⟩
 have s1 := h.sl1;have s2 := h.sl2;have s3 := h.sl3;have s6 := h.sl6;have s8 := h.sl8
 have e1 := h.l1;have e2 := h.l2;have e3 := h.l3;have e6 := h.l6;have e8 := h.l8
 have e7 : xs.length = d.n7 := by rw [h1,← h.l7]
 refine ⟨⟨⟨d.ps,d.ns⟩,d.up,d.lic,d.dep,d.now,d.q,xs,d.es⟩,⟨d.A1,d.c1,d.A2,d.c2,d.A3,d.c3,d.A6,d.c6,d.A7,d.c7,d.A8,d.c8, ?_, ?_, ?_, ?_, ?_, ?_, ?_⟩,⟨e1.symm,e2.symm,e3.symm,e6.symm,e7,e8.symm⟩,fun k x hx => ?_⟩
 ·simp only [];rw [← e1,← e2,← e3,← e6,e7,← e8]
 ·simp only [];rw [← e1];exact s1
 ·simp only [];rw [← e2];exact s2
 ·simp only [];rw [← e3];exact s3
 ·simp only [];rw [← e6];exact s6
 ·simp only [];rw [e7];exact h3
 ·simp only [];rw [← e8];exact s8
 ·have hk : k < d.rs.length := by rw [← h1];exact (List.getElem?_eq_some_iff.1 hx).1
  obtain ⟨y,hy,_,q1,q2⟩ := h2 k _ (List.getElem?_eq_getElem hk)
  simp only [] at hx
  rw [hx] at hy;injection hy with hy;subst hy
  exact ⟨_,List.getElem?_eq_getElem hk,q1,q2⟩
theorem l06NextD_c (d : StD) (lo : Nat) (w : World) (h : d.good w lo) (hsm : d.mid) : Calls Tryz.prog 16 #[.agg #[.slice d.A1 d.n1 d.c1,.slice d.A2 d.n2 d.c2,.slice d.A3 d.n3 d.c3,.int .i64 d.lic.A,.int .i64 d.lic.B,.int .i64 d.lic.C,.int .i64 d.dep,.int .i64 d.now,.slice d.A6 d.n6 d.c6,.slice d.A7 d.n7 d.c7,.slice d.A8 d.n8 d.c8]] w (RetNext w d.rs) := by
 obtain ⟨hs1,hs2,hs3,hs6,hs7,hs8⟩ := hsm
 obtain ⟨s,hst,⟨e1,e2,e3,e6,e7,e8⟩,hr⟩ := h.state2
 refine (l06Next_c s _ w hst ⟨by omega,by omega,by omega,by omega,by omega,by omega⟩).mono ?_
 rintro e w1 ⟨rfl,hb⟩
 refine ⟨_,rfl, ?_,fun hn => ?_,hb⟩
 ·rcases nextGo_hit s.Runs (-1) with h1 | ⟨k,x,_,h1⟩
  ·rw [h1];unfold In64;omega
  ·rw [← h1];exact wrap_in64 _
 ·rcases nextGo_hit s.Runs (-1) with h1 | ⟨k,x,h1,h2⟩
  ·omega
  ·obtain ⟨r,h3,h4,h5⟩ := hr k x h1
   exact ⟨k,r,h3,by rw [← h2];unfold endR endE;rw [h4,h5]⟩
def StD.oe (d : StD) : Option Nat := (Value.slice d.A8 d.n8 d.c8).ownBlock
structure MvI (w u : World) (r lo : Nat) (d0 d : StD) : Prop where
 box : u.ownsRow w.heap.size 34 11 (.slice (some ⟨w.heap.size,0,none⟩) 1 1) 1 [.slice d0.A1 d0.n1 d0.c1,.slice d0.A2 d0.n2 d0.c2,.slice d0.A3 d0.n3 d0.c3,.int .i64 d0.lic.A,.int .i64 d0.lic.B,.int .i64 d0.lic.C,.int .i64 d0.dep,.int .i64 d0.now,.slice d0.A6 d0.n6 d0.c6,.slice d0.A7 d0.n7 d0.c7,.slice d0.A8 d0.n8 d0.c8]
 res : u.ownsRow w.heap.size 34 11 (.slice (some ⟨w.heap.size + r,0,none⟩) 1 1) 1 [.slice none 0 0,.slice none 0 0,.slice none 0 0,.int .i64 0,.int .i64 0,.int .i64 0,.int .i64 0,.int .i64 0,.slice none 0 0,.slice none 0 0,.slice none 0 0]
 gd : d.good u lo
 ext : Ext w u
section
variable {w u u' : World} {r lo : Nat} {d0 d d2 : StD} {A : Option Addr} {n c : Nat}
theorem MvI.mv (h : MvI w u r lo d0 d) (e : Ext u u') : MvI w u' r lo d0 d := ⟨owns_ext h.box e,owns_ext h.res e,h.gd.ext e,h.ext.trans e⟩
theorem MvI.start1 (h : d.good w lo) : MvI w ((w.alloc (.cells #[.slice d.A1 d.n1 d.c1,.slice d.A2 d.n2 d.c2,.slice d.A3 d.n3 d.c3,.int .i64 d.lic.A,.int .i64 d.lic.B,.int .i64 d.lic.C,.int .i64 d.dep,.int .i64 d.now,.slice d.A6 d.n6 d.c6,.slice d.A7 d.n7 d.c7,.slice d.A8 d.n8 d.c8] 34)).alloc (.cells #[.slice none 0 0,.slice none 0 0,.slice none 0 0,.int .i64 0,.int .i64 0,.int .i64 0,.int .i64 0,.int .i64 0,.slice none 0 0,.slice none 0 0,.slice none 0 0] 34)) 1 lo d d :=
 ⟨owns_ext (gbox w [.slice d.A1 d.n1 d.c1,.slice d.A2 d.n2 d.c2,.slice d.A3 d.n3 d.c3,.int .i64 d.lic.A,.int .i64 d.lic.B,.int .i64 d.lic.C,.int .i64 d.dep,.int .i64 d.now,.slice d.A6 d.n6 d.c6,.slice d.A7 d.n7 d.c7,.slice d.A8 d.n8 d.c8] 34 11 rfl) ((Ext.refl _).alloc _),by
  have h := gbox (w.alloc (.cells #[.slice d.A1 d.n1 d.c1,.slice d.A2 d.n2 d.c2,.slice d.A3 d.n3 d.c3,.int .i64 d.lic.A,.int .i64 d.lic.B,.int .i64 d.lic.C,.int .i64 d.dep,.int .i64 d.now,.slice d.A6 d.n6 d.c6,.slice d.A7 d.n7 d.c7,.slice d.A8 d.n8 d.c8] 34)) [.slice none 0 0,.slice none 0 0,.slice none 0 0,.int .i64 0,.int .i64 0,.int .i64 0,.int .i64 0,.int .i64 0,.slice none 0 0,.slice none 0 0,.slice none 0 0] 34 11 rfl
  rw [show (w.alloc (.cells #[.slice d.A1 d.n1 d.c1,.slice d.A2 d.n2 d.c2,.slice d.A3 d.n3 d.c3,.int .i64 d.lic.A,.int .i64 d.lic.B,.int .i64 d.lic.C,.int .i64 d.dep,.int .i64 d.now,.slice d.A6 d.n6 d.c6,.slice d.A7 d.n7 d.c7,.slice d.A8 d.n8 d.c8] 34)).heap.size = w.heap.size + 1 by simp] at h
  exact owns_base h (by omega),h.ext (((Ext.refl w).alloc _).alloc _),((Ext.refl w).alloc _).alloc _⟩
theorem MvI.start2 (h : d.good w lo) (o : Obj) : MvI w (((w.alloc (.cells #[.slice d.A1 d.n1 d.c1,.slice d.A2 d.n2 d.c2,.slice d.A3 d.n3 d.c3,.int .i64 d.lic.A,.int .i64 d.lic.B,.int .i64 d.lic.C,.int .i64 d.dep,.int .i64 d.now,.slice d.A6 d.n6 d.c6,.slice d.A7 d.n7 d.c7,.slice d.A8 d.n8 d.c8] 34)).alloc o).alloc (.cells #[.slice none 0 0,.slice none 0 0,.slice none 0 0,.int .i64 0,.int .i64 0,.int .i64 0,.int .i64 0,.int .i64 0,.slice none 0 0,.slice none 0 0,.slice none 0 0] 34)) 2 lo d d :=
 ⟨owns_ext (gbox w [.slice d.A1 d.n1 d.c1,.slice d.A2 d.n2 d.c2,.slice d.A3 d.n3 d.c3,.int .i64 d.lic.A,.int .i64 d.lic.B,.int .i64 d.lic.C,.int .i64 d.dep,.int .i64 d.now,.slice d.A6 d.n6 d.c6,.slice d.A7 d.n7 d.c7,.slice d.A8 d.n8 d.c8] 34 11 rfl) (((Ext.refl _).alloc _).alloc _),by
  have h := gbox ((w.alloc (.cells #[.slice d.A1 d.n1 d.c1,.slice d.A2 d.n2 d.c2,.slice d.A3 d.n3 d.c3,.int .i64 d.lic.A,.int .i64 d.lic.B,.int .i64 d.lic.C,.int .i64 d.dep,.int .i64 d.now,.slice d.A6 d.n6 d.c6,.slice d.A7 d.n7 d.c7,.slice d.A8 d.n8 d.c8] 34)).alloc o) [.slice none 0 0,.slice none 0 0,.slice none 0 0,.int .i64 0,.int .i64 0,.int .i64 0,.int .i64 0,.int .i64 0,.slice none 0 0,.slice none 0 0,.slice none 0 0] 34 11 rfl
  rw [show ((w.alloc (.cells #[.slice d.A1 d.n1 d.c1,.slice d.A2 d.n2 d.c2,.slice d.A3 d.n3 d.c3,.int .i64 d.lic.A,.int .i64 d.lic.B,.int .i64 d.lic.C,.int .i64 d.dep,.int .i64 d.now,.slice d.A6 d.n6 d.c6,.slice d.A7 d.n7 d.c7,.slice d.A8 d.n8 d.c8] 34)).alloc o).heap.size = w.heap.size + 2 by simp] at h
  exact owns_base h (by omega),h.ext ((((Ext.refl w).alloc _).alloc _).alloc _),(((Ext.refl w).alloc _).alloc _).alloc _⟩
theorem MvI.copy (h : MvI w u r lo d0 d) (e : Ext u u') (hd : d2.good u' u.heap.size) : MvI w u' r w.heap.size d0 d2 := ⟨owns_ext h.box e,owns_ext h.res e,hd.base h.ext.le,h.ext.trans e⟩
theorem MvI.put (h : MvI w u r lo d0 d) (hr : r ≠ 0) : MvI w (setCells u w.heap.size 0 [.slice d.A1 d.n1 d.c1,.slice d.A2 d.n2 d.c2,.slice d.A3 d.n3 d.c3,.int .i64 d.lic.A,.int .i64 d.lic.B,.int .i64 d.lic.C,.int .i64 d.dep,.int .i64 d.now,.slice d.A6 d.n6 d.c6,.slice d.A7 d.n7 d.c7,.slice d.A8 d.n8 d.c8]) r lo d d :=
 ⟨puts11 h.box rfl,(kept_puts w.heap.size [.slice d.A1 d.n1 d.c1,.slice d.A2 d.n2 d.c2,.slice d.A3 d.n3 d.c3,.int .i64 d.lic.A,.int .i64 d.lic.B,.int .i64 d.lic.C,.int .i64 d.dep,.int .i64 d.now,.slice d.A6 d.n6 d.c6,.slice d.A7 d.n7 d.c7,.slice d.A8 d.n8 d.c8] u 0).own h.res (fun k h1 h2 => by simp [Value.ownBlock] at h1 h2;omega),h.gd.kept h.box (kept_puts w.heap.size [.slice d.A1 d.n1 d.c1,.slice d.A2 d.n2 d.c2,.slice d.A3 d.n3 d.c3,.int .i64 d.lic.A,.int .i64 d.lic.B,.int .i64 d.lic.C,.int .i64 d.dep,.int .i64 d.now,.slice d.A6 d.n6 d.c6,.slice d.A7 d.n7 d.c7,.slice d.A8 d.n8 d.c8] u 0) (by simp [rowTypes]),Ext.puts _ _ _ h.ext (Nat.le_refl _)⟩
theorem MvI.tell (h : MvI w u r lo d0 d) (hr : r ≠ 0) {p : Nat} {x : Value} (hv : [.slice d0.A1 d0.n1 d0.c1,.slice d0.A2 d0.n2 d0.c2,.slice d0.A3 d0.n3 d0.c3,.int .i64 d0.lic.A,.int .i64 d0.lic.B,.int .i64 d0.lic.C,.int .i64 d0.dep,.int .i64 d0.now,.slice d0.A6 d0.n6 d0.c6,.slice d0.A7 d0.n7 d0.c7,.slice d0.A8 d0.n8 d0.c8].set p x = [.slice d.A1 d.n1 d.c1,.slice d.A2 d.n2 d.c2,.slice d.A3 d.n3 d.c3,.int .i64 d.lic.A,.int .i64 d.lic.B,.int .i64 d.lic.C,.int .i64 d.dep,.int .i64 d.now,.slice d.A6 d.n6 d.c6,.slice d.A7 d.n7 d.c7,.slice d.A8 d.n8 d.c8]) : MvI w (u.setCell ⟨w.heap.size,p,none⟩ x) r lo d d :=
 ⟨by rw [← hv];exact (h.box.stored p x).1,g_far h.res (by simp [Value.ownBlock];omega),h.gd.far h.box (by simp [rowTypes]),h.ext.setCell (Nat.le_refl _) x⟩
theorem MvI.row {base nb sz : Nat} {e : TypeId} {v : Value} {L : List Value} (h : MvI w u r lo d0 d) (ho : u.ownsRow base e sz v nb L) (hk : Kept u u' v.ownBlock) (hne : e ≠ 34) (hb : w.heap.size ≤ base) (hd : d2.good u' lo) : MvI w u' r lo d0 d2 :=
 ⟨hk.own h.box (g_apart h.box ho (Ne.symm hne)),hk.own h.res (g_apart h.res ho (Ne.symm hne)),hd,hk.ext h.ext (fun q hq => Nat.le_trans hb (ho.lt q hq).1)⟩
theorem MvI.fin (h : MvI w u r lo d0 d) : d.good (setCells u (w.heap.size + r) 0 [.slice d.A1 d.n1 d.c1,.slice d.A2 d.n2 d.c2,.slice d.A3 d.n3 d.c3,.int .i64 d.lic.A,.int .i64 d.lic.B,.int .i64 d.lic.C,.int .i64 d.dep,.int .i64 d.now,.slice d.A6 d.n6 d.c6,.slice d.A7 d.n7 d.c7,.slice d.A8 d.n8 d.c8]) lo ∧ Ext w (setCells u (w.heap.size + r) 0 [.slice d.A1 d.n1 d.c1,.slice d.A2 d.n2 d.c2,.slice d.A3 d.n3 d.c3,.int .i64 d.lic.A,.int .i64 d.lic.B,.int .i64 d.lic.C,.int .i64 d.dep,.int .i64 d.now,.slice d.A6 d.n6 d.c6,.slice d.A7 d.n7 d.c7,.slice d.A8 d.n8 d.c8]) :=
 ⟨h.gd.kept h.res (kept_puts (w.heap.size + r) [.slice d.A1 d.n1 d.c1,.slice d.A2 d.n2 d.c2,.slice d.A3 d.n3 d.c3,.int .i64 d.lic.A,.int .i64 d.lic.B,.int .i64 d.lic.C,.int .i64 d.dep,.int .i64 d.now,.slice d.A6 d.n6 d.c6,.slice d.A7 d.n7 d.c7,.slice d.A8 d.n8 d.c8] u 0) (by simp [rowTypes]),Ext.puts _ _ _ h.ext (by omega)⟩
theorem MvI.fail (h : MvI w u r lo d0 d) : Ext w (setCells u (w.heap.size + r) 0 [.slice none 0 0,.slice none 0 0,.slice none 0 0,.int .i64 0,.int .i64 0,.int .i64 0,.int .i64 0,.int .i64 0,.slice none 0 0,.slice none 0 0,.slice none 0 0]) := Ext.puts _ _ _ h.ext (by omega)
end
theorem StD.good.keptRun {w w' : World} {lo base nb : Nat} {d : StD} {v : Value} {L : List Value} (h : d.good w lo) (ho : w.ownsRow base 54 13 v nb L) (hk : Kept w w' v.ownBlock) (ha : rowsApart d.ow v.ownBlock) : d.good w' lo :=
 ⟨h.l1,h.l2,h.l3,h.l6,h.l7,h.l8,h.r1.keep ho hk (by decide),h.r2.keep ho hk (by decide),hk.own h.r3 (g_apart h.r3 ho (by decide)),hk.own h.r6 (g_apart h.r6 ho (by decide)),hk.own h.r7 ha,hk.own h.r8 (g_apart h.r8 ho (by decide)),h.k1,h.k2,h.k6,(fun x hx => ⟨(h.k7 x hx).1,by obtain ⟨xs,hx⟩ := (h.k7 x hx).2;exact ⟨xs,hx.kept ho hk (by decide)⟩⟩),h.k8,h.kn⟩
structure DropI (w u0 wr : World) (lo g gr : Nat) (d d2 : StD) (B : Option Addr) (b c : Nat) (rest : List RawRun) (k : Nat) : Prop where
 box : wr.ownsRow w.heap.size 34 11 (.slice (some ⟨g,0,none⟩) 1 1) 1 [.slice d2.A1 d2.n1 d2.c1,.slice d2.A2 d2.n2 d2.c2,.slice d2.A3 d2.n3 d2.c3,.int .i64 d2.lic.A,.int .i64 d2.lic.B,.int .i64 d2.lic.C,.int .i64 d2.dep,.int .i64 d2.now,.slice d2.A6 d2.n6 d2.c6,.slice d2.A7 d2.n7 d2.c7,.slice d2.A8 d2.n8 d2.c8]
 res : wr.ownsRow w.heap.size 34 11 (.slice (some ⟨gr,0,none⟩) 1 1) 1 [.slice none 0 0,.slice none 0 0,.slice none 0 0,.int .i64 0,.int .i64 0,.int .i64 0,.int .i64 0,.int .i64 0,.slice none 0 0,.slice none 0 0,.slice none 0 0]
 ne : g ≠ gr
 gd : d2.good wr lo
 rr : wr.ownsRow u0.heap.size 54 13 (.slice B b c) b (rest.flatMap RawRun.enc)
 rl : b = rest.length
 rm : ∀ x ∈ rest,x.ok ∧ RawRun.mem wr lo x
 ao : ∀ q,d2.ow = some q → q < u0.heap.size
 lu : w.heap.size ≤ u0.heap.size
 lw : u0.heap.size ≤ wr.heap.size
 kp : Kept w wr d.oe
 fr : ∀ q,d2.oe = some q → d.oe = some q ∨ w.heap.size ≤ q
 sr : d2.rs = d.rs ∧ d2.A7 = d.A7 ∧ d2.n7 = d.n7 ∧ d2.c7 = d.c7
 sz : d2.n1 = d.n1 ∧ d2.n2 = d.n2 ∧ d2.n3 = d.n3 ∧ d2.n6 = d.n6 ∧ d2.n8 + b = d.n8 + k
section
variable {w u0 wr u : World} {lo g gr : Nat} {d d2 : StD} {B : Option Addr} {b c k : Nat} {rest : List RawRun}
theorem DropI.mv (h : DropI w u0 wr lo g gr d d2 B b c rest k) (e : Ext wr u) : DropI w u0 u lo g gr d d2 B b c rest k :=
 ⟨owns_ext h.box e,owns_ext h.res e,h.ne,h.gd.ext e,owns_ext h.rr e,h.rl,(fun x hx => ⟨(h.rm x hx).1,by obtain ⟨xs,hx⟩ := (h.rm x hx).2;exact ⟨xs,hx.ext e⟩⟩),h.ao,h.lu,Nat.le_trans h.lw e.le,h.kp.trans (Kept.ofExt e none) (fun q hq => by cases hq),h.fr,h.sr,h.sz⟩
theorem DropI.keep {x : RawRun} {B' : Option Addr} {c' : Nat} (h : DropI w u0 wr lo g gr d d2 B b c rest k) (hr : AppR wr u u0.heap.size 54 13 (.slice B b c) B' (b + 1) c' ((rest ++ [x]).flatMap RawRun.enc)) (hx : x.ok) (hm : RawRun.mem wr lo x) : DropI w u0 u lo g gr d d2 B' (b + 1) c' (rest ++ [x]) (k + 1) := by
 have hkp := hr.kp
 exact ⟨hkp.own h.box (g_apart h.box h.rr (by decide)),hkp.own h.res (g_apart h.res h.rr (by decide)),h.ne,h.gd.keptRun h.rr hkp (fun q h1 h2 => by have := h.ao q h1;have := (h.rr.lt q h2).1;omega),hr.row,(by rw [List.length_append,← h.rl];rfl),(fun y hy => by
   have hmm : RawRun.mem wr lo y ∧ y.ok := by
    rcases List.mem_append.1 hy with hy | hy
    ·exact ⟨(h.rm y hy).2,(h.rm y hy).1⟩
    ·rw [List.mem_singleton.1 hy];exact ⟨hm,hx⟩
   obtain ⟨⟨xs,h1⟩,h2⟩ := hmm
   exact ⟨h2,xs,h1.kept h.rr hkp (by decide)⟩),h.ao,h.lu,Nat.le_trans h.lw hr.size,h.kp.trans hkp (fun q hq => .inr (by have := (h.rr.lt q hq).1;have := h.lu;omega)),h.fr,h.sr,⟨h.sz.1,h.sz.2.1,h.sz.2.2.1,h.sz.2.2.2.1,by have := h.sz.2.2.2.2;omega⟩⟩
theorem DropI.endd {x : End} {A : Option Addr} {c' : Nat} (h : DropI w u0 wr lo g gr d d2 B b c rest k) (hg : w.heap.size ≤ g) (hr : AppR wr u lo 64 3 (.slice d2.A8 d2.n8 d2.c8) A (d2.n8 + 1) c' ((d2.es ++ [x]).flatMap End.enc)) (hx : x.ok) : DropI w u0 (u.setCell ⟨g,10,none⟩ (.slice A (d2.n8 + 1) c')) lo g gr d (d2.withE (d2.es ++ [x]) A (d2.n8 + 1) c') B b c rest (k + 1) := by
 have hkp := hr.kp
 have hr' := hr
 rw [List.flatMap_append] at hr'
 have hb := hkp.own h.box (g_apart h.box h.gd.r8 (by decide))
 have hk2 := kept_set u g 10 (.slice A (d2.n8 + 1) c')
 have hs1 := hkp.own h.rr (g_apart h.rr h.gd.r8 (by decide))
 exact ⟨(hb.stored 10 _).1,g_far (hkp.own h.res (g_apart h.res h.gd.r8 (by decide))) (by have := h.ne;simp [Value.ownBlock];omega),h.ne,(h.gd.pushE hr' hx).far hb (by simp [rowTypes]),hk2.own hs1 (g_apart hs1 hb (by decide)),h.rl,(fun y hy => ⟨(h.rm y hy).1,by obtain ⟨xs,hy⟩ := (h.rm y hy).2;exact ⟨xs,(hy.kept h.gd.r8 hkp (by decide)).kept hb hk2 (by decide)⟩⟩),h.ao,h.lu,Nat.le_trans h.lw (Nat.le_trans hr.size hk2.size),(h.kp.trans hkp h.fr).trans hk2 (fun q hq => .inr (by injection hq with hq;omega)),
  (fun q hq => by rcases hr.fresh q hq with h1 | h1;exact h.fr q h1;(right;exact Nat.le_trans h.kp.size h1)),h.sr,⟨h.sz.1,h.sz.2.1,h.sz.2.2.1,h.sz.2.2.2.1,by have := h.sz.2.2.2.2;show d2.n8 + 1 + b = _;omega⟩⟩
end
def RetDrop (w : World) (lo : Nat) (d : StD) : Ending → World → Prop := fun e w' => ∃ d2 : StD,e = .returned (.agg #[.slice d2.A1 d2.n1 d2.c1,.slice d2.A2 d2.n2 d2.c2,.slice d2.A3 d2.n3 d2.c3,.int .i64 d2.lic.A,.int .i64 d2.lic.B,.int .i64 d2.lic.C,.int .i64 d2.dep,.int .i64 d2.now,.slice d2.A6 d2.n6 d2.c6,.slice d2.A7 d2.n7 d2.c7,.slice d2.A8 d2.n8 d2.c8]) ∧ d2.good w' lo ∧ (d2.n1 = d.n1 ∧ d2.n2 = d.n2 ∧ d2.n3 = d.n3 ∧ d2.n6 = d.n6 ∧ d2.n7 ≤ d.n7 ∧ d2.n8 ≤ d.n8 + d.n7) ∧ Kept w w' d.oe
end Go.Proofs.YtfanjhcdjbnnnaaGreat
