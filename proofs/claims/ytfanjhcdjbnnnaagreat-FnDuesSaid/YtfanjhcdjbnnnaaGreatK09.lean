/- Topo2, Asc, Room4. -/
import Derived.Test.YtfanjhcdjbnnnaaGreatK03
import Derived.Test.YtfanjhcdjbnnnaaGreatK01
import Derived.Test.YtfanjhcdjbnnnaaGreatK08
namespace Go.Proofs.YtfanjhcdjbnnnaaGreat
open Go.RowKit
set_option linter.unusedVariables false
set_option maxHeartbeats 8000000
set_option maxRecDepth 10000
theorem TInt.one (y : Int) : ∀ u ∈ encInt y,u.oneCell' = true := by
 intro u hu;simp [encInt] at hu;subst hu;rfl
theorem TInt.info : (Tryz.prog.info? 3).map (fun i => (i.zero,i.size,i.bytes)) = some (some (.int .i64 0),1,8) := by kernel_rfl
theorem kids_len (l : List Int) (s : Int) : ∀ k : Nat,(kidsGo l k s).length ≤ l.length := by
 induction l with
 | nil => intro k;exact Nat.le_refl _
 | cons a r ih =>
  intro k
  have := ih (k + 1)
  rw [kidsGo];split
  ·simp;omega
  ·simp;omega
theorem kidsGo_next {l : List Int} {k : Nat} {x s : Int} (hx : l[k]? = some x) : kidsGo (l.drop k) k s = if (x == s) = true then (k : Int) :: kidsGo (l.drop (k + 1)) (k + 1) s else kidsGo (l.drop (k + 1)) (k + 1) s := by rw [drop_cons hx,kidsGo]
theorem levGo_bd (L : List Int) : ∀ (b : Bool) (l B : Int),-1 ≤ l → l ≤ B → (∀ n ∈ L,n ≤ B) → -1 ≤ levGo L b l ∧ levGo L b l ≤ B + 1 := by
 induction L with
 | nil => intro b l B h1 h2 _;rw [levGo];omega
 | cons a r ih =>
  intro b l B h1 h2 h3
  rw [levGo]
  split
  ·omega
  ·rename_i h
   have ha := h3 a (List.mem_cons_self ..)
   exact ih false a B (by omega) ha (fun n hn => h3 n (List.mem_cons_of_mem _ hn))
theorem levF_bd (ps : List Int) : ∀ (f : Nat) (s : Int),-1 ≤ levF ps f s ∧ levF ps f s ≤ f := by
 intro f
 induction f with
 | zero => intro s;rw [levF];exact ⟨by omega,by omega⟩
 | succ f ih =>
  intro s
  rw [levF]
  have := levGo_bd ((kidsL ps s).map (levF ps f)) true (-1) f (by omega) (by omega) (fun n hn => by
   obtain ⟨c,_,rfl⟩ := List.mem_map.1 hn;exact (ih c).2)
  omega
theorem levGo_next {L : List Int} {k : Nat} {y l : Int} {b : Bool} (hy : L[k]? = some y) : levGo (L.drop k) b l = if y < 0 ∨ (b = false ∧ y ≠ l) then -1 else levGo (L.drop (k + 1)) false y := by rw [drop_cons hy,levGo]
theorem l02Kids_c (ps : List Int) (s : Int) (A : Option Addr) (n c : Nat) (B : Option Addr) (m d : Nat) (w : World) (h : SlAt RInt 1 w A n ps) (hl : n ≤ 1048576) : Calls Tryz.prog 62 #[.agg #[.slice A n c,.slice B m d],.int .i64 s] w (RetOwn RInt 3 1 w (kidsL ps s)) := by
 obtain ⟨i0,hi,hI0,hI1,hI2⟩ := info_parts TInt.info
 have HN := Hh h.len
 have HS := Hh (fun (u : World) (e : Ext w u) => h.ext (Flat.mono _ _) e)
 clear h
 go_enter Tryz.func62,Tryz.ntmps62
 go_wp2
 obtain ⟨W1,hW1⟩ : ∃ u,u = w.alloc (.cells #[.slice A n c,.slice B m d] 26) := ⟨_,rfl⟩
 have E1 : Ext w W1 := by rw [hW1];exact (Ext.refl w).alloc _
 have q0 : W1.cell? ⟨w.heap.size,0,none⟩ = some (.slice A n c) := by rw [hW1];exact law_box w [.slice A n c,.slice B m d] _ 0 _ rfl
 have hsz : W1.heap.size = w.heap.size + 1 := by rw [hW1];simp
 have HO0 := Hh (show (W1.alloc (.cells #[] 3)).ownsRow (w.heap.size + 1) 3 1 (.slice (some ⟨w.heap.size + 1,0,none⟩) 0 0) 0 [] by rw [← hsz];exact owns_empty W1 3 1)
 rw [← hW1]
 clear hW1
 go_loopw [5,6] (fun l iv wr => ∃ (k : Nat) (A1 : Option Addr) (c1 : Nat) (acc : List Int),1 ≤ k ∧ k ≤ n + 1 ∧ iv = .int .i64 k ∧ l = .slice A1 acc.length c1 ∧ acc.length ≤ k ∧ Hid (kidsL ps s = acc ++ kidsGo (ps.drop k) k s) ∧ Hid (∀ y ∈ acc,In64 y) ∧ wr.ownsRow (w.heap.size + 1) 3 1 (.slice A1 acc.length c1) acc.length (acc.flatMap encInt) ∧ Ext W1 wr) (fun _ iv _ => n + 1 - (intOf iv).toNat)
 case atStart => exact ⟨1,_,0,[],by omega,by omega,rfl,rfl,by simp,Hh rfl,Hh (fun y hy => by cases hy),HO0.out,(Ext.refl _).alloc _⟩
 case round =>
  obtain ⟨k,A1,c1,acc,hk1,hk,rfl,rfl,hla,HE,HIN,ho,hb⟩ := hrel
  have HO := Hh ho
  have r0 := hb.cell q0
  have hle := hb.le
  clear ho
  by_cases hlt : k < n
  ·obtain ⟨b,o,x,cs,rfl,hbw,hx,_,hc,rfl,_⟩ := (HS.out wr (E1.trans hb)).at_ hlt
   have y0 := hc 0 _ rfl
   simp only [Nat.mul_one,Nat.add_zero] at y0
   have HX := Hh (kidsGo_next (s := s) hx)
   clear hc hx
   rcases (Bool.eq_false_or_eq_true (x == s)).symm with h1 | h1
   ·have HT := Hh (show kidsL ps s = acc ++ kidsGo (ps.drop (k + 1)) (k + 1) s by rw [HE.out,HX.out,if_neg (by rw [h1];simp)])
    go_wp2
    go_roundw
    case rel => exact ⟨k + 1,A1,c1,acc,by omega,by omega,by go_num,rfl,by omega,HT,HIN,HO.out,hb⟩
    case measure => simp [intOf];omega
   ·have HT := Hh (show kidsL ps s = (acc ++ [(k : Int)]) ++ kidsGo (ps.drop (k + 1)) (k + 1) s by rw [HE.out,HX.out,if_pos h1];simp)
    go_wp2_with (at_builtin;go_must (refine wpList_append_one (w0 := W1) (.tmp 22) (.tmp 24) _ (w.heap.size + 1) 3 i0 _ 1 8 _ acc.length _ (encInt k) rfl rfl Tryz.underlying23 hi hI0 hI1 hI2 rfl (by omega) rfl (HO.out) _ rfl (by first | rfl | simp) rfl (TInt.one _) (by unfold maxLen;omega) (by omega) hb (by omega) (by omega) ?_);intro A3 c3 w3 ho3 hb3 hs3)
    have HO3 := Hh ho3
    have HIN3 := Hh (show ∀ y ∈ acc ++ [(k : Int)],In64 y from fun y hy => by
     rcases List.mem_append.1 hy with hy | hy
     ·exact HIN.out y hy
     ·rw [List.mem_singleton.1 hy];unfold In64;omega)
    clear ho3
    go_wp2
    go_roundw
    case rel => exact ⟨k + 1,A3,c3,acc ++ [(k : Int)],by omega,by omega,by go_num,by simp,by simp;omega,HT,HIN3,by rw [List.flatMap_append,List.length_append];simpa using HO3.out,hb3⟩
    case measure => simp [intOf];omega
  ·have HT := Hh (show kidsL ps s = acc by rw [HE.out,List.drop_eq_nil_of_le (by have := HN.out;omega)];simp [kidsGo])
   go_wp2
   rw [HT.out]
   exact ret_own2 rfl (owns_base HO.out (by omega)) rfl encInt_size HIN.out (E1.trans hb)
theorem l02Level_c (ps : List Int) (A : Option Addr) (n c : Nat) (B : Option Addr) (m d : Nat) (hn : n ≤ 24) (hlen : ps.length = n) (hup : upGo (ps.drop 1) 1 = true) : ∀ (f s : Nat) (w : World),s < n → n - s ≤ f → SlAt RInt 1 w A n ps → f ≤ 24 → Calls Tryz.prog 36 #[.agg #[.slice A n c,.slice B m d],.int .i64 s] w (Ret w (.int .i64 (levF ps f s))) := by
 have HUP := Hh hup
 have HN := Hh hlen
 clear hup hlen
 intro f
 induction f with
 | zero => intro s w hs hf;omega
 | succ f ih =>
  intro s w hs hf h hf24
  have HIH := Hh ih
  have HS := Hh (fun (u : World) (e : Ext w u) => h.ext (Flat.mono _ _) e)
  have HK := Hh (fun (u : World) (e : Ext w u) => l02Kids_c ps s A n c B m d u (h.ext (Flat.mono _ _) e) (by omega))
  have HMEM := Hh (show ∀ (k : Nat) (y : Int),(kidsL ps s)[k]? = some y → ∃ q : Nat,y = (q : Int) ∧ s < q ∧ q < n from fun k y hy => by
   obtain ⟨q,h1,h2,h3⟩ := kidsL_mem.1 (List.mem_of_getElem? hy)
   obtain ⟨h4,h5⟩ := List.getElem?_eq_some_iff.1 h3
   have h6 := par_lt HUP.out h2 h4
   rw [HN.out] at h4
   exact ⟨q,h1,by omega,h4⟩)
  have HKL := Hh (show (kidsL ps s).length ≤ 24 by
   have := kids_len (ps.drop 1) s 1
   rw [List.length_drop,HN.out] at this
   unfold kidsL;omega)
  have HLV := Hh (show levF ps (f + 1) s = levGo ((kidsL ps s).map (levF ps f)) true (-1) from rfl)
  clear ih h
  go_enter Tryz.func36,Tryz.ntmps36
  go_wp2_with fail
  refine (HK.out _ ((Ext.refl w).alloc _)).mono ?_
  rintro e w1 ⟨A1,c1,rfl,ho1,hb1⟩
  have q0 := hb1.cell (law_box w [.slice A n c,.slice B m d] 26 0 _ rfl)
  have q1 := hb1.cell (law_box w [.slice A n c,.slice B m d] 26 1 _ rfl)
  have E1 : Ext w w1 := ((Ext.refl w).alloc _).trans hb1
  have HO := Hh ho1.slAt
  have hkl := HKL.out
  clear ho1 hb1 HK
  obtain ⟨K,hK⟩ : ∃ K,K = (kidsL ps s).length := ⟨_,rfl⟩
  rw [← hK] at HO hkl ⊢
  have HKE := Hh hK
  clear hK
  go_wp2
  go_loopw [5,13] (fun lv iv wr => ∃ (k : Nat) (l : Int),k ≤ K ∧ iv = .int .i64 k ∧ lv = .int .i64 l ∧ -1 ≤ l ∧ l ≤ f ∧ Hid (levF ps (f + 1) s = levGo (((kidsL ps s).map (levF ps f)).drop k) (decide (k = 0)) l) ∧ Ext w1 wr) (fun _ iv _ => K - (intOf iv).toNat)
  case atStart => exact ⟨0,-1,Nat.zero_le _,rfl,rfl,by omega,by omega,Hh (by rw [HLV.out];rfl),Ext.refl _⟩
  case round =>
   obtain ⟨k,l,hk,rfl,rfl,hl0,hl1,HE,hb⟩ := hrel
   have r0 := hb.cell q0
   have r1 := hb.cell q1
   have hsz : w.heap.size < wr.heap.size := lt_of_cell r0
   by_cases hlt : k < K
   ·obtain ⟨b,o,y,cs,rfl,hbw,hy,_,hc,rfl,_⟩ := (HO.out.ext (Flat.mono _ _) hb).at_ hlt
    have y0 := hc 0 _ rfl
    simp only [Nat.mul_one,Nat.add_zero] at y0
    obtain ⟨q,rfl,hq1,hq2⟩ := HMEM.out k y hy
    have HNX := Hh (levGo_next (l := l) (b := decide (k = 0)) (show ((kidsL ps s).map (levF ps f))[k]? = some (levF ps f q) by rw [List.getElem?_map,hy];rfl))
    have hbd := levF_bd ps f q
    clear hc hy
    go_wp2_with fail
    refine (HIH.out q _ hq2 (by omega) (HS.out _ (E1.trans hb)) (by omega)).mono ?_
    rintro e w2 ⟨rfl,hb2⟩
    generalize levF ps f q = v at *
    obtain ⟨hv0,hv1⟩ := hbd
    have E2 := Hh (hb.trans hb2)
    clear hb2 y0 r0 r1
    by_cases hv : v < 0
    ·have HF := Hh (show levF ps (f + 1) s = -1 by rw [HE.out,HNX.out,if_pos (.inl hv)])
     go_wp2
     exact ret_int rfl rfl rfl HF.out.symm (E1.trans E2.out)
    ·rcases Nat.eq_zero_or_pos k with hk0 | hk0
     ·subst hk0
      have HF := Hh (show levF ps (f + 1) s = levGo (((kidsL ps s).map (levF ps f)).drop (0 + 1)) (decide (0 + 1 = 0)) v by rw [HE.out,HNX.out,if_neg (by rintro (h | ⟨h,_⟩);exact hv h;simp at h)];rfl)
      go_wp2
      go_roundw
      case rel => exact ⟨0 + 1,v,by omega,by go_num,rfl,by omega,by omega,HF,E2.out⟩
      case measure => simp [intOf];omega
     ·have hkd : decide (k = 0) = false := by rw [decide_eq_false_iff_not];omega
      rcases (Bool.eq_false_or_eq_true (v == l)).symm with h1 | h1
      ·have h1' : (v != l) = true := by rw [bne,h1];rfl
       have HF := Hh (show levF ps (f + 1) s = -1 by rw [HE.out,HNX.out,if_pos (.inr ⟨hkd,by simpa using h1⟩)])
       clear hkd
       go_wp2
       exact ret_int rfl rfl rfl HF.out.symm (E1.trans E2.out)
      ·have h1' : (v != l) = false := by rw [bne,h1];rfl
       have HF := Hh (show levF ps (f + 1) s = levGo (((kidsL ps s).map (levF ps f)).drop (k + 1)) (decide (k + 1 = 0)) v by rw [HE.out,HNX.out,if_neg (by rintro (h | ⟨_,h⟩);exact hv h;exact h (by simpa using h1)),show decide (k + 1 = 0) = false by rw [decide_eq_false_iff_not];omega])
       clear h1 hkd
       go_wp2
       go_roundw
       case rel => exact ⟨k + 1,v,by omega,by go_num,rfl,by omega,by omega,HF,E2.out⟩
       case measure => simp [intOf];omega
   ·have HF := Hh (show levF ps (f + 1) s = l + 1 by rw [HE.out,List.drop_eq_nil_of_le (by rw [List.length_map,← HKE.out];omega)];rfl)
    clear r0 r1
    go_wp2
    exact ret_int rfl rfl rfl HF.out.symm (E1.trans hb)
theorem topo_spec {ps : List Int} {ns : List Node} {n : Nat} (hn : ps.length = n) (h1 : 1 ≤ n) (hup : upGo (ps.drop 1) 1 = true) : (deepGo ps n 0 (-1) && ns.all (nodeB ps)) = (ns.all (nodeB ps) && decide (0 ≤ levF ps n 0)) := by
 subst hn
 rw [deep_lev hup h1 (Nat.le_refl _),Bool.and_comm]
theorem sTopoOk_c (ps : List Int) (ns : List Node) (A : Option Addr) (n c : Nat) (B : Option Addr) (m d : Nat) (w : World) (h : SlAt RInt 1 w A n ps) (hl : n ≤ maxLen) (h2 : SlAt RNode 4 w B m ns) (hl2 : m ≤ maxLen) : Calls Tryz.prog 87 #[.agg #[.slice A n c,.slice B m d]] w (Ret w (.bool (topoB ps ns))) := by
 have hl' := hl
 unfold maxLen at hl hl2
 have HN := Hh h.len
 have HN2 := Hh h2.len
 have hM := Flat.mono Node.enc Node.ok
 by_cases hn1 : 1 ≤ n
 rotate_left
 ·have h0 : n = 0 := by omega
  subst h0
  have HF := Hh (show topoB ps ns = false by unfold topoB;rw [HN.out];rfl)
  clear h h2
  go_enter Tryz.func87,Tryz.ntmps87
  go_wp2
  exact ret_bool rfl rfl rfl HF.out.symm Ext.go
 by_cases hn24 : n ≤ 24
 rotate_left
 ·have HF := Hh (show topoB ps ns = false by unfold topoB;rw [HN.out,show decide (1 ≤ n ∧ n ≤ 24) = false by rw [decide_eq_false_iff_not];omega];rfl)
  clear h h2
  go_enter Tryz.func87,Tryz.ntmps87
  go_wp2
  exact ret_bool rfl rfl rfl HF.out.symm Ext.go
 by_cases hm24 : m ≤ 24
 rotate_left
 ·have HF := Hh (show topoB ps ns = false by unfold topoB;rw [HN2.out,show decide (m ≤ 24) = false by rw [decide_eq_false_iff_not];omega];simp)
  clear h h2
  go_enter Tryz.func87,Tryz.ntmps87
  go_wp2
  exact ret_bool rfl rfl rfl HF.out.symm Ext.go
 obtain ⟨b,o,p0,cs,rfl,hbw,hp0,_,hc,rfl,_⟩ := h.at_ hn1
 have k0 := hc 0 _ rfl
 simp only [Nat.mul_one,Nat.add_zero] at k0
 have HG0 := Hh (show ps.getD 0 0 = p0 by rw [List.getD_eq_getElem?_getD,hp0];rfl)
 clear hc hp0
 rcases (Bool.eq_false_or_eq_true (p0 == 0)).symm with hz | hz
 ·have HF := Hh (show topoB ps ns = false by unfold topoB;rw [HG0.out,hz];simp)
  have hz' : (p0 != 0) = true := by rw [bne,hz];rfl
  clear h h2
  go_enter Tryz.func87,Tryz.ntmps87
  go_wp2
  exact ret_bool rfl rfl rfl HF.out.symm Ext.go
 have hz' : (p0 != 0) = false := by rw [bne,hz];rfl
 have HHD := Hh (show topoB ps ns = (upGo (ps.drop 1) 1 && (deepGo ps n 0 (-1) && ns.all (nodeB ps))) by
  unfold topoB
  rw [HG0.out,hz,HN.out,HN2.out,show decide (1 ≤ n ∧ n ≤ 24) = true by rw [decide_eq_true_iff];omega,show decide (m ≤ 24) = true by rw [decide_eq_true_iff];omega];rfl)
 have HS := Hh (fun (u : World) (e : Ext w u) => h.ext (Flat.mono _ _) e)
 have HS2 := Hh (fun (u : World) (e : Ext w u) => h2.ext hM e)
 clear h h2 HG0
 go_enter Tryz.func87,Tryz.ntmps87
 go_wp2
 clear k0 hz hz'
 obtain ⟨W1,hW1⟩ : ∃ u,u = w.alloc (.cells #[.slice (some ⟨b,o,none⟩) n c,.slice B m d] 26) := ⟨_,rfl⟩
 have E1 : Ext w W1 := by rw [hW1];exact (Ext.refl w).alloc _
 have q0 : W1.cell? ⟨w.heap.size,0,none⟩ = some (.slice (some ⟨b,o,none⟩) n c) := by rw [hW1];exact law_box w [.slice (some ⟨b,o,none⟩) n c,.slice B m d] _ 0 _ rfl
 have q1 : W1.cell? ⟨w.heap.size,1,none⟩ = some (.slice B m d) := by rw [hW1];exact law_box w [.slice (some ⟨b,o,none⟩) n c,.slice B m d] _ 1 _ rfl
 rw [← hW1]
 clear hW1
 go_loop [3] (fun iv => ∃ k : Nat,1 ≤ k ∧ k ≤ n ∧ iv = .int .i64 k ∧ Hid (upGo (ps.drop 1) 1 = upGo (ps.drop k) k)) (fun iv => n - (intOf iv).toNat)
 case atStart => exact ⟨1,by omega,hn1,rfl,Hh rfl⟩
 case round =>
  obtain ⟨k,hk1,hk,rfl,HE⟩ := hrel
  by_cases hlt : k < n
  ·obtain ⟨b',o',x,cs,eb,hbw',hx,_,hc,rfl,_⟩ := (HS.out W1 E1).at_ hlt
   injection eb with eb
   injection eb with eb eo
   subst eb eo
   have c0 := hc 0 _ rfl
   simp only [Nat.mul_one,Nat.add_zero] at c0
   have HU := Hh (upGo_next hx)
   clear hc hx
   by_cases hx0 : x < 0
   ·have HF := Hh (show topoB ps ns = false by rw [HHD.out,HE.out,HU.out,show decide (0 ≤ x ∧ x < k) = false by rw [decide_eq_false_iff_not];omega];rfl)
    go_wp2
    exact ret_bool rfl rfl rfl HF.out.symm E1
   ·by_cases hxk : (k : Int) ≤ x
    ·have HF := Hh (show topoB ps ns = false by rw [HHD.out,HE.out,HU.out,show decide (0 ≤ x ∧ x < k) = false by rw [decide_eq_false_iff_not];omega];rfl)
     go_wp2
     exact ret_bool rfl rfl rfl HF.out.symm E1
    ·have HT := Hh (show upGo (ps.drop 1) 1 = upGo (ps.drop (k + 1)) (k + 1) by rw [HE.out,HU.out,show decide (0 ≤ x ∧ x < k) = true by rw [decide_eq_true_iff];omega];rfl)
     go_wp2
     go_round
     case rel => exact ⟨k + 1,by omega,by omega,by go_num,HT⟩
     case measure => simp [intOf];omega
  ·have HUP := Hh (show upGo (ps.drop 1) 1 = true by rw [HE.out,List.drop_eq_nil_of_le (by have := HN.out;omega)];rfl)
   have HH2 := Hh (show topoB ps ns = (ns.all (nodeB ps) && decide (0 ≤ levF ps n 0)) by rw [HHD.out,HUP.out,← topo_spec HN.out hn1 HUP.out];rfl)
   have HKD := Hh (fun (s : Int) (u : World) (e : Ext w u) => l02Kids_c ps s (some ⟨b,o,none⟩) n c B m d u (HS.out u e) (by omega))
   have HLV := Hh (fun (u : World) (e : Ext w u) => l02Level_c ps (some ⟨b,o,none⟩) n c B m d hn24 HN.out HUP.out n 0 u (by omega) (by omega) (HS.out u e) hn24)
   clear HE HHD
   go_wp2
   go_loopw [54] (fun iv wr => ∃ j : Nat,j ≤ m ∧ iv = .int .i64 j ∧ Ext W1 wr ∧ Hid (ns.all (nodeB ps) = (ns.drop j).all (nodeB ps))) (fun iv _ => m - (intOf iv).toNat)
   case atStart => exact ⟨0,Nat.zero_le _,rfl,Ext.refl _,Hh rfl⟩
   case round =>
    obtain ⟨j,hj,rfl,hb,HE⟩ := hrel
    have E2 := E1.trans hb
    have r0 := hb.cell q0
    have r1 := hb.cell q1
    have hsz : w.heap.size < wr.heap.size := lt_of_cell r0
    by_cases hlt : j < m
    ·obtain ⟨b',o',x,cs,rfl,hbw',hx,_,hc,rfl,_⟩ := (HS2.out wr E2).at_ hlt
     have y0 := hc 0 _ rfl
     have y1 := hc 1 _ rfl
     have y2 := hc 2 _ rfl
     have y3 := hc 3 _ rfl
     simp only [Nat.add_zero] at y0
     have HA := Hh (show ns.all (nodeB ps) = (nodeB ps x && (ns.drop (j + 1)).all (nodeB ps)) by rw [HE.out,drop_cons hx,List.all_cons])
     have HQ := Hh (show nodeB ps x = (withinB x.Leaf 0 ((n : Int) - 1) && (leafB ps x.Leaf && vecB x.Cap)) by unfold nodeB;rw [HN.out])
     clear hc hx
     by_cases hx0 : x.Leaf < 0
     ·have HF := Hh (show topoB ps ns = false by rw [HH2.out,HA.out,HQ.out,show withinB x.Leaf 0 ((n : Int) - 1) = false by unfold withinB;rw [decide_eq_false_iff_not];omega];rfl)
      go_wp2
      exact ret_bool rfl rfl rfl HF.out.symm (E2.trans ((Ext.refl _).alloc _))
     by_cases hxk : (n : Int) ≤ x.Leaf
     ·have HF := Hh (show topoB ps ns = false by rw [HH2.out,HA.out,HQ.out,show withinB x.Leaf 0 ((n : Int) - 1) = false by unfold withinB;rw [decide_eq_false_iff_not];omega];rfl)
      go_wp2
      exact ret_bool rfl rfl rfl HF.out.symm (E2.trans ((Ext.refl _).alloc _))
     have HW := Hh (show withinB x.Leaf 0 ((n : Int) - 1) = true by unfold withinB;rw [decide_eq_true_iff];omega)
     have HKX := Hh (HKD.out x.Leaf)
     have HKN := Hh (kids_nil (ps := ps) (s := x.Leaf))
     have hkl : (kidsL ps x.Leaf).length ≤ 24 := by
      have := kids_len (ps.drop 1) x.Leaf 1
      rw [List.length_drop,HN.out] at this
      unfold kidsL;omega
     go_wp2_with fail
     refine (HKX.out _ (E2.trans ((Ext.refl _).alloc _))).mono ?_
     rintro e w3 ⟨A3,c3,rfl,ho3,hb3⟩
     have s1 := hb3.cell (law_box wr [.int .i64 x.Leaf,.int .i64 x.Cap.A,.int .i64 x.Cap.B,.int .i64 x.Cap.C] 85 1 _ rfl)
     have s2 := hb3.cell (law_box wr [.int .i64 x.Leaf,.int .i64 x.Cap.A,.int .i64 x.Cap.B,.int .i64 x.Cap.C] 85 2 _ rfl)
     have s3 := hb3.cell (law_box wr [.int .i64 x.Leaf,.int .i64 x.Cap.A,.int .i64 x.Cap.B,.int .i64 x.Cap.C] 85 3 _ rfl)
     have E3 := Hh (hb.trans (((Ext.refl _).alloc _).trans hb3))
     have hlw3 : wr.heap.size < w3.heap.size := lt_of_cell s1
     generalize kidsL ps x.Leaf = kl at *
     clear ho3 hb3 y0 y1 y2 y3 r0 r1
     rcases (Bool.eq_false_or_eq_true (leafB ps x.Leaf)).symm with h2 | h2
     ·have hpos : 0 < kl.length := by
       rcases Nat.eq_zero_or_pos kl.length with h0 | h0
       ·have h3 := HKN.out;rw [List.eq_nil_of_length_eq_zero h0,h2] at h3;cases h3
       ·exact h0
      have HF := Hh (show topoB ps ns = false by rw [HH2.out,HA.out,HQ.out,HW.out,h2];rfl)
      generalize kl.length = kn at *
      go_wp2
      exact ret_bool rfl rfl rfl HF.out.symm (E1.trans E3.out)
     have hzero : kl.length = 0 := by
      have h3 := HKN.out;rw [h2,List.isEmpty_iff] at h3;rw [h3];rfl
     rw [hzero]
     clear hzero hkl
     go_wp2_with fail
     refine (sVecOk_c x.Cap _).mono ?_
     rintro e w4 ⟨rfl,hb4⟩
     have E4 := Hh (E3.out.trans hb4)
     clear hb4 s1 s2 s3
     rcases (Bool.eq_false_or_eq_true (vecB x.Cap)).symm with h3 | h3
     ·have HF := Hh (show topoB ps ns = false by rw [HH2.out,HA.out,HQ.out,HW.out,h2,h3];rfl)
      go_wp2
      exact ret_bool rfl rfl rfl HF.out.symm (E1.trans E4.out)
     ·have HT := Hh (show ns.all (nodeB ps) = (ns.drop (j + 1)).all (nodeB ps) by rw [HA.out,HQ.out,HW.out,h2,h3];rfl)
      go_wp2
      go_roundw
      case rel => exact ⟨j + 1,by omega,by go_num,E4.out,HT⟩
      case measure => simp [intOf];omega
    ·have HT := Hh (show topoB ps ns = decide (0 ≤ levF ps n 0) by rw [HH2.out,HE.out,List.drop_eq_nil_of_le (by have := HN2.out;omega)];rfl)
     have hbd := levF_bd ps n 0
     have HLX := Hh (HLV.out wr E2)
     clear HLV HH2 HE
     rw [show levF ps n ((0 : Nat) : Int) = levF ps n 0 from rfl] at HLX
     generalize levF ps n 0 = v at *
     go_wp2_with fail
     refine HLX.out.mono ?_
     rintro e w3 ⟨rfl,hb3⟩
     go_wp2
     exact ret_bool rfl rfl rfl HT.out.symm (E2.trans hb3)
def ltI (a b : Int) : Bool := decide (a < b)
def ascB (l : List Int) : Bool := chainGo (fun _ => true) ltI none l
def nodesB (m : Nat) (l : List Int) : Bool := l.all (fun x => withinB x 0 ((m : Int) - 1))
theorem acell_box (w : World) (cs : List Value) (e : TypeId) (j : Nat) (u : Value) (h : cs[j]? = some u) : (w.alloc (.cells cs.toArray e)).cell? ⟨w.heap.size,j,none⟩ = some u := law_box w cs e j u h
theorem asc_next {l : List Int} {k : Nat} {p x : Int} (hk : 0 < k) (hp : l[k - 1]? = some p) (hx : l[k]? = some x) : chainGo (fun _ => true) ltI (prevOf l k) (l.drop k) = (ltI p x && chainGo (fun _ => true) ltI (prevOf l (k + 1)) (l.drop (k + 1))) := by
 rw [drop_cons hx,prevOf_succ hx,prevOf,if_neg (by omega),hp];simp [chainGo]
theorem asc_start (l : List Int) : ascB l = chainGo (fun _ => true) ltI (prevOf l 1) (l.drop 1) := by
 cases l with
 | nil => rfl
 | cons a r => simp [ascB,chainGo,prevOf]
theorem asc_end {l : List Int} {k : Nat} (h : l.length ≤ k) : chainGo (fun _ => true) ltI (prevOf l k) (l.drop k) = true := by
 rw [List.drop_eq_nil_of_le h,chain_end]
theorem areAscending_c (xs : List Int) (A : Option Addr) (n c : Nat) (w : World) (h : SlAt RInt 1 w A n xs) (hl : n ≤ maxLen) : Calls Tryz.prog 30 #[.slice A n c] w (Ret w (.bool (ascB xs))) := by
 unfold maxLen at hl
 have HN := Hh h.len
 go_enter Tryz.func30,Tryz.ntmps30
 go_wp2
 go_loopw [3] (fun iv wr => ∃ k : Nat,1 ≤ k ∧ k ≤ n + 1 ∧ iv = .int .i64 k ∧ Ext w wr ∧ Hid (ascB xs = chainGo (fun _ => true) ltI (prevOf xs k) (xs.drop k))) (fun iv _ => n + 1 - (intOf iv).toNat)
 case atStart => exact ⟨1,by omega,by omega,rfl,Ext.refl _,Hh (asc_start xs)⟩
 case round =>
  obtain ⟨k,hk1,hk,rfl,hb,HE⟩ := hrel
  by_cases hlt : k < n
  ·obtain ⟨b,o,x,cs,rfl,hbw,hx,_,hc,rfl,_⟩ := (h.ext (Flat.mono _ _) hb).at_ hlt
   obtain ⟨b',o',p,cs',eb,_,hp,_,hc',rfl,_⟩ := (h.ext (Flat.mono _ _) hb).at_ (show k - 1 < n by omega)
   injection eb with eb
   injection eb with eb eo
   subst eb eo
   have c0 := hc 0 _ rfl
   simp only [Nat.mul_one,Nat.add_zero] at c0
   have d0 := hc' 0 _ rfl
   simp only [Nat.mul_one,Nat.add_zero] at d0
   have HNX := Hh (asc_next hk1 hp hx)
   have HB := Hh hb
   have hk0 : 0 < k := hk1
   clear hc hc' hx hp hb h
   rcases Bool.eq_false_or_eq_true (decide (x ≤ p)) with h1 | h1
   ·have HF := Hh (show ascB xs = false by rw [HE.out,HNX.out,show ltI p x = false by unfold ltI;rw [decide_eq_false_iff_not];have := of_decide_eq_true h1;omega];rfl)
    have hcx := @Later.cell wr
    go_wp2
    refine wp_region_ext (by kernel_rfl) (by kernel_rfl) ?_
    repeat (go_big_quiet_step (fail))
    refine wpQuiet_nil ?_
    intro w1 hb1
    have HB1 := Hh hb1
    clear hcx c0 d0 hb1
    go_wp2
    exact ret_bool rfl rfl rfl HF.out.symm (HB.out.trans HB1.out)
   ·have HT := Hh (show ascB xs = chainGo (fun _ => true) ltI (prevOf xs (k + 1)) (xs.drop (k + 1)) by rw [HE.out,HNX.out,show ltI p x = true by unfold ltI;rw [decide_eq_true_iff];have := of_decide_eq_false h1;omega];rfl)
    have hcx := @Later.cell wr
    go_wp2
    refine wp_region_ext (by kernel_rfl) (by kernel_rfl) ?_
    repeat (go_big_quiet_step (fail))
    refine wpQuiet_nil ?_
    intro w1 hb1
    have HB1 := Hh hb1
    clear hcx c0 d0 hb1
    go_wp2
    go_roundw
    case rel => exact ⟨k + 1,by omega,by omega,by go_num,HB.out.trans HB1.out,HT⟩
    case measure => simp [intOf];omega
  ·have HF := Hh (show ascB xs = true by rw [HE.out,asc_end (by have := HN.out;omega)])
   clear h
   go_wp2
   exact ret_bool rfl rfl rfl HF.out.symm hb
theorem areNodes_c (ps : List Int) (ns : List Node) (xs : List Int) (A : Option Addr) (n c : Nat) (B : Option Addr) (m d : Nat) (D : Option Addr) (q f : Nat) (w : World) (h : SlAt RInt 1 w A n ps) (hl : n ≤ maxLen) (h2 : SlAt RNode 4 w B m ns) (hl2 : m ≤ maxLen) (h3 : SlAt RInt 1 w D q xs) (hl3 : q ≤ maxLen) : Calls Tryz.prog 54 #[.agg #[.slice A n c,.slice B m d],.slice D q f] w (Ret w (.bool (nodesB ns.length xs && topoB ps ns))) := by
 have HT := Hh (fun (u : World) (e : Ext w u) => TopoOk_c ps ns A n c B m d u (h.ext (Flat.mono _ _) e) hl (h2.ext (Flat.mono _ _) e) hl2)
 have HWI := Hh (fun (x lo hi : Int) (u : World) => within_c x lo hi u)
 have HM := Hh h2.len
 unfold maxLen at hl hl2 hl3
 have HN := Hh h3.len
 clear h h2
 go_enter Tryz.func54,Tryz.ntmps54
 go_wp2
 go_loopw [9] (fun iv wr => ∃ k : Nat,k ≤ q ∧ iv = .int .i64 k ∧ Ext (w.alloc (.cells #[.slice A n c,.slice B m d] 26)) wr ∧ Hid (nodesB ns.length xs = (xs.drop k).all (fun x => withinB x 0 ((m : Int) - 1)))) (fun iv _ => q - (intOf iv).toNat)
 case atStart => exact ⟨0,Nat.zero_le _,rfl,Ext.refl _,Hh (by unfold nodesB;rw [HM.out];rfl)⟩
 case round =>
  obtain ⟨k,hk,rfl,hb,HE⟩ := hrel
  have q0 := hb.cell (acell_box w [.slice A n c,.slice B m d] 26 0 _ rfl)
  have q1 := hb.cell (acell_box w [.slice A n c,.slice B m d] 26 1 _ rfl)
  have eW : Ext w wr := ((Ext.refl w).alloc _).trans hb
  have hsz : w.heap.size < wr.heap.size := lt_of_cell q0
  by_cases hlt : k < q
  ·obtain ⟨b,o,x,cs,rfl,hbw,hx,_,hc,rfl,_⟩ := (h3.ext (Flat.mono _ _) eW).at_ hlt
   have y0 := hc 0 _ rfl
   simp only [Nat.mul_one,Nat.add_zero] at y0
   have HNX := Hh (show nodesB ns.length xs = (withinB x 0 ((m : Int) - 1) && (xs.drop (k + 1)).all (fun x => withinB x 0 ((m : Int) - 1))) by rw [HE.out,drop_cons hx,List.all_cons])
   clear hc hx h3
   go_wp2_with fail
   refine (HWI.out x 0 ((m : Int) - 1) _).mono ?_
   rintro e w1 ⟨rfl,rfl⟩
   rcases (Bool.eq_false_or_eq_true (withinB x 0 ((m : Int) - 1))).symm with h1 | h1
   ·have HF := Hh (show (nodesB ns.length xs && topoB ps ns) = false by rw [HNX.out,h1];rfl)
    go_wp2
    exact ret_bool rfl rfl rfl HF.out.symm eW
   ·have HF := Hh (show nodesB ns.length xs = (xs.drop (k + 1)).all (fun x => withinB x 0 ((m : Int) - 1)) by rw [HNX.out,h1];rfl)
    go_wp2
    go_roundw
    case rel => exact ⟨k + 1,by omega,by go_num,hb,HF⟩
    case measure => simp [intOf];omega
  ·have HF := Hh (show (nodesB ns.length xs && topoB ps ns) = topoB ps ns by rw [HE.out,List.drop_eq_nil_of_le (by have := HN.out;omega)];rfl)
   clear h3
   go_wp2_with fail
   refine (HT.out _ eW).mono ?_
   rintro e w2 ⟨rfl,hb2⟩
   go_wp2
   exact ret_bool rfl rfl rfl HF.out.symm (eW.trans hb2)
theorem l02Nodes_c (ps : List Int) (ns : List Node) (xs : List Int) (A : Option Addr) (n c : Nat) (B : Option Addr) (m d : Nat) (D : Option Addr) (q f : Nat) (w : World) (h : SlAt RInt 1 w A n ps) (hl : n ≤ maxLen) (h2 : SlAt RNode 4 w B m ns) (hl2 : m ≤ maxLen) (h3 : SlAt RInt 1 w D q xs) (hl3 : q ≤ maxLen) : Calls Tryz.prog 63 #[.agg #[.slice A n c,.slice B m d],.slice D q f] w (Ret w (.bool (nodesB ns.length xs && topoB ps ns))) := by
 have HT := Hh (fun (u : World) (e : Ext w u) => sTopoOk_c ps ns A n c B m d u (h.ext (Flat.mono _ _) e) hl (h2.ext (Flat.mono _ _) e) hl2)
 have HM := Hh h2.len
 unfold maxLen at hl hl2 hl3
 have HN := Hh h3.len
 clear h h2
 go_enter Tryz.func63,Tryz.ntmps63
 go_wp2
 go_loopw [9] (fun iv wr => ∃ k : Nat,k ≤ q ∧ iv = .int .i64 k ∧ Ext (w.alloc (.cells #[.slice A n c,.slice B m d] 26)) wr ∧ Hid (nodesB ns.length xs = (xs.drop k).all (fun x => withinB x 0 ((m : Int) - 1)))) (fun iv _ => q - (intOf iv).toNat)
 case atStart => exact ⟨0,Nat.zero_le _,rfl,Ext.refl _,Hh (by unfold nodesB;rw [HM.out];rfl)⟩
 case round =>
  obtain ⟨k,hk,rfl,hb,HE⟩ := hrel
  have q0 := hb.cell (acell_box w [.slice A n c,.slice B m d] 26 0 _ rfl)
  have q1 := hb.cell (acell_box w [.slice A n c,.slice B m d] 26 1 _ rfl)
  have eW : Ext w wr := ((Ext.refl w).alloc _).trans hb
  have hsz : w.heap.size < wr.heap.size := lt_of_cell q0
  by_cases hlt : k < q
  ·obtain ⟨b,o,x,cs,rfl,hbw,hx,_,hc,rfl,_⟩ := (h3.ext (Flat.mono _ _) eW).at_ hlt
   have y0 := hc 0 _ rfl
   simp only [Nat.mul_one,Nat.add_zero] at y0
   have HNX := Hh (show nodesB ns.length xs = (withinB x 0 ((m : Int) - 1) && (xs.drop (k + 1)).all (fun x => withinB x 0 ((m : Int) - 1))) by rw [HE.out,drop_cons hx,List.all_cons])
   clear hc hx h3
   by_cases h1 : x < 0
   ·have HF := Hh (show (nodesB ns.length xs && topoB ps ns) = false by rw [HNX.out,show withinB x 0 ((m : Int) - 1) = false by unfold withinB;rw [decide_eq_false_iff_not];omega];rfl)
    go_wp2
    exact ret_bool rfl rfl rfl HF.out.symm eW
   by_cases h2 : (m : Int) ≤ x
   ·have HF := Hh (show (nodesB ns.length xs && topoB ps ns) = false by rw [HNX.out,show withinB x 0 ((m : Int) - 1) = false by unfold withinB;rw [decide_eq_false_iff_not];omega];rfl)
    go_wp2
    exact ret_bool rfl rfl rfl HF.out.symm eW
   ·have HF := Hh (show nodesB ns.length xs = (xs.drop (k + 1)).all (fun x => withinB x 0 ((m : Int) - 1)) by rw [HNX.out,show withinB x 0 ((m : Int) - 1) = true by unfold withinB;rw [decide_eq_true_iff];omega];rfl)
    go_wp2
    go_roundw
    case rel => exact ⟨k + 1,by omega,by go_num,hb,HF⟩
    case measure => simp [intOf];omega
  ·have HF := Hh (show (nodesB ns.length xs && topoB ps ns) = topoB ps ns by rw [HE.out,List.drop_eq_nil_of_le (by have := HN.out;omega)];rfl)
   clear h3
   go_wp2_with fail
   refine (HT.out _ eW).mono ?_
   rintro e w2 ⟨rfl,hb2⟩
   go_wp2
   exact ret_bool rfl rfl rfl HF.out.symm (eW.trans hb2)
theorem SlAt.cutk {α : Type} {R : Rel α} {sz n k : Nat} {w : World} {A : Option Addr} {xs : List α} (h : SlAt R sz w A n xs) (hk : k ≤ n) : SlAt R sz w A k (xs.take k) := by
 refine ⟨by rw [List.length_take,h.1];omega,fun h0 => ?_⟩
 obtain ⟨b,o,e,hb,hc⟩ := h.2 (by omega)
 refine ⟨b,o,e,hb,fun j x hx => ?_⟩
 rw [List.getElem?_take] at hx
 split at hx
 ·exact hc j x hx
 ·cases hx
theorem dist_step {xs : List Int} {k : Nat} {x : Int} (hx : xs[k]? = some x) : distGo (xs.take k) (xs.drop k) = (!(xs.take k).contains x && distGo (xs.take (k + 1)) (xs.drop (k + 1))) := by
 rw [drop_cons hx,distGo,take_succ hx]
theorem areJobNodes_c (ps : List Int) (ns : List Node) (j : Job) (xs : List Int) (A : Option Addr) (n c : Nat) (B : Option Addr) (m d : Nat) (D : Option Addr) (q f : Nat) (w : World) (h : SlAt RInt 1 w A n ps) (h2 : SlAt RNode 4 w B m ns) (h3 : SlAt RInt 1 w D q xs) (hl3 : q ≤ maxLen) (hcap : q ≤ f) (ht : topoB ps ns = true) : Calls Tryz.prog 78 #[.agg #[.slice A n c,.slice B m d],.agg #[.int .i64 j.Id,.int .i64 j.Prio,.int .i64 j.Nodes,.int .i64 j.Need.A,.int .i64 j.Need.B,.int .i64 j.Need.C,.int .i64 j.Lic.A,.int .i64 j.Lic.B,.int .i64 j.Lic.C,.int .i64 j.Wall,.int .i64 j.Level],.slice D q f] w (Ret w (.bool (jobNodesB ns.length j xs))) := by
 have hl3' := hl3
 unfold maxLen at hl3
 obtain ⟨⟨_,hp1⟩,hn1,_⟩ := topo_parts ht
 have hM := Flat.mono encInt In64
 have HA := Hh (fun (u : World) (e : Ext w u) => areNodes_c ps ns xs A n c B m d D q f u (h.ext hM e) (by rw [← h.len];unfold maxLen;omega) (h2.ext (Flat.mono _ _) e) (by rw [← h2.len];unfold maxLen;omega) (h3.ext hM e) hl3')
 rw [ht,Bool.and_true] at HA
 have HC := Hh (fun (u : World) (e : Ext w u) (k : Nat) (x : Int) (hk : k ≤ q) => Contains_c (xs.take k) x D k f u ((h3.ext hM e).cutk hk) (by omega))
 have H3 := Hh (fun (u : World) (e : Ext w u) => h3.ext hM e)
 have HJ := Hh (show jobNodesB ns.length j xs = (distGo [] xs && (nodesB ns.length xs && decide (((q : Nat) : Int) = j.Nodes))) by unfold jobNodesB;rw [Bool.and_assoc,h3.len];rfl)
 have HN := Hh h3.len
 have HD0 := Hh (show distGo [] xs = distGo [] xs from rfl)
 clear h h2 h3 ht hp1 hn1
 generalize jobNodesB ns.length j xs = R at *
 generalize hd0 : distGo [] xs = dg at *
 generalize nodesB ns.length xs = nb at *
 go_enter Tryz.func78,Tryz.ntmps78
 go_wp2
 go_loopw [11] (fun iv wr => ∃ k : Nat,k ≤ q ∧ iv = .int .i64 k ∧ Hid (dg = distGo (xs.take k) (xs.drop k)) ∧ Ext ((w.alloc (.cells #[.slice A n c,.slice B m d] 26)).alloc (.cells #[.int .i64 j.Id,.int .i64 j.Prio,.int .i64 j.Nodes,.int .i64 j.Need.A,.int .i64 j.Need.B,.int .i64 j.Need.C,.int .i64 j.Lic.A,.int .i64 j.Lic.B,.int .i64 j.Lic.C,.int .i64 j.Wall,.int .i64 j.Level] 52)) wr) (fun iv _ => q - (intOf iv).toNat)
 case atStart => exact ⟨0,Nat.zero_le _,rfl,Hh hd0.symm,Ext.go⟩
 case round =>
  clear hd0
  obtain ⟨k,hk,rfl,HE,hb⟩ := hrel
  have hx0 : Ext w wr := (((Ext.refl w).alloc _).alloc _).trans hb
  by_cases hlt : k < q
  ·obtain ⟨b,o,x,cs,rfl,hbw,hx,_,hc,rfl,hok⟩ := (H3.out wr hx0).at_ hlt
   have g0 := hc 0 _ rfl
   simp only [Nat.mul_one,Nat.add_zero] at g0
   have HS := Hh (dist_step hx)
   have hkf : k ≤ f := by omega
   clear hx hc hok
   go_wp2_with fail
   refine (HC.out _ hx0 k x (by omega)).mono ?_
   rintro e w4 ⟨rfl,hb4⟩
   generalize (xs.take k).contains x = ct at *
   rcases ct with _ | _
   ·go_wp2
    go_roundw
    case rel => exact ⟨k + 1,by omega,by go_num,Hh (by rw [HE.out,HS.out];rfl),hb.trans hb4⟩
    case measure => simp [intOf];omega
   ·go_wp2
    refine ret_bool rfl rfl rfl ?_ (hx0.trans hb4)
    rw [HJ.out,HE.out,HS.out];rfl
  ·obtain rfl : k = q := by omega
   have HZ := Hh (show dg = true by rw [HE.out,List.drop_eq_nil_of_le (by have := HN.out;omega)];rfl)
   obtain ⟨b0,b1⟩ := bc2 w (w.heap.size) (.slice A n c) (.slice B m d) 26 ((((Ext.refl _).alloc _).trans hb)) (by simp)
   obtain ⟨bf0,bf1⟩ := bf2 w (w.heap.size) (.slice A n c) (.slice B m d) 26 ((((Ext.refl _).alloc _).trans hb)) (by simp)
   have hb0 := lt_of_cell b0
   go_wp2_with fail
   refine (HA.out _ hx0).mono ?_
   rintro e w4 ⟨rfl,hb4⟩
   have j2 := (hb.trans hb4).cell (cell_box_at (w.alloc (.cells #[.slice A n c,.slice B m d] 26)) (w.heap.size + 1) (by simp) [.int .i64 j.Id,.int .i64 j.Prio,.int .i64 j.Nodes,.int .i64 j.Need.A,.int .i64 j.Need.B,.int .i64 j.Need.C,.int .i64 j.Lic.A,.int .i64 j.Lic.B,.int .i64 j.Lic.C,.int .i64 j.Wall,.int .i64 j.Level] 52 2 _ rfl)
   have hj2 := lt_of_cell j2
   rcases nb with _ | _
   ·go_wp2
    refine ret_bool rfl rfl rfl ?_ (hx0.trans hb4)
    rw [HJ.out,HZ.out];rfl
   ·go_wp2
    refine ret_bool rfl rfl rfl ?_ (hx0.trans hb4)
    rw [HJ.out,HZ.out]
    first | rfl | simp
end Go.Proofs.YtfanjhcdjbnnnaaGreat
