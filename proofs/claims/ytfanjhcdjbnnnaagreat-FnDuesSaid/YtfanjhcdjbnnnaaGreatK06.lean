/- Chg. -/
import Derived.Test.YtfanjhcdjbnnnaaGreatK05
import Derived.Test.YtfanjhcdjbnnnaaGreatK02
import Derived.Test.YtfanjhcdjbnnnaaGreatK03
import Derived.BigQuiet
namespace Go.Proofs.YtfanjhcdjbnnnaaGreat
set_option maxHeartbeats 8000000
set_option maxRecDepth 8000
open Go.RowKit
set_option linter.unusedVariables false
theorem run_vec_ne (w : World) (a b c a' b' c' : Int) : (binOp .neq 29 (.agg #[.int .i64 a,.int .i64 b,.int .i64 c]) (.agg #[.int .i64 a',.int .i64 b',.int .i64 c'])).run Tryz.prog w = .ok (.bool (!(a == a' && (b == b' && c == c')))) w := by
 simp [go_sem,Tryz.underlying29,Tryz.underlying3]
 by_cases h1 : a = a' <;> by_cases h2 : b = b' <;> by_cases h3 : c = c' <;> simp [h1,h2,h3]
attribute [local go_sem ↓] run_vec_eq run_vec_guard run_vec_ne
theorem vec_beq {a b : Vec} {d : Bool} (h : decide (a = b) = d) : (a.A == b.A && (a.B == b.B && a.C == b.C)) = d := by
 subst h
 cases a;cases b
 rw [Bool.eq_iff_iff]
 simp
def RetP (w : World) (r : Option (List Pt)) : Ending → World → Prop := fun e w' => ∃ A c l,e = .returned (.tuple #[.agg #[.slice A l.length c],.bool r.isSome]) ∧ (r = some l ∨ r = none ∧ l = []) ∧ w'.ownsRow w.heap.size 133 4 (.slice A l.length c) l.length (l.flatMap Pt.enc) ∧ (∀ y ∈ l,y.ok) ∧ Ext w w'
theorem cInt_one (y : Int) : ∀ u ∈ encInt y,u.oneCell' = true := by
 intro u hu;simp [encInt] at hu;subst hu;rfl
theorem pt_one (y : Pt) : ∀ u ∈ y.enc,u.oneCell' = true := by
 intro u hu;simp [Pt.enc] at hu;rcases hu with rfl | rfl | rfl | rfl <;> rfl
theorem in64_if {n : Int} (h1 : -9223372036854775808 ≤ n) (h2 : n ≤ 9223372036854775807) : In64 n := ⟨h1,h2⟩
theorem sl_one_at {α : Type} {enc : α → List Value} {ok : α → Prop} {sz : Nat} (w : World) (b : Nat) (hb : w.heap.size = b) (x : α) (e : TypeId) (hsz : (enc x).length = sz) (hx : ok x) : SlAt (Flat enc ok) sz (w.alloc (.cells (enc x).toArray e)) (some ⟨b,0,none⟩) 1 [x] := by
 subst hb;exact sl_one_r w x e hsz hx
theorem retP_none {w w' : World} {r : Option (List Pt)} (h : r = none) (hb : Ext w w') : RetP w r (.returned (.tuple #[.agg #[.slice none 0 0],.bool false])) w' := by
 subst h
 exact ⟨none,0,[],rfl,.inr ⟨rfl,rfl⟩,World.ownsRow_nil _ _ _ _,fun y hy => by simp at hy,hb⟩
theorem grown_turned {w w' : World} {g lo hi : Nat} (h : w.grownBy w' (some g)) (h1 : lo ≤ g) (h2 : w'.heap.size ≤ hi) (h3 : g < w.heap.size) : Turned lo hi w w' :=
 ⟨h.os,h.tape,h.output,h.size,fun b hb hr => h.block b hb (fun e => by injection e with e;have := h.size;omega)⟩
theorem grown_other {w w' : World} {g base n : Nat} {e : TypeId} {sz : Nat} {v : Value} {L : List Value} (h : w.grownBy w' (some g)) (h2 : w.ownsRow base e sz v n L) (ha : v.ownBlock ≠ some g) : w'.ownsRow base e sz v n L := by
 have hlt := h2.lt
 obtain ⟨h1,h3⟩ := h2
 refine ⟨h1, ?_⟩
 rcases h3 with h3 | ⟨b,cap,cur,rfl,hg,hh,r⟩
 ·exact .inl h3
 ·exact .inr ⟨b,cap,cur,rfl,hg,(h.block b (hlt b rfl).2 (fun e => ha e)).trans hh,r⟩
theorem own_some {w : World} {base n c : Nat} {e : TypeId} {sz : Nat} {A : Option Addr} {L : List Value} (h : w.ownsRow base e sz (.slice A n c) n L) (hn : 0 < n) : ∃ g,A = some ⟨g,0,none⟩ ∧ base ≤ g ∧ g < w.heap.size := by
 rcases h.2 with ⟨_,h0⟩ | ⟨g,cap,cur,hv,hg,hh,_⟩
 ·omega
 ·injection hv with e1 e2 e3
  subst e1
  exact ⟨g,rfl,hg,(h.lt g rfl).2⟩
theorem pt_ok {t : Int} {y : Vec} (h1 : timeB t = true) (h2 : vecB y = true) : Pt.ok ⟨t,y⟩ := by
 have h3 := vecB_iffT.1 h2
 unfold timeB at h1
 rw [decide_eq_true_iff] at h1
 unfold Pt.ok
 simp only [In64]
 omega
theorem last_of {α : Type} {l : List α} {q : Nat} {z : α} (h : l.length = q + 1) (hz : l[q]? = some z) : l.getLast? = some z := by
 rw [List.getLast?_eq_getElem?,h];exact hz
theorem put_same {acc : List Pt} {q : Nat} {z : Pt} {t : Int} {y : Vec} (h : acc.length = q + 1) (hz : acc[q]? = some z) (hd : decide (z.Free = y) = true) : putPt acc t y = acc := by
 unfold putPt lastF;rw [last_of h hz];simp only [hd];rfl
theorem put_new {acc : List Pt} {q : Nat} {z : Pt} {t : Int} {y : Vec} (h : acc.length = q + 1) (hz : acc[q]? = some z) (hd : decide (z.Free = y) = false) : putPt acc t y = acc ++ [⟨t,y⟩] := by
 unfold putPt lastF;rw [last_of h hz];simp only [hd];rfl
theorem put_first {acc : List Pt} {t : Int} {y : Vec} (h : acc.length = 0) : putPt acc t y = acc ++ [⟨t,y⟩] := by
 rw [List.eq_nil_of_length_eq_zero h];rfl
theorem sort_m (zs : List Int) (m g c base : Nat) (w : World) (hm : zs.length = m) (hn : m ≤ 1048576) (ho : w.ownsRow base 3 1 (.slice (some ⟨g,0,none⟩) m c) m (zs.flatMap encInt)) : Calls Tryz.prog 102 #[.slice (some ⟨g,0,none⟩) m c] w (fun e w' => e = .returned (.tuple #[]) ∧ w'.ownsRow base 3 1 (.slice (some ⟨g,0,none⟩) m c) m ((zs.mergeSort leT).flatMap encInt) ∧ w.grownBy w' (some g)) := by
 subst hm;exact sort_own zs g c base w ho hn
theorem compact_m (zs ts : List Int) (m g c base : Nat) (w : World) (hm : zs.length = m) (hn : m ≤ 1048576) (ht : Lib.compact zs = ts) (ho : w.ownsRow base 3 1 (.slice (some ⟨g,0,none⟩) m c) m (zs.flatMap encInt)) : Calls Tryz.prog 103 #[.slice (some ⟨g,0,none⟩) m c] w (fun e w' => e = .returned (.slice (some ⟨g,0,none⟩) ts.length c) ∧ w'.ownsRow base 3 1 (.slice (some ⟨g,0,none⟩) ts.length c) ts.length (ts.flatMap encInt) ∧ w.grownBy w' (some g)) := by
 subst hm;subst ht;exact compact_own zs g c base w ho hn
theorem changed_c (xs : List Pt) (fr to : Int) (hh : Vec → Vec) (bb : Vec → Bool) (f : FuncId) (cap : Array Value) (A : Option Addr) (n c : Nat) (w : World) (h : SlAt RPt 4 w A n xs) (hp : profB xs = true) (hs : spanT fr to = true) (hg : ∀ x,vecB x = true → bb x = true → vecB (hh x) = true)
  (hr : ∀ (vs : Array Value) (u : World),Sem.run Tryz.prog (callFunc f vs) u = .ok (.enter f vs) u)
  (hf : ∀ (x : Vec) (u : World),Ext w u → Calls Tryz.prog f (#[.agg #[.int .i64 x.A,.int .i64 x.B,.int .i64 x.C]] ++ cap) u (Ret u (.tuple #[.agg #[.int .i64 (hh x).A,.int .i64 (hh x).B,.int .i64 (hh x).C],.bool (bb x)]))) : Calls Tryz.prog 82 #[.agg #[.slice A n c],.int .i64 fr,.int .i64 to,.func (.func f) #[] cap] w (RetP w (takeG xs fr to (byG hh bb))) := by
 obtain rfl := h.len
 have hl := (profB_parts hp).2.1
 have hM := Flat.mono Pt.enc Pt.ok
 obtain ⟨i0,hi,hI0,hI1,hI2⟩ := info_parts (show (Tryz.prog.info? 3).map (fun i => (i.zero,i.size,i.bytes)) = some (some (.int .i64 0),1,8) by kernel_rfl)
 obtain ⟨i1,hi1,hJ0,hJ1,hJ2⟩ := info_parts (show (Tryz.prog.info? 133).map (fun i => (i.zero,i.size,i.bytes)) = some (some (.agg #[.int .i64 0,.int .i64 0,.int .i64 0,.int .i64 0]),4,32) by kernel_rfl)
 have HH := Hh (fun (u : World) (e : Ext w u) => h.ext hM e)
 have HFR := Hh (fun (u : World) (e : Ext w u) (t : Int) => free_c xs t A xs.length c u (h.ext hM e) (by unfold maxLen;omega))
 have HF := Hh hf
 have HG := Hh hg
 generalize hgg : byG hh bb = v
 have HGG := Hh hgg
 clear hgg hg
 have HP := Hh hp
 have HS := Hh hs
 have HT := Hh (times_comp fr to (profB_parts hp).2.2.2.1)
 have hff : In64 fr ∧ In64 to := by
  obtain ⟨h1,h2,h3⟩ := span_parts hs
  unfold timeB at h1 h2
  rw [decide_eq_true_iff] at h1 h2
  exact ⟨in64_if (by omega) (by omega),in64_if (by omega) (by omega)⟩
 have HFF := Hh hff
 clear hf hp hs h hff
 generalize hn : xs.length = n at *
 have HN := Hh hn
 clear hn
 go_enter Tryz.func82,Tryz.ntmps82
 go_wp2
 go_loopw [10,26] (fun l iv wr => ∃ (k : Nat) (A1 : Option Addr) (c1 : Nat),k ≤ n ∧ iv = .int .i64 k ∧ l = .slice A1 (k + 2) c1 ∧ Hid (wr.ownsRow (w.heap.size + 1 + 1) 3 1 (.slice A1 (k + 2) c1) (k + 2) ((fr :: to :: (xs.take k).map Pt.At).flatMap encInt)) ∧ Ext ((w.alloc (.cells #[.slice A n c] 71)).alloc (.cells #[.slice none 0 0] 71)) wr) (fun _ iv _ => n - (intOf iv).toNat)
 case atStart => exact ⟨0,_,_,Nat.zero_le _,rfl,rfl,Hh (by have := World.ownsRow_lit ((w.alloc (.cells #[.slice A n c] 71)).alloc (.cells #[.slice none 0 0] 71)) (e := 3) (size := 1) #[.int .i64 fr,.int .i64 to] 2 (Nat.le_refl _) (by unfold maxLen;omega) (by simp);simpa [encInt] using this),Ext.go⟩
 case round =>
  obtain ⟨k,A1,c1,hk,rfl,rfl,HO,hb⟩ := hrel
  have HB := Hh hb
  by_cases hlt : k < n
  ·obtain ⟨b,o,x,cs,rfl,hbw,hx,_,hc,rfl,hok⟩ := (HH.out _ (Ext.trans (((Ext.refl _).alloc _).alloc _) hb)).at_ hlt
   have g0 := hc 0 _ rfl
   have g1 := hc 1 _ rfl
   have g2 := hc 2 _ rfl
   have g3 := hc 3 _ rfl
   simp only [Nat.add_zero] at g0
   have HX := Hh hx
   have HOK := Hh hok
   clear hc hx hok
   go_wp2_with (at_builtin;go_must (refine wpList_append_r (enc := encInt) (ok := In64) (.tmp 30) (.tmp 33) _ (w.heap.size + 1 + 1) 3 i0 _ 1 8 (.slice A1 (k + 2) c1) (k + 2) _ (some ⟨wr.heap.size + 1,0,none⟩) 1 1 [x.At] rfl rfl Tryz.underlying23 hi hI0 hI1 hI2 rfl (by omega) rfl (owns_ext HO.out Ext.go) rfl (by exact sl_one_at (enc := encInt) _ _ (by simp) x.At 3 rfl HOK.out.1) (fun _ => rfl) cInt_one (by unfold maxLen;omega) (by omega) (by have := HB.out.size;simp at this ⊢;omega) ?_);intro A3 c3 w3 hr3)
   have HR3 := Hh hr3
   clear hr3
   go_wp2
   go_roundw
   case rel => exact ⟨k + 1,A3,c3,by omega,by go_num,rfl,Hh (by have h := HR3.out.row;rw [take_succ HX.out,List.map_append];simpa using h),ext_turned HB.out ((Ext.turned (w := wr) Ext.go _ _).trans (HR3.out.turned (fun q hq => (HO.out.lt q hq).1))) (by simp)⟩
   case measure => simp [intOf];omega
  ·have HL2 := Hh (show (xs.take k).map Pt.At = xs.map Pt.At by rw [List.take_of_length_le (by have := HN.out;omega)])
   obtain rfl : k = n := by omega
   rw [HL2.out] at HO
   obtain ⟨g,rfl,hg1,hg2⟩ := own_some HO.out (by omega)
   have HSO := Hh (sort_m (fr :: to :: xs.map Pt.At) (k + 2) g c1 (w.heap.size + 1 + 1) wr (by simp [HN.out]) (by omega) HO.out)
   go_wp2_with fail
   refine HSO.out.mono ?_
   rintro e w2 ⟨rfl,ho2,hgr2⟩
   have HO2 := Hh ho2
   have HB2 := Hh (ext_turned hb (grown_turned hgr2 (lo := w.heap.size + 1 + 1) hg1 (Nat.le_refl _) hg2) (by simp))
   have hz2' := hgr2.size
   have HR2 := Hh (Nat.lt_of_lt_of_le hg2 hgr2.size)
   clear ho2 hgr2
   have HCM := Hh (compact_m ((fr :: to :: xs.map Pt.At).mergeSort leT) (timesL xs fr to) (k + 2) g c1 (w.heap.size + 1 + 1) (w2.alloc (.cells #[.slice none 0 0] 71)) (by rw [List.length_mergeSort];simp [HN.out]) (by omega) HT.out (owns_ext HO2.out ((Ext.refl _).alloc _)))
   go_wp2_with fail
   refine HCM.out.mono ?_
   rintro e w3 ⟨rfl,ho3,hgr3⟩
   have HOT := Hh ho3
   have HB3 := Hh (ext_turned (HB2.out.alloc _) (grown_turned hgr3 (lo := w.heap.size + 1 + 1) hg1 (Nat.le_refl _) (by have := HR2.out;simp;omega)) (by simp))
   have H13 := Hh (grown_other hgr3 (gbox1 w2 (.slice none 0 0) 71) (fun e => by have h1 := HR2.out;have h2 : w2.heap.size = g := Option.some.inj e;omega))
   have hz3 := hgr3.size
   simp at hz3
   have HTM := Hh (timesL_time HP.out (span_parts HS.out))
   have HTL := Hh (show (timesL xs fr to).length ≤ k + 2 by
    have := Lib.compact_length_le ((fr :: to :: xs.map Pt.At).mergeSort leT)
    rw [HT.out,List.length_mergeSort] at this
    simpa [HN.out] using this)
   have HLE : (timesL xs fr to).length ≤ 202 := by have := HTL.out;omega
   clear hgr3 ho3 HCM HSO
   generalize hts : timesL xs fr to = ts at HOT HTM HTL HLE
   have HTS := Hh hts
   clear hts
   generalize hR : chgGo xs fr to v ts [] = R
   have HRR := Hh hR
   clear hR
   generalize hmm : ts.length = m at *
   have HMM := Hh hmm
   clear hmm
   go_wp2
   go_loopw [42] (fun iv wq => ∃ (j : Nat) (acc : List Pt) (Ao : Option Addr) (co : Nat),j ≤ m ∧ acc.length ≤ j ∧ iv = .int .i64 j ∧ Hid (∀ y ∈ acc,y.ok) ∧ Hid (wq.ownsRow (w.heap.size + 1 + 1) 3 1 (.slice (some ⟨g,0,none⟩) m c1) m (ts.flatMap encInt)) ∧ Hid (wq.ownsRow (w.heap.size + 1 + 1) 133 4 (.slice Ao acc.length co) acc.length (acc.flatMap Pt.enc)) ∧ Hid (wq.ownsRow w2.heap.size 71 1 (.slice (some ⟨w2.heap.size,0,none⟩) 1 1) 1 [.slice Ao acc.length co]) ∧ Ext ((w.alloc (.cells #[.slice A k c] 71)).alloc (.cells #[.slice none 0 0] 71)) wq ∧ Hid (R = chgGo xs fr to v (ts.drop j) acc)) (fun iv _ => m - (intOf iv).toNat)
   case atStart => exact ⟨0,[],none,0,Nat.zero_le _,Nat.zero_le _,rfl,Hh (fun y hy => by simp at hy),HOT,Hh (World.ownsRow_nil _ _ _ _),H13,HB3.out,Hh HRR.out.symm⟩
   case round =>
    obtain ⟨j,acc,Ao,co,hj,haj,rfl,HOK,HO4,HO5,H14,hbq,HE⟩ := hrel
    by_cases hlt2 : j < m
    ·obtain ⟨t,ht⟩ : ∃ t,ts[j]? = some t := ⟨_,List.getElem?_eq_getElem (by have := HMM.out;omega)⟩
     have hc0 : wr.cell? ⟨g,j,none⟩ = some (.int .i64 t) := by rw [HO4.out.cellAt j (by omega),enc_map,List.getElem?_map,ht];rfl
     have HTX := Hh ht
     have HTI := Hh (HTM.out t (List.mem_of_getElem? ht))
     clear ht
     have a0 := bc1 w (w.heap.size) (.slice A k c) 71 ((Ext.trans ((Ext.refl (w.alloc (.cells #[.slice A k c] 71))).alloc _) hbq)) (by simp)
     have af0 := bf1 w (w.heap.size) (.slice A k c) 71 ((Ext.trans ((Ext.refl (w.alloc (.cells #[.slice A k c] 71))).alloc _) hbq)) (by simp)
     have hgs := (HO4.out.lt g rfl).2
     have h13 := (gcells1 H14.out).2.2
     go_wp2_with fail
     refine (HFR.out _ (Ext.trans (((Ext.refl _).alloc _).alloc _) hbq) t).mono ?_
     rintro e w4 ⟨rfl,hb4⟩
     have HB4 := Hh hb4
     have hz4 := hb4.size
     clear hc0 a0 af0
     have HVF := Hh (free_vec HP.out t)
     have HAT := Hh (show atV xs fr to v t = atV xs fr to v t from rfl)
     generalize hy : freeAt xs t = y at *
     have HY := Hh hy
     clear hy
     obtain ⟨m0,mf0,ml0⟩ := gcells1 (owns_ext H14.out hb4)
     by_cases hin : fr ≤ t ∧ t < to
     ·have HVN := Hh (show atV xs fr to v t = byG hh bb y by unfold atV;rw [if_pos hin,HY.out,HGG.out])
      obtain ⟨h1,h2⟩ := hin
      go_wp2_with fail
      refine (HF.out y _ (Ext.trans (((Ext.refl _).alloc _).alloc _) (hbq.trans (HB4.out.trans ((Ext.refl _).alloc _))))).mono ?_
      rintro e w5 ⟨rfl,hb5⟩
      have HB5 := Hh hb5
      have hz5 := hb5.size
      rcases hfb : bb y with _ | _
      ·have HNO := Hh (show takeG xs fr to v = none from take_none (by rw [HTS.out,HRR.out,HE.out,drop_cons HTX.out];exact chg_none (by rw [HVN.out];unfold byG;rw [if_neg (by rw [hfb];simp)])))
       have e0 := bc1 (w.alloc (.cells #[.slice A k c] 71)) (w.heap.size + 1) (.slice none 0 0) 71 ((Ext.trans hbq (HB4.out.trans (((Ext.refl w4).alloc (.cells #[.int .i64 y.A,.int .i64 y.B,.int .i64 y.C] 29)).trans hb5)))) (by simp)
       have ef0 := bf1 (w.alloc (.cells #[.slice A k c] 71)) (w.heap.size + 1) (.slice none 0 0) 71 ((Ext.trans hbq (HB4.out.trans (((Ext.refl w4).alloc (.cells #[.int .i64 y.A,.int .i64 y.B,.int .i64 y.C] 29)).trans hb5)))) (by simp)
       have he8 := lt_of_cell e0
       have hw5 : Ext w w5 := Ext.trans (((Ext.refl _).alloc _).alloc _) (hbq.trans (HB4.out.trans (((Ext.refl _).alloc _).trans hb5)))
       go_wp2
       exact bodyPost_ret (v := .tuple #[.agg #[.slice none 0 0],.bool false]) (by simp [results,Tryz.results82,go_sem, *]) rfl (retP_none HNO.out Ext.go)
      ·generalize hsv : hh y = s at *
       have HV0 := Hh (show atV xs fr to v t = some s by rw [HVN.out];unfold byG;rw [if_pos hfb,hsv])
       have HVY := Hh (show vecB s = true by rw [← hsv];exact HG.out y HVF.out hfb)
       clear HVF HVN hsv
       obtain ⟨e0,e1,e2⟩ := bc3 w4 (w4.heap.size) (.int .i64 y.A) (.int .i64 y.B) (.int .i64 y.C) 29 ((hb5)) (by simp)
       obtain ⟨ef0,ef1,ef2⟩ := bf3 w4 (w4.heap.size) (.int .i64 y.A) (.int .i64 y.B) (.int .i64 y.C) 29 ((hb5)) (by simp)
       have hw45 : Ext w4 w5 := ((Ext.refl w4).alloc _).trans hb5
       have HP5 := Hh (show w4.ownsRow (w.heap.size + 1 + 1) 133 4 (.slice Ao acc.length co) acc.length (acc.flatMap Pt.enc) from owns_ext HO5.out hb4)
       have HP5w := Hh (owns_ext HP5.out hw45)
       clear m0 mf0 ml0
       obtain ⟨m0,mf0,ml0⟩ := gcells1 (owns_ext (owns_ext H14.out hb4) hw45)
       have hz6 : w4.heap.size < w5.heap.size := by have := hz5;simp at this;omega
       clear hz5
       generalize hal : acc.length = q at *
       have HAL := Hh hal
       clear hal
       rcases q with _ | q
       ·go_wp2_with fail
        go_quiet (fail)
        have HPO := Hh (show Pt.ok ⟨t,s⟩ from pt_ok HTI.out HVY.out)
        have HPN := Hh (put_first HAL.out (t := t) (y := s))
        have H13b := Hh (owns_ext H14.out HB4.out)
        go_wp2_with (at_builtin;go_must (refine wpList_append_r (enc := Pt.enc) (ok := Pt.ok) (.tmp 84) (.tmp 88) _ (w.heap.size + 1 + 1) 133 i1 _ 4 32 (.slice Ao 0 co) 0 _ (some ⟨w5.heap.size + 1,0,none⟩) 1 1 [⟨t,s⟩] rfl rfl Tryz.underlying69 hi1 hJ0 hJ1 hJ2 rfl (by omega) rfl (owns_ext HP5.out Ext.go) rfl (by exact sl_one_at (enc := Pt.enc) _ _ (by simp) (⟨t,s⟩ : Pt) 133 rfl HPO.out) Pt.size pt_one (by unfold maxLen;omega) (by omega) (by simp;omega) ?_);intro A6 c6 w6 hr6;have HR6 := Hh hr6;have H6 := Hh (hr6.other (owns_ext H13b.out Ext.go) (g_apart H13b.out HP5.out (by decide)));have HT6 := Hh (hr6.other (owns_ext (owns_ext HO4.out HB4.out) Ext.go) (g_apart HO4.out HO5.out (by decide)));have HX6 := Hh (ext_turned (Ext.trans (hbq.trans HB4.out) Ext.go) (hr6.turned (lo := w.heap.size + 1 + 1) (fun q hq => (HP5.out.lt q hq).1)) (by simp));have m6 := (gcells1 H6.out).1;have mf6 := (gcells1 H6.out).2.1;have ml6 := (gcells1 H6.out).2.2;clear hr6)
        go_wp2
        go_roundw
        case rel => exact ⟨j + 1,acc ++ [⟨t,s⟩],A6,c6,by omega,by rw [List.length_append,HAL.out,List.length_singleton];omega,by go_num,Hh (fun z hz => by rcases List.mem_append.1 hz with hz | hz;exact HOK.out z hz;rw [List.mem_singleton.1 hz];exact HPO.out),Hh (g_far HT6.out (fun e => g_apart H6.out HT6.out (by decide) _ rfl e)),Hh (by rw [List.length_append,HAL.out,List.flatMap_append];have h := g_far HR6.out.row (p := 0) (u := .slice A6 (0 + 1) c6) (fun e => g_apart H6.out HR6.out.row (by decide) _ rfl e);simpa using h),Hh (by rw [List.length_append,HAL.out];exact (H6.out.stored 0 (.slice A6 (0 + 1) c6)).1),HX6.out.setCell (by simp;omega) _,Hh (by rw [HE.out,drop_cons HTX.out,chg_some HV0.out,HPN.out])⟩
        case measure => simp [intOf];omega
       ·obtain ⟨z,hz⟩ : ∃ z,acc[q]? = some z := ⟨_,List.getElem?_eq_getElem (by have := HAL.out;omega)⟩
        obtain ⟨bo,rfl,hbo1,hbo2⟩ := own_some HP5.out (by omega)
        have hbo4 : bo < w5.heap.size := Nat.lt_trans hbo2 hz6
        have hbo5 : bo ≠ w4.heap.size := Nat.ne_of_lt hbo2
        have hbo6 : w2.heap.size ≠ w4.heap.size := by have h1 := hz4;have h2 := (H14.out.lt _ rfl).2;omega
        have p1 : w5.cell? ⟨bo,q * 4 + 1,none⟩ = some (.int .i64 z.Free.A) := by rw [HP5w.out.cellAt (q * 4 + 1) (by omega)];exact (flatMap_get (enc := Pt.enc) (j := 1) Pt.size (by omega) hz).trans rfl
        have p2 : w5.cell? ⟨bo,q * 4 + 2,none⟩ = some (.int .i64 z.Free.B) := by rw [HP5w.out.cellAt (q * 4 + 2) (by omega)];exact (flatMap_get (enc := Pt.enc) (j := 2) Pt.size (by omega) hz).trans rfl
        have p3 : w5.cell? ⟨bo,q * 4 + 3,none⟩ = some (.int .i64 z.Free.C) := by rw [HP5w.out.cellAt (q * 4 + 3) (by omega)];exact (flatMap_get (enc := Pt.enc) (j := 3) Pt.size (by omega) hz).trans rfl
        have HZQ := Hh hz
        clear hz
        rcases hd : decide (z.Free = s) with _ | _
        ·have he := vec_beq hd
         have HD := Hh hd
         clear hd
         have hg0 : decide ((q : Int) + 1 = 0) = false := by rw [decide_eq_false_iff_not];omega
         go_wp2_with fail
         have hg1 : ((q : Int) + 1 == 0) = false := by rw [beq_eq_false_iff_ne];omega
         have hg2 : IntKind.i64.wrap ((q : Int) + 1 - 1) = (q : Int) := by rw [show (q : Int) + 1 - 1 = q by omega];exact IntWalk.i64_in _ ⟨by omega,by omega⟩
         go_quiet (fail)
         have HPO := Hh (show Pt.ok ⟨t,s⟩ from pt_ok HTI.out HVY.out)
         have HPN := Hh (put_new HAL.out HZQ.out HD.out (t := t))
         have H13b := Hh (owns_ext H14.out HB4.out)
         go_wp2_with (at_builtin;go_must (refine wpList_append_r (enc := Pt.enc) (ok := Pt.ok) (.tmp 84) (.tmp 88) _ (w.heap.size + 1 + 1) 133 i1 _ 4 32 (.slice (some ⟨bo,0,none⟩) (q + 1) co) (q + 1) _ (some ⟨w5.heap.size + 1,0,none⟩) 1 1 [⟨t,s⟩] rfl rfl Tryz.underlying69 hi1 hJ0 hJ1 hJ2 rfl (by omega) rfl (owns_ext HP5.out Ext.go) rfl (by exact sl_one_at (enc := Pt.enc) _ _ (by simp) (⟨t,s⟩ : Pt) 133 rfl HPO.out) Pt.size pt_one (by unfold maxLen;omega) (by omega) (by simp;omega) ?_);intro A6 c6 w6 hr6;have HR6 := Hh hr6;have H6 := Hh (hr6.other (owns_ext H13b.out Ext.go) (g_apart H13b.out HP5.out (by decide)));have HT6 := Hh (hr6.other (owns_ext (owns_ext HO4.out HB4.out) Ext.go) (g_apart HO4.out HO5.out (by decide)));have HX6 := Hh (ext_turned (Ext.trans (hbq.trans HB4.out) Ext.go) (hr6.turned (lo := w.heap.size + 1 + 1) (fun q hq => (HP5.out.lt q hq).1)) (by simp));have m6 := (gcells1 H6.out).1;have mf6 := (gcells1 H6.out).2.1;have ml6 := (gcells1 H6.out).2.2;clear hr6)
         go_wp2
         go_roundw
         case rel => exact ⟨j + 1,acc ++ [⟨t,s⟩],A6,c6,by omega,by rw [List.length_append,HAL.out,List.length_singleton];omega,by go_num,Hh (fun z hz => by rcases List.mem_append.1 hz with hz | hz;exact HOK.out z hz;rw [List.mem_singleton.1 hz];exact HPO.out),Hh (g_far HT6.out (fun e => g_apart H6.out HT6.out (by decide) _ rfl e)),Hh (by rw [List.length_append,HAL.out,List.flatMap_append];have h := g_far HR6.out.row (p := 0) (u := .slice A6 (q + 1 + 1) c6) (fun e => g_apart H6.out HR6.out.row (by decide) _ rfl e);simpa using h),Hh (by rw [List.length_append,HAL.out];exact (H6.out.stored 0 (.slice A6 (q + 1 + 1) c6)).1),HX6.out.setCell (by simp;omega) _,Hh (by rw [HE.out,drop_cons HTX.out,chg_some HV0.out,HPN.out])⟩
         case measure => simp [intOf];omega
        ·have he := vec_beq hd
         have HD := Hh hd
         clear hd
         go_wp2_with fail
         have hg0 : decide ((q : Int) + 1 = 0) = false := by rw [decide_eq_false_iff_not];omega
         have hg1 : ((q : Int) + 1 == 0) = false := by rw [beq_eq_false_iff_ne];omega
         have hg2 : IntKind.i64.wrap ((q : Int) + 1 - 1) = (q : Int) := by rw [show (q : Int) + 1 - 1 = q by omega];exact IntWalk.i64_in _ ⟨by omega,by omega⟩
         go_quiet (fail)
         go_wp2
         go_roundw
         case rel => exact ⟨j + 1,acc,some ⟨bo,0,none⟩,co,by omega,by have := HAL.out;omega,by go_num,HOK,Hh (owns_ext (owns_ext HO4.out HB4.out) Ext.go),Hh (by rw [HAL.out];exact owns_ext HP5.out Ext.go),Hh (by rw [HAL.out];exact owns_ext (owns_ext H14.out HB4.out) Ext.go),Ext.trans (hbq.trans HB4.out) Ext.go,Hh (by rw [HE.out,drop_cons HTX.out,chg_some HV0.out];congr 1;exact put_same HAL.out HZQ.out HD.out)⟩
         case measure => simp [intOf];omega
     ·have HNI := Hh hin
      have h12 : (¬ fr ≤ t) ∨ (fr ≤ t ∧ ¬ t < to) := by omega
      clear hin
      rcases h12 with h1 | ⟨h1,h2⟩
      all_goals
       have HV0 := Hh (show atV xs fr to v t = some y by unfold atV;rw [if_neg HNI.out,HY.out])
       have HVY := Hh (show vecB y = true from HVF.out)
       clear HVF
       have HP5 := Hh (show w4.ownsRow (w.heap.size + 1 + 1) 133 4 (.slice Ao acc.length co) acc.length (acc.flatMap Pt.enc) from owns_ext HO5.out hb4)
       generalize hal : acc.length = q at *
       have HAL := Hh hal
       clear hal
       rcases q with _ | q
       ·go_wp2_with fail
        go_quiet (fail)
        have HPO := Hh (show Pt.ok ⟨t,y⟩ from pt_ok HTI.out HVY.out)
        have HPN := Hh (put_first HAL.out (t := t) (y := y))
        have H13b := Hh (owns_ext H14.out HB4.out)
        go_wp2_with (at_builtin;go_must (refine wpList_append_r (enc := Pt.enc) (ok := Pt.ok) (.tmp 84) (.tmp 88) _ (w.heap.size + 1 + 1) 133 i1 _ 4 32 (.slice Ao 0 co) 0 _ (some ⟨w4.heap.size + 1,0,none⟩) 1 1 [⟨t,y⟩] rfl rfl Tryz.underlying69 hi1 hJ0 hJ1 hJ2 rfl (by omega) rfl (owns_ext HP5.out Ext.go) rfl (by exact sl_one_at (enc := Pt.enc) _ _ (by simp) (⟨t,y⟩ : Pt) 133 rfl HPO.out) Pt.size pt_one (by unfold maxLen;omega) (by omega) (by have := HB4.out.size;simp;omega) ?_);intro A6 c6 w6 hr6;have HR6 := Hh hr6;have H6 := Hh (hr6.other (owns_ext H13b.out Ext.go) (g_apart H13b.out HP5.out (by decide)));have HT6 := Hh (hr6.other (owns_ext (owns_ext HO4.out HB4.out) Ext.go) (g_apart HO4.out HO5.out (by decide)));have HX6 := Hh (ext_turned (Ext.trans (hbq.trans HB4.out) Ext.go) (hr6.turned (lo := w.heap.size + 1 + 1) (fun q hq => (HP5.out.lt q hq).1)) (by simp));have m6 := (gcells1 H6.out).1;have mf6 := (gcells1 H6.out).2.1;have ml6 := (gcells1 H6.out).2.2;clear hr6)
        go_wp2
        go_roundw
        case rel => exact ⟨j + 1,acc ++ [⟨t,y⟩],A6,c6,by omega,by rw [List.length_append,HAL.out,List.length_singleton];omega,by go_num,Hh (fun z hz => by rcases List.mem_append.1 hz with hz | hz;exact HOK.out z hz;rw [List.mem_singleton.1 hz];exact HPO.out),Hh (g_far HT6.out (fun e => g_apart H6.out HT6.out (by decide) _ rfl e)),Hh (by rw [List.length_append,HAL.out,List.flatMap_append];have h := g_far HR6.out.row (p := 0) (u := .slice A6 (0 + 1) c6) (fun e => g_apart H6.out HR6.out.row (by decide) _ rfl e);simpa using h),Hh (by rw [List.length_append,HAL.out];exact (H6.out.stored 0 (.slice A6 (0 + 1) c6)).1),HX6.out.setCell (by simp;omega) _,Hh (by rw [HE.out,drop_cons HTX.out,chg_some HV0.out,HPN.out])⟩
        case measure => simp [intOf];omega
       ·obtain ⟨z,hz⟩ : ∃ z,acc[q]? = some z := ⟨_,List.getElem?_eq_getElem (by have := HAL.out;omega)⟩
        obtain ⟨bo,rfl,hbo1,hbo2⟩ := own_some HP5.out (by omega)
        have p1 : w4.cell? ⟨bo,q * 4 + 1,none⟩ = some (.int .i64 z.Free.A) := by rw [HP5.out.cellAt (q * 4 + 1) (by omega)];exact (flatMap_get (enc := Pt.enc) (j := 1) Pt.size (by omega) hz).trans rfl
        have p2 : w4.cell? ⟨bo,q * 4 + 2,none⟩ = some (.int .i64 z.Free.B) := by rw [HP5.out.cellAt (q * 4 + 2) (by omega)];exact (flatMap_get (enc := Pt.enc) (j := 2) Pt.size (by omega) hz).trans rfl
        have p3 : w4.cell? ⟨bo,q * 4 + 3,none⟩ = some (.int .i64 z.Free.C) := by rw [HP5.out.cellAt (q * 4 + 3) (by omega)];exact (flatMap_get (enc := Pt.enc) (j := 3) Pt.size (by omega) hz).trans rfl
        have HZQ := Hh hz
        clear hz
        rcases hd : decide (z.Free = y) with _ | _
        ·have he := vec_beq hd
         have HD := Hh hd
         clear hd
         have hg0 : decide ((q : Int) + 1 = 0) = false := by rw [decide_eq_false_iff_not];omega
         go_wp2_with fail
         have hg1 : ((q : Int) + 1 == 0) = false := by rw [beq_eq_false_iff_ne];omega
         have hg2 : IntKind.i64.wrap ((q : Int) + 1 - 1) = (q : Int) := by rw [show (q : Int) + 1 - 1 = q by omega];exact IntWalk.i64_in _ ⟨by omega,by omega⟩
         go_quiet (fail)
         have HPO := Hh (show Pt.ok ⟨t,y⟩ from pt_ok HTI.out HVY.out)
         have HPN := Hh (put_new HAL.out HZQ.out HD.out (t := t))
         have H13b := Hh (owns_ext H14.out HB4.out)
         go_wp2_with (at_builtin;go_must (refine wpList_append_r (enc := Pt.enc) (ok := Pt.ok) (.tmp 84) (.tmp 88) _ (w.heap.size + 1 + 1) 133 i1 _ 4 32 (.slice (some ⟨bo,0,none⟩) (q + 1) co) (q + 1) _ (some ⟨w4.heap.size + 1,0,none⟩) 1 1 [⟨t,y⟩] rfl rfl Tryz.underlying69 hi1 hJ0 hJ1 hJ2 rfl (by omega) rfl (owns_ext HP5.out Ext.go) rfl (by exact sl_one_at (enc := Pt.enc) _ _ (by simp) (⟨t,y⟩ : Pt) 133 rfl HPO.out) Pt.size pt_one (by unfold maxLen;omega) (by omega) (by have := HB4.out.size;simp;omega) ?_);intro A6 c6 w6 hr6;have HR6 := Hh hr6;have H6 := Hh (hr6.other (owns_ext H13b.out Ext.go) (g_apart H13b.out HP5.out (by decide)));have HT6 := Hh (hr6.other (owns_ext (owns_ext HO4.out HB4.out) Ext.go) (g_apart HO4.out HO5.out (by decide)));have HX6 := Hh (ext_turned (Ext.trans (hbq.trans HB4.out) Ext.go) (hr6.turned (lo := w.heap.size + 1 + 1) (fun q hq => (HP5.out.lt q hq).1)) (by simp));have m6 := (gcells1 H6.out).1;have mf6 := (gcells1 H6.out).2.1;have ml6 := (gcells1 H6.out).2.2;clear hr6)
         go_wp2
         go_roundw
         case rel => exact ⟨j + 1,acc ++ [⟨t,y⟩],A6,c6,by omega,by rw [List.length_append,HAL.out,List.length_singleton];omega,by go_num,Hh (fun z hz => by rcases List.mem_append.1 hz with hz | hz;exact HOK.out z hz;rw [List.mem_singleton.1 hz];exact HPO.out),Hh (g_far HT6.out (fun e => g_apart H6.out HT6.out (by decide) _ rfl e)),Hh (by rw [List.length_append,HAL.out,List.flatMap_append];have h := g_far HR6.out.row (p := 0) (u := .slice A6 (q + 1 + 1) c6) (fun e => g_apart H6.out HR6.out.row (by decide) _ rfl e);simpa using h),Hh (by rw [List.length_append,HAL.out];exact (H6.out.stored 0 (.slice A6 (q + 1 + 1) c6)).1),HX6.out.setCell (by simp;omega) _,Hh (by rw [HE.out,drop_cons HTX.out,chg_some HV0.out,HPN.out])⟩
         case measure => simp [intOf];omega
        ·have he := vec_beq hd
         have HD := Hh hd
         clear hd
         go_wp2_with fail
         have hg0 : decide ((q : Int) + 1 = 0) = false := by rw [decide_eq_false_iff_not];omega
         have hg1 : ((q : Int) + 1 == 0) = false := by rw [beq_eq_false_iff_ne];omega
         have hg2 : IntKind.i64.wrap ((q : Int) + 1 - 1) = (q : Int) := by rw [show (q : Int) + 1 - 1 = q by omega];exact IntWalk.i64_in _ ⟨by omega,by omega⟩
         go_quiet (fail)
         go_wp2
         go_roundw
         case rel => exact ⟨j + 1,acc,some ⟨bo,0,none⟩,co,by omega,by have := HAL.out;omega,by go_num,HOK,Hh (owns_ext (owns_ext HO4.out HB4.out) Ext.go),Hh (by rw [HAL.out];exact owns_ext HP5.out Ext.go),Hh (by rw [HAL.out];exact owns_ext (owns_ext H14.out HB4.out) Ext.go),Ext.trans (hbq.trans HB4.out) Ext.go,Hh (by rw [HE.out,drop_cons HTX.out,chg_some HV0.out];congr 1;exact put_same HAL.out HZQ.out HD.out)⟩
         case measure => simp [intOf];omega
    ·have HRA := Hh (show R = some acc by rw [HE.out,List.drop_eq_nil_of_le (by have := HMM.out;omega)];rfl)
     have HTQ := Hh (show takeG xs fr to v = if acc.length ≤ 200 then some acc else none from take_some (by rw [HTS.out,HRR.out,HRA.out]))
     have HOA := Hh (show ∀ q,(Value.slice Ao acc.length co).ownBlock = some q → w.heap.size + 1 + 1 ≤ q from fun q hq => (HO5.out.lt q hq).1)
     have e0 := bc1 (w.alloc (.cells #[.slice A k c] 71)) (w.heap.size + 1) (.slice none 0 0) 71 ((hbq)) (by simp)
     have ef0 := bf1 (w.alloc (.cells #[.slice A k c] 71)) (w.heap.size + 1) (.slice none 0 0) 71 ((hbq)) (by simp)
     have he8 := lt_of_cell e0
     obtain ⟨m0,mf0,ml0⟩ := gcells1 H14.out
     generalize hal : acc.length = q at *
     have HAL := Hh hal
     clear hal
     by_cases hq : q ≤ 200
     ·rw [if_pos hq] at HTQ
      go_wp2
      exact bodyPost_ret (v := .tuple #[.agg #[.slice Ao q co],.bool true]) (by simp [results,Tryz.results82,go_sem, *]) rfl ⟨Ao,co,acc,by rw [HTQ.out,HAL.out];rfl,.inl HTQ.out,by rw [HAL.out];exact g_far (g_widen HO5.out (fun q hq => by have := HOA.out q hq;omega)) (fun e => by have := HOA.out _ e;omega),HOK.out,Ext.setCell (Ext.trans (((Ext.refl _).alloc _).alloc _) hbq) (by simp) _⟩
     ·rw [if_neg hq] at HTQ
      go_wp2
      exact bodyPost_ret (v := .tuple #[.agg #[.slice none 0 0],.bool false]) (by simp [results,Tryz.results82,go_sem, *]) rfl (retP_none HTQ.out (Ext.setCell (Ext.trans (((Ext.refl _).alloc _).alloc _) hbq) (by simp) _))
end Go.Proofs.YtfanjhcdjbnnnaaGreat
