/- ChooseL, JobAll, SLev, RiseS. -/
import Derived.Test.YtfanjhcdjbnnnaaGreatK11
import Derived.Test.YtfanjhcdjbnnnaaGreatK10
import Derived.Test.YtfanjhcdjbnnnaaGreatK09
import Derived.Test.YtfanjhcdjbnnnaaGreatK06
namespace Go.Proofs.YtfanjhcdjbnnnaaGreat
open Go.RowKit
set_option linter.unusedVariables false
set_option maxHeartbeats 16000000
set_option maxRecDepth 10000
def ofL (ps : List Int) (ns : List Node) (nodes : List Int) (s : Int) : List Int := nodes.filter (overOne ps ns s)
def lfOf (ns : List Node) (x : Int) : Int := (ns.getD x.toNat ⟨0,⟨0,0,0⟩⟩).Leaf
def candB (ps : List Int) (ns : List Node) (nodes taken : List Int) (s : Int) : Bool := !(ofL ps ns nodes s).isEmpty && ((kidsL ps s).isEmpty && !taken.contains s)
def cntL (ns : List Node) (mine taken : List Int) : Nat := (mine.filter (fun x => taken.contains (lfOf ns x))).length
theorem up_leaf {ps : List Int} (hup : upGo (ps.drop 1) 1 = true) : ∀ (q : Nat) (s : Int),q < ps.length → s ∈ upL ps q → s = (q : Int) ∨ leafB ps s = false := by
 intro q
 induction q using Nat.strongRecOn with
 | ind q ih =>
  intro s hq hs
  by_cases h0 : 1 ≤ q
  ·rw [upL_succ hup h0 hq] at hs
   rcases List.mem_cons.1 hs with rfl | hs
   ·exact .inl rfl
   have hp := par_lt hup h0 hq
   have h2 : (parN ps q) < q := hp.2
   have h1 : ps[q]? = some (parN ps q : Int) := by rw [List.getElem?_eq_getElem hq];exact congrArg some hp.1
   rcases ih _ h2 s (by omega) hs with rfl | h3
   ·right
    have hk : (q : Int) ∈ kidsL ps (parN ps q : Int) := kidsL_mem.2 ⟨q,rfl,h0,h1⟩
    rw [← kids_nil]
    cases hkk : kidsL ps (parN ps q : Int) with
    | nil => rw [hkk] at hk;cases hk
    | cons a r => rfl
   ·exact .inr h3
  ·obtain rfl : q = 0 := by omega
   rw [upL_zero] at hs
   left;simpa using hs
theorem up_self {ps : List Int} (hup : upGo (ps.drop 1) 1 = true) (q : Nat) (hq : q < ps.length) : (q : Int) ∈ upL ps q := by
 by_cases h0 : 1 ≤ q
 ·rw [upL_succ hup h0 hq];exact List.mem_cons_self ..
 ·obtain rfl : q = 0 := by omega
  rw [upL_zero];simp
theorem lf_range {ps : List Int} {ns : List Node} (ht : topoB ps ns = true) {x : Int} (hx : 0 ≤ x ∧ x < (ns.length : Int)) : (0 ≤ lfOf ns x ∧ lfOf ns x < ps.length) ∧ leafB ps (lfOf ns x) = true := by
 obtain ⟨i,rfl⟩ := Int.eq_ofNat_of_zero_le hx.1
 have hi : i < ns.length := by omega
 have e : lfOf ns (i : Int) = (ns[i]).Leaf := by
  unfold lfOf;rw [show ((i : Int)).toNat = i by omega,List.getD_eq_getElem?_getD,List.getElem?_eq_getElem hi];rfl
 have h5 := (topo_parts ht).2.2.2.2.1 _ (List.getElem_mem hi)
 unfold nodeB withinB at h5
 simp only [Bool.and_eq_true,decide_eq_true_iff] at h5
 rw [e]
 exact ⟨⟨h5.1.1,by have := h5.1.2;omega⟩,h5.2.1⟩
theorem over_leaf {ps : List Int} {ns : List Node} (ht : topoB ps ns = true) {s x : Int} (hx : 0 ≤ x ∧ x < (ns.length : Int)) (hl : leafB ps s = true) : overOne ps ns s x = decide (lfOf ns x = s) := by
 obtain ⟨⟨h1,h2⟩,h3⟩ := lf_range ht hx
 have hup := (topo_parts ht).2.2.1
 obtain ⟨q,hq⟩ := Int.eq_ofNat_of_zero_le h1
 have hql : q < ps.length := by omega
 have e : overOne ps ns s x = (upL ps q).contains s := by
  unfold overOne;show (upL ps (lfOf ns x).toNat).contains s = _;rw [hq];rfl
 rw [e,hq]
 by_cases hs : (q : Int) = s
 ·subst hs
  rw [decide_eq_true rfl]
  simpa using up_self hup q hql
 ·rw [decide_eq_false hs,Bool.eq_false_iff]
  intro hc
  rcases up_leaf hup q s hql (by simpa using hc) with h4 | h4
  ·exact hs h4.symm
  ·rw [hl] at h4;cases h4
theorem cnt_split {p q : Int → Bool} : ∀ l : List Int,(∀ x ∈ l,¬ (p x = true ∧ q x = true)) → (l.filter (fun x => p x || q x)).length = (l.filter p).length + (l.filter q).length := by
 intro l
 induction l with
 | nil => intro _;rfl
 | cons a r ih =>
  intro h
  have ha := h a (List.mem_cons_self ..)
  have hr := ih (fun x hx => h x (List.mem_cons_of_mem _ hx))
  cases hp : p a <;> cases hq : q a <;> simp [hp,hq] at ha hr ⊢ <;> omega
theorem cnt_step {ps : List Int} {ns : List Node} {mine taken : List Int} {s : Int} (ht : topoB ps ns = true) (hm : ∀ x ∈ mine,0 ≤ x ∧ x < (ns.length : Int)) (hc : candB ps ns mine taken s = true) : cntL ns mine (taken ++ [s]) = cntL ns mine taken + (ofL ps ns mine s).length ∧ 0 < (ofL ps ns mine s).length := by
 unfold candB at hc
 simp only [Bool.and_eq_true,Bool.not_eq_true'] at hc
 obtain ⟨h1,h2,h3⟩ := hc
 have hl : leafB ps s = true := by rw [← kids_nil];exact h2
 constructor
 ·have e1 : ofL ps ns mine s = mine.filter (fun x => decide (lfOf ns x = s)) := List.filter_congr (fun x hx => over_leaf ht (hm x hx) hl)
  have e2 : cntL ns mine (taken ++ [s]) = (mine.filter (fun x => taken.contains (lfOf ns x) || decide (lfOf ns x = s))).length := by
   unfold cntL
   congr 1
   refine List.filter_congr (fun x hx => ?_)
   rw [Bool.eq_iff_iff];simp
  rw [e2,e1]
  refine cnt_split mine (fun x hx ⟨hp,hq⟩ => ?_)
  rw [of_decide_eq_true hq,h3] at hp
  cases hp
 ·cases he : ofL ps ns mine s with
  | nil => rw [he] at h1;cases h1
  | cons a r => simp
theorem cand_exists {ps : List Int} {ns : List Node} {mine taken : List Int} (ht : topoB ps ns = true) (hm : ∀ x ∈ mine,0 ≤ x ∧ x < (ns.length : Int)) (h : cntL ns mine taken < mine.length) : ∃ k : Nat,k < ps.length ∧ candB ps ns mine taken k = true := by
 obtain ⟨x,hx,hnt⟩ : ∃ x ∈ mine,taken.contains (lfOf ns x) = false := by
  refine Classical.byContradiction (fun hn => ?_)
  have he : mine.filter (fun x => taken.contains (lfOf ns x)) = mine := List.filter_eq_self.2 (fun x hx => by
   cases hc : taken.contains (lfOf ns x) with
   | true => rfl
   | false => exact absurd ⟨x,hx,hc⟩ hn)
  unfold cntL at h
  rw [he] at h;omega
 obtain ⟨⟨h1,h2⟩,h3⟩ := lf_range ht (hm x hx)
 obtain ⟨q,hq⟩ := Int.eq_ofNat_of_zero_le h1
 rw [hq] at hnt h2 h3
 refine ⟨q,by omega, ?_⟩
 unfold candB
 rw [hnt,kids_nil,h3]
 have hmem : x ∈ ofL ps ns mine (q : Int) := List.mem_filter.2 ⟨hx,by rw [over_leaf ht (hm x hx) h3,hq];exact decide_eq_true rfl⟩
 cases he : ofL ps ns mine (q : Int) with
 | nil => rw [he] at hmem;cases hmem
 | cons a r => rfl
theorem ofL_sub {ps : List Int} {ns : List Node} {nodes : List Int} {s x : Int} (hx : x ∈ ofL ps ns nodes s) : x ∈ nodes := (List.mem_filter.1 hx).1
theorem ofL_len (ps : List Int) (ns : List Node) (nodes : List Int) (s : Int) : (ofL ps ns nodes s).length ≤ nodes.length := List.length_filter_le _ _
theorem CJob.info : (Tryz.prog.info? 52).map (fun i => (i.zero,i.size,i.bytes)) = some (some (.agg #[.int .i64 0,.int .i64 0,.int .i64 0,.int .i64 0,.int .i64 0,.int .i64 0,.int .i64 0,.int .i64 0,.int .i64 0,.int .i64 0,.int .i64 0]),11,88) := by kernel_rfl
theorem job_one (y : Job) : ∀ u ∈ y.enc,u.oneCell' = true := by
 intro u hu;simp [Job.enc] at hu;rcases hu with rfl | rfl | rfl | rfl | rfl | rfl | rfl | rfl | rfl | rfl | rfl <;> rfl
def RetJobs (w : World) (xs : List Job) : Ending → World → Prop := fun e w' => ∃ A c,e = .returned (.slice A xs.length c) ∧ w'.ownsRow w.heap.size 52 11 (.slice A xs.length c) xs.length (xs.flatMap Job.enc) ∧ (∀ x ∈ xs,x.ok) ∧ Ext w w'
theorem all_c (s : State) (v : Value) (w : World) (h : StateAt w s v) (hlen : stateLen s) : Calls Tryz.prog 29 #[v] w (RetJobs w (s.Queue ++ s.Runs.map Run.Job)) := by
 obtain ⟨⟨ps,ns⟩,up,lic,dep,now,qs,rs,es⟩ := s
 obtain ⟨A1,c1,A2,c2,A3,c3,A6,c6,A7,c7,A8,c8,rfl,h1,h2,h3,h6,h7,h8⟩ := h
 obtain ⟨hl1,hl2,hl3,hl6,hl7,hl8⟩ := hlen
 simp only [] at h1 h2 h3 h6 h7 h8 hl1 hl2 hl3 hl6 hl7 hl8 ⊢
 obtain ⟨i0,hi,hI0,hI1,hI2⟩ := info_parts CJob.info
 have HQ := Hh (fun (u : World) (e : Ext w u) => h6.ext (Flat.mono Job.enc Job.ok) e)
 have HRS := Hh (fun (u : World) (e : Ext w u) => h7.ext RRun.mono e)
 have HQK := Hh h6.all
 clear h1 h2 h3 h6 h7 h8
 have HE0 := Hh (show ((w.alloc (.cells #[.slice A1 ps.length c1,.slice A2 ns.length c2,.slice A3 up.length c3,.int .i64 lic.A,.int .i64 lic.B,.int .i64 lic.C,.int .i64 dep,.int .i64 now,.slice A6 qs.length c6,.slice A7 rs.length c7,.slice A8 es.length c8] 34)).alloc (.cells #[] 52)).ownsRow (w.heap.size + 1) 52 11 (.slice (some ⟨w.heap.size + 1,0,none⟩) 0 0) 0 [] from by
  have h := owns_empty (w.alloc (.cells #[.slice A1 ps.length c1,.slice A2 ns.length c2,.slice A3 up.length c3,.int .i64 lic.A,.int .i64 lic.B,.int .i64 lic.C,.int .i64 dep,.int .i64 now,.slice A6 qs.length c6,.slice A7 rs.length c7,.slice A8 es.length c8] 34)) 52 11
  rw [show (w.alloc (.cells #[.slice A1 ps.length c1,.slice A2 ns.length c2,.slice A3 up.length c3,.int .i64 lic.A,.int .i64 lic.B,.int .i64 lic.C,.int .i64 dep,.int .i64 now,.slice A6 qs.length c6,.slice A7 rs.length c7,.slice A8 es.length c8] 34)).heap.size = w.heap.size + 1 by simp] at h
  exact h)
 go_enter Tryz.func29,Tryz.ntmps29
 go_wp2_with (at_builtin;go_must (refine wpList_append_r (enc := Job.enc) (ok := Job.ok) (.tmp 6) (.tmp 8) _ (w.heap.size + 1) 52 i0 _ 11 88 (.slice (some ⟨w.heap.size + 1,0,none⟩) 0 0) 0 [] A6 qs.length c6 qs rfl rfl Tryz.underlying30 hi hI0 hI1 hI2 rfl (by omega) rfl HE0.out rfl (HQ.out _ (((Ext.refl w).alloc _).alloc _)) Job.size job_one (by unfold maxLen;omega) (by omega) (by simp) ?_);intro A4 c4 w3 hr3;have HR3 := Hh hr3.row;have HX3 := Hh (ext_turned (w := (w.alloc (.cells #[.slice A1 ps.length c1,.slice A2 ns.length c2,.slice A3 up.length c3,.int .i64 lic.A,.int .i64 lic.B,.int .i64 lic.C,.int .i64 dep,.int .i64 now,.slice A6 qs.length c6,.slice A7 rs.length c7,.slice A8 es.length c8] 34))) ((Ext.refl _).alloc _) (hr3.turned (lo := w.heap.size + 1) (fun q hq => by have h2 : w.heap.size + 1 = q := Option.some.inj hq;omega)) (by simp));have s9 := HX3.out.cell (cell_box_at w w.heap.size rfl [.slice A1 ps.length c1,.slice A2 ns.length c2,.slice A3 up.length c3,.int .i64 lic.A,.int .i64 lic.B,.int .i64 lic.C,.int .i64 dep,.int .i64 now,.slice A6 qs.length c6,.slice A7 rs.length c7,.slice A8 es.length c8] 34 9 _ rfl);have hs9 := lt_of_cell s9;clear hr3)
 simp only [Nat.zero_add,List.nil_append] at HR3 ⊢
 go_wp2
 go_loopw [3,13] (fun l iv wr => ∃ (k : Nat) (A5 : Option Addr) (c5 : Nat),k ≤ rs.length ∧ l = .slice A5 (qs.length + k) c5 ∧ iv = .int .i64 k ∧ Hid (wr.ownsRow (w.heap.size + 1) 52 11 (.slice A5 (qs.length + k) c5) (qs.length + k) ((qs ++ (rs.take k).map Run.Job).flatMap Job.enc)) ∧ Hid (∀ x ∈ qs ++ (rs.take k).map Run.Job,x.ok) ∧ Ext (w.alloc (.cells #[.slice A1 ps.length c1,.slice A2 ns.length c2,.slice A3 up.length c3,.int .i64 lic.A,.int .i64 lic.B,.int .i64 lic.C,.int .i64 dep,.int .i64 now,.slice A6 qs.length c6,.slice A7 rs.length c7,.slice A8 es.length c8] 34)) wr) (fun _ iv _ => rs.length - (intOf iv).toNat)
 case atStart => exact ⟨0,A4,c4,Nat.zero_le _,rfl,rfl,Hh (by simpa using HR3.out),Hh (by simpa using HQK.out),HX3.out⟩
 case round =>
  clear s9 hs9 HX3 HR3
  obtain ⟨k,A5,c5,hk,rfl,rfl,HO,HOK,hb⟩ := hrel
  by_cases hlt : k < rs.length
  ·obtain ⟨bq,oq,x,cs,hA7,hbw,hx,_,hc,Ar,cr,rfl,hs,hcr,hnl,hat64,hjok⟩ := (HRS.out wr (((Ext.refl w).alloc _).trans hb)).at_ hlt
   subst hA7
   have g0 := hc 0 _ rfl
   have g1 := hc 1 _ rfl
   have g2 := hc 2 _ rfl
   have g3 := hc 3 _ rfl
   have g4 := hc 4 _ rfl
   have g5 := hc 5 _ rfl
   have g6 := hc 6 _ rfl
   have g7 := hc 7 _ rfl
   have g8 := hc 8 _ rfl
   have g9 := hc 9 _ rfl
   have g10 := hc 10 _ rfl
   have g11 := hc 11 _ rfl
   have g12 := hc 12 _ rfl
   simp only [Nat.add_zero] at g0
   have HX := Hh hx
   have HJK := Hh hjok
   have hz := hb.le
   simp at hz
   clear hx hc hs hcr hnl hat64 hjok
   go_wp2_with (at_builtin;go_must (refine wpList_append_r (enc := Job.enc) (ok := Job.ok) (.tmp 17) (.tmp 20) _ (w.heap.size + 1) 52 i0 _ 11 88 (.slice A5 (qs.length + k) c5) (qs.length + k) _ (some ⟨wr.heap.size + 1,0,none⟩) 1 1 [x.Job] rfl rfl Tryz.underlying30 hi hI0 hI1 hI2 rfl (by omega) rfl (owns_ext HO.out (((Ext.refl _).alloc _).alloc _)) rfl (by exact sl_one_at (enc := Job.enc) _ _ (by simp) x.Job 52 rfl HJK.out) Job.size job_one (by unfold maxLen;omega) (by omega) (by simp;omega) ?_);intro A9 c9 w5 hr5;have HR5 := Hh hr5;clear hr5)
   have HXT := Hh (ext_turned ((hb.alloc _).alloc _) (HR5.out.turned (lo := w.heap.size + 1) (fun q hq => (HO.out.lt q hq).1)) (by simp))
   go_wp2
   go_roundw
   case rel => exact ⟨k + 1,A9,c9,by omega,rfl,by go_num,Hh (by have h := HR5.out.row;rw [take_succ HX.out,List.map_append,← List.append_assoc,List.flatMap_append];simpa [Nat.add_assoc] using h),Hh (fun y hy => by rw [take_succ HX.out,List.map_append,← List.append_assoc] at hy;rcases List.mem_append.1 hy with hy | hy;exact HOK.out y hy;(simp at hy;rw [hy];exact HJK.out)),HXT.out⟩
   case measure => simp [intOf];omega
  ·obtain rfl : k = rs.length := by omega
   have HT := Hh (show rs.take rs.length = rs from List.take_length)
   rw [HT.out] at HO HOK
   have HLN := Hh (show (qs ++ rs.map Run.Job).length = qs.length + rs.length by simp)
   go_wp2
   exact bodyPost_ret (results_tmp rfl _ _ _) rfl ⟨A5,c5,by rw [HLN.out];rfl,by rw [HLN.out];exact owns_base HO.out (by omega),HOK.out,((Ext.refl w).alloc _).trans hb⟩
theorem l02Up_c (ps : List Int) (ns : List Node) (s : Nat) (A : Option Addr) (n c : Nat) (B : Option Addr) (m d : Nat) (w : World) (h : SlAt RInt 1 w A n ps) (hn : n ≤ 24) (hs : s < n) (hup : upGo (ps.drop 1) 1 = true) : Calls Tryz.prog 65 #[.agg #[.slice A n c,.slice B m d],.int .i64 s] w (RetOwn RInt 3 1 w (upL ps s)) := by
 obtain ⟨i0,hi,hI0,hI1,hI2⟩ := info_parts (show (Tryz.prog.info? 3).map (fun i => (i.zero,i.size,i.bytes)) = some (some (.int .i64 0),1,8) by kernel_rfl)
 have HN := Hh h.len
 have HP := Hh (fun (u : World) (e : Ext w u) => h.ext (Flat.mono encInt In64) e)
 have HUP := Hh hup
 clear h hup
 have HE0 := Hh (show ((w.alloc (.cells #[.slice A n c,.slice B m d] 26)).alloc (.cells #[.int .i64 s] 3)).ownsRow (w.heap.size + 1) 3 1 (.slice (some ⟨w.heap.size + 1,0,none⟩) 1 1) 1 [.int .i64 s] from by
  have h := gbox1 (w.alloc (.cells #[.slice A n c,.slice B m d] 26)) (.int .i64 s) 3
  rw [show (w.alloc (.cells #[.slice A n c,.slice B m d] 26)).heap.size = w.heap.size + 1 by simp] at h
  exact h)
 go_enter Tryz.func65,Tryz.ntmps65
 go_wp2
 go_loopw [1,5] (fun sv l wr => ∃ (t k : Nat) (pre : List Int) (A1 : Option Addr) (c1 : Nat),sv = .int .i64 t ∧ t ≤ s ∧ Hid (k = pre.length) ∧ l = .slice A1 (k + 1) c1 ∧ k + t ≤ s ∧ Hid (upL ps s = pre ++ upL ps t) ∧ Hid (∀ x ∈ pre,In64 x) ∧ Hid (wr.ownsRow (w.heap.size + 1) 3 1 (.slice A1 (k + 1) c1) (k + 1) ((pre ++ [(t : Int)]).flatMap encInt)) ∧ Ext (w.alloc (.cells #[.slice A n c,.slice B m d] 26)) wr) (fun sv _ _ => (intOf sv).toNat)
 case atStart => exact ⟨s,0,[],_,_,rfl,Nat.le_refl _,Hh rfl,rfl,by omega,Hh rfl,Hh (fun x hx => by cases hx),HE0,(Ext.refl _).alloc _⟩
 case round =>
  clear HE0
  obtain ⟨t,k,pre,A1,c1,rfl,ht,HKL,rfl,hkt,HU,HI,HO,hb⟩ := hrel
  by_cases h0 : 0 < t
  ·obtain ⟨b,o,x,cs,hA,hbw,hx,_,hc,rfl,_⟩ := (HP.out wr (((Ext.refl w).alloc _).trans hb)).at_ (show t < n by omega)
   subst hA
   have g0 := hc 0 _ rfl
   simp only [Nat.mul_one,Nat.add_zero] at g0
   have hp := par_lt HUP.out h0 (by rw [HN.out];omega)
   have hxe : x = (parN ps t : Int) := by
    obtain ⟨h1,h2⟩ := List.getElem?_eq_some_iff.1 hx
    rw [← hp.1];exact h2.symm
   subst hxe
   have hp2 := hp.2
   have HQ := Hh (upL_succ HUP.out h0 (show t < ps.length by rw [HN.out];omega))
   generalize parN ps t = q at *
   have z0 := hb.cell (cell_box_at w w.heap.size rfl [.slice (some ⟨b,o,none⟩) n c,.slice B m d] 26 0 _ rfl)
   have hz0 := lt_of_cell z0
   have hzl := hb.le
   simp at hzl
   clear hc hx hp
   go_wp2_with (at_builtin;go_must (refine wpList_append_r (enc := encInt) (ok := In64) (.tmp 15) (.tmp 17) _ (w.heap.size + 1) 3 i0 _ 1 8 (.slice A1 (k + 1) c1) (k + 1) _ (some ⟨wr.heap.size,0,none⟩) 1 1 [(q : Int)] rfl rfl Tryz.underlying23 hi hI0 hI1 hI2 rfl (by omega) rfl (owns_ext HO.out ((Ext.refl _).alloc _)) rfl (by exact sl_one_at (enc := encInt) _ _ rfl (q : Int) 3 rfl ⟨by omega,by omega⟩) (fun _ => rfl) cInt_one (by unfold maxLen;omega) (by omega) (by simp;omega) ?_);intro A9 c9 w5 hr5;have HR5 := Hh hr5;clear hr5)
   have HXT := Hh (ext_turned (hb.alloc _) (HR5.out.turned (lo := w.heap.size + 1) (fun q hq => (HO.out.lt q hq).1)) (by simp))
   go_wp2
   go_roundw
   case rel => exact ⟨q,k + 1,pre ++ [(t : Int)],A9,c9,rfl,by omega,Hh (by rw [List.length_append,← HKL.out];rfl),rfl,by omega,Hh (by rw [HU.out,HQ.out];simp),Hh (fun y hy => by rcases List.mem_append.1 hy with hy | hy;exact HI.out y hy;(rw [List.mem_singleton.1 hy];exact ⟨by omega,by omega⟩)),Hh (by have h := HR5.out.row;rw [List.flatMap_append];simpa using h),HXT.out⟩
   case measure => simp [intOf];omega
  ·obtain rfl : t = 0 := by omega
   have HR := Hh (show upL ps s = pre ++ [((0 : Nat) : Int)] by rw [HU.out,upL_zero];rfl)
   have HL1 := Hh (show (pre ++ [((0 : Nat) : Int)]).length = k + 1 by rw [List.length_append,← HKL.out];rfl)
   go_wp2
   exact ret_own2 rfl (owns_base (by rw [HR.out];exact HO.out) (by omega)) (by rw [HR.out,HL1.out]) (fun _ => rfl) (fun x hx => by rw [HR.out] at hx;rcases List.mem_append.1 hx with hx | hx;exact HI.out x hx;(rw [List.mem_singleton.1 hx];exact ⟨by omega,by omega⟩)) (((Ext.refl w).alloc _).trans hb)
theorem l06Jobs_c (s : State) (v : Value) (w : World) (h : StateAt w s v) (hlen : stateLen s) : Calls Tryz.prog 35 #[v] w (RetJobs w (s.Queue ++ s.Runs.map Run.Job)) := by
 obtain ⟨⟨ps,ns⟩,up,lic,dep,now,qs,rs,es⟩ := s
 obtain ⟨A1,c1,A2,c2,A3,c3,A6,c6,A7,c7,A8,c8,rfl,h1,h2,h3,h6,h7,h8⟩ := h
 obtain ⟨hl1,hl2,hl3,hl6,hl7,hl8⟩ := hlen
 simp only [] at h1 h2 h3 h6 h7 h8 hl1 hl2 hl3 hl6 hl7 hl8 ⊢
 obtain ⟨i0,hi,hI0,hI1,hI2⟩ := info_parts CJob.info
 have HQ := Hh (fun (u : World) (e : Ext w u) => h6.ext (Flat.mono Job.enc Job.ok) e)
 have HRS := Hh (fun (u : World) (e : Ext w u) => h7.ext RRun.mono e)
 have HQK := Hh h6.all
 clear h1 h2 h3 h6 h7 h8
 have HE0 := Hh (show ((w.alloc (.cells #[.slice A1 ps.length c1,.slice A2 ns.length c2,.slice A3 up.length c3,.int .i64 lic.A,.int .i64 lic.B,.int .i64 lic.C,.int .i64 dep,.int .i64 now,.slice A6 qs.length c6,.slice A7 rs.length c7,.slice A8 es.length c8] 34)).alloc (.cells #[] 52)).ownsRow (w.heap.size + 1) 52 11 (.slice (some ⟨w.heap.size + 1,0,none⟩) 0 0) 0 [] from by
  have h := owns_empty (w.alloc (.cells #[.slice A1 ps.length c1,.slice A2 ns.length c2,.slice A3 up.length c3,.int .i64 lic.A,.int .i64 lic.B,.int .i64 lic.C,.int .i64 dep,.int .i64 now,.slice A6 qs.length c6,.slice A7 rs.length c7,.slice A8 es.length c8] 34)) 52 11
  rw [show (w.alloc (.cells #[.slice A1 ps.length c1,.slice A2 ns.length c2,.slice A3 up.length c3,.int .i64 lic.A,.int .i64 lic.B,.int .i64 lic.C,.int .i64 dep,.int .i64 now,.slice A6 qs.length c6,.slice A7 rs.length c7,.slice A8 es.length c8] 34)).heap.size = w.heap.size + 1 by simp] at h
  exact h)
 go_enter Tryz.func35,Tryz.ntmps35
 go_wp2_with (at_builtin;go_must (refine wpList_append_r (enc := Job.enc) (ok := Job.ok) (.tmp 6) (.tmp 8) _ (w.heap.size + 1) 52 i0 _ 11 88 (.slice (some ⟨w.heap.size + 1,0,none⟩) 0 0) 0 [] A6 qs.length c6 qs rfl rfl Tryz.underlying30 hi hI0 hI1 hI2 rfl (by omega) rfl HE0.out rfl (HQ.out _ (((Ext.refl w).alloc _).alloc _)) Job.size job_one (by unfold maxLen;omega) (by omega) (by simp) ?_);intro A4 c4 w3 hr3;have HR3 := Hh hr3.row;have HX3 := Hh (ext_turned (w := (w.alloc (.cells #[.slice A1 ps.length c1,.slice A2 ns.length c2,.slice A3 up.length c3,.int .i64 lic.A,.int .i64 lic.B,.int .i64 lic.C,.int .i64 dep,.int .i64 now,.slice A6 qs.length c6,.slice A7 rs.length c7,.slice A8 es.length c8] 34))) ((Ext.refl _).alloc _) (hr3.turned (lo := w.heap.size + 1) (fun q hq => by have h2 : w.heap.size + 1 = q := Option.some.inj hq;omega)) (by simp));have s9 := HX3.out.cell (cell_box_at w w.heap.size rfl [.slice A1 ps.length c1,.slice A2 ns.length c2,.slice A3 up.length c3,.int .i64 lic.A,.int .i64 lic.B,.int .i64 lic.C,.int .i64 dep,.int .i64 now,.slice A6 qs.length c6,.slice A7 rs.length c7,.slice A8 es.length c8] 34 9 _ rfl);have hs9 := lt_of_cell s9;clear hr3)
 simp only [Nat.zero_add,List.nil_append] at HR3 ⊢
 go_wp2
 go_loopw [3,13] (fun l iv wr => ∃ (k : Nat) (A5 : Option Addr) (c5 : Nat),k ≤ rs.length ∧ l = .slice A5 (qs.length + k) c5 ∧ iv = .int .i64 k ∧ Hid (wr.ownsRow (w.heap.size + 1) 52 11 (.slice A5 (qs.length + k) c5) (qs.length + k) ((qs ++ (rs.take k).map Run.Job).flatMap Job.enc)) ∧ Hid (∀ x ∈ qs ++ (rs.take k).map Run.Job,x.ok) ∧ Ext (w.alloc (.cells #[.slice A1 ps.length c1,.slice A2 ns.length c2,.slice A3 up.length c3,.int .i64 lic.A,.int .i64 lic.B,.int .i64 lic.C,.int .i64 dep,.int .i64 now,.slice A6 qs.length c6,.slice A7 rs.length c7,.slice A8 es.length c8] 34)) wr) (fun _ iv _ => rs.length - (intOf iv).toNat)
 case atStart => exact ⟨0,A4,c4,Nat.zero_le _,rfl,rfl,Hh (by simpa using HR3.out),Hh (by simpa using HQK.out),HX3.out⟩
 case round =>
  clear s9 hs9 HX3 HR3
  obtain ⟨k,A5,c5,hk,rfl,rfl,HO,HOK,hb⟩ := hrel
  by_cases hlt : k < rs.length
  ·obtain ⟨bq,oq,x,cs,hA7,hbw,hx,_,hc,Ar,cr,rfl,hs,hcr,hnl,hat64,hjok⟩ := (HRS.out wr (((Ext.refl w).alloc _).trans hb)).at_ hlt
   subst hA7
   have g0 := hc 0 _ rfl
   have g1 := hc 1 _ rfl
   have g2 := hc 2 _ rfl
   have g3 := hc 3 _ rfl
   have g4 := hc 4 _ rfl
   have g5 := hc 5 _ rfl
   have g6 := hc 6 _ rfl
   have g7 := hc 7 _ rfl
   have g8 := hc 8 _ rfl
   have g9 := hc 9 _ rfl
   have g10 := hc 10 _ rfl
   have g11 := hc 11 _ rfl
   have g12 := hc 12 _ rfl
   simp only [Nat.add_zero] at g0
   have HX := Hh hx
   have HJK := Hh hjok
   have hz := hb.le
   simp at hz
   clear hx hc hs hcr hnl hat64 hjok
   go_wp2_with (at_builtin;go_must (refine wpList_append_r (enc := Job.enc) (ok := Job.ok) (.tmp 17) (.tmp 20) _ (w.heap.size + 1) 52 i0 _ 11 88 (.slice A5 (qs.length + k) c5) (qs.length + k) _ (some ⟨wr.heap.size + 1,0,none⟩) 1 1 [x.Job] rfl rfl Tryz.underlying30 hi hI0 hI1 hI2 rfl (by omega) rfl (owns_ext HO.out (((Ext.refl _).alloc _).alloc _)) rfl (by exact sl_one_at (enc := Job.enc) _ _ (by simp) x.Job 52 rfl HJK.out) Job.size job_one (by unfold maxLen;omega) (by omega) (by simp;omega) ?_);intro A9 c9 w5 hr5;have HR5 := Hh hr5;clear hr5)
   have HXT := Hh (ext_turned ((hb.alloc _).alloc _) (HR5.out.turned (lo := w.heap.size + 1) (fun q hq => (HO.out.lt q hq).1)) (by simp))
   go_wp2
   go_roundw
   case rel => exact ⟨k + 1,A9,c9,by omega,rfl,by go_num,Hh (by have h := HR5.out.row;rw [take_succ HX.out,List.map_append,← List.append_assoc,List.flatMap_append];simpa [Nat.add_assoc] using h),Hh (fun y hy => by rw [take_succ HX.out,List.map_append,← List.append_assoc] at hy;rcases List.mem_append.1 hy with hy | hy;exact HOK.out y hy;(simp at hy;rw [hy];exact HJK.out)),HXT.out⟩
   case measure => simp [intOf];omega
  ·obtain rfl : k = rs.length := by omega
   have HT := Hh (show rs.take rs.length = rs from List.take_length)
   rw [HT.out] at HO HOK
   have HLN := Hh (show (qs ++ rs.map Run.Job).length = qs.length + rs.length by simp)
   go_wp2
   exact bodyPost_ret (results_tmp rfl _ _ _) rfl ⟨A5,c5,by rw [HLN.out];rfl,by rw [HLN.out];exact owns_base HO.out (by omega),HOK.out,((Ext.refl w).alloc _).trans hb⟩
def riseGo (n : Int) : List Int → Bool → List Int
 | [],d => if d = true then [] else [n]
 | x :: r,d => if (!d && decide (n < x)) = true then n :: x :: riseGo n r true else x :: riseGo n r d
theorem rise_len (n : Int) : ∀ (l : List Int) (d : Bool),(riseGo n l d).length = l.length + (if d = true then 0 else 1) := by
 intro l
 induction l with
 | nil => intro d;cases d <;> rfl
 | cons x r ih =>
  intro d
  rw [riseGo]
  cases d with
  | true => rw [if_neg (by simp),List.length_cons,ih];simp
  | false =>
   by_cases h : n < x
   ·rw [if_pos (by simp [h]),List.length_cons,List.length_cons,ih];simp
   ·rw [if_neg (by simp [h]),List.length_cons,ih];simp
theorem rise_mem (n : Int) : ∀ (l : List Int) (d : Bool) (y : Int),y ∈ riseGo n l d → y = n ∨ y ∈ l := by
 intro l
 induction l with
 | nil => intro d y hy;cases d <;> simp [riseGo] at hy;exact .inl hy
 | cons x r ih =>
  intro d y hy
  rw [riseGo] at hy
  split at hy
  ·rcases List.mem_cons.1 hy with rfl | hy
   ·exact .inl rfl
   rcases List.mem_cons.1 hy with rfl | hy
   ·exact .inr (List.mem_cons_self ..)
   rcases ih _ _ hy with h | h
   ·exact .inl h
   ·exact .inr (List.mem_cons_of_mem _ h)
  ·rcases List.mem_cons.1 hy with rfl | hy
   ·exact .inr (List.mem_cons_self ..)
   rcases ih _ _ hy with h | h
   ·exact .inl h
   ·exact .inr (List.mem_cons_of_mem _ h)
def RetRowI (w : World) (xs : List Int) : Ending → World → Prop := fun e w' => ∃ A c,e = .returned (.slice A xs.length c) ∧ w'.ownsRow w.heap.size 3 1 (.slice A xs.length c) xs.length (xs.flatMap encInt) ∧ Ext w w'
theorem ret_rowI {w w0 : World} {P : Program} {fn : Func} {a : Act} {t : Tmp} {n c : Nat} {A : Option Addr} {ys : List Int} (hr : fn.results = #[.tmp t])
  (hown : w.ownsRow w0.heap.size 3 1 (.slice A n c) n (ys.flatMap encInt)) (hlen : ys.length = n)
  (hb : Ext w0 w) (hv : a.tmps.getD t undef = .slice A n c := by rfl) (hd : a.defers = [] := by rfl) : bodyPost P fn (RetRowI w0 ys) .ret a w := by
 subst hlen
 exact bodyPost_ret (results_tmp hr _ _ _) hd ⟨A,c,by rw [hv],hown,hb⟩
theorem l04Rise_c (xs : List Int) (v : Int) (A : Option Addr) (n c : Nat) (w : World) (h : SlAt RInt 1 w A n xs) (hn : n ≤ 1048576) (hv : In64 v) : Calls Tryz.prog 136 #[.slice A n c,.int .i64 v] w (RetRowI w (riseGo v xs false)) := by
 obtain ⟨i0,hi,hI0,hI1,hI2⟩ := info_parts TInt.info
 have HN := Hh h.len
 have HS := Hh (fun (u : World) (e : Ext w u) => h.ext (Flat.mono encInt In64) e)
 have HA := Hh (fun (y : Int) (hy : y ∈ riseGo v xs false) => show In64 y from by
  rcases rise_mem v xs false y hy with rfl | hy
  ·exact hv
  ·exact h.all y hy)
 have HV := Hh hv
 have HF := Hh (show riseGo v xs false = [] ++ riseGo v (xs.drop 0) false from rfl)
 have HO0 := Hh (show (w.alloc (.cells #[] 3)).ownsRow w.heap.size 3 1 (.slice (some ⟨w.heap.size,0,none⟩) 0 0) 0 [] from owns_empty w 3 1)
 clear h hv
 generalize riseGo v xs false = R at *
 go_enter Tryz.func136,Tryz.ntmps136
 go_wp2
 go_loopw [5,6,12] (fun l dv iv wr => ∃ (k a : Nat) (A1 : Option Addr) (c1 : Nat) (acc : List Int) (dn : Bool),k ≤ n ∧ iv = .int .i64 k ∧ l = .slice A1 a c1 ∧ a ≤ k + (if dn = true then 1 else 0) ∧ dv = .bool dn ∧ Hid (a = acc.length) ∧ Hid (R = acc ++ riseGo v (xs.drop k) dn) ∧ Hid (wr.ownsRow w.heap.size 3 1 (.slice A1 a c1) a (acc.flatMap encInt)) ∧ Ext w wr) (fun _ _ iv _ => n - (intOf iv).toNat)
 case atStart => exact ⟨0,0,_,0,[],false,Nat.zero_le _,rfl,rfl,by simp,rfl,Hh rfl,HF.out,HO0.out,(Ext.refl _).alloc _⟩
 case round =>
  clear HO0 HF
  obtain ⟨k,a,A1,c1,acc,dn,hk,rfl,rfl,hak,rfl,HL,HR,HO,hb⟩ := hrel
  have hle := hb.le
  have hak1 : a ≤ k + 1 := by split at hak <;> omega
  have hak0 : dn = false → a ≤ k := fun h => by rw [h] at hak;simpa using hak
  clear hak
  by_cases hlt : k < n
  ·obtain ⟨b,o,x,cs,rfl,hbw,hx,_,hc,rfl,_⟩ := (HS.out wr hb).at_ hlt
   have y0 := hc 0 _ rfl
   simp only [Nat.mul_one,Nat.add_zero] at y0
   have HD := Hh (drop_cons hx)
   have HX := Hh ((HS.out w (Ext.refl _)).all x (List.mem_of_getElem? hx))
   clear hc hx
   by_cases hp : dn = false ∧ v < x
   ·obtain ⟨rfl,hvx⟩ := hp
    have hak := hak0 rfl
    clear hak0
    have hvd : decide (v < x) = true := decide_eq_true hvx
    have HT := Hh (show R = ((acc ++ [v]) ++ [x]) ++ riseGo v (xs.drop (k + 1)) true by rw [HR.out,HD.out,riseGo,if_pos (by rw [hvd];rfl)];simp)
    clear hvx
    go_wp2_with (at_builtin;first
     | (refine wpList_append_r (enc := encInt) (ok := In64) (.tmp 23) (.tmp 25) _ w.heap.size 3 i0 _ 1 8 (.slice A1 a c1) a _ (some ⟨wr.heap.size,0,none⟩) 1 1 [v] rfl rfl Tryz.underlying23 hi hI0 hI1 hI2 rfl (by omega) rfl (owns_ext HO.out ((Ext.refl _).alloc _)) rfl (by exact sl_one_at (enc := encInt) _ _ rfl v 3 rfl HV.out) (fun _ => rfl) TInt.one (by unfold maxLen;omega) (by omega) (by simp;omega) ?_
        intro A9 c9 w5 hr5
        have HX5 := Hh (ext_turned (hb.alloc _) (hr5.turned (lo := w.heap.size) (fun q hq => (HO.out.lt q hq).1)) (by simp))
        have hw5 := HX5.out.le
        have HO5 := Hh (show w5.ownsRow w.heap.size 3 1 (.slice A9 (a + 1) c9) (a + 1) ((acc ++ [v]).flatMap encInt) by have h := hr5.row;rw [List.flatMap_append];simpa using h)
        clear hr5)
     | (refine wpList_append_r (enc := encInt) (ok := In64) (.tmp 27) (.tmp 29) _ w.heap.size 3 i0 _ 1 8 (.slice A9 (a + 1) c9) (a + 1) _ (some ⟨w5.heap.size,0,none⟩) 1 1 [x] rfl rfl Tryz.underlying23 hi hI0 hI1 hI2 rfl (by omega) rfl (owns_ext HO5.out ((Ext.refl _).alloc _)) rfl (by exact sl_one_at (enc := encInt) _ _ rfl x 3 rfl HX.out) (fun _ => rfl) TInt.one (by unfold maxLen;omega) (by omega) (by simp;omega) ?_
        intro A8 c8 w6 hr6
        have HR6 := Hh hr6
        clear hr6))
    have HX6 := Hh (ext_turned (HX5.out.alloc _) (HR6.out.turned (lo := w.heap.size) (fun q hq => (HO5.out.lt q hq).1)) (by simp))
    go_wp2
    go_roundw
    case rel => exact ⟨k + 1,a + 1 + 1,A8,c8,(acc ++ [v]) ++ [x],true,by omega,by go_num,rfl,by simp;omega,rfl,Hh (by rw [List.length_append,List.length_append,← HL.out];rfl),HT,Hh (by have h := HR6.out.row;rw [List.flatMap_append];simpa using h),HX6.out⟩
    case measure => simp [intOf];omega
   ·have HT := Hh (show R = (acc ++ [x]) ++ riseGo v (xs.drop (k + 1)) dn by rw [HR.out,HD.out,riseGo,if_neg (by intro hh;apply hp;simpa using hh)];simp)
    rcases dn with _ | _
    ·have hak := hak0 rfl
     clear hak0
     have hvd : decide (v < x) = false := decide_eq_false (fun hh => hp ⟨rfl,hh⟩)
     clear hp
     go_wp2_with (at_builtin;go_must (refine wpList_append_r (enc := encInt) (ok := In64) (.tmp 27) (.tmp 29) _ w.heap.size 3 i0 _ 1 8 (.slice A1 a c1) a _ (some ⟨wr.heap.size,0,none⟩) 1 1 [x] rfl rfl Tryz.underlying23 hi hI0 hI1 hI2 rfl (by omega) rfl (owns_ext HO.out ((Ext.refl _).alloc _)) rfl (by exact sl_one_at (enc := encInt) _ _ rfl x 3 rfl HX.out) (fun _ => rfl) TInt.one (by unfold maxLen;omega) (by omega) (by simp;omega) ?_);intro A8 c8 w6 hr6;have HR6 := Hh hr6;clear hr6)
     have HX6 := Hh (ext_turned (hb.alloc _) (HR6.out.turned (lo := w.heap.size) (fun q hq => (HO.out.lt q hq).1)) (by simp))
     go_wp2
     go_roundw
     case rel => exact ⟨k + 1,a + 1,A8,c8,acc ++ [x],false,by omega,by go_num,rfl,by simpa using hak,rfl,Hh (by rw [List.length_append,← HL.out];rfl),HT,Hh (by have h := HR6.out.row;rw [List.flatMap_append];simpa using h),HX6.out⟩
     case measure => simp [intOf];omega
    ·clear hp hak0
     go_wp2_with (at_builtin;go_must (refine wpList_append_r (enc := encInt) (ok := In64) (.tmp 27) (.tmp 29) _ w.heap.size 3 i0 _ 1 8 (.slice A1 a c1) a _ (some ⟨wr.heap.size,0,none⟩) 1 1 [x] rfl rfl Tryz.underlying23 hi hI0 hI1 hI2 rfl (by omega) rfl (owns_ext HO.out ((Ext.refl _).alloc _)) rfl (by exact sl_one_at (enc := encInt) _ _ rfl x 3 rfl HX.out) (fun _ => rfl) TInt.one (by unfold maxLen;omega) (by omega) (by simp;omega) ?_);intro A8 c8 w6 hr6;have HR6 := Hh hr6;clear hr6)
     have HX6 := Hh (ext_turned (hb.alloc _) (HR6.out.turned (lo := w.heap.size) (fun q hq => (HO.out.lt q hq).1)) (by simp))
     go_wp2
     go_roundw
     case rel => exact ⟨k + 1,a + 1,A8,c8,acc ++ [x],true,by omega,by go_num,rfl,by simp;omega,rfl,Hh (by rw [List.length_append,← HL.out];rfl),HT,Hh (by have h := HR6.out.row;rw [List.flatMap_append];simpa using h),HX6.out⟩
     case measure => simp [intOf];omega
  ·have HDN := Hh (List.drop_eq_nil_of_le (show xs.length ≤ k by have := HN.out;omega))
   clear hak0
   rcases dn with _ | _
   ·have HT := Hh (show R = acc ++ [v] by rw [HR.out,HDN.out];rfl)
    go_wp2_with (at_builtin;go_must (refine wpList_append_r (enc := encInt) (ok := In64) (.tmp 34) (.tmp 36) _ w.heap.size 3 i0 _ 1 8 (.slice A1 a c1) a _ (some ⟨wr.heap.size,0,none⟩) 1 1 [v] rfl rfl Tryz.underlying23 hi hI0 hI1 hI2 rfl (by omega) rfl (owns_ext HO.out ((Ext.refl _).alloc _)) rfl (by exact sl_one_at (enc := encInt) _ _ rfl v 3 rfl HV.out) (fun _ => rfl) TInt.one (by unfold maxLen;omega) (by omega) (by simp;omega) ?_);intro A8 c8 w6 hr6;have HR6 := Hh hr6;clear hr6)
    have HX6 := Hh (ext_turned (hb.alloc _) (HR6.out.turned (lo := w.heap.size) (fun q hq => (HO.out.lt q hq).1)) (by simp))
    have HLT := Hh (show a + 1 = R.length by rw [HT.out,List.length_append,← HL.out];rfl)
    have HOT := Hh (show w6.ownsRow w.heap.size 3 1 (.slice A8 (a + 1) c8) (a + 1) (R.flatMap encInt) by have h := HR6.out.row;rw [HT.out,List.flatMap_append];simpa using h)
    go_wp2
    exact ret_rowI rfl HOT.out (by rw [HLT.out]) HX6.out
   ·have HT := Hh (show R = acc by rw [HR.out,HDN.out];simp [riseGo])
    have HLT := Hh (show a = R.length by rw [HT.out,← HL.out])
    have HOT := Hh (show wr.ownsRow w.heap.size 3 1 (.slice A1 a c1) a (R.flatMap encInt) by rw [HT.out];exact HO.out)
    go_wp2
    exact ret_rowI rfl HOT.out (by rw [HLT.out]) hb
end Go.Proofs.YtfanjhcdjbnnnaaGreat
