/- MvPlanL, MvPlan, MvStartL. -/
import Derived.Test.YtfanjhcdjbnnnaaGreatK18
import Derived.Test.YtfanjhcdjbnnnaaGreatK20
import Derived.Test.YtfanjhcdjbnnnaaGreatK25
import Derived.Test.YtfanjhcdjbnnnaaGreatK16
namespace Go.Proofs.YtfanjhcdjbnnnaaGreat
open Go.RowKit
set_option linter.unusedVariables false
set_option maxHeartbeats 16000000
set_option maxRecDepth 10000
structure RawHeld where
 id : Int
 at_ : Int
 A : Option Addr
 n : Nat
 c : Nat
def RawHeld.enc (r : RawHeld) : List Value := [.int .i64 r.id,.int .i64 r.at_,.slice r.A r.n r.c]
theorem RawHeld.size (r : RawHeld) : r.enc.length = 3 := rfl
def RawHeld.ok (r : RawHeld) : Prop := In64 r.id ∧ r.n ≤ 1048576 ∧ r.n ≤ r.c
def RawHeld.mem (w : World) (lo : Nat) (r : RawHeld) : Prop := ∃ xs,RowI w lo r.A r.n r.c xs
theorem RawHeld.one (r : RawHeld) : ∀ u ∈ r.enc,u.oneCell' = true := by
 intro u hu
 simp [RawHeld.enc] at hu
 rcases hu with rfl | rfl | rfl <;> rfl
theorem CHeld.info : (Tryz.prog.info? 146).map (fun i => (i.zero,i.size,i.bytes)) = some (some (.agg #[.int .i64 0,.int .i64 0,.slice none 0 0]),3,40) := by kernel_rfl
section
variable {w w' u u' : World} {lo base nb sz : Nat} {e : TypeId} {v : Value} {L : List Value} {ps : List Int} {ns : List Node} {up : List Bool} {r : List (List Pt) × List Pt} {A1 : Option Addr} {c1 : Nat} {A2 : Option Addr} {c2 : Nat} {A3 : Option Addr} {c3 : Nat} {A4 : Option Addr} {c4 : Nat} {A5 : Option Addr} {c5 : Nat}
theorem PO.kept {A : Option Addr} {n c : Nat} {qs : List (List Pt)} (h : PO w lo A n c qs) (ho : w.ownsRow base e sz v nb L) (hk : Kept w w' v.ownBlock) (h1 : 71 ≠ e) (h2 : 133 ≠ e) : PO w' lo A n c qs := by
 obtain ⟨a1,L,a2,a3⟩ := h
 refine ⟨a1,L,hk.own a2 (g_apart a2 ho h1),fun k p hp => ?_⟩
 obtain ⟨A',c',e1,e2,e3⟩ := a3 k p hp
 exact ⟨A',c',e1,hk.own e2 (g_apart e2 ho h2),e3⟩
def roomTypes : List TypeId := [3,85,4,71,133]
theorem RoomS.kept (h : RoomS w lo ps ns up r A1 c1 A2 c2 A3 c3 A4 c4 A5 c5) (ho : w.ownsRow base e sz v nb L) (hk : Kept w w' v.ownBlock) (hne : ∀ t ∈ roomTypes,t ≠ e) : RoomS w' lo ps ns up r A1 c1 A2 c2 A3 c3 A4 c4 A5 c5 :=
 ⟨h.par.keep ho hk (hne _ (by simp [roomTypes])),h.nod.keep ho hk (hne _ (by simp [roomTypes])),h.ups.keep ho hk (hne _ (by simp [roomTypes])),h.pro.kept ho hk (hne _ (by simp [roomTypes])) (hne _ (by simp [roomTypes])),hk.own h.lic (g_apart h.lic ho (hne _ (by simp [roomTypes]))),h.ok1,h.ok2,h.ok3⟩
end
theorem rooms_sm {ps : List Int} {ns : List Node} {up : List Bool} {pl : List (List Pt)} {lic : List Pt} (ht : topoB ps ns = true) (hu : up.length = ns.length) (hk : roomOkM ns.length (pl,lic)) : roomSm ps ns up pl lic := by
 obtain ⟨⟨_,h1⟩,h2,_⟩ := topo_parts ht
 obtain ⟨h3,h4,h5⟩ := hk
 simp only [] at h3 h4 h5
 have h6 := (profB_parts h5).2.1
 refine ⟨⟨by omega,by omega,by omega⟩,by omega,by omega,fun p hp => ?_⟩
 have := (profB_parts (h4 p hp)).2.1
 omega
theorem box_puts5 {w : World} {lo g : Nat} {e : TypeId} {L : List Value} (a0 a1 a2 a3 a4 : Value) (h : w.ownsRow lo e 5 (.slice (some ⟨g,0,none⟩) 1 1) 1 L) : (setCells w g 0 [a0,a1,a2,a3,a4]).ownsRow lo e 5 (.slice (some ⟨g,0,none⟩) 1 1) 1 [a0,a1,a2,a3,a4] := by
 have h1 := owns_puts [a0,a1,a2,a3,a4] w L 0 h
 have hl : L.length = 5 := by have := h.1;simpa using this
 have h2 := take_setAll [a0,a1,a2,a3,a4] L 0 (by simp;omega)
 rw [Nat.zero_add,List.take_zero,List.nil_append,List.take_of_length_le (by rw [length_setAll,hl];simp)] at h2
 rw [h2] at h1
 exact h1
structure PlanI (w wr : World) (ps : List Int) (ns : List Node) (up : List Bool) (m : Nat) (ol : List Job) (A6 : Option Addr) (c6 : Nat) (pl : List (List Pt)) (lic : List Pt) (A1 : Option Addr) (c1 : Nat) (A2 : Option Addr) (c2 : Nat) (A3 : Option Addr) (c3 : Nat) (A4 : Option Addr) (n4 c4 : Nat) (A5 : Option Addr) (n5 c5 : Nat) (S : Option Addr) (a c : Nat) (hs : List RawHeld) (E : Option Addr) (b d : Nat) (ls : List RawHeld) : Prop where
 ext : Ext w wr
 box : wr.ownsRow w.heap.size 73 5 (.slice (some ⟨w.heap.size,0,none⟩) 1 1) 1 [.slice A1 ps.length c1,.slice A2 ns.length c2,.slice A3 up.length c3,.slice A4 n4 c4,.slice A5 n5 c5]
 rm : RoomS wr 0 ps ns up (pl,lic) A1 c1 A2 c2 A3 c3 A4 c4 A5 c5
 l4 : n4 = pl.length
 l5 : n5 = lic.length
 rk : roomOkM ns.length (pl,lic)
 oj : wr.ownsRow w.heap.size 52 11 (.slice A6 m c6) m (ol.flatMap Job.enc)
 sl : a = hs.length
 sr : wr.ownsRow w.heap.size 146 3 (.slice S a c) a (hs.flatMap RawHeld.enc)
 sm : ∀ x ∈ hs,x.ok ∧ RawHeld.mem wr w.heap.size x
 lr : wr.ownsRow w.heap.size 146 3 (.slice E b d) b (ls.flatMap RawHeld.enc)
 ap : rowsApart (Value.slice S a c).ownBlock (Value.slice E b d).ownBlock
section
variable {w wr u : World} {ps : List Int} {ns : List Node} {up : List Bool} {m : Nat} {ol : List Job} {A6 : Option Addr} {c6 : Nat} {pl : List (List Pt)} {lic : List Pt} {A1 : Option Addr} {c1 : Nat} {A2 : Option Addr} {c2 : Nat} {A3 : Option Addr} {c3 : Nat} {A4 : Option Addr} {n4 c4 : Nat} {A5 : Option Addr} {n5 c5 : Nat} {S : Option Addr} {a c : Nat} {hs : List RawHeld} {E : Option Addr} {b d : Nat} {ls : List RawHeld}
theorem PlanI.mv (h : PlanI w wr ps ns up m ol A6 c6 pl lic A1 c1 A2 c2 A3 c3 A4 n4 c4 A5 n5 c5 S a c hs E b d ls) (e : Ext wr u) : PlanI w u ps ns up m ol A6 c6 pl lic A1 c1 A2 c2 A3 c3 A4 n4 c4 A5 n5 c5 S a c hs E b d ls :=
 ⟨h.ext.trans e,owns_ext h.box e,h.rm.ext e,h.l4,h.l5,h.rk,owns_ext h.oj e,h.sl,owns_ext h.sr e,(fun x hx => ⟨(h.sm x hx).1,by obtain ⟨xs,hx⟩ := (h.sm x hx).2;exact ⟨xs,hx.ext e⟩⟩),owns_ext h.lr e,h.ap⟩
theorem PlanI.put {pl2 : List (List Pt)} {lc2 : List Pt} {B1 : Option Addr} {d1 : Nat} {B2 : Option Addr} {d2 : Nat} {B3 : Option Addr} {d3 : Nat} {B4 : Option Addr} {d4 : Nat} {B5 : Option Addr} {d5 : Nat} (h : PlanI w wr ps ns up m ol A6 c6 pl lic A1 c1 A2 c2 A3 c3 A4 n4 c4 A5 n5 c5 S a c hs E b d ls) (hr : RoomS wr 0 ps ns up (pl2,lc2) B1 d1 B2 d2 B3 d3 B4 d4 B5 d5) (hk : roomOkM ns.length (pl2,lc2)) :
  PlanI w (setCells wr w.heap.size 0 [.slice B1 ps.length d1,.slice B2 ns.length d2,.slice B3 up.length d3,.slice B4 pl2.length d4,.slice B5 lc2.length d5]) ps ns up m ol A6 c6 pl2 lc2 B1 d1 B2 d2 B3 d3 B4 pl2.length d4 B5 lc2.length d5 S a c hs E b d ls := by
 have hkp := kept_puts w.heap.size [.slice B1 ps.length d1,.slice B2 ns.length d2,.slice B3 up.length d3,.slice B4 pl2.length d4,.slice B5 lc2.length d5] wr 0
 have hne : ∀ {e : TypeId} {lo sz n : Nat} {v : Value} {L : List Value},wr.ownsRow lo e sz v n L → e ≠ 73 → (setCells wr w.heap.size 0 [.slice B1 ps.length d1,.slice B2 ns.length d2,.slice B3 up.length d3,.slice B4 pl2.length d4,.slice B5 lc2.length d5]).ownsRow lo e sz v n L := fun ho hne => hkp.own ho (g_apart ho h.box hne)
 exact ⟨Ext.puts _ _ _ h.ext (Nat.le_refl _),box_puts5 _ _ _ _ _ h.box,hr.kept h.box hkp (by simp [roomTypes]),rfl,rfl,hk,hne h.oj (by decide),h.sl,hne h.sr (by decide),(fun x hx => ⟨(h.sm x hx).1,by obtain ⟨xs,hx⟩ := (h.sm x hx).2;exact ⟨xs,hx.kept h.box hkp (by decide)⟩⟩),hne h.lr (by decide),h.ap⟩
theorem PlanI.pushS {S' : Option Addr} {c' : Nat} {x : RawHeld} (h : PlanI w wr ps ns up m ol A6 c6 pl lic A1 c1 A2 c2 A3 c3 A4 n4 c4 A5 n5 c5 S a c hs E b d ls) (hr : AppR wr u w.heap.size 146 3 (.slice S a c) S' (a + 1) c' ((hs ++ [x]).flatMap RawHeld.enc)) (hx : x.ok) (hm : RawHeld.mem wr w.heap.size x) :
  PlanI w u ps ns up m ol A6 c6 pl lic A1 c1 A2 c2 A3 c3 A4 n4 c4 A5 n5 c5 S' (a + 1) c' (hs ++ [x]) E b d ls := by
 have hkp := hr.kp
 exact ⟨hkp.ext h.ext (fun q hq => (h.sr.lt q hq).1),hkp.own h.box (g_apart h.box h.sr (by decide)),h.rm.kept h.sr hkp (by simp [roomTypes]),h.l4,h.l5,h.rk,hkp.own h.oj (g_apart h.oj h.sr (by decide)),(by rw [List.length_append,← h.sl];rfl),hr.row,(fun y hy => by
   have hmm : RawHeld.mem wr w.heap.size y ∧ y.ok := by
    rcases List.mem_append.1 hy with hy | hy
    ·exact ⟨(h.sm y hy).2,(h.sm y hy).1⟩
    ·rw [List.mem_singleton.1 hy];exact ⟨hm,hx⟩
   obtain ⟨⟨xs,h1⟩,h2⟩ := hmm
   exact ⟨h2,xs,h1.kept h.sr hkp (by decide)⟩),hkp.own h.lr h.ap.symm,(hr.apart h.lr h.ap.symm).symm⟩
theorem PlanI.pushL {S' : Option Addr} {c' : Nat} {x : RawHeld} (h : PlanI w wr ps ns up m ol A6 c6 pl lic A1 c1 A2 c2 A3 c3 A4 n4 c4 A5 n5 c5 S a c hs E b d ls) (hr : AppR wr u w.heap.size 146 3 (.slice E b d) S' (b + 1) c' ((ls ++ [x]).flatMap RawHeld.enc)) :
  PlanI w u ps ns up m ol A6 c6 pl lic A1 c1 A2 c2 A3 c3 A4 n4 c4 A5 n5 c5 S a c hs S' (b + 1) c' (ls ++ [x]) := by
 have hkp := hr.kp
 exact ⟨hkp.ext h.ext (fun q hq => (h.lr.lt q hq).1),hkp.own h.box (g_apart h.box h.lr (by decide)),h.rm.kept h.lr hkp (by simp [roomTypes]),h.l4,h.l5,h.rk,hkp.own h.oj (g_apart h.oj h.lr (by decide)),h.sl,hkp.own h.sr h.ap,(fun y hy => ⟨(h.sm y hy).1,by obtain ⟨xs,h1⟩ := (h.sm y hy).2;exact ⟨xs,h1.kept h.lr hkp (by decide)⟩⟩),hr.row,hr.apart h.sr h.ap⟩
end
def RetPlan (w : World) (m : Nat) : Ending → World → Prop := fun e w' => ∃ (A : Option Addr) (n c : Nat) (hs : List RawHeld) (B : Option Addr) (q f : Nat) (ok : Bool),e = .returned (.tuple #[.slice A n c,.slice B q f,.bool ok]) ∧ n = hs.length ∧ w'.ownsRow w.heap.size 146 3 (.slice A n c) n (hs.flatMap RawHeld.enc) ∧ (∀ x ∈ hs,x.ok ∧ RawHeld.mem w' w.heap.size x) ∧ n ≤ m ∧ Ext w w'
theorem retPlan_none {w w' : World} {m : Nat} (hb : Ext w w') : RetPlan w m (.returned (.tuple #[.slice none 0 0,.slice none 0 0,.bool false])) w' := ⟨none,0,0,[],none,0,0,false,rfl,rfl,World.ownsRow_nil _ _ _ _,(fun x hx => by cases hx),Nat.zero_le _,hb⟩
theorem Plan_c (ps : List Int) (ns : List Node) (up : List Bool) (pl : List (List Pt)) (lic : List Pt) (now dep : Int) (q : List Job) (A1 : Option Addr) (c1 : Nat) (A2 : Option Addr) (c2 : Nat) (A3 : Option Addr) (c3 : Nat) (A4 : Option Addr) (c4 : Nat) (A5 : Option Addr) (c5 : Nat) (Q : Option Addr) (n qc : Nat) (w : World)
  (hrm : RoomS w 0 ps ns up (pl,lic) A1 c1 A2 c2 A3 c3 A4 c4 A5 c5) (hsm : roomSm ps ns up pl lic) (hq : SlAt RJob 11 w Q n q) (hn : n ≤ 100000) : Calls Tryz.prog 112 #[.agg #[.slice A1 ps.length c1,.slice A2 ns.length c2,.slice A3 up.length c3,.slice A4 pl.length c4,.slice A5 lic.length c5],.int .i64 now,.slice Q n qc,.int .i64 dep] w (RetPlan w n) := by
 obtain ⟨iH,hiH,hH0,hH1,hH2⟩ := info_parts CHeld.info
 have HRO := Hh (fun (u : World) (e : Ext w u) => sRoomOkG_c ps ns up pl lic _ u ((hrm.ext e).at_) hsm)
 have HQO := Hh (fun (u : World) (e : Ext w u) => sQueueOk_c q Q n qc u (hq.ext (Flat.mono _ _) e) (by unfold maxLen;omega))
 have HTI := Hh (fun u : World => sTime_c now u)
 have HOR := Hh (fun (u : World) (e : Ext w u) => Order_c q Q n qc u (hq.ext (Flat.mono _ _) e) (by omega))
 have HQA := Hh hq.all
 have HRM := Hh hrm
 simp only [] at HRO
 have HRB := Hh (fun (h : roomB ps ns up pl lic = true) => roomB_parts h)
 clear hrm hq hsm
 generalize roomB ps ns up pl lic = rb at *
 generalize queueB q = qb at *
 rcases rb with _ | _
 ·clear HOR
  go_enter Tryz.func112,Tryz.ntmps112
  go_wp2_with fail
  refine (HRO.out _ Ext.go).mono ?_
  rintro e w1 ⟨rfl,hb1⟩
  obtain ⟨hcr1,hfr1,hz1⟩ := hb1.rules
  (try simp at hz1)
  have hy1_w0 : w.heap.size < w1.heap.size := (by omega)
  go_wp2
  exact bodyPost_ret (by simp [results,Tryz.results112,go_sem, *]) rfl (retPlan_none (((Ext.refl w).alloc _).trans hb1))
 rcases qb with _ | _
 ·clear HOR
  go_enter Tryz.func112,Tryz.ntmps112
  go_wp2_with fail
  refine (HRO.out _ Ext.go).mono ?_
  rintro e w1 ⟨rfl,hb1⟩
  obtain ⟨hcr1,hfr1,hz1⟩ := hb1.rules
  (try simp at hz1)
  have hy1_w0 : w.heap.size < w1.heap.size := (by omega)
  go_wp2_with fail
  refine (HQO.out _ Ext.go).mono ?_
  rintro e w2 ⟨rfl,hb2⟩
  obtain ⟨hcr2,hfr2,hz2⟩ := hb2.rules
  (try simp at hz2)
  have hy2_w0 : w.heap.size < w2.heap.size := (by omega)
  go_wp2
  exact bodyPost_ret (by simp [results,Tryz.results112,go_sem, *]) rfl (retPlan_none (((Ext.refl w).alloc _).trans (hb1.trans hb2)))
 rcases (Bool.eq_false_or_eq_true (timeB now)).symm with hn2 | hn2
 all_goals rw [hn2] at HTI
 ·clear HOR hn2
  go_enter Tryz.func112,Tryz.ntmps112
  go_wp2_with fail
  refine (HRO.out _ Ext.go).mono ?_
  rintro e w1 ⟨rfl,hb1⟩
  obtain ⟨hcr1,hfr1,hz1⟩ := hb1.rules
  (try simp at hz1)
  have hy1_w0 : w.heap.size < w1.heap.size := (by omega)
  go_wp2_with fail
  refine (HQO.out _ Ext.go).mono ?_
  rintro e w2 ⟨rfl,hb2⟩
  obtain ⟨hcr2,hfr2,hz2⟩ := hb2.rules
  (try simp at hz2)
  have hy2_w0 : w.heap.size < w2.heap.size := (by omega)
  go_wp2_with fail
  refine (HTI.out _).mono ?_
  rintro e w3 ⟨rfl,rfl⟩
  go_wp2
  exact bodyPost_ret (by simp [results,Tryz.results112,go_sem, *]) rfl (retPlan_none (((Ext.refl w).alloc _).trans (hb1.trans hb2)))
 have hnow : In64 now := by unfold timeB at hn2;rw [decide_eq_true_iff] at hn2;unfold In64;omega
 clear hn2
 rcases (Bool.eq_false_or_eq_true (decide (dep < 0))) with hd | hd
 ·clear HOR
  go_enter Tryz.func112,Tryz.ntmps112
  go_wp2_with fail
  refine (HRO.out _ Ext.go).mono ?_
  rintro e w1 ⟨rfl,hb1⟩
  obtain ⟨hcr1,hfr1,hz1⟩ := hb1.rules
  (try simp at hz1)
  have hy1_w0 : w.heap.size < w1.heap.size := (by omega)
  go_wp2_with fail
  refine (HQO.out _ Ext.go).mono ?_
  rintro e w2 ⟨rfl,hb2⟩
  obtain ⟨hcr2,hfr2,hz2⟩ := hb2.rules
  (try simp at hz2)
  have hy2_w0 : w.heap.size < w2.heap.size := (by omega)
  go_wp2_with fail
  refine (HTI.out _).mono ?_
  rintro e w3 ⟨rfl,rfl⟩
  go_wp2
  exact bodyPost_ret (by simp [results,Tryz.results112,go_sem, *]) rfl (retPlan_none (((Ext.refl w).alloc _).trans (hb1.trans hb2)))
 rcases (Bool.eq_false_or_eq_true (decide (60 < dep))) with hd2 | hd2
 ·clear HOR
  go_enter Tryz.func112,Tryz.ntmps112
  go_wp2_with fail
  refine (HRO.out _ Ext.go).mono ?_
  rintro e w1 ⟨rfl,hb1⟩
  obtain ⟨hcr1,hfr1,hz1⟩ := hb1.rules
  (try simp at hz1)
  have hy1_w0 : w.heap.size < w1.heap.size := (by omega)
  go_wp2_with fail
  refine (HQO.out _ Ext.go).mono ?_
  rintro e w2 ⟨rfl,hb2⟩
  obtain ⟨hcr2,hfr2,hz2⟩ := hb2.rules
  (try simp at hz2)
  have hy2_w0 : w.heap.size < w2.heap.size := (by omega)
  go_wp2_with fail
  refine (HTI.out _).mono ?_
  rintro e w3 ⟨rfl,rfl⟩
  go_wp2
  exact bodyPost_ret (by simp [results,Tryz.results112,go_sem, *]) rfl (retPlan_none (((Ext.refl w).alloc _).trans (hb1.trans hb2)))
 obtain ⟨hTT,hUU,hKK⟩ := HRB.out rfl
 have HT := Hh hTT
 have HU := Hh hUU
 have HKM := Hh hKK
 clear hTT hUU hKK HRB
 go_enter Tryz.func112,Tryz.ntmps112
 go_wp2_with fail
 refine (HRO.out _ Ext.go).mono ?_
 rintro e w1 ⟨rfl,hb1⟩
 obtain ⟨hcr1,hfr1,hz1⟩ := hb1.rules
 (try simp at hz1)
 have hy1_w0 : w.heap.size < w1.heap.size := (by omega)
 go_wp2_with fail
 refine (HQO.out _ Ext.go).mono ?_
 rintro e w2 ⟨rfl,hb2⟩
 obtain ⟨hcr2,hfr2,hz2⟩ := hb2.rules
 (try simp at hz2)
 have hy2_w0 : w.heap.size < w2.heap.size := (by omega)
 go_wp2_with fail
 refine (HTI.out _).mono ?_
 rintro e w3 ⟨rfl,rfl⟩
 have E2 : Ext (w.alloc (.cells #[.slice A1 ps.length c1,.slice A2 ns.length c2,.slice A3 up.length c3,.slice A4 pl.length c4,.slice A5 lic.length c5] 73)) w2 := hb1.trans hb2
 have HE2 := Hh E2
 have HL0 := Hh (show ((w2.alloc (.cells #[] 146)).alloc (.cells #[] 146)).ownsRow w.heap.size 146 3 (.slice (some ⟨w2.heap.size,0,none⟩) 0 0) 0 [] ∧ ((w2.alloc (.cells #[] 146)).alloc (.cells #[] 146)).ownsRow w.heap.size 146 3 (.slice (some ⟨w2.heap.size + 1,0,none⟩) 0 0) 0 [] from by
  have hle := E2.le
  simp at hle
  refine ⟨owns_base (owns_ext (owns_empty w2 146 3) ((Ext.refl _).alloc _)) (by omega), ?_⟩
  have h := owns_empty (w2.alloc (.cells #[] 146)) 146 3
  rw [show (w2.alloc (.cells #[] 146)).heap.size = w2.heap.size + 1 by simp] at h
  exact owns_base h (by omega))
 clear hb1 hb2 E2 HRO HQO HTI
 go_wp2_with fail
 refine (HOR.out _ (((((Ext.refl w).alloc _).trans HE2.out).alloc _).alloc _)).mono ?_
 rintro e w4 ⟨A6,m,c6,l,rfl,hml,hoj,hlq,hmn,hb4⟩
 have HLQ := Hh (fun x (hx : x ∈ l) => HQA.out x (hlq x hx))
 have HML := Hh hml
 have HE4 := Hh (((HE2.out.alloc (.cells #[] 146)).alloc (.cells #[] 146)).trans hb4)
 have HOB := Hh (show w4.ownsRow w.heap.size 52 11 (.slice A6 m c6) m (l.flatMap Job.enc) from owns_base hoj (by have := HE2.out.le;simp at this ⊢;omega))
 have HPI0 := Hh (show PlanI w w4 ps ns up m l A6 c6 pl lic A1 c1 A2 c2 A3 c3 A4 pl.length c4 A5 lic.length c5 (some ⟨w2.heap.size,0,none⟩) 0 0 [] (some ⟨w2.heap.size + 1,0,none⟩) 0 0 [] from
  ⟨((Ext.refl w).alloc _).trans HE4.out,owns_ext (gbox w [.slice A1 ps.length c1,.slice A2 ns.length c2,.slice A3 up.length c3,.slice A4 pl.length c4,.slice A5 lic.length c5] 73 5 rfl) HE4.out,HRM.out.ext (((Ext.refl w).alloc _).trans HE4.out),rfl,rfl,HKM.out,HOB.out,rfl,owns_ext HL0.out.1 hb4,(fun x hx => by cases hx),owns_ext HL0.out.2 hb4,(fun x h1 h2 => by simp [Value.ownBlock] at h1 h2;omega)⟩)
 clear hml hoj hlq hb4 HE2 HL0 HOR HE4 HOB HRM HKM
 go_wp2
 go_loopw [11,12,46] (fun sv lv iv wr => ∃ (k : Nat) (pl : List (List Pt)) (lic : List Pt) (A1 : Option Addr) (c1 : Nat) (A2 : Option Addr) (c2 : Nat) (A3 : Option Addr) (c3 : Nat) (A4 : Option Addr) (n4 c4 : Nat) (A5 : Option Addr) (n5 c5 : Nat) (S : Option Addr) (a c : Nat) (hs : List RawHeld) (E : Option Addr) (b d : Nat) (ls : List RawHeld),k ≤ m ∧ sv = .slice S a c ∧ lv = .slice E b d ∧ iv = .int .i64 k ∧ a ≤ k ∧ b ≤ k ∧ Hid (PlanI w wr ps ns up m l A6 c6 pl lic A1 c1 A2 c2 A3 c3 A4 n4 c4 A5 n5 c5 S a c hs E b d ls)) (fun _ _ iv _ => m - (intOf iv).toNat)
 case atStart => exact ⟨0,pl,lic,A1,c1,A2,c2,A3,c3,A4,_,c4,A5,_,c5,_,0,0,[],_,0,0,[],Nat.zero_le _,rfl,rfl,rfl,by omega,by omega,HPI0⟩
 case round =>
  clear HPI0 hcr1 hfr1 hz1 hy1_w0 hcr2 hfr2 hz2 hy2_w0
  obtain ⟨k,pl,lic,A1,c1,A2,c2,A3,c3,A4,n4,c4,A5,n5,c5,S,a,c,hs,E,b,d,ls,hk,rfl,rfl,rfl,hak,hbk,HPI⟩ := hrel
  obtain rfl := HPI.out.l4.symm
  obtain rfl := HPI.out.l5.symm
  by_cases hlt : k < m
  ·have HSA := Hh (show SlAt RJob 11 wr A6 m l from by have h := HPI.out.oj;rw [HML.out] at h ⊢;exact owns_sl Job.size h HLQ.out)
   obtain ⟨bo,oo,x,cs,hA6,hbw,hx,_,hc,rfl,hok⟩ := HSA.out.at_ hlt
   subst hA6
   have g0 := hc 0 _ rfl
   have g1 := hc 1 _ rfl
   have g2 := hc 2 _ rfl
   have g3 := hc 3 _ rfl
   have g4 := hc 4 _ rfl
   have g5 := hc 5 _ rfl
   have g6 := hc 6 _ rfl
   have g7 := hc 7 _ rfl
   have g8 := hc 8 _ rfl
   have g9 := hc 9 _ rfl
   have g10 := hc 10 _ rfl
   simp only [Nat.add_zero] at g0
   have HK := Hh hok
   have hle := HPI.out.ext.le
   have HSM := Hh (rooms_sm HT.out HU.out HPI.out.rk)
   have HXB := Hh (gbox wr [.int .i64 x.Id,.int .i64 x.Prio,.int .i64 x.Nodes,.int .i64 x.Need.A,.int .i64 x.Need.B,.int .i64 x.Need.C,.int .i64 x.Lic.A,.int .i64 x.Lic.B,.int .i64 x.Lic.C,.int .i64 x.Wall,.int .i64 x.Level] 52 11 rfl)
   obtain ⟨t0,t1,t2,t3,t4,tf0,tf1,tf2,tf3,tf4,tl⟩ := gcells5 HPI.out.box
   clear hc hx hok HSA
   go_wp2_with fail
   refine (Earliest_c ps ns up pl lic x now _ _ (HPI.out.rm.ext ((Ext.refl wr).alloc _)).at_ HSM.out hnow).mono ?_
   rintro e w1 ⟨ok1,at1,D,nn,dc,xs,rfl,hat64,hri,hnn,hnc,_,hb1⟩
   have HPI1 := Hh (HPI.out.mv (((Ext.refl wr).alloc _).trans hb1))
   have HXB1 := Hh (owns_ext HXB.out hb1)
   have HRI := Hh (hri.base (lo' := w.heap.size) (by simp;omega))
   have hle1 := HPI1.out.ext.le
   have hlw1 := hb1.le
   simp at hlw1
   clear HPI HXB HSM hri hb1 g0 g1 g2 g3 g4 g5 g6 g7 g8 g9 g10 t0 t1 t2 t3 t4 tf0 tf1 tf2 tf3 tf4 tl
   rcases ok1 with _ | _
   ·go_wp2
    go_roundw
    case rel => exact ⟨k + 1,pl,lic,A1,c1,A2,c2,A3,c3,A4,_,c4,A5,_,c5,S,a,c,hs,E,b,d,ls,by omega,rfl,rfl,by go_num,by omega,by omega,HPI1⟩
    case measure => simp [intOf];omega
   ·rcases (Bool.eq_false_or_eq_true (decide (now < at1))) with ha1 | ha1
    ·rcases (Bool.eq_false_or_eq_true (decide (dep ≤ (b : Int)))) with ha2 | ha2
     ·go_wp2
      go_roundw
      case rel => exact ⟨k + 1,pl,lic,A1,c1,A2,c2,A3,c3,A4,_,c4,A5,_,c5,S,a,c,hs,E,b,d,ls,by omega,rfl,rfl,by go_num,by omega,by omega,HPI1⟩
      case measure => simp [intOf];omega
     ·skip
      obtain ⟨⟨x0,x1,x2,x3,x4,x5,x6,x7,x8,x9,x10⟩,⟨xf0,xf1,xf2,xf3,xf4,xf5,xf6,xf7,xf8,xf9,xf10⟩,xl⟩ := cells11 HXB1.out
      obtain ⟨t0,t1,t2,t3,t4,tf0,tf1,tf2,tf3,tf4,tl⟩ := gcells5 HPI1.out.box
      go_wp2_with fail
      refine (sReserveZ_c ps ns up pl lic x at1 xs D nn dc _ _ HPI1.out.rm.at_ HT.out HU.out HPI1.out.rk HRI.out.1 (by unfold maxLen;omega) hnc hat64).mono ?_
      have HV := Hh (fun (r : List (List Pt) × List Pt) (hr : (if (jobB x && jobNodesB ns.length x xs && timeB at1) = true then moveM at1 (at1 + x.Wall) x xs (pl,lic) else none) = some r) => show roomOkM ns.length r from by
       split at hr
       ·exact moveM_valid HPI1.out.rk hr
       ·cases hr)
      generalize (if (jobB x && jobNodesB ns.length x xs && timeB at1) = true then moveM at1 (at1 + x.Wall) x xs (pl,lic) else none) = R at *
      rintro e w2 ⟨B1,m1,d1,B2,m2,d2,B3,m3,d3,B4,m4,d4,B5,m5,d5,rfl,hsome,hnone,hb2⟩
      have HPI2 := Hh (HPI1.out.mv hb2)
      have HXB2 := Hh (owns_ext HXB1.out hb2)
      have HRI2 := Hh (HRI.out.ext hb2)
      clear x0 x1 x2 x3 x4 x5 x6 x7 x8 x9 x10 xf0 xf1 xf2 xf3 xf4 xf5 xf6 xf7 xf8 xf9 xf10 xl t0 t1 t2 t3 t4 tf0 tf1 tf2 tf3 tf4 tl
      rcases R with _ | ⟨pl2,lc2⟩
      ·obtain ⟨⟨rfl,rfl,rfl⟩,⟨rfl,rfl,rfl⟩,⟨rfl,rfl,rfl⟩,⟨rfl,rfl,rfl⟩,rfl,rfl,rfl⟩ := hnone rfl
       have HPI3 := Hh (HPI2.out.mv ((Ext.refl w2).alloc (.cells #[.slice none 0 0,.slice none 0 0,.slice none 0 0,.slice none 0 0,.slice none 0 0] 73)))
       clear hsome hnone hb2 HPI1 HPI2 HXB1 HXB2 HRI HRI2 HV
       go_wp2
       go_roundw
       case rel => exact ⟨k + 1,pl,lic,A1,c1,A2,c2,A3,c3,A4,_,c4,A5,_,c5,S,a,c,hs,E,b,d,ls,by omega,rfl,rfl,by go_num,by omega,by omega,HPI3⟩
       case measure => simp [intOf];omega
      ·obtain ⟨rfl,rfl,rfl,rfl,rfl,hrs⟩ := hsome _ rfl
       have HRS := Hh (hrs.base (Nat.zero_le _))
       have HVV := Hh (HV.out _ rfl)
       clear hsome hnone hrs HV HPI1 HXB1 HRI
       simp only [] at HRS HVV ⊢
       have EA : Ext (setCells w2 w.heap.size 0 [.slice B1 ps.length d1,.slice B2 ns.length d2,.slice B3 up.length d3,.slice B4 pl2.length d4,.slice B5 lc2.length d5]) ((setCells w2 w.heap.size 0 [.slice B1 ps.length d1,.slice B2 ns.length d2,.slice B3 up.length d3,.slice B4 pl2.length d4,.slice B5 lc2.length d5]).alloc (.cells #[.slice B1 ps.length d1,.slice B2 ns.length d2,.slice B3 up.length d3,.slice B4 pl2.length d4,.slice B5 lc2.length d5] 73)) := (Ext.refl _).alloc _
       have HKP := Hh (kept_puts w.heap.size [.slice B1 ps.length d1,.slice B2 ns.length d2,.slice B3 up.length d3,.slice B4 pl2.length d4,.slice B5 lc2.length d5] w2 0)
       have HPI3 := Hh ((HPI2.out.put HRS.out HVV.out).mv EA)
       have HXB3 := Hh (owns_ext (HKP.out.own HXB2.out (g_apart HXB2.out HPI2.out.box (by decide))) EA)
       have HRI3 := Hh (((HRI2.out.kept HPI2.out.box HKP.out (by decide)).ext EA))
       have HS3 := EA.le
       have HS4 := HKP.out.size
       obtain ⟨t0,t1,t2,t3,t4,tf0,tf1,tf2,tf3,tf4,tl⟩ := gcells5 HPI2.out.box
       clear HPI2 HXB2 HRI2 HKP EA HRS HVV
       go_upto_region 13 with fail
       generalize hw3 : ((((((w2.setCell ⟨w.heap.size,0,none⟩ (.slice B1 ps.length d1)).setCell ⟨w.heap.size,1,none⟩ (.slice B2 ns.length d2)).setCell ⟨w.heap.size,2,none⟩ (.slice B3 up.length d3)).setCell ⟨w.heap.size,3,none⟩ (.slice B4 pl2.length d4)).setCell ⟨w.heap.size,4,none⟩ (.slice B5 lc2.length d5)).alloc (.cells #[.slice B1 ps.length d1,.slice B2 ns.length d2,.slice B3 up.length d3,.slice B4 pl2.length d4,.slice B5 lc2.length d5] 73)) = w3
       have hw4 : (setCells w2 w.heap.size 0 [.slice B1 ps.length d1,.slice B2 ns.length d2,.slice B3 up.length d3,.slice B4 pl2.length d4,.slice B5 lc2.length d5]).alloc (.cells #[.slice B1 ps.length d1,.slice B2 ns.length d2,.slice B3 up.length d3,.slice B4 pl2.length d4,.slice B5 lc2.length d5] 73) = w3 := hw3
       rw [hw4] at HPI3 HXB3 HRI3 HS3
       clear hw3
       clear hw4 t0 t1 t2 t3 t4 tf0 tf1 tf2 tf3 tf4 tl
       obtain ⟨⟨x0,x1,x2,x3,x4,x5,x6,x7,x8,x9,x10⟩,⟨xf0,xf1,xf2,xf3,xf4,xf5,xf6,xf7,xf8,xf9,xf10⟩,xl⟩ := cells11 HXB3.out
       have HYK := Hh (show RawHeld.ok ⟨x.Id,at1,D,nn,dc⟩ from ⟨HK.out.1,hnn,hnc⟩)
       have hl3 := HPI3.out.ext.le
       by_cases hat : at1 = now
       ·have hd1 : decide (at1 = now) = true := decide_eq_true hat
        have hd2 : (at1 == now) = true := by rw [beq_iff_eq];exact hat
        clear hat
        go_wp2_with (at_builtin;go_must (refine wpList_append_k (enc := RawHeld.enc) (ok := RawHeld.ok) (.tmp 85) (.tmp 91) _ w.heap.size 146 iH _ 3 40 (.slice S a c) a (hs.flatMap RawHeld.enc) (some ⟨w3.heap.size,0,none⟩) 1 1 [(⟨x.Id,at1,D,nn,dc⟩ : RawHeld)] (a + 1) ((hs ++ [(⟨x.Id,at1,D,nn,dc⟩ : RawHeld)]).flatMap RawHeld.enc) rfl List.flatMap_append.symm rfl rfl Tryz.underlying142 hiH hH0 hH1 hH2 rfl (by omega) rfl (owns_ext (HPI3.out.sr) ((Ext.refl _).alloc _)) rfl (by exact sl_one_at (enc := RawHeld.enc) w3 _ rfl (⟨x.Id,at1,D,nn,dc⟩ : RawHeld) 146 rfl HYK.out) RawHeld.size RawHeld.one (by unfold maxLen;omega) (by omega) (by simp;omega) ?_);intro S6 c6s w6 hr;have HR6 := Hh hr;clear hr)
        have HPI4 := Hh ((HPI3.out.mv ((Ext.refl w3).alloc (.cells (RawHeld.enc (⟨x.Id,at1,D,nn,dc⟩ : RawHeld)).toArray 146))).pushS HR6.out HYK.out ⟨xs,HRI3.out.ext ((Ext.refl w3).alloc _)⟩)
        clear HR6 HPI3 HXB3 HRI3 x0 x1 x2 x3 x4 x5 x6 x7 x8 x9 x10 xf0 xf1 xf2 xf3 xf4 xf5 xf6 xf7 xf8 xf9 xf10 xl hd1 hd2
        go_wp2
        go_roundw
        case rel => exact ⟨k + 1,pl2,lc2,B1,d1,B2,d2,B3,d3,B4,_,d4,B5,_,d5,S6,a + 1,c6s,_,E,b,d,ls,by omega,rfl,rfl,by go_num,by omega,by omega,HPI4⟩
        case measure => simp [intOf];omega
       ·have hd1 : decide (at1 = now) = false := decide_eq_false hat
        have hd2 : (at1 == now) = false := by rw [beq_eq_false_iff_ne];exact hat
        clear hat
        go_wp2_with (at_builtin;go_must (refine wpList_append_k (enc := RawHeld.enc) (ok := RawHeld.ok) (.tmp 93) (.tmp 99) _ w.heap.size 146 iH _ 3 40 (.slice E b d) b (ls.flatMap RawHeld.enc) (some ⟨w3.heap.size,0,none⟩) 1 1 [(⟨x.Id,at1,D,nn,dc⟩ : RawHeld)] (b + 1) ((ls ++ [(⟨x.Id,at1,D,nn,dc⟩ : RawHeld)]).flatMap RawHeld.enc) rfl List.flatMap_append.symm rfl rfl Tryz.underlying142 hiH hH0 hH1 hH2 rfl (by omega) rfl (owns_ext (HPI3.out.lr) ((Ext.refl _).alloc _)) rfl (by exact sl_one_at (enc := RawHeld.enc) w3 _ rfl (⟨x.Id,at1,D,nn,dc⟩ : RawHeld) 146 rfl HYK.out) RawHeld.size RawHeld.one (by unfold maxLen;omega) (by omega) (by simp;omega) ?_);intro S6 c6s w6 hr;have HR6 := Hh hr;clear hr)
        have HPI4 := Hh ((HPI3.out.mv ((Ext.refl w3).alloc (.cells (RawHeld.enc (⟨x.Id,at1,D,nn,dc⟩ : RawHeld)).toArray 146))).pushL HR6.out)
        clear HR6 HPI3 HXB3 HRI3 x0 x1 x2 x3 x4 x5 x6 x7 x8 x9 x10 xf0 xf1 xf2 xf3 xf4 xf5 xf6 xf7 xf8 xf9 xf10 xl hd1 hd2
        go_wp2
        go_roundw
        case rel => exact ⟨k + 1,pl2,lc2,B1,d1,B2,d2,B3,d3,B4,_,d4,B5,_,d5,S,a,c,hs,S6,b + 1,c6s,_,by omega,rfl,rfl,by go_num,by omega,by omega,HPI4⟩
        case measure => simp [intOf];omega
    ·skip
     obtain ⟨⟨x0,x1,x2,x3,x4,x5,x6,x7,x8,x9,x10⟩,⟨xf0,xf1,xf2,xf3,xf4,xf5,xf6,xf7,xf8,xf9,xf10⟩,xl⟩ := cells11 HXB1.out
     obtain ⟨t0,t1,t2,t3,t4,tf0,tf1,tf2,tf3,tf4,tl⟩ := gcells5 HPI1.out.box
     go_wp2_with fail
     refine (sReserveZ_c ps ns up pl lic x at1 xs D nn dc _ _ HPI1.out.rm.at_ HT.out HU.out HPI1.out.rk HRI.out.1 (by unfold maxLen;omega) hnc hat64).mono ?_
     have HV := Hh (fun (r : List (List Pt) × List Pt) (hr : (if (jobB x && jobNodesB ns.length x xs && timeB at1) = true then moveM at1 (at1 + x.Wall) x xs (pl,lic) else none) = some r) => show roomOkM ns.length r from by
      split at hr
      ·exact moveM_valid HPI1.out.rk hr
      ·cases hr)
     generalize (if (jobB x && jobNodesB ns.length x xs && timeB at1) = true then moveM at1 (at1 + x.Wall) x xs (pl,lic) else none) = R at *
     rintro e w2 ⟨B1,m1,d1,B2,m2,d2,B3,m3,d3,B4,m4,d4,B5,m5,d5,rfl,hsome,hnone,hb2⟩
     have HPI2 := Hh (HPI1.out.mv hb2)
     have HXB2 := Hh (owns_ext HXB1.out hb2)
     have HRI2 := Hh (HRI.out.ext hb2)
     clear x0 x1 x2 x3 x4 x5 x6 x7 x8 x9 x10 xf0 xf1 xf2 xf3 xf4 xf5 xf6 xf7 xf8 xf9 xf10 xl t0 t1 t2 t3 t4 tf0 tf1 tf2 tf3 tf4 tl
     rcases R with _ | ⟨pl2,lc2⟩
     ·obtain ⟨⟨rfl,rfl,rfl⟩,⟨rfl,rfl,rfl⟩,⟨rfl,rfl,rfl⟩,⟨rfl,rfl,rfl⟩,rfl,rfl,rfl⟩ := hnone rfl
      have HPI3 := Hh (HPI2.out.mv ((Ext.refl w2).alloc (.cells #[.slice none 0 0,.slice none 0 0,.slice none 0 0,.slice none 0 0,.slice none 0 0] 73)))
      clear hsome hnone hb2 HPI1 HPI2 HXB1 HXB2 HRI HRI2 HV
      go_wp2
      go_roundw
      case rel => exact ⟨k + 1,pl,lic,A1,c1,A2,c2,A3,c3,A4,_,c4,A5,_,c5,S,a,c,hs,E,b,d,ls,by omega,rfl,rfl,by go_num,by omega,by omega,HPI3⟩
      case measure => simp [intOf];omega
     ·obtain ⟨rfl,rfl,rfl,rfl,rfl,hrs⟩ := hsome _ rfl
      have HRS := Hh (hrs.base (Nat.zero_le _))
      have HVV := Hh (HV.out _ rfl)
      clear hsome hnone hrs HV HPI1 HXB1 HRI
      simp only [] at HRS HVV ⊢
      have EA : Ext (setCells w2 w.heap.size 0 [.slice B1 ps.length d1,.slice B2 ns.length d2,.slice B3 up.length d3,.slice B4 pl2.length d4,.slice B5 lc2.length d5]) ((setCells w2 w.heap.size 0 [.slice B1 ps.length d1,.slice B2 ns.length d2,.slice B3 up.length d3,.slice B4 pl2.length d4,.slice B5 lc2.length d5]).alloc (.cells #[.slice B1 ps.length d1,.slice B2 ns.length d2,.slice B3 up.length d3,.slice B4 pl2.length d4,.slice B5 lc2.length d5] 73)) := (Ext.refl _).alloc _
      have HKP := Hh (kept_puts w.heap.size [.slice B1 ps.length d1,.slice B2 ns.length d2,.slice B3 up.length d3,.slice B4 pl2.length d4,.slice B5 lc2.length d5] w2 0)
      have HPI3 := Hh ((HPI2.out.put HRS.out HVV.out).mv EA)
      have HXB3 := Hh (owns_ext (HKP.out.own HXB2.out (g_apart HXB2.out HPI2.out.box (by decide))) EA)
      have HRI3 := Hh (((HRI2.out.kept HPI2.out.box HKP.out (by decide)).ext EA))
      have HS3 := EA.le
      have HS4 := HKP.out.size
      obtain ⟨t0,t1,t2,t3,t4,tf0,tf1,tf2,tf3,tf4,tl⟩ := gcells5 HPI2.out.box
      clear HPI2 HXB2 HRI2 HKP EA HRS HVV
      go_upto_region 13 with fail
      generalize hw3 : ((((((w2.setCell ⟨w.heap.size,0,none⟩ (.slice B1 ps.length d1)).setCell ⟨w.heap.size,1,none⟩ (.slice B2 ns.length d2)).setCell ⟨w.heap.size,2,none⟩ (.slice B3 up.length d3)).setCell ⟨w.heap.size,3,none⟩ (.slice B4 pl2.length d4)).setCell ⟨w.heap.size,4,none⟩ (.slice B5 lc2.length d5)).alloc (.cells #[.slice B1 ps.length d1,.slice B2 ns.length d2,.slice B3 up.length d3,.slice B4 pl2.length d4,.slice B5 lc2.length d5] 73)) = w3
      have hw4 : (setCells w2 w.heap.size 0 [.slice B1 ps.length d1,.slice B2 ns.length d2,.slice B3 up.length d3,.slice B4 pl2.length d4,.slice B5 lc2.length d5]).alloc (.cells #[.slice B1 ps.length d1,.slice B2 ns.length d2,.slice B3 up.length d3,.slice B4 pl2.length d4,.slice B5 lc2.length d5] 73) = w3 := hw3
      rw [hw4] at HPI3 HXB3 HRI3 HS3
      clear hw3
      clear hw4 t0 t1 t2 t3 t4 tf0 tf1 tf2 tf3 tf4 tl
      obtain ⟨⟨x0,x1,x2,x3,x4,x5,x6,x7,x8,x9,x10⟩,⟨xf0,xf1,xf2,xf3,xf4,xf5,xf6,xf7,xf8,xf9,xf10⟩,xl⟩ := cells11 HXB3.out
      have HYK := Hh (show RawHeld.ok ⟨x.Id,at1,D,nn,dc⟩ from ⟨HK.out.1,hnn,hnc⟩)
      have hl3 := HPI3.out.ext.le
      by_cases hat : at1 = now
      ·have hd1 : decide (at1 = now) = true := decide_eq_true hat
       have hd2 : (at1 == now) = true := by rw [beq_iff_eq];exact hat
       clear hat
       go_wp2_with (at_builtin;go_must (refine wpList_append_k (enc := RawHeld.enc) (ok := RawHeld.ok) (.tmp 85) (.tmp 91) _ w.heap.size 146 iH _ 3 40 (.slice S a c) a (hs.flatMap RawHeld.enc) (some ⟨w3.heap.size,0,none⟩) 1 1 [(⟨x.Id,at1,D,nn,dc⟩ : RawHeld)] (a + 1) ((hs ++ [(⟨x.Id,at1,D,nn,dc⟩ : RawHeld)]).flatMap RawHeld.enc) rfl List.flatMap_append.symm rfl rfl Tryz.underlying142 hiH hH0 hH1 hH2 rfl (by omega) rfl (owns_ext (HPI3.out.sr) ((Ext.refl _).alloc _)) rfl (by exact sl_one_at (enc := RawHeld.enc) w3 _ rfl (⟨x.Id,at1,D,nn,dc⟩ : RawHeld) 146 rfl HYK.out) RawHeld.size RawHeld.one (by unfold maxLen;omega) (by omega) (by simp;omega) ?_);intro S6 c6s w6 hr;have HR6 := Hh hr;clear hr)
       have HPI4 := Hh ((HPI3.out.mv ((Ext.refl w3).alloc (.cells (RawHeld.enc (⟨x.Id,at1,D,nn,dc⟩ : RawHeld)).toArray 146))).pushS HR6.out HYK.out ⟨xs,HRI3.out.ext ((Ext.refl w3).alloc _)⟩)
       clear HR6 HPI3 HXB3 HRI3 x0 x1 x2 x3 x4 x5 x6 x7 x8 x9 x10 xf0 xf1 xf2 xf3 xf4 xf5 xf6 xf7 xf8 xf9 xf10 xl hd1 hd2
       go_wp2
       go_roundw
       case rel => exact ⟨k + 1,pl2,lc2,B1,d1,B2,d2,B3,d3,B4,_,d4,B5,_,d5,S6,a + 1,c6s,_,E,b,d,ls,by omega,rfl,rfl,by go_num,by omega,by omega,HPI4⟩
       case measure => simp [intOf];omega
      ·have hd1 : decide (at1 = now) = false := decide_eq_false hat
       have hd2 : (at1 == now) = false := by rw [beq_eq_false_iff_ne];exact hat
       clear hat
       go_wp2_with (at_builtin;go_must (refine wpList_append_k (enc := RawHeld.enc) (ok := RawHeld.ok) (.tmp 93) (.tmp 99) _ w.heap.size 146 iH _ 3 40 (.slice E b d) b (ls.flatMap RawHeld.enc) (some ⟨w3.heap.size,0,none⟩) 1 1 [(⟨x.Id,at1,D,nn,dc⟩ : RawHeld)] (b + 1) ((ls ++ [(⟨x.Id,at1,D,nn,dc⟩ : RawHeld)]).flatMap RawHeld.enc) rfl List.flatMap_append.symm rfl rfl Tryz.underlying142 hiH hH0 hH1 hH2 rfl (by omega) rfl (owns_ext (HPI3.out.lr) ((Ext.refl _).alloc _)) rfl (by exact sl_one_at (enc := RawHeld.enc) w3 _ rfl (⟨x.Id,at1,D,nn,dc⟩ : RawHeld) 146 rfl HYK.out) RawHeld.size RawHeld.one (by unfold maxLen;omega) (by omega) (by simp;omega) ?_);intro S6 c6s w6 hr;have HR6 := Hh hr;clear hr)
       have HPI4 := Hh ((HPI3.out.mv ((Ext.refl w3).alloc (.cells (RawHeld.enc (⟨x.Id,at1,D,nn,dc⟩ : RawHeld)).toArray 146))).pushL HR6.out)
       clear HR6 HPI3 HXB3 HRI3 x0 x1 x2 x3 x4 x5 x6 x7 x8 x9 x10 xf0 xf1 xf2 xf3 xf4 xf5 xf6 xf7 xf8 xf9 xf10 xl hd1 hd2
       go_wp2
       go_roundw
       case rel => exact ⟨k + 1,pl2,lc2,B1,d1,B2,d2,B3,d3,B4,_,d4,B5,_,d5,S,a,c,hs,S6,b + 1,c6s,_,by omega,rfl,rfl,by go_num,by omega,by omega,HPI4⟩
       case measure => simp [intOf];omega
  ·obtain rfl : k = m := by omega
   have HF := Hh (show a = hs.length ∧ wr.ownsRow w.heap.size 146 3 (.slice S a c) a (hs.flatMap RawHeld.enc) ∧ (∀ x ∈ hs,x.ok ∧ RawHeld.mem wr w.heap.size x) ∧ Ext w wr from ⟨HPI.out.sl,HPI.out.sr,HPI.out.sm,HPI.out.ext⟩)
   clear HPI
   go_wp2
   exact bodyPost_ret (by simp [results,Tryz.results112,go_sem, *]) rfl ⟨S,a,c,hs,E,b,d,true,rfl,HF.out.1,HF.out.2.1,HF.out.2.2.1,by omega,HF.out.2.2.2⟩
theorem roomGo_ok {m : Nat} {now : Int} : ∀ (l : List Run) (r r' : List (List Pt) × List Pt),roomOkM m r → roomGo m now l r = some r' → roomOkM m r' := by
 intro l
 induction l with
 | nil => intro r r' h e;injection e with e;subst e;exact h
 | cons x q ih =>
  intro r r' h e
  rw [roomGo] at e
  split at e
  ·split at e
   ·cases e
   ·rename_i o ho;exact ih _ _ (moveM_valid h ho) e
  ·cases e
theorem roomF_room {s : State} {r : List (List Pt) × List Pt} (h : roomF s = some r) : topoB s.Topo.Parents s.Topo.Nodes = true ∧ s.Up.length = s.Topo.Nodes.length ∧ roomOkM s.Topo.Nodes.length r := by
 unfold roomF at h
 split at h
 ·rename_i hs
  unfold stateHeadB at hs
  simp only [Bool.and_eq_true,decide_eq_true_iff] at hs
  obtain ⟨⟨⟨h1,h2⟩,h3⟩,_⟩ := hs
  exact ⟨h1,h2,roomGo_ok _ _ _ (room0_ok h1 h3) h⟩
 ·cases h
def StD.ow (d : StD) : Option Nat := (Value.slice d.A7 d.n7 d.c7).ownBlock
structure StartI (w wr : World) (lo : Nat) (d d2 : StD) (S : Option Addr) (a c : Nat) (hs : List RawHeld) (k : Nat) : Prop where
 box : wr.ownsRow w.heap.size 34 11 (.slice (some ⟨w.heap.size,0,none⟩) 1 1) 1 [.slice d2.A1 d2.n1 d2.c1,.slice d2.A2 d2.n2 d2.c2,.slice d2.A3 d2.n3 d2.c3,.int .i64 d2.lic.A,.int .i64 d2.lic.B,.int .i64 d2.lic.C,.int .i64 d2.dep,.int .i64 d2.now,.slice d2.A6 d2.n6 d2.c6,.slice d2.A7 d2.n7 d2.c7,.slice d2.A8 d2.n8 d2.c8]
 res : wr.ownsRow w.heap.size 34 11 (.slice (some ⟨w.heap.size + 1,0,none⟩) 1 1) 1 [.slice none 0 0,.slice none 0 0,.slice none 0 0,.int .i64 0,.int .i64 0,.int .i64 0,.int .i64 0,.int .i64 0,.slice none 0 0,.slice none 0 0,.slice none 0 0]
 gd : d2.good wr lo
 sl : a = hs.length
 sr : wr.ownsRow w.heap.size 146 3 (.slice S a c) a (hs.flatMap RawHeld.enc)
 sm : ∀ x ∈ hs,x.ok ∧ RawHeld.mem wr w.heap.size x
 kp : Kept w wr d.ow
 fr : ∀ q,d2.ow = some q → d.ow = some q ∨ w.heap.size ≤ q
 sz : d2.n1 = d.n1 ∧ d2.n2 = d.n2 ∧ d2.n3 = d.n3 ∧ d2.n6 ≤ d.n6 ∧ d2.n7 ≤ d.n7 + k ∧ d2.n8 = d.n8
section
variable {w wr u : World} {lo : Nat} {d d2 : StD} {S : Option Addr} {a c k : Nat} {hs : List RawHeld}
theorem StartI.mv (h : StartI w wr lo d d2 S a c hs k) (e : Ext wr u) : StartI w u lo d d2 S a c hs k :=
 ⟨owns_ext h.box e,owns_ext h.res e,h.gd.ext e,h.sl,owns_ext h.sr e,(fun x hx => ⟨(h.sm x hx).1,by obtain ⟨xs,hx⟩ := (h.sm x hx).2;exact ⟨xs,hx.ext e⟩⟩),h.kp.trans (Kept.ofExt e none) (fun q hq => by cases hq),h.fr,h.sz⟩
theorem StartI.out {q : List Job} {A : Option Addr} {n c' : Nat} (h : StartI w wr lo d d2 S a c hs k) (hlo : lo ≤ w.heap.size) (h1 : n = q.length) (hr : wr.ownsRow w.heap.size 52 11 (.slice A n c') n (q.flatMap Job.enc)) (hk : ∀ x ∈ q,x.ok) (hn : n ≤ d2.n6) : StartI w (wr.setCell ⟨w.heap.size,8,none⟩ (.slice A n c')) lo d (d2.withQ q A n c') S a c hs k := by
 have hkp := kept_set wr w.heap.size 8 (.slice A n c')
 exact ⟨(h.box.stored 8 _).1,g_far h.res (by simp [Value.ownBlock]),(h.gd.queue h1 (owns_base hr hlo) hk).far h.box (by simp [rowTypes]),h.sl,hkp.own h.sr (g_apart h.sr h.box (by decide)),(fun x hx => ⟨(h.sm x hx).1,by obtain ⟨xs,hx⟩ := (h.sm x hx).2;exact ⟨xs,hx.kept h.box hkp (by decide)⟩⟩),h.kp.trans hkp (fun q hq => .inr (by injection hq with hq;omega)),h.fr,⟨h.sz.1,h.sz.2.1,h.sz.2.2.1,by have := h.sz.2.2.2.1;show n ≤ d.n6;omega,h.sz.2.2.2.2⟩⟩
theorem StartI.push {x : RawRun} {A : Option Addr} {c' : Nat} (h : StartI w wr lo d d2 S a c hs k) (hlo : lo ≤ w.heap.size) (hr : AppR wr u lo 54 13 (.slice d2.A7 d2.n7 d2.c7) A (d2.n7 + 1) c' ((d2.rs ++ [x]).flatMap RawRun.enc)) (hx : x.ok) (hm : RawRun.mem wr lo x) : StartI w (u.setCell ⟨w.heap.size,9,none⟩ (.slice A (d2.n7 + 1) c')) lo d (d2.withR (d2.rs ++ [x]) A (d2.n7 + 1) c') S a c hs (k + 1) := by
 have hkp := hr.kp
 have hr' := hr
 rw [List.flatMap_append] at hr'
 have hb := hkp.own h.box (g_apart h.box h.gd.r7 (by decide))
 have hk2 := kept_set u w.heap.size 9 (.slice A (d2.n7 + 1) c')
 have hs1 := hkp.own h.sr (g_apart h.sr h.gd.r7 (by decide))
 exact ⟨(hb.stored 9 _).1,g_far (hkp.own h.res (g_apart h.res h.gd.r7 (by decide))) (by simp [Value.ownBlock]),(h.gd.pushR hr' hx hm).far hb (by simp [rowTypes]),h.sl,hk2.own hs1 (g_apart hs1 hb (by decide)),(fun y hy => ⟨(h.sm y hy).1,by obtain ⟨xs,hy⟩ := (h.sm y hy).2;exact ⟨xs,(hy.kept h.gd.r7 hkp (by decide)).kept hb hk2 (by decide)⟩⟩),(h.kp.trans hkp h.fr).trans hk2 (fun q hq => .inr (by injection hq with hq;omega)),
  (fun q hq => by rcases hr.fresh q hq with h1 | h1;exact h.fr q h1;(right;exact Nat.le_trans h.kp.size h1)),⟨h.sz.1,h.sz.2.1,h.sz.2.2.1,h.sz.2.2.2.1,by have := h.sz.2.2.2.2.1;show d2.n7 + 1 ≤ d.n7 + (k + 1);omega,h.sz.2.2.2.2.2⟩⟩
end
def RetStart (w : World) (lo : Nat) (d : StD) : Ending → World → Prop := fun e w' => ∃ d2 : StD,e = .returned (.agg #[.slice d2.A1 d2.n1 d2.c1,.slice d2.A2 d2.n2 d2.c2,.slice d2.A3 d2.n3 d2.c3,.int .i64 d2.lic.A,.int .i64 d2.lic.B,.int .i64 d2.lic.C,.int .i64 d2.dep,.int .i64 d2.now,.slice d2.A6 d2.n6 d2.c6,.slice d2.A7 d2.n7 d2.c7,.slice d2.A8 d2.n8 d2.c8]) ∧ d2.good w' lo ∧ (d2.n1 = d.n1 ∧ d2.n2 = d.n2 ∧ d2.n3 = d.n3 ∧ d2.n6 ≤ d.n6 ∧ d2.n7 ≤ d.n7 + d.n6 ∧ d2.n8 = d.n8) ∧ Kept w w' d.ow ∧ (∀ q,d2.ow = some q → d.ow = some q ∨ w.heap.size ≤ q)
end Go.Proofs.YtfanjhcdjbnnnaaGreat
