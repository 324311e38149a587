/- WFnDues, Open. -/
import Derived.Test.YtfanjhcdjbnnnaaGreatK41
import Derived.Test.YtfanjhcdjbnnnaaGreatK43
import Derived.Test.YtfanjhcdjbnnnaaGreatK42
import Derived.Test.YtfanjhcdjbnnnaaGreatRows
import Derived.Test.YtfanjhcdjbnnnaaGreatK02
namespace Go.Proofs.YtfanjhcdjbnnnaaGreat
open Go.RowKit
set_option linter.unusedVariables false
set_option maxHeartbeats 8000000
set_option maxRecDepth 20000
theorem FnDues_c (w : World) (A0 : Option Addr) (n0 c0 : Nat) (x0 : List Int) (h0 : SlAt RU8 1 w A0 n0 x0) (hn0 : n0 ≤ maxLen) : Calls Tryz.prog 3 #[.slice A0 n0 c0] w (Ret w (.bool true)) := by
 unfold maxLen at hn0
 by_cases hbig : 1048576 < n0
 ·clear h0
  go_enter Tryz.func3,Tryz.ntmps3
  go_wp2
  exact ret_bool rfl rfl rfl rfl (Ext.refl _)
 have HD := Hh (DrawDuesOf_c x0 A0 n0 c0 w h0 (by omega))
 clear h0
 go_enter Tryz.func3,Tryz.ntmps3
 go_wp2_with fail
 refine HD.out.mono ?_
 rintro e w1 ⟨d,rfl,hd,hm,hb1⟩
 obtain ⟨m1,m2,m3,m6,m7,m8⟩ := hm
 obtain ⟨s,hst,⟨e1,e2,e3,e6,e7,e8⟩,_⟩ := hd.state2
 have hsl : stateLen s := ⟨by omega,by omega,by omega,by omega,by omega,by omega⟩
 have HDU := Hh (fun (u : World) (e : Ext w1 u) => DuesOf_c s _ u (hst.ext e) hsl)
 have HNE := Hh (fun (u : World) (e : Ext w1 u) => NextEnd_c s _ u (hst.ext e) hsl)
 have HNS := Hh (fun (u : World) (e : Ext w1 u) => sNextEnd_c s _ u (hst.ext e) hsl)
 have HX := Hh (gbox w1 [.slice d.A1 d.n1 d.c1,.slice d.A2 d.n2 d.c2,.slice d.A3 d.n3 d.c3,.int .i64 d.lic.A,.int .i64 d.lic.B,.int .i64 d.lic.C,.int .i64 d.dep,.int .i64 d.now,.slice d.A6 d.n6 d.c6,.slice d.A7 d.n7 d.c7,.slice d.A8 d.n8 d.c8] 34 11 rfl)
 have HE1 := Hh ((Ext.refl w1).alloc (.cells #[.slice d.A1 d.n1 d.c1,.slice d.A2 d.n2 d.c2,.slice d.A3 d.n3 d.c3,.int .i64 d.lic.A,.int .i64 d.lic.B,.int .i64 d.lic.C,.int .i64 d.dep,.int .i64 d.now,.slice d.A6 d.n6 d.c6,.slice d.A7 d.n7 d.c7,.slice d.A8 d.n8 d.c8] 34))
 have HB1 := Hh (hb1.trans HE1.out)
 have HL7 := Hh e7
 clear hst hsl hd hb1 HD e1 e2 e3 e6 e7 e8 hbig hn0
 go_upto_region 4 with fail
 generalize (w1.alloc (.cells #[.slice d.A1 d.n1 d.c1,.slice d.A2 d.n2 d.c2,.slice d.A3 d.n3 d.c3,.int .i64 d.lic.A,.int .i64 d.lic.B,.int .i64 d.lic.C,.int .i64 d.dep,.int .i64 d.now,.slice d.A6 d.n6 d.c6,.slice d.A7 d.n7 d.c7,.slice d.A8 d.n8 d.c8] 34)) = u1 at *
 generalize w1.heap.size = bx at *
 obtain ⟨⟨p0,p1,p2,p3,p4,p5,p6,p7,p8,p9,p10⟩,⟨pf0,pf1,pf2,pf3,pf4,pf5,pf6,pf7,pf8,pf9,pf10⟩,pl⟩ := cells11 HX.out
 go_wp2_with fail
 refine (HDU.out _ HE1.out).mono ?_
 rintro e w2 ⟨A,n,c,rfl,hs2,hb2⟩
 have hn2 : n ≤ 60 := by rw [← hs2.len];exact (dues_ok s).2
 have HX2 := Hh (owns_ext HX.out hb2)
 have HE2 := Hh (HE1.out.trans hb2)
 have HH := Hh (HeapOf_c (duesF s) A n c w2 hs2 (dues_ok s).1 (by omega))
 have HB2 := Hh (HB1.out.trans hb2)
 clear hs2 hb2 HX HE1 HB1 HDU p0 p1 p2 p3 p4 p5 p6 p7 p8 p9 p10 pf0 pf1 pf2 pf3 pf4 pf5 pf6 pf7 pf8 pf9 pf10 pl
 go_wp2_with fail
 refine HH.out.mono ?_
 rintro e w3 ⟨B,m,c3,hs,rfl,hs3,hmc,hml,hhb,hmem,hb3⟩
 have HJ := Hh (dues_join (s := s) hhb hmem (by rw [hs3.len];exact hml))
 have hm3 : m ≤ 60 := by rw [hml];exact (dues_ok s).2
 have HLE := Hh hs3.len
 have HX3 := Hh (owns_ext HX2.out hb3)
 have HE3 := Hh (HE2.out.trans hb3)
 have HB3 := Hh (HB2.out.trans hb3)
 have HP := Hh (fun (u : World) (e : Ext w3 u) => HeapPop_c hs B m c3 u (hs3.ext (Flat.mono _ _) e) hhb hmc (by omega))
 clear hs3 hml hhb hmem hb3 HH HX2 HE2 HB2
 generalize nextF s = N at *
 obtain ⟨⟨p0,p1,p2,p3,p4,p5,p6,p7,p8,p9,p10⟩,⟨pf0,pf1,pf2,pf3,pf4,pf5,pf6,pf7,pf8,pf9,pf10⟩,pl⟩ := cells11 HX3.out
 go_wp2_with fail
 refine (HNE.out _ HE3.out).mono ?_
 rintro e w4 ⟨rfl,hb4⟩
 have HX4 := Hh (owns_ext HX3.out hb4)
 have HE4 := Hh (HE3.out.trans hb4)
 have HB4 := Hh (HB3.out.trans hb4)
 have HW4 := Hh hb4
 clear hb4 HX3 HE3 HB3 HNE p0 p1 p2 p3 p4 p5 p6 p7 p8 p9 p10 pf0 pf1 pf2 pf3 pf4 pf5 pf6 pf7 pf8 pf9 pf10 pl
 obtain ⟨⟨p0,p1,p2,p3,p4,p5,p6,p7,p8,p9,p10⟩,⟨pf0,pf1,pf2,pf3,pf4,pf5,pf6,pf7,pf8,pf9,pf10⟩,pl⟩ := cells11 HX4.out
 go_wp2_with fail
 refine (HNS.out _ HE4.out).mono ?_
 rintro e w5 ⟨rfl,hb5⟩
 have HX5 := Hh (owns_ext HX4.out hb5)
 have HB5 := Hh (HB4.out.trans hb5)
 have HW5 := Hh (HW4.out.trans hb5)
 clear hb5 HX4 HE4 HB4 HNS HW4 p0 p1 p2 p3 p4 p5 p6 p7 p8 p9 p10 pf0 pf1 pf2 pf3 pf4 pf5 pf6 pf7 pf8 pf9 pf10 pl
 go_wp2_with fail
 refine (HP.out _ HW5.out).mono ?_
 rintro e w6 ⟨dd,D,md,cd,ok,rfl,hok,hdd,hb6⟩
 have HX6 := Hh (owns_ext HX5.out (hb6.alloc (.cells #[.int .i64 dd.At,.int .i64 dd.Id] 42)))
 have HB6 := Hh (HB5.out.trans (hb6.alloc (.cells #[.int .i64 dd.At,.int .i64 dd.Id] 42)))
 obtain ⟨⟨p0,p1,p2,p3,p4,p5,p6,p7,p8,p9,p10⟩,_,pl⟩ := cells11 HX6.out
 clear HX5 HB5 HX6 hb6
 have hml := HLE.out
 have h7 := HL7.out
 rcases HJ.out with ⟨hz,hN⟩ | ⟨hz,hN0,hNe,hlen⟩
 ·have hok2 : ok = false := by rw [hok,decide_eq_false_iff_not];omega
  subst hok2
  subst hN
  clear hok hdd HJ HL7 hz hml h7
  go_wp2
  exact ret_bool rfl rfl rfl rfl HB6.out
 ·have hok2 : ok = true := by rw [hok,decide_eq_true_iff];exact hz
  obtain ⟨hd1,hd2⟩ := hdd hz
  have hAt : dd.At = N := by rw [hd1];exact hNe
  have hmd : md + 1 = d.n7 := by omega
  have hN1 : decide (0 ≤ N) = true := decide_eq_true hN0
  subst hok2
  subst hAt
  clear hok hdd HJ HL7 hz hml h7 hd1 hd2 hNe hlen
  have hw : IntKind.i64.wrap ((d.n7 : Int) - 1) = (md : Int) := by rw [IntWalk.i64_in _ ⟨by omega,by omega⟩];omega
  have HMD := Hh hmd
  clear hmd
  go_wp2
  exact ret_bool rfl rfl rfl rfl HB6.out
end Go.Proofs.YtfanjhcdjbnnnaaGreat
namespace Go.Proofs.YtfanjhcdjbnnnaaGreat
set_option maxHeartbeats 8000000
set_option maxRecDepth 20000
open Go.RowKit Go.ChangeShapes Go.WideShapes Go.Deep
theorem cells_5 : Tryz.prog.cellsOf 5 = 1 := by kernel_rfl
theorem rd_5 {H : Type} {enc : TypeId × Value → H} {W : World} : Rd enc Tryz.prog W 5 RU8 := rd_u8 Tryz.underlying5
theorem rd_22 {H : Type} {enc : TypeId × Value → H} {W : World} : Rd enc Tryz.prog W 22 (RSl RU8 1) := rd_slice Tryz.underlying22 cells_5 (by decide) rd_5
end Go.Proofs.YtfanjhcdjbnnnaaGreat
