/- The reference of layer 10: Right, at any sketch. Printed by gen_rt.py. -/
import Derived.Test.YtieknocphiceoaaGreatDoorZRQ
namespace Go.Proofs.YtieknocphiceoaaGreatDoor
open Go Go.RowKit Go.Shelf
set_option maxRecDepth 100000 in
set_option maxHeartbeats 8000000 in
theorem jfh (el:List Int) (hb:Int) (hr:ByteArray) (cr cc:Int) (cl:List Int) (gf:Int) (gl:List (Int × Int)) (s:SS) (w:World) (hA:s.At w.heap.size w (⟨2,0,el,hb,hr,cr,cc,cl,gf,gl⟩:Sk)) (hU:I64 cc) :
  Calls Tryz.prog 92 #[.agg #[.int .i64 2,.int .i64 0,.slice s.ea s.el s.ec,.int .i64 hb,.string hr,.int .i64 cr,.int .i64 cc,.slice s.ca s.cl s.cc,.int .i64 gf,.slice s.ga s.gl s.gc]] w fun e w'=>e=.returned (.bool ((jaN cr cc cl&&(cr==2)&&(cc==32))&&jay (⟨2,0,el,hb,hr,cr,cc,cl,gf,gl⟩:Sk) (jbA 2 0 cr cc cl)))/\Below w.heap.size w w':=by
 obtain⟨W0,hW0,hX0,hB0,hs0⟩:=jah w #[.int .i64 2,.int .i64 0,.slice s.ea s.el s.ec,.int .i64 hb,.string hr,.int .i64 cr,.int .i64 cc,.slice s.ca s.cl s.cc,.int .i64 gf,.slice s.ga s.gl s.gc] 50;have HA:=Lib.hid (hA.go hB0);have HB0:=Lib.hid hB0;have HBT:Hid (∀ W,Calls Tryz.prog 49 #[.int .i64 2] W fun e w'=>e=.returned (.int .i64 3)/\w'=W):=fun W=>(jat 2 W).mono fun e w' ⟨h1,h2⟩=>⟨h1,h2.symm⟩
 obtain⟨d0,d1,d2,d3,d4,d5,d6,d7,d8,d9⟩:=jaL hX0;clear hX0 hB0 hA;obtain⟨bR,hbR⟩:∃ bR,jaN cr cc cl=bR:=⟨_,rfl⟩;obtain⟨q0,hq0⟩:∃ q0,(cr==2)=q0:=⟨_,rfl⟩;obtain⟨q1,hq1⟩:∃ q1,(cc==32)=q1:=⟨_,rfl⟩;obtain⟨sR,hsR⟩:∃ sR,jay (⟨2,0,el,hb,hr,cr,cc,cl,gf,gl⟩:Sk) (jbA 2 0 cr cc cl)=sR:=⟨_,rfl⟩;have HSR:=Lib.hid hsR;have HbR:=Lib.hid hbR;rw[hbR,hq0,hq1,hsR];clear hsR hbR;go_enter Tryz.func92,Tryz.ntmps92;go_wp2_with fail;go_quiet ((go_at_call 49;exact Calls.quiet_of_same (HBT.out _)));obtain⟨Wd,hWd⟩:∃ Wd,W0.drewN nq=Wd:=⟨_,rfl⟩;have hbd:Below W0.heap.size W0 Wd:=by rw[<- hWd];exact bDr (Below.refl _ _) _
 rw[hWd];obtain⟨W1,hW1,hX1,hB1,hs1⟩:=jah Wd #[.int .i64 2,.int .i64 0,.slice none 0 0,.int .i64 0,.string ⟨#[]⟩,.int .i64 0,.int .i64 0,.slice none 0 0,.int .i64 0,.slice none 0 0] 50;obtain⟨V,hV⟩:∃ V,((W1.setCell ⟨Wd.heap.size,5,none⟩ (.int .i64 cr)).setCell ⟨Wd.heap.size,6,none⟩ (.int .i64 cc)).setCell ⟨Wd.heap.size,7,none⟩ (.slice s.ca s.cl s.cc)=V:=⟨_,rfl⟩;have hXV:V.heap[Wd.heap.size]? = some (.cells #[.int .i64 2,.int .i64 0,.slice none 0 0,.int .i64 0,.string ⟨#[]⟩,.int .i64 cr,.int .i64 cc,.slice s.ca s.cl s.cc,.int .i64 0,.slice none 0 0] 50 (0,0)):=by rw[<- hV];exact (hSk (hSk (hSk hX1 _) _) _)
 have hBV:Below Wd.heap.size Wd V:=by rw[<- hV];exact (((hB1.setCell (p:=⟨Wd.heap.size,5,none⟩) (Nat.le_refl _) _).setCell (p:=⟨Wd.heap.size,6,none⟩) (Nat.le_refl _) _).setCell (p:=⟨Wd.heap.size,7,none⟩) (Nat.le_refl _) _)
 have hb0:Below W0.heap.size W0 W1:=hbd.trans (hB1.mono hbd.size);have hb1:Below W0.heap.size W0 V:=hbd.trans (hBV.mono hbd.size);have hz0:w.heap.size<W0.heap.size:=by omega
 have hsd:=hbd.size;obtain⟨c0,c1,c2,c3,c4,c5,c6,c7,c8,c9⟩:=jaL hX1;obtain⟨f0,f1,f2,f3,f4,f5,f6,f7,f8,f9⟩:=jdJ hX1;have e1:W1.setCell ⟨Wd.heap.size,1,none⟩ (.int .i64 0)=W1:=jaa hX1 rfl;have e2:W1.setCell ⟨Wd.heap.size,2,none⟩ (.slice none 0 0)=W1:=jaa hX1 rfl;have e3:W1.setCell ⟨Wd.heap.size,3,none⟩ (.int .i64 0)=W1:=jaa hX1 rfl;have e4:W1.setCell ⟨Wd.heap.size,4,none⟩ (.string ⟨#[]⟩)=W1:=jaa hX1 rfl;have e5:W1.setCell ⟨Wd.heap.size,5,none⟩ (.int .i64 0)=W1:=jaa hX1 rfl;have e6:W1.setCell ⟨Wd.heap.size,6,none⟩ (.int .i64 0)=W1:=jaa hX1 rfl;have e7:W1.setCell ⟨Wd.heap.size,7,none⟩ (.slice none 0 0)=W1:=jaa hX1 rfl;have e8:W1.setCell ⟨Wd.heap.size,8,none⟩ (.int .i64 0)=W1:=jaa hX1 rfl;have e9:W1.setCell ⟨Wd.heap.size,9,none⟩ (.slice none 0 0)=W1:=jaa hX1 rfl;have p0:=(hbd.cell (p:=⟨w.heap.size,0,none⟩) hz0).trans d0;have p1:=(hbd.cell (p:=⟨w.heap.size,1,none⟩) hz0).trans d1;have a0:=(hb0.cell (p:=⟨w.heap.size,0,none⟩) hz0).trans d0;have a1:=(hb0.cell (p:=⟨w.heap.size,1,none⟩) hz0).trans d1;have a2:=(hb0.cell (p:=⟨w.heap.size,2,none⟩) hz0).trans d2;have a5:=(hb0.cell (p:=⟨w.heap.size,5,none⟩) hz0).trans d5;have a6:=(hb0.cell (p:=⟨w.heap.size,6,none⟩) hz0).trans d6;have a7:=(hb0.cell (p:=⟨w.heap.size,7,none⟩) hz0).trans d7;have HB1:=Lib.hid hb1;have HXV:=Lib.hid hXV
 have HD:Hid (W0.cell? ⟨w.heap.size,0,none⟩=some (.int .i64 2)/\W0.cell? ⟨w.heap.size,1,none⟩=some (.int .i64 0)/\W0.cell? ⟨w.heap.size,2,none⟩=some (.slice s.ea s.el s.ec)/\W0.cell? ⟨w.heap.size,3,none⟩=some (.int .i64 hb)/\W0.cell? ⟨w.heap.size,4,none⟩=some (.string hr)/\W0.cell? ⟨w.heap.size,5,none⟩=some (.int .i64 cr)/\W0.cell? ⟨w.heap.size,6,none⟩=some (.int .i64 cc)/\W0.cell? ⟨w.heap.size,7,none⟩=some (.slice s.ca s.cl s.cc)/\W0.cell? ⟨w.heap.size,8,none⟩=some (.int .i64 gf)/\W0.cell? ⟨w.heap.size,9,none⟩=some (.slice s.ga s.gl s.gc)):=⟨d0,d1,d2,d3,d4,d5,d6,d7,d8,d9⟩;clear hX1 hXV hBV hb0 hb1;go_wp2_with fail;let Inv:World->Prop:=fun W=>Below V.heap.size V W
 have hgo:∀ W W',Inv W->Below W.heap.size W W'->Inv W':=fun W W' h hb=>Below.trans h (hb.mono (Below.size h))
 have hbX:∀ X:WIn Inv,Below W0.heap.size W0 X.world:=fun X=>HB1.out.trans (Below.mono X.ok HB1.out.size)
 have q1':∀ X:WIn Inv,X.world.cell? ⟨w.heap.size,1,none⟩=some (.int .i64 0):=fun X=>((hbX X).cell (p:=⟨w.heap.size,1,none⟩) hz0).trans d1
 have q5':∀ X:WIn Inv,X.world.cell? ⟨w.heap.size,5,none⟩=some (.int .i64 cr):=fun X=>((hbX X).cell (p:=⟨w.heap.size,5,none⟩) hz0).trans d5
 have q6':∀ X:WIn Inv,X.world.cell? ⟨w.heap.size,6,none⟩=some (.int .i64 cc):=fun X=>((hbX X).cell (p:=⟨w.heap.size,6,none⟩) hz0).trans d6
 have q7':∀ X:WIn Inv,X.world.cell? ⟨w.heap.size,7,none⟩=some (.slice s.ca s.cl s.cc):=fun X=>((hbX X).cell (p:=⟨w.heap.size,7,none⟩) hz0).trans d7
 have K1:Hid (∀ X:WIn Inv,Calls Tryz.prog 142 #[.agg #[.int .i64 cr,.int .i64 cc,.slice s.ca s.cl s.cc]] X.world fun e w'=>e=.returned (.bool bR)/\∃ Y:WIn Inv,w'=Y.world):=fun X=>by
  have h:=jbE cr cc s.ca s.cl s.cc cl X.world hU (HA.out.go (hbX X)).c.1.1;rw[HbR.out] at h;exact jab hgo h
 have HQ:Hid (∀ X:WIn Inv,Below V.heap.size V X.world):=fun X=>X.ok
 have hI0:Hid (Inv V.drew):=(Below.refl V.heap.size V).drew;have hne:Nonempty (WIn Inv):=⟨⟨_,hI0.out⟩⟩;clear hgo hbX d0 d1 d2 d3 d4 d5 d6 d7 d8 d9 p0 p1 a0 a1 a2 a5 a6 a7 c0 c1 c2 c3 c4 c5 c6 c7 c8 c9 f0 f1 f2 f3 f4 f5 f6 f7 f8 f9 e1 e2 e3 e4 e5 e6 e7 e8 e9 hU HbR;clear_value Inv
 cases bR with
 | false =>
  refine jac Inv (by kernel_rfl) (by kernel_rfl) hI0.out ?_
  repeat (first | go_big_quiet_step ((go_at_call 142;with_reducible exact K1.out _)) | quiet_step ((go_at_call 142;with_reducible exact K1.out _)))
  refine wpQuiet_nil ?_;rintro _ ⟨X,rfl⟩;have HX9:=Lib.hid (HQ.out X);obtain⟨w2,hw2⟩:∃ w2,X.world=w2:=⟨_,rfl⟩;rw[hw2] at HX9 ⊢;clear q1' q5' q6' q7' HQ K1 hI0 hne hw2 X;have HBZ:Hid (Below w.heap.size w w2):=HB0.out.trans ((HB1.out.trans (HX9.out.mono HB1.out.size)).mono HB0.out.size);go_wp2_with fail;go_ret;exact⟨rfl,HBZ.out⟩
 | true =>
 cases q0 with
 | false =>
  refine jac Inv (by kernel_rfl) (by kernel_rfl) hI0.out ?_
  repeat (first | go_big_quiet_step ((go_at_call 142;with_reducible exact K1.out _)) | quiet_step ((go_at_call 142;with_reducible exact K1.out _)))
  refine wpQuiet_nil ?_;rintro _ ⟨X,rfl⟩;have HX9:=Lib.hid (HQ.out X);obtain⟨w2,hw2⟩:∃ w2,X.world=w2:=⟨_,rfl⟩;rw[hw2] at HX9 ⊢;clear q1' q5' q6' q7' HQ K1 hI0 hne hw2 X;have HBZ:Hid (Below w.heap.size w w2):=HB0.out.trans ((HB1.out.trans (HX9.out.mono HB1.out.size)).mono HB0.out.size);go_wp2_with fail;go_ret;exact⟨rfl,HBZ.out⟩
 | true =>
 cases q1 with
 | false =>
  refine jac Inv (by kernel_rfl) (by kernel_rfl) hI0.out ?_
  repeat (first | go_big_quiet_step ((go_at_call 142;with_reducible exact K1.out _)) | quiet_step ((go_at_call 142;with_reducible exact K1.out _)))
  refine wpQuiet_nil ?_;rintro _ ⟨X,rfl⟩;have HX9:=Lib.hid (HQ.out X);obtain⟨w2,hw2⟩:∃ w2,X.world=w2:=⟨_,rfl⟩;rw[hw2] at HX9 ⊢;clear q1' q5' q6' q7' HQ K1 hI0 hne hw2 X;have HBZ:Hid (Below w.heap.size w w2):=HB0.out.trans ((HB1.out.trans (HX9.out.mono HB1.out.size)).mono HB0.out.size);go_wp2_with fail;go_ret;exact⟨rfl,HBZ.out⟩
 | true =>
  refine jac Inv (by kernel_rfl) (by kernel_rfl) hI0.out ?_
  repeat (first | go_big_quiet_step ((go_at_call 142;with_reducible exact K1.out _)) | quiet_step ((go_at_call 142;with_reducible exact K1.out _)))
  refine wpQuiet_nil ?_;rintro _ ⟨X,rfl⟩;have HX9:=Lib.hid (HQ.out X);obtain⟨w2,hw2⟩:∃ w2,X.world=w2:=⟨_,rfl⟩;rw[hw2] at HX9 ⊢;clear q1' q5' q6' q7' HQ K1 hI0 hne hw2 X;obtain⟨d0,d1,d2,d3,d4,d5,d6,d7,d8,d9⟩:=HD.out;have hb02:Below W0.heap.size W0 w2:=HB1.out.trans (HX9.out.mono HB1.out.size);have hXw:=(HX9.out.block _ (Array.getElem?_eq_some_iff.1 HXV.out).1).trans HXV.out;have k0:=(hb02.cell (p:=⟨w.heap.size,0,none⟩) hz0).trans d0;have k1:=(hb02.cell (p:=⟨w.heap.size,1,none⟩) hz0).trans d1;have k2:=(hb02.cell (p:=⟨w.heap.size,2,none⟩) hz0).trans d2;have k3:=(hb02.cell (p:=⟨w.heap.size,3,none⟩) hz0).trans d3;have k4:=(hb02.cell (p:=⟨w.heap.size,4,none⟩) hz0).trans d4;have k5:=(hb02.cell (p:=⟨w.heap.size,5,none⟩) hz0).trans d5;have k6:=(hb02.cell (p:=⟨w.heap.size,6,none⟩) hz0).trans d6;have k7:=(hb02.cell (p:=⟨w.heap.size,7,none⟩) hz0).trans d7;have k8:=(hb02.cell (p:=⟨w.heap.size,8,none⟩) hz0).trans d8;have k9:=(hb02.cell (p:=⟨w.heap.size,9,none⟩) hz0).trans d9;obtain⟨m0,m1,m2,m3,m4,m5,m6,m7,m8,m9⟩:=jaL hXw;have hS:=ja7 (⟨2,0,el,hb,hr,cr,cc,cl,gf,gl⟩:Sk) (jbA 2 0 cr cc cl) s ⟨none,0,0,s.ca,s.cl,s.cc,none,0,0⟩ w2 (HA.out.go hb02) ⟨jaP,(HA.out.go hb02).c,jaP⟩;rw[HSR.out] at hS;have HS:=Lib.hid hS;have HB02:=Lib.hid hb02;clear hXw d0 d1 d2 d3 d4 d5 d6 d7 d8 d9 hb02 HX9 hS;go_wp2_with fail;refine HS.out.mono ?_;rintro e w3 ⟨rfl,hb3⟩;have hb03:=HB02.out.trans (hb3.mono HB02.out.size);go_wp2_with fail;go_ret;exact⟨rfl,HB0.out.trans (hb03.mono HB0.out.size)⟩
set_option maxRecDepth 100000 in
set_option maxHeartbeats 8000000 in
theorem jfi (el:List Int) (hb:Int) (hr:ByteArray) (cr cc:Int) (cl:List Int) (gf:Int) (gl:List (Int × Int)) (s:SS) (w:World) (hA:s.At w.heap.size w (⟨2,1,el,hb,hr,cr,cc,cl,gf,gl⟩:Sk)) (hU:I64 cc) :
  Calls Tryz.prog 92 #[.agg #[.int .i64 2,.int .i64 1,.slice s.ea s.el s.ec,.int .i64 hb,.string hr,.int .i64 cr,.int .i64 cc,.slice s.ca s.cl s.cc,.int .i64 gf,.slice s.ga s.gl s.gc]] w fun e w'=>e=.returned (.bool ((jaN cr cc cl&&(cr==2)&&(cc==16))&&jay (⟨2,1,el,hb,hr,cr,cc,cl,gf,gl⟩:Sk) (jbA 2 1 cr cc cl)))/\Below w.heap.size w w':=by
 obtain⟨W0,hW0,hX0,hB0,hs0⟩:=jah w #[.int .i64 2,.int .i64 1,.slice s.ea s.el s.ec,.int .i64 hb,.string hr,.int .i64 cr,.int .i64 cc,.slice s.ca s.cl s.cc,.int .i64 gf,.slice s.ga s.gl s.gc] 50;have HA:=Lib.hid (hA.go hB0);have HB0:=Lib.hid hB0;have HBT:Hid (∀ W,Calls Tryz.prog 49 #[.int .i64 2] W fun e w'=>e=.returned (.int .i64 3)/\w'=W):=fun W=>(jat 2 W).mono fun e w' ⟨h1,h2⟩=>⟨h1,h2.symm⟩
 obtain⟨d0,d1,d2,d3,d4,d5,d6,d7,d8,d9⟩:=jaL hX0;clear hX0 hB0 hA;obtain⟨bR,hbR⟩:∃ bR,jaN cr cc cl=bR:=⟨_,rfl⟩;obtain⟨q0,hq0⟩:∃ q0,(cr==2)=q0:=⟨_,rfl⟩;obtain⟨q1,hq1⟩:∃ q1,(cc==16)=q1:=⟨_,rfl⟩;obtain⟨sR,hsR⟩:∃ sR,jay (⟨2,1,el,hb,hr,cr,cc,cl,gf,gl⟩:Sk) (jbA 2 1 cr cc cl)=sR:=⟨_,rfl⟩;have HSR:=Lib.hid hsR;have HbR:=Lib.hid hbR;rw[hbR,hq0,hq1,hsR];clear hsR hbR;go_enter Tryz.func92,Tryz.ntmps92;go_wp2_with fail;go_quiet ((go_at_call 49;exact Calls.quiet_of_same (HBT.out _)));obtain⟨Wd,hWd⟩:∃ Wd,W0.drewN nq=Wd:=⟨_,rfl⟩;have hbd:Below W0.heap.size W0 Wd:=by rw[<- hWd];exact bDr (Below.refl _ _) _
 rw[hWd];obtain⟨W1,hW1,hX1,hB1,hs1⟩:=jah Wd #[.int .i64 2,.int .i64 1,.slice none 0 0,.int .i64 0,.string ⟨#[]⟩,.int .i64 0,.int .i64 0,.slice none 0 0,.int .i64 0,.slice none 0 0] 50;obtain⟨V,hV⟩:∃ V,((W1.setCell ⟨Wd.heap.size,5,none⟩ (.int .i64 cr)).setCell ⟨Wd.heap.size,6,none⟩ (.int .i64 cc)).setCell ⟨Wd.heap.size,7,none⟩ (.slice s.ca s.cl s.cc)=V:=⟨_,rfl⟩;have hXV:V.heap[Wd.heap.size]? = some (.cells #[.int .i64 2,.int .i64 1,.slice none 0 0,.int .i64 0,.string ⟨#[]⟩,.int .i64 cr,.int .i64 cc,.slice s.ca s.cl s.cc,.int .i64 0,.slice none 0 0] 50 (0,0)):=by rw[<- hV];exact (hSk (hSk (hSk hX1 _) _) _)
 have hBV:Below Wd.heap.size Wd V:=by rw[<- hV];exact (((hB1.setCell (p:=⟨Wd.heap.size,5,none⟩) (Nat.le_refl _) _).setCell (p:=⟨Wd.heap.size,6,none⟩) (Nat.le_refl _) _).setCell (p:=⟨Wd.heap.size,7,none⟩) (Nat.le_refl _) _)
 have hb0:Below W0.heap.size W0 W1:=hbd.trans (hB1.mono hbd.size);have hb1:Below W0.heap.size W0 V:=hbd.trans (hBV.mono hbd.size);have hz0:w.heap.size<W0.heap.size:=by omega
 have hsd:=hbd.size;obtain⟨c0,c1,c2,c3,c4,c5,c6,c7,c8,c9⟩:=jaL hX1;obtain⟨f0,f1,f2,f3,f4,f5,f6,f7,f8,f9⟩:=jdJ hX1;have e1:W1.setCell ⟨Wd.heap.size,1,none⟩ (.int .i64 1)=W1:=jaa hX1 rfl;have e2:W1.setCell ⟨Wd.heap.size,2,none⟩ (.slice none 0 0)=W1:=jaa hX1 rfl;have e3:W1.setCell ⟨Wd.heap.size,3,none⟩ (.int .i64 0)=W1:=jaa hX1 rfl;have e4:W1.setCell ⟨Wd.heap.size,4,none⟩ (.string ⟨#[]⟩)=W1:=jaa hX1 rfl;have e5:W1.setCell ⟨Wd.heap.size,5,none⟩ (.int .i64 0)=W1:=jaa hX1 rfl;have e6:W1.setCell ⟨Wd.heap.size,6,none⟩ (.int .i64 0)=W1:=jaa hX1 rfl;have e7:W1.setCell ⟨Wd.heap.size,7,none⟩ (.slice none 0 0)=W1:=jaa hX1 rfl;have e8:W1.setCell ⟨Wd.heap.size,8,none⟩ (.int .i64 0)=W1:=jaa hX1 rfl;have e9:W1.setCell ⟨Wd.heap.size,9,none⟩ (.slice none 0 0)=W1:=jaa hX1 rfl;have p0:=(hbd.cell (p:=⟨w.heap.size,0,none⟩) hz0).trans d0;have p1:=(hbd.cell (p:=⟨w.heap.size,1,none⟩) hz0).trans d1;have a0:=(hb0.cell (p:=⟨w.heap.size,0,none⟩) hz0).trans d0;have a1:=(hb0.cell (p:=⟨w.heap.size,1,none⟩) hz0).trans d1;have a2:=(hb0.cell (p:=⟨w.heap.size,2,none⟩) hz0).trans d2;have a5:=(hb0.cell (p:=⟨w.heap.size,5,none⟩) hz0).trans d5;have a6:=(hb0.cell (p:=⟨w.heap.size,6,none⟩) hz0).trans d6;have a7:=(hb0.cell (p:=⟨w.heap.size,7,none⟩) hz0).trans d7;have HB1:=Lib.hid hb1;have HXV:=Lib.hid hXV
 have HD:Hid (W0.cell? ⟨w.heap.size,0,none⟩=some (.int .i64 2)/\W0.cell? ⟨w.heap.size,1,none⟩=some (.int .i64 1)/\W0.cell? ⟨w.heap.size,2,none⟩=some (.slice s.ea s.el s.ec)/\W0.cell? ⟨w.heap.size,3,none⟩=some (.int .i64 hb)/\W0.cell? ⟨w.heap.size,4,none⟩=some (.string hr)/\W0.cell? ⟨w.heap.size,5,none⟩=some (.int .i64 cr)/\W0.cell? ⟨w.heap.size,6,none⟩=some (.int .i64 cc)/\W0.cell? ⟨w.heap.size,7,none⟩=some (.slice s.ca s.cl s.cc)/\W0.cell? ⟨w.heap.size,8,none⟩=some (.int .i64 gf)/\W0.cell? ⟨w.heap.size,9,none⟩=some (.slice s.ga s.gl s.gc)):=⟨d0,d1,d2,d3,d4,d5,d6,d7,d8,d9⟩;clear hX1 hXV hBV hb0 hb1;go_wp2_with fail;let Inv:World->Prop:=fun W=>Below V.heap.size V W
 have hgo:∀ W W',Inv W->Below W.heap.size W W'->Inv W':=fun W W' h hb=>Below.trans h (hb.mono (Below.size h))
 have hbX:∀ X:WIn Inv,Below W0.heap.size W0 X.world:=fun X=>HB1.out.trans (Below.mono X.ok HB1.out.size)
 have q1':∀ X:WIn Inv,X.world.cell? ⟨w.heap.size,1,none⟩=some (.int .i64 1):=fun X=>((hbX X).cell (p:=⟨w.heap.size,1,none⟩) hz0).trans d1
 have q5':∀ X:WIn Inv,X.world.cell? ⟨w.heap.size,5,none⟩=some (.int .i64 cr):=fun X=>((hbX X).cell (p:=⟨w.heap.size,5,none⟩) hz0).trans d5
 have q6':∀ X:WIn Inv,X.world.cell? ⟨w.heap.size,6,none⟩=some (.int .i64 cc):=fun X=>((hbX X).cell (p:=⟨w.heap.size,6,none⟩) hz0).trans d6
 have q7':∀ X:WIn Inv,X.world.cell? ⟨w.heap.size,7,none⟩=some (.slice s.ca s.cl s.cc):=fun X=>((hbX X).cell (p:=⟨w.heap.size,7,none⟩) hz0).trans d7
 have K1:Hid (∀ X:WIn Inv,Calls Tryz.prog 142 #[.agg #[.int .i64 cr,.int .i64 cc,.slice s.ca s.cl s.cc]] X.world fun e w'=>e=.returned (.bool bR)/\∃ Y:WIn Inv,w'=Y.world):=fun X=>by
  have h:=jbE cr cc s.ca s.cl s.cc cl X.world hU (HA.out.go (hbX X)).c.1.1;rw[HbR.out] at h;exact jab hgo h
 have HQ:Hid (∀ X:WIn Inv,Below V.heap.size V X.world):=fun X=>X.ok
 have hI0:Hid (Inv V.drew):=(Below.refl V.heap.size V).drew;have hne:Nonempty (WIn Inv):=⟨⟨_,hI0.out⟩⟩;clear hgo hbX d0 d1 d2 d3 d4 d5 d6 d7 d8 d9 p0 p1 a0 a1 a2 a5 a6 a7 c0 c1 c2 c3 c4 c5 c6 c7 c8 c9 f0 f1 f2 f3 f4 f5 f6 f7 f8 f9 e1 e2 e3 e4 e5 e6 e7 e8 e9 hU HbR;clear_value Inv
 cases bR with
 | false =>
  refine jac Inv (by kernel_rfl) (by kernel_rfl) hI0.out ?_
  repeat (first | go_big_quiet_step ((go_at_call 142;with_reducible exact K1.out _)) | quiet_step ((go_at_call 142;with_reducible exact K1.out _)))
  refine wpQuiet_nil ?_;rintro _ ⟨X,rfl⟩;have HX9:=Lib.hid (HQ.out X);obtain⟨w2,hw2⟩:∃ w2,X.world=w2:=⟨_,rfl⟩;rw[hw2] at HX9 ⊢;clear q1' q5' q6' q7' HQ K1 hI0 hne hw2 X;have HBZ:Hid (Below w.heap.size w w2):=HB0.out.trans ((HB1.out.trans (HX9.out.mono HB1.out.size)).mono HB0.out.size);go_wp2_with fail;go_ret;exact⟨rfl,HBZ.out⟩
 | true =>
 cases q0 with
 | false =>
  refine jac Inv (by kernel_rfl) (by kernel_rfl) hI0.out ?_
  repeat (first | go_big_quiet_step ((go_at_call 142;with_reducible exact K1.out _)) | quiet_step ((go_at_call 142;with_reducible exact K1.out _)))
  refine wpQuiet_nil ?_;rintro _ ⟨X,rfl⟩;have HX9:=Lib.hid (HQ.out X);obtain⟨w2,hw2⟩:∃ w2,X.world=w2:=⟨_,rfl⟩;rw[hw2] at HX9 ⊢;clear q1' q5' q6' q7' HQ K1 hI0 hne hw2 X;have HBZ:Hid (Below w.heap.size w w2):=HB0.out.trans ((HB1.out.trans (HX9.out.mono HB1.out.size)).mono HB0.out.size);go_wp2_with fail;go_ret;exact⟨rfl,HBZ.out⟩
 | true =>
 cases q1 with
 | false =>
  refine jac Inv (by kernel_rfl) (by kernel_rfl) hI0.out ?_
  repeat (first | go_big_quiet_step ((go_at_call 142;with_reducible exact K1.out _)) | quiet_step ((go_at_call 142;with_reducible exact K1.out _)))
  refine wpQuiet_nil ?_;rintro _ ⟨X,rfl⟩;have HX9:=Lib.hid (HQ.out X);obtain⟨w2,hw2⟩:∃ w2,X.world=w2:=⟨_,rfl⟩;rw[hw2] at HX9 ⊢;clear q1' q5' q6' q7' HQ K1 hI0 hne hw2 X;have HBZ:Hid (Below w.heap.size w w2):=HB0.out.trans ((HB1.out.trans (HX9.out.mono HB1.out.size)).mono HB0.out.size);go_wp2_with fail;go_ret;exact⟨rfl,HBZ.out⟩
 | true =>
  refine jac Inv (by kernel_rfl) (by kernel_rfl) hI0.out ?_
  repeat (first | go_big_quiet_step ((go_at_call 142;with_reducible exact K1.out _)) | quiet_step ((go_at_call 142;with_reducible exact K1.out _)))
  refine wpQuiet_nil ?_;rintro _ ⟨X,rfl⟩;have HX9:=Lib.hid (HQ.out X);obtain⟨w2,hw2⟩:∃ w2,X.world=w2:=⟨_,rfl⟩;rw[hw2] at HX9 ⊢;clear q1' q5' q6' q7' HQ K1 hI0 hne hw2 X;obtain⟨d0,d1,d2,d3,d4,d5,d6,d7,d8,d9⟩:=HD.out;have hb02:Below W0.heap.size W0 w2:=HB1.out.trans (HX9.out.mono HB1.out.size);have hXw:=(HX9.out.block _ (Array.getElem?_eq_some_iff.1 HXV.out).1).trans HXV.out;have k0:=(hb02.cell (p:=⟨w.heap.size,0,none⟩) hz0).trans d0;have k1:=(hb02.cell (p:=⟨w.heap.size,1,none⟩) hz0).trans d1;have k2:=(hb02.cell (p:=⟨w.heap.size,2,none⟩) hz0).trans d2;have k3:=(hb02.cell (p:=⟨w.heap.size,3,none⟩) hz0).trans d3;have k4:=(hb02.cell (p:=⟨w.heap.size,4,none⟩) hz0).trans d4;have k5:=(hb02.cell (p:=⟨w.heap.size,5,none⟩) hz0).trans d5;have k6:=(hb02.cell (p:=⟨w.heap.size,6,none⟩) hz0).trans d6;have k7:=(hb02.cell (p:=⟨w.heap.size,7,none⟩) hz0).trans d7;have k8:=(hb02.cell (p:=⟨w.heap.size,8,none⟩) hz0).trans d8;have k9:=(hb02.cell (p:=⟨w.heap.size,9,none⟩) hz0).trans d9;obtain⟨m0,m1,m2,m3,m4,m5,m6,m7,m8,m9⟩:=jaL hXw;have hS:=ja7 (⟨2,1,el,hb,hr,cr,cc,cl,gf,gl⟩:Sk) (jbA 2 1 cr cc cl) s ⟨none,0,0,s.ca,s.cl,s.cc,none,0,0⟩ w2 (HA.out.go hb02) ⟨jaP,(HA.out.go hb02).c,jaP⟩;rw[HSR.out] at hS;have HS:=Lib.hid hS;have HB02:=Lib.hid hb02;clear hXw d0 d1 d2 d3 d4 d5 d6 d7 d8 d9 hb02 HX9 hS;go_wp2_with fail;refine HS.out.mono ?_;rintro e w3 ⟨rfl,hb3⟩;have hb03:=HB02.out.trans (hb3.mono HB02.out.size);go_wp2_with fail;go_ret;exact⟨rfl,HB0.out.trans (hb03.mono HB0.out.size)⟩
set_option maxRecDepth 100000 in
set_option maxHeartbeats 8000000 in
theorem jfj (el:List Int) (hb:Int) (hr:ByteArray) (cr cc:Int) (cl:List Int) (gf:Int) (gl:List (Int × Int)) (s:SS) (w:World) (hA:s.At w.heap.size w (⟨2,2,el,hb,hr,cr,cc,cl,gf,gl⟩:Sk)) (hU:I64 cc) :
  Calls Tryz.prog 92 #[.agg #[.int .i64 2,.int .i64 2,.slice s.ea s.el s.ec,.int .i64 hb,.string hr,.int .i64 cr,.int .i64 cc,.slice s.ca s.cl s.cc,.int .i64 gf,.slice s.ga s.gl s.gc]] w fun e w'=>e=.returned (.bool ((jaN cr cc cl&&(cr==2)&&(cc==8))&&jay (⟨2,2,el,hb,hr,cr,cc,cl,gf,gl⟩:Sk) (jbA 2 2 cr cc cl)))/\Below w.heap.size w w':=by
 obtain⟨W0,hW0,hX0,hB0,hs0⟩:=jah w #[.int .i64 2,.int .i64 2,.slice s.ea s.el s.ec,.int .i64 hb,.string hr,.int .i64 cr,.int .i64 cc,.slice s.ca s.cl s.cc,.int .i64 gf,.slice s.ga s.gl s.gc] 50;have HA:=Lib.hid (hA.go hB0);have HB0:=Lib.hid hB0;have HBT:Hid (∀ W,Calls Tryz.prog 49 #[.int .i64 2] W fun e w'=>e=.returned (.int .i64 3)/\w'=W):=fun W=>(jat 2 W).mono fun e w' ⟨h1,h2⟩=>⟨h1,h2.symm⟩
 obtain⟨d0,d1,d2,d3,d4,d5,d6,d7,d8,d9⟩:=jaL hX0;clear hX0 hB0 hA;obtain⟨bR,hbR⟩:∃ bR,jaN cr cc cl=bR:=⟨_,rfl⟩;obtain⟨q0,hq0⟩:∃ q0,(cr==2)=q0:=⟨_,rfl⟩;obtain⟨q1,hq1⟩:∃ q1,(cc==8)=q1:=⟨_,rfl⟩;obtain⟨sR,hsR⟩:∃ sR,jay (⟨2,2,el,hb,hr,cr,cc,cl,gf,gl⟩:Sk) (jbA 2 2 cr cc cl)=sR:=⟨_,rfl⟩;have HSR:=Lib.hid hsR;have HbR:=Lib.hid hbR;rw[hbR,hq0,hq1,hsR];clear hsR hbR;go_enter Tryz.func92,Tryz.ntmps92;go_wp2_with fail;go_quiet ((go_at_call 49;exact Calls.quiet_of_same (HBT.out _)));obtain⟨Wd,hWd⟩:∃ Wd,W0.drewN nq=Wd:=⟨_,rfl⟩;have hbd:Below W0.heap.size W0 Wd:=by rw[<- hWd];exact bDr (Below.refl _ _) _
 rw[hWd];obtain⟨W1,hW1,hX1,hB1,hs1⟩:=jah Wd #[.int .i64 2,.int .i64 2,.slice none 0 0,.int .i64 0,.string ⟨#[]⟩,.int .i64 0,.int .i64 0,.slice none 0 0,.int .i64 0,.slice none 0 0] 50;obtain⟨V,hV⟩:∃ V,((W1.setCell ⟨Wd.heap.size,5,none⟩ (.int .i64 cr)).setCell ⟨Wd.heap.size,6,none⟩ (.int .i64 cc)).setCell ⟨Wd.heap.size,7,none⟩ (.slice s.ca s.cl s.cc)=V:=⟨_,rfl⟩;have hXV:V.heap[Wd.heap.size]? = some (.cells #[.int .i64 2,.int .i64 2,.slice none 0 0,.int .i64 0,.string ⟨#[]⟩,.int .i64 cr,.int .i64 cc,.slice s.ca s.cl s.cc,.int .i64 0,.slice none 0 0] 50 (0,0)):=by rw[<- hV];exact (hSk (hSk (hSk hX1 _) _) _)
 have hBV:Below Wd.heap.size Wd V:=by rw[<- hV];exact (((hB1.setCell (p:=⟨Wd.heap.size,5,none⟩) (Nat.le_refl _) _).setCell (p:=⟨Wd.heap.size,6,none⟩) (Nat.le_refl _) _).setCell (p:=⟨Wd.heap.size,7,none⟩) (Nat.le_refl _) _)
 have hb0:Below W0.heap.size W0 W1:=hbd.trans (hB1.mono hbd.size);have hb1:Below W0.heap.size W0 V:=hbd.trans (hBV.mono hbd.size);have hz0:w.heap.size<W0.heap.size:=by omega
 have hsd:=hbd.size;obtain⟨c0,c1,c2,c3,c4,c5,c6,c7,c8,c9⟩:=jaL hX1;obtain⟨f0,f1,f2,f3,f4,f5,f6,f7,f8,f9⟩:=jdJ hX1;have e1:W1.setCell ⟨Wd.heap.size,1,none⟩ (.int .i64 2)=W1:=jaa hX1 rfl;have e2:W1.setCell ⟨Wd.heap.size,2,none⟩ (.slice none 0 0)=W1:=jaa hX1 rfl;have e3:W1.setCell ⟨Wd.heap.size,3,none⟩ (.int .i64 0)=W1:=jaa hX1 rfl;have e4:W1.setCell ⟨Wd.heap.size,4,none⟩ (.string ⟨#[]⟩)=W1:=jaa hX1 rfl;have e5:W1.setCell ⟨Wd.heap.size,5,none⟩ (.int .i64 0)=W1:=jaa hX1 rfl;have e6:W1.setCell ⟨Wd.heap.size,6,none⟩ (.int .i64 0)=W1:=jaa hX1 rfl;have e7:W1.setCell ⟨Wd.heap.size,7,none⟩ (.slice none 0 0)=W1:=jaa hX1 rfl;have e8:W1.setCell ⟨Wd.heap.size,8,none⟩ (.int .i64 0)=W1:=jaa hX1 rfl;have e9:W1.setCell ⟨Wd.heap.size,9,none⟩ (.slice none 0 0)=W1:=jaa hX1 rfl;have p0:=(hbd.cell (p:=⟨w.heap.size,0,none⟩) hz0).trans d0;have p1:=(hbd.cell (p:=⟨w.heap.size,1,none⟩) hz0).trans d1;have a0:=(hb0.cell (p:=⟨w.heap.size,0,none⟩) hz0).trans d0;have a1:=(hb0.cell (p:=⟨w.heap.size,1,none⟩) hz0).trans d1;have a2:=(hb0.cell (p:=⟨w.heap.size,2,none⟩) hz0).trans d2;have a5:=(hb0.cell (p:=⟨w.heap.size,5,none⟩) hz0).trans d5;have a6:=(hb0.cell (p:=⟨w.heap.size,6,none⟩) hz0).trans d6;have a7:=(hb0.cell (p:=⟨w.heap.size,7,none⟩) hz0).trans d7;have HB1:=Lib.hid hb1;have HXV:=Lib.hid hXV
 have HD:Hid (W0.cell? ⟨w.heap.size,0,none⟩=some (.int .i64 2)/\W0.cell? ⟨w.heap.size,1,none⟩=some (.int .i64 2)/\W0.cell? ⟨w.heap.size,2,none⟩=some (.slice s.ea s.el s.ec)/\W0.cell? ⟨w.heap.size,3,none⟩=some (.int .i64 hb)/\W0.cell? ⟨w.heap.size,4,none⟩=some (.string hr)/\W0.cell? ⟨w.heap.size,5,none⟩=some (.int .i64 cr)/\W0.cell? ⟨w.heap.size,6,none⟩=some (.int .i64 cc)/\W0.cell? ⟨w.heap.size,7,none⟩=some (.slice s.ca s.cl s.cc)/\W0.cell? ⟨w.heap.size,8,none⟩=some (.int .i64 gf)/\W0.cell? ⟨w.heap.size,9,none⟩=some (.slice s.ga s.gl s.gc)):=⟨d0,d1,d2,d3,d4,d5,d6,d7,d8,d9⟩;clear hX1 hXV hBV hb0 hb1;go_wp2_with fail;let Inv:World->Prop:=fun W=>Below V.heap.size V W
 have hgo:∀ W W',Inv W->Below W.heap.size W W'->Inv W':=fun W W' h hb=>Below.trans h (hb.mono (Below.size h))
 have hbX:∀ X:WIn Inv,Below W0.heap.size W0 X.world:=fun X=>HB1.out.trans (Below.mono X.ok HB1.out.size)
 have q1':∀ X:WIn Inv,X.world.cell? ⟨w.heap.size,1,none⟩=some (.int .i64 2):=fun X=>((hbX X).cell (p:=⟨w.heap.size,1,none⟩) hz0).trans d1
 have q5':∀ X:WIn Inv,X.world.cell? ⟨w.heap.size,5,none⟩=some (.int .i64 cr):=fun X=>((hbX X).cell (p:=⟨w.heap.size,5,none⟩) hz0).trans d5
 have q6':∀ X:WIn Inv,X.world.cell? ⟨w.heap.size,6,none⟩=some (.int .i64 cc):=fun X=>((hbX X).cell (p:=⟨w.heap.size,6,none⟩) hz0).trans d6
 have q7':∀ X:WIn Inv,X.world.cell? ⟨w.heap.size,7,none⟩=some (.slice s.ca s.cl s.cc):=fun X=>((hbX X).cell (p:=⟨w.heap.size,7,none⟩) hz0).trans d7
 have K1:Hid (∀ X:WIn Inv,Calls Tryz.prog 142 #[.agg #[.int .i64 cr,.int .i64 cc,.slice s.ca s.cl s.cc]] X.world fun e w'=>e=.returned (.bool bR)/\∃ Y:WIn Inv,w'=Y.world):=fun X=>by
  have h:=jbE cr cc s.ca s.cl s.cc cl X.world hU (HA.out.go (hbX X)).c.1.1;rw[HbR.out] at h;exact jab hgo h
 have HQ:Hid (∀ X:WIn Inv,Below V.heap.size V X.world):=fun X=>X.ok
 have hI0:Hid (Inv V.drew):=(Below.refl V.heap.size V).drew;have hne:Nonempty (WIn Inv):=⟨⟨_,hI0.out⟩⟩;clear hgo hbX d0 d1 d2 d3 d4 d5 d6 d7 d8 d9 p0 p1 a0 a1 a2 a5 a6 a7 c0 c1 c2 c3 c4 c5 c6 c7 c8 c9 f0 f1 f2 f3 f4 f5 f6 f7 f8 f9 e1 e2 e3 e4 e5 e6 e7 e8 e9 hU HbR;clear_value Inv
 cases bR with
 | false =>
  refine jac Inv (by kernel_rfl) (by kernel_rfl) hI0.out ?_
  repeat (first | go_big_quiet_step ((go_at_call 142;with_reducible exact K1.out _)) | quiet_step ((go_at_call 142;with_reducible exact K1.out _)))
  refine wpQuiet_nil ?_;rintro _ ⟨X,rfl⟩;have HX9:=Lib.hid (HQ.out X);obtain⟨w2,hw2⟩:∃ w2,X.world=w2:=⟨_,rfl⟩;rw[hw2] at HX9 ⊢;clear q1' q5' q6' q7' HQ K1 hI0 hne hw2 X;have HBZ:Hid (Below w.heap.size w w2):=HB0.out.trans ((HB1.out.trans (HX9.out.mono HB1.out.size)).mono HB0.out.size);go_wp2_with fail;go_ret;exact⟨rfl,HBZ.out⟩
 | true =>
 cases q0 with
 | false =>
  refine jac Inv (by kernel_rfl) (by kernel_rfl) hI0.out ?_
  repeat (first | go_big_quiet_step ((go_at_call 142;with_reducible exact K1.out _)) | quiet_step ((go_at_call 142;with_reducible exact K1.out _)))
  refine wpQuiet_nil ?_;rintro _ ⟨X,rfl⟩;have HX9:=Lib.hid (HQ.out X);obtain⟨w2,hw2⟩:∃ w2,X.world=w2:=⟨_,rfl⟩;rw[hw2] at HX9 ⊢;clear q1' q5' q6' q7' HQ K1 hI0 hne hw2 X;have HBZ:Hid (Below w.heap.size w w2):=HB0.out.trans ((HB1.out.trans (HX9.out.mono HB1.out.size)).mono HB0.out.size);go_wp2_with fail;go_ret;exact⟨rfl,HBZ.out⟩
 | true =>
 cases q1 with
 | false =>
  refine jac Inv (by kernel_rfl) (by kernel_rfl) hI0.out ?_
  repeat (first | go_big_quiet_step ((go_at_call 142;with_reducible exact K1.out _)) | quiet_step ((go_at_call 142;with_reducible exact K1.out _)))
  refine wpQuiet_nil ?_;rintro _ ⟨X,rfl⟩;have HX9:=Lib.hid (HQ.out X);obtain⟨w2,hw2⟩:∃ w2,X.world=w2:=⟨_,rfl⟩;rw[hw2] at HX9 ⊢;clear q1' q5' q6' q7' HQ K1 hI0 hne hw2 X;have HBZ:Hid (Below w.heap.size w w2):=HB0.out.trans ((HB1.out.trans (HX9.out.mono HB1.out.size)).mono HB0.out.size);go_wp2_with fail;go_ret;exact⟨rfl,HBZ.out⟩
 | true =>
  refine jac Inv (by kernel_rfl) (by kernel_rfl) hI0.out ?_
  repeat (first | go_big_quiet_step ((go_at_call 142;with_reducible exact K1.out _)) | quiet_step ((go_at_call 142;with_reducible exact K1.out _)))
  refine wpQuiet_nil ?_;rintro _ ⟨X,rfl⟩;have HX9:=Lib.hid (HQ.out X);obtain⟨w2,hw2⟩:∃ w2,X.world=w2:=⟨_,rfl⟩;rw[hw2] at HX9 ⊢;clear q1' q5' q6' q7' HQ K1 hI0 hne hw2 X;obtain⟨d0,d1,d2,d3,d4,d5,d6,d7,d8,d9⟩:=HD.out;have hb02:Below W0.heap.size W0 w2:=HB1.out.trans (HX9.out.mono HB1.out.size);have hXw:=(HX9.out.block _ (Array.getElem?_eq_some_iff.1 HXV.out).1).trans HXV.out;have k0:=(hb02.cell (p:=⟨w.heap.size,0,none⟩) hz0).trans d0;have k1:=(hb02.cell (p:=⟨w.heap.size,1,none⟩) hz0).trans d1;have k2:=(hb02.cell (p:=⟨w.heap.size,2,none⟩) hz0).trans d2;have k3:=(hb02.cell (p:=⟨w.heap.size,3,none⟩) hz0).trans d3;have k4:=(hb02.cell (p:=⟨w.heap.size,4,none⟩) hz0).trans d4;have k5:=(hb02.cell (p:=⟨w.heap.size,5,none⟩) hz0).trans d5;have k6:=(hb02.cell (p:=⟨w.heap.size,6,none⟩) hz0).trans d6;have k7:=(hb02.cell (p:=⟨w.heap.size,7,none⟩) hz0).trans d7;have k8:=(hb02.cell (p:=⟨w.heap.size,8,none⟩) hz0).trans d8;have k9:=(hb02.cell (p:=⟨w.heap.size,9,none⟩) hz0).trans d9;obtain⟨m0,m1,m2,m3,m4,m5,m6,m7,m8,m9⟩:=jaL hXw;have hS:=ja7 (⟨2,2,el,hb,hr,cr,cc,cl,gf,gl⟩:Sk) (jbA 2 2 cr cc cl) s ⟨none,0,0,s.ca,s.cl,s.cc,none,0,0⟩ w2 (HA.out.go hb02) ⟨jaP,(HA.out.go hb02).c,jaP⟩;rw[HSR.out] at hS;have HS:=Lib.hid hS;have HB02:=Lib.hid hb02;clear hXw d0 d1 d2 d3 d4 d5 d6 d7 d8 d9 hb02 HX9 hS;go_wp2_with fail;refine HS.out.mono ?_;rintro e w3 ⟨rfl,hb3⟩;have hb03:=HB02.out.trans (hb3.mono HB02.out.size);go_wp2_with fail;go_ret;exact⟨rfl,HB0.out.trans (hb03.mono HB0.out.size)⟩
set_option maxRecDepth 100000 in
set_option maxHeartbeats 8000000 in
theorem jfk (el:List Int) (hb:Int) (hr:ByteArray) (cr cc:Int) (cl:List Int) (gf:Int) (gl:List (Int × Int)) (s:SS) (w:World) (hA:s.At w.heap.size w (⟨2,3,el,hb,hr,cr,cc,cl,gf,gl⟩:Sk)) (hU:I64 cc) :
  Calls Tryz.prog 92 #[.agg #[.int .i64 2,.int .i64 3,.slice s.ea s.el s.ec,.int .i64 hb,.string hr,.int .i64 cr,.int .i64 cc,.slice s.ca s.cl s.cc,.int .i64 gf,.slice s.ga s.gl s.gc]] w fun e w'=>e=.returned (.bool ((jaN cr cc cl&&(cr==2)&&(cc==4))&&jay (⟨2,3,el,hb,hr,cr,cc,cl,gf,gl⟩:Sk) (jbA 2 3 cr cc cl)))/\Below w.heap.size w w':=by
 obtain⟨W0,hW0,hX0,hB0,hs0⟩:=jah w #[.int .i64 2,.int .i64 3,.slice s.ea s.el s.ec,.int .i64 hb,.string hr,.int .i64 cr,.int .i64 cc,.slice s.ca s.cl s.cc,.int .i64 gf,.slice s.ga s.gl s.gc] 50;have HA:=Lib.hid (hA.go hB0);have HB0:=Lib.hid hB0;have HBT:Hid (∀ W,Calls Tryz.prog 49 #[.int .i64 2] W fun e w'=>e=.returned (.int .i64 3)/\w'=W):=fun W=>(jat 2 W).mono fun e w' ⟨h1,h2⟩=>⟨h1,h2.symm⟩
 obtain⟨d0,d1,d2,d3,d4,d5,d6,d7,d8,d9⟩:=jaL hX0;clear hX0 hB0 hA;obtain⟨bR,hbR⟩:∃ bR,jaN cr cc cl=bR:=⟨_,rfl⟩;obtain⟨q0,hq0⟩:∃ q0,(cr==2)=q0:=⟨_,rfl⟩;obtain⟨q1,hq1⟩:∃ q1,(cc==4)=q1:=⟨_,rfl⟩;obtain⟨sR,hsR⟩:∃ sR,jay (⟨2,3,el,hb,hr,cr,cc,cl,gf,gl⟩:Sk) (jbA 2 3 cr cc cl)=sR:=⟨_,rfl⟩;have HSR:=Lib.hid hsR;have HbR:=Lib.hid hbR;rw[hbR,hq0,hq1,hsR];clear hsR hbR;go_enter Tryz.func92,Tryz.ntmps92;go_wp2_with fail;go_quiet ((go_at_call 49;exact Calls.quiet_of_same (HBT.out _)));obtain⟨Wd,hWd⟩:∃ Wd,W0.drewN nq=Wd:=⟨_,rfl⟩;have hbd:Below W0.heap.size W0 Wd:=by rw[<- hWd];exact bDr (Below.refl _ _) _
 rw[hWd];obtain⟨W1,hW1,hX1,hB1,hs1⟩:=jah Wd #[.int .i64 2,.int .i64 3,.slice none 0 0,.int .i64 0,.string ⟨#[]⟩,.int .i64 0,.int .i64 0,.slice none 0 0,.int .i64 0,.slice none 0 0] 50;obtain⟨V,hV⟩:∃ V,((W1.setCell ⟨Wd.heap.size,5,none⟩ (.int .i64 cr)).setCell ⟨Wd.heap.size,6,none⟩ (.int .i64 cc)).setCell ⟨Wd.heap.size,7,none⟩ (.slice s.ca s.cl s.cc)=V:=⟨_,rfl⟩;have hXV:V.heap[Wd.heap.size]? = some (.cells #[.int .i64 2,.int .i64 3,.slice none 0 0,.int .i64 0,.string ⟨#[]⟩,.int .i64 cr,.int .i64 cc,.slice s.ca s.cl s.cc,.int .i64 0,.slice none 0 0] 50 (0,0)):=by rw[<- hV];exact (hSk (hSk (hSk hX1 _) _) _)
 have hBV:Below Wd.heap.size Wd V:=by rw[<- hV];exact (((hB1.setCell (p:=⟨Wd.heap.size,5,none⟩) (Nat.le_refl _) _).setCell (p:=⟨Wd.heap.size,6,none⟩) (Nat.le_refl _) _).setCell (p:=⟨Wd.heap.size,7,none⟩) (Nat.le_refl _) _)
 have hb0:Below W0.heap.size W0 W1:=hbd.trans (hB1.mono hbd.size);have hb1:Below W0.heap.size W0 V:=hbd.trans (hBV.mono hbd.size);have hz0:w.heap.size<W0.heap.size:=by omega
 have hsd:=hbd.size;obtain⟨c0,c1,c2,c3,c4,c5,c6,c7,c8,c9⟩:=jaL hX1;obtain⟨f0,f1,f2,f3,f4,f5,f6,f7,f8,f9⟩:=jdJ hX1;have e1:W1.setCell ⟨Wd.heap.size,1,none⟩ (.int .i64 3)=W1:=jaa hX1 rfl;have e2:W1.setCell ⟨Wd.heap.size,2,none⟩ (.slice none 0 0)=W1:=jaa hX1 rfl;have e3:W1.setCell ⟨Wd.heap.size,3,none⟩ (.int .i64 0)=W1:=jaa hX1 rfl;have e4:W1.setCell ⟨Wd.heap.size,4,none⟩ (.string ⟨#[]⟩)=W1:=jaa hX1 rfl;have e5:W1.setCell ⟨Wd.heap.size,5,none⟩ (.int .i64 0)=W1:=jaa hX1 rfl;have e6:W1.setCell ⟨Wd.heap.size,6,none⟩ (.int .i64 0)=W1:=jaa hX1 rfl;have e7:W1.setCell ⟨Wd.heap.size,7,none⟩ (.slice none 0 0)=W1:=jaa hX1 rfl;have e8:W1.setCell ⟨Wd.heap.size,8,none⟩ (.int .i64 0)=W1:=jaa hX1 rfl;have e9:W1.setCell ⟨Wd.heap.size,9,none⟩ (.slice none 0 0)=W1:=jaa hX1 rfl;have p0:=(hbd.cell (p:=⟨w.heap.size,0,none⟩) hz0).trans d0;have p1:=(hbd.cell (p:=⟨w.heap.size,1,none⟩) hz0).trans d1;have a0:=(hb0.cell (p:=⟨w.heap.size,0,none⟩) hz0).trans d0;have a1:=(hb0.cell (p:=⟨w.heap.size,1,none⟩) hz0).trans d1;have a2:=(hb0.cell (p:=⟨w.heap.size,2,none⟩) hz0).trans d2;have a5:=(hb0.cell (p:=⟨w.heap.size,5,none⟩) hz0).trans d5;have a6:=(hb0.cell (p:=⟨w.heap.size,6,none⟩) hz0).trans d6;have a7:=(hb0.cell (p:=⟨w.heap.size,7,none⟩) hz0).trans d7;have HB1:=Lib.hid hb1;have HXV:=Lib.hid hXV
 have HD:Hid (W0.cell? ⟨w.heap.size,0,none⟩=some (.int .i64 2)/\W0.cell? ⟨w.heap.size,1,none⟩=some (.int .i64 3)/\W0.cell? ⟨w.heap.size,2,none⟩=some (.slice s.ea s.el s.ec)/\W0.cell? ⟨w.heap.size,3,none⟩=some (.int .i64 hb)/\W0.cell? ⟨w.heap.size,4,none⟩=some (.string hr)/\W0.cell? ⟨w.heap.size,5,none⟩=some (.int .i64 cr)/\W0.cell? ⟨w.heap.size,6,none⟩=some (.int .i64 cc)/\W0.cell? ⟨w.heap.size,7,none⟩=some (.slice s.ca s.cl s.cc)/\W0.cell? ⟨w.heap.size,8,none⟩=some (.int .i64 gf)/\W0.cell? ⟨w.heap.size,9,none⟩=some (.slice s.ga s.gl s.gc)):=⟨d0,d1,d2,d3,d4,d5,d6,d7,d8,d9⟩;clear hX1 hXV hBV hb0 hb1;go_wp2_with fail;let Inv:World->Prop:=fun W=>Below V.heap.size V W
 have hgo:∀ W W',Inv W->Below W.heap.size W W'->Inv W':=fun W W' h hb=>Below.trans h (hb.mono (Below.size h))
 have hbX:∀ X:WIn Inv,Below W0.heap.size W0 X.world:=fun X=>HB1.out.trans (Below.mono X.ok HB1.out.size)
 have q1':∀ X:WIn Inv,X.world.cell? ⟨w.heap.size,1,none⟩=some (.int .i64 3):=fun X=>((hbX X).cell (p:=⟨w.heap.size,1,none⟩) hz0).trans d1
 have q5':∀ X:WIn Inv,X.world.cell? ⟨w.heap.size,5,none⟩=some (.int .i64 cr):=fun X=>((hbX X).cell (p:=⟨w.heap.size,5,none⟩) hz0).trans d5
 have q6':∀ X:WIn Inv,X.world.cell? ⟨w.heap.size,6,none⟩=some (.int .i64 cc):=fun X=>((hbX X).cell (p:=⟨w.heap.size,6,none⟩) hz0).trans d6
 have q7':∀ X:WIn Inv,X.world.cell? ⟨w.heap.size,7,none⟩=some (.slice s.ca s.cl s.cc):=fun X=>((hbX X).cell (p:=⟨w.heap.size,7,none⟩) hz0).trans d7
 have K1:Hid (∀ X:WIn Inv,Calls Tryz.prog 142 #[.agg #[.int .i64 cr,.int .i64 cc,.slice s.ca s.cl s.cc]] X.world fun e w'=>e=.returned (.bool bR)/\∃ Y:WIn Inv,w'=Y.world):=fun X=>by
  have h:=jbE cr cc s.ca s.cl s.cc cl X.world hU (HA.out.go (hbX X)).c.1.1;rw[HbR.out] at h;exact jab hgo h
 have HQ:Hid (∀ X:WIn Inv,Below V.heap.size V X.world):=fun X=>X.ok
 have hI0:Hid (Inv V.drew):=(Below.refl V.heap.size V).drew;have hne:Nonempty (WIn Inv):=⟨⟨_,hI0.out⟩⟩;clear hgo hbX d0 d1 d2 d3 d4 d5 d6 d7 d8 d9 p0 p1 a0 a1 a2 a5 a6 a7 c0 c1 c2 c3 c4 c5 c6 c7 c8 c9 f0 f1 f2 f3 f4 f5 f6 f7 f8 f9 e1 e2 e3 e4 e5 e6 e7 e8 e9 hU HbR;clear_value Inv
 cases bR with
 | false =>
  refine jac Inv (by kernel_rfl) (by kernel_rfl) hI0.out ?_
  repeat (first | go_big_quiet_step ((go_at_call 142;with_reducible exact K1.out _)) | quiet_step ((go_at_call 142;with_reducible exact K1.out _)))
  refine wpQuiet_nil ?_;rintro _ ⟨X,rfl⟩;have HX9:=Lib.hid (HQ.out X);obtain⟨w2,hw2⟩:∃ w2,X.world=w2:=⟨_,rfl⟩;rw[hw2] at HX9 ⊢;clear q1' q5' q6' q7' HQ K1 hI0 hne hw2 X;have HBZ:Hid (Below w.heap.size w w2):=HB0.out.trans ((HB1.out.trans (HX9.out.mono HB1.out.size)).mono HB0.out.size);go_wp2_with fail;go_ret;exact⟨rfl,HBZ.out⟩
 | true =>
 cases q0 with
 | false =>
  refine jac Inv (by kernel_rfl) (by kernel_rfl) hI0.out ?_
  repeat (first | go_big_quiet_step ((go_at_call 142;with_reducible exact K1.out _)) | quiet_step ((go_at_call 142;with_reducible exact K1.out _)))
  refine wpQuiet_nil ?_;rintro _ ⟨X,rfl⟩;have HX9:=Lib.hid (HQ.out X);obtain⟨w2,hw2⟩:∃ w2,X.world=w2:=⟨_,rfl⟩;rw[hw2] at HX9 ⊢;clear q1' q5' q6' q7' HQ K1 hI0 hne hw2 X;have HBZ:Hid (Below w.heap.size w w2):=HB0.out.trans ((HB1.out.trans (HX9.out.mono HB1.out.size)).mono HB0.out.size);go_wp2_with fail;go_ret;exact⟨rfl,HBZ.out⟩
 | true =>
 cases q1 with
 | false =>
  refine jac Inv (by kernel_rfl) (by kernel_rfl) hI0.out ?_
  repeat (first | go_big_quiet_step ((go_at_call 142;with_reducible exact K1.out _)) | quiet_step ((go_at_call 142;with_reducible exact K1.out _)))
  refine wpQuiet_nil ?_;rintro _ ⟨X,rfl⟩;have HX9:=Lib.hid (HQ.out X);obtain⟨w2,hw2⟩:∃ w2,X.world=w2:=⟨_,rfl⟩;rw[hw2] at HX9 ⊢;clear q1' q5' q6' q7' HQ K1 hI0 hne hw2 X;have HBZ:Hid (Below w.heap.size w w2):=HB0.out.trans ((HB1.out.trans (HX9.out.mono HB1.out.size)).mono HB0.out.size);go_wp2_with fail;go_ret;exact⟨rfl,HBZ.out⟩
 | true =>
  refine jac Inv (by kernel_rfl) (by kernel_rfl) hI0.out ?_
  repeat (first | go_big_quiet_step ((go_at_call 142;with_reducible exact K1.out _)) | quiet_step ((go_at_call 142;with_reducible exact K1.out _)))
  refine wpQuiet_nil ?_;rintro _ ⟨X,rfl⟩;have HX9:=Lib.hid (HQ.out X);obtain⟨w2,hw2⟩:∃ w2,X.world=w2:=⟨_,rfl⟩;rw[hw2] at HX9 ⊢;clear q1' q5' q6' q7' HQ K1 hI0 hne hw2 X;obtain⟨d0,d1,d2,d3,d4,d5,d6,d7,d8,d9⟩:=HD.out;have hb02:Below W0.heap.size W0 w2:=HB1.out.trans (HX9.out.mono HB1.out.size);have hXw:=(HX9.out.block _ (Array.getElem?_eq_some_iff.1 HXV.out).1).trans HXV.out;have k0:=(hb02.cell (p:=⟨w.heap.size,0,none⟩) hz0).trans d0;have k1:=(hb02.cell (p:=⟨w.heap.size,1,none⟩) hz0).trans d1;have k2:=(hb02.cell (p:=⟨w.heap.size,2,none⟩) hz0).trans d2;have k3:=(hb02.cell (p:=⟨w.heap.size,3,none⟩) hz0).trans d3;have k4:=(hb02.cell (p:=⟨w.heap.size,4,none⟩) hz0).trans d4;have k5:=(hb02.cell (p:=⟨w.heap.size,5,none⟩) hz0).trans d5;have k6:=(hb02.cell (p:=⟨w.heap.size,6,none⟩) hz0).trans d6;have k7:=(hb02.cell (p:=⟨w.heap.size,7,none⟩) hz0).trans d7;have k8:=(hb02.cell (p:=⟨w.heap.size,8,none⟩) hz0).trans d8;have k9:=(hb02.cell (p:=⟨w.heap.size,9,none⟩) hz0).trans d9;obtain⟨m0,m1,m2,m3,m4,m5,m6,m7,m8,m9⟩:=jaL hXw;have hS:=ja7 (⟨2,3,el,hb,hr,cr,cc,cl,gf,gl⟩:Sk) (jbA 2 3 cr cc cl) s ⟨none,0,0,s.ca,s.cl,s.cc,none,0,0⟩ w2 (HA.out.go hb02) ⟨jaP,(HA.out.go hb02).c,jaP⟩;rw[HSR.out] at hS;have HS:=Lib.hid hS;have HB02:=Lib.hid hb02;clear hXw d0 d1 d2 d3 d4 d5 d6 d7 d8 d9 hb02 HX9 hS;go_wp2_with fail;refine HS.out.mono ?_;rintro e w3 ⟨rfl,hb3⟩;have hb03:=HB02.out.trans (hb3.mono HB02.out.size);go_wp2_with fail;go_ret;exact⟨rfl,HB0.out.trans (hb03.mono HB0.out.size)⟩
set_option maxRecDepth 100000 in
set_option maxHeartbeats 2000000 in
theorem jgx (x:Sk) (s:SS) (w:World) (h:x.level<0\/jal x.kind<x.level) :
  Calls Tryz.prog 92 #[.agg #[.int .i64 x.kind,.int .i64 x.level,.slice s.ea s.el s.ec,.int .i64 x.hb,.string x.hr,.int .i64 x.cr,.int .i64 x.cc,.slice s.ca s.cl s.cc,.int .i64 x.gf,.slice s.ga s.gl s.gc]] w fun e w'=>e=.returned (.bool false)/\Below w.heap.size w w':=by
 obtain⟨W0,hW0,hX0,hB0,hs0⟩:=jah w #[.int .i64 x.kind,.int .i64 x.level,.slice s.ea s.el s.ec,.int .i64 x.hb,.string x.hr,.int .i64 x.cr,.int .i64 x.cc,.slice s.ca s.cl s.cc,.int .i64 x.gf,.slice s.ga s.gl s.gc] 50;have HB0:=Lib.hid hB0;have HBT:Hid (∀ W,Calls Tryz.prog 49 #[.int .i64 x.kind] W fun e w'=>e=.returned (.int .i64 (jal x.kind))/\w'=W):=fun W=>(jat x.kind W).mono fun e w' ⟨h1,h2⟩=>⟨h1,h2.symm⟩
 obtain⟨d0,d1,d2,d3,d4,d5,d6,d7,d8,d9⟩:=jaL hX0;clear hX0 hB0;generalize jal x.kind=bt at h HBT;by_cases h0:x.level<0
 ·clear h
  go_enter Tryz.func92,Tryz.ntmps92;go_wp2_with fail;go_quiet ((go_at_call 49;exact Calls.quiet_of_same (HBT.out _)));go_wp2_with fail;go_ret;exact⟨rfl,HB0.out.trans (bDr (Below.refl _ _) _)⟩
 ·have h1:bt<x.level:=by rcases h with h | h;exact absurd h h0;exact h
  clear h;go_enter Tryz.func92,Tryz.ntmps92;go_wp2_with fail;go_quiet ((go_at_call 49;exact Calls.quiet_of_same (HBT.out _)));go_wp2_with fail;go_ret;exact⟨rfl,HB0.out.trans (bDr (Below.refl _ _) _)⟩
theorem jbF (x:Sk) (s:SS) (w:World) (hA:s.At w.heap.size w x) (he:jdK x.e) (hc:I64 x.cc) (hg:joi x.gl) :
  Calls Tryz.prog 92 #[.agg #[.int .i64 x.kind,.int .i64 x.level,.slice s.ea s.el s.ec,.int .i64 x.hb,.string x.hr,.int .i64 x.cr,.int .i64 x.cc,.slice s.ca s.cl s.cc,.int .i64 x.gf,.slice s.ga s.gl s.gc]] w fun e w'=>e=.returned (.bool (jcd x))/\Below w.heap.size w w':=by
 by_cases hl:x.level<0\/jal x.kind<x.level
 ·have:jcd x=false:=by
   unfold jcd;have:(decide (0<=x.level)&&decide (x.level<=jal x.kind))=false:=by rw[Bool.and_eq_false_iff,decide_eq_false_iff_not,decide_eq_false_iff_not];omega
   rw[this];simp
  rw[this];exact jgx x s w hl
 obtain⟨kind,level,el,hb,hr,cr,cc,cl,gf,gl⟩:=x;dsimp only at hl he hc hg hA ⊢
 have hk:kind=1\/kind=2\/kind=3:=by
  unfold jal at hl;by_cases h1:kind=1
  ·exact .inl h1
  by_cases h2:kind=2
  ·exact .inr (.inl h2)
  by_cases h3:kind=3
  ·exact .inr (.inr h3)
  rw[if_neg (by simpa using h1),if_neg (by simp[h2,h3])] at hl;omega
 obtain⟨L,rfl⟩:∃ L:Nat,level=L:=⟨level.toNat,by omega⟩
 have hok:jcd ⟨kind,L,el,hb,hr,cr,cc,cl,gf,gl⟩=(jaG ⟨kind,L,el,hb,hr,cr,cc,cl,gf,gl⟩&&jay ⟨kind,L,el,hb,hr,cr,cc,cl,gf,gl⟩ (ja3 ⟨kind,L,el,hb,hr,cr,cc,cl,gf,gl⟩)):=by
  unfold jcd;dsimp only;rw[decide_eq_true (show 1<=kind by omega),decide_eq_true (show kind<=3 by omega),decide_eq_true (show (0:Int)<=L by omega),decide_eq_true (show (L:Int)<=jal kind by omega)];rfl
 rw[hok];rcases hk with rfl | rfl | rfl
 ·have hb4:jal 1=4:=rfl
  rw[hb4] at hl;by_cases h0:L=0
  ·subst h0
   exact jfL el hb hr cr cc cl gf gl s w hA he
  ·have hL:((L:Int)==0)=false:=by rw[beq_eq_false_iff_ne];omega
   have h:=jfM L (by omega) (by omega) el hb hr cr cc cl gf gl s w hA;have e1:jaG ⟨1,L,el,hb,hr,cr,cc,cl,gf,gl⟩=(jaR hb hr&&(hb==8-(L:Int))):=by unfold jaG;dsimp only;rw[hL];rfl
   have e2:ja3 ⟨1,L,el,hb,hr,cr,cc,cl,gf,gl⟩=jb4 1 L hb hr:=by unfold ja3;dsimp only;rw[hL];rfl
   rw[e1,e2];exact h
 ·have hb4:jal 2=3:=rfl
  rw[hb4] at hl;have e1:∀ (M:Nat) (c:Int),(32:Int) / 2^((M:Int)).toNat=c->jaG ⟨2,M,el,hb,hr,cr,cc,cl,gf,gl⟩=(jaN cr cc cl&&(cr==2)&&(cc==c)):=fun M c h=>by rw[<- h];rfl
  have e2:∀ M:Nat,ja3 ⟨2,M,el,hb,hr,cr,cc,cl,gf,gl⟩=jbA 2 M cr cc cl:=fun M=>rfl
  rw[e2];obtain rfl | rfl | rfl | rfl:L=0\/L=1\/L=2\/L=3:=by omega
  ·rw[e1 0 32 (by decide)];exact jfh el hb hr cr cc cl gf gl s w hA hc
  ·rw[e1 1 16 (by decide)];exact jfi el hb hr cr cc cl gf gl s w hA hc
  ·rw[e1 2 8 (by decide)];exact jfj el hb hr cr cc cl gf gl s w hA hc
  ·rw[e1 3 4 (by decide)];exact jfk el hb hr cr cc cl gf gl s w hA hc
 ·have hb4:jal 3=3:=rfl
  rw[hb4] at hl;exact jfK L (by omega) el hb hr cr cc cl gf gl s w hA hg
end Go.Proofs.YtieknocphiceoaaGreatDoor
