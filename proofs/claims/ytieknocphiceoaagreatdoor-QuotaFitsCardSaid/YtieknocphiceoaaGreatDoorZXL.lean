/- Package ladder: open, the other kinds. Package ladder: open whole; Right, Cost. Package ladder: Cost. -/
import Derived.Test.YtieknocphiceoaaGreatDoorZQ9
namespace Go.Proofs.YtieknocphiceoaaGreatDoor
open Go Go.RowKit
set_option maxRecDepth 100000 in
set_option maxHeartbeats 8000000 in
theorem jpE (x:Sk) (s:SS) (w:World) (hx:s.At w.heap.size w x) (hk:x.kind=1) (h0:(x.level==0)=false) (h1:0<=x.level) (h2:x.level<=4) :
  Calls Tryz.prog 88 #[.agg #[.int .i64 x.kind,.int .i64 x.level,.slice s.ea s.el s.ec,.int .i64 x.hb,.string x.hr,.int .i64 x.cr,.int .i64 x.cc,.slice s.ca s.cl s.cc,.int .i64 x.gf,.slice s.ga s.gl s.gc]] w (jbz ((jaR x.hb x.hr&&(x.hb==8-x.level))&&jay x (jb4 1 x.level x.hb x.hr)) (.iface 241 (.agg #[.int .i64 x.hb,.string x.hr])) x w):=by
 obtain⟨W0,hW0,hO⟩:=jcO hx;have HO:=Lib.hid hO;have HK:=Lib.hid hk;rw[hk] at hW0 ⊢;have t1:decide (x.level<0)=false:=by simp;omega
 have t2:decide ((4:Int)<x.level)=false:=by simp;omega
 have hbt:∀ w,Calls Tryz.prog 48 #[.int .i64 1] w fun e w'=>e=.returned (.int .i64 4)/\w'=w:=fun w=>(jbi 1 w).mono fun e w' ⟨h1,h2⟩=>⟨h1,h2.symm⟩
 have HBT:=Lib.hid hbt;clear hx hO hbt hk;go_enter Tryz.func88,Tryz.ntmps88;go_wp2_with fail;clear hW0;have c0:W0.cell? ⟨w.heap.size,0,none⟩=some (.int .i64 1):=by rw[<- HK.out];exact cCc HO.out.box 0
 have q0:∀ W,Below W0.heap.size W0 W->W.cell? ⟨w.heap.size,0,none⟩=some (.int .i64 1)/\Below W0.heap.size W0 W:=fun W h=>⟨by rw[<- HK.out];exact cCc (HO.out.go h).box 0,h⟩
 have HQ:=Lib.hid q0;clear q0
 go_region_held3 (fun w'=>w'.cell? ⟨w.heap.size,0,none⟩=some (.int .i64 1)/\Below W0.heap.size W0 w')
  (first
   | exact HQ.out _ (Below.refl _ _).drew
   | (go_split_ands;refine HQ.out _ ?_;first | assumption | exact Below.trans (by assumption) (Below.mono (by assumption) (Below.size (by assumption)))))
  (first
   | (go_at_call 135;refine (jb9 _).mono ?_;rintro e w1 ⟨r,rfl,hr,hb1⟩;have hlk:=jk0 hr;have hq1:Below W0.heap.size W0 w1:=(by go_split_ands;exact Below.trans (by assumption) (Below.mono hb1 (Below.size (by assumption))))))
 have hO1:=HO.out.go hq1;have hbx:=hO1.box;rw[HK.out] at hbx;obtain⟨d0,d1,d2,d3,d4,d5,d6,d7,d8,d9⟩:=jaL hbx;clear hlk hr hb1 c0;go_wp2_with fail;go_quiet ((go_at_call 48;exact Calls.quiet_of_same (HBT.out _)));go_wp2_with fail;have hO2:=hO1.go (bDr (Below.refl _ _) nq);have hD:=jhW x s (w1.drewN nq) hO2.lists h0 h1 h2;rw[HK.out] at hD;generalize hbr:(jaR x.hb x.hr&&(x.hb==8-x.level))=br at hD;have HBR:=Lib.hid hbr;clear hbr;refine hD.mono ?_;rintro e w3 ⟨rfl,hb3⟩;have hO3:=hO2.go hb3;have hbx3:=hO3.box;rw[HK.out] at hbx3;clear hD hO2 hb3 hO1 hbx d0 d1 d2 d3 d4 d5 d6 d7 d8 d9 HQ HBT HO hq1;obtain⟨d0,d1,d2,d3,d4,d5,d6,d7,d8,d9⟩:=jaL hbx3;obtain⟨p0,p1,p2⟩:=cl3 hO3.res;obtain⟨f0,f1,f2⟩:=cz3 hO3.res
 cases br with
 | false =>
  go_wp2_with fail;rw[HBR.out,Bool.false_and];exact jaU hO3 rfl rfl
 | true =>
  obtain⟨W4,hW4,hX4,hB4,hs4⟩:=jah w3 #[.iface 241 (.agg #[.int .i64 x.hb,.string x.hr]),.int .i64 1,.int .i64 x.level] 122;have HW4:=Lib.hid hW4;have HO4:=Lib.hid (hO3.go hB4);have HX4:=Lib.hid hX4;clear hW4 hX4 hB4 hs4 hO3 p0 p1 p2 f0 f1 f2 hbx3;go_wp2_with fail;rw[HW4.out];clear HW4 d0 d1 d2 d3 d4 d5 d6 d7 d8 d9
  have q4:∀ w',Below W4.heap.size W4 w'->w'.cell? ⟨w.heap.size,0,none⟩=some (.int .i64 1)/\w'.cell? ⟨w.heap.size,1,none⟩=some (.int .i64 x.level)/\w'.cell? ⟨w.heap.size,2,none⟩=some (.slice s.ea s.el s.ec)/\w'.cell? ⟨w.heap.size,3,none⟩=some (.int .i64 x.hb)/\w'.cell? ⟨w.heap.size,4,none⟩=some (.string x.hr)/\w'.cell? ⟨w.heap.size,5,none⟩=some (.int .i64 x.cr)/\w'.cell? ⟨w.heap.size,6,none⟩=some (.int .i64 x.cc)/\w'.cell? ⟨w.heap.size,7,none⟩=some (.slice s.ca s.cl s.cc)/\w'.cell? ⟨w.heap.size,8,none⟩=some (.int .i64 x.gf)/\w'.cell? ⟨w.heap.size,9,none⟩=some (.slice s.ga s.gl s.gc)/\w'.cell? ⟨w3.heap.size,0,none⟩=some (.iface 241 (.agg #[.int .i64 x.hb,.string x.hr]))/\w'.cell? ⟨w3.heap.size,1,none⟩=some (.int .i64 1)/\w'.cell? ⟨w3.heap.size,2,none⟩=some (.int .i64 x.level)/\Below W4.heap.size W4 w':=fun w' h=>by
   have hb:=(HO4.out.go h).box;rw[HK.out] at hb;have hc:=jak h (Nat.le_refl _) HX4.out;exact⟨cCc hb 0,cCc hb 1,cCc hb 2,cCc hb 3,cCc hb 4,cCc hb 5,cCc hb 6,cCc hb 7,cCc hb 8,cCc hb 9,cCc hc 0,cCc hc 1,cCc hc 2,h⟩
  have HQ4:=Lib.hid q4;clear q4;obtain⟨sm,hsm⟩:∃ sm,jay x (jb4 1 x.level x.hb x.hr)=sm:=⟨_,rfl⟩;have HSM:=Lib.hid hsm;clear hsm;have HSK:Hid (∀ W,Below W4.heap.size W4 W->Calls Tryz.prog 136 #[.agg #[.iface 241 (.agg #[.int .i64 x.hb,.string x.hr]),.int .i64 1,.int .i64 x.level]] W (jeA (jb4 1 x.level x.hb x.hr) W)):=fun W h=>jhG 1 x.level x.hb x.hr W
  have HSA:Hid (∀ W (s':SS),Below W4.heap.size W4 W->s'.At W.heap.size W (jb4 1 x.level x.hb x.hr)->Calls Tryz.prog 67 #[.agg #[.int .i64 1,.int .i64 x.level,.slice s.ea s.el s.ec,.int .i64 x.hb,.string x.hr,.int .i64 x.cr,.int .i64 x.cc,.slice s.ca s.cl s.cc,.int .i64 x.gf,.slice s.ga s.gl s.gc],.agg #[.int .i64 (jb4 1 x.level x.hb x.hr).kind,.int .i64 (jb4 1 x.level x.hb x.hr).level,.slice s'.ea s'.el s'.ec,.int .i64 (jb4 1 x.level x.hb x.hr).hb,.string (jb4 1 x.level x.hb x.hr).hr,.int .i64 (jb4 1 x.level x.hb x.hr).cr,.int .i64 (jb4 1 x.level x.hb x.hr).cc,.slice s'.ca s'.cl s'.cc,.int .i64 (jb4 1 x.level x.hb x.hr).gf,.slice s'.ga s'.gl s'.gc]] W fun e w'=>e=.returned (.bool sm)/\Below W.heap.size W w'):=fun W s' h hs'=>by
   have:=jca x (jb4 1 x.level x.hb x.hr) s s' W (HO4.out.go h).lists hs';rw[HSM.out,HK.out] at this;exact this
  go_region_held3 (fun w'=>w'.cell? ⟨w.heap.size,0,none⟩=some (.int .i64 1)/\w'.cell? ⟨w.heap.size,1,none⟩=some (.int .i64 x.level)/\w'.cell? ⟨w.heap.size,2,none⟩=some (.slice s.ea s.el s.ec)/\w'.cell? ⟨w.heap.size,3,none⟩=some (.int .i64 x.hb)/\w'.cell? ⟨w.heap.size,4,none⟩=some (.string x.hr)/\w'.cell? ⟨w.heap.size,5,none⟩=some (.int .i64 x.cr)/\w'.cell? ⟨w.heap.size,6,none⟩=some (.int .i64 x.cc)/\w'.cell? ⟨w.heap.size,7,none⟩=some (.slice s.ca s.cl s.cc)/\w'.cell? ⟨w.heap.size,8,none⟩=some (.int .i64 x.gf)/\w'.cell? ⟨w.heap.size,9,none⟩=some (.slice s.ga s.gl s.gc)/\w'.cell? ⟨w3.heap.size,0,none⟩=some (.iface 241 (.agg #[.int .i64 x.hb,.string x.hr]))/\w'.cell? ⟨w3.heap.size,1,none⟩=some (.int .i64 1)/\w'.cell? ⟨w3.heap.size,2,none⟩=some (.int .i64 x.level)/\Below W4.heap.size W4 w')
   (first
    | exact HQ4.out _ (Below.refl _ _).drew
    | (go_split_ands;refine HQ4.out _ ?_;first | assumption | exact Below.trans (by assumption) (Below.mono (by assumption) (Below.size (by assumption)))))
   (first
    | (go_at_call 136;refine (HSK.out _ (by go_split_ands;assumption)).mono ?_;rintro e w5 ⟨s5,rfl,hA5,-,-,-,hb5⟩;have hq5:Below W4.heap.size W4 w5:=(by go_split_ands;exact Below.trans (by assumption) (Below.mono hb5 (Below.size (by assumption)))))
    | (go_at_call 67;refine (HSA.out _ s5 hq5 hA5).mono ?_;rintro e w6 ⟨rfl,hb6⟩;have hq6:Below W4.heap.size W4 w6:=hq5.trans (hb6.mono hq5.size)))
  have hO6:=HO4.out.go hq6;have hX6:=jak hq6 (Nat.le_refl _) HX4.out;obtain⟨u0,u1,u2⟩:=cl3 hX6;obtain⟨p0,p1,p2⟩:=cl3 hO6.res;obtain⟨f0,f1,f2⟩:=cz3 hO6.res;clear HQ4 HSK HSA hX6 hb6 hb5 hA5 hq5 hq6 HO4 HX4
  cases sm with
  | false =>
   go_wp2_with fail;rw[HBR.out,HSM.out,Bool.true_and];exact jaU hO6 rfl rfl
  | true =>
   go_wp2_with fail;have h9:=fun tm=>jeV (body:=.iface 241 (.agg #[.int .i64 x.hb,.string x.hr])) (tm:=tm) hO6
   rw[HK.out] at h9;rw[HBR.out,HSM.out,Bool.true_and];exact h9 _ rfl rfl
set_option maxRecDepth 100000 in
set_option maxHeartbeats 8000000 in
theorem jpC (x:Sk) (s:SS) (w:World) (hx:s.At w.heap.size w x) (hk:x.kind=2) (h1:0<=x.level) (h2:x.level<=3) (hll:s.cl<2147483648) :
  Calls Tryz.prog 88 #[.agg #[.int .i64 x.kind,.int .i64 x.level,.slice s.ea s.el s.ec,.int .i64 x.hb,.string x.hr,.int .i64 x.cr,.int .i64 x.cc,.slice s.ca s.cl s.cc,.int .i64 x.gf,.slice s.ga s.gl s.gc]] w (jbz ((jaN x.cr x.cc x.cl&&(x.cr==2)&&(x.cc==32 / 2^x.level.toNat))&&jay x (jbA 2 x.level x.cr x.cc x.cl)) (.iface 242 (.agg #[.int .i64 x.cr,.int .i64 x.cc,.slice s.ca s.cl s.cc])) x w):=by
 obtain⟨W0,hW0,hO⟩:=jcO hx;have HO:=Lib.hid hO;have HK:=Lib.hid hk;rw[hk] at hW0 ⊢;have t1:decide (x.level<0)=false:=by simp;omega
 have t2:decide ((3:Int)<x.level)=false:=by simp;omega
 have hbt:∀ w,Calls Tryz.prog 48 #[.int .i64 2] w fun e w'=>e=.returned (.int .i64 3)/\w'=w:=fun w=>(jbi 2 w).mono fun e w' ⟨h1,h2⟩=>⟨h1,h2.symm⟩
 have HBT:=Lib.hid hbt;clear hx hO hbt hk;go_enter Tryz.func88,Tryz.ntmps88;go_wp2_with fail;clear hW0;have c0:W0.cell? ⟨w.heap.size,0,none⟩=some (.int .i64 2):=by rw[<- HK.out];exact cCc HO.out.box 0
 have q0:∀ W,Below W0.heap.size W0 W->W.cell? ⟨w.heap.size,0,none⟩=some (.int .i64 2)/\Below W0.heap.size W0 W:=fun W h=>⟨by rw[<- HK.out];exact cCc (HO.out.go h).box 0,h⟩
 have HQ:=Lib.hid q0;clear q0
 go_region_held3 (fun w'=>w'.cell? ⟨w.heap.size,0,none⟩=some (.int .i64 2)/\Below W0.heap.size W0 w')
  (first
   | exact HQ.out _ (Below.refl _ _).drew
   | (go_split_ands;refine HQ.out _ ?_;first | assumption | exact Below.trans (by assumption) (Below.mono (by assumption) (Below.size (by assumption)))))
  (first
   | (go_at_call 135;refine (jb9 _).mono ?_;rintro e w1 ⟨r,rfl,hr,hb1⟩;have hlk:=jnk hr;have hq1:Below W0.heap.size W0 w1:=(by go_split_ands;exact Below.trans (by assumption) (Below.mono hb1 (Below.size (by assumption))))))
 have hO1:=HO.out.go hq1;have hbx:=hO1.box;rw[HK.out] at hbx;obtain⟨d0,d1,d2,d3,d4,d5,d6,d7,d8,d9⟩:=jaL hbx;clear hlk hr hb1 c0;go_wp2_with fail;go_quiet ((go_at_call 48;exact Calls.quiet_of_same (HBT.out _)));go_wp2_with fail;have hO2:=hO1.go (bDr (Below.refl _ _) nq);have hD:=jmJ x s (w1.drewN nq) hO2.lists h1 h2;rw[HK.out] at hD;generalize hbr:(jaN x.cr x.cc x.cl&&(x.cr==2)&&(x.cc==32 / 2^x.level.toNat))=br at hD;have HBR:=Lib.hid hbr;clear hbr;refine hD.mono ?_;rintro e w3 ⟨rfl,hb3⟩;have hO3:=hO2.go hb3;have hbx3:=hO3.box;rw[HK.out] at hbx3;clear hD hO2 hb3 hO1 hbx d0 d1 d2 d3 d4 d5 d6 d7 d8 d9 HQ HBT HO hq1;obtain⟨d0,d1,d2,d3,d4,d5,d6,d7,d8,d9⟩:=jaL hbx3;obtain⟨p0,p1,p2⟩:=cl3 hO3.res;obtain⟨f0,f1,f2⟩:=cz3 hO3.res
 cases br with
 | false =>
  go_wp2_with fail;rw[HBR.out,Bool.false_and];exact jaU hO3 rfl rfl
 | true =>
  obtain⟨W4,hW4,hX4,hB4,hs4⟩:=jah w3 #[.iface 242 (.agg #[.int .i64 x.cr,.int .i64 x.cc,.slice s.ca s.cl s.cc]),.int .i64 2,.int .i64 x.level] 122;have HW4:=Lib.hid hW4;have HO4:=Lib.hid (hO3.go hB4);have HX4:=Lib.hid hX4;clear hW4 hX4 hB4 hs4 hO3 p0 p1 p2 f0 f1 f2 hbx3;go_wp2_with fail;rw[HW4.out];clear HW4 d0 d1 d2 d3 d4 d5 d6 d7 d8 d9
  have q4:∀ w',Below W4.heap.size W4 w'->w'.cell? ⟨w.heap.size,0,none⟩=some (.int .i64 2)/\w'.cell? ⟨w.heap.size,1,none⟩=some (.int .i64 x.level)/\w'.cell? ⟨w.heap.size,2,none⟩=some (.slice s.ea s.el s.ec)/\w'.cell? ⟨w.heap.size,3,none⟩=some (.int .i64 x.hb)/\w'.cell? ⟨w.heap.size,4,none⟩=some (.string x.hr)/\w'.cell? ⟨w.heap.size,5,none⟩=some (.int .i64 x.cr)/\w'.cell? ⟨w.heap.size,6,none⟩=some (.int .i64 x.cc)/\w'.cell? ⟨w.heap.size,7,none⟩=some (.slice s.ca s.cl s.cc)/\w'.cell? ⟨w.heap.size,8,none⟩=some (.int .i64 x.gf)/\w'.cell? ⟨w.heap.size,9,none⟩=some (.slice s.ga s.gl s.gc)/\w'.cell? ⟨w3.heap.size,0,none⟩=some (.iface 242 (.agg #[.int .i64 x.cr,.int .i64 x.cc,.slice s.ca s.cl s.cc]))/\w'.cell? ⟨w3.heap.size,1,none⟩=some (.int .i64 2)/\w'.cell? ⟨w3.heap.size,2,none⟩=some (.int .i64 x.level)/\Below W4.heap.size W4 w':=fun w' h=>by
   have hb:=(HO4.out.go h).box;rw[HK.out] at hb;have hc:=jak h (Nat.le_refl _) HX4.out;exact⟨cCc hb 0,cCc hb 1,cCc hb 2,cCc hb 3,cCc hb 4,cCc hb 5,cCc hb 6,cCc hb 7,cCc hb 8,cCc hb 9,cCc hc 0,cCc hc 1,cCc hc 2,h⟩
  have HQ4:=Lib.hid q4;clear q4;obtain⟨sm,hsm⟩:∃ sm,jay x (jbA 2 x.level x.cr x.cc x.cl)=sm:=⟨_,rfl⟩;have HSM:=Lib.hid hsm;clear hsm;have HSK:Hid (∀ W,Below W4.heap.size W4 W->Calls Tryz.prog 136 #[.agg #[.iface 242 (.agg #[.int .i64 x.cr,.int .i64 x.cc,.slice s.ca s.cl s.cc]),.int .i64 2,.int .i64 x.level]] W (jeA (jbA 2 x.level x.cr x.cc x.cl) W)):=fun W h=>jhE 2 x.level x.cr x.cc x.cl s.ca s.cl s.cc W (HO4.out.go h).lists.c.1 hll
  have HSA:Hid (∀ W (s':SS),Below W4.heap.size W4 W->s'.At W.heap.size W (jbA 2 x.level x.cr x.cc x.cl)->Calls Tryz.prog 67 #[.agg #[.int .i64 2,.int .i64 x.level,.slice s.ea s.el s.ec,.int .i64 x.hb,.string x.hr,.int .i64 x.cr,.int .i64 x.cc,.slice s.ca s.cl s.cc,.int .i64 x.gf,.slice s.ga s.gl s.gc],.agg #[.int .i64 (jbA 2 x.level x.cr x.cc x.cl).kind,.int .i64 (jbA 2 x.level x.cr x.cc x.cl).level,.slice s'.ea s'.el s'.ec,.int .i64 (jbA 2 x.level x.cr x.cc x.cl).hb,.string (jbA 2 x.level x.cr x.cc x.cl).hr,.int .i64 (jbA 2 x.level x.cr x.cc x.cl).cr,.int .i64 (jbA 2 x.level x.cr x.cc x.cl).cc,.slice s'.ca s'.cl s'.cc,.int .i64 (jbA 2 x.level x.cr x.cc x.cl).gf,.slice s'.ga s'.gl s'.gc]] W fun e w'=>e=.returned (.bool sm)/\Below W.heap.size W w'):=fun W s' h hs'=>by
   have:=jca x (jbA 2 x.level x.cr x.cc x.cl) s s' W (HO4.out.go h).lists hs';rw[HSM.out,HK.out] at this;exact this
  go_region_held3 (fun w'=>w'.cell? ⟨w.heap.size,0,none⟩=some (.int .i64 2)/\w'.cell? ⟨w.heap.size,1,none⟩=some (.int .i64 x.level)/\w'.cell? ⟨w.heap.size,2,none⟩=some (.slice s.ea s.el s.ec)/\w'.cell? ⟨w.heap.size,3,none⟩=some (.int .i64 x.hb)/\w'.cell? ⟨w.heap.size,4,none⟩=some (.string x.hr)/\w'.cell? ⟨w.heap.size,5,none⟩=some (.int .i64 x.cr)/\w'.cell? ⟨w.heap.size,6,none⟩=some (.int .i64 x.cc)/\w'.cell? ⟨w.heap.size,7,none⟩=some (.slice s.ca s.cl s.cc)/\w'.cell? ⟨w.heap.size,8,none⟩=some (.int .i64 x.gf)/\w'.cell? ⟨w.heap.size,9,none⟩=some (.slice s.ga s.gl s.gc)/\w'.cell? ⟨w3.heap.size,0,none⟩=some (.iface 242 (.agg #[.int .i64 x.cr,.int .i64 x.cc,.slice s.ca s.cl s.cc]))/\w'.cell? ⟨w3.heap.size,1,none⟩=some (.int .i64 2)/\w'.cell? ⟨w3.heap.size,2,none⟩=some (.int .i64 x.level)/\Below W4.heap.size W4 w')
   (first
    | exact HQ4.out _ (Below.refl _ _).drew
    | (go_split_ands;refine HQ4.out _ ?_;first | assumption | exact Below.trans (by assumption) (Below.mono (by assumption) (Below.size (by assumption)))))
   (first
    | (go_at_call 136;refine (HSK.out _ (by go_split_ands;assumption)).mono ?_;rintro e w5 ⟨s5,rfl,hA5,-,-,-,hb5⟩;have hq5:Below W4.heap.size W4 w5:=(by go_split_ands;exact Below.trans (by assumption) (Below.mono hb5 (Below.size (by assumption)))))
    | (go_at_call 67;refine (HSA.out _ s5 hq5 hA5).mono ?_;rintro e w6 ⟨rfl,hb6⟩;have hq6:Below W4.heap.size W4 w6:=hq5.trans (hb6.mono hq5.size)))
  have hO6:=HO4.out.go hq6;have hX6:=jak hq6 (Nat.le_refl _) HX4.out;obtain⟨u0,u1,u2⟩:=cl3 hX6;obtain⟨p0,p1,p2⟩:=cl3 hO6.res;obtain⟨f0,f1,f2⟩:=cz3 hO6.res;clear HQ4 HSK HSA hX6 hb6 hb5 hA5 hq5 hq6 HO4 HX4
  cases sm with
  | false =>
   go_wp2_with fail;rw[HBR.out,HSM.out,Bool.true_and];exact jaU hO6 rfl rfl
  | true =>
   go_wp2_with fail;have h9:=fun tm=>jeV (body:=.iface 242 (.agg #[.int .i64 x.cr,.int .i64 x.cc,.slice s.ca s.cl s.cc])) (tm:=tm) hO6
   rw[HK.out] at h9;rw[HBR.out,HSM.out,Bool.true_and];exact h9 _ rfl rfl
set_option maxRecDepth 100000 in
set_option maxHeartbeats 8000000 in
theorem jpB (x:Sk) (s:SS) (w:World) (hx:s.At w.heap.size w x) (hk:x.kind=3) (h1:0<=x.level) (h2:x.level<=3) (hll:s.gl<2147483648) (hb:∀ b∈x.gl,b.1<=9223372036854775807) :
  Calls Tryz.prog 88 #[.agg #[.int .i64 x.kind,.int .i64 x.level,.slice s.ea s.el s.ec,.int .i64 x.hb,.string x.hr,.int .i64 x.cr,.int .i64 x.cc,.slice s.ca s.cl s.cc,.int .i64 x.gf,.slice s.ga s.gl s.gc]] w (jbz ((jaX x.gf x.gl&&(x.gf==3-x.level))&&jay x (jck 3 x.level x.gf x.gl)) (.iface 244 (.agg #[.int .i64 x.gf,.slice s.ga s.gl s.gc])) x w):=by
 obtain⟨W0,hW0,hO⟩:=jcO hx;have HO:=Lib.hid hO;have HK:=Lib.hid hk;rw[hk] at hW0 ⊢;have t1:decide (x.level<0)=false:=by simp;omega
 have t2:decide ((3:Int)<x.level)=false:=by simp;omega
 have hbt:∀ w,Calls Tryz.prog 48 #[.int .i64 3] w fun e w'=>e=.returned (.int .i64 3)/\w'=w:=fun w=>(jbi 3 w).mono fun e w' ⟨h1,h2⟩=>⟨h1,h2.symm⟩
 have HBT:=Lib.hid hbt;clear hx hO hbt hk;go_enter Tryz.func88,Tryz.ntmps88;go_wp2_with fail;clear hW0;have c0:W0.cell? ⟨w.heap.size,0,none⟩=some (.int .i64 3):=by rw[<- HK.out];exact cCc HO.out.box 0
 have q0:∀ W,Below W0.heap.size W0 W->W.cell? ⟨w.heap.size,0,none⟩=some (.int .i64 3)/\Below W0.heap.size W0 W:=fun W h=>⟨by rw[<- HK.out];exact cCc (HO.out.go h).box 0,h⟩
 have HQ:=Lib.hid q0;clear q0
 go_region_held3 (fun w'=>w'.cell? ⟨w.heap.size,0,none⟩=some (.int .i64 3)/\Below W0.heap.size W0 w')
  (first
   | exact HQ.out _ (Below.refl _ _).drew
   | (go_split_ands;refine HQ.out _ ?_;first | assumption | exact Below.trans (by assumption) (Below.mono (by assumption) (Below.size (by assumption)))))
  (first
   | (go_at_call 135;refine (jb9 _).mono ?_;rintro e w1 ⟨r,rfl,hr,hb1⟩;have hlk:=jnl hr;have hq1:Below W0.heap.size W0 w1:=(by go_split_ands;exact Below.trans (by assumption) (Below.mono hb1 (Below.size (by assumption))))))
 have hO1:=HO.out.go hq1;have hbx:=hO1.box;rw[HK.out] at hbx;obtain⟨d0,d1,d2,d3,d4,d5,d6,d7,d8,d9⟩:=jaL hbx;clear hlk hr hb1 c0;go_wp2_with fail;go_quiet ((go_at_call 48;exact Calls.quiet_of_same (HBT.out _)));go_wp2_with fail;have hO2:=hO1.go (bDr (Below.refl _ _) nq);have hD:=jqU x s (w1.drewN nq) hO2.lists h1 h2 hb;rw[HK.out] at hD;generalize hbr:(jaX x.gf x.gl&&(x.gf==3-x.level))=br at hD;have HBR:=Lib.hid hbr;clear hbr;refine hD.mono ?_;rintro e w3 ⟨rfl,hb3⟩;have hO3:=hO2.go hb3;have hbx3:=hO3.box;rw[HK.out] at hbx3;clear hD hO2 hb3 hO1 hbx d0 d1 d2 d3 d4 d5 d6 d7 d8 d9 HQ HBT HO hq1;obtain⟨d0,d1,d2,d3,d4,d5,d6,d7,d8,d9⟩:=jaL hbx3;obtain⟨p0,p1,p2⟩:=cl3 hO3.res;obtain⟨f0,f1,f2⟩:=cz3 hO3.res
 cases br with
 | false =>
  go_wp2_with fail;rw[HBR.out,Bool.false_and];exact jaU hO3 rfl rfl
 | true =>
  obtain⟨W4,hW4,hX4,hB4,hs4⟩:=jah w3 #[.iface 244 (.agg #[.int .i64 x.gf,.slice s.ga s.gl s.gc]),.int .i64 3,.int .i64 x.level] 122;have HW4:=Lib.hid hW4;have HO4:=Lib.hid (hO3.go hB4);have HX4:=Lib.hid hX4;clear hW4 hX4 hB4 hs4 hO3 p0 p1 p2 f0 f1 f2 hbx3;go_wp2_with fail;rw[HW4.out];clear HW4 d0 d1 d2 d3 d4 d5 d6 d7 d8 d9
  have q4:∀ w',Below W4.heap.size W4 w'->w'.cell? ⟨w.heap.size,0,none⟩=some (.int .i64 3)/\w'.cell? ⟨w.heap.size,1,none⟩=some (.int .i64 x.level)/\w'.cell? ⟨w.heap.size,2,none⟩=some (.slice s.ea s.el s.ec)/\w'.cell? ⟨w.heap.size,3,none⟩=some (.int .i64 x.hb)/\w'.cell? ⟨w.heap.size,4,none⟩=some (.string x.hr)/\w'.cell? ⟨w.heap.size,5,none⟩=some (.int .i64 x.cr)/\w'.cell? ⟨w.heap.size,6,none⟩=some (.int .i64 x.cc)/\w'.cell? ⟨w.heap.size,7,none⟩=some (.slice s.ca s.cl s.cc)/\w'.cell? ⟨w.heap.size,8,none⟩=some (.int .i64 x.gf)/\w'.cell? ⟨w.heap.size,9,none⟩=some (.slice s.ga s.gl s.gc)/\w'.cell? ⟨w3.heap.size,0,none⟩=some (.iface 244 (.agg #[.int .i64 x.gf,.slice s.ga s.gl s.gc]))/\w'.cell? ⟨w3.heap.size,1,none⟩=some (.int .i64 3)/\w'.cell? ⟨w3.heap.size,2,none⟩=some (.int .i64 x.level)/\Below W4.heap.size W4 w':=fun w' h=>by
   have hb:=(HO4.out.go h).box;rw[HK.out] at hb;have hc:=jak h (Nat.le_refl _) HX4.out;exact⟨cCc hb 0,cCc hb 1,cCc hb 2,cCc hb 3,cCc hb 4,cCc hb 5,cCc hb 6,cCc hb 7,cCc hb 8,cCc hb 9,cCc hc 0,cCc hc 1,cCc hc 2,h⟩
  have HQ4:=Lib.hid q4;clear q4;obtain⟨sm,hsm⟩:∃ sm,jay x (jck 3 x.level x.gf x.gl)=sm:=⟨_,rfl⟩;have HSM:=Lib.hid hsm;clear hsm;have HSK:Hid (∀ W,Below W4.heap.size W4 W->Calls Tryz.prog 136 #[.agg #[.iface 244 (.agg #[.int .i64 x.gf,.slice s.ga s.gl s.gc]),.int .i64 3,.int .i64 x.level]] W (jeA (jck 3 x.level x.gf x.gl) W)):=fun W h=>jhD 3 x.level x.gf x.gl s.ga s.gl s.gc W (HO4.out.go h).lists.g.1 hll
  have HSA:Hid (∀ W (s':SS),Below W4.heap.size W4 W->s'.At W.heap.size W (jck 3 x.level x.gf x.gl)->Calls Tryz.prog 67 #[.agg #[.int .i64 3,.int .i64 x.level,.slice s.ea s.el s.ec,.int .i64 x.hb,.string x.hr,.int .i64 x.cr,.int .i64 x.cc,.slice s.ca s.cl s.cc,.int .i64 x.gf,.slice s.ga s.gl s.gc],.agg #[.int .i64 (jck 3 x.level x.gf x.gl).kind,.int .i64 (jck 3 x.level x.gf x.gl).level,.slice s'.ea s'.el s'.ec,.int .i64 (jck 3 x.level x.gf x.gl).hb,.string (jck 3 x.level x.gf x.gl).hr,.int .i64 (jck 3 x.level x.gf x.gl).cr,.int .i64 (jck 3 x.level x.gf x.gl).cc,.slice s'.ca s'.cl s'.cc,.int .i64 (jck 3 x.level x.gf x.gl).gf,.slice s'.ga s'.gl s'.gc]] W fun e w'=>e=.returned (.bool sm)/\Below W.heap.size W w'):=fun W s' h hs'=>by
   have:=jca x (jck 3 x.level x.gf x.gl) s s' W (HO4.out.go h).lists hs';rw[HSM.out,HK.out] at this;exact this
  go_region_held3 (fun w'=>w'.cell? ⟨w.heap.size,0,none⟩=some (.int .i64 3)/\w'.cell? ⟨w.heap.size,1,none⟩=some (.int .i64 x.level)/\w'.cell? ⟨w.heap.size,2,none⟩=some (.slice s.ea s.el s.ec)/\w'.cell? ⟨w.heap.size,3,none⟩=some (.int .i64 x.hb)/\w'.cell? ⟨w.heap.size,4,none⟩=some (.string x.hr)/\w'.cell? ⟨w.heap.size,5,none⟩=some (.int .i64 x.cr)/\w'.cell? ⟨w.heap.size,6,none⟩=some (.int .i64 x.cc)/\w'.cell? ⟨w.heap.size,7,none⟩=some (.slice s.ca s.cl s.cc)/\w'.cell? ⟨w.heap.size,8,none⟩=some (.int .i64 x.gf)/\w'.cell? ⟨w.heap.size,9,none⟩=some (.slice s.ga s.gl s.gc)/\w'.cell? ⟨w3.heap.size,0,none⟩=some (.iface 244 (.agg #[.int .i64 x.gf,.slice s.ga s.gl s.gc]))/\w'.cell? ⟨w3.heap.size,1,none⟩=some (.int .i64 3)/\w'.cell? ⟨w3.heap.size,2,none⟩=some (.int .i64 x.level)/\Below W4.heap.size W4 w')
   (first
    | exact HQ4.out _ (Below.refl _ _).drew
    | (go_split_ands;refine HQ4.out _ ?_;first | assumption | exact Below.trans (by assumption) (Below.mono (by assumption) (Below.size (by assumption)))))
   (first
    | (go_at_call 136;refine (HSK.out _ (by go_split_ands;assumption)).mono ?_;rintro e w5 ⟨s5,rfl,hA5,-,-,-,hb5⟩;have hq5:Below W4.heap.size W4 w5:=(by go_split_ands;exact Below.trans (by assumption) (Below.mono hb5 (Below.size (by assumption)))))
    | (go_at_call 67;refine (HSA.out _ s5 hq5 hA5).mono ?_;rintro e w6 ⟨rfl,hb6⟩;have hq6:Below W4.heap.size W4 w6:=hq5.trans (hb6.mono hq5.size)))
  have hO6:=HO4.out.go hq6;have hX6:=jak hq6 (Nat.le_refl _) HX4.out;obtain⟨u0,u1,u2⟩:=cl3 hX6;obtain⟨p0,p1,p2⟩:=cl3 hO6.res;obtain⟨f0,f1,f2⟩:=cz3 hO6.res;clear HQ4 HSK HSA hX6 hb6 hb5 hA5 hq5 hq6 HO4 HX4
  cases sm with
  | false =>
   go_wp2_with fail;rw[HBR.out,HSM.out,Bool.true_and];exact jaU hO6 rfl rfl
  | true =>
   go_wp2_with fail;have h9:=fun tm=>jeV (body:=.iface 244 (.agg #[.int .i64 x.gf,.slice s.ga s.gl s.gc])) (tm:=tm) hO6
   rw[HK.out] at h9;rw[HBR.out,HSM.out,Bool.true_and];exact h9 _ rfl rfl
set_option maxRecDepth 100000 in
set_option maxHeartbeats 4000000 in
theorem jlT (x:Sk) (s:SS) (body:Value) (w:World) (hx:s.At w.heap.size w x) (hk:x.kind=1) (hl:x.level<0) :
  Calls Tryz.prog 88 #[.agg #[.int .i64 x.kind,.int .i64 x.level,.slice s.ea s.el s.ec,.int .i64 x.hb,.string x.hr,.int .i64 x.cr,.int .i64 x.cc,.slice s.ca s.cl s.cc,.int .i64 x.gf,.slice s.ga s.gl s.gc]] w (jbz false body x w):=by
 obtain⟨W0,hW0,hO⟩:=jcO hx;have HO:=Lib.hid hO;have HK:=Lib.hid hk;rw[hk] at hW0 ⊢;have t1:decide (x.level<0)=true:=by simpa using hl
 clear hx hO hk;go_enter Tryz.func88,Tryz.ntmps88;go_wp2_with fail;clear hW0;have c0:W0.cell? ⟨w.heap.size,0,none⟩=some (.int .i64 1):=by rw[<- HK.out];exact cCc HO.out.box 0
 have q0:∀ W,Below W0.heap.size W0 W->W.cell? ⟨w.heap.size,0,none⟩=some (.int .i64 1)/\Below W0.heap.size W0 W:=fun W h=>⟨by rw[<- HK.out];exact cCc (HO.out.go h).box 0,h⟩
 have HQ:=Lib.hid q0;clear q0
 go_region_held3 (fun w'=>w'.cell? ⟨w.heap.size,0,none⟩=some (.int .i64 1)/\Below W0.heap.size W0 w')
  (first
   | exact HQ.out _ (Below.refl _ _).drew
   | (go_split_ands;refine HQ.out _ ?_;first | assumption | exact Below.trans (by assumption) (Below.mono (by assumption) (Below.size (by assumption)))))
  (first
   | (go_at_call 135;refine (jb9 _).mono ?_;rintro e w1 ⟨r,rfl,hr,hb1⟩;have hlk:=jk0 hr;have hq1:Below W0.heap.size W0 w1:=(by go_split_ands;exact Below.trans (by assumption) (Below.mono hb1 (Below.size (by assumption))))))
 have hO1:=HO.out.go hq1;have d0:w1.cell? ⟨w.heap.size,0,none⟩=some (.int .i64 1):=by rw[<- HK.out];exact cCc hO1.box 0
 have d1:w1.cell? ⟨w.heap.size,1,none⟩=some (.int .i64 x.level):=cCc hO1.box 1;clear hlk hr hb1 c0;go_wp2_with fail;go_quiet (fail);obtain⟨p0,p1,p2⟩:=cl3 hO1.res;obtain⟨f0,f1,f2⟩:=cz3 hO1.res;go_wp2_with fail;exact jaU (hO1.go (bDr (Below.refl _ _) _)) rfl rfl
set_option maxRecDepth 100000 in
set_option maxHeartbeats 4000000 in
theorem jlU (x:Sk) (s:SS) (body:Value) (w:World) (hx:s.At w.heap.size w x) (hk:x.kind=1) (hl:4<x.level) :
  Calls Tryz.prog 88 #[.agg #[.int .i64 x.kind,.int .i64 x.level,.slice s.ea s.el s.ec,.int .i64 x.hb,.string x.hr,.int .i64 x.cr,.int .i64 x.cc,.slice s.ca s.cl s.cc,.int .i64 x.gf,.slice s.ga s.gl s.gc]] w (jbz false body x w):=by
 obtain⟨W0,hW0,hO⟩:=jcO hx;have HO:=Lib.hid hO;have HK:=Lib.hid hk;rw[hk] at hW0 ⊢;have t1:decide (x.level<0)=false:=by simp;omega
 have t2:decide ((4:Int)<x.level)=true:=by simpa using hl
 have hbt:∀ w,Calls Tryz.prog 48 #[.int .i64 1] w fun e w'=>e=.returned (.int .i64 4)/\w'=w:=fun w=>(jbi 1 w).mono fun e w' ⟨h1,h2⟩=>⟨h1,h2.symm⟩
 have HBT:=Lib.hid hbt;clear hbt;clear hx hO hk;go_enter Tryz.func88,Tryz.ntmps88;go_wp2_with fail;clear hW0;have c0:W0.cell? ⟨w.heap.size,0,none⟩=some (.int .i64 1):=by rw[<- HK.out];exact cCc HO.out.box 0
 have q0:∀ W,Below W0.heap.size W0 W->W.cell? ⟨w.heap.size,0,none⟩=some (.int .i64 1)/\Below W0.heap.size W0 W:=fun W h=>⟨by rw[<- HK.out];exact cCc (HO.out.go h).box 0,h⟩
 have HQ:=Lib.hid q0;clear q0
 go_region_held3 (fun w'=>w'.cell? ⟨w.heap.size,0,none⟩=some (.int .i64 1)/\Below W0.heap.size W0 w')
  (first
   | exact HQ.out _ (Below.refl _ _).drew
   | (go_split_ands;refine HQ.out _ ?_;first | assumption | exact Below.trans (by assumption) (Below.mono (by assumption) (Below.size (by assumption)))))
  (first
   | (go_at_call 135;refine (jb9 _).mono ?_;rintro e w1 ⟨r,rfl,hr,hb1⟩;have hlk:=jk0 hr;have hq1:Below W0.heap.size W0 w1:=(by go_split_ands;exact Below.trans (by assumption) (Below.mono hb1 (Below.size (by assumption))))))
 have hO1:=HO.out.go hq1;have d0:w1.cell? ⟨w.heap.size,0,none⟩=some (.int .i64 1):=by rw[<- HK.out];exact cCc hO1.box 0
 have d1:w1.cell? ⟨w.heap.size,1,none⟩=some (.int .i64 x.level):=cCc hO1.box 1;clear hlk hr hb1 c0;go_wp2_with fail;go_quiet ((go_at_call 48;exact Calls.quiet_of_same (HBT.out _)));obtain⟨p0,p1,p2⟩:=cl3 hO1.res;obtain⟨f0,f1,f2⟩:=cz3 hO1.res;go_wp2_with fail;exact jaU (hO1.go (bDr (Below.refl _ _) _)) rfl rfl
set_option maxRecDepth 100000 in
set_option maxHeartbeats 4000000 in
theorem jlV (x:Sk) (s:SS) (body:Value) (w:World) (hx:s.At w.heap.size w x) (hk:x.kind=2) (hl:x.level<0) :
  Calls Tryz.prog 88 #[.agg #[.int .i64 x.kind,.int .i64 x.level,.slice s.ea s.el s.ec,.int .i64 x.hb,.string x.hr,.int .i64 x.cr,.int .i64 x.cc,.slice s.ca s.cl s.cc,.int .i64 x.gf,.slice s.ga s.gl s.gc]] w (jbz false body x w):=by
 obtain⟨W0,hW0,hO⟩:=jcO hx;have HO:=Lib.hid hO;have HK:=Lib.hid hk;rw[hk] at hW0 ⊢;have t1:decide (x.level<0)=true:=by simpa using hl
 clear hx hO hk;go_enter Tryz.func88,Tryz.ntmps88;go_wp2_with fail;clear hW0;have c0:W0.cell? ⟨w.heap.size,0,none⟩=some (.int .i64 2):=by rw[<- HK.out];exact cCc HO.out.box 0
 have q0:∀ W,Below W0.heap.size W0 W->W.cell? ⟨w.heap.size,0,none⟩=some (.int .i64 2)/\Below W0.heap.size W0 W:=fun W h=>⟨by rw[<- HK.out];exact cCc (HO.out.go h).box 0,h⟩
 have HQ:=Lib.hid q0;clear q0
 go_region_held3 (fun w'=>w'.cell? ⟨w.heap.size,0,none⟩=some (.int .i64 2)/\Below W0.heap.size W0 w')
  (first
   | exact HQ.out _ (Below.refl _ _).drew
   | (go_split_ands;refine HQ.out _ ?_;first | assumption | exact Below.trans (by assumption) (Below.mono (by assumption) (Below.size (by assumption)))))
  (first
   | (go_at_call 135;refine (jb9 _).mono ?_;rintro e w1 ⟨r,rfl,hr,hb1⟩;have hlk:=jnk hr;have hq1:Below W0.heap.size W0 w1:=(by go_split_ands;exact Below.trans (by assumption) (Below.mono hb1 (Below.size (by assumption))))))
 have hO1:=HO.out.go hq1;have d0:w1.cell? ⟨w.heap.size,0,none⟩=some (.int .i64 2):=by rw[<- HK.out];exact cCc hO1.box 0
 have d1:w1.cell? ⟨w.heap.size,1,none⟩=some (.int .i64 x.level):=cCc hO1.box 1;clear hlk hr hb1 c0;go_wp2_with fail;go_quiet (fail);obtain⟨p0,p1,p2⟩:=cl3 hO1.res;obtain⟨f0,f1,f2⟩:=cz3 hO1.res;go_wp2_with fail;exact jaU (hO1.go (bDr (Below.refl _ _) _)) rfl rfl
set_option maxRecDepth 100000 in
set_option maxHeartbeats 4000000 in
theorem jlW (x:Sk) (s:SS) (body:Value) (w:World) (hx:s.At w.heap.size w x) (hk:x.kind=2) (hl:3<x.level) :
  Calls Tryz.prog 88 #[.agg #[.int .i64 x.kind,.int .i64 x.level,.slice s.ea s.el s.ec,.int .i64 x.hb,.string x.hr,.int .i64 x.cr,.int .i64 x.cc,.slice s.ca s.cl s.cc,.int .i64 x.gf,.slice s.ga s.gl s.gc]] w (jbz false body x w):=by
 obtain⟨W0,hW0,hO⟩:=jcO hx;have HO:=Lib.hid hO;have HK:=Lib.hid hk;rw[hk] at hW0 ⊢;have t1:decide (x.level<0)=false:=by simp;omega
 have t2:decide ((3:Int)<x.level)=true:=by simpa using hl
 have hbt:∀ w,Calls Tryz.prog 48 #[.int .i64 2] w fun e w'=>e=.returned (.int .i64 3)/\w'=w:=fun w=>(jbi 2 w).mono fun e w' ⟨h1,h2⟩=>⟨h1,h2.symm⟩
 have HBT:=Lib.hid hbt;clear hbt;clear hx hO hk;go_enter Tryz.func88,Tryz.ntmps88;go_wp2_with fail;clear hW0;have c0:W0.cell? ⟨w.heap.size,0,none⟩=some (.int .i64 2):=by rw[<- HK.out];exact cCc HO.out.box 0
 have q0:∀ W,Below W0.heap.size W0 W->W.cell? ⟨w.heap.size,0,none⟩=some (.int .i64 2)/\Below W0.heap.size W0 W:=fun W h=>⟨by rw[<- HK.out];exact cCc (HO.out.go h).box 0,h⟩
 have HQ:=Lib.hid q0;clear q0
 go_region_held3 (fun w'=>w'.cell? ⟨w.heap.size,0,none⟩=some (.int .i64 2)/\Below W0.heap.size W0 w')
  (first
   | exact HQ.out _ (Below.refl _ _).drew
   | (go_split_ands;refine HQ.out _ ?_;first | assumption | exact Below.trans (by assumption) (Below.mono (by assumption) (Below.size (by assumption)))))
  (first
   | (go_at_call 135;refine (jb9 _).mono ?_;rintro e w1 ⟨r,rfl,hr,hb1⟩;have hlk:=jnk hr;have hq1:Below W0.heap.size W0 w1:=(by go_split_ands;exact Below.trans (by assumption) (Below.mono hb1 (Below.size (by assumption))))))
 have hO1:=HO.out.go hq1;have d0:w1.cell? ⟨w.heap.size,0,none⟩=some (.int .i64 2):=by rw[<- HK.out];exact cCc hO1.box 0
 have d1:w1.cell? ⟨w.heap.size,1,none⟩=some (.int .i64 x.level):=cCc hO1.box 1;clear hlk hr hb1 c0;go_wp2_with fail;go_quiet ((go_at_call 48;exact Calls.quiet_of_same (HBT.out _)));obtain⟨p0,p1,p2⟩:=cl3 hO1.res;obtain⟨f0,f1,f2⟩:=cz3 hO1.res;go_wp2_with fail;exact jaU (hO1.go (bDr (Below.refl _ _) _)) rfl rfl
set_option maxRecDepth 100000 in
set_option maxHeartbeats 4000000 in
theorem jlX (x:Sk) (s:SS) (body:Value) (w:World) (hx:s.At w.heap.size w x) (hk:x.kind=3) (hl:x.level<0) :
  Calls Tryz.prog 88 #[.agg #[.int .i64 x.kind,.int .i64 x.level,.slice s.ea s.el s.ec,.int .i64 x.hb,.string x.hr,.int .i64 x.cr,.int .i64 x.cc,.slice s.ca s.cl s.cc,.int .i64 x.gf,.slice s.ga s.gl s.gc]] w (jbz false body x w):=by
 obtain⟨W0,hW0,hO⟩:=jcO hx;have HO:=Lib.hid hO;have HK:=Lib.hid hk;rw[hk] at hW0 ⊢;have t1:decide (x.level<0)=true:=by simpa using hl
 clear hx hO hk;go_enter Tryz.func88,Tryz.ntmps88;go_wp2_with fail;clear hW0;have c0:W0.cell? ⟨w.heap.size,0,none⟩=some (.int .i64 3):=by rw[<- HK.out];exact cCc HO.out.box 0
 have q0:∀ W,Below W0.heap.size W0 W->W.cell? ⟨w.heap.size,0,none⟩=some (.int .i64 3)/\Below W0.heap.size W0 W:=fun W h=>⟨by rw[<- HK.out];exact cCc (HO.out.go h).box 0,h⟩
 have HQ:=Lib.hid q0;clear q0
 go_region_held3 (fun w'=>w'.cell? ⟨w.heap.size,0,none⟩=some (.int .i64 3)/\Below W0.heap.size W0 w')
  (first
   | exact HQ.out _ (Below.refl _ _).drew
   | (go_split_ands;refine HQ.out _ ?_;first | assumption | exact Below.trans (by assumption) (Below.mono (by assumption) (Below.size (by assumption)))))
  (first
   | (go_at_call 135;refine (jb9 _).mono ?_;rintro e w1 ⟨r,rfl,hr,hb1⟩;have hlk:=jnl hr;have hq1:Below W0.heap.size W0 w1:=(by go_split_ands;exact Below.trans (by assumption) (Below.mono hb1 (Below.size (by assumption))))))
 have hO1:=HO.out.go hq1;have d0:w1.cell? ⟨w.heap.size,0,none⟩=some (.int .i64 3):=by rw[<- HK.out];exact cCc hO1.box 0
 have d1:w1.cell? ⟨w.heap.size,1,none⟩=some (.int .i64 x.level):=cCc hO1.box 1;clear hlk hr hb1 c0;go_wp2_with fail;go_quiet (fail);obtain⟨p0,p1,p2⟩:=cl3 hO1.res;obtain⟨f0,f1,f2⟩:=cz3 hO1.res;go_wp2_with fail;exact jaU (hO1.go (bDr (Below.refl _ _) _)) rfl rfl
set_option maxRecDepth 100000 in
set_option maxHeartbeats 4000000 in
theorem jlY (x:Sk) (s:SS) (body:Value) (w:World) (hx:s.At w.heap.size w x) (hk:x.kind=3) (hl:3<x.level) :
  Calls Tryz.prog 88 #[.agg #[.int .i64 x.kind,.int .i64 x.level,.slice s.ea s.el s.ec,.int .i64 x.hb,.string x.hr,.int .i64 x.cr,.int .i64 x.cc,.slice s.ca s.cl s.cc,.int .i64 x.gf,.slice s.ga s.gl s.gc]] w (jbz false body x w):=by
 obtain⟨W0,hW0,hO⟩:=jcO hx;have HO:=Lib.hid hO;have HK:=Lib.hid hk;rw[hk] at hW0 ⊢;have t1:decide (x.level<0)=false:=by simp;omega
 have t2:decide ((3:Int)<x.level)=true:=by simpa using hl
 have hbt:∀ w,Calls Tryz.prog 48 #[.int .i64 3] w fun e w'=>e=.returned (.int .i64 3)/\w'=w:=fun w=>(jbi 3 w).mono fun e w' ⟨h1,h2⟩=>⟨h1,h2.symm⟩
 have HBT:=Lib.hid hbt;clear hbt;clear hx hO hk;go_enter Tryz.func88,Tryz.ntmps88;go_wp2_with fail;clear hW0;have c0:W0.cell? ⟨w.heap.size,0,none⟩=some (.int .i64 3):=by rw[<- HK.out];exact cCc HO.out.box 0
 have q0:∀ W,Below W0.heap.size W0 W->W.cell? ⟨w.heap.size,0,none⟩=some (.int .i64 3)/\Below W0.heap.size W0 W:=fun W h=>⟨by rw[<- HK.out];exact cCc (HO.out.go h).box 0,h⟩
 have HQ:=Lib.hid q0;clear q0
 go_region_held3 (fun w'=>w'.cell? ⟨w.heap.size,0,none⟩=some (.int .i64 3)/\Below W0.heap.size W0 w')
  (first
   | exact HQ.out _ (Below.refl _ _).drew
   | (go_split_ands;refine HQ.out _ ?_;first | assumption | exact Below.trans (by assumption) (Below.mono (by assumption) (Below.size (by assumption)))))
  (first
   | (go_at_call 135;refine (jb9 _).mono ?_;rintro e w1 ⟨r,rfl,hr,hb1⟩;have hlk:=jnl hr;have hq1:Below W0.heap.size W0 w1:=(by go_split_ands;exact Below.trans (by assumption) (Below.mono hb1 (Below.size (by assumption))))))
 have hO1:=HO.out.go hq1;have d0:w1.cell? ⟨w.heap.size,0,none⟩=some (.int .i64 3):=by rw[<- HK.out];exact cCc hO1.box 0
 have d1:w1.cell? ⟨w.heap.size,1,none⟩=some (.int .i64 x.level):=cCc hO1.box 1;clear hlk hr hb1 c0;go_wp2_with fail;go_quiet ((go_at_call 48;exact Calls.quiet_of_same (HBT.out _)));obtain⟨p0,p1,p2⟩:=cl3 hO1.res;obtain⟨f0,f1,f2⟩:=cz3 hO1.res;go_wp2_with fail;exact jaU (hO1.go (bDr (Below.refl _ _) _)) rfl rfl
def ja3 (x:Sk):Sk:=if x.kind==1 then (if x.level==0 then jcD 1 x.level x.e else jb4 1 x.level x.hb x.hr) else if x.kind==2 then jbA 2 x.level x.cr x.cc x.cl else jck 3 x.level x.gf x.gl
def jcd (x:Sk):Bool:=decide (1<=x.kind)&&decide (x.kind<=3)&&(decide (0<=x.level)&&decide (x.level<=jal x.kind))&&(jaG x&&jay x (ja3 x))
def jb2 (x:Sk) (s:SS):Value :=
 if x.kind==1 then (if x.level==0 then .iface 239 (.agg #[.slice s.ea s.el s.ec]) else .iface 241 (.agg #[.int .i64 x.hb,.string x.hr]))
 else if x.kind==2 then .iface 242 (.agg #[.int .i64 x.cr,.int .i64 x.cc,.slice s.ca s.cl s.cc]) else .iface 244 (.agg #[.int .i64 x.gf,.slice s.ga s.gl s.gc])
theorem jjB (x:Sk) (s:SS):∃ T v,jb2 x s=.iface T v:=by
 unfold jb2;split
 ·split<;>exact⟨_,_,rfl⟩
 ·split<;>exact⟨_,_,rfl⟩
def SS.Short (s:SS):Prop:=s.el<2147483648/\s.cl<2147483648/\s.gl<2147483648
def Sk.fit (x:Sk):Prop:=∀ b∈x.gl,b.1<=9223372036854775807
theorem jdy (x:Sk) (s:SS) (w:World) (hx:s.At w.heap.size w x) (hs:s.Short) (hf:x.fit) :
  Calls Tryz.prog 88 #[.agg #[.int .i64 x.kind,.int .i64 x.level,.slice s.ea s.el s.ec,.int .i64 x.hb,.string x.hr,.int .i64 x.cr,.int .i64 x.cc,.slice s.ca s.cl s.cc,.int .i64 x.gf,.slice s.ga s.gl s.gc]] w (jbz (jcd x) (jb2 x s) x w):=by
 obtain⟨hs1,hs2,hs3⟩:=hs;by_cases k1:x.kind=1
 ·have hb:jal x.kind=4:=by rw[k1];rfl
  by_cases l0:x.level<0
  ·have:jcd x=false:=by unfold jcd;rw[decide_eq_false (show ¬ 0<=x.level by omega)];simp
   rw[this];exact jlT x s _ w hx k1 l0
  by_cases l4:4<x.level
  ·have:jcd x=false:=by unfold jcd;rw[hb,decide_eq_false (show ¬ x.level<=4 by omega)];simp
   rw[this];exact jlU x s _ w hx k1 l4
  have hk:(x.kind==1)=true:=beq_iff_eq.2 k1;have hok:jcd x=(jaG x&&jay x (ja3 x)):=by unfold jcd;rw[hb,k1,decide_eq_true (show 0<=x.level by omega),decide_eq_true (show x.level<=4 by omega)];simp
  cases h0:(x.level==0) with
  | true =>
   have e1:jaG x=ja9 x.e:=by unfold jaG;rw[hk,h0];rfl
   have e2:ja3 x=jcD 1 x.level x.e:=by unfold ja3;rw[hk,h0];rfl
   have e3:jb2 x s=.iface 239 (.agg #[.slice s.ea s.el s.ec]):=by unfold jb2;rw[hk,h0];rfl
   rw[hok,e1,e2,e3];exact jpD x s w hx k1 h0 hs1
  | false =>
   have e1:jaG x=(jaR x.hb x.hr&&(x.hb==8-x.level)):=by unfold jaG;rw[hk,h0];rfl
   have e2:ja3 x=jb4 1 x.level x.hb x.hr:=by unfold ja3;rw[hk,h0];rfl
   have e3:jb2 x s=.iface 241 (.agg #[.int .i64 x.hb,.string x.hr]):=by unfold jb2;rw[hk,h0];rfl
   rw[hok,e1,e2,e3];exact jpE x s w hx k1 h0 (by omega) (by omega)
 by_cases k2:x.kind=2
 ·have hb:jal x.kind=3:=by rw[k2];rfl
  by_cases l0:x.level<0
  ·have:jcd x=false:=by unfold jcd;rw[decide_eq_false (show ¬ 0<=x.level by omega)];simp
   rw[this];exact jlV x s _ w hx k2 l0
  by_cases l4:3<x.level
  ·have:jcd x=false:=by unfold jcd;rw[hb,decide_eq_false (show ¬ x.level<=3 by omega)];simp
   rw[this];exact jlW x s _ w hx k2 l4
  have hk1:(x.kind==1)=false:=beq_eq_false_iff_ne.2 k1;have hk:(x.kind==2)=true:=beq_iff_eq.2 k2;have hok:jcd x=(jaG x&&jay x (ja3 x)):=by unfold jcd;rw[hb,k2,decide_eq_true (show 0<=x.level by omega),decide_eq_true (show x.level<=3 by omega)];simp
  have e1:jaG x=(jaN x.cr x.cc x.cl&&(x.cr==2)&&(x.cc==32 / 2^x.level.toNat)):=by unfold jaG;rw[hk1,hk];rfl
  have e2:ja3 x=jbA 2 x.level x.cr x.cc x.cl:=by unfold ja3;rw[hk1,hk];rfl
  have e3:jb2 x s=.iface 242 (.agg #[.int .i64 x.cr,.int .i64 x.cc,.slice s.ca s.cl s.cc]):=by unfold jb2;rw[hk1,hk];rfl
  rw[hok,e1,e2,e3];exact jpC x s w hx k2 (by omega) (by omega) hs2
 by_cases k3:x.kind=3
 ·have hb:jal x.kind=3:=by rw[k3];rfl
  by_cases l0:x.level<0
  ·have:jcd x=false:=by unfold jcd;rw[decide_eq_false (show ¬ 0<=x.level by omega)];simp
   rw[this];exact jlX x s _ w hx k3 l0
  by_cases l4:3<x.level
  ·have:jcd x=false:=by unfold jcd;rw[hb,decide_eq_false (show ¬ x.level<=3 by omega)];simp
   rw[this];exact jlY x s _ w hx k3 l4
  have hk1:(x.kind==1)=false:=beq_eq_false_iff_ne.2 k1;have hk:(x.kind==2)=false:=beq_eq_false_iff_ne.2 k2;have hok:jcd x=(jaG x&&jay x (ja3 x)):=by unfold jcd;rw[hb,k3,decide_eq_true (show 0<=x.level by omega),decide_eq_true (show x.level<=3 by omega)];simp
  have e1:jaG x=(jaX x.gf x.gl&&(x.gf==3-x.level)):=by unfold jaG;rw[hk1,hk];rfl
  have e2:ja3 x=jck 3 x.level x.gf x.gl:=by unfold ja3;rw[hk1,hk];rfl
  have e3:jb2 x s=.iface 244 (.agg #[.int .i64 x.gf,.slice s.ga s.gl s.gc]):=by unfold jb2;rw[hk1,hk];rfl
  rw[hok,e1,e2,e3];exact jpB x s w hx k3 (by omega) (by omega) hs3 hf
 ·have:jcd x=false:=by
   unfold jcd;have:(decide (1<=x.kind)&&decide (x.kind<=3))=false:=by rw[Bool.and_eq_false_iff,decide_eq_false_iff_not,decide_eq_false_iff_not];omega
   rw[this];rfl
  rw[this];exact jnB x s _ w hx (beq_eq_false_iff_ne.2 k1) (beq_eq_false_iff_ne.2 k2) (beq_eq_false_iff_ne.2 k3)
set_option maxRecDepth 100000 in
set_option maxHeartbeats 1000000 in
theorem jfD (x:Sk) (s:SS) (w:World) (hx:s.At w.heap.size w x) (hs:s.Short) (hf:x.fit) :
  Calls Tryz.prog 127 #[.agg #[.int .i64 x.kind,.int .i64 x.level,.slice s.ea s.el s.ec,.int .i64 x.hb,.string x.hr,.int .i64 x.cr,.int .i64 x.cc,.slice s.ca s.cl s.cc,.int .i64 x.gf,.slice s.ga s.gl s.gc]] w fun e w'=>e=.returned (.bool (jcd x))/\Below w.heap.size w w':=by
 obtain⟨W0,hW0,hX0,hB0,hs0⟩:=jah w #[.int .i64 x.kind,.int .i64 x.level,.slice s.ea s.el s.ec,.int .i64 x.hb,.string x.hr,.int .i64 x.cr,.int .i64 x.cc,.slice s.ca s.cl s.cc,.int .i64 x.gf,.slice s.ga s.gl s.gc] 50;obtain⟨c0,c1,c2,c3,c4,c5,c6,c7,c8,c9⟩:=jaL hX0;have hO:=jdy x s W0 (hx.go hB0) hs hf;clear hx hX0 hs0;go_enter Tryz.func127,Tryz.ntmps127;go_wp2_with fail;refine hO.mono ?_;rintro e w1 ⟨he,hb1⟩;clear hW0 hO c0 c1 c2 c3 c4 c5 c6 c7 c8 c9;have hB1:=hB0.trans (hb1.mono hB0.size);generalize hok:jcd x=ok at he;have HOK:=Lib.hid hok;clear hok
 cases ok with
 | true =>
  obtain⟨T,v,hbv⟩:=jjB x s;rw[hbv] at he;clear hbv;obtain rfl:=(show e=_ from he);clear he;go_wp2_with fail;go_ret;exact⟨by rw[HOK.out];rfl,hB1.alloc hB1.size _⟩
 | false =>
  obtain⟨b,rfl,-,-⟩:=(show ∃ b,_ from he);go_wp2_with fail;go_ret;exact⟨by rw[HOK.out];rfl,hB1.alloc hB1.size _⟩
theorem jo4 (a:Option Addr) (n c:Nat) (w:World) (hn:n<2147483648):Calls Tryz.prog 253 #[.agg #[.slice a n c]] w fun e w'=>e=.returned (.int .i64 (8*n))/\Below w.heap.size w w':=by
 go_enter Tryz.func253,Tryz.ntmps253;go_wp2;go_ret;exact⟨rfl,(Below.refl _ w).alloc (Nat.le_refl _) _⟩
theorem jo5 (b:Int) (r:ByteArray) (w:World):Calls Tryz.prog 281 #[.agg #[.int .i64 b,.string r]] w fun e w'=>e=.returned (.int .i64 r.size)/\Below w.heap.size w w':=by
 go_enter Tryz.func281,Tryz.ntmps281;go_wp2;go_ret;exact⟨rfl,(Below.refl _ w).alloc (Nat.le_refl _) _⟩
theorem jo3 (r k:Int) (a:Option Addr) (n c:Nat) (w:World) (hn:n<2147483648):Calls Tryz.prog 289 #[.agg #[.int .i64 r,.int .i64 k,.slice a n c]] w fun e w'=>e=.returned (.int .i64 (8*n))/\Below w.heap.size w w':=by
 go_enter Tryz.func289,Tryz.ntmps289;go_wp2;go_ret;exact⟨rfl,(Below.refl _ w).alloc (Nat.le_refl _) _⟩
theorem jo2 (f:Int) (a:Option Addr) (n c:Nat) (w:World) (hn:n<2147483648):Calls Tryz.prog 303 #[.agg #[.int .i64 f,.slice a n c]] w fun e w'=>e=.returned (.int .i64 (16*n))/\Below w.heap.size w w':=by
 go_enter Tryz.func303,Tryz.ntmps303;go_wp2;go_ret;exact⟨rfl,(Below.refl _ w).alloc (Nat.le_refl _) _⟩
theorem jig (a : Option Addr) (n c : Nat) (w : World) : (method 509 239 (.agg #[.slice a n c]) "aviary/ladder.cost").run Tryz.prog w = .ok (253, .agg #[.slice a n c]) w := by kernel_rfl
theorem jih (b : Int) (r : ByteArray) (w : World) : (method 509 241 (.agg #[.int .i64 b, .string r]) "aviary/ladder.cost").run Tryz.prog w = .ok (281, .agg #[.int .i64 b, .string r]) w := by kernel_rfl
theorem jif (r k : Int) (a : Option Addr) (n c : Nat) (w : World) : (method 509 242 (.agg #[.int .i64 r, .int .i64 k, .slice a n c]) "aviary/ladder.cost").run Tryz.prog w = .ok (289, .agg #[.int .i64 r, .int .i64 k, .slice a n c]) w := by kernel_rfl
theorem jie (f : Int) (a : Option Addr) (n c : Nat) (w : World) : (method 509 244 (.agg #[.int .i64 f, .slice a n c]) "aviary/ladder.cost").run Tryz.prog w = .ok (303, .agg #[.int .i64 f, .slice a n c]) w := by kernel_rfl
set_option maxRecDepth 100000 in
set_option maxHeartbeats 1000000 in
theorem jol (x:Sk) (s:SS) (w:World) (hx:s.At w.heap.size w x) (hs:s.Short) (hf:x.fit) (hok:jcd x=true) (hb:jb2 x s=.iface 239 (.agg #[.slice s.ea s.el s.ec])) :
  Calls Tryz.prog 80 #[.agg #[.int .i64 x.kind,.int .i64 x.level,.slice s.ea s.el s.ec,.int .i64 x.hb,.string x.hr,.int .i64 x.cr,.int .i64 x.cc,.slice s.ca s.cl s.cc,.int .i64 x.gf,.slice s.ga s.gl s.gc]] w fun e w'=>e=.returned (.int .i64 (8*(s.el:Int)+16))/\Below w.heap.size w w':=by
 obtain⟨W0,hW0,hX0,hB0,hs0⟩:=jah w #[.int .i64 x.kind,.int .i64 x.level,.slice s.ea s.el s.ec,.int .i64 x.hb,.string x.hr,.int .i64 x.cr,.int .i64 x.cc,.slice s.ca s.cl s.cc,.int .i64 x.gf,.slice s.ga s.gl s.gc] 50;obtain⟨c0,c1,c2,c3,c4,c5,c6,c7,c8,c9⟩:=jaL hX0;have hO:=jdy x s W0 (hx.go hB0) hs hf;rw[hok,hb] at hO;obtain⟨hs1,hs2,hs3⟩:=hs;clear hx hX0 hs0 hok hb;go_enter Tryz.func80,Tryz.ntmps80;go_wp2_with fail;refine hO.mono ?_;rintro e w1 ⟨he,hb1⟩;obtain rfl:=(show e=_ from he);clear he hW0 hO c0 c1 c2 c3 c4 c5 c6 c7 c8 c9;have hB1:=hB0.trans (hb1.mono hB0.size);have hm:=jig s.ea s.el s.ec;obtain⟨W2,hW2,-,hB2,-⟩:=jah w1 #[.iface 239 (.agg #[.slice s.ea s.el s.ec]),.int .i64 x.kind,.int .i64 x.level] 122;have HW:=Lib.hid hW2;clear hW2;go_wp2_with fail;rw[HW.out];refine (jo4 s.ea s.el s.ec W2 hs1).mono ?_;rintro e w3 ⟨rfl,hb3⟩;clear HW hm;go_wp2_with fail;go_ret;exact⟨rfl,hB1.trans ((hB2.trans (hb3.mono hB2.size)).mono hB1.size)⟩
set_option maxRecDepth 100000 in
set_option maxHeartbeats 1000000 in
theorem jom (x:Sk) (s:SS) (w:World) (hx:s.At w.heap.size w x) (hs:s.Short) (hf:x.fit) (hr:x.hr.size<2147483648) (hok:jcd x=true) (hb:jb2 x s=.iface 241 (.agg #[.int .i64 x.hb,.string x.hr])) :
  Calls Tryz.prog 80 #[.agg #[.int .i64 x.kind,.int .i64 x.level,.slice s.ea s.el s.ec,.int .i64 x.hb,.string x.hr,.int .i64 x.cr,.int .i64 x.cc,.slice s.ca s.cl s.cc,.int .i64 x.gf,.slice s.ga s.gl s.gc]] w fun e w'=>e=.returned (.int .i64 ((x.hr.size:Int)+16))/\Below w.heap.size w w':=by
 obtain⟨W0,hW0,hX0,hB0,hs0⟩:=jah w #[.int .i64 x.kind,.int .i64 x.level,.slice s.ea s.el s.ec,.int .i64 x.hb,.string x.hr,.int .i64 x.cr,.int .i64 x.cc,.slice s.ca s.cl s.cc,.int .i64 x.gf,.slice s.ga s.gl s.gc] 50;obtain⟨c0,c1,c2,c3,c4,c5,c6,c7,c8,c9⟩:=jaL hX0;have hO:=jdy x s W0 (hx.go hB0) hs hf;rw[hok,hb] at hO;obtain⟨hs1,hs2,hs3⟩:=hs;clear hx hX0 hs0 hok hb;go_enter Tryz.func80,Tryz.ntmps80;go_wp2_with fail;refine hO.mono ?_;rintro e w1 ⟨he,hb1⟩;obtain rfl:=(show e=_ from he);clear he hW0 hO c0 c1 c2 c3 c4 c5 c6 c7 c8 c9;have hB1:=hB0.trans (hb1.mono hB0.size);have hm:=jih x.hb x.hr;obtain⟨W2,hW2,-,hB2,-⟩:=jah w1 #[.iface 241 (.agg #[.int .i64 x.hb,.string x.hr]),.int .i64 x.kind,.int .i64 x.level] 122;have HW:=Lib.hid hW2;clear hW2;go_wp2_with fail;rw[HW.out];refine (jo5 x.hb x.hr W2).mono ?_;rintro e w3 ⟨rfl,hb3⟩;clear HW hm;go_wp2_with fail;go_ret;exact⟨rfl,hB1.trans ((hB2.trans (hb3.mono hB2.size)).mono hB1.size)⟩
set_option maxRecDepth 100000 in
set_option maxHeartbeats 1000000 in
theorem jok (x:Sk) (s:SS) (w:World) (hx:s.At w.heap.size w x) (hs:s.Short) (hf:x.fit) (hok:jcd x=true) (hb:jb2 x s=.iface 242 (.agg #[.int .i64 x.cr,.int .i64 x.cc,.slice s.ca s.cl s.cc])) :
  Calls Tryz.prog 80 #[.agg #[.int .i64 x.kind,.int .i64 x.level,.slice s.ea s.el s.ec,.int .i64 x.hb,.string x.hr,.int .i64 x.cr,.int .i64 x.cc,.slice s.ca s.cl s.cc,.int .i64 x.gf,.slice s.ga s.gl s.gc]] w fun e w'=>e=.returned (.int .i64 (8*(s.cl:Int)+16))/\Below w.heap.size w w':=by
 obtain⟨W0,hW0,hX0,hB0,hs0⟩:=jah w #[.int .i64 x.kind,.int .i64 x.level,.slice s.ea s.el s.ec,.int .i64 x.hb,.string x.hr,.int .i64 x.cr,.int .i64 x.cc,.slice s.ca s.cl s.cc,.int .i64 x.gf,.slice s.ga s.gl s.gc] 50;obtain⟨c0,c1,c2,c3,c4,c5,c6,c7,c8,c9⟩:=jaL hX0;have hO:=jdy x s W0 (hx.go hB0) hs hf;rw[hok,hb] at hO;obtain⟨hs1,hs2,hs3⟩:=hs;clear hx hX0 hs0 hok hb;go_enter Tryz.func80,Tryz.ntmps80;go_wp2_with fail;refine hO.mono ?_;rintro e w1 ⟨he,hb1⟩;obtain rfl:=(show e=_ from he);clear he hW0 hO c0 c1 c2 c3 c4 c5 c6 c7 c8 c9;have hB1:=hB0.trans (hb1.mono hB0.size);have hm:=jif x.cr x.cc s.ca s.cl s.cc;obtain⟨W2,hW2,-,hB2,-⟩:=jah w1 #[.iface 242 (.agg #[.int .i64 x.cr,.int .i64 x.cc,.slice s.ca s.cl s.cc]),.int .i64 x.kind,.int .i64 x.level] 122;have HW:=Lib.hid hW2;clear hW2;go_wp2_with fail;rw[HW.out];refine (jo3 x.cr x.cc s.ca s.cl s.cc W2 hs2).mono ?_;rintro e w3 ⟨rfl,hb3⟩;clear HW hm;go_wp2_with fail;go_ret;exact⟨rfl,hB1.trans ((hB2.trans (hb3.mono hB2.size)).mono hB1.size)⟩
set_option maxRecDepth 100000 in
set_option maxHeartbeats 1000000 in
theorem joj (x:Sk) (s:SS) (w:World) (hx:s.At w.heap.size w x) (hs:s.Short) (hf:x.fit) (hok:jcd x=true) (hb:jb2 x s=.iface 244 (.agg #[.int .i64 x.gf,.slice s.ga s.gl s.gc])) :
  Calls Tryz.prog 80 #[.agg #[.int .i64 x.kind,.int .i64 x.level,.slice s.ea s.el s.ec,.int .i64 x.hb,.string x.hr,.int .i64 x.cr,.int .i64 x.cc,.slice s.ca s.cl s.cc,.int .i64 x.gf,.slice s.ga s.gl s.gc]] w fun e w'=>e=.returned (.int .i64 (16*(s.gl:Int)+16))/\Below w.heap.size w w':=by
 obtain⟨W0,hW0,hX0,hB0,hs0⟩:=jah w #[.int .i64 x.kind,.int .i64 x.level,.slice s.ea s.el s.ec,.int .i64 x.hb,.string x.hr,.int .i64 x.cr,.int .i64 x.cc,.slice s.ca s.cl s.cc,.int .i64 x.gf,.slice s.ga s.gl s.gc] 50;obtain⟨c0,c1,c2,c3,c4,c5,c6,c7,c8,c9⟩:=jaL hX0;have hO:=jdy x s W0 (hx.go hB0) hs hf;rw[hok,hb] at hO;obtain⟨hs1,hs2,hs3⟩:=hs;clear hx hX0 hs0 hok hb;go_enter Tryz.func80,Tryz.ntmps80;go_wp2_with fail;refine hO.mono ?_;rintro e w1 ⟨he,hb1⟩;obtain rfl:=(show e=_ from he);clear he hW0 hO c0 c1 c2 c3 c4 c5 c6 c7 c8 c9;have hB1:=hB0.trans (hb1.mono hB0.size);have hm:=jie x.gf s.ga s.gl s.gc;obtain⟨W2,hW2,-,hB2,-⟩:=jah w1 #[.iface 244 (.agg #[.int .i64 x.gf,.slice s.ga s.gl s.gc]),.int .i64 x.kind,.int .i64 x.level] 122;have HW:=Lib.hid hW2;clear hW2;go_wp2_with fail;rw[HW.out];refine (jo2 x.gf s.ga s.gl s.gc W2 hs3).mono ?_;rintro e w3 ⟨rfl,hb3⟩;clear HW hm;go_wp2_with fail;go_ret;exact⟨rfl,hB1.trans ((hB2.trans (hb3.mono hB2.size)).mono hB1.size)⟩
def jbm (x:Sk):Int:=if jcd x then (if x.kind==1 then (if x.level==0 then 8*(x.e.length:Int) else (x.hr.size:Int)) else if x.kind==2 then 8*(x.cl.length:Int) else 16*(x.gl.length:Int))+16 else 0
set_option maxRecDepth 100000 in
set_option maxHeartbeats 1000000 in
theorem jgi (x:Sk) (s:SS) (w:World) (hx:s.At w.heap.size w x) (hs:s.Short) (hf:x.fit) (hr:x.hr.size<2147483648) :
  Calls Tryz.prog 80 #[.agg #[.int .i64 x.kind,.int .i64 x.level,.slice s.ea s.el s.ec,.int .i64 x.hb,.string x.hr,.int .i64 x.cr,.int .i64 x.cc,.slice s.ca s.cl s.cc,.int .i64 x.gf,.slice s.ga s.gl s.gc]] w fun e w'=>e=.returned (.int .i64 (jbm x))/\Below w.heap.size w w':=by
 cases hok:jcd x with
 | true =>
  cases k1:(x.kind==1) with
  | true =>
   cases l0:(x.level==0) with
   | true =>
    have e:jbm x=8*(s.el:Int)+16:=by unfold jbm;rw[hok,k1,l0,hx.e.1.1];rfl
    rw[e];exact jol x s w hx hs hf hok (by unfold jb2;rw[k1,l0];rfl)
   | false =>
    have e:jbm x=(x.hr.size:Int)+16:=by unfold jbm;rw[hok,k1,l0];rfl
    rw[e];exact jom x s w hx hs hf hr hok (by unfold jb2;rw[k1,l0];rfl)
  | false =>
   cases k2:(x.kind==2) with
   | true =>
    have e:jbm x=8*(s.cl:Int)+16:=by unfold jbm;rw[hok,k1,k2,hx.c.1.1];rfl
    rw[e];exact jok x s w hx hs hf hok (by unfold jb2;rw[k1,k2];rfl)
   | false =>
    have e:jbm x=16*(s.gl:Int)+16:=by unfold jbm;rw[hok,k1,k2,hx.g.1.1];rfl
    rw[e];exact joj x s w hx hs hf hok (by unfold jb2;rw[k1,k2];rfl)
 | false =>
  have HC:Hid (jbm x=0):=by unfold Hid jbm;rw[hok];rfl
  obtain⟨W0,hW0,hX0,hB0,hs0⟩:=jah w #[.int .i64 x.kind,.int .i64 x.level,.slice s.ea s.el s.ec,.int .i64 x.hb,.string x.hr,.int .i64 x.cr,.int .i64 x.cc,.slice s.ca s.cl s.cc,.int .i64 x.gf,.slice s.ga s.gl s.gc] 50;obtain⟨c0,c1,c2,c3,c4,c5,c6,c7,c8,c9⟩:=jaL hX0;have hO:=jdy x s W0 (hx.go hB0) hs hf;rw[hok] at hO;clear hx hX0 hs0 hok;go_enter Tryz.func80,Tryz.ntmps80;go_wp2_with fail;refine hO.mono ?_;rintro e w1 ⟨he,hb1⟩;obtain⟨b,rfl,-,-⟩:=(show ∃ b,_ from he);clear hW0 hO c0 c1 c2 c3 c4 c5 c6 c7 c8 c9;have hB1:=hB0.trans (hb1.mono hB0.size);go_wp2_with fail;go_ret;exact⟨by rw[HC.out];rfl,hB1.alloc hB1.size _⟩
end Go.Proofs.YtieknocphiceoaaGreatDoor
