/- The reference of layer 12: One, Same, of equal series and tables. Printed by gen_vs.py. aviarylaw13.QuotaFits answers true. -/
import Derived.Test.YtieknocphiceoaaGreatDoorZVI
namespace Go.Proofs.YtieknocphiceoaaGreatDoor
open Go Go.RowKit Go.Shelf
set_option maxRecDepth 100000 in
set_option maxHeartbeats 4000000 in
theorem jjx (x:Ser) (p q:SerP) (w:World) (hp:p.At w.heap.size w x) (hq:q.At w.heap.size w x) :
  Calls Tryz.prog 50 #[.agg #[.slice p.la p.ll p.lc,.int .i64 x.sk.kind,.int .i64 x.sk.level,.slice p.ss.ea p.ss.el p.ss.ec,.int .i64 x.sk.hb,.string x.sk.hr,.int .i64 x.sk.cr,.int .i64 x.sk.cc,.slice p.ss.ca p.ss.cl p.ss.cc,.int .i64 x.sk.gf,.slice p.ss.ga p.ss.gl p.ss.gc,.int .u64 x.seen],.agg #[.slice q.la q.ll q.lc,.int .i64 x.sk.kind,.int .i64 x.sk.level,.slice q.ss.ea q.ss.el q.ss.ec,.int .i64 x.sk.hb,.string x.sk.hr,.int .i64 x.sk.cr,.int .i64 x.sk.cc,.slice q.ss.ca q.ss.cl q.ss.cc,.int .i64 x.sk.gf,.slice q.ss.ga q.ss.gl q.ss.gc,.int .u64 x.seen]] w fun e w'=>e=.returned (.bool true)/\Below w.heap.size w w':=by
 obtain⟨W0,hW0,hX0,hX1,hB0,hs0⟩:=jaS w #[.slice p.la p.ll p.lc,.int .i64 x.sk.kind,.int .i64 x.sk.level,.slice p.ss.ea p.ss.el p.ss.ec,.int .i64 x.sk.hb,.string x.sk.hr,.int .i64 x.sk.cr,.int .i64 x.sk.cc,.slice p.ss.ca p.ss.cl p.ss.cc,.int .i64 x.sk.gf,.slice p.ss.ga p.ss.gl p.ss.gc,.int .u64 x.seen] 70 #[.slice q.la q.ll q.lc,.int .i64 x.sk.kind,.int .i64 x.sk.level,.slice q.ss.ea q.ss.el q.ss.ec,.int .i64 x.sk.hb,.string x.sk.hr,.int .i64 x.sk.cr,.int .i64 x.sk.cc,.slice q.ss.ca q.ss.cl q.ss.cc,.int .i64 x.sk.gf,.slice q.ss.ga q.ss.gl q.ss.gc,.int .u64 x.seen] 70;obtain⟨c0,c1,c2,c3,c4,c5,c6,c7,c8,c9,c10,c11⟩:=jbU hX0;obtain⟨d0,d1,d2,d3,d4,d5,d6,d7,d8,d9,d10,d11⟩:=jbU hX1;have HP:Hid (p.At W0.heap.size W0 x):=hp.go hB0;have HQ:Hid (q.At W0.heap.size W0 x):=hq.go hB0;have HX0:=Lib.hid hX0;have HX1:=Lib.hid hX1;have hE:=jg2 p.la p.ll p.lc x.l q.la q.ll q.lc x.l W0 HP.out.l.1 HQ.out.l.1 (Nat.le_trans HP.out.l.2.1 HP.out.l.2.2.1);rw[show (x.l==x.l)=true by simp] at hE;clear hp hq hs0 hX0 hX1;go_enter Tryz.func50,Tryz.ntmps50;go_wp2_with fail;refine hE.mono ?_;rintro e w1 ⟨rfl,hb1⟩;have hY0:=jak hb1 (Nat.le_refl _) HX0.out;have hY1:=jak hb1 (Nat.le_refl _) HX1.out;clear c0 c1 c2 c3 c4 c5 c6 c7 c8 c9 c10 c11 d0 d1 d2 d3 d4 d5 d6 d7 d8 d9 d10 d11;obtain⟨c0,c1,c2,c3,c4,c5,c6,c7,c8,c9,c10,c11⟩:=jbU hY0;obtain⟨d0,d1,d2,d3,d4,d5,d6,d7,d8,d9,d10,d11⟩:=jbU hY1;have hE2:=ja7 x.sk x.sk p.ss q.ss w1 (HP.out.go hb1).s (HQ.out.go hb1).s;rw[jks] at hE2;clear hE;go_wp2_with fail
 refine hE2.mono ?_;rintro e w2 ⟨rfl,hb2⟩;have hZ0:=jak hb2 (Nat.le_refl _) hY0;have hZ1:=jak hb2 (Nat.le_refl _) hY1;have e11:w2.cell? ⟨w.heap.size,11,none⟩=some (.int .u64 x.seen):=cCc hZ0 11;have f11:w2.cell? ⟨w.heap.size+1,11,none⟩=some (.int .u64 x.seen):=cCc hZ1 11;clear hE2 hY0 hY1 hZ0 hZ1 c0 c1 c2 c3 c4 c5 c6 c7 c8 c9 c10 c11 d0 d1 d2 d3 d4 d5 d6 d7 d8 d9 d10 d11;go_wp2_with fail;go_ret;exact⟨rfl,hB0.trans ((hb1.trans (hb2.mono hb1.size)).mono hB0.size)⟩
set_option maxRecDepth 100000 in
set_option maxHeartbeats 4000000 in
theorem jir (l m:List (Ser × SerP)) (a b:Option Addr) (len len2 cap cap2:Nat) (w:World) (hT:Tab w.heap.size w a len cap l) (hU:Tab w.heap.size w b len2 cap2 m) (hlm:l.map (·.1)=m.map (·.1)) :
  Calls Tryz.prog 12 #[.slice a len cap,.slice b len2 cap2] w fun e w'=>e=.returned (.bool true)/\Below w.heap.size w w':=by
 have hl:=hT.row.1.1;have hm:=hU.row.1.1;have hll:m.length=l.length:=by have:=congrArg List.length hlm;simpa using this.symm
 rw[hll] at hm;subst hl hm;have t0:((l.length:Int) != (l.length:Int))=false:=by simp
 have hmx:l.length<=maxLen:=Nat.le_trans hT.row.2.1 hT.row.2.2.1;unfold maxLen at hmx;have HT:=Lib.hid hT;have HU:=Lib.hid hU;have HL:=Lib.hid hlm;have HLL:=Lib.hid hll;clear hT hU hlm hll;go_enter Tryz.func12,Tryz.ntmps12;go_wp2_with fail;go_loopw [5] (fun i wr=>∃ (k:Nat),i=.int .i64 k/\k<=l.length/\Below w.heap.size w wr) (fun i _=>l.length-(intOf i).toNat)
 case atStart=>exact⟨0,rfl,Nat.zero_le _,Below.refl _ _⟩
 case round =>
  obtain⟨k,rfl,hk,hB⟩:=hrel;by_cases hlt:k<l.length
  ·obtain⟨⟨x,p⟩,hx⟩:∃ x,l[k]? = some x:=⟨_,List.getElem?_eq_getElem hlt⟩
   obtain⟨⟨y,q⟩,hy⟩:∃ x,m[k]? = some x:=⟨_,List.getElem?_eq_getElem (by rw[HLL.out];exact hlt)⟩
   obtain rfl:x=y:=by
    have h1:(l.map (·.1))[k]? = some x:=by rw[List.getElem?_map,hx];rfl
    rw[HL.out,List.getElem?_map,hy] at h1;exact (Option.some.inj h1).symm
   obtain⟨b1,off1,rfl,hb1,hc1⟩:=HT.out.row.1.2 k (x,p) hx;obtain⟨b2,off2,rfl,hb2,hc2⟩:=HU.out.row.1.2 k (x,q) hy;have hp0:=HT.out.at_ _ (List.mem_of_getElem? hx);have hq0:=HU.out.at_ _ (List.mem_of_getElem? hy);have HO:Hid (∀ W,Below w.heap.size w W->Calls Tryz.prog 50 #[.agg #[.slice p.la p.ll p.lc,.int .i64 x.sk.kind,.int .i64 x.sk.level,.slice p.ss.ea p.ss.el p.ss.ec,.int .i64 x.sk.hb,.string x.sk.hr,.int .i64 x.sk.cr,.int .i64 x.sk.cc,.slice p.ss.ca p.ss.cl p.ss.cc,.int .i64 x.sk.gf,.slice p.ss.ga p.ss.gl p.ss.gc,.int .u64 x.seen],.agg #[.slice q.la q.ll q.lc,.int .i64 x.sk.kind,.int .i64 x.sk.level,.slice q.ss.ea q.ss.el q.ss.ec,.int .i64 x.sk.hb,.string x.sk.hr,.int .i64 x.sk.cr,.int .i64 x.sk.cc,.slice q.ss.ca q.ss.cl q.ss.cc,.int .i64 x.sk.gf,.slice q.ss.ga q.ss.gl q.ss.gc,.int .u64 x.seen]] W fun e w'=>e=.returned (.bool true)/\Below W.heap.size W w'):=fun W hb=>jjx x p q W ((hp0.below hb).mono hb.size) ((hq0.below hb).mono hb.size)
   have i0:(0:Int)<=(k:Int):=by omega
   have i1:(k:Int)<(l.length:Int):=by omega
   let Inv0:World->Prop:=fun W=>Below w.heap.size w W
   have hgo:∀ W W',Inv0 W->Below W.heap.size W W'->Inv0 W':=fun W W' h hb=>Below.trans h (hb.mono (Below.size h))
   have K1:Hid (∀ X:WIn Inv0,Calls Tryz.prog 50 #[.agg #[.slice p.la p.ll p.lc,.int .i64 x.sk.kind,.int .i64 x.sk.level,.slice p.ss.ea p.ss.el p.ss.ec,.int .i64 x.sk.hb,.string x.sk.hr,.int .i64 x.sk.cr,.int .i64 x.sk.cc,.slice p.ss.ca p.ss.cl p.ss.cc,.int .i64 x.sk.gf,.slice p.ss.ga p.ss.gl p.ss.gc,.int .u64 x.seen],.agg #[.slice q.la q.ll q.lc,.int .i64 x.sk.kind,.int .i64 x.sk.level,.slice q.ss.ea q.ss.el q.ss.ec,.int .i64 x.sk.hb,.string x.sk.hr,.int .i64 x.sk.cr,.int .i64 x.sk.cc,.slice q.ss.ca q.ss.cl q.ss.cc,.int .i64 x.sk.gf,.slice q.ss.ga q.ss.gl q.ss.gc,.int .u64 x.seen]] X.world fun e w'=>e=.returned (.bool true)/\∃ Y:WIn Inv0,w'=Y.world):=fun X=>jab hgo (HO.out X.world X.ok)
   have HQ:Hid (∀ X:WIn Inv0,Below w.heap.size w X.world):=fun X=>X.ok
   have q0:∀ X:WIn Inv0,X.world.cell? ⟨b1,off1+k*12,none⟩=some (.slice p.la p.ll p.lc):=fun X=>((HQ.out X).cell (p:=⟨b1,off1+k*12,none⟩) hb1).trans (hc1 0 (by omega))
   have q1:∀ X:WIn Inv0,X.world.cell? ⟨b1,off1+k*12+1,none⟩=some (.int .i64 x.sk.kind):=fun X=>((HQ.out X).cell (p:=⟨b1,off1+k*12+1,none⟩) hb1).trans (hc1 1 (by omega))
   have q2:∀ X:WIn Inv0,X.world.cell? ⟨b1,off1+k*12+2,none⟩=some (.int .i64 x.sk.level):=fun X=>((HQ.out X).cell (p:=⟨b1,off1+k*12+2,none⟩) hb1).trans (hc1 2 (by omega))
   have q3:∀ X:WIn Inv0,X.world.cell? ⟨b1,off1+k*12+3,none⟩=some (.slice p.ss.ea p.ss.el p.ss.ec):=fun X=>((HQ.out X).cell (p:=⟨b1,off1+k*12+3,none⟩) hb1).trans (hc1 3 (by omega))
   have q4:∀ X:WIn Inv0,X.world.cell? ⟨b1,off1+k*12+4,none⟩=some (.int .i64 x.sk.hb):=fun X=>((HQ.out X).cell (p:=⟨b1,off1+k*12+4,none⟩) hb1).trans (hc1 4 (by omega))
   have q5:∀ X:WIn Inv0,X.world.cell? ⟨b1,off1+k*12+5,none⟩=some (.string x.sk.hr):=fun X=>((HQ.out X).cell (p:=⟨b1,off1+k*12+5,none⟩) hb1).trans (hc1 5 (by omega))
   have q6:∀ X:WIn Inv0,X.world.cell? ⟨b1,off1+k*12+6,none⟩=some (.int .i64 x.sk.cr):=fun X=>((HQ.out X).cell (p:=⟨b1,off1+k*12+6,none⟩) hb1).trans (hc1 6 (by omega))
   have q7:∀ X:WIn Inv0,X.world.cell? ⟨b1,off1+k*12+7,none⟩=some (.int .i64 x.sk.cc):=fun X=>((HQ.out X).cell (p:=⟨b1,off1+k*12+7,none⟩) hb1).trans (hc1 7 (by omega))
   have q8:∀ X:WIn Inv0,X.world.cell? ⟨b1,off1+k*12+8,none⟩=some (.slice p.ss.ca p.ss.cl p.ss.cc):=fun X=>((HQ.out X).cell (p:=⟨b1,off1+k*12+8,none⟩) hb1).trans (hc1 8 (by omega))
   have q9:∀ X:WIn Inv0,X.world.cell? ⟨b1,off1+k*12+9,none⟩=some (.int .i64 x.sk.gf):=fun X=>((HQ.out X).cell (p:=⟨b1,off1+k*12+9,none⟩) hb1).trans (hc1 9 (by omega))
   have q10:∀ X:WIn Inv0,X.world.cell? ⟨b1,off1+k*12+10,none⟩=some (.slice p.ss.ga p.ss.gl p.ss.gc):=fun X=>((HQ.out X).cell (p:=⟨b1,off1+k*12+10,none⟩) hb1).trans (hc1 10 (by omega))
   have q11:∀ X:WIn Inv0,X.world.cell? ⟨b1,off1+k*12+11,none⟩=some (.int .u64 x.seen):=fun X=>((HQ.out X).cell (p:=⟨b1,off1+k*12+11,none⟩) hb1).trans (hc1 11 (by omega))
   have r0:∀ X:WIn Inv0,X.world.cell? ⟨b2,off2+k*12,none⟩=some (.slice q.la q.ll q.lc):=fun X=>((HQ.out X).cell (p:=⟨b2,off2+k*12,none⟩) hb2).trans (hc2 0 (by omega))
   have r1:∀ X:WIn Inv0,X.world.cell? ⟨b2,off2+k*12+1,none⟩=some (.int .i64 x.sk.kind):=fun X=>((HQ.out X).cell (p:=⟨b2,off2+k*12+1,none⟩) hb2).trans (hc2 1 (by omega))
   have r2:∀ X:WIn Inv0,X.world.cell? ⟨b2,off2+k*12+2,none⟩=some (.int .i64 x.sk.level):=fun X=>((HQ.out X).cell (p:=⟨b2,off2+k*12+2,none⟩) hb2).trans (hc2 2 (by omega))
   have r3:∀ X:WIn Inv0,X.world.cell? ⟨b2,off2+k*12+3,none⟩=some (.slice q.ss.ea q.ss.el q.ss.ec):=fun X=>((HQ.out X).cell (p:=⟨b2,off2+k*12+3,none⟩) hb2).trans (hc2 3 (by omega))
   have r4:∀ X:WIn Inv0,X.world.cell? ⟨b2,off2+k*12+4,none⟩=some (.int .i64 x.sk.hb):=fun X=>((HQ.out X).cell (p:=⟨b2,off2+k*12+4,none⟩) hb2).trans (hc2 4 (by omega))
   have r5:∀ X:WIn Inv0,X.world.cell? ⟨b2,off2+k*12+5,none⟩=some (.string x.sk.hr):=fun X=>((HQ.out X).cell (p:=⟨b2,off2+k*12+5,none⟩) hb2).trans (hc2 5 (by omega))
   have r6:∀ X:WIn Inv0,X.world.cell? ⟨b2,off2+k*12+6,none⟩=some (.int .i64 x.sk.cr):=fun X=>((HQ.out X).cell (p:=⟨b2,off2+k*12+6,none⟩) hb2).trans (hc2 6 (by omega))
   have r7:∀ X:WIn Inv0,X.world.cell? ⟨b2,off2+k*12+7,none⟩=some (.int .i64 x.sk.cc):=fun X=>((HQ.out X).cell (p:=⟨b2,off2+k*12+7,none⟩) hb2).trans (hc2 7 (by omega))
   have r8:∀ X:WIn Inv0,X.world.cell? ⟨b2,off2+k*12+8,none⟩=some (.slice q.ss.ca q.ss.cl q.ss.cc):=fun X=>((HQ.out X).cell (p:=⟨b2,off2+k*12+8,none⟩) hb2).trans (hc2 8 (by omega))
   have r9:∀ X:WIn Inv0,X.world.cell? ⟨b2,off2+k*12+9,none⟩=some (.int .i64 x.sk.gf):=fun X=>((HQ.out X).cell (p:=⟨b2,off2+k*12+9,none⟩) hb2).trans (hc2 9 (by omega))
   have r10:∀ X:WIn Inv0,X.world.cell? ⟨b2,off2+k*12+10,none⟩=some (.slice q.ss.ga q.ss.gl q.ss.gc):=fun X=>((HQ.out X).cell (p:=⟨b2,off2+k*12+10,none⟩) hb2).trans (hc2 10 (by omega))
   have r11:∀ X:WIn Inv0,X.world.cell? ⟨b2,off2+k*12+11,none⟩=some (.int .u64 x.seen):=fun X=>((HQ.out X).cell (p:=⟨b2,off2+k*12+11,none⟩) hb2).trans (hc2 11 (by omega))
   have hI0:Hid (Inv0 (World.drew wr)):=hB.drew;have hne:Nonempty (WIn Inv0):=⟨⟨_,hI0.out⟩⟩;clear hgo hB hc1 hc2 hx hy hp0 hq0 HO;clear_value Inv0;go_wp2_with fail;refine jac Inv0 (by kernel_rfl) (by kernel_rfl) hI0.out ?_
   repeat (first | go_big_quiet_step ((go_at_call 50;with_reducible exact K1.out _)) | quiet_step ((go_at_call 50;with_reducible exact K1.out _)))
   refine wpQuiet_nil ?_;rintro _ ⟨X,rfl⟩;have HBw2:=HQ.out X;obtain⟨w2,hww2⟩:∃ w2,X.world=w2:=⟨_,rfl⟩;rw[hww2] at HBw2 ⊢;clear HQ K1 q0 q1 q2 q3 q4 q5 q6 q7 q8 q9 q10 q11 r0 r1 r2 r3 r4 r5 r6 r7 r8 r9 r10 r11 hI0 hne hww2 X;go_wp2_with fail;go_roundw
   case rel=>exact⟨k+1,by go_num,by omega,HBw2⟩
   case measure=>simp[intOf];omega
  ·have i1:¬ (k:Int)<(l.length:Int):=by omega
   go_wp2_with fail;go_ret;exact⟨rfl,hB⟩
set_option maxRecDepth 100000 in
set_option maxHeartbeats 4000000 in
theorem jim (l:List (Ser × SerP)) (a:Option Addr) (len cap:Nat) (b:Int) (w:World) (hT:Tab w.heap.size w a len cap l) (hU:∀ x∈l.map (·.1),Ser.wn x/\I64 x.sk.cc) (_hb:I64 b) (hG:GW w) (_:GT w) :
  Calls Tryz.prog 3 #[.slice a len cap,.int .i64 b] w fun e w'=>e=.returned (.bool true)/\Below w.heap.size w w':=by
 have HT:=Lib.hid hT;have HG:=Lib.hid hG;obtain⟨L,hL⟩:∃ L,jf6 (l.map (·.1))=L:=⟨_,rfl⟩;have HQ:Hid (jag L=true->QT L):=by rw[<- hL];exact jrY (fun x hx=>(hU x hx).1)
 have HFi:Hid (∀ x∈L,x.fine):=by rw[<- hL];exact jkU (fun y hy=>(hU y hy).1.wf)
 have HLm:Hid (jdC L):=by rw[<- hL];exact jqI hU
 have HL:=Lib.hid hL;clear hT hU hG hL;go_enter Tryz.func3,Tryz.ntmps3
 go_wp2_with (first
  | (go_at_call 6;refine (jko w HG.out).mono ?_;rintro e w1 ⟨rfl,hb1⟩)
  | (go_at_call 7;refine (jmW l a len cap w1 (HT.out.go hb1)).mono ?_;rintro e w2 ⟨a2,cap2,m,rfl,hT2,hm,hlo2,hla,hb2⟩;clear hlo2 hla))
 have hB2:=hb1.trans (hb2.mono hb1.size);have HM:Hid (m.map (·.1)=L):=hm.trans HL.out;have HT2:=Lib.hid hT2;have HF:Hid (jbu m):=jbw hT2 (by rw[HM.out];exact HFi.out);have HLm2:Hid (jdC (m.map (·.1))):=by rw[Hid,HM.out];exact HLm.out
 have HQ2:Hid (jag (m.map (·.1))=true->QT (m.map (·.1))):=by rw[Hid,HM.out];exact HQ.out
 have HG2:Hid (∀ W,Below w2.heap.size w2 W->GW W):=fun W hb=>HG.out.below (hB2.trans (hb.mono hB2.size))
 obtain⟨ps,hps⟩:∃ ps,(jas b L).2.1=ps:=⟨_,rfl⟩;obtain⟨er,her⟩:∃ er,(jas b L).2.2=er:=⟨_,rfl⟩;have hF1:=jmm hps her hT2 HM.out HFi.out HQ.out (HG2.out _ (Below.refl _ _))
 have HF2:Hid (∀ W,Below w2.heap.size w2 W->Calls Tryz.prog 9 #[.slice a2 m.length cap2,.int .i64 b] W (jmg b L ps er W)):=fun W hb=>by
  have h:=jis b m a2 m.length cap2 W (HT2.out.go hb) HF.out HLm2.out HQ2.out;rw[HM.out,hps,her] at h;exact h
 obtain⟨vp,hvp⟩:∃ vp,jhL L=vp:=⟨_,rfl⟩;obtain⟨vb,hvb⟩:∃ vb,jgU L=vb:=⟨_,rfl⟩;obtain⟨fb,hfb⟩:∃ fb,jeK b L=fb:=⟨_,rfl⟩;obtain⟨sb,hsb⟩:∃ sb,jgM b L=sb:=⟨_,rfl⟩;obtain⟨lb,hlb⟩:∃ lb,jcM L=lb:=⟨_,rfl⟩
 have HV1:Hid (∀ W,Below w2.heap.size w2 W->Calls Tryz.prog 10 #[.slice a2 m.length cap2] W fun e w'=>e=.returned (.tuple #[.int .i64 vp,.bool vb])/\Below W.heap.size W w'):=fun W hb=>by
  have h:=jhd m a2 m.length cap2 W (HT2.out.go hb) HF.out (HG2.out W hb);rw[HM.out,hvp,hvb] at h;exact h
 have HV2:Hid (∀ W,Below w2.heap.size w2 W->Calls Tryz.prog 11 #[.slice a2 m.length cap2] W fun e w'=>e=.returned (.tuple #[.int .i64 vp,.bool vb])/\Below W.heap.size W w'):=fun W hb=>by
  have h:=jdF m a2 m.length cap2 W (HT2.out.go hb) HF.out HLm2.out;rw[HM.out,hvp,hvb] at h;exact h
 have HS1:Hid (∀ W,Below w2.heap.size w2 W->Calls Tryz.prog 14 #[.slice a2 m.length cap2,.int .i64 b] W fun e w'=>e=.returned (.bool fb)/\Below W.heap.size W w'):=fun W hb=>by
  have h:=jiH b m a2 m.length cap2 W (HT2.out.go hb) HF.out (HG2.out W hb);rw[HM.out,hfb] at h;exact h
 have HS2:Hid (∀ W,Below w2.heap.size w2 W->Calls Tryz.prog 15 #[.slice a2 m.length cap2,.int .i64 b] W fun e w'=>e=.returned (.bool fb)/\Below W.heap.size W w'):=fun W hb=>by
  have h:=jei b m a2 m.length cap2 W (HT2.out.go hb) HF.out HLm2.out;rw[HM.out,hfb] at h;exact h
 have HP1:Hid (∀ W,Below w2.heap.size w2 W->Calls Tryz.prog 16 #[.slice a2 m.length cap2,.int .i64 b] W fun e w'=>e=.returned (.int .i64 sb)/\Below W.heap.size W w'):=fun W hb=>by
  have h:=jlr b m a2 m.length cap2 W (HT2.out.go hb) HF.out (HG2.out W hb);rw[HM.out,hsb] at h;exact h
 have HP2:Hid (∀ W,Below w2.heap.size w2 W->Calls Tryz.prog 17 #[.slice a2 m.length cap2,.int .i64 b] W fun e w'=>e=.returned (.int .i64 sb)/\Below W.heap.size W w'):=fun W hb=>by
  have h:=jgE b m a2 m.length cap2 W (HT2.out.go hb) HF.out HLm2.out;rw[HM.out,hsb] at h;exact h
 have HL1:Hid (∀ W,Below w2.heap.size w2 W->Calls Tryz.prog 18 #[.slice a2 m.length cap2] W fun e w'=>e=.returned (.int .i64 lb)/\Below W.heap.size W w'):=fun W hb=>by
  have h:=jmn m a2 m.length cap2 W (HT2.out.go hb) HF.out HQ2.out (HG2.out W hb);rw[HM.out,hlb] at h;exact h
 have HL2:Hid (∀ W,Below w2.heap.size w2 W->Calls Tryz.prog 19 #[.slice a2 m.length cap2] W fun e w'=>e=.returned (.int .i64 lb)/\Below W.heap.size W w'):=fun W hb=>by
  have h:=jgD m a2 m.length cap2 W (HT2.out.go hb) HF.out HLm2.out HQ2.out;rw[HM.out,hlb] at h;exact h
 have HB2:=Lib.hid hB2;clear hT2 hm HL HT hb1 hb2 hB2 hps her hvp hvb hfb hsb hlb HQ HFi HLm HT2 HF HLm2 HQ2 HG2 HM HG;generalize m.length=ml at *;refine hF1.mono ?_;rintro e w3 ⟨m3,ta3,tc3,pa3,pc3,rfl,hT3,hm3,hp3,hb3⟩;have HT3:=Lib.hid hT3;have HM3:=Lib.hid hm3;have HP3:=Lib.hid hp3;have HB3:=Lib.hid hb3;clear hT3 hm3 hp3 hF1 hb3;go_wp2_with fail;refine (HF2.out w3 HB3.out).mono ?_;rintro e w4 ⟨m4,ta4,tc4,pa4,pc4,rfl,hT4,hm4,hp4,hb4⟩;have HB4:Hid (Below w2.heap.size w2 w4):=HB3.out.trans (hb4.mono HB3.out.size);have HSa:Hid (∀ W,Below w4.heap.size w4 W->Calls Tryz.prog 12 #[.slice ta3 m3.length tc3,.slice ta4 m4.length tc4] W fun e w'=>e=.returned (.bool true)/\Below W.heap.size W w'):=fun W hb=>jir m3 m4 ta3 ta4 _ _ tc3 tc4 W ((HT3.out.go hb4).go hb) (hT4.go hb) (HM3.out.trans hm4.symm)
 have HIn:Hid (∀ W,Below w4.heap.size w4 W->Calls Tryz.prog 13 #[.slice pa3 ps.length pc3,.slice pa4 ps.length pc4] W fun e w'=>e=.returned (.bool true)/\Below W.heap.size W w'):=fun W hb=>by
  have h:=jeh pa3 ps.length pc3 ps pa4 ps.length pc4 ps W ((HP3.out.go hb4).go hb).1 (hp4.go hb).1 (Nat.le_trans hp4.2.1 hp4.2.2.1);rw[show (ps==ps)=true by simp] at h;exact h
 clear hT4 hm4 hp4 hb4 HF2 HT3 HM3 HP3 HB3;generalize m3.length=ml3 at *;generalize m4.length=ml4 at *;go_wp2_with fail;refine (HV1.out w4 HB4.out).mono ?_;rintro e w5 ⟨rfl,hb5⟩;have HB5:Hid (Below w2.heap.size w2 w5):=HB4.out.trans (hb5.mono HB4.out.size);clear HV1;go_wp2_with fail;refine (HV2.out w5 HB5.out).mono ?_;rintro e w6 ⟨rfl,hb6⟩;have HB6:Hid (Below w2.heap.size w2 w6):=HB5.out.trans (hb6.mono HB5.out.size);have HB46:Hid (Below w4.heap.size w4 w6):=hb5.trans (hb6.mono hb5.size);clear HV2 hb5 hb6 HB5;go_wp2_with fail;refine (HSa.out w6 HB46.out).mono ?_;rintro e w7 ⟨rfl,hb7⟩;have HB7:Hid (Below w2.heap.size w2 w7):=HB6.out.trans (hb7.mono HB6.out.size);have HB47:Hid (Below w4.heap.size w4 w7):=HB46.out.trans (hb7.mono HB46.out.size);clear HSa hb7 HB46 HB6;go_wp2_with fail;refine (HIn.out w7 HB47.out).mono ?_;rintro e w8 ⟨rfl,hb8⟩;have HB8:Hid (Below w2.heap.size w2 w8):=HB7.out.trans (hb8.mono HB7.out.size);clear HIn hb8 HB47 HB7;go_wp2_with fail;refine (HS1.out w8 HB8.out).mono ?_;rintro e w9 ⟨rfl,hb9⟩;have HB9:Hid (Below w2.heap.size w2 w9):=HB8.out.trans (hb9.mono HB8.out.size);clear HS1 hb9 HB8;go_wp2_with fail;refine (HS2.out w9 HB9.out).mono ?_;rintro e w10 ⟨rfl,hb10⟩;have HB10:Hid (Below w2.heap.size w2 w10):=HB9.out.trans (hb10.mono HB9.out.size);clear HS2 hb10 HB9;go_wp2_with fail;refine (HP1.out w10 HB10.out).mono ?_;rintro e w11 ⟨rfl,hb11⟩;have HB11:Hid (Below w2.heap.size w2 w11):=HB10.out.trans (hb11.mono HB10.out.size);clear HP1 hb11 HB10
 go_wp2_with fail;refine (HP2.out w11 HB11.out).mono ?_;rintro e w12 ⟨rfl,hb12⟩;have HB12:Hid (Below w2.heap.size w2 w12):=HB11.out.trans (hb12.mono HB11.out.size);clear HP2 hb12 HB11;go_wp2_with fail;refine (HL1.out w12 HB12.out).mono ?_;rintro e w13 ⟨rfl,hb13⟩;have HB13:Hid (Below w2.heap.size w2 w13):=HB12.out.trans (hb13.mono HB12.out.size);clear HL1 hb13 HB12;go_wp2_with fail;refine (HL2.out w13 HB13.out).mono ?_;rintro e w14 ⟨rfl,hb14⟩;have HB14:Hid (Below w2.heap.size w2 w14):=HB13.out.trans (hb14.mono HB13.out.size);clear HL2 hb14 HB13;go_wp2_with fail;go_ret;exact⟨rfl,HB2.out.trans (HB14.out.mono HB2.out.size)⟩
end Go.Proofs.YtieknocphiceoaaGreatDoor
