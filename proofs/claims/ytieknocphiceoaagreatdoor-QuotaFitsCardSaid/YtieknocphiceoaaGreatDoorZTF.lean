/- The reference of layer 12: Right. label.Text as the reference of layer 4 writes it: byte by byte. No program in sight. The reference of layer 4: Text. -/
import Derived.Test.YtieknocphiceoaaGreatDoorZTE
import Derived.Test.YtieknocphiceoaaGreatDoorZRT
namespace Go.Proofs.YtieknocphiceoaaGreatDoor
open Go Go.RowKit Go.Shelf
def jp2 (l:List (Ser × SerP)):Prop:=∀ e∈l,jdK e.1.sk.e/\I64 e.1.sk.cc/\joi e.1.sk.gl
theorem jkD {l:List Ser} {x:Ser} (hx:l[0]? = some x):jbJ (jcP l 0) (l.drop 0)=(jar x.l&&jcd x.sk&&jbJ (jcP l 1) (l.drop 1)):=by
 rw[jiw hx,jd9 hx];show (jaM x&&true&&_)=_;rw[Bool.and_true];rfl
theorem jl9 {l:List Ser} {k:Nat} {x y:Ser} (hk:0<k) (hx:l[k]? = some x) (hy:l[k-1]? = some y):jbJ (jcP l k) (l.drop k)=(jar x.l&&jcd x.sk&&jau y.l x.l&&jbJ (jcP l (k+1)) (l.drop (k+1))):=by
 rw[jiw hx,jd9 hx,jjn hk hy];rfl
set_option maxRecDepth 100000 in
set_option maxHeartbeats 8000000 in
theorem jgC (l:List (Ser × SerP)) (a:Option Addr) (len cap:Nat) (w:World) (hT:Tab w.heap.size w a len cap l) (hF:jbu l) (hN:jp2 l) (hm:len<=maxLen) :
  Calls Tryz.prog 44 #[.slice a len cap] w fun e w'=>e=.returned (.bool (jag (l.map (·.1))))/\Below w.heap.size w w':=by
 unfold maxLen at hm;have E1:=Lib.hid hT.row.1.1
 have HL:Hid (jag (l.map (·.1))=(jbJ (jcP (l.map (·.1)) 0) ((l.map (·.1)).drop 0)&&decide (len<=20))):=by
  rw[Hid,E1.out];unfold jag;rw[List.length_map,Bool.and_comm];rfl
 generalize jag (l.map (·.1))=R at HL ⊢;have HA:=Lib.hid hT;have HF:=Lib.hid hF;have HM:=Lib.hid hN;clear hT hF hN;go_enter Tryz.func44,Tryz.ntmps44;go_wp2_with fail;go_loopw [3] (fun i wr=>∃ (k:Nat),i=.int .i64 k/\k<=len/\Below w.heap.size w wr/\Hid (R=(jbJ (jcP (l.map (·.1)) k) ((l.map (·.1)).drop k)&&decide (len<=20)))) (fun i _=>len-(intOf i).toNat)
 case atStart=>exact⟨0,rfl,Nat.zero_le _,Below.refl _ _,HL⟩
 case round =>
  obtain⟨k,rfl,hk,hB,HS⟩:=hrel;by_cases hlt:k<len
  ·obtain⟨⟨x,p⟩,hx⟩:∃ x,l[k]? = some x:=⟨_,List.getElem?_eq_getElem (by have:=E1.out;omega)⟩
   obtain⟨b,off,ea,hb,hc⟩:=HA.out.row.1.2 k (x,p) hx;subst ea;have i1:(k:Int)<(len:Int):=by omega
   have i0:(0:Int)<=(k:Int):=by omega
   have HP:Hid (∀ W,Below w.heap.size w W->p.At W.heap.size W x):=fun W hbw=>((HA.out.at_ _ (List.mem_of_getElem? hx)).below hbw).mono hbw.size
   have HFx:=Lib.hid (HF.out _ (List.mem_of_getElem? hx));obtain⟨n1,n2,n3⟩:=HM.out _ (List.mem_of_getElem? hx);have HN:Hid (∀ W,Below w.heap.size w W->Calls Tryz.prog 91 #[.slice p.la p.ll p.lc] W fun e w'=>e=.returned (.bool (jar x.l))/\Below W.heap.size W w'):=fun W hbw=>jdW _ _ _ _ W (HP.out W hbw).l.1 HFx.out.lab (by have h9:p.ll<4294967281:=HFx.out.ll;unfold maxLen;omega)
   have HU:Hid (∀ W,Below w.heap.size w W->Calls Tryz.prog 92 #[.agg #[.int .i64 x.sk.kind,.int .i64 x.sk.level,.slice p.ss.ea p.ss.el p.ss.ec,.int .i64 x.sk.hb,.string x.sk.hr,.int .i64 x.sk.cr,.int .i64 x.sk.cc,.slice p.ss.ca p.ss.cl p.ss.cc,.int .i64 x.sk.gf,.slice p.ss.ga p.ss.gl p.ss.gc]] W fun e w'=>e=.returned (.bool (jcd x.sk))/\Below W.heap.size W w'):=fun W hbw=>jbF _ _ W (HP.out W hbw).s n1 n2 n3
   have hx1:(l.map (·.1))[k]? = some x:=by rw[List.getElem?_map,hx];rfl
   clear n1 n2 n3;rcases Nat.eq_zero_or_pos k with k0 | k0
   ·have g0:decide ((0:Int)<(k:Int))=false:=by rw[decide_eq_false_iff_not];omega
    have g1:decide (0<k)=false:=by rw[decide_eq_false_iff_not];omega
    have HX:Hid (R=(jar x.l&&jcd x.sk&&jbJ (jcP (l.map (·.1)) (k+1)) ((l.map (·.1)).drop (k+1))&&decide (len<=20))):=by
     subst k0;rw[Hid,HS.out,jkD hx1]
    clear hx hx1 k0 HS HP HFx;generalize jar x.l=bn at HN HX;generalize jcd x.sk=bv at HU HX
    cases bn with
    | false =>
     have H9:Hid (R=false):=HX.out.trans (by simp);let Inv0:World->Prop:=fun W=>Below w.heap.size w W
     have hgo:∀ W W',Inv0 W->Below W.heap.size W W'->Inv0 W':=fun W W' h hb=>Below.trans h (hb.mono (Below.size h))
     have K1:Hid (∀ X:WIn Inv0,Calls Tryz.prog 91 #[.slice p.la p.ll p.lc] X.world fun e w'=>e=.returned (.bool false)/\∃ Y:WIn Inv0,w'=Y.world):=fun X=>jab hgo (HN.out X.world X.ok)
     have HQ:Hid (∀ X:WIn Inv0,Below w.heap.size w X.world):=fun X=>X.ok
     have q0:∀ X:WIn Inv0,X.world.cell? ⟨b,off+k*12,none⟩=some (.slice p.la p.ll p.lc):=fun X=>((HQ.out X).cell (p:=⟨b,off+k*12,none⟩) hb).trans (hc 0 (by omega))
     have q1:∀ X:WIn Inv0,X.world.cell? ⟨b,off+k*12+1,none⟩=some (.int .i64 x.sk.kind):=fun X=>((HQ.out X).cell (p:=⟨b,off+k*12+1,none⟩) hb).trans (hc 1 (by omega))
     have q2:∀ X:WIn Inv0,X.world.cell? ⟨b,off+k*12+2,none⟩=some (.int .i64 x.sk.level):=fun X=>((HQ.out X).cell (p:=⟨b,off+k*12+2,none⟩) hb).trans (hc 2 (by omega))
     have q3:∀ X:WIn Inv0,X.world.cell? ⟨b,off+k*12+3,none⟩=some (.slice p.ss.ea p.ss.el p.ss.ec):=fun X=>((HQ.out X).cell (p:=⟨b,off+k*12+3,none⟩) hb).trans (hc 3 (by omega))
     have q4:∀ X:WIn Inv0,X.world.cell? ⟨b,off+k*12+4,none⟩=some (.int .i64 x.sk.hb):=fun X=>((HQ.out X).cell (p:=⟨b,off+k*12+4,none⟩) hb).trans (hc 4 (by omega))
     have q5:∀ X:WIn Inv0,X.world.cell? ⟨b,off+k*12+5,none⟩=some (.string x.sk.hr):=fun X=>((HQ.out X).cell (p:=⟨b,off+k*12+5,none⟩) hb).trans (hc 5 (by omega))
     have q6:∀ X:WIn Inv0,X.world.cell? ⟨b,off+k*12+6,none⟩=some (.int .i64 x.sk.cr):=fun X=>((HQ.out X).cell (p:=⟨b,off+k*12+6,none⟩) hb).trans (hc 6 (by omega))
     have q7:∀ X:WIn Inv0,X.world.cell? ⟨b,off+k*12+7,none⟩=some (.int .i64 x.sk.cc):=fun X=>((HQ.out X).cell (p:=⟨b,off+k*12+7,none⟩) hb).trans (hc 7 (by omega))
     have q8:∀ X:WIn Inv0,X.world.cell? ⟨b,off+k*12+8,none⟩=some (.slice p.ss.ca p.ss.cl p.ss.cc):=fun X=>((HQ.out X).cell (p:=⟨b,off+k*12+8,none⟩) hb).trans (hc 8 (by omega))
     have q9:∀ X:WIn Inv0,X.world.cell? ⟨b,off+k*12+9,none⟩=some (.int .i64 x.sk.gf):=fun X=>((HQ.out X).cell (p:=⟨b,off+k*12+9,none⟩) hb).trans (hc 9 (by omega))
     have q10:∀ X:WIn Inv0,X.world.cell? ⟨b,off+k*12+10,none⟩=some (.slice p.ss.ga p.ss.gl p.ss.gc):=fun X=>((HQ.out X).cell (p:=⟨b,off+k*12+10,none⟩) hb).trans (hc 10 (by omega))
     have q11:∀ X:WIn Inv0,X.world.cell? ⟨b,off+k*12+11,none⟩=some (.int .u64 x.seen):=fun X=>((HQ.out X).cell (p:=⟨b,off+k*12+11,none⟩) hb).trans (hc 11 (by omega))
     have hI0:Hid (Inv0 (World.drew wr)):=hB.drew;have hne:Nonempty (WIn Inv0):=⟨⟨_,hI0.out⟩⟩;clear hgo hB hc;clear_value Inv0;go_wp2_with fail;refine jac Inv0 (by kernel_rfl) (by kernel_rfl) hI0.out ?_
     repeat (first | go_big_quiet_step ((first | (go_at_call 91;with_reducible exact K1.out _) | (go_at_call 92;with_reducible exact K2.out _) | (go_at_call 93;with_reducible exact K3.out _))) | quiet_step ((first | (go_at_call 91;with_reducible exact K1.out _) | (go_at_call 92;with_reducible exact K2.out _) | (go_at_call 93;with_reducible exact K3.out _))))
     refine wpQuiet_nil ?_;rintro _ ⟨X,rfl⟩;have HBw2:=HQ.out X;obtain⟨w2,hww2⟩:∃ w2,X.world=w2:=⟨_,rfl⟩;rw[hww2] at HBw2 ⊢;clear HQ K1  q0 q1 q2 q3 q4 q5 q6 q7 q8 q9 q10 q11 hI0 hne hww2 X;go_wp2_with fail;go_ret;exact⟨by rw[H9.out];rfl,HBw2⟩
    | true =>
     cases bv with
     | false =>
      have H9:Hid (R=false):=HX.out.trans (by simp);let Inv0:World->Prop:=fun W=>Below w.heap.size w W
      have hgo:∀ W W',Inv0 W->Below W.heap.size W W'->Inv0 W':=fun W W' h hb=>Below.trans h (hb.mono (Below.size h))
      have K1:Hid (∀ X:WIn Inv0,Calls Tryz.prog 91 #[.slice p.la p.ll p.lc] X.world fun e w'=>e=.returned (.bool true)/\∃ Y:WIn Inv0,w'=Y.world):=fun X=>jab hgo (HN.out X.world X.ok)
      have K2:Hid (∀ X:WIn Inv0,Calls Tryz.prog 92 #[.agg #[.int .i64 x.sk.kind,.int .i64 x.sk.level,.slice p.ss.ea p.ss.el p.ss.ec,.int .i64 x.sk.hb,.string x.sk.hr,.int .i64 x.sk.cr,.int .i64 x.sk.cc,.slice p.ss.ca p.ss.cl p.ss.cc,.int .i64 x.sk.gf,.slice p.ss.ga p.ss.gl p.ss.gc]] X.world fun e w'=>e=.returned (.bool false)/\∃ Y:WIn Inv0,w'=Y.world):=fun X=>jab hgo (HU.out X.world X.ok)
      have HQ:Hid (∀ X:WIn Inv0,Below w.heap.size w X.world):=fun X=>X.ok
      have q0:∀ X:WIn Inv0,X.world.cell? ⟨b,off+k*12,none⟩=some (.slice p.la p.ll p.lc):=fun X=>((HQ.out X).cell (p:=⟨b,off+k*12,none⟩) hb).trans (hc 0 (by omega))
      have q1:∀ X:WIn Inv0,X.world.cell? ⟨b,off+k*12+1,none⟩=some (.int .i64 x.sk.kind):=fun X=>((HQ.out X).cell (p:=⟨b,off+k*12+1,none⟩) hb).trans (hc 1 (by omega))
      have q2:∀ X:WIn Inv0,X.world.cell? ⟨b,off+k*12+2,none⟩=some (.int .i64 x.sk.level):=fun X=>((HQ.out X).cell (p:=⟨b,off+k*12+2,none⟩) hb).trans (hc 2 (by omega))
      have q3:∀ X:WIn Inv0,X.world.cell? ⟨b,off+k*12+3,none⟩=some (.slice p.ss.ea p.ss.el p.ss.ec):=fun X=>((HQ.out X).cell (p:=⟨b,off+k*12+3,none⟩) hb).trans (hc 3 (by omega))
      have q4:∀ X:WIn Inv0,X.world.cell? ⟨b,off+k*12+4,none⟩=some (.int .i64 x.sk.hb):=fun X=>((HQ.out X).cell (p:=⟨b,off+k*12+4,none⟩) hb).trans (hc 4 (by omega))
      have q5:∀ X:WIn Inv0,X.world.cell? ⟨b,off+k*12+5,none⟩=some (.string x.sk.hr):=fun X=>((HQ.out X).cell (p:=⟨b,off+k*12+5,none⟩) hb).trans (hc 5 (by omega))
      have q6:∀ X:WIn Inv0,X.world.cell? ⟨b,off+k*12+6,none⟩=some (.int .i64 x.sk.cr):=fun X=>((HQ.out X).cell (p:=⟨b,off+k*12+6,none⟩) hb).trans (hc 6 (by omega))
      have q7:∀ X:WIn Inv0,X.world.cell? ⟨b,off+k*12+7,none⟩=some (.int .i64 x.sk.cc):=fun X=>((HQ.out X).cell (p:=⟨b,off+k*12+7,none⟩) hb).trans (hc 7 (by omega))
      have q8:∀ X:WIn Inv0,X.world.cell? ⟨b,off+k*12+8,none⟩=some (.slice p.ss.ca p.ss.cl p.ss.cc):=fun X=>((HQ.out X).cell (p:=⟨b,off+k*12+8,none⟩) hb).trans (hc 8 (by omega))
      have q9:∀ X:WIn Inv0,X.world.cell? ⟨b,off+k*12+9,none⟩=some (.int .i64 x.sk.gf):=fun X=>((HQ.out X).cell (p:=⟨b,off+k*12+9,none⟩) hb).trans (hc 9 (by omega))
      have q10:∀ X:WIn Inv0,X.world.cell? ⟨b,off+k*12+10,none⟩=some (.slice p.ss.ga p.ss.gl p.ss.gc):=fun X=>((HQ.out X).cell (p:=⟨b,off+k*12+10,none⟩) hb).trans (hc 10 (by omega))
      have q11:∀ X:WIn Inv0,X.world.cell? ⟨b,off+k*12+11,none⟩=some (.int .u64 x.seen):=fun X=>((HQ.out X).cell (p:=⟨b,off+k*12+11,none⟩) hb).trans (hc 11 (by omega))
      have hI0:Hid (Inv0 (World.drew wr)):=hB.drew;have hne:Nonempty (WIn Inv0):=⟨⟨_,hI0.out⟩⟩;clear hgo hB hc;clear_value Inv0;go_wp2_with fail;refine jac Inv0 (by kernel_rfl) (by kernel_rfl) hI0.out ?_
      repeat (first | go_big_quiet_step ((first | (go_at_call 91;with_reducible exact K1.out _) | (go_at_call 92;with_reducible exact K2.out _) | (go_at_call 93;with_reducible exact K3.out _))) | quiet_step ((first | (go_at_call 91;with_reducible exact K1.out _) | (go_at_call 92;with_reducible exact K2.out _) | (go_at_call 93;with_reducible exact K3.out _))))
      refine wpQuiet_nil ?_;rintro _ ⟨X,rfl⟩;have HBw2:=HQ.out X;obtain⟨w2,hww2⟩:∃ w2,X.world=w2:=⟨_,rfl⟩;rw[hww2] at HBw2 ⊢;clear HQ K1 K2  q0 q1 q2 q3 q4 q5 q6 q7 q8 q9 q10 q11 hI0 hne hww2 X;go_wp2_with fail;go_ret;exact⟨by rw[H9.out];rfl,HBw2⟩
     | true =>
      have H9:Hid (R=(jbJ (jcP (l.map (·.1)) (k+1)) ((l.map (·.1)).drop (k+1))&&decide (len<=20))):=HX.out.trans (by simp);let Inv0:World->Prop:=fun W=>Below w.heap.size w W
      have hgo:∀ W W',Inv0 W->Below W.heap.size W W'->Inv0 W':=fun W W' h hb=>Below.trans h (hb.mono (Below.size h))
      have K1:Hid (∀ X:WIn Inv0,Calls Tryz.prog 91 #[.slice p.la p.ll p.lc] X.world fun e w'=>e=.returned (.bool true)/\∃ Y:WIn Inv0,w'=Y.world):=fun X=>jab hgo (HN.out X.world X.ok)
      have K2:Hid (∀ X:WIn Inv0,Calls Tryz.prog 92 #[.agg #[.int .i64 x.sk.kind,.int .i64 x.sk.level,.slice p.ss.ea p.ss.el p.ss.ec,.int .i64 x.sk.hb,.string x.sk.hr,.int .i64 x.sk.cr,.int .i64 x.sk.cc,.slice p.ss.ca p.ss.cl p.ss.cc,.int .i64 x.sk.gf,.slice p.ss.ga p.ss.gl p.ss.gc]] X.world fun e w'=>e=.returned (.bool true)/\∃ Y:WIn Inv0,w'=Y.world):=fun X=>jab hgo (HU.out X.world X.ok)
      have HQ:Hid (∀ X:WIn Inv0,Below w.heap.size w X.world):=fun X=>X.ok
      have q0:∀ X:WIn Inv0,X.world.cell? ⟨b,off+k*12,none⟩=some (.slice p.la p.ll p.lc):=fun X=>((HQ.out X).cell (p:=⟨b,off+k*12,none⟩) hb).trans (hc 0 (by omega))
      have q1:∀ X:WIn Inv0,X.world.cell? ⟨b,off+k*12+1,none⟩=some (.int .i64 x.sk.kind):=fun X=>((HQ.out X).cell (p:=⟨b,off+k*12+1,none⟩) hb).trans (hc 1 (by omega))
      have q2:∀ X:WIn Inv0,X.world.cell? ⟨b,off+k*12+2,none⟩=some (.int .i64 x.sk.level):=fun X=>((HQ.out X).cell (p:=⟨b,off+k*12+2,none⟩) hb).trans (hc 2 (by omega))
      have q3:∀ X:WIn Inv0,X.world.cell? ⟨b,off+k*12+3,none⟩=some (.slice p.ss.ea p.ss.el p.ss.ec):=fun X=>((HQ.out X).cell (p:=⟨b,off+k*12+3,none⟩) hb).trans (hc 3 (by omega))
      have q4:∀ X:WIn Inv0,X.world.cell? ⟨b,off+k*12+4,none⟩=some (.int .i64 x.sk.hb):=fun X=>((HQ.out X).cell (p:=⟨b,off+k*12+4,none⟩) hb).trans (hc 4 (by omega))
      have q5:∀ X:WIn Inv0,X.world.cell? ⟨b,off+k*12+5,none⟩=some (.string x.sk.hr):=fun X=>((HQ.out X).cell (p:=⟨b,off+k*12+5,none⟩) hb).trans (hc 5 (by omega))
      have q6:∀ X:WIn Inv0,X.world.cell? ⟨b,off+k*12+6,none⟩=some (.int .i64 x.sk.cr):=fun X=>((HQ.out X).cell (p:=⟨b,off+k*12+6,none⟩) hb).trans (hc 6 (by omega))
      have q7:∀ X:WIn Inv0,X.world.cell? ⟨b,off+k*12+7,none⟩=some (.int .i64 x.sk.cc):=fun X=>((HQ.out X).cell (p:=⟨b,off+k*12+7,none⟩) hb).trans (hc 7 (by omega))
      have q8:∀ X:WIn Inv0,X.world.cell? ⟨b,off+k*12+8,none⟩=some (.slice p.ss.ca p.ss.cl p.ss.cc):=fun X=>((HQ.out X).cell (p:=⟨b,off+k*12+8,none⟩) hb).trans (hc 8 (by omega))
      have q9:∀ X:WIn Inv0,X.world.cell? ⟨b,off+k*12+9,none⟩=some (.int .i64 x.sk.gf):=fun X=>((HQ.out X).cell (p:=⟨b,off+k*12+9,none⟩) hb).trans (hc 9 (by omega))
      have q10:∀ X:WIn Inv0,X.world.cell? ⟨b,off+k*12+10,none⟩=some (.slice p.ss.ga p.ss.gl p.ss.gc):=fun X=>((HQ.out X).cell (p:=⟨b,off+k*12+10,none⟩) hb).trans (hc 10 (by omega))
      have q11:∀ X:WIn Inv0,X.world.cell? ⟨b,off+k*12+11,none⟩=some (.int .u64 x.seen):=fun X=>((HQ.out X).cell (p:=⟨b,off+k*12+11,none⟩) hb).trans (hc 11 (by omega))
      have hI0:Hid (Inv0 (World.drew wr)):=hB.drew;have hne:Nonempty (WIn Inv0):=⟨⟨_,hI0.out⟩⟩;clear hgo hB hc;clear_value Inv0;go_wp2_with fail;refine jac Inv0 (by kernel_rfl) (by kernel_rfl) hI0.out ?_
      repeat (first | go_big_quiet_step ((first | (go_at_call 91;with_reducible exact K1.out _) | (go_at_call 92;with_reducible exact K2.out _) | (go_at_call 93;with_reducible exact K3.out _))) | quiet_step ((first | (go_at_call 91;with_reducible exact K1.out _) | (go_at_call 92;with_reducible exact K2.out _) | (go_at_call 93;with_reducible exact K3.out _))))
      refine wpQuiet_nil ?_;rintro _ ⟨X,rfl⟩;have HBw2:=HQ.out X;obtain⟨w2,hww2⟩:∃ w2,X.world=w2:=⟨_,rfl⟩;rw[hww2] at HBw2 ⊢;clear HQ K1 K2  q0 q1 q2 q3 q4 q5 q6 q7 q8 q9 q10 q11 hI0 hne hww2 X;go_wp2_with fail;go_roundw
      case rel=>exact⟨k+1,by go_num,by omega,HBw2,H9.out⟩
      case measure=>simp[intOf];omega
   ·have g0:decide ((0:Int)<(k:Int))=true:=by rw[decide_eq_true_iff];omega
    have g1:decide (0<k)=true:=decide_eq_true k0;obtain⟨⟨y,py⟩,hy⟩:∃ x,l[k-1]? = some x:=⟨_,List.getElem?_eq_getElem (by have:=E1.out;omega)⟩;obtain⟨b',off',ea',-,hc'⟩:=HA.out.row.1.2 (k-1) (y,py) hy
    cases ea'
    have HPy:Hid (∀ W,Below w.heap.size w W->py.At W.heap.size W y):=fun W hbw=>((HA.out.at_ _ (List.mem_of_getElem? hy)).below hbw).mono hbw.size
    have HFy:=Lib.hid (HF.out _ (List.mem_of_getElem? hy));have HZ:Hid (∀ W,Below w.heap.size w W->Calls Tryz.prog 93 #[.slice py.la py.ll py.lc,.slice p.la p.ll p.lc] W fun e w'=>e=.returned (.bool (jau y.l x.l))/\Below W.heap.size W w'):=fun W hbw=>jg0 _ _ _ _ _ _ _ _ W (HPy.out W hbw).l.1 (HP.out W hbw).l.1 HFy.out.lab (by have h9:py.ll<4294967281:=HFy.out.ll;unfold maxLen;omega)
    have hy1:(l.map (·.1))[k-1]? = some y:=by rw[List.getElem?_map,hy];rfl
    have HX:Hid (R=(jar x.l&&jcd x.sk&&jau y.l x.l&&jbJ (jcP (l.map (·.1)) (k+1)) ((l.map (·.1)).drop (k+1))&&decide (len<=20))):=by
     rw[Hid,HS.out,jl9 k0 hx1 hy1]
    have j0:wrap64 ((k:Int)-1)=((k-1:Nat):Int):=by rw[show ((k:Int)-1)=((k-1:Nat):Int) by omega];exact IntWalk.wrap64_in ((k-1:Nat):Int) (by omega)
    have j1:((k-1:Nat):Int)<(len:Int):=by omega
    have j2:(0:Int)<=((k-1:Nat):Int):=Int.natCast_nonneg _;clear hx hx1 hy hy1 HS HP HFx HPy HFy;generalize jar x.l=bn at HN HX;generalize jcd x.sk=bv at HU HX;generalize jau y.l x.l=bz at HZ HX
    cases bn with
    | false =>
     have H9:Hid (R=false):=HX.out.trans (by simp);let Inv0:World->Prop:=fun W=>Below w.heap.size w W
     have hgo:∀ W W',Inv0 W->Below W.heap.size W W'->Inv0 W':=fun W W' h hb=>Below.trans h (hb.mono (Below.size h))
     have K1:Hid (∀ X:WIn Inv0,Calls Tryz.prog 91 #[.slice p.la p.ll p.lc] X.world fun e w'=>e=.returned (.bool false)/\∃ Y:WIn Inv0,w'=Y.world):=fun X=>jab hgo (HN.out X.world X.ok)
     have HQ:Hid (∀ X:WIn Inv0,Below w.heap.size w X.world):=fun X=>X.ok
     have q0:∀ X:WIn Inv0,X.world.cell? ⟨b,off+k*12,none⟩=some (.slice p.la p.ll p.lc):=fun X=>((HQ.out X).cell (p:=⟨b,off+k*12,none⟩) hb).trans (hc 0 (by omega))
     have q1:∀ X:WIn Inv0,X.world.cell? ⟨b,off+k*12+1,none⟩=some (.int .i64 x.sk.kind):=fun X=>((HQ.out X).cell (p:=⟨b,off+k*12+1,none⟩) hb).trans (hc 1 (by omega))
     have q2:∀ X:WIn Inv0,X.world.cell? ⟨b,off+k*12+2,none⟩=some (.int .i64 x.sk.level):=fun X=>((HQ.out X).cell (p:=⟨b,off+k*12+2,none⟩) hb).trans (hc 2 (by omega))
     have q3:∀ X:WIn Inv0,X.world.cell? ⟨b,off+k*12+3,none⟩=some (.slice p.ss.ea p.ss.el p.ss.ec):=fun X=>((HQ.out X).cell (p:=⟨b,off+k*12+3,none⟩) hb).trans (hc 3 (by omega))
     have q4:∀ X:WIn Inv0,X.world.cell? ⟨b,off+k*12+4,none⟩=some (.int .i64 x.sk.hb):=fun X=>((HQ.out X).cell (p:=⟨b,off+k*12+4,none⟩) hb).trans (hc 4 (by omega))
     have q5:∀ X:WIn Inv0,X.world.cell? ⟨b,off+k*12+5,none⟩=some (.string x.sk.hr):=fun X=>((HQ.out X).cell (p:=⟨b,off+k*12+5,none⟩) hb).trans (hc 5 (by omega))
     have q6:∀ X:WIn Inv0,X.world.cell? ⟨b,off+k*12+6,none⟩=some (.int .i64 x.sk.cr):=fun X=>((HQ.out X).cell (p:=⟨b,off+k*12+6,none⟩) hb).trans (hc 6 (by omega))
     have q7:∀ X:WIn Inv0,X.world.cell? ⟨b,off+k*12+7,none⟩=some (.int .i64 x.sk.cc):=fun X=>((HQ.out X).cell (p:=⟨b,off+k*12+7,none⟩) hb).trans (hc 7 (by omega))
     have q8:∀ X:WIn Inv0,X.world.cell? ⟨b,off+k*12+8,none⟩=some (.slice p.ss.ca p.ss.cl p.ss.cc):=fun X=>((HQ.out X).cell (p:=⟨b,off+k*12+8,none⟩) hb).trans (hc 8 (by omega))
     have q9:∀ X:WIn Inv0,X.world.cell? ⟨b,off+k*12+9,none⟩=some (.int .i64 x.sk.gf):=fun X=>((HQ.out X).cell (p:=⟨b,off+k*12+9,none⟩) hb).trans (hc 9 (by omega))
     have q10:∀ X:WIn Inv0,X.world.cell? ⟨b,off+k*12+10,none⟩=some (.slice p.ss.ga p.ss.gl p.ss.gc):=fun X=>((HQ.out X).cell (p:=⟨b,off+k*12+10,none⟩) hb).trans (hc 10 (by omega))
     have q11:∀ X:WIn Inv0,X.world.cell? ⟨b,off+k*12+11,none⟩=some (.int .u64 x.seen):=fun X=>((HQ.out X).cell (p:=⟨b,off+k*12+11,none⟩) hb).trans (hc 11 (by omega))
     have hI0:Hid (Inv0 (World.drew wr)):=hB.drew;have hne:Nonempty (WIn Inv0):=⟨⟨_,hI0.out⟩⟩;clear hgo hB hc;clear_value Inv0;go_wp2_with fail;refine jac Inv0 (by kernel_rfl) (by kernel_rfl) hI0.out ?_
     repeat (first | go_big_quiet_step ((first | (go_at_call 91;with_reducible exact K1.out _) | (go_at_call 92;with_reducible exact K2.out _) | (go_at_call 93;with_reducible exact K3.out _))) | quiet_step ((first | (go_at_call 91;with_reducible exact K1.out _) | (go_at_call 92;with_reducible exact K2.out _) | (go_at_call 93;with_reducible exact K3.out _))))
     refine wpQuiet_nil ?_;rintro _ ⟨X,rfl⟩;have HBw2:=HQ.out X;obtain⟨w2,hww2⟩:∃ w2,X.world=w2:=⟨_,rfl⟩;rw[hww2] at HBw2 ⊢;clear HQ K1  q0 q1 q2 q3 q4 q5 q6 q7 q8 q9 q10 q11 hI0 hne hww2 X;go_wp2_with fail;go_ret;exact⟨by rw[H9.out];rfl,HBw2⟩
    | true =>
     cases bv with
     | false =>
      have H9:Hid (R=false):=HX.out.trans (by simp);let Inv0:World->Prop:=fun W=>Below w.heap.size w W
      have hgo:∀ W W',Inv0 W->Below W.heap.size W W'->Inv0 W':=fun W W' h hb=>Below.trans h (hb.mono (Below.size h))
      have K1:Hid (∀ X:WIn Inv0,Calls Tryz.prog 91 #[.slice p.la p.ll p.lc] X.world fun e w'=>e=.returned (.bool true)/\∃ Y:WIn Inv0,w'=Y.world):=fun X=>jab hgo (HN.out X.world X.ok)
      have K2:Hid (∀ X:WIn Inv0,Calls Tryz.prog 92 #[.agg #[.int .i64 x.sk.kind,.int .i64 x.sk.level,.slice p.ss.ea p.ss.el p.ss.ec,.int .i64 x.sk.hb,.string x.sk.hr,.int .i64 x.sk.cr,.int .i64 x.sk.cc,.slice p.ss.ca p.ss.cl p.ss.cc,.int .i64 x.sk.gf,.slice p.ss.ga p.ss.gl p.ss.gc]] X.world fun e w'=>e=.returned (.bool false)/\∃ Y:WIn Inv0,w'=Y.world):=fun X=>jab hgo (HU.out X.world X.ok)
      have HQ:Hid (∀ X:WIn Inv0,Below w.heap.size w X.world):=fun X=>X.ok
      have q0:∀ X:WIn Inv0,X.world.cell? ⟨b,off+k*12,none⟩=some (.slice p.la p.ll p.lc):=fun X=>((HQ.out X).cell (p:=⟨b,off+k*12,none⟩) hb).trans (hc 0 (by omega))
      have q1:∀ X:WIn Inv0,X.world.cell? ⟨b,off+k*12+1,none⟩=some (.int .i64 x.sk.kind):=fun X=>((HQ.out X).cell (p:=⟨b,off+k*12+1,none⟩) hb).trans (hc 1 (by omega))
      have q2:∀ X:WIn Inv0,X.world.cell? ⟨b,off+k*12+2,none⟩=some (.int .i64 x.sk.level):=fun X=>((HQ.out X).cell (p:=⟨b,off+k*12+2,none⟩) hb).trans (hc 2 (by omega))
      have q3:∀ X:WIn Inv0,X.world.cell? ⟨b,off+k*12+3,none⟩=some (.slice p.ss.ea p.ss.el p.ss.ec):=fun X=>((HQ.out X).cell (p:=⟨b,off+k*12+3,none⟩) hb).trans (hc 3 (by omega))
      have q4:∀ X:WIn Inv0,X.world.cell? ⟨b,off+k*12+4,none⟩=some (.int .i64 x.sk.hb):=fun X=>((HQ.out X).cell (p:=⟨b,off+k*12+4,none⟩) hb).trans (hc 4 (by omega))
      have q5:∀ X:WIn Inv0,X.world.cell? ⟨b,off+k*12+5,none⟩=some (.string x.sk.hr):=fun X=>((HQ.out X).cell (p:=⟨b,off+k*12+5,none⟩) hb).trans (hc 5 (by omega))
      have q6:∀ X:WIn Inv0,X.world.cell? ⟨b,off+k*12+6,none⟩=some (.int .i64 x.sk.cr):=fun X=>((HQ.out X).cell (p:=⟨b,off+k*12+6,none⟩) hb).trans (hc 6 (by omega))
      have q7:∀ X:WIn Inv0,X.world.cell? ⟨b,off+k*12+7,none⟩=some (.int .i64 x.sk.cc):=fun X=>((HQ.out X).cell (p:=⟨b,off+k*12+7,none⟩) hb).trans (hc 7 (by omega))
      have q8:∀ X:WIn Inv0,X.world.cell? ⟨b,off+k*12+8,none⟩=some (.slice p.ss.ca p.ss.cl p.ss.cc):=fun X=>((HQ.out X).cell (p:=⟨b,off+k*12+8,none⟩) hb).trans (hc 8 (by omega))
      have q9:∀ X:WIn Inv0,X.world.cell? ⟨b,off+k*12+9,none⟩=some (.int .i64 x.sk.gf):=fun X=>((HQ.out X).cell (p:=⟨b,off+k*12+9,none⟩) hb).trans (hc 9 (by omega))
      have q10:∀ X:WIn Inv0,X.world.cell? ⟨b,off+k*12+10,none⟩=some (.slice p.ss.ga p.ss.gl p.ss.gc):=fun X=>((HQ.out X).cell (p:=⟨b,off+k*12+10,none⟩) hb).trans (hc 10 (by omega))
      have q11:∀ X:WIn Inv0,X.world.cell? ⟨b,off+k*12+11,none⟩=some (.int .u64 x.seen):=fun X=>((HQ.out X).cell (p:=⟨b,off+k*12+11,none⟩) hb).trans (hc 11 (by omega))
      have hI0:Hid (Inv0 (World.drew wr)):=hB.drew;have hne:Nonempty (WIn Inv0):=⟨⟨_,hI0.out⟩⟩;clear hgo hB hc;clear_value Inv0;go_wp2_with fail;refine jac Inv0 (by kernel_rfl) (by kernel_rfl) hI0.out ?_
      repeat (first | go_big_quiet_step ((first | (go_at_call 91;with_reducible exact K1.out _) | (go_at_call 92;with_reducible exact K2.out _) | (go_at_call 93;with_reducible exact K3.out _))) | quiet_step ((first | (go_at_call 91;with_reducible exact K1.out _) | (go_at_call 92;with_reducible exact K2.out _) | (go_at_call 93;with_reducible exact K3.out _))))
      refine wpQuiet_nil ?_;rintro _ ⟨X,rfl⟩;have HBw2:=HQ.out X;obtain⟨w2,hww2⟩:∃ w2,X.world=w2:=⟨_,rfl⟩;rw[hww2] at HBw2 ⊢;clear HQ K1 K2  q0 q1 q2 q3 q4 q5 q6 q7 q8 q9 q10 q11 hI0 hne hww2 X;go_wp2_with fail;go_ret;exact⟨by rw[H9.out];rfl,HBw2⟩
     | true =>
      cases bz with
      | false =>
       have H9:Hid (R=false):=HX.out.trans (by simp);let Inv0:World->Prop:=fun W=>Below w.heap.size w W
       have hgo:∀ W W',Inv0 W->Below W.heap.size W W'->Inv0 W':=fun W W' h hb=>Below.trans h (hb.mono (Below.size h))
       have K1:Hid (∀ X:WIn Inv0,Calls Tryz.prog 91 #[.slice p.la p.ll p.lc] X.world fun e w'=>e=.returned (.bool true)/\∃ Y:WIn Inv0,w'=Y.world):=fun X=>jab hgo (HN.out X.world X.ok)
       have K2:Hid (∀ X:WIn Inv0,Calls Tryz.prog 92 #[.agg #[.int .i64 x.sk.kind,.int .i64 x.sk.level,.slice p.ss.ea p.ss.el p.ss.ec,.int .i64 x.sk.hb,.string x.sk.hr,.int .i64 x.sk.cr,.int .i64 x.sk.cc,.slice p.ss.ca p.ss.cl p.ss.cc,.int .i64 x.sk.gf,.slice p.ss.ga p.ss.gl p.ss.gc]] X.world fun e w'=>e=.returned (.bool true)/\∃ Y:WIn Inv0,w'=Y.world):=fun X=>jab hgo (HU.out X.world X.ok)
       have K3:Hid (∀ X:WIn Inv0,Calls Tryz.prog 93 #[.slice py.la py.ll py.lc,.slice p.la p.ll p.lc] X.world fun e w'=>e=.returned (.bool false)/\∃ Y:WIn Inv0,w'=Y.world):=fun X=>jab hgo (HZ.out X.world X.ok)
       have HQ:Hid (∀ X:WIn Inv0,Below w.heap.size w X.world):=fun X=>X.ok
       have q0:∀ X:WIn Inv0,X.world.cell? ⟨b,off+k*12,none⟩=some (.slice p.la p.ll p.lc):=fun X=>((HQ.out X).cell (p:=⟨b,off+k*12,none⟩) hb).trans (hc 0 (by omega))
       have q1:∀ X:WIn Inv0,X.world.cell? ⟨b,off+k*12+1,none⟩=some (.int .i64 x.sk.kind):=fun X=>((HQ.out X).cell (p:=⟨b,off+k*12+1,none⟩) hb).trans (hc 1 (by omega))
       have q2:∀ X:WIn Inv0,X.world.cell? ⟨b,off+k*12+2,none⟩=some (.int .i64 x.sk.level):=fun X=>((HQ.out X).cell (p:=⟨b,off+k*12+2,none⟩) hb).trans (hc 2 (by omega))
       have q3:∀ X:WIn Inv0,X.world.cell? ⟨b,off+k*12+3,none⟩=some (.slice p.ss.ea p.ss.el p.ss.ec):=fun X=>((HQ.out X).cell (p:=⟨b,off+k*12+3,none⟩) hb).trans (hc 3 (by omega))
       have q4:∀ X:WIn Inv0,X.world.cell? ⟨b,off+k*12+4,none⟩=some (.int .i64 x.sk.hb):=fun X=>((HQ.out X).cell (p:=⟨b,off+k*12+4,none⟩) hb).trans (hc 4 (by omega))
       have q5:∀ X:WIn Inv0,X.world.cell? ⟨b,off+k*12+5,none⟩=some (.string x.sk.hr):=fun X=>((HQ.out X).cell (p:=⟨b,off+k*12+5,none⟩) hb).trans (hc 5 (by omega))
       have q6:∀ X:WIn Inv0,X.world.cell? ⟨b,off+k*12+6,none⟩=some (.int .i64 x.sk.cr):=fun X=>((HQ.out X).cell (p:=⟨b,off+k*12+6,none⟩) hb).trans (hc 6 (by omega))
       have q7:∀ X:WIn Inv0,X.world.cell? ⟨b,off+k*12+7,none⟩=some (.int .i64 x.sk.cc):=fun X=>((HQ.out X).cell (p:=⟨b,off+k*12+7,none⟩) hb).trans (hc 7 (by omega))
       have q8:∀ X:WIn Inv0,X.world.cell? ⟨b,off+k*12+8,none⟩=some (.slice p.ss.ca p.ss.cl p.ss.cc):=fun X=>((HQ.out X).cell (p:=⟨b,off+k*12+8,none⟩) hb).trans (hc 8 (by omega))
       have q9:∀ X:WIn Inv0,X.world.cell? ⟨b,off+k*12+9,none⟩=some (.int .i64 x.sk.gf):=fun X=>((HQ.out X).cell (p:=⟨b,off+k*12+9,none⟩) hb).trans (hc 9 (by omega))
       have q10:∀ X:WIn Inv0,X.world.cell? ⟨b,off+k*12+10,none⟩=some (.slice p.ss.ga p.ss.gl p.ss.gc):=fun X=>((HQ.out X).cell (p:=⟨b,off+k*12+10,none⟩) hb).trans (hc 10 (by omega))
       have q11:∀ X:WIn Inv0,X.world.cell? ⟨b,off+k*12+11,none⟩=some (.int .u64 x.seen):=fun X=>((HQ.out X).cell (p:=⟨b,off+k*12+11,none⟩) hb).trans (hc 11 (by omega))
       have q12:∀ X:WIn Inv0,X.world.cell? ⟨b,off+(k-1)*12,none⟩=some (.slice py.la py.ll py.lc):=fun X=>((HQ.out X).cell (p:=⟨b,off+(k-1)*12,none⟩) hb).trans (hc' 0 (by omega))
       have hI0:Hid (Inv0 (World.drew wr)):=hB.drew;have hne:Nonempty (WIn Inv0):=⟨⟨_,hI0.out⟩⟩;clear hgo hB hc hc';clear_value Inv0;go_wp2_with fail;refine jac Inv0 (by kernel_rfl) (by kernel_rfl) hI0.out ?_
       repeat (first | go_big_quiet_step ((first | (go_at_call 91;with_reducible exact K1.out _) | (go_at_call 92;with_reducible exact K2.out _) | (go_at_call 93;with_reducible exact K3.out _))) | quiet_step ((first | (go_at_call 91;with_reducible exact K1.out _) | (go_at_call 92;with_reducible exact K2.out _) | (go_at_call 93;with_reducible exact K3.out _))))
       refine wpQuiet_nil ?_;rintro _ ⟨X,rfl⟩;have HBw2:=HQ.out X;obtain⟨w2,hww2⟩:∃ w2,X.world=w2:=⟨_,rfl⟩;rw[hww2] at HBw2 ⊢;clear HQ K1 K2 K3 q0 q1 q2 q3 q4 q5 q6 q7 q8 q9 q10 q11 q12 hI0 hne hww2 X;go_wp2_with fail;go_ret;exact⟨by rw[H9.out];rfl,HBw2⟩
      | true =>
       have H9:Hid (R=(jbJ (jcP (l.map (·.1)) (k+1)) ((l.map (·.1)).drop (k+1))&&decide (len<=20))):=HX.out.trans (by simp);let Inv0:World->Prop:=fun W=>Below w.heap.size w W
       have hgo:∀ W W',Inv0 W->Below W.heap.size W W'->Inv0 W':=fun W W' h hb=>Below.trans h (hb.mono (Below.size h))
       have K1:Hid (∀ X:WIn Inv0,Calls Tryz.prog 91 #[.slice p.la p.ll p.lc] X.world fun e w'=>e=.returned (.bool true)/\∃ Y:WIn Inv0,w'=Y.world):=fun X=>jab hgo (HN.out X.world X.ok)
       have K2:Hid (∀ X:WIn Inv0,Calls Tryz.prog 92 #[.agg #[.int .i64 x.sk.kind,.int .i64 x.sk.level,.slice p.ss.ea p.ss.el p.ss.ec,.int .i64 x.sk.hb,.string x.sk.hr,.int .i64 x.sk.cr,.int .i64 x.sk.cc,.slice p.ss.ca p.ss.cl p.ss.cc,.int .i64 x.sk.gf,.slice p.ss.ga p.ss.gl p.ss.gc]] X.world fun e w'=>e=.returned (.bool true)/\∃ Y:WIn Inv0,w'=Y.world):=fun X=>jab hgo (HU.out X.world X.ok)
       have K3:Hid (∀ X:WIn Inv0,Calls Tryz.prog 93 #[.slice py.la py.ll py.lc,.slice p.la p.ll p.lc] X.world fun e w'=>e=.returned (.bool true)/\∃ Y:WIn Inv0,w'=Y.world):=fun X=>jab hgo (HZ.out X.world X.ok)
       have HQ:Hid (∀ X:WIn Inv0,Below w.heap.size w X.world):=fun X=>X.ok
       have q0:∀ X:WIn Inv0,X.world.cell? ⟨b,off+k*12,none⟩=some (.slice p.la p.ll p.lc):=fun X=>((HQ.out X).cell (p:=⟨b,off+k*12,none⟩) hb).trans (hc 0 (by omega))
       have q1:∀ X:WIn Inv0,X.world.cell? ⟨b,off+k*12+1,none⟩=some (.int .i64 x.sk.kind):=fun X=>((HQ.out X).cell (p:=⟨b,off+k*12+1,none⟩) hb).trans (hc 1 (by omega))
       have q2:∀ X:WIn Inv0,X.world.cell? ⟨b,off+k*12+2,none⟩=some (.int .i64 x.sk.level):=fun X=>((HQ.out X).cell (p:=⟨b,off+k*12+2,none⟩) hb).trans (hc 2 (by omega))
       have q3:∀ X:WIn Inv0,X.world.cell? ⟨b,off+k*12+3,none⟩=some (.slice p.ss.ea p.ss.el p.ss.ec):=fun X=>((HQ.out X).cell (p:=⟨b,off+k*12+3,none⟩) hb).trans (hc 3 (by omega))
       have q4:∀ X:WIn Inv0,X.world.cell? ⟨b,off+k*12+4,none⟩=some (.int .i64 x.sk.hb):=fun X=>((HQ.out X).cell (p:=⟨b,off+k*12+4,none⟩) hb).trans (hc 4 (by omega))
       have q5:∀ X:WIn Inv0,X.world.cell? ⟨b,off+k*12+5,none⟩=some (.string x.sk.hr):=fun X=>((HQ.out X).cell (p:=⟨b,off+k*12+5,none⟩) hb).trans (hc 5 (by omega))
       have q6:∀ X:WIn Inv0,X.world.cell? ⟨b,off+k*12+6,none⟩=some (.int .i64 x.sk.cr):=fun X=>((HQ.out X).cell (p:=⟨b,off+k*12+6,none⟩) hb).trans (hc 6 (by omega))
       have q7:∀ X:WIn Inv0,X.world.cell? ⟨b,off+k*12+7,none⟩=some (.int .i64 x.sk.cc):=fun X=>((HQ.out X).cell (p:=⟨b,off+k*12+7,none⟩) hb).trans (hc 7 (by omega))
       have q8:∀ X:WIn Inv0,X.world.cell? ⟨b,off+k*12+8,none⟩=some (.slice p.ss.ca p.ss.cl p.ss.cc):=fun X=>((HQ.out X).cell (p:=⟨b,off+k*12+8,none⟩) hb).trans (hc 8 (by omega))
       have q9:∀ X:WIn Inv0,X.world.cell? ⟨b,off+k*12+9,none⟩=some (.int .i64 x.sk.gf):=fun X=>((HQ.out X).cell (p:=⟨b,off+k*12+9,none⟩) hb).trans (hc 9 (by omega))
       have q10:∀ X:WIn Inv0,X.world.cell? ⟨b,off+k*12+10,none⟩=some (.slice p.ss.ga p.ss.gl p.ss.gc):=fun X=>((HQ.out X).cell (p:=⟨b,off+k*12+10,none⟩) hb).trans (hc 10 (by omega))
       have q11:∀ X:WIn Inv0,X.world.cell? ⟨b,off+k*12+11,none⟩=some (.int .u64 x.seen):=fun X=>((HQ.out X).cell (p:=⟨b,off+k*12+11,none⟩) hb).trans (hc 11 (by omega))
       have q12:∀ X:WIn Inv0,X.world.cell? ⟨b,off+(k-1)*12,none⟩=some (.slice py.la py.ll py.lc):=fun X=>((HQ.out X).cell (p:=⟨b,off+(k-1)*12,none⟩) hb).trans (hc' 0 (by omega))
       have hI0:Hid (Inv0 (World.drew wr)):=hB.drew;have hne:Nonempty (WIn Inv0):=⟨⟨_,hI0.out⟩⟩;clear hgo hB hc hc';clear_value Inv0;go_wp2_with fail;refine jac Inv0 (by kernel_rfl) (by kernel_rfl) hI0.out ?_
       repeat (first | go_big_quiet_step ((first | (go_at_call 91;with_reducible exact K1.out _) | (go_at_call 92;with_reducible exact K2.out _) | (go_at_call 93;with_reducible exact K3.out _))) | quiet_step ((first | (go_at_call 91;with_reducible exact K1.out _) | (go_at_call 92;with_reducible exact K2.out _) | (go_at_call 93;with_reducible exact K3.out _))))
       refine wpQuiet_nil ?_;rintro _ ⟨X,rfl⟩;have HBw2:=HQ.out X;obtain⟨w2,hww2⟩:∃ w2,X.world=w2:=⟨_,rfl⟩;rw[hww2] at HBw2 ⊢;clear HQ K1 K2 K3 q0 q1 q2 q3 q4 q5 q6 q7 q8 q9 q10 q11 q12 hI0 hne hww2 X;go_wp2_with fail;go_roundw
       case rel=>exact⟨k+1,by go_num,by omega,HBw2,H9.out⟩
       case measure=>simp[intOf];omega
  ·have hkl:k=len:=by omega
   have HD:Hid (jbJ (jcP (l.map (·.1)) k) ((l.map (·.1)).drop k)=true):=by
    rw[Hid,List.drop_eq_nil_of_le (by rw[List.length_map];have:=E1.out;omega)]
    cases jcP (l.map (·.1)) k<;>rfl
   have H9:Hid (R=decide (len<=20)):=by rw[Hid,HS.out,HD.out,Bool.true_and]
   have h6:decide ((len:Int)<=20)=decide (len<=20):=decide_eq_decide.2 (by omega);go_wp2_with fail;go_ret;exact⟨by rw[H9.out];first | rfl | (simp only[h6];rfl),hB⟩
end Go.Proofs.YtieknocphiceoaaGreatDoor
namespace Go.Proofs.YtieknocphiceoaaGreatDoor
open Go Go.RowKit
theorem jnb (xs:List (List UInt8)) (x sep:List UInt8) (h:xs≠[]):Lib.join (xs++[x]) sep=Lib.join xs sep++(sep++x):=by
 cases xs with
 | nil=>exact absurd rfl h
 | cons y r =>
  rw[List.cons_append,Lib.join_cons,Lib.join_cons];unfold Lib.joinTail;simp
def jjm (x:Lab):List UInt8:=x.name.data.toList++[61]++jaO x.value.data.toList
theorem jpG (x:Lab) (h:jbc x.value=true):(jc7 x).data.toList=jjm x:=by
 have h1:=jjq x.value x.value.size 0 (by omega) h;rw[List.drop_zero] at h1;unfold jc7 jjm;rw[h1];simp
def jdn (ls:List Lab) (k:Nat):List UInt8:=Lib.join ((ls.take k).map jjm) [44]
theorem jjH {ls:List Lab} {x:Lab} (h:ls[0]? = some x):jdn ls 1=jjm x:=by
 cases ls with
 | nil=>cases h
 | cons y r =>
  injection h with h
  subst h;show Lib.join [jjm y] [44]=jjm y;exact Lib.join_one _ _
theorem jkF {ls:List Lab} {k:Nat} {x:Lab} (hk:0<k) (h:ls[k]? = some x):jdn ls (k+1)=jdn ls k++([44]++jjm x):=by
 unfold jdn;obtain⟨hlt,e⟩:=List.getElem?_eq_some_iff.1 h;rw[<- List.take_append_getElem hlt,List.map_append,e]
 exact jnb _ _ _ (by
  intro e2;have:=congrArg List.length e2;rw[List.length_map,List.length_take,List.length_nil] at this;omega)
theorem ji6 (b:ByteArray) (ls:List Lab) (h:jdv b ls=true):∀ x∈ls,jbc x.value=true:=by
 induction ls generalizing b with
 | nil=>intro x hx;cases hx
 | cons y ys ih =>
  unfold jdv at h;simp only[Bool.and_eq_true] at h;intro x hx;rcases List.mem_cons.1 hx with rfl | hx
  ·have:=h.1.2
   unfold jbs at this;simp only[Bool.and_eq_true] at this;exact this.1.1
  ·exact ih _ h.2 x hx
theorem jnd {ls:List Lab} (h:jar ls=true):(jdw ls).data.toList=jdn ls ls.length:=by
 unfold jar at h;simp only[Bool.and_eq_true] at h;have hv:=ji6 _ _ h.2;unfold jdw jdn;rw[List.take_length];show Lib.join ((ls.map jc7).map (·.data.toList)) [44]=_;rw[List.map_map];congr 1;exact List.map_congr_left fun x hx=>jpG x (hv x hx)
end Go.Proofs.YtieknocphiceoaaGreatDoor
namespace Go.Proofs.YtieknocphiceoaaGreatDoor
open Go Go.RowKit Go.Shelf
theorem jbZ (l:List UInt8) (b:UInt8):jaO (l++[b])=jaO l++(if b=44\/b=92 then [92,b] else [b]):=by
 unfold jaO;rw[List.flatMap_append];simp
theorem jnV (v:ByteArray) (j:Nat) (h:j<v.size):v.data.toList.take (j+1)=v.data.toList.take j++[v[j]'h]:=by
 have h1:j<v.data.toList.length:=by rw[Array.length_toList];exact h
 rw[<- List.take_append_getElem h1];rfl
theorem jmR (v:ByteArray) (j:Nat) (h:j<v.size):(v.extract j (j+1)).data.toList=[v[j]'h]:=by
 rw[ByteArray.data_extract,Array.toList_extract,List.extract_eq_take_drop,jer v j h,Nat.add_sub_cancel_left];rfl
theorem sz1 (b:UInt8):(⟨#[b]⟩:ByteArray).size=1:=rfl
theorem jkQ (W:World):(convert 191 9 (.slice (some ⟨W.heap.size,0,none⟩) 1 1)).run Tryz.prog (W.alloc (.cells #[.int .u8 92] 5))=.ok (.string ⟨#[92]⟩) (W.alloc (.cells #[.int .u8 92] 5)):=by
 have h:=run_convert_bytes_arg (P:=Tryz.prog) (W.alloc (.cells #[.int .u8 92] 5)) 191 5 (by kernel_rfl) (by kernel_rfl) W.heap.size 0 1 1 [92] rfl (fun i hi=>by
  rw[cCc (World.alloc_heap_new W _)];rcases (by omega:i=0) with rfl
  rfl) 9 (by kernel_rfl)
 rw[h];rfl
set_option maxRecDepth 100000 in
set_option maxHeartbeats 400000 in
theorem jg4 (a:Option Addr) (len cap:Nat) (l:List Lab) (w:World) (h:SlE Lab.enc 2 w.heap.size w a len l) (ho:jez l) (hm:len<=maxLen) :
  Calls Tryz.prog 94 #[.slice a len cap] w fun e w'=>e=.returned (.tuple #[.string (if jar l then jdw l else ⟨#[]⟩),.int .i64 (if jar l then 0 else 40)])/\Below w.heap.size w w':=by
 have hR:=jdW a len cap l w h ho hm;unfold maxLen at hm;have E1:=Lib.hid h.1;have HA:=Lib.hid h;clear h
 cases hr:jar l with
 | false =>
  rw[hr] at hR;go_enter Tryz.func94,Tryz.ntmps94;go_wp2_with (go_at_call 91;refine hR.mono ?_;rintro e w' ⟨rfl,hb'⟩);go_ret2;exact⟨rfl,hb'⟩
 | true =>
  rw[hr] at hR;have HL:Hid ((jdw l).data.toList=jdn l len):=by rw[Hid,E1.out];exact jnd hr
  have h6:len<=6:=by
   have h7:=hr;unfold jar at h7;simp only[Bool.and_eq_true,decide_eq_true_iff] at h7;have:=E1.out;omega
  generalize jdw l=T at HL ⊢;clear hr;go_enter Tryz.func94,Tryz.ntmps94;go_wp2_with (go_at_call 91;refine hR.mono ?_;rintro e w' ⟨rfl,hb'⟩);go_loopw [4,5] (fun sv i wr=>∃ (t:ByteArray) (k:Nat),sv=.string t/\i=.int .i64 k/\k<=len/\Below w.heap.size w wr/\t.size<=k*17179869184/\Hid (t.data.toList=jdn l k)) (fun _ i _=>len-(intOf i).toNat)
  case atStart=>exact⟨_,0,rfl,rfl,Nat.zero_le _,hb',Nat.zero_le _,rfl⟩
  case round =>
   obtain⟨t,k,rfl,rfl,hk,hB,hts,HS⟩:=hrel;by_cases hlt:k<len
   ·obtain⟨x,b,off,hx,ea,hb,hc⟩:=(HA.out.below hB).at hlt
    subst ea;have p0:wr.cell? ⟨b,off+k*2,none⟩=some (.string x.name):=hc 0 (by omega);have p1:wr.cell? ⟨b,off+k*2+1,none⟩=some (.string x.value):=hc 1 (by omega);have i1:(k:Int)<(len:Int):=by omega
    have i0:(0:Int)<=(k:Int):=by omega
    obtain⟨on,ov⟩:=ho x (List.mem_of_getElem? hx);have HX:=Lib.hid hx;clear hc hx;rcases Nat.eq_zero_or_pos k with k0 | k0
    ·have g1:decide (0<k)=false:=by rw[decide_eq_false_iff_not];omega
     obtain⟨PL,hPL⟩:∃ PL,PL=x.name.data.toList++[61]:=⟨_,rfl⟩;have HPL:=Lib.hid hPL;clear hPL
     have HN:Hid (jdn l (k+1)=PL++jaO x.value.data.toList):=by
      subst k0;rw[Hid,jjH HX.out,HPL.out];rfl
     have HS0:Hid (t.data.toList=[]):=by rw[Hid,HS.out,k0];rfl
     clear k0;have s0:t.size+x.name.size<=9223372036854775807:=by omega
     have s1:t.size+x.name.size+1<=9223372036854775807:=by omega
     have s2:t.size+1<=9223372036854775807:=by omega
     have s3:t.size+1+x.name.size<=9223372036854775807:=by omega
     have s4:t.size+1+x.name.size+1<=9223372036854775807:=by omega
     go_wp2_with fail;go_loopw [4,7] (fun sv j wr2=>∃ (u:ByteArray) (n:Nat),sv=.string u/\j=.int .i64 n/\n<=x.value.size/\Below w.heap.size w wr2/\u.size<=k*17179869184+4294967290+2*n/\Hid (u.data.toList=PL++jaO (x.value.data.toList.take n))) (fun _ j _=>x.value.size-(intOf j).toNat)
     case atStart=>exact⟨_,0,rfl,rfl,Nat.zero_le _,hB,by simp only[ByteArray.size_append,sz1];omega,by rw[Hid,List.take_zero];show _=PL++[];rw[List.append_nil,HPL.out];simp[HS0.out]⟩
     case round =>
      obtain⟨u,n,rfl,rfl,hn,hB2,hus,HU⟩:=hrel;by_cases hlt2:n<x.value.size
      ·have hx:=UInt8.toNat_lt (x.value[n]'hlt2)
       have HT2:=Lib.hid (jnV x.value n hlt2);have HE2:=Lib.hid (jmR x.value n hlt2);have s5:u.size+1<=9223372036854775807:=by omega
       have s6:u.size+1+1<=9223372036854775807:=by omega
       have n0:(0:Int)<=(n:Int):=by omega
       have n1:(n:Int)<=(n:Int)+1:=by omega
       have n2:(n:Int)+1<=(x.value.size:Int):=by omega
       have n3:wrap64 ((n:Int)+1)=((n+1:Nat):Int):=by rw[show ((n:Int)+1)=((n+1:Nat):Int) by omega];exact IntWalk.wrap64_in ((n+1:Nat):Int) (by omega)
       by_cases h44:(x.value[n]'hlt2).toNat=44
       ·have e44:(((x.value[n]'hlt2).toNat:Int)==44)=true:=beq_iff_eq.2 (by omega)
        have HQ:Hid (jaO (x.value.data.toList.take (n+1))=jaO (x.value.data.toList.take n)++[92,x.value[n]'hlt2]):=by rw[Hid,HT2.out,jbZ,if_pos (.inl (UInt8.toNat_inj.1 h44))]
        clear h44 s0 s1 s2 s3 s4 HL HA HX HN HPL HS on ov ho hts p0 p1 hB h6 hk hn HS0;have HC:=jkQ wr;go_wp2_with fail;exact⟨⟨_,n+1,rfl,by rw[n3],by omega,(by first | exact hB2 | exact hB2.alloc hB2.size _),by simp only[ByteArray.size_append,sz1,ByteArray.size_extract];omega,by rw[Hid,HQ.out];simp[HU.out];simpa using HE2.out⟩,by rw[n3];simp[intOf];omega⟩
       ·by_cases h92:(x.value[n]'hlt2).toNat=92
        ·have e44:(((x.value[n]'hlt2).toNat:Int)==44)=false:=beq_eq_false_iff_ne.2 (by omega)
         have e92:(((x.value[n]'hlt2).toNat:Int)==92)=true:=beq_iff_eq.2 (by omega);have HQ:Hid (jaO (x.value.data.toList.take (n+1))=jaO (x.value.data.toList.take n)++[92,x.value[n]'hlt2]):=by rw[Hid,HT2.out,jbZ,if_pos (.inr (UInt8.toNat_inj.1 h92))]
         clear h44 h92 s0 s1 s2 s3 s4 HL HA HX HN HPL HS on ov ho hts p0 p1 hB h6 hk hn HS0;have HC:=jkQ wr;go_wp2_with fail;exact⟨⟨_,n+1,rfl,by rw[n3],by omega,(by first | exact hB2 | exact hB2.alloc hB2.size _),by simp only[ByteArray.size_append,sz1,ByteArray.size_extract];omega,by rw[Hid,HQ.out];simp[HU.out];simpa using HE2.out⟩,by rw[n3];simp[intOf];omega⟩
        ·have e44:(((x.value[n]'hlt2).toNat:Int)==44)=false:=beq_eq_false_iff_ne.2 (by omega)
         have e92:(((x.value[n]'hlt2).toNat:Int)==92)=false:=beq_eq_false_iff_ne.2 (by omega);have HQ:Hid (jaO (x.value.data.toList.take (n+1))=jaO (x.value.data.toList.take n)++[x.value[n]'hlt2]):=by rw[Hid,HT2.out,jbZ,if_neg (by rintro (e | e)<;>rw[e] at h44 h92<;>simp at h44 h92)]
         clear h44 h92 s0 s1 s2 s3 s4 HL HA HX HN HPL HS on ov ho hts p0 p1 hB h6 hk hn HS0;go_wp2_with fail;exact⟨⟨_,n+1,rfl,by rw[n3],by omega,(by first | exact hB2 | exact hB2.alloc hB2.size _),by simp only[ByteArray.size_append,ByteArray.size_extract];omega,by rw[Hid,HQ.out];simp[HU.out];simpa using HE2.out⟩,by rw[n3];simp[intOf];omega⟩
      ·have hn2:n=x.value.size:=by omega
       have HF:Hid (u.data.toList=jdn l (k+1)):=by rw[Hid,HU.out,HN.out,List.take_of_length_le (by rw[Array.length_toList];exact Nat.le_of_eq hn2.symm)]
       clear hn2;go_wp2_with fail;go_roundw
       case rel=>exact⟨_,k+1,rfl,by go_num,by omega,hB2,by omega,HF.out⟩
       case measure=>simp[intOf];omega
    ·have g1:decide (0<k)=true:=decide_eq_true k0
     obtain⟨PL,hPL⟩:∃ PL,PL=jdn l k++([44]++(x.name.data.toList++[61])):=⟨_,rfl⟩;have HPL:=Lib.hid hPL;clear hPL
     have HN:Hid (jdn l (k+1)=PL++jaO x.value.data.toList):=by
      rw[Hid,jkF k0 HX.out,HPL.out];unfold jjm;simp
     have s0:t.size+x.name.size<=9223372036854775807:=by omega
     have s1:t.size+x.name.size+1<=9223372036854775807:=by omega
     have s2:t.size+1<=9223372036854775807:=by omega
     have s3:t.size+1+x.name.size<=9223372036854775807:=by omega
     have s4:t.size+1+x.name.size+1<=9223372036854775807:=by omega
     go_wp2_with fail;go_loopw [4,7] (fun sv j wr2=>∃ (u:ByteArray) (n:Nat),sv=.string u/\j=.int .i64 n/\n<=x.value.size/\Below w.heap.size w wr2/\u.size<=k*17179869184+4294967290+2*n/\Hid (u.data.toList=PL++jaO (x.value.data.toList.take n))) (fun _ j _=>x.value.size-(intOf j).toNat)
     case atStart=>exact⟨_,0,rfl,rfl,Nat.zero_le _,hB,by simp only[ByteArray.size_append,sz1];omega,by rw[Hid,List.take_zero];show _=PL++[];rw[List.append_nil,HPL.out];simp[HS.out]⟩
     case round =>
      obtain⟨u,n,rfl,rfl,hn,hB2,hus,HU⟩:=hrel;by_cases hlt2:n<x.value.size
      ·have hx:=UInt8.toNat_lt (x.value[n]'hlt2)
       have HT2:=Lib.hid (jnV x.value n hlt2);have HE2:=Lib.hid (jmR x.value n hlt2);have s5:u.size+1<=9223372036854775807:=by omega
       have s6:u.size+1+1<=9223372036854775807:=by omega
       have n0:(0:Int)<=(n:Int):=by omega
       have n1:(n:Int)<=(n:Int)+1:=by omega
       have n2:(n:Int)+1<=(x.value.size:Int):=by omega
       have n3:wrap64 ((n:Int)+1)=((n+1:Nat):Int):=by rw[show ((n:Int)+1)=((n+1:Nat):Int) by omega];exact IntWalk.wrap64_in ((n+1:Nat):Int) (by omega)
       by_cases h44:(x.value[n]'hlt2).toNat=44
       ·have e44:(((x.value[n]'hlt2).toNat:Int)==44)=true:=beq_iff_eq.2 (by omega)
        have HQ:Hid (jaO (x.value.data.toList.take (n+1))=jaO (x.value.data.toList.take n)++[92,x.value[n]'hlt2]):=by rw[Hid,HT2.out,jbZ,if_pos (.inl (UInt8.toNat_inj.1 h44))]
        clear h44 s0 s1 s2 s3 s4 HL HA HX HN HPL HS on ov ho hts p0 p1 hB h6 hk hn;have HC:=jkQ wr;go_wp2_with fail;exact⟨⟨_,n+1,rfl,by rw[n3],by omega,(by first | exact hB2 | exact hB2.alloc hB2.size _),by simp only[ByteArray.size_append,sz1,ByteArray.size_extract];omega,by rw[Hid,HQ.out];simp[HU.out];simpa using HE2.out⟩,by rw[n3];simp[intOf];omega⟩
       ·by_cases h92:(x.value[n]'hlt2).toNat=92
        ·have e44:(((x.value[n]'hlt2).toNat:Int)==44)=false:=beq_eq_false_iff_ne.2 (by omega)
         have e92:(((x.value[n]'hlt2).toNat:Int)==92)=true:=beq_iff_eq.2 (by omega);have HQ:Hid (jaO (x.value.data.toList.take (n+1))=jaO (x.value.data.toList.take n)++[92,x.value[n]'hlt2]):=by rw[Hid,HT2.out,jbZ,if_pos (.inr (UInt8.toNat_inj.1 h92))]
         clear h44 h92 s0 s1 s2 s3 s4 HL HA HX HN HPL HS on ov ho hts p0 p1 hB h6 hk hn;have HC:=jkQ wr;go_wp2_with fail;exact⟨⟨_,n+1,rfl,by rw[n3],by omega,(by first | exact hB2 | exact hB2.alloc hB2.size _),by simp only[ByteArray.size_append,sz1,ByteArray.size_extract];omega,by rw[Hid,HQ.out];simp[HU.out];simpa using HE2.out⟩,by rw[n3];simp[intOf];omega⟩
        ·have e44:(((x.value[n]'hlt2).toNat:Int)==44)=false:=beq_eq_false_iff_ne.2 (by omega)
         have e92:(((x.value[n]'hlt2).toNat:Int)==92)=false:=beq_eq_false_iff_ne.2 (by omega);have HQ:Hid (jaO (x.value.data.toList.take (n+1))=jaO (x.value.data.toList.take n)++[x.value[n]'hlt2]):=by rw[Hid,HT2.out,jbZ,if_neg (by rintro (e | e)<;>rw[e] at h44 h92<;>simp at h44 h92)]
         clear h44 h92 s0 s1 s2 s3 s4 HL HA HX HN HPL HS on ov ho hts p0 p1 hB h6 hk hn;go_wp2_with fail;exact⟨⟨_,n+1,rfl,by rw[n3],by omega,(by first | exact hB2 | exact hB2.alloc hB2.size _),by simp only[ByteArray.size_append,ByteArray.size_extract];omega,by rw[Hid,HQ.out];simp[HU.out];simpa using HE2.out⟩,by rw[n3];simp[intOf];omega⟩
      ·have hn2:n=x.value.size:=by omega
       have HF:Hid (u.data.toList=jdn l (k+1)):=by rw[Hid,HU.out,HN.out,List.take_of_length_le (by rw[Array.length_toList];exact Nat.le_of_eq hn2.symm)]
       clear hn2;go_wp2_with fail;go_roundw
       case rel=>exact⟨_,k+1,rfl,by go_num,by omega,hB2,by omega,HF.out⟩
       case measure=>simp[intOf];omega
   ·have hkl:k=len:=by omega
    have HF:Hid (t=T):=by
     apply ByteArray.ext;apply Array.ext';rw[HS.out,HL.out,hkl]
    clear hkl;go_wp2_with fail;go_ret2;exact⟨by rw[HF.out];rfl,hB⟩
end Go.Proofs.YtieknocphiceoaaGreatDoor
