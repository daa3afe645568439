/- The reference of layer 4: Right. -/
import Derived.Test.YtieknocphiceoaaGreatDoorZTC
import Derived.Test.YtieknocphiceoaaGreatDoorZTD
namespace Go.Proofs.YtieknocphiceoaaGreatDoor
open Go Go.RowKit Go.Shelf
theorem jlx {w w':World} (h:∃ m,w'=w.drewN m):Below w.heap.size w w':=by
 obtain⟨m,rfl⟩:=h;exact bDr (Below.refl _ _) m
def jdH (l:List Lab) (k:Nat):Option ByteArray:=if k=0 then none else (l[k-1]?).map (·.name)
theorem jm3 {l:List Lab} {x:Lab} (hx:l[0]? = some x):jce (jdH l 0) (l.drop 0)=(jbN x.name&&jbh x.value&&jce (jdH l 1) (l.drop 1)):=by
 rw[jaJ hx];have:jdH l 1=some x.name:=by unfold jdH;rw[if_neg (by decide)];show (l[0]?).map (·.name)=_;rw[hx];rfl
 rw[this];rfl
theorem jpb {l:List Lab} {k:Nat} {x y:Lab} (hk:0<k) (hx:l[k]? = some x) (hy:l[k-1]? = some y):jce (jdH l k) (l.drop k)=(jbN x.name&&jbh x.value && !decide (0<=jdg y.name.data.toList x.name.data.toList)&&jce (jdH l (k+1)) (l.drop (k+1))):=by
 rw[jaJ hx];have h1:jdH l (k+1)=some x.name:=by unfold jdH;rw[if_neg (by omega)];show (l[k+1-1]?).map (·.name)=_;rw[Nat.add_sub_cancel,hx];rfl
 have h2:jdH l k=some y.name:=by unfold jdH;rw[if_neg (by omega),hy];rfl
 rw[h1,h2];rfl
set_option maxRecDepth 100000 in
set_option maxHeartbeats 4000000 in
theorem jdW (a:Option Addr) (len cap:Nat) (l:List Lab) (w:World) (h:SlE Lab.enc 2 w.heap.size w a len l) (ho:jez l) (hm:len<=maxLen) :
  Calls Tryz.prog 91 #[.slice a len cap] w fun e w'=>e=.returned (.bool (jar l))/\Below w.heap.size w w':=by
 unfold maxLen at hm;have E1:=Lib.hid h.1;have HL:Hid (jar l=(jce (jdH l 0) (l.drop 0)&&(decide (1<=l.length)&&decide (l.length<=6)))):=(ji9 l).symm;generalize jar l=R at HL ⊢;rw[<- E1.out] at HL;have HA:=Lib.hid h;clear h;go_enter Tryz.func91,Tryz.ntmps91;go_wp2_with fail;go_loopw [3] (fun i wr=>∃ (k:Nat),i=.int .i64 k/\k<=len/\Below w.heap.size w wr/\Hid (R=(jce (jdH l k) (l.drop k)&&(decide (1<=len)&&decide (len<=6))))) (fun i _=>len-(intOf i).toNat)
 case atStart=>exact⟨0,rfl,Nat.zero_le _,Below.refl _ _,HL⟩
 case round =>
  obtain⟨k,rfl,hk,hB,HS⟩:=hrel;by_cases hlt:k<len
  ·obtain⟨x,b,off,hx,ea,hb,hc⟩:=HA.out.at hlt
   subst ea;have HV:Hid (∀ W,Below w.heap.size w W->W.cell? ⟨b,off+k*2,none⟩=some (.string x.name)/\W.cell? ⟨b,off+k*2+1,none⟩=some (.string x.value)):=fun W hbw=>⟨(hbw.cell (p:=⟨b,off+k*2,none⟩) hb).trans (hc 0 (by omega)),(hbw.cell (p:=⟨b,off+k*2+1,none⟩) hb).trans (hc 1 (by omega))⟩
   have i1:(k:Int)<(len:Int):=by omega
   have i0:(0:Int)<=(k:Int):=by omega
   obtain⟨on,ov⟩:=ho x (List.mem_of_getElem? hx);have HN:Hid (∀ w,Calls Tryz.prog 138 #[.string x.name] w fun e w'=>e=.returned (.bool (jbN x.name))/\Below w.heap.size w w'):=fun w=>jfE _ w on
   have HU:Hid (∀ w,Calls Tryz.prog 139 #[.string x.value] w fun e w'=>e=.returned (.bool (jbh x.value))/\Below w.heap.size w w'):=fun w=>jff _ w ov
   rcases Nat.eq_zero_or_pos k with k0 | k0
   ·have g0:decide ((0:Int)<(k:Int))=false:=by rw[decide_eq_false_iff_not];omega
    have g1:decide (0<k)=false:=by rw[decide_eq_false_iff_not];omega
    have HX:Hid (R=(jbN x.name&&jbh x.value&&jce (jdH l (k+1)) (l.drop (k+1))&&(decide (1<=len)&&decide (len<=6)))):=by
     subst k0;rw[Hid,HS.out,jm3 hx]
    clear hc hx k0 HS;generalize jbN x.name=bn at HN HX;generalize jbh x.value=bv at HU HX
    cases bn with
    | false =>
     have H9:Hid (R=false):=HX.out.trans (by simp);let Inv0:World->Prop:=fun W=>Below w.heap.size w W
     have hgo:∀ W W',Inv0 W->Below W.heap.size W W'->Inv0 W':=fun W W' h hb=>Below.trans h (hb.mono (Below.size h))
     have K1:Hid (∀ X:WIn Inv0,Calls Tryz.prog 138 #[.string x.name] X.world fun e w'=>e=.returned (.bool false)/\∃ Y:WIn Inv0,w'=Y.world):=fun X=>jab hgo (HN.out X.world)
     have q0:∀ X:WIn Inv0,X.world.cell? ⟨b,off+k*2,none⟩=some (.string x.name):=fun X=>(HV.out X.world X.ok).1
     have q1:∀ X:WIn Inv0,X.world.cell? ⟨b,off+k*2+1,none⟩=some (.string x.value):=fun X=>(HV.out X.world X.ok).2
     have HQ:Hid (∀ X:WIn Inv0,Below w.heap.size w X.world):=fun X=>X.ok
     have hI0:Hid (Inv0 (World.drew wr)):=hB.drew;have hne:Nonempty (WIn Inv0):=⟨⟨_,hI0.out⟩⟩;clear hgo hB;clear_value Inv0;go_wp2_with fail;refine jac Inv0 (by kernel_rfl) (by kernel_rfl) hI0.out ?_
     repeat (first | go_big_quiet_step ((first | (go_at_call 138;with_reducible exact K1.out _) | (go_at_call 139;with_reducible exact K2.out _) | (go_at_call 107;with_reducible exact K3.out _))) | quiet_step ((first | (go_at_call 138;with_reducible exact K1.out _) | (go_at_call 139;with_reducible exact K2.out _) | (go_at_call 107;with_reducible exact K3.out _))))
     refine wpQuiet_nil ?_;rintro _ ⟨X,rfl⟩;have HBw2:=HQ.out X;obtain⟨w2,hww2⟩:∃ w2,X.world=w2:=⟨_,rfl⟩;rw[hww2] at HBw2 ⊢;clear HQ K1  q0 q1  hI0 hne hww2 X;go_wp2_with fail;go_ret;exact⟨by rw[H9.out];rfl,HBw2⟩
    | true =>
     cases bv with
     | false =>
      have H9:Hid (R=false):=HX.out.trans (by simp);let Inv0:World->Prop:=fun W=>Below w.heap.size w W
      have hgo:∀ W W',Inv0 W->Below W.heap.size W W'->Inv0 W':=fun W W' h hb=>Below.trans h (hb.mono (Below.size h))
      have K1:Hid (∀ X:WIn Inv0,Calls Tryz.prog 138 #[.string x.name] X.world fun e w'=>e=.returned (.bool true)/\∃ Y:WIn Inv0,w'=Y.world):=fun X=>jab hgo (HN.out X.world)
      have K2:Hid (∀ X:WIn Inv0,Calls Tryz.prog 139 #[.string x.value] X.world fun e w'=>e=.returned (.bool false)/\∃ Y:WIn Inv0,w'=Y.world):=fun X=>jab hgo (HU.out X.world)
      have q0:∀ X:WIn Inv0,X.world.cell? ⟨b,off+k*2,none⟩=some (.string x.name):=fun X=>(HV.out X.world X.ok).1
      have q1:∀ X:WIn Inv0,X.world.cell? ⟨b,off+k*2+1,none⟩=some (.string x.value):=fun X=>(HV.out X.world X.ok).2
      have HQ:Hid (∀ X:WIn Inv0,Below w.heap.size w X.world):=fun X=>X.ok
      have hI0:Hid (Inv0 (World.drew wr)):=hB.drew;have hne:Nonempty (WIn Inv0):=⟨⟨_,hI0.out⟩⟩;clear hgo hB;clear_value Inv0;go_wp2_with fail;refine jac Inv0 (by kernel_rfl) (by kernel_rfl) hI0.out ?_
      repeat (first | go_big_quiet_step ((first | (go_at_call 138;with_reducible exact K1.out _) | (go_at_call 139;with_reducible exact K2.out _) | (go_at_call 107;with_reducible exact K3.out _))) | quiet_step ((first | (go_at_call 138;with_reducible exact K1.out _) | (go_at_call 139;with_reducible exact K2.out _) | (go_at_call 107;with_reducible exact K3.out _))))
      refine wpQuiet_nil ?_;rintro _ ⟨X,rfl⟩;have HBw2:=HQ.out X;obtain⟨w2,hww2⟩:∃ w2,X.world=w2:=⟨_,rfl⟩;rw[hww2] at HBw2 ⊢;clear HQ K1 K2  q0 q1  hI0 hne hww2 X;go_wp2_with fail;go_ret;exact⟨by rw[H9.out];rfl,HBw2⟩
     | true =>
      have H9:Hid (R=(jce (jdH l (k+1)) (l.drop (k+1))&&(decide (1<=len)&&decide (len<=6)))):=HX.out.trans (by simp);let Inv0:World->Prop:=fun W=>Below w.heap.size w W
      have hgo:∀ W W',Inv0 W->Below W.heap.size W W'->Inv0 W':=fun W W' h hb=>Below.trans h (hb.mono (Below.size h))
      have K1:Hid (∀ X:WIn Inv0,Calls Tryz.prog 138 #[.string x.name] X.world fun e w'=>e=.returned (.bool true)/\∃ Y:WIn Inv0,w'=Y.world):=fun X=>jab hgo (HN.out X.world)
      have K2:Hid (∀ X:WIn Inv0,Calls Tryz.prog 139 #[.string x.value] X.world fun e w'=>e=.returned (.bool true)/\∃ Y:WIn Inv0,w'=Y.world):=fun X=>jab hgo (HU.out X.world)
      have q0:∀ X:WIn Inv0,X.world.cell? ⟨b,off+k*2,none⟩=some (.string x.name):=fun X=>(HV.out X.world X.ok).1
      have q1:∀ X:WIn Inv0,X.world.cell? ⟨b,off+k*2+1,none⟩=some (.string x.value):=fun X=>(HV.out X.world X.ok).2
      have HQ:Hid (∀ X:WIn Inv0,Below w.heap.size w X.world):=fun X=>X.ok
      have hI0:Hid (Inv0 (World.drew wr)):=hB.drew;have hne:Nonempty (WIn Inv0):=⟨⟨_,hI0.out⟩⟩;clear hgo hB;clear_value Inv0;go_wp2_with fail;refine jac Inv0 (by kernel_rfl) (by kernel_rfl) hI0.out ?_
      repeat (first | go_big_quiet_step ((first | (go_at_call 138;with_reducible exact K1.out _) | (go_at_call 139;with_reducible exact K2.out _) | (go_at_call 107;with_reducible exact K3.out _))) | quiet_step ((first | (go_at_call 138;with_reducible exact K1.out _) | (go_at_call 139;with_reducible exact K2.out _) | (go_at_call 107;with_reducible exact K3.out _))))
      refine wpQuiet_nil ?_;rintro _ ⟨X,rfl⟩;have HBw2:=HQ.out X;obtain⟨w2,hww2⟩:∃ w2,X.world=w2:=⟨_,rfl⟩;rw[hww2] at HBw2 ⊢;clear HQ K1 K2  q0 q1  hI0 hne hww2 X;go_wp2_with fail;go_roundw
      case rel=>exact⟨k+1,by go_num,by omega,HBw2,H9.out⟩
      case measure=>simp[intOf];omega
   ·have g0:decide ((0:Int)<(k:Int))=true:=by rw[decide_eq_true_iff];omega
    have g1:decide (0<k)=true:=decide_eq_true k0;obtain⟨y,b',off',hy,ea',-,hc'⟩:=HA.out.at (show k-1<len by omega)
    cases ea'
    have HY:Hid (∀ W,Below w.heap.size w W->W.cell? ⟨b,off+(k-1)*2,none⟩=some (.string y.name)):=fun W hbw=>(hbw.cell (p:=⟨b,off+(k-1)*2,none⟩) hb).trans (hc' 0 (by omega))
    obtain⟨oy,-⟩:=ho y (List.mem_of_getElem? hy);have HZ:Hid (∀ w,Calls Tryz.prog 107 #[.string y.name,.string x.name] w fun e w'=>e=.returned (.int .i64 (jdg y.name.data.toList x.name.data.toList))/\Below w.heap.size w w'):=fun w=>(jcQ _ _ w oy).mono fun e w' ⟨h1,h2⟩=>⟨h1,jlx h2⟩
    have HX:Hid (R=(jbN x.name&&jbh x.value && !decide (0<=jdg y.name.data.toList x.name.data.toList)&&jce (jdH l (k+1)) (l.drop (k+1))&&(decide (1<=len)&&decide (len<=6)))):=by
     rw[Hid,HS.out,jpb k0 hx hy]
    have j0:wrap64 ((k:Int)-1)=((k-1:Nat):Int):=by rw[show ((k:Int)-1)=((k-1:Nat):Int) by omega];exact IntWalk.wrap64_in ((k-1:Nat):Int) (by omega)
    have j1:((k-1:Nat):Int)<(len:Int):=by omega
    have j2:(0:Int)<=((k-1:Nat):Int):=Int.natCast_nonneg _;clear hc hc' hx hy HS;generalize jbN x.name=bn at HN HX;generalize jbh x.value=bv at HU HX;generalize jdg y.name.data.toList x.name.data.toList=z at HZ HX
    cases bn with
    | false =>
     have H9:Hid (R=false):=HX.out.trans (by simp);let Inv0:World->Prop:=fun W=>Below w.heap.size w W
     have hgo:∀ W W',Inv0 W->Below W.heap.size W W'->Inv0 W':=fun W W' h hb=>Below.trans h (hb.mono (Below.size h))
     have K1:Hid (∀ X:WIn Inv0,Calls Tryz.prog 138 #[.string x.name] X.world fun e w'=>e=.returned (.bool false)/\∃ Y:WIn Inv0,w'=Y.world):=fun X=>jab hgo (HN.out X.world)
     have q0:∀ X:WIn Inv0,X.world.cell? ⟨b,off+k*2,none⟩=some (.string x.name):=fun X=>(HV.out X.world X.ok).1
     have q1:∀ X:WIn Inv0,X.world.cell? ⟨b,off+k*2+1,none⟩=some (.string x.value):=fun X=>(HV.out X.world X.ok).2
     have HQ:Hid (∀ X:WIn Inv0,Below w.heap.size w X.world):=fun X=>X.ok
     have hI0:Hid (Inv0 (World.drew wr)):=hB.drew;have hne:Nonempty (WIn Inv0):=⟨⟨_,hI0.out⟩⟩;clear hgo hB;clear_value Inv0;go_wp2_with fail;refine jac Inv0 (by kernel_rfl) (by kernel_rfl) hI0.out ?_
     repeat (first | go_big_quiet_step ((first | (go_at_call 138;with_reducible exact K1.out _) | (go_at_call 139;with_reducible exact K2.out _) | (go_at_call 107;with_reducible exact K3.out _))) | quiet_step ((first | (go_at_call 138;with_reducible exact K1.out _) | (go_at_call 139;with_reducible exact K2.out _) | (go_at_call 107;with_reducible exact K3.out _))))
     refine wpQuiet_nil ?_;rintro _ ⟨X,rfl⟩;have HBw2:=HQ.out X;obtain⟨w2,hww2⟩:∃ w2,X.world=w2:=⟨_,rfl⟩;rw[hww2] at HBw2 ⊢;clear HQ K1  q0 q1  hI0 hne hww2 X;go_wp2_with fail;go_ret;exact⟨by rw[H9.out];rfl,HBw2⟩
    | true =>
     cases bv with
     | false =>
      have H9:Hid (R=false):=HX.out.trans (by simp);let Inv0:World->Prop:=fun W=>Below w.heap.size w W
      have hgo:∀ W W',Inv0 W->Below W.heap.size W W'->Inv0 W':=fun W W' h hb=>Below.trans h (hb.mono (Below.size h))
      have K1:Hid (∀ X:WIn Inv0,Calls Tryz.prog 138 #[.string x.name] X.world fun e w'=>e=.returned (.bool true)/\∃ Y:WIn Inv0,w'=Y.world):=fun X=>jab hgo (HN.out X.world)
      have K2:Hid (∀ X:WIn Inv0,Calls Tryz.prog 139 #[.string x.value] X.world fun e w'=>e=.returned (.bool false)/\∃ Y:WIn Inv0,w'=Y.world):=fun X=>jab hgo (HU.out X.world)
      have q0:∀ X:WIn Inv0,X.world.cell? ⟨b,off+k*2,none⟩=some (.string x.name):=fun X=>(HV.out X.world X.ok).1
      have q1:∀ X:WIn Inv0,X.world.cell? ⟨b,off+k*2+1,none⟩=some (.string x.value):=fun X=>(HV.out X.world X.ok).2
      have HQ:Hid (∀ X:WIn Inv0,Below w.heap.size w X.world):=fun X=>X.ok
      have hI0:Hid (Inv0 (World.drew wr)):=hB.drew;have hne:Nonempty (WIn Inv0):=⟨⟨_,hI0.out⟩⟩;clear hgo hB;clear_value Inv0;go_wp2_with fail;refine jac Inv0 (by kernel_rfl) (by kernel_rfl) hI0.out ?_
      repeat (first | go_big_quiet_step ((first | (go_at_call 138;with_reducible exact K1.out _) | (go_at_call 139;with_reducible exact K2.out _) | (go_at_call 107;with_reducible exact K3.out _))) | quiet_step ((first | (go_at_call 138;with_reducible exact K1.out _) | (go_at_call 139;with_reducible exact K2.out _) | (go_at_call 107;with_reducible exact K3.out _))))
      refine wpQuiet_nil ?_;rintro _ ⟨X,rfl⟩;have HBw2:=HQ.out X;obtain⟨w2,hww2⟩:∃ w2,X.world=w2:=⟨_,rfl⟩;rw[hww2] at HBw2 ⊢;clear HQ K1 K2  q0 q1  hI0 hne hww2 X;go_wp2_with fail;go_ret;exact⟨by rw[H9.out];rfl,HBw2⟩
     | true =>
      by_cases hz:0<=z
      ·have z1:decide (0<=z)=true:=decide_eq_true hz
       have H9:Hid (R=false):=HX.out.trans (by rw[z1];simp);clear hz;let Inv0:World->Prop:=fun W=>Below w.heap.size w W
       have hgo:∀ W W',Inv0 W->Below W.heap.size W W'->Inv0 W':=fun W W' h hb=>Below.trans h (hb.mono (Below.size h))
       have K1:Hid (∀ X:WIn Inv0,Calls Tryz.prog 138 #[.string x.name] X.world fun e w'=>e=.returned (.bool true)/\∃ Y:WIn Inv0,w'=Y.world):=fun X=>jab hgo (HN.out X.world)
       have K2:Hid (∀ X:WIn Inv0,Calls Tryz.prog 139 #[.string x.value] X.world fun e w'=>e=.returned (.bool true)/\∃ Y:WIn Inv0,w'=Y.world):=fun X=>jab hgo (HU.out X.world)
       have K3:Hid (∀ X:WIn Inv0,Calls Tryz.prog 107 #[.string y.name,.string x.name] X.world fun e w'=>e=.returned (.int .i64 z)/\∃ Y:WIn Inv0,w'=Y.world):=fun X=>jab hgo (HZ.out X.world)
       have q0:∀ X:WIn Inv0,X.world.cell? ⟨b,off+k*2,none⟩=some (.string x.name):=fun X=>(HV.out X.world X.ok).1
       have q1:∀ X:WIn Inv0,X.world.cell? ⟨b,off+k*2+1,none⟩=some (.string x.value):=fun X=>(HV.out X.world X.ok).2
       have q2:∀ X:WIn Inv0,X.world.cell? ⟨b,off+(k-1)*2,none⟩=some (.string y.name):=fun X=>HY.out X.world X.ok
       have HQ:Hid (∀ X:WIn Inv0,Below w.heap.size w X.world):=fun X=>X.ok
       have hI0:Hid (Inv0 (World.drew wr)):=hB.drew;have hne:Nonempty (WIn Inv0):=⟨⟨_,hI0.out⟩⟩;clear hgo hB;clear_value Inv0;go_wp2_with fail;refine jac Inv0 (by kernel_rfl) (by kernel_rfl) hI0.out ?_
       repeat (first | go_big_quiet_step ((first | (go_at_call 138;with_reducible exact K1.out _) | (go_at_call 139;with_reducible exact K2.out _) | (go_at_call 107;with_reducible exact K3.out _))) | quiet_step ((first | (go_at_call 138;with_reducible exact K1.out _) | (go_at_call 139;with_reducible exact K2.out _) | (go_at_call 107;with_reducible exact K3.out _))))
       refine wpQuiet_nil ?_;rintro _ ⟨X,rfl⟩;have HBw2:=HQ.out X;obtain⟨w2,hww2⟩:∃ w2,X.world=w2:=⟨_,rfl⟩;rw[hww2] at HBw2 ⊢;clear HQ K1 K2 K3 q0 q1 q2 hI0 hne hww2 X;go_wp2_with fail;go_ret;exact⟨by rw[H9.out];rfl,HBw2⟩
      ·have z1:decide (0<=z)=false:=decide_eq_false hz
       have H9:Hid (R=(jce (jdH l (k+1)) (l.drop (k+1))&&(decide (1<=len)&&decide (len<=6)))):=HX.out.trans (by rw[z1];simp);clear hz;let Inv0:World->Prop:=fun W=>Below w.heap.size w W
       have hgo:∀ W W',Inv0 W->Below W.heap.size W W'->Inv0 W':=fun W W' h hb=>Below.trans h (hb.mono (Below.size h))
       have K1:Hid (∀ X:WIn Inv0,Calls Tryz.prog 138 #[.string x.name] X.world fun e w'=>e=.returned (.bool true)/\∃ Y:WIn Inv0,w'=Y.world):=fun X=>jab hgo (HN.out X.world)
       have K2:Hid (∀ X:WIn Inv0,Calls Tryz.prog 139 #[.string x.value] X.world fun e w'=>e=.returned (.bool true)/\∃ Y:WIn Inv0,w'=Y.world):=fun X=>jab hgo (HU.out X.world)
       have K3:Hid (∀ X:WIn Inv0,Calls Tryz.prog 107 #[.string y.name,.string x.name] X.world fun e w'=>e=.returned (.int .i64 z)/\∃ Y:WIn Inv0,w'=Y.world):=fun X=>jab hgo (HZ.out X.world)
       have q0:∀ X:WIn Inv0,X.world.cell? ⟨b,off+k*2,none⟩=some (.string x.name):=fun X=>(HV.out X.world X.ok).1
       have q1:∀ X:WIn Inv0,X.world.cell? ⟨b,off+k*2+1,none⟩=some (.string x.value):=fun X=>(HV.out X.world X.ok).2
       have q2:∀ X:WIn Inv0,X.world.cell? ⟨b,off+(k-1)*2,none⟩=some (.string y.name):=fun X=>HY.out X.world X.ok
       have HQ:Hid (∀ X:WIn Inv0,Below w.heap.size w X.world):=fun X=>X.ok
       have hI0:Hid (Inv0 (World.drew wr)):=hB.drew;have hne:Nonempty (WIn Inv0):=⟨⟨_,hI0.out⟩⟩;clear hgo hB;clear_value Inv0;go_wp2_with fail;refine jac Inv0 (by kernel_rfl) (by kernel_rfl) hI0.out ?_
       repeat (first | go_big_quiet_step ((first | (go_at_call 138;with_reducible exact K1.out _) | (go_at_call 139;with_reducible exact K2.out _) | (go_at_call 107;with_reducible exact K3.out _))) | quiet_step ((first | (go_at_call 138;with_reducible exact K1.out _) | (go_at_call 139;with_reducible exact K2.out _) | (go_at_call 107;with_reducible exact K3.out _))))
       refine wpQuiet_nil ?_;rintro _ ⟨X,rfl⟩;have HBw2:=HQ.out X;obtain⟨w2,hww2⟩:∃ w2,X.world=w2:=⟨_,rfl⟩;rw[hww2] at HBw2 ⊢;clear HQ K1 K2 K3 q0 q1 q2 hI0 hne hww2 X;go_wp2_with fail;go_roundw
       case rel=>exact⟨k+1,by go_num,by omega,HBw2,H9.out⟩
       case measure=>simp[intOf];omega
  ·have hkl:k=len:=by omega
   have HD:Hid (jce (jdH l k) (l.drop k)=true):=by
    rw[Hid,List.drop_eq_nil_of_le (by have:=E1.out;omega)]
    cases jdH l k<;>rfl
   by_cases h4:1<=len
   ·by_cases h5:len<=6
    ·have H9:Hid (R=true):=by rw[Hid,HS.out,HD.out,decide_eq_true h4,decide_eq_true h5];rfl
     have h6:decide ((len:Int)<=6)=true:=by rw[decide_eq_true_iff];omega
     go_wp2_with fail;go_ret;exact⟨by rw[H9.out];first | rfl | (simp only[h6];rfl),hB⟩
    ·have H9:Hid (R=false):=by rw[Hid,HS.out,HD.out,decide_eq_false h5];simp
     have h6:decide ((len:Int)<=6)=false:=by rw[decide_eq_false_iff_not];omega
     go_wp2_with fail;go_ret;exact⟨by rw[H9.out];first | rfl | (simp only[h6];rfl),hB⟩
   ·have H9:Hid (R=false):=by rw[Hid,HS.out,decide_eq_false h4];simp
    go_wp2_with fail;go_ret;exact⟨by rw[H9.out];first | rfl | (simp only[h6];rfl),hB⟩
end Go.Proofs.YtieknocphiceoaaGreatDoor
