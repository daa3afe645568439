/- The reference of layer 4: Less. -/
import Derived.Test.YtieknocphiceoaaGreatDoorZDD
namespace Go.Proofs.YtieknocphiceoaaGreatDoor
open Go Go.RowKit Go.Shelf
theorem jpu {l1 l2:List Lab} {k:Nat} {x y:Lab} (hx:l1[k]? = some x) (hy:l2[k]? = some y):jbI (l1.drop k) (l2.drop k)=if jdx x y=0 then jbI (l1.drop (k+1)) (l2.drop (k+1)) else decide (jdx x y<0):=by
 rw[jaJ hx,jaJ hy,jbI]
theorem jhy {l1 l2:List Lab} {k:Nat} (h1:k<=l1.length) (h2:k<=l2.length) (h:¬ (k<l1.length/\k<l2.length)):jbI (l1.drop k) (l2.drop k)=decide (l1.length<l2.length):=by
 have e1:(l1.drop k).length=l1.length-k:=List.length_drop;have e2:(l2.drop k).length=l2.length-k:=List.length_drop
 have key:jbI (l1.drop k) (l2.drop k)=decide ((l1.drop k).length<(l2.drop k).length):=by
  generalize l1.drop k=u at e1;generalize l2.drop k=v at e2
  cases u with
  | nil=>rfl
  | cons x xs =>
   cases v with
   | nil=>rfl
   | cons y ys=>simp only[List.length_cons] at e1 e2;omega
 rw[key,e1,e2];exact decide_eq_decide.2 (by omega)
set_option maxRecDepth 100000 in
set_option maxHeartbeats 2000000 in
theorem jg0 (a1:Option Addr) (len1 cap1:Nat) (l1:List Lab) (a2:Option Addr) (len2 cap2:Nat) (l2:List Lab) (w:World) (h1:SlE Lab.enc 2 w.heap.size w a1 len1 l1) (h2:SlE Lab.enc 2 w.heap.size w a2 len2 l2) (ho:jez l1) (hm1:len1<=maxLen) :
  Calls Tryz.prog 93 #[.slice a1 len1 cap1,.slice a2 len2 cap2] w fun e w'=>e=.returned (.bool (jau l1 l2))/\Below w.heap.size w w':=by
 unfold maxLen at hm1;have E1:=Lib.hid h1.1;have E2:=Lib.hid h2.1;have HL:Hid (jau l1 l2=jbI (l1.drop 0) (l2.drop 0)):=(jgf l1 l2).symm;generalize jau l1 l2=R at HL ⊢;have HA:=Lib.hid h1;have HB:=Lib.hid h2;clear h1 h2;go_enter Tryz.func93,Tryz.ntmps93;go_wp2_with fail;go_loopw [5] (fun i wr=>∃ (k:Nat),i=.int .i64 k/\k<=len1/\k<=len2/\Below w.heap.size w wr/\Hid (R=jbI (l1.drop k) (l2.drop k))) (fun i _=>len1-(intOf i).toNat)
 case atStart=>exact⟨0,rfl,Nat.zero_le _,Nat.zero_le _,Below.refl _ _,HL⟩
 case round =>
  obtain⟨k,rfl,hk,hk2,hB,HS⟩:=hrel;by_cases hlt:k<len1
  ·by_cases hlt2:k<len2
   ·obtain⟨x,b1,o1,hx,ea1,hb1,hc1⟩:=(HA.out.below hB).at hlt
    obtain⟨y,b2,o2,hy,ea2,hb2,hc2⟩:=(HB.out.below hB).at hlt2;subst ea1;subst ea2;have p0:wr.cell? ⟨b1,o1+k*2,none⟩=some (.string x.name):=hc1 0 (by omega);have p1:wr.cell? ⟨b1,o1+k*2+1,none⟩=some (.string x.value):=hc1 1 (by omega);have q0:wr.cell? ⟨b2,o2+k*2,none⟩=some (.string y.name):=hc2 0 (by omega);have q1:wr.cell? ⟨b2,o2+k*2+1,none⟩=some (.string y.value):=hc2 1 (by omega);have i0:(0:Int)<=(k:Int):=by omega
    have i1:(k:Int)<(len1:Int):=by omega
    have i2:(k:Int)<(len2:Int):=by omega
    obtain⟨on,ov⟩:=ho x (List.mem_of_getElem? hx);have HN:Hid (∀ w,Calls Tryz.prog 107 #[.string x.name,.string y.name] w fun e w'=>e=.returned (.int .i64 (jdg x.name.data.toList y.name.data.toList))/\∃ m,w'=w.drewN m):=fun w=>jcQ _ _ w on
    have HV:Hid (∀ w,Calls Tryz.prog 107 #[.string x.value,.string y.value] w fun e w'=>e=.returned (.int .i64 (jdg x.value.data.toList y.value.data.toList))/\∃ m,w'=w.drewN m):=fun w=>jcQ _ _ w ov
    have HX:=Lib.hid (jpu hx hy);have HM:Hid (jdx x y=if jdg x.name.data.toList y.name.data.toList=0 then jdg x.value.data.toList y.value.data.toList else jdg x.name.data.toList y.name.data.toList):=rfl;generalize jdx x y=z at HX HM;generalize jdg x.name.data.toList y.name.data.toList=zn at HN HM;generalize jdg x.value.data.toList y.value.data.toList=zv at HV HM;clear hc1 hc2 hx hy;by_cases n0:zn=0
    ·have t0:(zn==0)=true:=beq_iff_eq.2 n0
     have hz:z=zv:=by rw[HM.out,if_pos n0]
     clear HM n0;subst hz;by_cases v0:z=0
     ·have t1:(z != 0)=false:=by rw[bne_eq_false_iff_eq];exact v0
      have H9:Hid (R=jbI (l1.drop (k+1)) (l2.drop (k+1))):=by rw[Hid,HS.out,HX.out,if_pos v0]
      clear v0 HX;go_wp2_with fail;go_quiet ((go_at_call 107;exact Calls.quiet_of (HN.out _)));obtain⟨W2,hW2⟩:∃ W2,W2=wr.drewN nq:=⟨_,rfl⟩;have hB2:Below w.heap.size w W2:=hW2▸bDr hB _;have P1:W2.cell? ⟨b1,o1+k*2+1,none⟩=some (.string x.value):=by rw[hW2];exact p1
      have Q1:W2.cell? ⟨b2,o2+k*2+1,none⟩=some (.string y.value):=by rw[hW2];exact q1
      rw[<- hW2];clear p0 p1 q0 q1 hB hW2;go_wp2_with fail;go_quiet ((go_at_call 107;exact Calls.quiet_of (HV.out _)));go_wp2_with fail;go_roundw
      case rel=>exact⟨k+1,by go_num,by omega,by omega,bDr hB2 _,H9.out⟩
      case measure=>simp[intOf];omega
     ·have t1:(z != 0)=true:=by rw[bne_iff_ne];exact v0
      have H9:Hid (R=decide (z<0)):=by rw[Hid,HS.out,HX.out,if_neg v0]
      clear v0 HX;go_wp2_with fail;go_quiet ((go_at_call 107;exact Calls.quiet_of (HN.out _)));obtain⟨W2,hW2⟩:∃ W2,W2=wr.drewN nq:=⟨_,rfl⟩;have hB2:Below w.heap.size w W2:=hW2▸bDr hB _;have P1:W2.cell? ⟨b1,o1+k*2+1,none⟩=some (.string x.value):=by rw[hW2];exact p1
      have Q1:W2.cell? ⟨b2,o2+k*2+1,none⟩=some (.string y.value):=by rw[hW2];exact q1
      rw[<- hW2];clear p0 p1 q0 q1 hB hW2;go_wp2_with fail;go_quiet ((go_at_call 107;exact Calls.quiet_of (HV.out _)));go_wp2_with fail;go_ret;exact⟨by rw[H9.out];rfl,bDr hB2 _⟩
    ·have t0:(zn==0)=false:=beq_eq_false_iff_ne.2 n0
     have t1:(zn != 0)=true:=by rw[bne_iff_ne];exact n0
     have hz:z=zn:=by rw[HM.out,if_neg n0]
     have H9:Hid (R=decide (zn<0)):=by rw[Hid,HS.out,HX.out,hz,if_neg n0]
     clear HM n0 HX hz;go_wp2_with fail;go_quiet ((go_at_call 107;exact Calls.quiet_of (HN.out _)));go_wp2_with fail;go_ret;exact⟨by rw[H9.out];rfl,(by first | exact bDr hB _ | exact bDr (bDr hB _) _)⟩
   ·have h9:R=decide (l1.length<l2.length):=by rw[HS.out,jhy (by have:=E1.out;omega) (by have:=E2.out;omega) (by have:=E1.out;have:=E2.out;omega)]
    have H9:=Lib.hid h9;clear h9;have t2:decide ((len1:Int)<(len2:Int))=decide (len1<len2):=decide_eq_decide.2 (by omega);go_wp2_with fail;go_ret;exact⟨by rw[H9.out];first | rfl | (rw[<- E1.out,<- E2.out,<- t2];rfl),hB⟩
  ·have h9:R=decide (l1.length<l2.length):=by rw[HS.out,jhy (by have:=E1.out;omega) (by have:=E2.out;omega) (by have:=E1.out;have:=E2.out;omega)]
   have H9:=Lib.hid h9;clear h9;have t2:decide ((len1:Int)<(len2:Int))=decide (len1<len2):=decide_eq_decide.2 (by omega);go_wp2_with fail;go_ret;exact⟨by rw[H9.out];first | rfl | (rw[<- E1.out,<- E2.out,<- t2];rfl),hB⟩
end Go.Proofs.YtieknocphiceoaaGreatDoor
