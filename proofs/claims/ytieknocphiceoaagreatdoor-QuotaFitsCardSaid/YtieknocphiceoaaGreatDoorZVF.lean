/- quota.Fits; aviaryref12.Ints; aviarylaw13.shown. Quota: tables cut, and what Fit tells of them. Tables as the references read them: of Go's sizes; cost, jbK, fitting, step by step. No program in sight. The reference of layer 12: Cost. aviaryref13.isBudget, Spare, Fits; quota.Spare. aviaryref13.Victim. aviaryref13.lowered. aviaryref13.Fit. -/
import Derived.Test.YtieknocphiceoaaGreatDoorZTF
import Derived.Test.YtieknocphiceoaaGreatDoorZQK
namespace Go.Proofs.YtieknocphiceoaaGreatDoor
open Go Go.RowKit Go.Shelf
def jeK (b:Int) (L:List Ser):Bool:=jag L&&jav b&&decide (jaw L<=b)
set_option maxHeartbeats 1000000 in
theorem jiH (b:Int) (l:List (Ser × SerP)) (a:Option Addr) (len cap:Nat) (w:World) (hT:Tab w.heap.size w a len cap l) (hF:jbu l) (hG:GW w) :
  Calls Tryz.prog 14 #[.slice a len cap,.int .i64 b] w fun e w'=>e=.returned (.bool (jeK b (l.map (·.1))))/\Below w.heap.size w w':=by
 have hR:=ja2 l a len cap w hT hF hG;have HC:Hid (∀ w',Below w.heap.size w w'->Calls Tryz.prog 37 #[.slice a len cap] w' fun e w''=>e=.returned (.int .i64 (jaz (l.map (·.1))))/\Below w'.heap.size w' w''):=fun w' hb=>jbk l a len cap w' (hT.go hb) hF (hG.below hb)
 have HB:Hid (∀ w,Calls Tryz.prog 40 #[.int .i64 b] w fun e w'=>e=.returned (.bool (jav b))/\w'=w):=fun w=>jdP b w
 have HR:Hid (jeK b (l.map (·.1))=(jag (l.map (·.1))&&jav b&&decide (jaw (l.map (·.1))<=b))):=rfl;have hsm:=jbp l _ _ hT.at_ hF;clear hT hF hG;generalize jeK b (l.map (·.1))=bR at HR ⊢
 cases hr:jag (l.map (·.1)) with
 | false =>
  rw[hr] at hR;have H9:Hid (bR=false):=by rw[Hid,HR.out,hr];rfl
  clear hr HR;go_enter Tryz.func14,Tryz.ntmps14;go_wp2_with (go_at_call 39;refine hR.mono ?_;rintro e w1 ⟨rfl,hb1⟩);go_ret;exact⟨by rw[H9.out];rfl,hb1⟩
 | true =>
  have htc:jaz (l.map (·.1))=jaw (l.map (·.1)):=by rw[jaz,hr,if_pos rfl]
  have h20:l.length<=20:=by have:=((jaK _).1 hr).1;rwa [List.length_map] at this
  rw[hr] at hR;rw[htc] at HC
  cases hbu:jav b with
  | false =>
   rw[hbu] at HB;have H9:Hid (bR=false):=by rw[Hid,HR.out,hr,hbu];rfl
   clear hr HR hbu htc;go_enter Tryz.func14,Tryz.ntmps14
   go_wp2_with (first
    | (go_at_call 39;refine hR.mono ?_;rintro e w1 ⟨rfl,hb1⟩)
    | (go_at_call 40;refine (HB.out _).mono ?_;rintro e w2 ⟨rfl,rfl⟩))
   go_ret;exact⟨by rw[H9.out];rfl,hb1⟩
  | true =>
   rw[hbu] at HB;have H9:Hid (bR=decide (jaw (l.map (·.1))<=b)):=by rw[Hid,HR.out,hr,hbu];rfl
   clear hr HR hbu htc;generalize jaw (l.map (·.1))=cc at HC H9 hsm;obtain⟨k0,k1⟩:=hsm;have k2:cc<=4400000000000:=by omega
   clear k1;go_enter Tryz.func14,Tryz.ntmps14
   go_wp2_with (first
    | (go_at_call 39;refine hR.mono ?_;rintro e w1 ⟨rfl,hb1⟩)
    | (go_at_call 40;refine (HB.out _).mono ?_;rintro e w2 ⟨rfl,rfl⟩)
    | (go_at_call 37;refine (HC.out _ hb1).mono ?_;rintro e w3 ⟨rfl,hb3⟩))
   go_ret;exact⟨by rw[H9.out];rfl,hb1.trans (hb3.mono hb1.size)⟩
set_option maxRecDepth 100000 in
set_option maxHeartbeats 1000000 in
theorem jeh (a1:Option Addr) (len1 cap1:Nat) (l1:List Nat) (a2:Option Addr) (len2 cap2:Nat) (l2:List Nat) (w:World) (h1:SlE jeb 1 w.heap.size w a1 len1 l1) (h2:SlE jeb 1 w.heap.size w a2 len2 l2) (hm:len1<=maxLen) :
  Calls Tryz.prog 13 #[.slice a1 len1 cap1,.slice a2 len2 cap2] w fun e w'=>e=.returned (.bool (l1==l2))/\Below w.heap.size w w':=by
 have e1:=h1.1;have e2:=h2.1;unfold maxLen at hm;by_cases hl:len1=len2
 ·subst hl
  have t0:((len1:Int) != (len1:Int))=false:=by simp
  have E1:=Lib.hid e1;have E2:=Lib.hid e2;clear e1 e2;go_enter Tryz.func13,Tryz.ntmps13;go_wp2_with fail;go_loopw [5] (fun i wr=>∃ (k:Nat),i=.int .i64 k/\k<=len1/\Below w.heap.size w wr/\Hid (l1.take k=l2.take k)) (fun i _=>len1-(intOf i).toNat)
  case atStart=>exact⟨0,rfl,Nat.zero_le _,Below.refl _ _,rfl⟩
  case round =>
   obtain⟨k,rfl,hk,hB,HF⟩:=hrel;by_cases hlt:k<len1
   ·obtain⟨x,b1,o1,hx,ea1,hb1,hc1⟩:=(h1.below hB).at hlt
    obtain⟨y,b2,o2,hy,ea2,hb2,hc2⟩:=(h2.below hB).at hlt;subst ea1;subst ea2;have p0:wr.cell? ⟨b1,o1+k*1+0,none⟩=some (.int .i64 (x:Int)):=hc1 0 (by omega);have q0:wr.cell? ⟨b2,o2+k*1+0,none⟩=some (.int .i64 (y:Int)):=hc2 0 (by omega);simp only[Nat.mul_one,Nat.add_zero] at p0 q0;have i0:(0:Int)<=(k:Int):=by omega
    have i1:(k:Int)<(len1:Int):=by omega
    have HX:=Lib.hid hx;have HY:=Lib.hid hy;clear hc1 hc2 hx hy h1 h2;by_cases hxy:x=y
    ·have n1:((x:Int) != (y:Int))=false:=by simp[hxy]
     have HXY:Hid (x=y):=hxy;clear hxy;go_wp2_with fail;go_quiet (fail);go_wp2_with fail;go_roundw
     case rel=>exact⟨k+1,by go_num,by omega,bDr hB _,by rw[Hid,jan HX.out,jan HY.out,HF.out,HXY.out]⟩
     case measure=>simp[intOf];omega
    ·have n1:((x:Int) != (y:Int))=true:=by rw[bne_iff_ne];omega
     have HXY:Hid (¬ x=y):=hxy;clear hxy;go_wp2_with fail;go_quiet (fail);go_wp2_with fail;go_ret
     have hne:(l1==l2)=false:=by
      rw[beq_eq_false_iff_ne];intro e;have hx:=HX.out;rw[e,HY.out] at hx;exact HXY.out (Option.some.inj hx).symm
     exact⟨by rw[hne];rfl,bDr hB _⟩
   ·obtain rfl:k=len1:=by omega
    clear h1 h2;go_wp2_with fail;go_ret;have h9:=HF.out;rw[List.take_of_length_le (by rw[<- E1.out];omega),List.take_of_length_le (by rw[<- E2.out];omega)] at h9;exact⟨by rw[h9];simp,hB⟩
 ·have t0:((len1:Int) != (len2:Int))=true:=by rw[bne_iff_ne];omega
  have hne:Hid ((l1==l2)=false):=by
   rw[Hid,beq_eq_false_iff_ne];intro e;rw[e] at e1;omega
  clear e1 e2;go_enter Tryz.func13,Tryz.ntmps13;go_wp2_with fail;go_ret;exact⟨by rw[hne.out];rfl,Below.refl _ _⟩
def jr3:Sk:=jb6 2 0 (jjS 2)
def shS13:Ser:=⟨[⟨⟨#[97]⟩,⟨#[120]⟩⟩],jr3,0⟩
theorem jlb:jdV [] shS13=true:=by kernel_rfl
theorem jnM:jrc [] shS13=[shS13]:=by kernel_rfl
theorem jl2:jag [shS13]=true:=by kernel_rfl
theorem sh13_good:shS13.good:=by
 refine⟨⟨fun y hy=>?_,by decide,by decide +kernel,by decide +kernel,by decide +kernel,jdB (jkN 2 (.inr (.inl rfl))),by decide +kernel,by unfold U64;decide⟩,⟨2,0,jjS 2,rfl,jkN 2 (.inr (.inl rfl))⟩⟩;simp only[shS13,List.mem_singleton] at hy;subst hy;exact⟨by decide,by decide⟩
theorem jpM:(jas 200 [shS13]).2=([0,0],0):=by kernel_rfl
theorem jnL:jaz (jas 200 [shS13]).1=147:=by kernel_rfl
theorem jrh:(jas 50 [shS13]).2=([],130):=by kernel_rfl
theorem jm0 {b:Int} {L:List Ser} (h:(jas b L).2.2=0):jag L=true/\jav b=true/\fit b L=some ((jas b L).1,(jas b L).2.1):=by
 unfold jas at h ⊢
 cases hr:jag L with
 | false=>rw[hr] at h;cases h
 | true =>
  rw[hr] at h
  cases hb:jav b with
  | false=>rw[hb] at h;cases h
  | true =>
   rw[hb] at h
   cases hf:fit b L with
   | none=>rw[hf] at h;cases h
   | some r=>exact⟨rfl,rfl,rfl⟩
theorem jqp (b:Int) (L:List Ser) (ps:List Nat) (he:(jas b L).2=(ps,0)) (m:List (Ser × SerP)) (a:Option Addr) (len cap:Nat) (w:World) (hT:Tab w.heap.size w a len cap m) (hm:m.map (·.1)=L) (hQ:QT L) (hG:GW w) :
  Calls Tryz.prog 8 #[.slice a len cap,.int .i64 b] w fun e w'=>∃ (m4:List (Ser × SerP)) (ta:Option Addr) (n tc:Nat) (pa:Option Addr) (pc:Nat),e=.returned (.tuple #[.slice ta n tc,.slice pa ps.length pc,.int .i64 0])/\Tab w'.heap.size w' ta n tc m4/\m4.map (·.1)=(jas b L).1/\QT (m4.map (·.1))/\SlE jeb 1 w'.heap.size w' pa ps.length ps/\Below w.heap.size w w':=by
 refine (jjP b m a len cap w hT (jbw hT (by rw[hm];exact hQ.fine)) (fun _=>by rw[hm];exact hQ) hG).mono ?_;rintro e w' h;rw[hm] at h;have e3:=(jm0 (b:=b) (L:=L) (by rw[he])).2.2;have hq:=(jo8 b _ hQ _ _ e3).qt;obtain⟨m4,ta,tc,pa,pc,h1,h2,h3,-,-,h4,-,h5⟩:=h;rw[he] at h1 h4;exact⟨m4,ta,m4.length,tc,pa,pc,h1,h2,h3,by rw[h3];exact hq,h4.1,h5⟩
theorem jqq (b:Int) (L:List Ser) (n:Int) (he:(jas b L).2=([],n)) (m:List (Ser × SerP)) (a:Option Addr) (len cap:Nat) (w:World) (hT:Tab w.heap.size w a len cap m) (hm:m.map (·.1)=L) (hQ:QT L) (hG:GW w) :
  Calls Tryz.prog 8 #[.slice a len cap,.int .i64 b] w fun e w'=>∃ (ta:Option Addr) (k tc:Nat) (pa:Option Addr) (pc:Nat),e=.returned (.tuple #[.slice ta k tc,.slice pa 0 pc,.int .i64 n])/\Below w.heap.size w w':=by
 refine (jjP b m a len cap w hT (jbw hT (by rw[hm];exact hQ.fine)) (fun _=>by rw[hm];exact hQ) hG).mono ?_;rintro e w' h;rw[hm] at h;obtain⟨m4,ta,tc,pa,pc,h1,h2,h3,-,-,h4,-,h5⟩:=h;rw[he] at h1;exact⟨ta,m4.length,tc,pa,pc,h1,h5⟩
theorem jnN:QT [shS13]:=⟨jl2,fun x hx=>by rw[List.mem_singleton] at hx;subst hx;exact sh13_good⟩
def jml (a:Option Addr) (len cap:Nat) (w:World):Prop:=Calls Tryz.prog 8 #[.slice a len cap,.int .i64 200] w fun e w'=>∃ (m4:List (Ser × SerP)) (ta:Option Addr) (n tc:Nat) (pa:Option Addr) (pc:Nat),e=.returned (.tuple #[.slice ta n tc,.slice pa 2 pc,.int .i64 0])/\Tab w'.heap.size w' ta n tc m4/\jbu m4/\jaz (m4.map (·.1))=147/\SlE jeb 1 w'.heap.size w' pa 2 [0,0]/\Below w.heap.size w w'
def jqo (a:Option Addr) (len cap:Nat) (w:World):Prop:=Calls Tryz.prog 8 #[.slice a len cap,.int .i64 50] w fun e w'=>∃ (ta:Option Addr) (k tc:Nat) (pa:Option Addr) (pc:Nat),e=.returned (.tuple #[.slice ta k tc,.slice pa 0 pc,.int .i64 130])/\Below w.heap.size w w'
theorem jpN (m:List (Ser × SerP)) (a:Option Addr) (len cap:Nat) (w:World) (hT:Tab w.heap.size w a len cap m) (hm:m.map (·.1)=[shS13]) (hG:GW w) :
  jml a len cap w:=by
 refine (jqp 200 [shS13] [0,0] jpM m a len cap w hT hm jnN hG).mono ?_;rintro e w' ⟨m4,ta,n,tc,pa,pc,h1,h2,h3,h4,h5,h6⟩;exact⟨m4,ta,n,tc,pa,pc,h1,h2,jbw h2 h4.fine,by rw[h3];exact jnL,h5,h6⟩
theorem jpO (m:List (Ser × SerP)) (a:Option Addr) (len cap:Nat) (w:World) (hT:Tab w.heap.size w a len cap m) (hm:m.map (·.1)=[shS13]) (hG:GW w) :
  jqo a len cap w :=
 jqq 50 [shS13] 130 jrh m a len cap w hT hm jnN hG
set_option maxRecDepth 100000 in
set_option maxHeartbeats 4000000 in
theorem jko (w:World) (hG:GW w):Calls Tryz.prog 6 #[] w fun e w'=>e=.returned (.bool true)/\Below w.heap.size w w':=by
 have HG:=Lib.hid hG;have HN:=Lib.hid (jqs 2 (.inr (.inl rfl)) w);clear hG;go_enter Tryz.func6,Tryz.ntmps6;go_wp2_with (go_at_call 35;refine HN.out.mono ?_;rintro e w1 ⟨v,rfl,⟨y,s,hy,rfl,hA⟩,hb1⟩;have HY:=Lib.hid hy;clear hy);obtain⟨W2,hW2,hXa,hXb,hB2,hs2⟩:=jaS w1 #[.int .i64 y.kind,.int .i64 y.level,.slice s.ea s.el s.ec,.int .i64 y.hb,.string y.hr,.int .i64 y.cr,.int .i64 y.cc,.slice s.ca s.cl s.cc,.int .i64 y.gf,.slice s.ga s.gl s.gc] 50 #[.string ⟨#[97]⟩,.string ⟨#[120]⟩] 67;rw[hW2];have hb02:Below w.heap.size w W2:=hb1.trans (hB2.mono hb1.size);have HP:Hid (SerP.At ⟨some ⟨w1.heap.size+1,0,none⟩,1,1,s⟩ W2.heap.size W2 ⟨[⟨⟨#[97]⟩,⟨#[120]⟩⟩],y,0⟩):=⟨jrj (t:=67) hXb,hA.go hB2⟩;have HXS:Hid ((⟨[⟨⟨#[97]⟩,⟨#[120]⟩⟩],y,0⟩:Ser)=shS13):=by rw[Hid,HY.out];rfl
 refine (jit [] none 0 0 ⟨[⟨⟨#[97]⟩,⟨#[120]⟩⟩],y,0⟩ ⟨some ⟨w1.heap.size+1,0,none⟩,1,1,s⟩ W2 Tab.nil (fun x h=>by cases h) HP.out (by rw[HXS.out];exact sh13_good.fine) (HG.out.below hb02)).mono ?_;rintro e w3 ⟨a',cap',m,rfl,hT3,hm3,hb3,-⟩;have hput:jrX (([]:List (Ser × SerP)).map (·.1)) ⟨[⟨⟨#[97]⟩,⟨#[120]⟩⟩],y,0⟩=0:=by rw[HXS.out];exact jrb jlb
 have hm3':m.map (·.1)=[shS13]:=by
  rw[hm3,HXS.out];exact (jrd jlb).trans jnM
 rw[hput];have hb03:=hb02.trans (hb3.mono hb02.size);have HT3:=Lib.hid hT3;have HM3:=Lib.hid hm3';have HF200:Hid (∀ W,Below w3.heap.size w3 W->jml a' m.length cap' W):=fun W hb=>jpN m a' m.length cap' W (HT3.out.go hb) HM3.out (HG.out.below (hb03.trans (hb.mono hb03.size)))
 have HF50:Hid (∀ W,Below w3.heap.size w3 W->jqo a' m.length cap' W):=fun W hb=>jpO m a' m.length cap' W (HT3.out.go hb) HM3.out (HG.out.below (hb03.trans (hb.mono hb03.size)))
 clear hT3 hm3 hm3' hput hXa hXb hB2 hW2 hs2 hA hb1 hb02;generalize m.length=ml at HF200 HF50
 have HIn:Hid (∀ (pa:Option Addr) (pc b cap:Nat) W,SlE jeb 1 W.heap.size W pa 2 [0,0]->W.heap[b]? = some (.cells #[.int .i64 0,.int .i64 0] 3 (0,0))->Calls Tryz.prog 13 #[.slice pa 2 pc,.slice (some ⟨b,0,none⟩) 2 cap] W fun e w'=>e=.returned (.bool true)/\Below W.heap.size W w'):=fun pa pc b cap W h1 h2=>by
  refine jeh pa 2 pc [0,0] (some ⟨b,0,none⟩) 2 cap [0,0] W h1 ⟨rfl,fun j x hx=>?_⟩ (by decide);refine⟨b,0,rfl,(Array.getElem?_eq_some_iff.1 h2).1,fun i hi=>?_⟩;obtain rfl:i=0:=by omega
  rw[cCc h2];rcases j with _ | _ | j
  ·simp at hx;subst hx;rfl
  ·simp at hx;subst hx;rfl
  ·simp at hx
 have hF:=HF200.out _ (Below.refl _ _);unfold jml at hF;go_wp2_with fail;refine hF.mono ?_;clear hF;rintro e w4 ⟨m4,ta,n4,tc,pa,pc,rfl,hT4,hF4,hc4,hp4,hb4⟩;have hF:=HF50.out _ hb4;unfold jqo at hF;go_wp2_with fail;refine hF.mono ?_;clear hF;rintro e w5 ⟨ta5,n5,tc5,pa5,pc5,rfl,hb5⟩;have hb05:=hb03.trans ((hb4.trans (hb5.mono hb4.size)).mono hb03.size);obtain⟨W6,hW6,hX6,hB6,hs6⟩:=jah w5 #[.int .i64 0,.int .i64 0] 3;have hb56:=hb5.trans (hB6.mono hb5.size);have HI6:=Lib.hid (HIn.out pa pc w5.heap.size 2 W6 ((hp4.below hb56).mono hb56.size) hX6)
 have HC6:Hid (∀ W,Below W6.heap.size W6 W->Calls Tryz.prog 37 #[.slice ta n4 tc] W fun e w'=>e=.returned (.int .i64 147)/\Below W.heap.size W w'):=fun W hb=>by
  have h1:=jbk m4 ta n4 tc W ((hT4.go hb56).go hb) hF4 (HG.out.below (hb05.trans ((hB6.trans (hb.mono hB6.size)).mono hb05.size)));rw[hc4] at h1;exact h1
 clear hT4 hF4 hc4 hp4 HF50 HF200 HIn hX6
 go_wp2_with (first
  | (go_at_call 13;refine HI6.out.mono ?_;rintro e w7 ⟨rfl,hb7⟩)
  | (go_at_call 37;refine (HC6.out _ hb7).mono ?_;rintro e w8 ⟨rfl,hb8⟩))
 go_ret;exact⟨rfl,hb05.trans ((hB6.trans ((hb7.trans (hb8.mono hb7.size)).mono hB6.size)).mono hb05.size)⟩
theorem jrY {L:List Ser} (h:∀ x∈L,Ser.wn x) (hr:jag (jf6 L)=true):QT (jf6 L):=by
 refine⟨hr,fun x hx=>⟨jkU (fun y hy=>(h y hy).wf) x hx,?_⟩⟩;have h1:=((jaK _).1 hr).2.1 x hx;simp only[jaM,Bool.and_eq_true] at h1;simp only[jf6,List.mem_map] at hx;obtain⟨y,hy,rfl⟩:=hx;have h2:=(h y (List.mem_of_mem_take hy)).1;exact .of h1.2 (fun n hn=>h2.e n (List.mem_of_mem_take hn)) (fun n hn=>h2.c n (List.mem_of_mem_take hn)) (fun z hz=>(h2.g z (List.mem_of_mem_take hz)).2)
def jmg (b:Int) (L:List Ser) (ps:List Nat) (er:Int) (w:World) (e:Ending) (w':World):Prop :=
 ∃ (m:List (Ser × SerP)) (ta:Option Addr) (tc:Nat) (pa:Option Addr) (pc:Nat),e=.returned (.tuple #[.slice ta m.length tc,.slice pa ps.length pc,.int .i64 er])/\Tab w'.heap.size w' ta m.length tc m/\m.map (·.1)=(jas b L).1/\SlC jeb 1 w'.heap.size w' pa ps.length pc ps/\Below w.heap.size w w'
theorem jmm {b:Int} {L:List Ser} {ps:List Nat} {er:Int} (h1:(jas b L).2.1=ps) (h2:(jas b L).2.2=er) {m:List (Ser × SerP)} {a:Option Addr} {len cap:Nat} {w:World} (hT:Tab w.heap.size w a len cap m) (hm:m.map (·.1)=L) (hf:∀ x∈L,x.fine) (hQ:jag L=true->QT L) (hG:GW w) :
  Calls Tryz.prog 8 #[.slice a len cap,.int .i64 b] w (jmg b L ps er w):=by
 refine (jjP b m a len cap w hT (jbw hT (by rw[hm];exact hf)) (fun hr=>by rw[hm] at hr ⊢;exact hQ hr) hG).mono ?_;rintro e w' ⟨m4,ta,tc,pa,pc,k1,k2,k3,-,-,k4,-,k5⟩;rw[hm] at k1 k3 k4;rw[h1] at k1 k4;rw[h2] at k1;exact⟨m4,ta,tc,pa,pc,k1,k2,k3,k4,k5⟩
theorem jmZ {b:Int} {L:List Ser} (hr:jag L=true) (hb:jav b=false):jas b L=([],[],130):=by unfold jas;rw[hr,hb];rfl
theorem jj5 {b:Int} {L a:List Ser} {ps:List Nat} (hr:jag L=true) (hb:jav b=true) (h:fit b L=some (a,ps)):jas b L=(a,ps,0):=by unfold jas;rw[hr,hb,h];rfl
theorem jj4 {b:Int} {L:List Ser} (hr:jag L=true) (hb:jav b=true) (h:fit b L=none):jas b L=([],[],130):=by unfold jas;rw[hr,hb,h];rfl
theorem jiX {b:Int} {L:List Ser} (hr:jag L=false):jas b L=([],[],120):=by unfold jas;rw[hr];rfl
def jdC (L:List Ser):Prop:=∀ x∈L,x.sk.lim
theorem jh2 {x:Sk} (h:SkGood x):x.lim:=by
 obtain⟨k,L,B,rfl,hB⟩:=h;exact jpS hB
theorem jqg {L:List Ser} (h:QT L):jdC L:=fun x hx=>jh2 (h.good x hx).sk
def Ser.wnc (x:Ser):Prop:=x.wn/\I64 x.sk.cc
theorem jqI {L:List Ser} (h:∀ x∈L,Ser.wnc x):jdC (jf6 L):=fun x hx=>by
 simp only[jf6,List.mem_map] at hx;obtain⟨y,hy,rfl⟩:=hx;have h2:=h y (List.mem_of_mem_take hy);exact jqV h2.1.1 h2.2
theorem jlw {L:List Ser} {k:Nat} {x:Ser} (h:L[k]? = some x):jaw (L.take (k+1))=jaw (L.take k)+jaB x:=by
 rw[jan h,jfq];show jaw _+(jaB x+0)=_;omega
theorem jfz (l:List (Ser × SerP)) (n:Nat) (w:World) (hA:∀ e∈l,e.2.At n w e.1) (hF:jbu l) (k:Nat):0<=jaw ((l.map (·.1)).take k)/\jaw ((l.map (·.1)).take k)<=220000000000*l.length:=by
 have h:=jbp (l.take k) n w (fun e he=>hA e (List.mem_of_mem_take he)) (fun e he=>hF e (List.mem_of_mem_take he));rw[List.map_take] at h;refine⟨h.1,Int.le_trans h.2 ?_⟩;have:(l.take k).length<=l.length:=by rw[List.length_take];omega
 omega
def jgQ (s:Nat × Int × Bool):Int:=if s.2.2 then (s.1:Int) else -1
theorem jgR {i:Nat} {x:Ser} {s:Nat × Int × Bool} (h:jbv x=true) (h2:jgQ s<0\/s.2.1<jaB x):jcV i x s=(i,jaB x,true):=by
 unfold jcV;rw[h,Bool.true_and];obtain⟨p,g,b⟩:=s
 cases b with
 | false=>rfl
 | true =>
  have:g<jaB x:=by
   rcases h2 with h2 | h2
   ·simp[jgQ] at h2
    omega
   ·exact h2
  simp[this]
theorem jhM {i:Nat} {x:Ser} {s:Nat × Int × Bool} (h:jbv x=false\/(¬ jgQ s<0/\¬ s.2.1<jaB x)):jcV i x s=s:=by
 unfold jcV;rcases h with h | ⟨h1,h2⟩
 ·rw[h];rfl
 ·obtain⟨p,g,b⟩:=s
  cases b with
  | false=>simp[jgQ] at h1
  | true=>simp at h2 ⊢;intro _ h3;omega
theorem jrv {l:List Ser} {k:Nat} {s:Nat × Int × Bool} (h:jqw l k s):max (jgQ s) 0=(s.1:Int):=by
 obtain⟨p,g,b⟩:=s
 cases b with
 | false =>
  have:=(h.none rfl).1;simp only at this;subst this;rfl
 | true =>
  show max (p:Int) 0=(p:Int);omega
theorem jr9 (s:Nat × Int × Bool):decide (0<=jgQ s)=s.2.2:=by
 obtain⟨p,g,b⟩:=s
 cases b with
 | false=>rfl
 | true=>exact decide_eq_true (Int.natCast_nonneg p)
def FitTo (b:Int) (L m:List Ser) (ps:List Nat):Prop:=fit b L=(fit b m).map fun r=>(r.1,ps++r.2)
theorem FitTo.start (b:Int) (L:List Ser):FitTo b L L []:=by
 unfold FitTo
 cases fit b L<;>rfl
theorem FitTo.step {b:Int} {L m:List Ser} {ps:List Nat} (h:FitTo b L m ps) (hm:QT m) (hb:b<jaw m) {v:Nat} (hv:jbK m=some v):FitTo b L (jcY m v) (ps++[v]):=by
 unfold FitTo at h ⊢;rw[h,jhZ hm hb hv]
 cases fit b (jcY m v) with
 | none=>rfl
 | some r=>simp
theorem FitTo.done {b:Int} {L m:List Ser} {ps:List Nat} (h:FitTo b L m ps) (hb:jaw m<=b):fit b L=some (m,ps):=by
 unfold FitTo at h;rw[h,jfR hb];simp
theorem FitTo.stuck {b:Int} {L m:List Ser} {ps:List Nat} (h:FitTo b L m ps) (hb:b<jaw m) (hv:jbK m=none):fit b L=none:=by
 unfold FitTo at h;rw[h,jeJ hb hv];rfl
theorem job {m:List Ser} (hm:QT m) (h:jgU m=false):jbK m=none:=by
 unfold jgU at h;rw[hm.right,Bool.true_and] at h;unfold jbK;rw[h];rfl
theorem joc {m:List Ser} (hm:QT m) (h:jgU m=true):∃ (v:Nat) (x:Ser),jbK m=some v/\jhL m=(v:Int)/\v<m.length/\m[v]? = some x/\jbv x=true:=by
 unfold jgU at h;rw[hm.right,Bool.true_and] at h;have hv:jbK m=some (vic m).1:=by unfold jbK;rw[h];rfl
 obtain⟨-,-,h3,x,h4,h5⟩:=jcW hv;exact⟨_,x,hv,by unfold jhL;rw[hm.right];rfl,h3,h4,h5⟩
theorem jnU {l:List (Ser × SerP)} (h:jdC (l.map (·.1))):jp2 l:=fun e he=>by
 have:=h e.1 (List.mem_map_of_mem he);exact⟨this.e,this.cc,this.g⟩
theorem jcc (l:List (Ser × SerP)) (a:Option Addr) (len cap:Nat) (w:World) (hT:Tab w.heap.size w a len cap l) (hF:jbu l) (hL:jdC (l.map (·.1))) :
  Calls Tryz.prog 44 #[.slice a len cap] w fun e w'=>e=.returned (.bool (jag (l.map (·.1))))/\Below w.heap.size w w' :=
 jgC l a len cap w hT hF (jnU hL) (Nat.le_trans hT.row.2.1 hT.row.2.2.1)
set_option maxRecDepth 100000 in
set_option maxHeartbeats 4000000 in
theorem jbO (l:List (Ser × SerP)) (a:Option Addr) (len cap:Nat) (w:World) (hT:Tab w.heap.size w a len cap l) (hF:jbu l) (hL:jdC (l.map (·.1))) :
  Calls Tryz.prog 46 #[.slice a len cap] w fun e w'=>e=.returned (.int .i64 (jaz (l.map (·.1))))/\Below w.heap.size w w':=by
 have hm:len<=maxLen:=Nat.le_trans hT.row.2.1 hT.row.2.2.1;have hlen:=hT.row.1.1;subst hlen;have HT:=Lib.hid hT;have HF:=Lib.hid hF;have HR:Hid (∀ W,Below w.heap.size w W->Calls Tryz.prog 44 #[.slice a l.length cap] W fun e w'=>e=.returned (.bool (jag (l.map (·.1))))/\Below W.heap.size W w'):=fun W hb=>jcc l a l.length cap W (HT.out.go hb) HF.out hL
 have HLm:=Lib.hid hL;unfold maxLen at hm;clear hT hF hL
 cases hr:jag (l.map (·.1)) with
 | false =>
  rw[hr] at HR;have H9:Hid (jaz (l.map (·.1))=0):=by rw[Hid,jaz,hr];rfl
  generalize jaz (l.map (·.1))=cR at H9 ⊢;clear hr HLm;go_enter Tryz.func46,Tryz.ntmps46;go_wp2_with fail;go_loopw [3,4] (fun c i wr=>c=.int .i64 0/\i=.int .i64 0/\Below w.heap.size w wr) (fun _ _ _=>0)
  case atStart=>exact⟨rfl,rfl,Below.refl _ _⟩
  case round =>
   obtain⟨rfl,rfl,hB⟩:=hrel;by_cases hlt:0<l.length
   ·have i1:(0:Int)<(l.length:Int):=by omega
    go_wp2_with fail;refine (HR.out _ hB).mono ?_;rintro e w2 ⟨rfl,hb2⟩;go_wp2_with fail;go_ret;exact⟨by rw[H9.out];rfl,hB.trans (hb2.mono hB.size)⟩
   ·have i1:¬ (0:Int)<(l.length:Int):=by omega
    go_wp2_with fail;go_ret;exact⟨by rw[H9.out];rfl,hB⟩
 | true =>
  rw[hr] at HR;have H9:Hid (jaz (l.map (·.1))=jaw (l.map (·.1))):=by rw[Hid,jaz,hr,if_pos rfl]
  have h20:l.length<=20:=by have:=((jaK _).1 hr).1;rwa [List.length_map] at this
  have HK:Hid (∀ k,0<=jaw ((l.map (·.1)).take k)/\jaw ((l.map (·.1)).take k)<=220000000000*l.length):=jfz l _ _ HT.out.at_ HF.out;have HSr:=Lib.hid ((jaK _).1 hr).2.1;generalize jaz (l.map (·.1))=cR at H9 ⊢;clear hr;go_enter Tryz.func46,Tryz.ntmps46;go_wp2_with fail;go_loopw [3,4] (fun c i wr=>∃ (k:Nat) (s:Int),i=.int .i64 k/\c=.int .i64 s/\k<=l.length/\Below w.heap.size w wr/\Hid (s=jaw ((l.map (·.1)).take k))) (fun _ i _=>l.length-(intOf i).toNat)
  case atStart=>exact⟨0,0,rfl,rfl,Nat.zero_le _,Below.refl _ _,rfl⟩
  case round =>
   obtain⟨k,s,rfl,rfl,hk,hB,HS⟩:=hrel;by_cases hlt:k<l.length
   ·obtain⟨⟨x,p⟩,hx⟩:∃ x,l[k]? = some x:=⟨_,List.getElem?_eq_getElem hlt⟩
    obtain⟨b,off,ea,hbb,hc⟩:=HT.out.row.1.2 k (x,p) hx;subst ea;have i1:(k:Int)<(l.length:Int):=by omega
    have i0:(0:Int)<=(k:Int):=by omega
    have HX:Hid ((l.map (·.1))[k]? = some x):=by rw[Hid,List.getElem?_map,hx];rfl
    have HP:Hid (∀ W,Below w.heap.size w W->p.At W.heap.size W x):=fun W hbw=>((HT.out.at_ _ (List.mem_of_getElem? hx)).below hbw).mono hbw.size
    have HFx:=Lib.hid (HF.out _ (List.mem_of_getElem? hx))
    have hlr:jar x.l=true:=by
     have h1:=HSr.out x (List.mem_of_getElem? HX.out);simp only[jaM,Bool.and_eq_true] at h1;exact h1.1
    have HTx:Hid (∀ W,Below w.heap.size w W->Calls Tryz.prog 94 #[.slice p.la p.ll p.lc] W fun e w'=>e=.returned (.tuple #[.string (je1 x.l),.int .i64 0])/\Below W.heap.size W w'):=fun W hb=>by
     have h:=jg4 _ _ p.lc _ W (HP.out W hb).l.1 HFx.out.lab (by have h9:p.ll<4294967281:=HFx.out.ll;unfold maxLen;omega);simp only[hlr,if_true] at h;rw[show je1 x.l=jdw x.l from if_pos hlr];exact h
    clear hlr;have HCx:Hid (∀ W,Below w.heap.size w W->Calls Tryz.prog 95 #[.agg #[.int .i64 x.sk.kind,.int .i64 x.sk.level,.slice p.ss.ea p.ss.el p.ss.ec,.int .i64 x.sk.hb,.string x.sk.hr,.int .i64 x.sk.cr,.int .i64 x.sk.cc,.slice p.ss.ca p.ss.cl p.ss.cc,.int .i64 x.sk.gf,.slice p.ss.ga p.ss.gl p.ss.gc]] W fun e w'=>e=.returned (.int .i64 (jbm x.sk))/\Below W.heap.size W w'):=fun W hb=>jju (HP.out W hb).s (HLm.out x (List.mem_of_getElem? HX.out))
    have HCl:Hid (∀ W,Below w.heap.size w W->∀ i,(hi:i<12)->W.cell? ⟨b,off+k*12+i,none⟩=some ((ja4 (x,p))[i]'(by rw[jb0];exact hi))):=fun W h i hi=>(h.cell (p:=⟨b,off+k*12+i,none⟩) hbb).trans ((hc i hi).trans (List.getElem?_eq_getElem _))
    have hT2:(je1 x.l).size<=180388625808:=jex HFx.out.lab;obtain⟨hC1,hC2⟩:=jdL (HP.out w (Below.refl _ _)).s HFx.out.short HFx.out.hr
    have H8:Hid (jaw ((l.map (·.1)).take (k+1))=s+(jbm x.sk+((je1 x.l).size:Int))):=by
     rw[Hid,jlw HX.out,<- HS.out];rfl
    obtain⟨s0,s1⟩:=HK.out k;rw[<- HS.out] at s0 s1;have s2:s<=4400000000000:=by omega
    have s3:s+((je1 x.l).size:Int)<=9000000000000:=by omega
    clear s1;generalize je1 x.l=tx at *;generalize jbm x.sk=cx at *;clear hc hx;go_wp2_with fail;refine (HR.out _ hB).mono ?_;rintro e w2 ⟨rfl,hb2⟩;have hB2:=hB.trans (hb2.mono hB.size);have c0:w2.cell? ⟨b,off+k*12,none⟩=some (.slice p.la p.ll p.lc):=HCl.out w2 hB2 0 (by decide);go_wp2_with fail;refine (HTx.out _ hB2).mono ?_;rintro e w3 ⟨rfl,hb3⟩;have hB3:=hB2.trans (hb3.mono hB2.size);clear c0 hb2 hb3 hB2 hB;have c1:w3.cell? ⟨b,off+k*12+1,none⟩=some (.int .i64 x.sk.kind):=HCl.out w3 hB3 1 (by decide);have c2:w3.cell? ⟨b,off+k*12+2,none⟩=some (.int .i64 x.sk.level):=HCl.out w3 hB3 2 (by decide);have c3:w3.cell? ⟨b,off+k*12+3,none⟩=some (.slice p.ss.ea p.ss.el p.ss.ec):=HCl.out w3 hB3 3 (by decide);have c4:w3.cell? ⟨b,off+k*12+4,none⟩=some (.int .i64 x.sk.hb):=HCl.out w3 hB3 4 (by decide);have c5:w3.cell? ⟨b,off+k*12+5,none⟩=some (.string x.sk.hr):=HCl.out w3 hB3 5 (by decide);have c6:w3.cell? ⟨b,off+k*12+6,none⟩=some (.int .i64 x.sk.cr):=HCl.out w3 hB3 6 (by decide);have c7:w3.cell? ⟨b,off+k*12+7,none⟩=some (.int .i64 x.sk.cc):=HCl.out w3 hB3 7 (by decide);have c8:w3.cell? ⟨b,off+k*12+8,none⟩=some (.slice p.ss.ca p.ss.cl p.ss.cc):=HCl.out w3 hB3 8 (by decide);have c9:w3.cell? ⟨b,off+k*12+9,none⟩=some (.int .i64 x.sk.gf):=HCl.out w3 hB3 9 (by decide);have c10:w3.cell? ⟨b,off+k*12+10,none⟩=some (.slice p.ss.ga p.ss.gl p.ss.gc):=HCl.out w3 hB3 10 (by decide);go_wp2_with fail;refine (HCx.out _ hB3).mono ?_;rintro e w4 ⟨rfl,hb4⟩;have hB4:=hB3.trans (hb4.mono hB3.size)
    clear c1 c2 c3 c4 c5 c6 c7 c8 c9 c10 hb4 hB3;go_wp2_with fail;go_roundw
    case rel=>exact⟨k+1,s+(cx+(tx.size:Int)),by go_num,by go_num,by omega,hB4,H8.out.symm⟩
    case measure=>simp[intOf];omega
   ·have i1:¬ (k:Int)<(l.length:Int):=by omega
    have H8:Hid (cR=s):=by rw[Hid,H9.out,HS.out,List.take_of_length_le (by rw[List.length_map];omega)]
    go_wp2_with fail;go_ret;exact⟨by rw[H8.out];rfl,hB⟩
theorem jc2 (n:Int) (w:World):Calls Tryz.prog 45 #[.int .i64 n] w fun e w'=>e=.returned (.bool (jav n))/\w'=w:=by
 have HR:Hid (jav n=(decide (0<=n)&&decide (n<=1000000))):=rfl;generalize jav n=b at HR ⊢;by_cases h1:0<=n
 ·by_cases h2:n<=1000000
  ·have H9:Hid (b=true):=by rw[Hid,HR.out,decide_eq_true h1,decide_eq_true h2];rfl
   go_enter Tryz.func45,Tryz.ntmps45;go_wp2_with fail;go_ret;exact⟨by rw[H9.out];rfl,rfl⟩
  ·have H9:Hid (b=false):=by rw[Hid,HR.out,decide_eq_false h2,Bool.and_false]
   go_enter Tryz.func45,Tryz.ntmps45;go_wp2_with fail;go_ret;exact⟨by rw[H9.out];rfl,rfl⟩
 ·have H9:Hid (b=false):=by rw[Hid,HR.out,decide_eq_false h1,Bool.false_and]
  go_enter Tryz.func45,Tryz.ntmps45;go_wp2_with fail;go_ret;exact⟨by rw[H9.out];rfl,rfl⟩
set_option maxHeartbeats 1000000 in
theorem jei (b:Int) (l:List (Ser × SerP)) (a:Option Addr) (len cap:Nat) (w:World) (hT:Tab w.heap.size w a len cap l) (hF:jbu l) (hL:jdC (l.map (·.1))) :
  Calls Tryz.prog 15 #[.slice a len cap,.int .i64 b] w fun e w'=>e=.returned (.bool (jeK b (l.map (·.1))))/\Below w.heap.size w w':=by
 have hR:=jcc l a len cap w hT hF hL;have HC:Hid (∀ w',Below w.heap.size w w'->Calls Tryz.prog 46 #[.slice a len cap] w' fun e w''=>e=.returned (.int .i64 (jaz (l.map (·.1))))/\Below w'.heap.size w' w''):=fun w' hb=>jbO l a len cap w' (hT.go hb) hF hL
 have HB:Hid (∀ w,Calls Tryz.prog 45 #[.int .i64 b] w fun e w'=>e=.returned (.bool (jav b))/\w'=w):=fun w=>jc2 b w
 have HR:Hid (jeK b (l.map (·.1))=(jag (l.map (·.1))&&jav b&&decide (jaw (l.map (·.1))<=b))):=rfl;have hsm:=jbp l _ _ hT.at_ hF;clear hT hF hL;generalize jeK b (l.map (·.1))=bR at HR ⊢
 cases hr:jag (l.map (·.1)) with
 | false =>
  rw[hr] at hR;have H9:Hid (bR=false):=by rw[Hid,HR.out,hr];rfl
  clear hr HR;go_enter Tryz.func15,Tryz.ntmps15;go_wp2_with (go_at_call 44;refine hR.mono ?_;rintro e w1 ⟨rfl,hb1⟩);go_ret;exact⟨by rw[H9.out];rfl,hb1⟩
 | true =>
  have htc:jaz (l.map (·.1))=jaw (l.map (·.1)):=by rw[jaz,hr,if_pos rfl]
  have h20:l.length<=20:=by have:=((jaK _).1 hr).1;rwa [List.length_map] at this
  rw[hr] at hR;rw[htc] at HC
  cases hbu:jav b with
  | false =>
   rw[hbu] at HB;have H9:Hid (bR=false):=by rw[Hid,HR.out,hr,hbu];rfl
   clear hr HR hbu htc;go_enter Tryz.func15,Tryz.ntmps15
   go_wp2_with (first
    | (go_at_call 44;refine hR.mono ?_;rintro e w1 ⟨rfl,hb1⟩)
    | (go_at_call 45;refine (HB.out _).mono ?_;rintro e w2 ⟨rfl,rfl⟩))
   go_ret;exact⟨by rw[H9.out];rfl,hb1⟩
  | true =>
   rw[hbu] at HB;have H9:Hid (bR=decide (jaw (l.map (·.1))<=b)):=by rw[Hid,HR.out,hr,hbu];rfl
   clear hr HR hbu htc;generalize jaw (l.map (·.1))=cc at HC H9 hsm;obtain⟨k0,k1⟩:=hsm;have k2:cc<=4400000000000:=by omega
   clear k1;go_enter Tryz.func15,Tryz.ntmps15
   go_wp2_with (first
    | (go_at_call 44;refine hR.mono ?_;rintro e w1 ⟨rfl,hb1⟩)
    | (go_at_call 45;refine (HB.out _).mono ?_;rintro e w2 ⟨rfl,rfl⟩)
    | (go_at_call 46;refine (HC.out _ hb1).mono ?_;rintro e w3 ⟨rfl,hb3⟩))
   go_ret;exact⟨by rw[H9.out];rfl,hb1.trans (hb3.mono hb1.size)⟩
def jgM (b:Int) (L:List Ser):Int:=if jeK b L then b-jaw L else 0
theorem jhp {b:Int} {L:List Ser} (h:jeK b L=true):jaz L=jaw L/\jaw L<=b/\0<=b/\b<=1000000:=by
 simp only[jeK,jav,Bool.and_eq_true,decide_eq_true_eq] at h;exact⟨by rw[jaz,h.1.1,if_pos rfl],h.2,h.1.2.1,h.1.2.2⟩
set_option maxHeartbeats 1000000 in
theorem jlr (b:Int) (l:List (Ser × SerP)) (a:Option Addr) (len cap:Nat) (w:World) (hT:Tab w.heap.size w a len cap l) (hF:jbu l) (hG:GW w) :
  Calls Tryz.prog 16 #[.slice a len cap,.int .i64 b] w fun e w'=>e=.returned (.int .i64 (jgM b (l.map (·.1))))/\Below w.heap.size w w':=by
 have hR:=jiH b l a len cap w hT hF hG;have HC:Hid (∀ w',Below w.heap.size w w'->Calls Tryz.prog 37 #[.slice a len cap] w' fun e w''=>e=.returned (.int .i64 (jaz (l.map (·.1))))/\Below w'.heap.size w' w''):=fun w' hb=>jbk l a len cap w' (hT.go hb) hF (hG.below hb)
 have HR:Hid (jgM b (l.map (·.1))=if jeK b (l.map (·.1)) then b-jaw (l.map (·.1)) else 0):=rfl;have hsm:=jbp l _ _ hT.at_ hF;clear hT hF hG;generalize jgM b (l.map (·.1))=bR at HR ⊢
 cases hr:jeK b (l.map (·.1)) with
 | false =>
  rw[hr] at hR;have H9:Hid (bR=0):=by rw[Hid,HR.out,hr];rfl
  clear hr HR HC;go_enter Tryz.func16,Tryz.ntmps16;go_wp2_with (go_at_call 14;refine hR.mono ?_;rintro e w1 ⟨rfl,hb1⟩);go_ret;exact⟨by rw[H9.out];rfl,hb1⟩
 | true =>
  obtain⟨k0,k1,k2,k3⟩:=jhp hr;rw[hr] at hR;rw[k0] at HC;have H9:Hid (bR=b-jaw (l.map (·.1))):=by rw[Hid,HR.out,hr];rfl
  obtain⟨k4,-⟩:=hsm;clear hr HR k0;generalize jaw (l.map (·.1))=cc at HC H9 k1 k4;go_enter Tryz.func16,Tryz.ntmps16
  go_wp2_with (first
   | (go_at_call 14;refine hR.mono ?_;rintro e w1 ⟨rfl,hb1⟩)
   | (go_at_call 37;refine (HC.out _ hb1).mono ?_;rintro e w3 ⟨rfl,hb3⟩))
  go_ret;exact⟨by rw[H9.out];first | rfl | (congr 2;try go_num),hb1.trans (hb3.mono hb1.size)⟩
set_option maxHeartbeats 1000000 in
theorem jgE (b:Int) (l:List (Ser × SerP)) (a:Option Addr) (len cap:Nat) (w:World) (hT:Tab w.heap.size w a len cap l) (hF:jbu l) (hL:jdC (l.map (·.1))) :
  Calls Tryz.prog 17 #[.slice a len cap,.int .i64 b] w fun e w'=>e=.returned (.int .i64 (jgM b (l.map (·.1))))/\Below w.heap.size w w':=by
 have hR:=jei b l a len cap w hT hF hL;have HC:Hid (∀ w',Below w.heap.size w w'->Calls Tryz.prog 46 #[.slice a len cap] w' fun e w''=>e=.returned (.int .i64 (jaz (l.map (·.1))))/\Below w'.heap.size w' w''):=fun w' hb=>jbO l a len cap w' (hT.go hb) hF hL
 have HR:Hid (jgM b (l.map (·.1))=if jeK b (l.map (·.1)) then b-jaw (l.map (·.1)) else 0):=rfl;have hsm:=jbp l _ _ hT.at_ hF;clear hT hF hL;generalize jgM b (l.map (·.1))=bR at HR ⊢
 cases hr:jeK b (l.map (·.1)) with
 | false =>
  rw[hr] at hR;have H9:Hid (bR=0):=by rw[Hid,HR.out,hr];rfl
  clear hr HR HC;go_enter Tryz.func17,Tryz.ntmps17;go_wp2_with (go_at_call 15;refine hR.mono ?_;rintro e w1 ⟨rfl,hb1⟩);go_ret;exact⟨by rw[H9.out];rfl,hb1⟩
 | true =>
  obtain⟨k0,k1,k2,k3⟩:=jhp hr;rw[hr] at hR;rw[k0] at HC;have H9:Hid (bR=b-jaw (l.map (·.1))):=by rw[Hid,HR.out,hr];rfl
  obtain⟨k4,-⟩:=hsm;clear hr HR k0;generalize jaw (l.map (·.1))=cc at HC H9 k1 k4;go_enter Tryz.func17,Tryz.ntmps17
  go_wp2_with (first
   | (go_at_call 15;refine hR.mono ?_;rintro e w1 ⟨rfl,hb1⟩)
   | (go_at_call 46;refine (HC.out _ hb1).mono ?_;rintro e w3 ⟨rfl,hb3⟩))
  go_ret;exact⟨by rw[H9.out];first | rfl | (congr 2;try go_num),hb1.trans (hb3.mono hb1.size)⟩
set_option maxRecDepth 100000 in
set_option maxHeartbeats 4000000 in
theorem jdF (l:List (Ser × SerP)) (a:Option Addr) (len cap:Nat) (w:World) (hT:Tab w.heap.size w a len cap l) (hF:jbu l) (hL:jdC (l.map (·.1))) :
  Calls Tryz.prog 11 #[.slice a len cap] w fun e w'=>e=.returned (.tuple #[.int .i64 (jhL (l.map (·.1))),.bool (jgU (l.map (·.1)))])/\Below w.heap.size w w':=by
 have hm:len<=maxLen:=Nat.le_trans hT.row.2.1 hT.row.2.2.1;have hcap:len<=cap:=hT.row.2.1;have hlen:=hT.row.1.1;subst hlen;have HT:=Lib.hid hT;have HF:=Lib.hid hF;have HR:Hid (∀ W,Below w.heap.size w W->Calls Tryz.prog 44 #[.slice a l.length cap] W fun e w'=>e=.returned (.bool (jag (l.map (·.1))))/\Below W.heap.size W w'):=fun W hb=>jcc l a l.length cap W (HT.out.go hb) HF.out hL
 have HLm:=Lib.hid hL;unfold maxLen at hm;clear hT hF hL
 cases hr:jag (l.map (·.1)) with
 | false =>
  rw[hr] at HR;have H9:Hid (jhL (l.map (·.1))=0/\jgU (l.map (·.1))=false):=by rw[Hid,jhL,jgU,hr];exact⟨rfl,rfl⟩
  generalize jhL (l.map (·.1))=cR at H9 ⊢;generalize jgU (l.map (·.1))=bR at H9 ⊢;clear hr HLm;go_enter Tryz.func11,Tryz.ntmps11;go_wp2_with fail;go_loopw [4,5,6] (fun c m i wr=>c=.int .i64 (-1)/\m=.int .i64 0/\i=.int .i64 0/\Below w.heap.size w wr) (fun _ _ _ _=>0)
  case atStart=>exact⟨rfl,rfl,rfl,Below.refl _ _⟩
  case round =>
   obtain⟨rfl,rfl,rfl,hB⟩:=hrel;by_cases hlt:0<l.length
   ·have i1:(0:Int)<(l.length:Int):=by omega
    go_wp2_with fail;refine (HR.out _ hB).mono ?_;rintro e w2 ⟨rfl,hb2⟩;go_wp2_with fail;go_ret2;exact⟨by rw[H9.out.1,H9.out.2];rfl,hB.trans (hb2.mono hB.size)⟩
   ·have i1:¬ (0:Int)<(l.length:Int):=by omega
    go_wp2_with fail;go_ret2;exact⟨by rw[H9.out.1,H9.out.2];rfl,hB⟩
 | true =>
  rw[hr] at HR;have H9:Hid (jhL (l.map (·.1))=((vic (l.map (·.1))).1:Int)/\jgU (l.map (·.1))=(vic (l.map (·.1))).2.2):=by rw[Hid,jhL,jgU,hr];exact⟨rfl,rfl⟩
  have h20:l.length<=20:=by have:=((jaK _).1 hr).1;rwa [List.length_map] at this
  have HS:=Lib.hid ((jaK _).1 hr).2.1;generalize jhL (l.map (·.1))=cR at H9 ⊢;generalize jgU (l.map (·.1))=bR at H9 ⊢;clear hr;go_enter Tryz.func11,Tryz.ntmps11;go_wp2_with fail;go_loopw [4,5,6] (fun c m i wr=>∃ (k:Nat) (av g:Int),i=.int .i64 k/\c=.int .i64 av/\m=.int .i64 g/\k<=l.length/\Below w.heap.size w wr/\Hid (av=jgQ (jcy (l.map (·.1)) k)/\g=(jcy (l.map (·.1)) k).2.1) /\ -1<=av/\av<=20) (fun _ _ i _=>l.length-(intOf i).toNat)
  case atStart=>exact⟨0,-1,0,rfl,rfl,rfl,Nat.zero_le _,Below.refl _ _,⟨rfl,rfl⟩,by omega,by omega⟩
  case round =>
   obtain⟨k,av,g,rfl,rfl,rfl,hk,hB,HV,ha0,ha1⟩:=hrel;by_cases hlt:k<l.length
   ·obtain⟨⟨x,p⟩,hx⟩:∃ x,l[k]? = some x:=⟨_,List.getElem?_eq_getElem hlt⟩
    have hsl:=fun W=>jjD a l.length cap k W (by omega)
    have HX:Hid ((l.map (·.1))[k]? = some x):=by rw[Hid,List.getElem?_map,hx];rfl
    have hF1:jbu [(x,p)]:=fun e he=>by rw[List.mem_singleton] at he;subst he;exact HF.out _ (List.mem_of_getElem? hx)
    have HSx:jaz [x]=jaB x:=jgN (HS.out x (List.mem_of_getElem? HX.out))
    have HCo:Hid (∀ W,Below w.heap.size w W->Calls Tryz.prog 46 #[.slice (jc6 a cap k 12) 1 (cap-k)] W fun e w'=>e=.returned (.int .i64 (jaB x))/\Below W.heap.size W w'):=fun W hW=>by
     have:=jbO [(x,p)] _ _ _ W (((HT.out.below hW).mono hW.size).mid hx) hF1 (fun y hy=>by simp only[List.map_cons,List.map_nil,List.mem_singleton] at hy;subst hy;exact HLm.out y (List.mem_of_getElem? HX.out));rw[show ([(x,p)]:List (Ser × SerP)).map (·.1)=[x] from rfl,HSx] at this;exact this
    obtain⟨hc0,hc1⟩:=jdz (HT.out.at_ _ (List.mem_of_getElem? hx)) (HF.out _ (List.mem_of_getElem? hx));obtain⟨bb,off,ea,hbb,hc⟩:=HT.out.row.1.2 k (x,p) hx;have HCl:Hid (∀ W,Below w.heap.size w W->W.cell? ⟨bb,off+k*12+1,none⟩=some (.int .i64 x.sk.kind)/\W.cell? ⟨bb,off+k*12+2,none⟩=some (.int .i64 x.sk.level)):=fun W h=>⟨(h.cell (p:=⟨bb,off+k*12+1,none⟩) hbb).trans (hc 1 (by omega)),(h.cell (p:=⟨bb,off+k*12+2,none⟩) hbb).trans (hc 2 (by omega))⟩
    subst ea;have i1:(k:Int)<(l.length:Int):=by omega
    have i0:(0:Int)<=(k:Int):=by omega
    have HBT:Hid (∀ W,Calls Tryz.prog 49 #[.int .i64 x.sk.kind] W fun e w'=>e=.returned (.int .i64 (jal x.sk.kind))/\w'=W):=fun W=>(jat x.sk.kind W).mono fun e w' ⟨h1,h2⟩=>⟨h1,h2.symm⟩
    have hbt : -1<=jal x.sk.kind/\jal x.sk.kind<=4:=by unfold jal;repeat' split;all_goals omega
    have HM:Hid (jbv x=decide (x.sk.level<jal x.sk.kind)):=rfl;have HN:Hid (jcy (l.map (·.1)) (k+1)=jcV k x (jcy (l.map (·.1)) k)):=jfn HX.out;generalize jal x.sk.kind=bt at HBT HM hbt;obtain⟨sc,hsc⟩:∃ sc,jaB x=sc:=⟨_,rfl⟩;rw[hsc] at HCo hc0 hc1;have HSc:=Lib.hid hsc;clear hc hx hF1 HSx hsc HX;go_wp2_with fail;refine (HR.out _ hB).mono ?_;rintro e w2 ⟨rfl,hb2⟩;have hB2:=hB.trans (hb2.mono hB.size);have hsl2:=hsl w2;go_wp2_with fail;refine (HCo.out _ hB2).mono ?_;rintro e w3 ⟨rfl,hb3⟩;have hB3:=hB2.trans (hb3.mono hB2.size);obtain⟨c1,c2⟩:=HCl.out w3 hB3;clear hb2 hb3 hB2 hB hsl hsl2;by_cases hm:x.sk.level<bt
    case neg =>
     have hn2:decide (x.sk.level<bt)=false:=decide_eq_false hm;have H8:Hid (jcy (l.map (·.1)) (k+1)=jcy (l.map (·.1)) k):=by rw[Hid,HN.out,jhM (.inl (by rw[HM.out,decide_eq_false hm]))]
     go_wp2_with fail;go_quiet ((go_at_call 49;exact Calls.quiet_of_same (HBT.out _)));go_wp2_with fail
     all_goals go_roundw
     case rel=>exact⟨k+1,av,g,by go_num,rfl,rfl,by omega,hB3.trans ((jbB nq).mono hB3.size),by rw[Hid,H8.out];exact HV.out,ha0,ha1⟩
     case measure=>simp[intOf];omega
    case pos =>
     have HMy:Hid (jbv x=true):=by rw[Hid,HM.out,decide_eq_true hm]
     by_cases hav:av<0
     ·have H8:Hid (jcy (l.map (·.1)) (k+1)=(k,sc,true)):=by rw[Hid,HN.out,jgR HMy.out (.inl (by rw[<- HV.out.1];exact hav)),HSc.out]
      go_wp2_with fail;go_quiet ((go_at_call 49;exact Calls.quiet_of_same (HBT.out _)));go_wp2_with fail
      all_goals go_roundw
      case rel=>exact⟨k+1,k,sc,by go_num,rfl,rfl,by omega,hB3.trans ((jbB nq).mono hB3.size),by rw[Hid,H8.out];exact⟨rfl,rfl⟩,by omega,by omega⟩
      case measure=>simp[intOf];omega
     ·by_cases hg:g<sc
      ·have H8:Hid (jcy (l.map (·.1)) (k+1)=(k,sc,true)):=by rw[Hid,HN.out,jgR HMy.out (.inr (by rw[<- HV.out.2,HSc.out];exact hg)),HSc.out]
       go_wp2_with fail;go_quiet ((go_at_call 49;exact Calls.quiet_of_same (HBT.out _)));go_wp2_with fail
       all_goals go_roundw
       case rel=>exact⟨k+1,k,sc,by go_num,rfl,rfl,by omega,hB3.trans ((jbB nq).mono hB3.size),by rw[Hid,H8.out];exact⟨rfl,rfl⟩,by omega,by omega⟩
       case measure=>simp[intOf];omega
      ·have H8:Hid (jcy (l.map (·.1)) (k+1)=jcy (l.map (·.1)) k):=by rw[Hid,HN.out,jhM (.inr ⟨by rw[<- HV.out.1];exact hav,by rw[<- HV.out.2,HSc.out];exact hg⟩)]
       go_wp2_with fail;go_quiet ((go_at_call 49;exact Calls.quiet_of_same (HBT.out _)));go_wp2_with fail
       all_goals go_roundw
       case rel=>exact⟨k+1,av,g,by go_num,rfl,rfl,by omega,hB3.trans ((jbB nq).mono hB3.size),by rw[Hid,H8.out];exact HV.out,ha0,ha1⟩
       case measure=>simp[intOf];omega
   ·have i1:¬ (k:Int)<(l.length:Int):=by omega
    have hva:=jiB (l.map (·.1)) k (by rw[List.length_map];exact hk);have hkl:k=(l.map (·.1)).length:=by rw[List.length_map];omega
    have H8:Hid (cR=max av 0):=by rw[Hid,H9.out.1,HV.out.1,jrv hva,hkl];rfl
    have H7:Hid (bR=decide (0<=av)):=by rw[Hid,H9.out.2,HV.out.1,jr9,hkl];rfl
    clear hva hkl;by_cases hav:0<=av
    ·have e1:max av 0=av:=by omega
     go_wp2_with fail;go_ret2;exact⟨by rw[H8.out,H7.out,e1,decide_eq_true (by omega)];rfl,hB⟩
    ·have e1:max av 0=0:=by omega
     go_wp2_with fail;go_ret2;exact⟨by rw[H8.out,H7.out,e1,decide_eq_false (by omega)];rfl,hB⟩
end Go.Proofs.YtieknocphiceoaaGreatDoor
namespace Go.Proofs.YtieknocphiceoaaGreatDoor
open Go Go.RowKit Go.Shelf
theorem jje {x:Ser} {p:SerP} {W:World} (hx:x.good) (hm:jbv x=true) (hp:p.ss.At W.heap.size W x.sk) :
  Calls Tryz.prog 96 #[.agg #[.int .i64 x.sk.kind,.int .i64 x.sk.level,.slice p.ss.ea p.ss.el p.ss.ec,.int .i64 x.sk.hb,.string x.sk.hr,.int .i64 x.sk.cr,.int .i64 x.sk.cc,.slice p.ss.ca p.ss.cl p.ss.cc,.int .i64 x.sk.gf,.slice p.ss.ga p.ss.gl p.ss.gc]] W (SkG (jeY x.sk,0) W):=by
 refine jgw hp (jh2 hx.sk) hx.sk.ok ?_;unfold jbv at hm;rw[decide_eq_true_eq] at hm;omega
attribute [-go_sem] Builtin.append_
set_option maxRecDepth 100000 in
set_option maxHeartbeats 4000000 in
theorem jfl {l:List (Ser × SerP)} {k:Nat} {x:Ser} {p:SerP} (hx:l[k]? = some (x,p)) (a:Option Addr) (len cap:Nat) (w:World) (hT:Tab w.heap.size w a len cap l) (hg:x.good) (hm:jbv x=true) (hll:l.length<=20) :
  Calls Tryz.prog 47 #[.slice a len cap,.int .i64 k] w fun e w'=>∃ (ta:Option Addr) (tc:Nat) (s:SS),e=.returned (.slice ta l.length tc)/\Tab w'.heap.size w' ta l.length tc (l.set k (jcN x,⟨p.la,p.ll,p.lc,s⟩))/\(∀ z,ta=some z->w.heap.size<=z.block)/\s.From w.heap.size/\Below w.heap.size w w':=by
 have hlen:=hT.row.1.1;subst hlen;have hk:k<l.length:=(List.getElem?_eq_some_iff.1 hx).1;obtain⟨v1,w1,hap1,hO1,hB1,hz1,-,-⟩:=jaW Tryz.prog (cap:=cap) 22 jbx jch rfl (by decide) (World.ownsRow_nil w w.heap.size 70 12) (Below.refl w.heap.size w) (Nat.le_refl _) (Nat.le_refl _) jb0 hT.row.1 jdm (by omega) (by omega) (by decide);rw[Nat.zero_add,List.nil_append] at hO1
 obtain⟨g,tc,rfl⟩:∃ g tc,v1=.slice (some ⟨g,0,none⟩) l.length tc:=by
  rcases hO1.2 with⟨h1,h2⟩ | ⟨g,cap,cur,h1,_⟩
  ·omega
  ·exact⟨g,cap,h1⟩
 have hgb:w.heap.size<=g:=(jdU hO1).1;have hgl:g<w1.heap.size:=jft hO1;have HGr:Hid (GrowS w.heap.size (fun b=>b<w.heap.size\/w1.heap.size<=b) w1 (.slice (some ⟨g,0,none⟩) l.length tc) l):=⟨hO1,fun e he=>(hT.at_ e he).go hB1,fun e he=>(hT.at_ e he).off.imp fun b hb=>⟨.inl hb,fun e=>by injection e with e;simp at e;omega⟩⟩;have HB1:=Lib.hid hB1;have HX:=Lib.hid hx;have HGd:=Lib.hid hg;have HMy:=Lib.hid hm;have HP:Hid (p.At w1.heap.size w1 x):=HGr.out.at_ _ (List.mem_of_getElem? hx);have HL:Hid (Calls Tryz.prog 96 #[.agg #[.int .i64 x.sk.kind,.int .i64 x.sk.level,.slice p.ss.ea p.ss.el p.ss.ec,.int .i64 x.sk.hb,.string x.sk.hr,.int .i64 x.sk.cr,.int .i64 x.sk.cc,.slice p.ss.ca p.ss.cl p.ss.cc,.int .i64 x.sk.gf,.slice p.ss.ga p.ss.gl p.ss.gc]] w1 (SkG (jeY x.sk,0) w1)):=jje hg hm HP.out.s;have HLs:Hid ((⟨x.l,jeY x.sk,x.seen⟩:Ser)=jcN x):=rfl;generalize jeY x.sk=y at HL HLs;have i0:(0:Int)<=(k:Int):=by omega
 have i1:(k:Int)<(l.length:Int):=by omega
 have i2:g<w1.heap.size:=hgl;have e1:w1.cell? ⟨g,k*12+1,none⟩=some (.int .i64 x.sk.kind):=jaf hO1 (jaj (i:=1) hx (by decide));have e2:w1.cell? ⟨g,k*12+2,none⟩=some (.int .i64 x.sk.level):=jaf hO1 (jaj (i:=2) hx (by decide));have e3:w1.cell? ⟨g,k*12+3,none⟩=some (.slice p.ss.ea p.ss.el p.ss.ec):=jaf hO1 (jaj (i:=3) hx (by decide));have e4:w1.cell? ⟨g,k*12+4,none⟩=some (.int .i64 x.sk.hb):=jaf hO1 (jaj (i:=4) hx (by decide));have e5:w1.cell? ⟨g,k*12+5,none⟩=some (.string x.sk.hr):=jaf hO1 (jaj (i:=5) hx (by decide));have e6:w1.cell? ⟨g,k*12+6,none⟩=some (.int .i64 x.sk.cr):=jaf hO1 (jaj (i:=6) hx (by decide));have e7:w1.cell? ⟨g,k*12+7,none⟩=some (.int .i64 x.sk.cc):=jaf hO1 (jaj (i:=7) hx (by decide));have e8:w1.cell? ⟨g,k*12+8,none⟩=some (.slice p.ss.ca p.ss.cl p.ss.cc):=jaf hO1 (jaj (i:=8) hx (by decide));have e9:w1.cell? ⟨g,k*12+9,none⟩=some (.int .i64 x.sk.gf):=jaf hO1 (jaj (i:=9) hx (by decide));have e10:w1.cell? ⟨g,k*12+10,none⟩=some (.slice p.ss.ga p.ss.gl p.ss.gc):=jaf hO1 (jaj (i:=10) hx (by decide));clear hT hg hm hO1 hB1 hx hgl;go_enter Tryz.func47,Tryz.ntmps47;go_wp2_with fail;refine HL.out.mono ?_;rintro e w3 ⟨s,rfl,hA3,hF3,hb3⟩;have hG3:=HGr.out.go hb3;have HG3:=Lib.hid hG3;have s1:w3.cell? ⟨g,k*12+1,none⟩=some (.int .i64 x.sk.kind):=jaf HG3.out.own (jaj (i:=1) HX.out (by decide));have t1:w3.frozen? ⟨g,k*12+1,none⟩=false:=jao HG3.out.own _;have s2:w3.cell? ⟨g,k*12+2,none⟩=some (.int .i64 x.sk.level):=jaf HG3.out.own (jaj (i:=2) HX.out (by decide))
 have t2:w3.frozen? ⟨g,k*12+2,none⟩=false:=jao HG3.out.own _;have s3:w3.cell? ⟨g,k*12+3,none⟩=some (.slice p.ss.ea p.ss.el p.ss.ec):=jaf HG3.out.own (jaj (i:=3) HX.out (by decide));have t3:w3.frozen? ⟨g,k*12+3,none⟩=false:=jao HG3.out.own _;have s4:w3.cell? ⟨g,k*12+4,none⟩=some (.int .i64 x.sk.hb):=jaf HG3.out.own (jaj (i:=4) HX.out (by decide));have t4:w3.frozen? ⟨g,k*12+4,none⟩=false:=jao HG3.out.own _;have s5:w3.cell? ⟨g,k*12+5,none⟩=some (.string x.sk.hr):=jaf HG3.out.own (jaj (i:=5) HX.out (by decide));have t5:w3.frozen? ⟨g,k*12+5,none⟩=false:=jao HG3.out.own _;have s6:w3.cell? ⟨g,k*12+6,none⟩=some (.int .i64 x.sk.cr):=jaf HG3.out.own (jaj (i:=6) HX.out (by decide));have t6:w3.frozen? ⟨g,k*12+6,none⟩=false:=jao HG3.out.own _;have s7:w3.cell? ⟨g,k*12+7,none⟩=some (.int .i64 x.sk.cc):=jaf HG3.out.own (jaj (i:=7) HX.out (by decide));have t7:w3.frozen? ⟨g,k*12+7,none⟩=false:=jao HG3.out.own _;have s8:w3.cell? ⟨g,k*12+8,none⟩=some (.slice p.ss.ca p.ss.cl p.ss.cc):=jaf HG3.out.own (jaj (i:=8) HX.out (by decide));have t8:w3.frozen? ⟨g,k*12+8,none⟩=false:=jao HG3.out.own _;have s9:w3.cell? ⟨g,k*12+9,none⟩=some (.int .i64 x.sk.gf):=jaf HG3.out.own (jaj (i:=9) HX.out (by decide));have t9:w3.frozen? ⟨g,k*12+9,none⟩=false:=jao HG3.out.own _;have s10:w3.cell? ⟨g,k*12+10,none⟩=some (.slice p.ss.ga p.ss.gl p.ss.gc):=jaf HG3.out.own (jaj (i:=10) HX.out (by decide));have t10:w3.frozen? ⟨g,k*12+10,none⟩=false:=jao HG3.out.own _;obtain⟨V,hV,hO,hAp,hBV⟩:=jes y s hG3.own HX.out
 have HO:=Lib.hid hO;have HAp:=Lib.hid hAp;have HA3:=Lib.hid hA3;have HF3:=Lib.hid hF3;have HBV:Hid (Below w.heap.size w V):=hBV _ _ hgb (HB1.out.trans (hb3.mono HB1.out.size));have HW3:Hid (w1.heap.size<=w3.heap.size):=hb3.size;clear hG3 hO hAp hBV hA3 hF3 hb3 e1 e2 e3 e4 e5 e6 e7 e8 e9 e10;dsimp only at hV ⊢;go_wp2_with fail;go_ret;have hS:=HG3.out.setS HX.out HAp.out HO.out HA3.out HF3.out i2 (fun b hb=>.inr hb);obtain⟨a',cap',hv,hTab,hfr,-⟩:=hS.tab;rw[List.length_set] at hv hTab
 cases hv
 rw[HLs.out] at hTab;exact⟨_,tc,rfl,s,hTab,hfr,HF3.out.mono HB1.out.size,HBV.out⟩
end Go.Proofs.YtieknocphiceoaaGreatDoor
namespace Go.Proofs.YtieknocphiceoaaGreatDoor
open Go Go.RowKit Go.Shelf
def OffB (B:Nat) (ta:Option Addr) (m:List (Ser × SerP)):Prop:=(∀ z,ta=some z->z.block≠B)/\∀ e∈m,e.2.Off (· ≠ B)
theorem OffB.past {W:World} {ta:Option Addr} {len cap:Nat} {m:List (Ser × SerP)} (h:Tab W.heap.size W ta len cap m) (hp:0<len) {B:Nat} (hB:W.heap.size<=B):OffB B ta m:=by
 refine⟨fun z hz=>?_,fun e he=>(h.at_ e he).off.imp fun b hb=>by omega⟩;have:=(h.row.2.2.2.2 z hz (Nat.lt_of_lt_of_le hp h.row.2.1)).2;omega
theorem jkk {W:World} {base:Nat} {pa:Option Addr} {pc:Nat} {ps:List Nat} {ta:Option Addr} {len cap:Nat} {m:List (Ser × SerP)} {w0:World} {B:Nat} (hO:W.ownsRow base 3 1 (.slice pa ps.length pc) ps.length (ps.flatMap jeb)) (hB:Below B w0 W) (hBb:B<=base) (hbase:base<=W.heap.size) (hn:ps.length<4294967)
  (hT:Tab W.heap.size W ta len cap m) (hp:0<len) (hoff:∀ b,pa=some b->OffB b.block ta m) (p:Nat) :
  ∃ g c w1,(Builtin.append_ #[25,25] 25 #[.slice pa ps.length pc,.slice (some ⟨W.heap.size,0,none⟩) 1 1]).run Tryz.prog (W.alloc (.cells #[.int .i64 p] 3))=.ok (.slice (some ⟨g,0,none⟩) (ps.length+1) c) w1 /\
   w1.ownsRow base 3 1 (.slice (some ⟨g,0,none⟩) (ps++[p]).length c) (ps++[p]).length ((ps++[p]).flatMap jeb)/\Below B w0 w1/\Tab w1.heap.size w1 ta len cap m/\OffB g ta m/\g<w1.heap.size:=by
 obtain⟨g,c,w1,hap,hown,hB1,hsz,-,hfr⟩:=jax Tryz.prog 25 jfW jfT rfl (by decide) (W:=W) hO hB hBb hbase (jeb p) rfl (jfQ p) (by omega) (by decide)
 have hcell:∀ j u,(jeb p)[j]? = some u->(W.alloc (.cells (jeb p).toArray 3)).cell? ((⟨W.heap.size,0,none⟩:Addr).add j)=some u:=fun j u hj=>by
  have:=cCc (World.alloc_heap_new W (.cells (jeb p).toArray 3)) j;have ea:(⟨W.heap.size,0,none⟩:Addr).add j=⟨W.heap.size,j,none⟩:=by unfold Addr.add;split<;>simp_all
  rw[ea,this];simpa using hj
 have hwh:=jcZ 25 jfW jfT (hO.alloc _) (n:=ps.length) (m:=1) rfl hcell (jfQ p) (by omega) (by unfold maxLen;omega) (by omega) hap
 have hown':w1.ownsRow base 3 1 (.slice (some ⟨g,0,none⟩) (ps++[p]).length c) (ps++[p]).length ((ps++[p]).flatMap jeb):=by
  rw[List.length_append,List.flatMap_append];simpa [jeb] using hown
 have hog:OffB g ta m:=by
  rcases hwh with e | ⟨b,e,hb⟩
  ·cases pa with
   | none=>simp[Value.ownBlock] at e
   | some z =>
    have h1:=hoff z rfl;have hz:z.block=g:=by simp[Value.ownBlock] at e;exact e.symm
    rw[hz] at h1;exact h1
  ·have hbg:g=b:=by simp[Value.ownBlock] at e;exact e
   simp at hb;exact .past hT hp (by omega)
 have hsz':W.heap.size<=w1.heap.size:=by omega
 refine⟨g,c,w1,hap,hown',hB1,?_,hog,jft hown'⟩
 cases pa with
 | none=>exact hT.apart (B:=g) (fun z hz _=>hog.1 z hz) hog.2 ⟨hsz',fun b hb _=>hfr b hb (by simp[Value.ownBlock])⟩
 | some z =>
  obtain⟨h1,h2⟩:=hoff z rfl;exact hT.apart (B:=z.block) (fun y hy _=>h1 y hy) h2 ⟨hsz',fun b hb hne=>hfr b hb fun e=>hne (by simp[Value.ownBlock] at e;exact e)⟩
end Go.Proofs.YtieknocphiceoaaGreatDoor
