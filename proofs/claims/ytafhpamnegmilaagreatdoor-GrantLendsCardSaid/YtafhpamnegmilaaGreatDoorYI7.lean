/- series.Meant; what a scope means, in plain data. The reference of layer 12: Meant. What a scope means, in plain data: the sketches that are merged; in parts. series.Merged. grant.Lent. The reference of layer 15: Lent. The reference of layer 12: Merged. Printed by gen_i7.py. -/
import Derived.Test.YtafhpamnegmilaaGreatDoorYVP
set_option maxHeartbeats 8000000
set_option maxRecDepth 100000
namespace Go.Proofs.YtafhpamnegmilaaGreatDoor
open Go Go.RowKit
section
open Go.Shelf
theorem jvi (s:jb4) (a:Option Addr) (len cap:Nat) (l:List Lab) (w:World) (h:SlE Lab.enc 2 w.heap.size w a len l) (F:jfs l) (hr:jal l=true) (D:GW w) (E:len<4294967281) :
  CR 29 #[.string s.1,.slice a len cap] w (.tuple #[.bool (jbM s l).1,.int .i64 (jbM s l).2]):=by
 have C:=h.1
 have A:0<len:=by
  rcases Nat.eq_zero_or_pos len with A | A
  ·subst A
   obtain rfl:l=[]:=List.eq_nil_of_length_eq_zero C.symm
   cases hr
  ·exact A
 have B:=h.to_at (cap:=cap) jfh A;obtain⟨G,rfl⟩:=jks l F;rw[List.length_map] at C;subst C;exact jqb s a cap G w B D E
def jbR (s:jb4):Nat->List Ser->List Nat
 | _,[]=>[]
 | k,x::r=>if (jbM s x.l).1 then k::jbR s (k+1) r else jbR s (k+1) r
def jfE (L:List Ser) (s:jb4):Bool:=jas L&&jdy s
def jbe (L:List Ser) (s:jb4):Int:=if jas L then (if jdy s then 0 else 50) else 120
def jaZ (L:List Ser) (s:jb4):List Nat:=if jfE L s then jbR s 0 L else []
theorem jeK (s:jb4) (x:Ser):∀ (l:List Ser) (k:Nat),jbR s k (l++[x])=jbR s k l++(if (jbM s x.l).1 then [k+l.length] else [])
 | [],k=>by simp[jbR]
 | y::l,k=>by
  simp only[List.cons_append,jbR,jeK s x l,List.length_cons];have e:k+1+l.length=k+(l.length+1):=by omega
  split<;>simp[e]
theorem jgR (s:jb4):∀ (l:List Ser) (k:Nat),(jbR s k l).length<=l.length
 | [],k=>by simp[jbR]
 | y::l,k=>by
  have:=jgR s l (k+1);simp only[jbR,List.length_cons];split
  ·simp only[List.length_cons];omega
  ·omega
def ji4 (n:Nat):List Value:=[.int .i64 n]
theorem jtE (n:Nat):(ji4 n).length=1:=rfl
theorem jtF (n:Nat):∀ u∈ji4 n,u.oneCell'=true:=by
 intro u A;simp only[ji4,List.mem_singleton] at A;subst A;rfl
theorem joL:Tryz.prog.underlying 25=some (.slice 3):=by kernel_rfl
theorem jol:(Tryz.prog.info? 3).map (fun i=>(i.zero,i.size,i.bytes))=some (some (.int .i64 0),1,8):=by kernel_rfl
theorem jpw {s:jb4} {l:List Lab} (A:jdy s=true) (B:jal l=true):(jbM s l).2=0:=by
 unfold jdy at A;unfold jbM
 cases C:jfq s with
 | none=>rw[C] at A;cases A
 | some ts=>simp[B]
theorem jkG {A B:World} {C e D n:Nat} {v:Value} {xs:List Value} (h:A.ownsRow C e D v n xs) (J:Bw A B):B.ownsRow C e D v n xs :=
 ⟨h.1,h.2.imp id (fun ⟨g,cap,E,F,G,H,I⟩=>⟨g,cap,E,F,G,jab J (Nat.le_refl _) H,I⟩)⟩
def jby (L:List Ser) (s:jb4) (w:World) (e:Ending) (w':World):Prop :=
 ∃ a cap,e=.returned (.tuple #[.slice a (jaZ L s).length cap,.int .i64 (jbe L s)])/\SlC ji4 1 w'.heap.size w' a (jaZ L s).length cap (jaZ L s)/\Bw w w'
attribute [-go_sem] Builtin.append_
theorem jla (s:jb4) (l:List (Ser × SerP)) (a:Option Addr) (len cap:Nat) (w:World) (d:Tab w.heap.size w a len cap l) (z:jdl l) (hG:GW w) :
  Calls Tryz.prog 7 #[.slice a len cap,.string s.1] w (jby (l.map (·.1)) s w):=by
 have c:=jbm l a len cap w d z hG;have n:=d.row.1.1;subst n;have HT:=Lib.hid d;have HF:=Lib.hid z;have HG:=Lib.hid hG;have hm:l.length<=maxLen:=Nat.le_trans d.row.2.1 d.row.2.2.1;unfold maxLen at hm;clear d z hG
 cases hr:jas (l.map (·.1)) with
 | false =>
  rw[hr] at c;have J:Hid (jbe (l.map (·.1)) s=120/\jaZ (l.map (·.1)) s=[]):=⟨by rw[jbe,hr];rfl,by rw[jaZ,jfE,hr];rfl⟩;clear hr;go_enter Tryz.func7,Tryz.ntmps7;go_wp2_with (go_at_call 26;refine c.mono ?_;rintro e w1 ⟨rfl,A⟩);go_ret2;exact⟨none,0,by rw[J.out.1,J.out.2];rfl,by rw[J.out.2];exact SlC.nil,A⟩
 | true =>
  rw[hr] at c;have M:Hid (∀ w',Bw w w'->Calls Tryz.prog 28 #[.string s.1] w' fun e ae=>e=.returned (.bool (jdy s))/\Bw w' ae):=fun w' hb=>jnF s w' (HG.out.below hb)
  cases P:jdy s with
  | false =>
   rw[P] at M;have J:Hid (jbe (l.map (·.1)) s=50/\jaZ (l.map (·.1)) s=[]):=⟨by rw[jbe,hr,P];rfl,by rw[jaZ,jfE,hr,P];rfl⟩;clear hr P;go_enter Tryz.func7,Tryz.ntmps7
   go_wp2_with (first
    | (go_at_call 26;refine c.mono ?_;rintro e w1 ⟨rfl,A⟩)
    | (go_at_call 28;refine (M.out _ A).mono ?_;rintro e w2 ⟨rfl,V⟩))
   go_ret2;exact⟨none,0,by rw[J.out.1,J.out.2];rfl,by rw[J.out.2];exact SlC.nil,A.trans (V.mono A.size)⟩
  | true =>
   rw[P] at M;have J:Hid (jbe (l.map (·.1)) s=0/\jaZ (l.map (·.1)) s=jbR s 0 (l.map (·.1))):=⟨by rw[jbe,hr,P];rfl,by rw[jaZ,jfE,hr,P];rfl⟩
   have q:Hid (∀ x∈l.map (·.1),jal x.l=true):=fun x Z=>by
    have:=((jbZ _).1 hr).2.1 x Z;simp only[jaV,Bool.and_eq_true] at this;exact this.1
   have ai:l.length<=20:=by have:=((jbZ _).1 hr).1;rwa [List.length_map] at this
   have u:=Lib.hid P;clear hr P;go_enter Tryz.func7,Tryz.ntmps7
   go_wp2_with (first
    | (go_at_call 26;refine c.mono ?_;rintro e w1 ⟨rfl,A⟩)
    | (go_at_call 28;refine (M.out _ A).mono ?_;rintro e w2 ⟨rfl,V⟩))
   clear c;have m:=A.trans (V.mono A.size);go_loopw [6,19] (fun v i wr=>∃ (k:Nat) (I:List Nat),i=.int .i64 k/\k<=l.length/\Hid (I=jbR s 0 ((l.map (·.1)).take k))/\Hid (I.length<=k)/\wr.ownsRow w.heap.size 3 1 v I.length (I.flatMap ji4)/\Bw w wr) (fun _ i _=>l.length-(intOf i).toNat)
   case atStart=>exact⟨0,[],rfl,Nat.zero_le _,rfl,Nat.le_refl _,World.ownsRow_nil _ _ _ _,m⟩
   case round =>
    obtain⟨k,I,rfl,hk,g,S,H,U⟩:=hrel;have Q:=U.size;obtain⟨va,vc,rfl⟩:=jd4 H;have T:=Lib.hid H;have ac:I.length<4294967:=by have:=S.out;omega
    obtain⟨np,C⟩:∃ np,Hid (I.length=np):=⟨_,rfl⟩;rw[C.out] at ac ⊢;clear H;by_cases ab:k<l.length
    ·obtain⟨⟨x,p⟩,Z⟩:∃ x,l[k]? = some x:=⟨_,List.getElem?_eq_getElem ab⟩
     obtain⟨b,off,rfl,ak,E⟩:=(HT.out.below U).row.1.2 k (x,p) Z;have c0:wr.cell? ⟨b,off+k*12,none⟩=some (.slice p.la p.ll p.lc):=E 0 (by omega);have c1:wr.cell? ⟨b,off+k*12+1,none⟩=some (.int .i64 x.sk.kind):=E 1 (by omega);have c2:wr.cell? ⟨b,off+k*12+2,none⟩=some (.int .i64 x.sk.level):=E 2 (by omega);have c3:wr.cell? ⟨b,off+k*12+3,none⟩=some (.slice p.ss.ea p.ss.el p.ss.ec):=E 3 (by omega);have c4:wr.cell? ⟨b,off+k*12+4,none⟩=some (.int .i64 x.sk.hb):=E 4 (by omega);have c5:wr.cell? ⟨b,off+k*12+5,none⟩=some (.string x.sk.hr):=E 5 (by omega);have c6:wr.cell? ⟨b,off+k*12+6,none⟩=some (.int .i64 x.sk.cr):=E 6 (by omega);have c7:wr.cell? ⟨b,off+k*12+7,none⟩=some (.int .i64 x.sk.cc):=E 7 (by omega);have c8:wr.cell? ⟨b,off+k*12+8,none⟩=some (.slice p.ss.ca p.ss.cl p.ss.cc):=E 8 (by omega);have c9:wr.cell? ⟨b,off+k*12+9,none⟩=some (.int .i64 x.sk.gf):=E 9 (by omega);have ag:wr.cell? ⟨b,off+k*12+10,none⟩=some (.slice p.ss.ga p.ss.gl p.ss.gc):=E 10 (by omega);have ah:wr.cell? ⟨b,off+k*12+11,none⟩=some (.int .u64 x.seen):=E 11 (by omega);have HX:Hid ((l.map (·.1))[k]? = some x):=by rw[Hid,List.getElem?_map,Z];rfl
     have HP:Hid (p.At wr.heap.size wr x):=((HT.out.at_ _ (List.mem_of_getElem? Z)).below U).mono Q;have f:=Lib.hid (HF.out _ (List.mem_of_getElem? Z));obtain⟨h,aj,aa,N,ad⟩:=jaf wr #[.slice p.la p.ll p.lc,.int .i64 x.sk.kind,.int .i64 x.sk.level,.slice p.ss.ea p.ss.el p.ss.ec,.int .i64 x.sk.hb,.string x.sk.hr,.int .i64 x.sk.cr,.int .i64 x.sk.cc,.slice p.ss.ca p.ss.cl p.ss.cc,.int .i64 x.sk.gf,.slice p.ss.ga p.ss.gl p.ss.gc,.int .u64 x.seen] 60;obtain⟨r0,r1,r2,r3,r4,r5,r6,r7,r8,r9,an,ao⟩:=jhS aa;have t:Hid (p.At h.heap.size h x):=HP.out.go N;have o:Hid (GW h):=HG.out.below (U.trans (N.mono Q));have al:wr.heap.size<h.heap.size:=by omega
     have Y:jal x.l=true:=q.out x (List.mem_of_getElem? HX.out);have F:=jvi s p.la p.ll p.lc x.l h t.out.l.1 f.out.lab Y o.out f.out.ll;rw[jpw u.out Y] at F
     have L:Hid (jbR s 0 ((l.map (·.1)).take (k+1))=I++(if (jbM s x.l).1 then [k] else [])):=by
      rw[Hid,jai HX.out,jeK,<- g.out,List.length_take,List.length_map,Nat.min_eq_left hk,Nat.zero_add]
     clear E Z ad Y
     cases O:(jbM s x.l).1 with
     | false =>
      rw[O] at F L;clear O;go_wp2_with (go_at_call 29;refine F.mono ?_;rintro e w4 ⟨rfl,X⟩);have B:=N.trans (X.mono (by omega));go_roundw
      case rel=>exact⟨k+1,I,by go_num,by omega,by rw[Hid,L.out];simp,by have:=S.out;rw[Hid];omega,by rw[<- C.out];exact jkG T.out B,U.trans (B.mono Q)⟩
      case measure=>simp[intOf];omega
     | true =>
      rw[O] at F L;clear O;go_wp2_with (go_at_call 29;refine F.mono ?_;rintro e w4 ⟨rfl,X⟩;have B:=N.trans (X.mono (by omega));have R:=U.trans (B.mono Q);obtain⟨g5,af,w5,j,D,y,am,-⟩:=jaL Tryz.prog 25 joL jol rfl (by decide) (W:=w4) (jkG T.out B) R (Nat.le_refl _) (by have:=R.size;omega) [.int .i64 (k:Int)] rfl (by simp[Value.oneCell']) (by rw[C.out];omega) (by decide);rw[C.out] at j D;have r:=Lib.hid D;clear D);go_roundw
      case rel=>exact⟨k+1,I++[k],by go_num,by omega,by rw[Hid,L.out];simp,by have:=S.out;rw[Hid,List.length_append];simp;omega,by rw[List.length_append,C.out,List.flatMap_append];exact r.out,y⟩
      case measure=>simp[intOf];omega
    ·obtain rfl:k=l.length:=by omega
     have G:I=jaZ (l.map (·.1)) s:=by rw[J.out.2,g.out,List.take_of_length_le (by rw[List.length_map];exact Nat.le_refl _)]
     have FI:Hid (jby (l.map (·.1)) s w (.returned (.tuple #[.slice va np vc,.int .i64 0])) wr):=by
      obtain⟨a',c',e1,h1,-⟩:=jaz (enc:=ji4) (fun _=>rfl) T.out;rw[C.out] at e1;refine⟨a',c',?_,?_,U⟩
      ·rw[<- G,C.out,J.out.1,e1]
      ·rw[<- G];exact h1
     clear G;go_wp2_with fail;go_ret2;exact FI.out
end
section
open Go.Shelf
theorem jkx (s:jb4):∀ (l:List Ser) (k:Nat),(∀ i∈jbR s k l,k<=i/\i<k+l.length)/\(jbR s k l).Pairwise (· < ·)
 | [],k=>⟨(fun i h=>by cases h),List.Pairwise.nil⟩
 | x::r,k=>by
  obtain⟨C,D⟩:=jkx s r (k+1);have B:∀ i∈jbR s (k+1) r,k<=i/\i<k+(r.length+1):=fun i A=>by have:=C i A;omega
  simp only[jbR,List.length_cons];split
  ·refine⟨fun i A=>?_,List.pairwise_cons.2 ⟨fun i A=>by have:=C i A;omega,D⟩⟩
   rcases List.mem_cons.1 A with rfl | A
   ·omega
   ·exact B i A
  ·exact⟨B,D⟩
end
section
open Go.Shelf
theorem jpx {L:List Ser} {k:Nat} {x:Ser} (s:jb4) (h:L[k]? = some x):jbR s 0 (L.take (k+1))=jbR s 0 (L.take k)++(if (jbM s x.l).1 then [k] else []):=by
 have A:=(List.getElem?_eq_some_iff.1 h).1;rw[jai h,jeK,Nat.zero_add,List.length_take,Nat.min_eq_left (Nat.le_of_lt A)]
attribute [-go_sem] Builtin.append_
theorem jeW (s:jb4) (l:List (Ser × SerP)) (a:Option Addr) (len cap:Nat) (w:World) (U:Tab w.heap.size w a len cap l) (hF:jdl l) (hL:jhK (l.map (·.1))) :
  Calls Tryz.prog 9 #[.slice a len cap,.string s.1] w (jby (l.map (·.1)) s w):=by
 have T:=jkQ l a len cap w U hF hL;have d:=U.row.1.1;subst d;have HT:=Lib.hid U;have HF:=Lib.hid hF
 have C:Hid (∀ W,CR 31 #[.string s.1] W (.bool (jdy s))):=fun W=>by
  have h:=jeO s W;rw[jnE] at h;exact h
 have F:Hid (∀ (p:SerP) (x:Ser) W,p.At W.heap.size W x->SerFit x p->CR 32 #[.string s.1,.slice p.la p.ll p.lc] W (.tuple #[.bool (jbM s x.l).1,.int .i64 (jbM s x.l).2])):=fun p x W hp hf=>jiu s p.la p.ll p.lc x.l W hp.l.1 hf.lab (by have h9:p.ll<4294967281:=hf.ll;unfold maxLen;omega)
 obtain⟨L,S⟩:∃ L,l.map (·.1)=L:=⟨_,rfl⟩;have P:=Lib.hid S;rw[S] at T ⊢;have B:∀ e w',jby L s w e w'=∃ a cap,e=.returned (.tuple #[.slice a (jaZ L s).length cap,.int .i64 (jbe L s)])/\SlC ji4 1 w'.heap.size w' a (jaZ L s).length cap (jaZ L s)/\Bw w w':=fun _ _=>rfl
 replace B:=Lib.hid B;have ad:l.length<=maxLen:=Nat.le_trans U.row.2.1 U.row.2.2.1;unfold maxLen at ad;clear U hF hL S
 cases hr:jas L with
 | false =>
  rw[hr] at T;have J:Hid (jbe L s=120/\jaZ L s=[]):=by unfold jbe jaZ jfE;rw[Hid,hr];exact⟨rfl,rfl⟩
  generalize jby L s w=Q at B ⊢;obtain⟨t,ht⟩:=s;dsimp only at C F ⊢;clear hr;go_enter Tryz.func9,Tryz.ntmps9;go_wp2_with fail;refine T.mono ?_;rintro e u ⟨rfl,D⟩;go_wp2_with fail;rw[B.out,J.out.1,J.out.2];exact⟨none,0,rfl,SlC.nil,D⟩
 | true =>
  rw[hr] at T
  cases V:jdy s with
  | false =>
   rw[V] at C;have J:Hid (jbe L s=50/\jaZ L s=[]):=by unfold jbe jaZ jfE;rw[Hid,hr,V];exact⟨rfl,rfl⟩
   generalize jby L s w=Q at B ⊢;obtain⟨t,ht⟩:=s;dsimp only at C F ⊢;clear hr V;go_enter Tryz.func9,Tryz.ntmps9;go_wp2_with fail;refine T.mono ?_;rintro e u ⟨rfl,D⟩;go_wp2_with fail;refine (C.out u).mono ?_;rintro e w2 ⟨rfl,N⟩;go_wp2_with fail;rw[B.out,J.out.1,J.out.2];exact⟨none,0,rfl,SlC.nil,D.trans (N.mono D.size)⟩
  | true =>
   rw[V] at C;have J:Hid (jbe L s=0/\jaZ L s=jbR s 0 L):=by unfold jbe jaZ jfE;rw[Hid,hr,V];exact⟨rfl,rfl⟩
   have af:l.length<=20:=by have:=((jbZ _).1 hr).1;rw[<- P.out,List.length_map] at this;exact this
   have R:=Lib.hid (fun k x=>jpx (L:=L) (k:=k) (x:=x) s);obtain⟨G,hG⟩:∃ G,jbR s 0=G:=⟨_,rfl⟩;have z:Hid (G []=[]):=by rw[Hid,<- hG];rfl
   rw[hG] at J R;obtain⟨o,m⟩:∃ o,jbM s=o:=⟨_,rfl⟩;rw[m] at F R;generalize jby L s w=Q at B ⊢;obtain⟨t,ht⟩:=s;dsimp only at C F ⊢;clear hr V hG m;go_enter Tryz.func9,Tryz.ntmps9;go_wp2_with fail;refine T.mono ?_;rintro e u ⟨rfl,D⟩;go_wp2_with fail;refine (C.out u).mono ?_;rintro e w2 ⟨rfl,N⟩;have v:Hid (Bw w w2):=D.trans (N.mono D.size);clear D N T C;go_wp2_with fail;go_loopw [6,7] (fun ov i wr=>∃ (k:Nat) (A:List Nat) (q:Option Addr) (X:Nat),i=.int .i64 k/\ov=.slice q A.length X/\k<=l.length/\A.length<=k/\Bw w wr/\Hid (wr.ownsRow w.heap.size 3 1 ov A.length (A.flatMap ji4))/\Hid (A=G (L.take k))) (fun _ i _=>l.length-(intOf i).toNat)
   case atStart=>exact⟨0,[],none,0,rfl,rfl,Nat.zero_le _,Nat.zero_le _,v.out,World.ownsRow_nil _ _ _ _,by rw[Hid,List.take_zero];exact z.out.symm⟩
   case round =>
    obtain⟨k,A,q,X,rfl,rfl,hk,ag,I,HO,HP⟩:=hrel;have i0:(0:Int)<=(k:Int):=Int.natCast_nonneg k;by_cases f:k<l.length
    ·obtain⟨⟨x,p⟩,n⟩:∃ x,l[k]? = some x:=⟨_,List.getElem?_eq_getElem f⟩
     obtain⟨b,off,ea,ac,hc⟩:=HT.out.row.1.2 k (x,p) n;have c0:wr.cell? ⟨b,off+k*12,none⟩=some (.slice p.la p.ll p.lc):=(I.cell (p:=⟨b,off+k*12,none⟩) ac).trans (hc 0 (by omega));subst ea;have i1:(k:Int)<(l.length:Int):=Int.ofNat_lt.2 f;have HX:Hid (L[k]? = some x):=by rw[Hid,<- P.out,List.getElem?_map,n];rfl
     have M:=F.out p x wr (((HT.out.at_ _ (List.mem_of_getElem? n)).below I).mono I.size) (HF.out _ (List.mem_of_getElem? n));have HN:Hid (G (L.take (k+1))=A++(if (o x.l).1 then [k] else [])):=by rw[Hid,R.out k x HX.out,HP.out]
     obtain⟨m1,j⟩:∃ m1,(o x.l).1=m1:=⟨_,rfl⟩;rw[j] at M HN;generalize (o x.l).2=m2 at M;clear hc n j
     cases m1 with
     | false =>
      have Y:Hid (A=G (L.take (k+1))):=by rw[Hid,HN.out];simp
      go_wp2_with fail;refine M.mono ?_;rintro e r ⟨rfl,E⟩;have H:=I.trans (E.mono I.size);have aa:Hid (r.ownsRow w.heap.size 3 1 (.slice q A.length X) A.length (A.flatMap ji4)):=jkG HO.out E;clear E I;go_wp2_with fail;go_roundw
      case rel=>exact⟨k+1,A,q,X,by go_num,rfl,by omega,by omega,H,aa.out,Y.out⟩
      case measure=>simp[intOf];omega
     | true =>
      have Y:Hid (A++[k]=G (L.take (k+1))):=by rw[Hid,HN.out];rfl
      go_wp2_with fail;refine M.mono ?_;rintro e r ⟨rfl,E⟩;have H:=I.trans (E.mono I.size);obtain⟨g,c5,w5,c,O,Z,ae,-,-⟩:=jaL Tryz.prog 25 joL jol rfl (by decide) (W:=r) (jkG HO.out E) H (Nat.le_refl _) H.size (ji4 k) rfl (jtF k) (by omega) (by decide);have c:(Builtin.append_ #[25,25] 25 #[.slice q A.length X,.slice (some ⟨r.heap.size,0,none⟩) 1 1]).run Tryz.prog (r.alloc (.cells #[.int .i64 k] 3))=.ok (.slice (some ⟨g,0,none⟩) (A.length+1) c5) w5:=c
      have ab:Hid (w5.ownsRow w.heap.size 3 1 (.slice (some ⟨g,0,none⟩) (A.length+1) c5) (A++[k]).length ((A++[k]).flatMap ji4)):=by
       rw[Hid,List.length_append,List.flatMap_append];simpa [ji4] using O
      have y:=Lib.hid Z;clear O Z ae E I H;go_wp2_with fail;go_roundw
      case rel=>exact⟨k+1,A++[k],some ⟨g,0,none⟩,c5,by go_num,by rw[List.length_append];rfl,by omega,by rw[List.length_append];simp;omega,y.out,ab.out,Y.out⟩
      case measure=>simp[intOf];omega
    ·have i1:¬ (k:Int)<(l.length:Int):=by omega
     have Y:Hid (A=G L):=by rw[Hid,HP.out,List.take_of_length_le (by rw[<- P.out,List.length_map];omega)]
     obtain⟨a',c',hv,hS,-⟩:=jaz (enc:=ji4) jtE HO.out
     cases hv
     have HS:=Lib.hid hS;clear hS;go_wp2_with fail;rw[B.out,J.out.1,J.out.2,<- Y.out];exact⟨_,X,rfl,HS.out,I⟩
end
def skB (x:Sk):Nat × Bd:=(x.level.toNat,jsX x)
def jb9 (kind:Int) (x:Ser):List (Nat × Bd):=if x.sk.kind==kind then [skB x.sk] else []
def ja0 (L:List Ser) (kind:Int) (ps:List Nat):List (Nat × Bd):=ps.flatMap fun i=>match L[i]? with
 | some x=>jb9 kind x
 | none=>[]
theorem jl8 {L:List Ser} {i:Nat} {x:Ser} (h:L[i]? = some x) (A:Int):ja0 L A [i]=jb9 A x:=by
 simp[ja0,h]
theorem jjL (L:List Ser) (A:Int) (p q:List Nat):ja0 L A (p++q)=ja0 L A p++ja0 L A q:=List.flatMap_append
theorem jr2 {k L:Nat} {B:Bd} (h:B.Ok k L):skB (jbu k L B)=(L,B):=by
 unfold skB;rw[jhR h,(jak k L B).2,Int.toNat_natCast]
theorem jr1 {x:Sk} (h:SkGood x) {k:Nat} (D:x.kind=(k:Int)):(skB x).2.Ok k (skB x).1:=by
 obtain⟨C,L,B,rfl,A⟩:=h;rw[(jak C L B).1] at D;obtain rfl:C=k:=by omega
 rw[jr2 A];exact A
theorem jpJ {x:Ser} (h:SkGood x.sk) {k:Nat}:∀ t∈jb9 (k:Int) x,t.2.Ok k t.1:=by
 intro t ht;unfold jb9 at ht;split at ht
 ·rename_i e
  obtain rfl:=List.mem_singleton.1 ht;exact jr1 h (by simpa using e)
 ·cases ht
theorem jl9 {L:List Ser} (h:∀ x∈L,SkGood x.sk) {k:Nat} (C:List Nat):∀ t∈ja0 L (k:Int) C,t.2.Ok k t.1:=by
 intro t ht;unfold ja0 at ht;obtain⟨i,-,A⟩:=List.mem_flatMap.1 ht
 cases B:L[i]? with
 | none=>rw[B] at A;cases A
 | some x =>
  rw[B] at A;exact jpJ (h x (List.mem_of_getElem? B)) t A
def jmH (E kind:Int):Int:=if E==0 then (if kind==1||kind==2||kind==3 then 0 else 101) else E
def jnU (kind E:Int) (S:List (Nat × Bd)):Sk:=if jmH E kind=0 then jbu kind.toNat (jcx kind.toNat S).1 (jcx kind.toNat S).2 else jaQ 0 0 []
def jgx (kind E:Int) (S:List (Nat × Bd)) (w:World) (e:Ending) (w':World):Prop:=∃ (y:Sk) (s:SS),y=jnU kind E S/\e=.returned (.tuple #[.agg #[.int .i64 y.kind,.int .i64 y.level,.slice s.ea s.el s.ec,.int .i64 y.hb,.string y.hr,.int .i64 y.cr,.int .i64 y.cc,.slice s.ca s.cl s.cc,.int .i64 y.gf,.slice s.ga s.gl s.gc],.int .i64 (jmH E kind)])/\s.At w'.heap.size w' y/\Bw w w'
def SkNil:SS:=⟨none,0,0,none,0,0,none,0,0⟩
theorem jkV (w:World):SkNil.At w.heap.size w (jaQ 0 0 []):=⟨SlC.nil,SlC.nil,SlC.nil⟩
theorem jgv {A E:Int} {S:List (Nat × Bd)} (h:jmH E A≠0):jnU A E S=jaQ 0 0 []:=by unfold jnU;rw[if_neg h]
theorem joC {k:Nat} {S:List (Nat × Bd)} (A:k=1\/k=2\/k=3):jmH 0 (k:Int)=0/\jnU (k:Int) 0 S=jbu k (jcx k S).1 (jcx k S).2:=by
 have h:jmH 0 (k:Int)=0:=by unfold jmH;rw[if_pos (by rfl:((0:Int)==0)=true),if_pos (by simp;omega)]
 exact⟨h,by unfold jnU;rw[if_pos h,Int.toNat_natCast]⟩
theorem jiF {L:List Ser} {s:jb4} (h:jbe L s=0):jas L=true/\jdy s=true:=by
 unfold jbe at h
 cases A:jas L
 ·rw[A] at h;cases h
 ·cases B:jdy s
  ·rw[A,B] at h;cases h
  ·exact⟨rfl,rfl⟩
theorem jky {L:List Ser} {s:jb4} (A:jas L=true) (B:jdy s=true):jaZ L s=jbR s 0 L:=by unfold jaZ jfE;rw[A,B];rfl
section
open Go.Shelf
theorem jjX (k:Nat) (S:List (Nat × Bd)) (t:Nat × Bd):jcx k (S++[t])=ja2 (jcx k S) t:=by unfold jcx;rw[List.foldl_append];rfl
structure MI (k:Nat) (S:List (Nat × Bd)) (w:World) (r b:Nat) (W:World):Prop where
 sk:∃ (y:Sk) (s:SS),y=jbu k (jcx k S).1 (jcx k S).2/\W.heap[b]? = some (.cells #[.int .i64 y.kind,.int .i64 y.level,.slice s.ea s.el s.ec,.int .i64 y.hb,.string y.hr,.int .i64 y.cr,.int .i64 y.cc,.slice s.ca s.cl s.cc,.int .i64 y.gf,.slice s.ga s.gl s.gc] 41 (0,0))/\s.At W.heap.size W y
 res:W.heap[r]? = some (.cells #[.int .i64 0,.int .i64 0,.slice none 0 0,.int .i64 0,.string ⟨#[]⟩,.int .i64 0,.int .i64 0,.slice none 0 0,.int .i64 0,.slice none 0 0] 41 (0,0))
 below:Bw w W
theorem MI.go {k:Nat} {S:List (Nat × Bd)} {w W B:World} {r b:Nat} (h:MI k S w r b W) (A:Bw W B):MI k S w r b B:=by
 obtain⟨⟨y,s,D,E,F⟩,G,C⟩:=h;exact⟨⟨y,s,D,jab A (Nat.le_refl _) E,F.go A⟩,jab A (Nat.le_refl _) G,C.trans (A.mono C.size)⟩
theorem jpy {k:Nat} (Q:k=1\/k=2\/k=3) {S:List (Nat × Bd)} (N:∀ t∈S,t.2.Ok k t.1) {x:Ser} (F:SkGood x.sk) (A:x.sk.kind=(k:Int)) {v:Value} {p:SS} {W:World} (T:SkB W v k (jcx k S).1 (jcx k S).2) (R:p.At W.heap.size W x.sk) (P:GT W) :
  Calls Tryz.prog 34 #[v,.agg #[.int .i64 x.sk.kind,.int .i64 x.sk.level,.slice p.ea p.el p.ec,.int .i64 x.sk.hb,.string x.sk.hr,.int .i64 x.sk.cr,.int .i64 x.sk.cc,.slice p.ca p.cl p.cc,.int .i64 x.sk.gf,.slice p.ga p.gl p.gc]] W fun e w'=>∃ (y:Sk) (s:SS),e=.returned (.tuple #[.agg #[.int .i64 y.kind,.int .i64 y.level,.slice s.ea s.el s.ec,.int .i64 y.hb,.string y.hr,.int .i64 y.cr,.int .i64 y.cc,.slice s.ca s.cl s.cc,.int .i64 y.gf,.slice s.ga s.gl s.gc],.int .i64 0])/\y=jbu k (jcx k (S++jb9 (k:Int) x)).1 (jcx k (S++jb9 (k:Int) x)).2/\s.At w'.heap.size w' y/\Bw W w':=by
 have D:jb9 (k:Int) x=[skB x.sk]:=by unfold jb9;rw[A];simp
 rw[D,jjX];have C:=jr1 F A
 have E:SkB W (.agg #[.int .i64 x.sk.kind,.int .i64 x.sk.level,.slice p.ea p.el p.ec,.int .i64 x.sk.hb,.string x.sk.hr,.int .i64 x.sk.cr,.int .i64 x.sk.cc,.slice p.ca p.cl p.cc,.int .i64 x.sk.gf,.slice p.ga p.gl p.gc]) k (skB x.sk).1 (skB x.sk).2:=by
  obtain⟨G,L,B,e,M⟩:=F;rw[e,(jak G L B).1] at A;obtain rfl:G=k:=by omega
  refine⟨x.sk,p,?_,rfl,R⟩;rw[e,jr2 M]
 refine (jqc (joN Q N) C P T E).mono ?_;rintro e w' ⟨v',rfl,⟨y,s,H,I,J⟩,O⟩;subst I;exact⟨y,s,rfl,H,J,O⟩
attribute [-go_sem] Builtin.append_
end
section
open Go.Shelf
theorem jsf (g:jcs) (B:Option Addr) (gl C:Nat) (F:Int) (a:Option Addr) (len cap:Nat) (l:List Lab) (w:World) (H:Grs w.heap.size w (.slice B gl C) g.l) (h:SlE Lab.enc 2 w.heap.size w a len l) (J:jfs l) (hr:jal l=true) (G:GW w) (I:len<4294967281) :
  CR 48 #[.agg #[.int .u64 g.next,.slice B gl C],.int .u64 F,.slice a len cap] w (.bool (jhW g F l)):=by
 have E:=h.1
 have A:0<len:=by
  rcases Nat.eq_zero_or_pos len with A | A
  ·subst A
   obtain rfl:l=[]:=List.eq_nil_of_length_eq_zero E.symm
   cases hr
  ·exact A
 have D:=h.to_at (cap:=cap) jfh A;obtain⟨L,rfl⟩:=jks l J;rw[List.length_map] at E;subst E;exact jiR g B gl C F a cap L w H D G I
def jhV (g:jcs) (tn:Int) (L:List Ser) (i:Nat):Bool:=match L[i]? with
 | some x=>jhW g tn x.l
 | none=>false
theorem jlU {g:jcs} {A:Int} {L:List Ser} {i:Nat} {x:Ser} (h:L[i]? = some x):jhV g A L i=jhW g A x.l:=by unfold jhV;rw[h]
def je1 (g:jcs) (L:List Ser) (s:jb4):Int:=if jcK g then jbe L s else 150
def je2 (g:jcs) (tn:Int) (L:List Ser) (s:jb4):List Nat:=if jcK g then (jaZ L s).filter (jhV g tn L) else []
def jc5 (ps:List Nat) (er:Int) (w:World) (e:Ending) (w':World):Prop :=
 ∃ a cap,e=.returned (.tuple #[.slice a ps.length cap,.int .i64 er])/\SlC ji4 1 w'.heap.size w' a ps.length cap ps/\Bw w w'
theorem jiP (L:List Ser) (s:jb4):∀ i∈jaZ L s,i<L.length:=by
 rw[jaZ];split
 ·intro i A
  have:=((jkx s L 0).1 i A).2;omega
 ·intro i A;cases A
attribute [-go_sem] Builtin.append_
theorem jlu (g:jcs) (j:Option Addr) (gl k:Nat) (G:Int) (s:jb4) (l:List (Ser × SerP)) (a:Option Addr) (len cap:Nat) (w:World) (u:Grs w.heap.size w (.slice j gl k) g.l) (hT:Tab w.heap.size w a len cap l) (hF:jdl l) (hG:GW w) :
  Calls Tryz.prog 18 #[.agg #[.int .u64 g.next,.slice j gl k],.int .u64 G,.slice a len cap,.string s.1] w (jc5 (je2 g G (l.map (·.1)) s) (je1 g (l.map (·.1)) s) w):=by
 have am:=hT.row.1.1;subst am;obtain⟨W0,aH,r,B,aI⟩:=jaf w #[.int .u64 g.next,.slice j gl k] 51;have P:=jed g j gl k W0 ((SlAt.below B u).mono B.size) (hG.below B);have ae:Hid (∀ W,Bw W0 W->Calls Tryz.prog 7 #[.slice a l.length cap,.string s.1] W (jby (l.map (·.1)) s W)):=fun W Q=>jla s l a l.length cap W ((hT.go B).go Q) hF ((hG.below B).below Q)
 have av:=Lib.hid r;have H:=Lib.hid B;have HT:=Lib.hid (hT.go B);have HF:=Lib.hid hF;have HG:=Lib.hid (hG.below B);have aq:Hid (Grs W0.heap.size W0 (.slice j gl k) g.l):=(SlAt.below B u).mono B.size;have E:Hid (je2 g G (l.map (·.1)) s=if jcK g then (jaZ (l.map (·.1)) s).filter (jhV g G (l.map (·.1))) else []):=rfl;have D:Hid (je1 g (l.map (·.1)) s=if jcK g then jbe (l.map (·.1)) s else 150):=rfl;generalize je2 g G (l.map (·.1)) s=qR at E ⊢;generalize je1 g (l.map (·.1)) s=qE at D ⊢;have aJ:w.heap.size<W0.heap.size:=by omega
 obtain⟨c0,c1⟩:=cl2 r;clear u hT hF hG B r
 cases hr:jcK g with
 | false =>
  rw[hr] at P;have z:Hid (qR=[]/\qE=150):=⟨by rw[E.out,hr];rfl,by rw[D.out,hr];rfl⟩;clear hr;go_enter Tryz.func18,Tryz.ntmps18;go_wp2_with fail;refine P.mono ?_;rintro e w1 ⟨rfl,I⟩;go_wp2_with fail;go_ret2;obtain⟨C,n⟩:=z.out;subst C n;exact⟨none,0,rfl,SlC.nil,H.out.trans (I.mono H.out.size)⟩
 | true =>
 rw[hr] at P;replace E:Hid (qR=(jaZ (l.map (·.1)) s).filter (jhV g G (l.map (·.1)))):=by rw[Hid,E.out,hr];rfl
 replace D:Hid (qE=jbe (l.map (·.1)) s):=by rw[Hid,D.out,hr];rfl
 clear hr;have af:Hid (∀ i∈jaZ (l.map (·.1)) s,i<l.length):=fun i hi=>by have:=jiP _ _ i hi;rwa [List.length_map] at this
 have X:Hid (∀ e w' w,jby (l.map (·.1)) s w e w'->jc5 (jaZ (l.map (·.1)) s) (jbe (l.map (·.1)) s) w e w'):=fun e w' w h=>h
 have N:Hid (jbe (l.map (·.1)) s≠0->jaZ (l.map (·.1)) s=[]):=fun h=>by
  unfold jaZ jfE;unfold jbe at h
  cases C:jas (l.map (·.1))
  ·rfl
  ·cases n:jdy s
   ·rfl
   ·rw[C,n] at h;exact absurd rfl h
 have b:Hid (jbe (l.map (·.1)) s=0->∀ x∈l.map (·.1),jal x.l=true):=fun h x y=>by
  unfold jbe at h
  cases C:jas (l.map (·.1))
  ·rw[C] at h;cases h
  ·have:=((jbZ _).1 C).2.1 x y
   simp only[jaV,Bool.and_eq_true] at this;exact this.1
 have M:Hid (jbe (l.map (·.1)) s=0->(jaZ (l.map (·.1)) s).length<=20):=fun h=>by
  obtain⟨C,n⟩:=jiF h;rw[jky C n];exact Nat.le_trans (jgR s _ 0) ((jbZ _).1 C).1
 generalize jbe (l.map (·.1)) s=er at D X N b M;generalize jaZ (l.map (·.1)) s=pl at E af X N M;go_enter Tryz.func18,Tryz.ntmps18;go_wp2_with fail;refine P.mono ?_;rintro e w1 ⟨rfl,I⟩;clear P;go_wp2_with fail;refine (ae.out w1 I).mono ?_;intro e L ah;obtain⟨pa,pc,rfl,hp,ak⟩:=X.out _ _ _ ah;have A:=I.trans (ak.mono I.size);have aa:=Lib.hid A;clear ah X ae I ak;by_cases he:er=0
 case neg =>
  have t1:(er != 0)=true:=by rw[bne_iff_ne];exact he
  have z:Hid (qR=[]/\qE=er):=⟨by rw[E.out,N.out he];rfl,D.out⟩;clear he hp N b M A;go_wp2_with fail;go_ret2;obtain⟨C,n⟩:=z.out;subst C n;exact⟨none,0,rfl,SlC.nil,H.out.trans (aa.out.mono H.out.size)⟩
 subst he;have aC:pl.length<=maxLen:=Nat.le_trans hp.2.1 hp.2.2.1;unfold maxLen at aC;have aG:pl.length<=20:=M.out rfl;have HP:Hid (SlC ji4 1 L.heap.size L pa pl.length pc pl):=hp;have ag:=Lib.hid (HT.out.go A);have ac:=Lib.hid (b.out rfl);have ab:Hid (∀ W,Bw L W->Grs W.heap.size W (.slice j gl k) g.l):=fun W Q=>(SlAt.below (A.trans (Q.mono A.size)) aq.out).mono (A.trans (Q.mono A.size)).size
 have ap:Hid (∀ W,Bw L W->GW W):=fun W Q=>HG.out.below (A.trans (Q.mono A.size))
 have aj:=jab A (Nat.le_refl _) av.out;have aw:=Lib.hid aj;have aK:w.heap.size<L.heap.size:=by have:=A.size;omega
 have f:Hid (Bw w L):=H.out.trans (A.mono H.out.size);clear hp A b N c0 c1 aj M;go_wp2_with fail;go_loopw [12,29] (fun v i wr=>∃ (m:Nat) (J:List Nat),m<=pl.length/\i=.int .i64 m/\Hid (J=(pl.take m).filter (jhV g G (l.map (·.1))))/\wr.ownsRow L.heap.size 3 1 v J.length (J.flatMap ji4)/\Bw L wr) (fun _ i _=>pl.length-(intOf i).toNat)
 case atStart=>exact⟨0,[],Nat.zero_le _,rfl,rfl,World.ownsRow_nil _ _ _ _,Below.refl _ _⟩
 case round =>
  obtain⟨m,J,hm,rfl,HQ,T,o⟩:=hrel;obtain⟨va,vc,rfl⟩:=jd4 T;have O:=Lib.hid T;have aD:J.length<=m:=by rw[HQ.out];have:=List.length_filter_le (jhV g G (l.map (·.1))) (pl.take m);rw[List.length_take] at this;omega
  clear T;by_cases aA:m<pl.length
  ·obtain⟨i,hi⟩:∃ i,pl[m]? = some i:=⟨_,List.getElem?_eq_getElem aA⟩
   have az:=af.out i (List.mem_of_getElem? hi);obtain⟨⟨x,p⟩,y⟩:∃ e,l[i]? = some e:=⟨_,List.getElem?_eq_getElem az⟩;obtain⟨pb,po,rfl,aB,ao⟩:=HP.out.1.2 m i hi;obtain⟨eb,eo,rfl,ay,al⟩:=ag.out.row.1.2 i (x,p) y
   have c0:wr.cell? ⟨pb,po+m,none⟩=some (.int .i64 (i:Int)):=by
    have C:=ao 0 (by omega);simp only[Nat.mul_one,Nat.add_zero] at C;exact (o.cell (p:=⟨pb,po+m,none⟩) aB).trans C
   have ad:Hid ((l.map (·.1))[i]? = some x):=by rw[Hid,List.getElem?_map,y];rfl
   have k0:wr.cell? ⟨eb,eo+i*12,none⟩=some (.slice p.la p.ll p.lc):=(o.cell (p:=⟨eb,eo+i*12,none⟩) ay).trans (al 0 (by omega));have i0:(0:Int)<=(m:Int):=by omega
   have i1:(m:Int)<(pl.length:Int):=by omega
   have j0:(0:Int)<=(i:Int):=by omega
   have j1:(i:Int)<(l.length:Int):=by omega
   have t:=jab o (Nat.le_refl _) aw.out;have g0:=cCc t 0;have g1:=cCc t 1;simp at g0 g1;have ai:p.At L.heap.size L x:=ag.out.at_ _ (List.mem_of_getElem? y);have q:=HF.out _ (List.mem_of_getElem? y);have an:=ac.out x (List.mem_of_getElem? ad.out)
   have ar:Hid (∀ W,Bw L W->CR 48 #[.agg #[.int .u64 g.next,.slice j gl k],.int .u64 G,.slice p.la p.ll p.lc] W (.bool (jhW g G x.l))):=fun W Q =>
    jsf g j gl k G p.la p.ll p.lc x.l W (ab.out W Q) (ai.go Q).l.1 q.lab an (ap.out W Q) q.ll
   have Z:Hid ((pl.take (m+1)).filter (jhV g G (l.map (·.1)))=J++(if jhW g G x.l then [i] else [])):=by
    rw[Hid,jai hi,List.filter_append,<- HQ.out];congr 1;rw[List.filter_cons,jlU ad.out];split<;>rfl
   have V:=Lib.hid o;have F:=Lib.hid (ar.out wr.drew o.drew);obtain⟨np,Y⟩:∃ np,Hid (J.length=np):=⟨_,rfl⟩;rw[Y.out] at aD ⊢;replace O:Hid (wr.ownsRow L.heap.size 3 1 (.slice va np vc) np (J.flatMap ji4)):=by rw[Hid,<- Y.out];exact O.out
   clear ao al hi y t ai q an o
   cases d:jhW g G x.l with
   | false =>
    rw[d] at F Z;clear d;go_wp2_with fail;go_region_with (go_at_call 48;refine F.out.mono ?_;rintro e w5 ⟨rfl,R⟩;have c:=V.out.drew.trans (R.mono V.out.drew.size);have S:Bw wr w5:=(Below.refl _ _).drew.trans R)
    all_goals go_wp2_with fail
    all_goals go_roundw
    all_goals first
     | exact⟨m+1,J,by omega,by go_num,by rw[Hid,Z.out];simp,by rw[Y.out];exact jkG O.out S,c⟩
     | (simp[intOf];omega)
   | true =>
    rw[d] at F Z;clear d;go_wp2_with fail;go_region_with (go_at_call 48;refine F.out.mono ?_;rintro e w5 ⟨rfl,R⟩;have c:=V.out.drew.trans (R.mono V.out.drew.size);have S:Bw wr w5:=(Below.refl _ _).drew.trans R;obtain⟨g6,aE,w6,aF,U,ax,aL,-⟩:=jaL Tryz.prog 25 joL jol rfl (by decide) (W:=w5) (jkG O.out S) c (Nat.le_refl _) c.size [.int .i64 (i:Int)] rfl (by simp[Value.oneCell']) (by omega) (by decide);have au:=Lib.hid U;clear U)
    all_goals go_wp2_with fail
    all_goals go_roundw
    all_goals first
     | exact⟨m+1,J++[i],by omega,by go_num,by rw[Hid,Z.out];simp,by rw[List.length_append,Y.out,List.flatMap_append];exact au.out,ax⟩
     | (simp[intOf];omega)
  ·obtain rfl:m=pl.length:=by omega
   have z:Hid (qR=J/\qE=0):=⟨by rw[E.out,HQ.out,List.take_of_length_le (Nat.le_refl _)],D.out⟩
   have FI:Hid (jc5 J 0 w (.returned (.tuple #[.slice va J.length vc,.int .i64 0])) wr):=by
    obtain⟨a',c',e1,C,-⟩:=jaz (enc:=ji4) (fun _=>rfl) O.out;exact⟨a',c',by rw[e1],C,f.out.trans (o.mono f.out.size)⟩
   go_wp2_with fail;go_ret2;rw[z.out.1,z.out.2];exact FI.out
end
section
open Go.Shelf
attribute [-go_sem] Builtin.append_
theorem jf3 (g:jcs) (q:Option Addr) (gl r:Nat) (F:Int) (s:jb4) (l:List (Ser × SerP)) (a:Option Addr) (len cap:Nat) (w:World) (z:Grs w.heap.size w (.slice q gl r) g.l) (y:g.l.length<=maxLen) (hT:Tab w.heap.size w a len cap l) (hF:jdl l) (ai:jhK (l.map (·.1))) :
  Calls Tryz.prog 20 #[.agg #[.int .u64 g.next,.slice q gl r],.int .u64 F,.slice a len cap,.string s.1] w (jc5 (je2 g F (l.map (·.1)) s) (je1 g (l.map (·.1)) s) w):=by
 have ap:=hT.row.1.1;subst ap;obtain⟨W0,aH,t,X,aJ⟩:=jaf w #[.int .u64 g.next,.slice q gl r] 51;have Y:=jfP g q gl r W0 ((SlAt.below X z).mono X.size) y;have R:Hid (∀ W,Bw w W->Calls Tryz.prog 9 #[.slice a l.length cap,.string s.1] W (jby (l.map (·.1)) s W)):=fun W Z=>jeW s l a l.length cap W (hT.go Z) hF ai
 have ad:Hid (∀ (x:Ser) (p:SerP) (i:Nat) W,l[i]? = some (x,p)->Bw w W->CR 51 #[.agg #[.int .u64 g.next,.slice q gl r],.int .u64 F,.slice p.la p.ll p.lc] W (.bool (jhW g F x.l))):=fun x p i W j Z =>
  jj3 g q gl r F p.la p.ll p.lc x.l W ((SlAt.below Z z).mono Z.size) y ((hT.go Z).at_ _ (List.mem_of_getElem? j)).l.1 (hF _ (List.mem_of_getElem? j)).lab (by have h9:p.ll<4294967281:=(hF _ (List.mem_of_getElem? j)).ll;unfold maxLen;omega)
 have HT:=Lib.hid hT;have aE:=Lib.hid t;have V:=Lib.hid X
 have ab:Hid (∀ W,Bw W0 W->W.cell? ⟨w.heap.size,0,none⟩=some (.int .u64 g.next)/\W.cell? ⟨w.heap.size,1,none⟩=some (.slice q gl r)):=fun W Z=>by
  have ak:=jab Z (Nat.le_refl _) t;have g0:=cCc ak 0;have g1:=cCc ak 1;simp at g0 g1;exact⟨g0,g1⟩
 have aA:=ab.out W0 (Below.refl _ _);obtain⟨aF,aG⟩:=aA;have A:Hid (je2 g F (l.map (·.1)) s=if jcK g then (jaZ (l.map (·.1)) s).filter (jhV g F (l.map (·.1))) else []):=rfl;have B:Hid (je1 g (l.map (·.1)) s=if jcK g then jbe (l.map (·.1)) s else 150):=rfl;generalize je2 g F (l.map (·.1)) s=qR at A ⊢;generalize je1 g (l.map (·.1)) s=qE at B ⊢;obtain⟨Q,hQ⟩:∃ Q,jc5 qR qE w=Q:=⟨_,rfl⟩;have HQ:Hid (∀ e w',Q e w'=∃ a cap,e=.returned (.tuple #[.slice a qR.length cap,.int .i64 qE])/\SlC ji4 1 w'.heap.size w' a qR.length cap qR/\Bw w w'):=fun _ _=>by rw[<- hQ];rfl
 rw[hQ];obtain⟨gr,d⟩:∃ gr,jcK g=gr:=⟨_,rfl⟩;rw[d] at Y A B;clear z y hT hF ai hQ d t X
 cases gr with
 | false =>
  have J:Hid (qR=[]/\qE=150):=⟨A.out.trans rfl,B.out.trans rfl⟩;clear A B ad R;go_enter Tryz.func20,Tryz.ntmps20;go_wp2_with fail;refine Y.mono ?_;rintro e w1 ⟨rfl,H⟩;go_wp2_with fail;rw[HQ.out,J.out.1,J.out.2];exact⟨none,0,rfl,SlC.nil,V.out.trans (H.mono V.out.size)⟩
 | true =>
 replace A:Hid (qR=(jaZ (l.map (·.1)) s).filter (jhV g F (l.map (·.1)))):=A.out.trans rfl;replace B:Hid (qE=jbe (l.map (·.1)) s):=B.out.trans rfl;have ae:Hid (∀ i∈jaZ (l.map (·.1)) s,i<l.length):=fun i hi=>by have:=jiP _ _ i hi;rwa [List.length_map] at this
 have G:Hid (∀ e w' w,jby (l.map (·.1)) s w e w'->jc5 (jaZ (l.map (·.1)) s) (jbe (l.map (·.1)) s) w e w'):=fun e w' w h=>h
 have P:Hid (jbe (l.map (·.1)) s≠0->jaZ (l.map (·.1)) s=[]):=fun h=>by
  unfold jaZ jfE;unfold jbe at h
  cases c:jas (l.map (·.1))
  ·rfl
  ·cases h2:jdy s
   ·rfl
   ·rw[c,h2] at h;exact absurd rfl h
 have M:Hid (jbe (l.map (·.1)) s=0->(jaZ (l.map (·.1)) s).length<=20):=fun h=>by
  obtain⟨c,h2⟩:=jiF h;rw[jky c h2];exact Nat.le_trans (jgR s _ 0) ((jbZ _).1 c).1
 generalize jbe (l.map (·.1)) s=er at B G P M;generalize jaZ (l.map (·.1)) s=pl at A ae G P M;obtain⟨L,hL⟩:∃ L,l.map (·.1)=L:=⟨_,rfl⟩;have ac:Hid (∀ (i:Nat) x p,l[i]? = some (x,p)->jhV g F L i=jhW g F x.l):=fun i x p h=>jlU (by rw[<- hL,List.getElem?_map,h];rfl)
 rw[hL] at A G R;generalize jby L s=PM at R G;generalize jhV g F L=ma at A ac;obtain⟨sc,aB⟩:=s;dsimp only at *;clear hL aB;go_enter Tryz.func20,Tryz.ntmps20;go_wp2_with fail;refine Y.mono ?_;rintro e w1 ⟨rfl,H⟩;have D:Bw w w1:=V.out.trans (H.mono V.out.size);clear Y;go_wp2_with fail;refine (R.out w1 D).mono ?_;intro e w2 aj;obtain⟨pa,pc,rfl,hp,u⟩:=G.out _ _ _ aj;have N:Hid (Bw w w2):=D.trans (u.mono D.size);have b:Hid (Bw W0 w2):=H.trans (u.mono H.size);clear aj G R H u D;by_cases he:er=0
 case neg =>
  have t1:(er != 0)=true:=by rw[bne_iff_ne];exact he
  have J:Hid (qR=[]/\qE=er):=⟨by rw[A.out,P.out he];rfl,B.out⟩;clear he hp P M;go_wp2_with fail;rw[HQ.out,J.out.1,J.out.2];exact⟨none,0,rfl,SlC.nil,N.out⟩
 subst he;have aD:pl.length<=20:=M.out rfl;have HP:Hid (SlC ji4 1 w2.heap.size w2 pa pl.length pc pl):=hp;have ag:=Lib.hid N.out.size;have az:=Lib.hid (HT.out.go N.out);clear hp P HT M;go_wp2_with fail;go_loopw [12,13] (fun v i wr=>∃ (m:Nat) (E:List Nat) (va:Option Addr) (vc:Nat),i=.int .i64 m/\v=.slice va E.length vc/\m<=pl.length/\E.length<=m/\Bw w2 wr/\Hid (wr.ownsRow w2.heap.size 3 1 v E.length (E.flatMap ji4))/\Hid (E=(pl.take m).filter ma)) (fun _ i _=>pl.length-(intOf i).toNat)
 case atStart=>exact⟨0,[],none,0,rfl,rfl,Nat.zero_le _,Nat.zero_le _,Below.refl _ _,World.ownsRow_nil _ _ _ _,rfl⟩
 case round =>
  obtain⟨m,E,va,vc,rfl,rfl,hm,aI,U,n,af⟩:=hrel;have i0:(0:Int)<=(m:Int):=Int.natCast_nonneg m;by_cases aq:m<pl.length
  ·obtain⟨i,hi⟩:∃ i,pl[m]? = some i:=⟨_,List.getElem?_eq_getElem aq⟩
   have ao:=ae.out i (List.mem_of_getElem? hi);obtain⟨⟨x,p⟩,j⟩:∃ e,l[i]? = some e:=⟨_,List.getElem?_eq_getElem ao⟩;obtain⟨pb,po,rfl,aa,au⟩:=HP.out.1.2 m i hi;obtain⟨eb,eo,rfl,am,an⟩:=az.out.row.1.2 i (x,p) j;have c:=au 0 (by omega);simp only[Nat.mul_one,Nat.add_zero] at c;have c0:wr.cell? ⟨pb,po+m,none⟩=some (.int .i64 (i:Int)):=(U.cell (p:=⟨pb,po+m,none⟩) aa).trans c;have ax:Hid (∀ W,Bw wr W->W.cell? ⟨pb,po+m,none⟩=some (.int .i64 (i:Int))):=fun W Z=>(Z.cell (p:=⟨pb,po+m,none⟩) (Nat.lt_of_lt_of_le aa U.size)).trans c0
   have k0:wr.cell? ⟨eb,eo+i*12,none⟩=some (.slice p.la p.ll p.lc):=(U.cell (p:=⟨eb,eo+i*12,none⟩) am).trans (an 0 (by omega));have i1:(m:Int)<(pl.length:Int):=Int.ofNat_lt.2 aq;have j0:(0:Int)<=(i:Int):=Int.natCast_nonneg i;have j1:(i:Int)<(l.length:Int):=Int.ofNat_lt.2 ao;obtain⟨g0,g1⟩:=ab.out wr (b.out.trans (U.mono b.out.size));have T:=ad.out x p i wr.drew j (N.out.trans (U.drew.mono ag.out))
   have o:Hid ((pl.take (m+1)).filter ma=E++(if jhW g F x.l then [i] else [])):=by
    rw[Hid,jai hi,List.filter_append,<- af.out];congr 1;rw[List.filter_cons,ac.out i x p j];split<;>rfl
   obtain⟨mb,ar⟩:∃ mb,jhW g F x.l=mb:=⟨_,rfl⟩;rw[ar] at T o;clear c au an hi j ar aa am
   cases mb with
   | false =>
    have J:Hid (E=(pl.take (m+1)).filter ma):=by rw[Hid,o.out];simp
    have k:=Lib.hid T;have O:=Lib.hid U;clear T U;go_wp2_with fail;go_region_with (go_at_call 51;refine k.out.mono ?_;rintro e w3 ⟨rfl,I⟩;have S:=O.out.drew.trans (I.mono O.out.drew.size);have C:Bw wr w3:=(Below.refl _ _).drew.trans I)
    all_goals go_wp2_with fail
    all_goals go_roundw
    all_goals first
     | exact⟨m+1,E,va,vc,by go_num,rfl,by omega,by omega,S,jkG n.out C,J.out⟩
     | (simp[intOf];omega)
   | true =>
    have J:Hid (E++[i]=(pl.take (m+1)).filter ma):=by rw[Hid,o.out];rfl
    have k:=Lib.hid T;have O:=Lib.hid U;clear T U;go_wp2_with fail;go_region_with (go_at_call 51;refine k.out.mono ?_;rintro e w3 ⟨rfl,I⟩;have S:=O.out.drew.trans (I.mono O.out.drew.size);have C:Bw wr w3:=(Below.refl _ _).drew.trans I;have c3:=ax.out w3 C;obtain⟨g',c5,w5,al,f,ah,aC,-,-⟩:=jaL Tryz.prog 25 joL jol rfl (by decide) (W:=w3) (jkG n.out C) S (Nat.le_refl _) S.size (ji4 i) rfl (jtF i) (by omega) (by decide);have al:(Builtin.append_ #[25,25] 25 #[.slice va E.length vc,.slice (some ⟨w3.heap.size,0,none⟩) 1 1]).run Tryz.prog (w3.alloc (.cells #[.int .i64 i] 3))=.ok (.slice (some ⟨g',0,none⟩) (E.length+1) c5) w5:=al;have ay:=Lib.hid f;have av:=Lib.hid ah;clear f ah aC I S C)
    all_goals go_wp2_with fail
    all_goals go_roundw
    all_goals first
     | exact⟨m+1,E++[i],some ⟨g',0,none⟩,c5,by go_num,by rw[List.length_append];rfl,by omega,by rw[List.length_append];simp;omega,av.out,by rw[Hid,List.length_append,List.flatMap_append];simpa [ji4] using ay.out,J.out⟩
     | (simp[intOf];omega)
  ·have i1:¬ (m:Int)<(pl.length:Int):=by omega
   have J:Hid (qR=E/\qE=0):=⟨by rw[A.out,af.out,List.take_of_length_le (by omega)],B.out⟩;obtain⟨a',c',hv,hS,-⟩:=jaz (enc:=ji4) (fun _=>rfl) n.out
   cases hv
   have HS:=Lib.hid hS;have aw:Hid (Bw w wr):=N.out.trans (U.mono ag.out);clear hS;go_wp2_with fail;rw[HQ.out,J.out.1,J.out.2];exact⟨_,vc,rfl,HS.out,aw.out⟩
end
section
open Go.Shelf
theorem jnk {k:Nat} (P:k=1\/k=2\/k=3) {S:List (Nat × Bd)} (N:∀ t∈S,t.2.Ok k t.1) {x:Ser} (H:SkGood x.sk) (C:x.sk.kind=(k:Int)) {y:Sk} {A:SS} {p:SS} {W:World} (U:y=jbu k (jcx k S).1 (jcx k S).2) (T:A.At W.heap.size W y) (R:p.At W.heap.size W x.sk) :
  Calls Tryz.prog 36 #[.agg #[.int .i64 y.kind,.int .i64 y.level,.slice A.ea A.el A.ec,.int .i64 y.hb,.string y.hr,.int .i64 y.cr,.int .i64 y.cc,.slice A.ca A.cl A.cc,.int .i64 y.gf,.slice A.ga A.gl A.gc],.agg #[.int .i64 x.sk.kind,.int .i64 x.sk.level,.slice p.ea p.el p.ec,.int .i64 x.sk.hb,.string x.sk.hr,.int .i64 x.sk.cr,.int .i64 x.sk.cc,.slice p.ca p.cl p.cc,.int .i64 x.sk.gf,.slice p.ga p.gl p.gc]] W fun e w'=>∃ (y:Sk) (s:SS),e=.returned (.tuple #[.agg #[.int .i64 y.kind,.int .i64 y.level,.slice s.ea s.el s.ec,.int .i64 y.hb,.string y.hr,.int .i64 y.cr,.int .i64 y.cc,.slice s.ca s.cl s.cc,.int .i64 y.gf,.slice s.ga s.gl s.gc],.int .i64 0])/\y=jbu k (jcx k (S++jb9 (k:Int) x)).1 (jcx k (S++jb9 (k:Int) x)).2/\s.At w'.heap.size w' y/\Bw W w':=by
 have F:jb9 (k:Int) x=[skB x.sk]:=by unfold jb9;rw[C];simp
 have E:=jr1 H C;have D:=joN P N;rw[F,jjX]
 have G:x.sk=jbu k (skB x.sk).1 (skB x.sk).2:=by
  obtain⟨I,L,B,e,M⟩:=H;rw[e,(jak I L B).1] at C;obtain rfl:I=k:=by omega
  rw[e,jr2 M]
 have Q:=jgO D E U G T R;refine Q.mono ?_;rintro e w' ⟨s,rfl,J,O⟩;exact⟨_,s,rfl,rfl,J,O⟩
attribute [-go_sem] Builtin.append_
end
end Go.Proofs.YtafhpamnegmilaaGreatDoor
