/- series.Meant; what a scope means, in plain data. The reference of layer 12: Meant. What a scope means, in plain data: the sketches that are merged; in parts. series.Merged. aviaryref12.Ints. -/
import Derived.Test.YtafhpamnegmilaaGreatDoorZI5
import Derived.Test.YtafhpamnegmilaaGreatDoorZVP
set_option maxHeartbeats 8000000
set_option maxRecDepth 100000
namespace Go.Proofs.YtafhpamnegmilaaGreatDoor
open Go Go.RowKit
section
open Go.Shelf
theorem jvi (s:jb4) (a:Option Addr) (len cap:Nat) (l:List Lab) (w:World) (h:SlE Lab.enc 2 w.heap.size w a len l) (F:jfs l) (hr:jal l=true) (D:GW w) (E:len<4294967281) :
  CR 29 #[.string s.1,.slice a len cap] w (.tuple #[.bool (jbM s l).1,.int .i64 (jbM s l).2]):=by
 have C:=h.1
 have A:0<len:=by
  rcases Nat.eq_zero_or_pos len with A | A
  ·subst A
   obtain rfl:l=[]:=List.eq_nil_of_length_eq_zero C.symm
   cases hr
  ·exact A
 have B:=h.to_at (cap:=cap) jfh A;obtain⟨G,rfl⟩:=jks l F;rw[List.length_map] at C;subst C;exact jqb s a cap G w B D E
def jbR (s:jb4):Nat->List Ser->List Nat
 | _,[]=>[]
 | k,x::r=>if (jbM s x.l).1 then k::jbR s (k+1) r else jbR s (k+1) r
def jfE (L:List Ser) (s:jb4):Bool:=jas L&&jdy s
def jbe (L:List Ser) (s:jb4):Int:=if jas L then (if jdy s then 0 else 50) else 120
def jaZ (L:List Ser) (s:jb4):List Nat:=if jfE L s then jbR s 0 L else []
theorem jeK (s:jb4) (x:Ser):∀ (l:List Ser) (k:Nat),jbR s k (l++[x])=jbR s k l++(if (jbM s x.l).1 then [k+l.length] else [])
 | [],k=>by simp[jbR]
 | y::l,k=>by
  simp only[List.cons_append,jbR,jeK s x l,List.length_cons];have e:k+1+l.length=k+(l.length+1):=by omega
  split<;>simp[e]
def ji4 (n:Nat):List Value:=[.int .i64 n]
theorem jtE (n:Nat):(ji4 n).length=1:=rfl
theorem jtF (n:Nat):∀ u∈ji4 n,u.oneCell'=true:=by
 intro u A;simp only[ji4,List.mem_singleton] at A;subst A;rfl
theorem joL:Tryz.prog.underlying 25=some (.slice 3):=by kernel_rfl
theorem jol:(Tryz.prog.info? 3).map (fun i=>(i.zero,i.size,i.bytes))=some (some (.int .i64 0),1,8):=by kernel_rfl
theorem jpw {s:jb4} {l:List Lab} (A:jdy s=true) (B:jal l=true):(jbM s l).2=0:=by
 unfold jdy at A;unfold jbM
 cases C:jfq s with
 | none=>rw[C] at A;cases A
 | some ts=>simp[B]
theorem jkG {A B:World} {C e D n:Nat} {v:Value} {xs:List Value} (h:A.ownsRow C e D v n xs) (J:Bw A B):B.ownsRow C e D v n xs :=
 ⟨h.1,h.2.imp id (fun ⟨g,cap,E,F,G,H,I⟩=>⟨g,cap,E,F,G,jab J (Nat.le_refl _) H,I⟩)⟩
def jby (L:List Ser) (s:jb4) (w:World) (e:Ending) (w':World):Prop :=
 ∃ a cap,e=.returned (.tuple #[.slice a (jaZ L s).length cap,.int .i64 (jbe L s)])/\SlC ji4 1 w'.heap.size w' a (jaZ L s).length cap (jaZ L s)/\Bw w w'
attribute [-go_sem] Builtin.append_
theorem jla (s:jb4) (l:List (Ser × SerP)) (a:Option Addr) (len cap:Nat) (w:World) (d:Tab w.heap.size w a len cap l) (z:jdl l) (hG:GW w) :
  Calls Tryz.prog 7 #[.slice a len cap,.string s.1] w (jby (l.map (·.1)) s w):=by
 have c:=jbm l a len cap w d z hG;have n:=d.row.1.1;subst n;have HT:=Lib.hid d;have HF:=Lib.hid z;have HG:=Lib.hid hG;have hm:l.length<=maxLen:=Nat.le_trans d.row.2.1 d.row.2.2.1;unfold maxLen at hm;clear d z hG
 cases hr:jas (l.map (·.1)) with
 | false =>
  rw[hr] at c;have J:Hid (jbe (l.map (·.1)) s=120/\jaZ (l.map (·.1)) s=[]):=⟨by rw[jbe,hr];rfl,by rw[jaZ,jfE,hr];rfl⟩;clear hr;go_enter Tryz.func7,Tryz.ntmps7;go_wp2_with (go_at_call 26;refine c.mono ?_;rintro e w1 ⟨rfl,A⟩);go_ret2;exact⟨none,0,by rw[J.out.1,J.out.2];rfl,by rw[J.out.2];exact SlC.nil,A⟩
 | true =>
  rw[hr] at c;have M:Hid (∀ w',Bw w w'->Calls Tryz.prog 28 #[.string s.1] w' fun e ae=>e=.returned (.bool (jdy s))/\Bw w' ae):=fun w' hb=>jnF s w' (HG.out.below hb)
  cases P:jdy s with
  | false =>
   rw[P] at M;have J:Hid (jbe (l.map (·.1)) s=50/\jaZ (l.map (·.1)) s=[]):=⟨by rw[jbe,hr,P];rfl,by rw[jaZ,jfE,hr,P];rfl⟩;clear hr P;go_enter Tryz.func7,Tryz.ntmps7
   go_wp2_with (first
    | (go_at_call 26;refine c.mono ?_;rintro e w1 ⟨rfl,A⟩)
    | (go_at_call 28;refine (M.out _ A).mono ?_;rintro e w2 ⟨rfl,V⟩))
   go_ret2;exact⟨none,0,by rw[J.out.1,J.out.2];rfl,by rw[J.out.2];exact SlC.nil,A.trans (V.mono A.size)⟩
  | true =>
   rw[P] at M;have J:Hid (jbe (l.map (·.1)) s=0/\jaZ (l.map (·.1)) s=jbR s 0 (l.map (·.1))):=⟨by rw[jbe,hr,P];rfl,by rw[jaZ,jfE,hr,P];rfl⟩
   have q:Hid (∀ x∈l.map (·.1),jal x.l=true):=fun x Z=>by
    have:=((jbZ _).1 hr).2.1 x Z;simp only[jaV,Bool.and_eq_true] at this;exact this.1
   have ai:l.length<=20:=by have:=((jbZ _).1 hr).1;rwa [List.length_map] at this
   have u:=Lib.hid P;clear hr P;go_enter Tryz.func7,Tryz.ntmps7
   go_wp2_with (first
    | (go_at_call 26;refine c.mono ?_;rintro e w1 ⟨rfl,A⟩)
    | (go_at_call 28;refine (M.out _ A).mono ?_;rintro e w2 ⟨rfl,V⟩))
   clear c;have m:=A.trans (V.mono A.size);go_loopw [6,19] (fun v i wr=>∃ (k:Nat) (I:List Nat),i=.int .i64 k/\k<=l.length/\Hid (I=jbR s 0 ((l.map (·.1)).take k))/\Hid (I.length<=k)/\wr.ownsRow w.heap.size 3 1 v I.length (I.flatMap ji4)/\Bw w wr) (fun _ i _=>l.length-(intOf i).toNat)
   case atStart=>exact⟨0,[],rfl,Nat.zero_le _,rfl,Nat.le_refl _,World.ownsRow_nil _ _ _ _,m⟩
   case round =>
    obtain⟨k,I,rfl,hk,g,S,H,U⟩:=hrel;have Q:=U.size;obtain⟨va,vc,rfl⟩:=jd4 H;have T:=Lib.hid H;have ac:I.length<4294967:=by have:=S.out;omega
    obtain⟨np,C⟩:∃ np,Hid (I.length=np):=⟨_,rfl⟩;rw[C.out] at ac ⊢;clear H;by_cases ab:k<l.length
    ·obtain⟨⟨x,p⟩,Z⟩:∃ x,l[k]? = some x:=⟨_,List.getElem?_eq_getElem ab⟩
     obtain⟨b,off,rfl,ak,E⟩:=(HT.out.below U).row.1.2 k (x,p) Z;have c0:wr.cell? ⟨b,off+k*12,none⟩=some (.slice p.la p.ll p.lc):=E 0 (by omega);have c1:wr.cell? ⟨b,off+k*12+1,none⟩=some (.int .i64 x.sk.kind):=E 1 (by omega);have c2:wr.cell? ⟨b,off+k*12+2,none⟩=some (.int .i64 x.sk.level):=E 2 (by omega);have c3:wr.cell? ⟨b,off+k*12+3,none⟩=some (.slice p.ss.ea p.ss.el p.ss.ec):=E 3 (by omega);have c4:wr.cell? ⟨b,off+k*12+4,none⟩=some (.int .i64 x.sk.hb):=E 4 (by omega);have c5:wr.cell? ⟨b,off+k*12+5,none⟩=some (.string x.sk.hr):=E 5 (by omega);have c6:wr.cell? ⟨b,off+k*12+6,none⟩=some (.int .i64 x.sk.cr):=E 6 (by omega);have c7:wr.cell? ⟨b,off+k*12+7,none⟩=some (.int .i64 x.sk.cc):=E 7 (by omega);have c8:wr.cell? ⟨b,off+k*12+8,none⟩=some (.slice p.ss.ca p.ss.cl p.ss.cc):=E 8 (by omega);have c9:wr.cell? ⟨b,off+k*12+9,none⟩=some (.int .i64 x.sk.gf):=E 9 (by omega);have ag:wr.cell? ⟨b,off+k*12+10,none⟩=some (.slice p.ss.ga p.ss.gl p.ss.gc):=E 10 (by omega);have ah:wr.cell? ⟨b,off+k*12+11,none⟩=some (.int .u64 x.seen):=E 11 (by omega);have HX:Hid ((l.map (·.1))[k]? = some x):=by rw[Hid,List.getElem?_map,Z];rfl
     have HP:Hid (p.At wr.heap.size wr x):=((HT.out.at_ _ (List.mem_of_getElem? Z)).below U).mono Q;have f:=Lib.hid (HF.out _ (List.mem_of_getElem? Z));obtain⟨h,aj,aa,N,ad⟩:=jaf wr #[.slice p.la p.ll p.lc,.int .i64 x.sk.kind,.int .i64 x.sk.level,.slice p.ss.ea p.ss.el p.ss.ec,.int .i64 x.sk.hb,.string x.sk.hr,.int .i64 x.sk.cr,.int .i64 x.sk.cc,.slice p.ss.ca p.ss.cl p.ss.cc,.int .i64 x.sk.gf,.slice p.ss.ga p.ss.gl p.ss.gc,.int .u64 x.seen] 60;obtain⟨r0,r1,r2,r3,r4,r5,r6,r7,r8,r9,an,ao⟩:=jhS aa;have t:Hid (p.At h.heap.size h x):=HP.out.go N;have o:Hid (GW h):=HG.out.below (U.trans (N.mono Q));have al:wr.heap.size<h.heap.size:=by omega
     have Y:jal x.l=true:=q.out x (List.mem_of_getElem? HX.out);have F:=jvi s p.la p.ll p.lc x.l h t.out.l.1 f.out.lab Y o.out f.out.ll;rw[jpw u.out Y] at F
     have L:Hid (jbR s 0 ((l.map (·.1)).take (k+1))=I++(if (jbM s x.l).1 then [k] else [])):=by
      rw[Hid,jai HX.out,jeK,<- g.out,List.length_take,List.length_map,Nat.min_eq_left hk,Nat.zero_add]
     clear E Z ad Y
     cases O:(jbM s x.l).1 with
     | false =>
      rw[O] at F L;clear O;go_wp2_with (go_at_call 29;refine F.mono ?_;rintro e w4 ⟨rfl,X⟩);have B:=N.trans (X.mono (by omega));go_roundw
      case rel=>exact⟨k+1,I,by go_num,by omega,by rw[Hid,L.out];simp,by have:=S.out;rw[Hid];omega,by rw[<- C.out];exact jkG T.out B,U.trans (B.mono Q)⟩
      case measure=>simp[intOf];omega
     | true =>
      rw[O] at F L;clear O;go_wp2_with (go_at_call 29;refine F.mono ?_;rintro e w4 ⟨rfl,X⟩;have B:=N.trans (X.mono (by omega));have R:=U.trans (B.mono Q);obtain⟨g5,af,w5,j,D,y,am,-⟩:=jaL Tryz.prog 25 joL jol rfl (by decide) (W:=w4) (jkG T.out B) R (Nat.le_refl _) (by have:=R.size;omega) [.int .i64 (k:Int)] rfl (by simp[Value.oneCell']) (by rw[C.out];omega) (by decide);rw[C.out] at j D;have r:=Lib.hid D;clear D);go_roundw
      case rel=>exact⟨k+1,I++[k],by go_num,by omega,by rw[Hid,L.out];simp,by have:=S.out;rw[Hid,List.length_append];simp;omega,by rw[List.length_append,C.out,List.flatMap_append];exact r.out,y⟩
      case measure=>simp[intOf];omega
    ·obtain rfl:k=l.length:=by omega
     have G:I=jaZ (l.map (·.1)) s:=by rw[J.out.2,g.out,List.take_of_length_le (by rw[List.length_map];exact Nat.le_refl _)]
     have FI:Hid (jby (l.map (·.1)) s w (.returned (.tuple #[.slice va np vc,.int .i64 0])) wr):=by
      obtain⟨a',c',e1,h1,-⟩:=jaz (enc:=ji4) (fun _=>rfl) T.out;rw[C.out] at e1;refine⟨a',c',?_,?_,U⟩
      ·rw[<- G,C.out,J.out.1,e1]
      ·rw[<- G];exact h1
     clear G;go_wp2_with fail;go_ret2;exact FI.out
end
section
open Go.Shelf
theorem jkx (s:jb4):∀ (l:List Ser) (k:Nat),(∀ i∈jbR s k l,k<=i/\i<k+l.length)/\(jbR s k l).Pairwise (· < ·)
 | [],k=>⟨(fun i h=>by cases h),List.Pairwise.nil⟩
 | x::r,k=>by
  obtain⟨C,D⟩:=jkx s r (k+1);have B:∀ i∈jbR s (k+1) r,k<=i/\i<k+(r.length+1):=fun i A=>by have:=C i A;omega
  simp only[jbR,List.length_cons];split
  ·refine⟨fun i A=>?_,List.pairwise_cons.2 ⟨fun i A=>by have:=C i A;omega,D⟩⟩
   rcases List.mem_cons.1 A with rfl | A
   ·omega
   ·exact B i A
  ·exact⟨B,D⟩
theorem jqF (s:ByteArray) (w:World) :
  CR 8 #[.string s] w (.string (jmX 500 s)):=by
 go_enter Tryz.func8,Tryz.ntmps8;go_wp2_with fail;go_ret;exact⟨rfl,Below.refl _ _⟩
end
section
open Go.Shelf
theorem jpx {L:List Ser} {k:Nat} {x:Ser} (s:jb4) (h:L[k]? = some x):jbR s 0 (L.take (k+1))=jbR s 0 (L.take k)++(if (jbM s x.l).1 then [k] else []):=by
 have A:=(List.getElem?_eq_some_iff.1 h).1;rw[jai h,jeK,Nat.zero_add,List.length_take,Nat.min_eq_left (Nat.le_of_lt A)]
attribute [-go_sem] Builtin.append_
theorem jeW (s:jb4) (l:List (Ser × SerP)) (a:Option Addr) (len cap:Nat) (w:World) (U:Tab w.heap.size w a len cap l) (hF:jdl l) (hL:jhK (l.map (·.1))) :
  Calls Tryz.prog 9 #[.slice a len cap,.string s.1] w (jby (l.map (·.1)) s w):=by
 have T:=jkQ l a len cap w U hF hL;have d:=U.row.1.1;subst d;have HT:=Lib.hid U;have HF:=Lib.hid hF
 have C:Hid (∀ W,CR 31 #[.string s.1] W (.bool (jdy s))):=fun W=>by
  have h:=jeO s W;rw[jnE] at h;exact h
 have F:Hid (∀ (p:SerP) (x:Ser) W,p.At W.heap.size W x->SerFit x p->CR 32 #[.string s.1,.slice p.la p.ll p.lc] W (.tuple #[.bool (jbM s x.l).1,.int .i64 (jbM s x.l).2])):=fun p x W hp hf=>jiu s p.la p.ll p.lc x.l W hp.l.1 hf.lab (by have h9:p.ll<4294967281:=hf.ll;unfold maxLen;omega)
 obtain⟨L,S⟩:∃ L,l.map (·.1)=L:=⟨_,rfl⟩;have P:=Lib.hid S;rw[S] at T ⊢;have B:∀ e w',jby L s w e w'=∃ a cap,e=.returned (.tuple #[.slice a (jaZ L s).length cap,.int .i64 (jbe L s)])/\SlC ji4 1 w'.heap.size w' a (jaZ L s).length cap (jaZ L s)/\Bw w w':=fun _ _=>rfl
 replace B:=Lib.hid B;have ad:l.length<=maxLen:=Nat.le_trans U.row.2.1 U.row.2.2.1;unfold maxLen at ad;clear U hF hL S
 cases hr:jas L with
 | false =>
  rw[hr] at T;have J:Hid (jbe L s=120/\jaZ L s=[]):=by unfold jbe jaZ jfE;rw[Hid,hr];exact⟨rfl,rfl⟩
  generalize jby L s w=Q at B ⊢;obtain⟨t,ht⟩:=s;dsimp only at C F ⊢;clear hr;go_enter Tryz.func9,Tryz.ntmps9;go_wp2_with fail;refine T.mono ?_;rintro e u ⟨rfl,D⟩;go_wp2_with fail;rw[B.out,J.out.1,J.out.2];exact⟨none,0,rfl,SlC.nil,D⟩
 | true =>
  rw[hr] at T
  cases V:jdy s with
  | false =>
   rw[V] at C;have J:Hid (jbe L s=50/\jaZ L s=[]):=by unfold jbe jaZ jfE;rw[Hid,hr,V];exact⟨rfl,rfl⟩
   generalize jby L s w=Q at B ⊢;obtain⟨t,ht⟩:=s;dsimp only at C F ⊢;clear hr V;go_enter Tryz.func9,Tryz.ntmps9;go_wp2_with fail;refine T.mono ?_;rintro e u ⟨rfl,D⟩;go_wp2_with fail;refine (C.out u).mono ?_;rintro e w2 ⟨rfl,N⟩;go_wp2_with fail;rw[B.out,J.out.1,J.out.2];exact⟨none,0,rfl,SlC.nil,D.trans (N.mono D.size)⟩
  | true =>
   rw[V] at C;have J:Hid (jbe L s=0/\jaZ L s=jbR s 0 L):=by unfold jbe jaZ jfE;rw[Hid,hr,V];exact⟨rfl,rfl⟩
   have af:l.length<=20:=by have:=((jbZ _).1 hr).1;rw[<- P.out,List.length_map] at this;exact this
   have R:=Lib.hid (fun k x=>jpx (L:=L) (k:=k) (x:=x) s);obtain⟨G,hG⟩:∃ G,jbR s 0=G:=⟨_,rfl⟩;have z:Hid (G []=[]):=by rw[Hid,<- hG];rfl
   rw[hG] at J R;obtain⟨o,m⟩:∃ o,jbM s=o:=⟨_,rfl⟩;rw[m] at F R;generalize jby L s w=Q at B ⊢;obtain⟨t,ht⟩:=s;dsimp only at C F ⊢;clear hr V hG m;go_enter Tryz.func9,Tryz.ntmps9;go_wp2_with fail;refine T.mono ?_;rintro e u ⟨rfl,D⟩;go_wp2_with fail;refine (C.out u).mono ?_;rintro e w2 ⟨rfl,N⟩;have v:Hid (Bw w w2):=D.trans (N.mono D.size);clear D N T C;go_wp2_with fail;go_loopw [6,7] (fun ov i wr=>∃ (k:Nat) (A:List Nat) (q:Option Addr) (X:Nat),i=.int .i64 k/\ov=.slice q A.length X/\k<=l.length/\A.length<=k/\Bw w wr/\Hid (wr.ownsRow w.heap.size 3 1 ov A.length (A.flatMap ji4))/\Hid (A=G (L.take k))) (fun _ i _=>l.length-(intOf i).toNat)
   case atStart=>exact⟨0,[],none,0,rfl,rfl,Nat.zero_le _,Nat.zero_le _,v.out,World.ownsRow_nil _ _ _ _,by rw[Hid,List.take_zero];exact z.out.symm⟩
   case round =>
    obtain⟨k,A,q,X,rfl,rfl,hk,ag,I,HO,HP⟩:=hrel;have i0:(0:Int)<=(k:Int):=Int.natCast_nonneg k;by_cases f:k<l.length
    ·obtain⟨⟨x,p⟩,n⟩:∃ x,l[k]? = some x:=⟨_,List.getElem?_eq_getElem f⟩
     obtain⟨b,off,ea,ac,hc⟩:=HT.out.row.1.2 k (x,p) n;have c0:wr.cell? ⟨b,off+k*12,none⟩=some (.slice p.la p.ll p.lc):=(I.cell (p:=⟨b,off+k*12,none⟩) ac).trans (hc 0 (by omega));subst ea;have i1:(k:Int)<(l.length:Int):=Int.ofNat_lt.2 f;have HX:Hid (L[k]? = some x):=by rw[Hid,<- P.out,List.getElem?_map,n];rfl
     have M:=F.out p x wr (((HT.out.at_ _ (List.mem_of_getElem? n)).below I).mono I.size) (HF.out _ (List.mem_of_getElem? n));have HN:Hid (G (L.take (k+1))=A++(if (o x.l).1 then [k] else [])):=by rw[Hid,R.out k x HX.out,HP.out]
     obtain⟨m1,j⟩:∃ m1,(o x.l).1=m1:=⟨_,rfl⟩;rw[j] at M HN;generalize (o x.l).2=m2 at M;clear hc n j
     cases m1 with
     | false =>
      have Y:Hid (A=G (L.take (k+1))):=by rw[Hid,HN.out];simp
      go_wp2_with fail;refine M.mono ?_;rintro e r ⟨rfl,E⟩;have H:=I.trans (E.mono I.size);have aa:Hid (r.ownsRow w.heap.size 3 1 (.slice q A.length X) A.length (A.flatMap ji4)):=jkG HO.out E;clear E I;go_wp2_with fail;go_roundw
      case rel=>exact⟨k+1,A,q,X,by go_num,rfl,by omega,by omega,H,aa.out,Y.out⟩
      case measure=>simp[intOf];omega
     | true =>
      have Y:Hid (A++[k]=G (L.take (k+1))):=by rw[Hid,HN.out];rfl
      go_wp2_with fail;refine M.mono ?_;rintro e r ⟨rfl,E⟩;have H:=I.trans (E.mono I.size);obtain⟨g,c5,w5,c,O,Z,ae,-,-⟩:=jaL Tryz.prog 25 joL jol rfl (by decide) (W:=r) (jkG HO.out E) H (Nat.le_refl _) H.size (ji4 k) rfl (jtF k) (by omega) (by decide);have c:(Builtin.append_ #[25,25] 25 #[.slice q A.length X,.slice (some ⟨r.heap.size,0,none⟩) 1 1]).run Tryz.prog (r.alloc (.cells #[.int .i64 k] 3))=.ok (.slice (some ⟨g,0,none⟩) (A.length+1) c5) w5:=c
      have ab:Hid (w5.ownsRow w.heap.size 3 1 (.slice (some ⟨g,0,none⟩) (A.length+1) c5) (A++[k]).length ((A++[k]).flatMap ji4)):=by
       rw[Hid,List.length_append,List.flatMap_append];simpa [ji4] using O
      have y:=Lib.hid Z;clear O Z ae E I H;go_wp2_with fail;go_roundw
      case rel=>exact⟨k+1,A++[k],some ⟨g,0,none⟩,c5,by go_num,by rw[List.length_append];rfl,by omega,by rw[List.length_append];simp;omega,y.out,ab.out,Y.out⟩
      case measure=>simp[intOf];omega
    ·have i1:¬ (k:Int)<(l.length:Int):=by omega
     have Y:Hid (A=G L):=by rw[Hid,HP.out,List.take_of_length_le (by rw[<- P.out,List.length_map];omega)]
     obtain⟨a',c',hv,hS,-⟩:=jaz (enc:=ji4) jtE HO.out
     cases hv
     have HS:=Lib.hid hS;clear hS;go_wp2_with fail;rw[B.out,J.out.1,J.out.2,<- Y.out];exact⟨_,X,rfl,HS.out,I⟩
end
def skB (x:Sk):Nat × Bd:=(x.level.toNat,jsX x)
def jb9 (kind:Int) (x:Ser):List (Nat × Bd):=if x.sk.kind==kind then [skB x.sk] else []
def ja0 (L:List Ser) (kind:Int) (ps:List Nat):List (Nat × Bd):=ps.flatMap fun i=>match L[i]? with
 | some x=>jb9 kind x
 | none=>[]
theorem jl8 {L:List Ser} {i:Nat} {x:Ser} (h:L[i]? = some x) (A:Int):ja0 L A [i]=jb9 A x:=by
 simp[ja0,h]
theorem jjL (L:List Ser) (A:Int) (p q:List Nat):ja0 L A (p++q)=ja0 L A p++ja0 L A q:=List.flatMap_append
theorem jr2 {k L:Nat} {B:Bd} (h:B.Ok k L):skB (jbu k L B)=(L,B):=by
 unfold skB;rw[jhR h,(jak k L B).2,Int.toNat_natCast]
theorem jr1 {x:Sk} (h:SkGood x) {k:Nat} (D:x.kind=(k:Int)):(skB x).2.Ok k (skB x).1:=by
 obtain⟨C,L,B,rfl,A⟩:=h;rw[(jak C L B).1] at D;obtain rfl:C=k:=by omega
 rw[jr2 A];exact A
theorem jpJ {x:Ser} (h:SkGood x.sk) {k:Nat}:∀ t∈jb9 (k:Int) x,t.2.Ok k t.1:=by
 intro t ht;unfold jb9 at ht;split at ht
 ·rename_i e
  obtain rfl:=List.mem_singleton.1 ht;exact jr1 h (by simpa using e)
 ·cases ht
theorem jl9 {L:List Ser} (h:∀ x∈L,SkGood x.sk) {k:Nat} (C:List Nat):∀ t∈ja0 L (k:Int) C,t.2.Ok k t.1:=by
 intro t ht;unfold ja0 at ht;obtain⟨i,-,A⟩:=List.mem_flatMap.1 ht
 cases B:L[i]? with
 | none=>rw[B] at A;cases A
 | some x =>
  rw[B] at A;exact jpJ (h x (List.mem_of_getElem? B)) t A
def jmH (E kind:Int):Int:=if E==0 then (if kind==1||kind==2||kind==3 then 0 else 101) else E
def jnU (kind E:Int) (S:List (Nat × Bd)):Sk:=if jmH E kind=0 then jbu kind.toNat (jcx kind.toNat S).1 (jcx kind.toNat S).2 else jaQ 0 0 []
def jgx (kind E:Int) (S:List (Nat × Bd)) (w:World) (e:Ending) (w':World):Prop:=∃ (y:Sk) (s:SS),y=jnU kind E S/\e=.returned (.tuple #[.agg #[.int .i64 y.kind,.int .i64 y.level,.slice s.ea s.el s.ec,.int .i64 y.hb,.string y.hr,.int .i64 y.cr,.int .i64 y.cc,.slice s.ca s.cl s.cc,.int .i64 y.gf,.slice s.ga s.gl s.gc],.int .i64 (jmH E kind)])/\s.At w'.heap.size w' y/\Bw w w'
def SkNil:SS:=⟨none,0,0,none,0,0,none,0,0⟩
theorem jkV (w:World):SkNil.At w.heap.size w (jaQ 0 0 []):=⟨SlC.nil,SlC.nil,SlC.nil⟩
theorem jgv {A E:Int} {S:List (Nat × Bd)} (h:jmH E A≠0):jnU A E S=jaQ 0 0 []:=by unfold jnU;rw[if_neg h]
theorem joC {k:Nat} {S:List (Nat × Bd)} (A:k=1\/k=2\/k=3):jmH 0 (k:Int)=0/\jnU (k:Int) 0 S=jbu k (jcx k S).1 (jcx k S).2:=by
 have h:jmH 0 (k:Int)=0:=by unfold jmH;rw[if_pos (by rfl:((0:Int)==0)=true),if_pos (by simp;omega)]
 exact⟨h,by unfold jnU;rw[if_pos h,Int.toNat_natCast]⟩
section
open Go.Shelf
theorem jjX (k:Nat) (S:List (Nat × Bd)) (t:Nat × Bd):jcx k (S++[t])=ja2 (jcx k S) t:=by unfold jcx;rw[List.foldl_append];rfl
structure MI (k:Nat) (S:List (Nat × Bd)) (w:World) (r b:Nat) (W:World):Prop where
 sk:∃ (y:Sk) (s:SS),y=jbu k (jcx k S).1 (jcx k S).2/\W.heap[b]? = some (.cells #[.int .i64 y.kind,.int .i64 y.level,.slice s.ea s.el s.ec,.int .i64 y.hb,.string y.hr,.int .i64 y.cr,.int .i64 y.cc,.slice s.ca s.cl s.cc,.int .i64 y.gf,.slice s.ga s.gl s.gc] 41 (0,0))/\s.At W.heap.size W y
 res:W.heap[r]? = some (.cells #[.int .i64 0,.int .i64 0,.slice none 0 0,.int .i64 0,.string ⟨#[]⟩,.int .i64 0,.int .i64 0,.slice none 0 0,.int .i64 0,.slice none 0 0] 41 (0,0))
 below:Bw w W
theorem MI.go {k:Nat} {S:List (Nat × Bd)} {w W B:World} {r b:Nat} (h:MI k S w r b W) (A:Bw W B):MI k S w r b B:=by
 obtain⟨⟨y,s,D,E,F⟩,G,C⟩:=h;exact⟨⟨y,s,D,jab A (Nat.le_refl _) E,F.go A⟩,jab A (Nat.le_refl _) G,C.trans (A.mono C.size)⟩
theorem jpy {k:Nat} (Q:k=1\/k=2\/k=3) {S:List (Nat × Bd)} (N:∀ t∈S,t.2.Ok k t.1) {x:Ser} (F:SkGood x.sk) (A:x.sk.kind=(k:Int)) {v:Value} {p:SS} {W:World} (T:SkB W v k (jcx k S).1 (jcx k S).2) (R:p.At W.heap.size W x.sk) (P:GT W) :
  Calls Tryz.prog 34 #[v,.agg #[.int .i64 x.sk.kind,.int .i64 x.sk.level,.slice p.ea p.el p.ec,.int .i64 x.sk.hb,.string x.sk.hr,.int .i64 x.sk.cr,.int .i64 x.sk.cc,.slice p.ca p.cl p.cc,.int .i64 x.sk.gf,.slice p.ga p.gl p.gc]] W fun e w'=>∃ (y:Sk) (s:SS),e=.returned (.tuple #[.agg #[.int .i64 y.kind,.int .i64 y.level,.slice s.ea s.el s.ec,.int .i64 y.hb,.string y.hr,.int .i64 y.cr,.int .i64 y.cc,.slice s.ca s.cl s.cc,.int .i64 y.gf,.slice s.ga s.gl s.gc],.int .i64 0])/\y=jbu k (jcx k (S++jb9 (k:Int) x)).1 (jcx k (S++jb9 (k:Int) x)).2/\s.At w'.heap.size w' y/\Bw W w':=by
 have D:jb9 (k:Int) x=[skB x.sk]:=by unfold jb9;rw[A];simp
 rw[D,jjX];have C:=jr1 F A
 have E:SkB W (.agg #[.int .i64 x.sk.kind,.int .i64 x.sk.level,.slice p.ea p.el p.ec,.int .i64 x.sk.hb,.string x.sk.hr,.int .i64 x.sk.cr,.int .i64 x.sk.cc,.slice p.ca p.cl p.cc,.int .i64 x.sk.gf,.slice p.ga p.gl p.gc]) k (skB x.sk).1 (skB x.sk).2:=by
  obtain⟨G,L,B,e,M⟩:=F;rw[e,(jak G L B).1] at A;obtain rfl:G=k:=by omega
  refine⟨x.sk,p,?_,rfl,R⟩;rw[e,jr2 M]
 refine (jqc (joN Q N) C P T E).mono ?_;rintro e w' ⟨v',rfl,⟨y,s,H,I,J⟩,O⟩;subst I;exact⟨y,s,rfl,H,J,O⟩
attribute [-go_sem] Builtin.append_
theorem joS (s:jb4) (D:Int) (l:List (Ser × SerP)) (a:Option Addr) (len cap:Nat) (w:World) (hT:Tab w.heap.size w a len cap l) (hF:jdl l) (hQ:jas (l.map (·.1))=true->∀ x∈l.map (·.1),SkGood x.sk) (hG:GW w) (hg:GT w) :
  Calls Tryz.prog 10 #[.slice a len cap,.string s.1,.int .i64 D] w (jgx D (jbe (l.map (·.1)) s) (ja0 (l.map (·.1)) D (jaZ (l.map (·.1)) s)) w):=by
 have az:=hT.row.1.1;subst az;obtain⟨W0,a4,ay,T,a5⟩:=jaf w #[.int .i64 0,.int .i64 0,.slice none 0 0,.int .i64 0,.string ⟨#[]⟩,.int .i64 0,.int .i64 0,.slice none 0 0,.int .i64 0,.slice none 0 0] 41;have hM:=jla s l a l.length cap W0 (hT.go T) hF (hG.below T);unfold jby at hM;have HT:=Lib.hid (hT.go T);have aG:Hid (GT W0):=hg.go T;have aM:=Lib.hid ay;have aj:=Lib.hid T
 have aA:Hid (∀ i∈jaZ (l.map (·.1)) s,i<l.length):=by
  rw[Hid,jaZ];split
  ·intro i hi
   have:=((jkx s (l.map (·.1)) 0).1 i hi).2;rw[List.length_map] at this;omega
  ·intro i hi;cases hi
 have av:jbe (l.map (·.1)) s=0->∀ x∈l.map (·.1),SkGood x.sk:=fun h=>by
  refine hQ ?_;unfold jbe at h;split at h
  ·assumption
  ·cases h
 have t:=Lib.hid av;generalize jaZ (l.map (·.1)) s=pl at hM aA ⊢;generalize jbe (l.map (·.1)) s=er at hM t ⊢;have HL:Hid (∀ (i:Nat) (x:Ser) (p:SerP),l[i]? = some (x,p)->(l.map (·.1))[i]? = some x):=fun i x p h=>by rw[List.getElem?_map,h];rfl
 generalize l.map (·.1)=L at t HL ⊢;clear hT hF hQ hG hg ay T av;go_enter Tryz.func10,Tryz.ntmps10;go_wp2_with fail;refine hM.mono ?_;rintro e G ⟨pa,pc,rfl,hp,ab⟩;have j:=jab ab (Nat.le_refl _) aM.out;have ae:=Lib.hid j;have R:Hid (Bw w G):=aj.out.trans (ab.mono aj.out.size);obtain⟨r0,r1,r2,r3,r4,r5,r6,r7,r8,r9⟩:=jam j;obtain⟨g0,g1,g2,g3,g4,g5,g6,g7,g8,g9⟩:=jbL j;obtain⟨d0,d1,d2,d3,d4,d5,d6,d7,d8,d9⟩:=jgQ j;have aq:=Lib.hid ab;clear j ab hM;by_cases he:er=0
 case neg =>
  have t1:(er != 0)=true:=by rw[bne_iff_ne];exact he
  have HS:Hid (jmH er D=er):=by unfold Hid jmH;rw[if_neg (by simpa using he)]
  have HE:=Lib.hid he;clear he;go_wp2_with fail;refine bodyPost_ret (v:=.tuple #[.agg #[.int .i64 0,.int .i64 0,.slice none 0 0,.int .i64 0,.string ⟨#[]⟩,.int .i64 0,.int .i64 0,.slice none 0 0,.int .i64 0,.slice none 0 0],.int .i64 er]) (by simp[results,Tryz.f10,go_sem,r0,r1,r2,r3,r4,r5,r6,r7,r8,r9]) rfl ⟨jaQ 0 0 [],SkNil,?_,?_,jkV _,R.out⟩
  ·rw[jgv (by rw[HS.out];exact HE.out)]
  ·rw[HS.out];rfl
 subst he;by_cases hk:D=1\/D=2\/D=3
 case neg =>
  have HS:Hid (jmH 0 D=101):=by unfold Hid jmH;rw[if_pos (by rfl:((0:Int)==0)=true),if_neg (by simpa [not_or,and_assoc] using hk)]
  have HN:=Lib.hid (jwu D (by rw[beq_eq_false_iff_ne];exact fun h=>hk (.inl h)) (by rw[beq_eq_false_iff_ne];exact fun h=>hk (.inr (.inl h))) (by rw[beq_eq_false_iff_ne];exact fun h=>hk (.inr (.inr h))) G);clear hk;go_wp2_with fail;refine HN.out.mono ?_;rintro e w2 ⟨rfl,M⟩;have ax:=jab M (Nat.le_refl _) ae.out;obtain⟨W3,aX,O,N,a2⟩:=jaf w2 #[.int .i64 0,.int .i64 0,.slice none 0 0,.int .i64 0,.string ⟨#[]⟩,.int .i64 0,.int .i64 0,.slice none 0 0,.int .i64 0,.slice none 0 0] 41;have aa:=jab N (Nat.le_refl _) ax;obtain⟨q0,q1,q2,q3,q4,q5,q6,q7,q8,q9⟩:=jam aa;obtain⟨f0,f1,f2,f3,f4,f5,f6,f7,f8,f9⟩:=jbL aa;obtain⟨a8,a9,ba,bb,bc,be,bf,bg,bh,bi⟩:=jgQ aa;obtain⟨z0,z1,z2,z3,z4,z5,z6,z7,z8,z9⟩:=jam O;obtain⟨y0,y1,y2,y3,y4,y5,y6,y7,y8,y9⟩:=jbL O;obtain⟨bt,bu,bv,bw,bx,bz,bA,bB,bC,bD⟩:=jgQ O;have aE:Hid (Bw w W3):=R.out.trans ((M.trans (N.mono M.size)).mono R.out.size);clear ax O aa M N;go_wp2_with fail;refine bodyPost_ret (v:=.tuple #[.agg #[.int .i64 0,.int .i64 0,.slice none 0 0,.int .i64 0,.string ⟨#[]⟩,.int .i64 0,.int .i64 0,.slice none 0 0,.int .i64 0,.slice none 0 0],.int .i64 101]) (by simp[results,Tryz.f10,go_sem,q0,q1,q2,q3,q4,q5,q6,q7,q8,q9]) rfl ⟨jaQ 0 0 [],SkNil,?_,?_,jkV _,aE.out⟩
  ·rw[jgv (by rw[HS.out];decide)]
  ·rw[HS.out];rfl
 obtain⟨K,rfl,hK⟩:∃ K:Nat,D=(K:Int)/\(K=1\/K=2\/K=3):=⟨D.toNat,by omega,by omega⟩;have HS:=Lib.hid (joC (S:=ja0 L K pl) hK);have am:=Lib.hid (t.out rfl);have HN:=Lib.hid (jvj K hK G);have HK:=Lib.hid hK;clear hk hK t;go_wp2_with fail;refine HN.out.mono ?_;rintro e w2 ⟨v2,rfl,⟨y2,n,aB,rfl,ar⟩,M⟩;obtain⟨W3,aX,O,N,a2⟩:=jaf w2 #[.int .i64 y2.kind,.int .i64 y2.level,.slice n.ea n.el n.ec,.int .i64 y2.hb,.string y2.hr,.int .i64 y2.cr,.int .i64 y2.cc,.slice n.ca n.cl n.cc,.int .i64 y2.gf,.slice n.ga n.gl n.gc] 41;have Q:=M.trans (N.mono M.size);have an:Hid (MI K [] w w.heap.size w2.heap.size W3):=⟨⟨y2,n,aB,O,ar.go N⟩,jab Q (Nat.le_refl _) ae.out,R.out.trans (Q.mono R.out.size)⟩;have HP:Hid (SlC ji4 1 G.heap.size G pa pl.length pc pl):=hp;have aF:=Lib.hid Q;have a1:pl.length<=maxLen:=Nat.le_trans hp.2.1 hp.2.2.1;unfold maxLen at a1;have al:Hid (GT G):=aG.out.go aq.out;have ap:Hid (Tab G.heap.size G a l.length cap l):=HT.out.go aq.out;obtain⟨b,af⟩:∃ b,w2.heap.size=b:=⟨_,rfl⟩;have a3:G.heap.size<=b:=by rw[<- af];exact M.size
 have a6:w.heap.size<b:=by have:=R.out.size;have:=(Array.getElem?_eq_some_iff.1 ae.out).1;omega
 rw[af] at an;clear M O N Q hp aB ar;go_wp2_with fail;clear af;go_loopw [9,34] (fun e i wr=>∃ m:Nat,m<=pl.length/\e=.int .i64 0/\i=.int .i64 m/\MI K (ja0 L K (pl.take m)) w w.heap.size b wr/\Bw G wr) (fun _ i _=>pl.length-(intOf i).toNat)
 case atStart=>exact⟨0,Nat.zero_le _,rfl,rfl,an.out,aF.out⟩
 case round =>
  obtain⟨m,hm,rfl,rfl,f,A⟩:=hrel;by_cases aZ:m<pl.length
  ·obtain⟨i,hi⟩:∃ i,pl[m]? = some i:=⟨_,List.getElem?_eq_getElem aZ⟩
   have aY:=aA.out i (List.mem_of_getElem? hi);obtain⟨⟨x,p⟩,hx⟩:∃ e,l[i]? = some e:=⟨_,List.getElem?_eq_getElem aY⟩;obtain⟨pb,po,rfl,a0,ah⟩:=HP.out.1.2 m i hi;obtain⟨H,I,rfl,J,F⟩:=ap.out.row.1.2 i (x,p) hx
   have c0:wr.cell? ⟨pb,po+m,none⟩=some (.int .i64 (i:Int)):=by
    have h1:=ah 0 (by omega);simp only[Nat.mul_one,Nat.add_zero] at h1;exact (A.cell (p:=⟨pb,po+m,none⟩) a0).trans h1
   have n0:G.cell? ⟨H,I+i*12,none⟩=some (.slice p.la p.ll p.lc):=F 0 (by omega);have n1:G.cell? ⟨H,I+i*12+1,none⟩=some (.int .i64 x.sk.kind):=F 1 (by omega);have n2:G.cell? ⟨H,I+i*12+2,none⟩=some (.int .i64 x.sk.level):=F 2 (by omega);have n3:G.cell? ⟨H,I+i*12+3,none⟩=some (.slice p.ss.ea p.ss.el p.ss.ec):=F 3 (by omega);have n4:G.cell? ⟨H,I+i*12+4,none⟩=some (.int .i64 x.sk.hb):=F 4 (by omega);have n5:G.cell? ⟨H,I+i*12+5,none⟩=some (.string x.sk.hr):=F 5 (by omega);have n6:G.cell? ⟨H,I+i*12+6,none⟩=some (.int .i64 x.sk.cr):=F 6 (by omega);have n7:G.cell? ⟨H,I+i*12+7,none⟩=some (.int .i64 x.sk.cc):=F 7 (by omega);have n8:G.cell? ⟨H,I+i*12+8,none⟩=some (.slice p.ss.ca p.ss.cl p.ss.cc):=F 8 (by omega);have n9:G.cell? ⟨H,I+i*12+9,none⟩=some (.int .i64 x.sk.gf):=F 9 (by omega);have ai:G.cell? ⟨H,I+i*12+10,none⟩=some (.slice p.ss.ga p.ss.gl p.ss.gc):=F 10 (by omega);have aD:G.cell? ⟨H,I+i*12+11,none⟩=some (.int .u64 x.seen):=F 11 (by omega);have r:=HL.out i x p hx;have P:ja0 L K (pl.take (m+1))=ja0 L K (pl.take m)++jb9 K x:=by rw[jai hi,jjL,jl8 r]
   have ao:=Lib.hid P;have aH:=Lib.hid (am.out x (List.mem_of_getElem? r));have aK:Hid (p.At G.heap.size G x):=ap.out.at_ _ (List.mem_of_getElem? hx);have i0:(0:Int)<=(m:Int):=by omega
   have i1:(m:Int)<(pl.length:Int):=by omega
   have j0:(0:Int)<=(i:Int):=by omega
   have j1:(i:Int)<(l.length:Int):=by omega
   have k1:=(A.cell (p:=⟨H,I+i*12+1,none⟩) J).trans n1;have aI:=Lib.hid f;have ak:=Lib.hid A;by_cases Z:x.sk.kind=(K:Int)
   case neg =>
    have t1:(x.sk.kind != (K:Int))=true:=by rw[bne_iff_ne];exact Z
    have aL:Hid (ja0 L K (pl.take (m+1))=ja0 L K (pl.take m)):=by
     rw[Hid,ao.out];unfold jb9;rw[if_neg (by simpa using Z),List.append_nil]
    clear Z P ah F hi hx f A r n1 n2 n3 n4 n5 n6 n7 n8 n9 ai aD n0;go_wp2_with fail
    all_goals go_roundw
    case rel=>exact⟨m+1,by omega,rfl,by go_num,by rw[aL.out];exact aI.out,ak.out⟩
    case measure=>simp[intOf];omega
   have t1:(x.sk.kind != (K:Int))=false:=by simp[Z]
   obtain⟨⟨y,C,hy,Y,c⟩,B,d⟩:=f
   have aJ:Hid (Calls Tryz.prog 34 #[.agg #[.int .i64 y.kind,.int .i64 y.level,.slice C.ea C.el C.ec,.int .i64 y.hb,.string y.hr,.int .i64 y.cr,.int .i64 y.cc,.slice C.ca C.cl C.cc,.int .i64 y.gf,.slice C.ga C.gl C.gc],.agg #[.int .i64 x.sk.kind,.int .i64 x.sk.level,.slice p.ss.ea p.ss.el p.ss.ec,.int .i64 x.sk.hb,.string x.sk.hr,.int .i64 x.sk.cr,.int .i64 x.sk.cc,.slice p.ss.ca p.ss.cl p.ss.cc,.int .i64 x.sk.gf,.slice p.ss.ga p.ss.gl p.ss.gc]] wr.drew fun e w'=>∃ (y:Sk) (s:SS),e=.returned (.tuple #[.agg #[.int .i64 y.kind,.int .i64 y.level,.slice s.ea s.el s.ec,.int .i64 y.hb,.string y.hr,.int .i64 y.cr,.int .i64 y.cc,.slice s.ca s.cl s.cc,.int .i64 y.gf,.slice s.ga s.gl s.gc],.int .i64 0])/\y=jbu K (jcx K (ja0 L K (pl.take (m+1)))).1 (jcx K (ja0 L K (pl.take (m+1)))).2/\s.At w'.heap.size w' y/\Below wr.drew.heap.size wr.drew w'):=by
    rw[ao.out];have ag:Bw wr wr.drew:=(Below.refl _ _).drew;exact jpy HK.out (jl9 am.out _) aH.out Z ⟨y,C,hy,rfl,c.go ag⟩ (aK.out.go (A.trans (ag.mono A.size))).s (al.out.go (A.trans (ag.mono A.size)))
   have k2:=(A.cell (p:=⟨H,I+i*12+2,none⟩) J).trans n2;have k3:=(A.cell (p:=⟨H,I+i*12+3,none⟩) J).trans n3;have k4:=(A.cell (p:=⟨H,I+i*12+4,none⟩) J).trans n4;have k5:=(A.cell (p:=⟨H,I+i*12+5,none⟩) J).trans n5;have k6:=(A.cell (p:=⟨H,I+i*12+6,none⟩) J).trans n6;have k7:=(A.cell (p:=⟨H,I+i*12+7,none⟩) J).trans n7;have k8:=(A.cell (p:=⟨H,I+i*12+8,none⟩) J).trans n8;have k9:=(A.cell (p:=⟨H,I+i*12+9,none⟩) J).trans n9;have a7:=(A.cell (p:=⟨H,I+i*12+10,none⟩) J).trans ai;obtain⟨c0,c1,c2,c3,c4,c5,c6,c7,c8,c9⟩:=jam Y;have HX:Hid (wr.drew.heap[b]? = some (.cells #[.int .i64 y.kind,.int .i64 y.level,.slice C.ea C.el C.ec,.int .i64 y.hb,.string y.hr,.int .i64 y.cr,.int .i64 y.cc,.slice C.ca C.cl C.cc,.int .i64 y.gf,.slice C.ga C.gl C.gc] 41 (0,0))):=Y;have HR:Hid (wr.drew.heap[w.heap.size]? = some (.cells #[.int .i64 0,.int .i64 0,.slice none 0 0,.int .i64 0,.string ⟨#[]⟩,.int .i64 0,.int .i64 0,.slice none 0 0,.int .i64 0,.slice none 0 0] 41 (0,0))):=B;have HB:Hid (Bw w wr.drew):=d.drew;have ac:Hid (Bw G wr.drew):=A.drew;clear Z P ah F hi hx A r n1 n2 n3 n4 n5 n6 n7 n8 n9 ai aD n0 hy Y c B d;go_wp2_with fail;refine wp_region_any (by kernel_rfl) ?_;change wpAny _ _ _ _ _ _ _ (World.drew _)
   ·
    refine ta 1 ?_;refine ta 2 ?_;refine ta 3 ?_;refine ta 4 ?_;refine rd [0,5] (.cons rfl (fun z hK=>?_) (.cons rfl (fun z hK=>?_) .nil))
    all_goals go_simp
    all_goals (refine hK _ _ ?_;clear hK z)
    all_goals first
     | (refine rq [5] (.cons rfl (fun z hK=>?_) .nil))
     | (refine rq [0] (.cons rfl (fun z hK=>?_) .nil))
    all_goals go_simp
    all_goals (refine hK _ _ ?_;clear hK z)
    all_goals (refine rd [6] (.cons rfl (fun z hK=>?_) .nil))
    all_goals go_simp
    all_goals
     refine aJ.out.mono ?_;rintro e q ⟨y5,o,rfl,aC,au,k⟩;have E:=jab k (Nat.le_refl _) HX.out;have aw:=jab k (Nat.le_refl _) HR.out;obtain⟨f0,f1,f2,f3,f4,f5,f6,f7,f8,f9⟩:=jam E;have aN:q.frozen? ⟨b,0,none⟩=false:=cFz E 0;have aO:q.frozen? ⟨b,1,none⟩=false:=cFz E 1;have aP:q.frozen? ⟨b,2,none⟩=false:=cFz E 2;have aQ:q.frozen? ⟨b,3,none⟩=false:=cFz E 3;have aR:q.frozen? ⟨b,4,none⟩=false:=cFz E 4;have aS:q.frozen? ⟨b,5,none⟩=false:=cFz E 5;have aT:q.frozen? ⟨b,6,none⟩=false:=cFz E 6;have aU:q.frozen? ⟨b,7,none⟩=false:=cFz E 7;have aV:q.frozen? ⟨b,8,none⟩=false:=cFz E 8;have aW:q.frozen? ⟨b,9,none⟩=false:=cFz E 9;obtain⟨V,hV,g,X,U⟩:=jaD (.int .i64 y5.kind) (.int .i64 y5.level) (.slice o.ea o.el o.ec) (.int .i64 y5.hb) (.string y5.hr) (.int .i64 y5.cr) (.int .i64 y5.cc) (.slice o.ca o.cl o.cc) (.int .i64 y5.gf) (.slice o.ga o.gl o.gc) E;have HO:Hid (MI K (ja0 L K (pl.take (m+1))) w w.heap.size b V/\Bw G V):=⟨⟨⟨y5,o,aC,g,jee au E (fun i u=>ju2 y C u) X⟩,(X.2 _ (by omega)).trans aw,U _ _ (HB.out.trans (k.mono HB.out.size)) (by omega)⟩,U _ _ (ac.out.trans (k.mono ac.out.size)) a3⟩;clear E aw g X U aC au k;refine hK _ _ ?_;clear hK z
    all_goals (refine ta 7 ?_;refine ta 8 ?_;refine ta 9 ?_;refine rd [10] (.cons rfl (fun z hK=>?_) .nil))
    all_goals go_simp
    all_goals (refine hK _ _ ?_;clear hK z)
    all_goals (refine ta 11 ?_;refine wpAny_done (by kernel_rfl) ?_ _)
    all_goals
     go_wp2_with fail
     all_goals go_roundw
     case rel=>exact⟨m+1,by omega,rfl,by go_num,HO.out.1,HO.out.2⟩
     case measure=>simp[intOf];omega
  ·obtain rfl:m=pl.length:=by omega
   rw[List.take_of_length_le (Nat.le_refl _)] at f;obtain⟨⟨y,C,hy,Y,c⟩,B,d⟩:=f;obtain⟨c0,c1,c2,c3,c4,c5,c6,c7,c8,c9⟩:=jam Y;have bj:wr.cell? ⟨w.heap.size,0,none⟩=some (.int .i64 0):=cCc B 0;have bk:wr.cell? ⟨w.heap.size,1,none⟩=some (.int .i64 0):=cCc B 1;have bl:wr.cell? ⟨w.heap.size,2,none⟩=some (.slice none 0 0):=cCc B 2;have bm:wr.cell? ⟨w.heap.size,3,none⟩=some (.int .i64 0):=cCc B 3;have bn:wr.cell? ⟨w.heap.size,4,none⟩=some (.string ⟨#[]⟩):=cCc B 4;have bo:wr.cell? ⟨w.heap.size,5,none⟩=some (.int .i64 0):=cCc B 5;have bp:wr.cell? ⟨w.heap.size,6,none⟩=some (.int .i64 0):=cCc B 6;have bq:wr.cell? ⟨w.heap.size,7,none⟩=some (.slice none 0 0):=cCc B 7;have br:wr.cell? ⟨w.heap.size,8,none⟩=some (.int .i64 0):=cCc B 8;have bs:wr.cell? ⟨w.heap.size,9,none⟩=some (.slice none 0 0):=cCc B 9;have aN:wr.frozen? ⟨w.heap.size,0,none⟩=false:=cFz B 0;have aO:wr.frozen? ⟨w.heap.size,1,none⟩=false:=cFz B 1;have aP:wr.frozen? ⟨w.heap.size,2,none⟩=false:=cFz B 2;have aQ:wr.frozen? ⟨w.heap.size,3,none⟩=false:=cFz B 3;have aR:wr.frozen? ⟨w.heap.size,4,none⟩=false:=cFz B 4;have aS:wr.frozen? ⟨w.heap.size,5,none⟩=false:=cFz B 5;have aT:wr.frozen? ⟨w.heap.size,6,none⟩=false:=cFz B 6;have aU:wr.frozen? ⟨w.heap.size,7,none⟩=false:=cFz B 7;have aV:wr.frozen? ⟨w.heap.size,8,none⟩=false:=cFz B 8;have aW:wr.frozen? ⟨w.heap.size,9,none⟩=false:=cFz B 9
   obtain⟨V,hV,g,X,U⟩:=jaD (.int .i64 y.kind) (.int .i64 y.level) (.slice C.ea C.el C.ec) (.int .i64 y.hb) (.string y.hr) (.int .i64 y.cr) (.int .i64 y.cc) (.slice C.ca C.cl C.cc) (.int .i64 y.gf) (.slice C.ga C.gl C.gc) B;obtain⟨o0,o1,o2,o3,o4,o5,o6,o7,o8,o9⟩:=jam g;have ad:Hid (y=jbu K (jcx K (ja0 L K pl)).1 (jcx K (ja0 L K pl)).2/\C.At V.heap.size V y/\Bw w V):=⟨hy,jee c B (fun i u=>jcP u) X,U _ _ d (by omega)⟩;clear Y B g X U hy c d;go_wp2_with fail;refine bodyPost_ret (v:=.tuple #[.agg #[.int .i64 y.kind,.int .i64 y.level,.slice C.ea C.el C.ec,.int .i64 y.hb,.string y.hr,.int .i64 y.cr,.int .i64 y.cc,.slice C.ca C.cl C.cc,.int .i64 y.gf,.slice C.ga C.gl C.gc],.int .i64 0]) (by simp[results,Tryz.f10,go_sem,o0,o1,o2,o3,o4,o5,o6,o7,o8,o9]) rfl ⟨y,C,ad.out.1.trans HS.out.2.symm,?_,ad.out.2.1,ad.out.2.2⟩;rw[HS.out.1]
end
section
open Go.Shelf
theorem jjh (Z:Option Addr) (A F:Nat) (N:List Nat) (a:Option Addr) (B G:Nat) (O:List Nat) (w:World) (Q:SlE ji4 1 w.heap.size w Z A N) (R:SlE ji4 1 w.heap.size w a B O) (n:A<=maxLen) :
  CR 12 #[.slice Z A F,.slice a B G] w (.bool (N==O)):=by
 have P:=Q.1;have S:=R.1;unfold maxLen at n;by_cases m:A=B
 ·subst m
  have t:((A:Int) != (A:Int))=false:=by simp
  have d:=Lib.hid P;have f:=Lib.hid S;clear P S;go_enter Tryz.func12,Tryz.ntmps12;go_wp2_with fail;go_loopw [5] (fun i wr=>∃ (k:Nat),i=.int .i64 k/\k<=A/\Bw w wr/\Hid (N.take k=O.take k)) (fun i _=>A-(intOf i).toNat)
  case atStart=>exact⟨0,rfl,Nat.zero_le _,Below.refl _ _,rfl⟩
  case round =>
   obtain⟨k,rfl,u,H,V⟩:=hrel;by_cases L:k<A
   ·obtain⟨x,g,p,M,T,j,I⟩:=(Q.below H).at L
    obtain⟨y,h,q,c,U,l,J⟩:=(R.below H).at L;subst T;subst U;have r:wr.cell? ⟨g,p+k*1+0,none⟩=some (.int .i64 (x:Int)):=I 0 (by omega);have s:wr.cell? ⟨h,q+k*1+0,none⟩=some (.int .i64 (y:Int)):=J 0 (by omega);simp only[Nat.mul_one,Nat.add_zero] at r s;have i0:(0:Int)<=(k:Int):=by omega
    have v:(k:Int)<(A:Int):=by omega
    have X:=Lib.hid M;have Y:=Lib.hid c;clear I J M c Q R;by_cases C:x=y
    ·have o:((x:Int) != (y:Int))=false:=by simp[C]
     have D:Hid (x=y):=C;clear C;go_wp2_with fail;go_quiet (fail);go_wp2_with fail;go_roundw
     case rel=>exact⟨k+1,by go_num,by omega,bDr H _,by rw[Hid,jai X.out,jai Y.out,V.out,D.out]⟩
     case measure=>simp[intOf];omega
    ·have o:((x:Int) != (y:Int))=true:=by rw[bne_iff_ne];omega
     have D:Hid (¬ x=y):=C;clear C;go_wp2_with fail;go_quiet (fail);go_wp2_with fail;go_ret
     have E:(N==O)=false:=by
      rw[beq_eq_false_iff_ne];intro e;have M:=X.out;rw[e,Y.out] at M;exact D.out (Option.some.inj M).symm
     exact⟨by rw[E];rfl,bDr H _⟩
   ·obtain rfl:k=A:=by omega
    clear Q R;go_wp2_with fail;go_ret;have b:=V.out;rw[List.take_of_length_le (by rw[<- d.out];omega),List.take_of_length_le (by rw[<- f.out];omega)] at b;exact⟨by rw[b];simp,H⟩
 ·have t:((A:Int) != (B:Int))=true:=by rw[bne_iff_ne];omega
  have E:Hid ((N==O)=false):=by
   rw[Hid,beq_eq_false_iff_ne];intro e;rw[e] at P;omega
  clear P S;go_enter Tryz.func12,Tryz.ntmps12;go_wp2_with fail;go_ret;exact⟨by rw[E.out];rfl,Below.refl _ _⟩
end
end Go.Proofs.YtafhpamnegmilaaGreatDoor
