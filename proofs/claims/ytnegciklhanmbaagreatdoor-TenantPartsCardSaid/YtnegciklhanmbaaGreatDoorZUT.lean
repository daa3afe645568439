/- The reference of layer 12: One, Same, of equal series and tables. Printed by gen_vs.py. aviarylaw18.TenantParts: what is known of a tenant between calls; the law. aviarylaw18.TenantParts answers true. -/
import Derived.Lib.MapLaws
import Derived.Lib.ValidLaws
import Derived.Shelf.Strings.MapAny
import Derived.Test.YtnegciklhanmbaaGreatDoorZUO
set_option maxHeartbeats 4000000
set_option maxRecDepth 100000
namespace Go.Proofs.YtnegciklhanmbaaGreatDoor
open Go Go.RowKit Go.Shelf
theorem jlL (x:Ser) (p q:SerP) (w:World) (o:p.At w.heap.size w x) (r:q.At w.heap.size w x) :
  CR 37 #[.agg #[.slice p.la p.ll p.lc,.int .i64 x.sk.kind,.int .i64 x.sk.level,.slice p.ss.ea p.ss.el p.ss.ec,.int .i64 x.sk.hb,.string x.sk.hr,.int .i64 x.sk.cr,.int .i64 x.sk.cc,.slice p.ss.ca p.ss.cl p.ss.cc,.int .i64 x.sk.gf,.slice p.ss.ga p.ss.gl p.ss.gc,.int .u64 x.seen],.agg #[.slice q.la q.ll q.lc,.int .i64 x.sk.kind,.int .i64 x.sk.level,.slice q.ss.ea q.ss.el q.ss.ec,.int .i64 x.sk.hb,.string x.sk.hr,.int .i64 x.sk.cr,.int .i64 x.sk.cc,.slice q.ss.ca q.ss.cl q.ss.cc,.int .i64 x.sk.gf,.slice q.ss.ga q.ss.gl q.ss.gc,.int .u64 x.seen]] w (.bool true):=by
 obtain⟨N,y,H,I,B,m⟩:=jas w #[.slice p.la p.ll p.lc,.int .i64 x.sk.kind,.int .i64 x.sk.level,.slice p.ss.ea p.ss.el p.ss.ec,.int .i64 x.sk.hb,.string x.sk.hr,.int .i64 x.sk.cr,.int .i64 x.sk.cc,.slice p.ss.ca p.ss.cl p.ss.cc,.int .i64 x.sk.gf,.slice p.ss.ga p.ss.gl p.ss.gc,.int .u64 x.seen] 90 #[.slice q.la q.ll q.lc,.int .i64 x.sk.kind,.int .i64 x.sk.level,.slice q.ss.ea q.ss.el q.ss.ec,.int .i64 x.sk.hb,.string x.sk.hr,.int .i64 x.sk.cr,.int .i64 x.sk.cc,.slice q.ss.ca q.ss.cl q.ss.cc,.int .i64 x.sk.gf,.slice q.ss.ga q.ss.gl q.ss.gc,.int .u64 x.seen] 90;obtain⟨T,c1,c2,c3,c4,c5,U,V,X,Y,C,D⟩:=jkX H;obtain⟨Z,a,b,c,d,f,g,h,i,j,E,F⟩:=jkX I;have Q:Hid (p.At N.heap.size N x):=o.go B;have n:Hid (q.At N.heap.size N x):=r.go B;have R:=Lib.hid H;have S:=Lib.hid I;have k:=jiq p.la p.ll p.lc x.l q.la q.ll q.lc x.l N Q.out.l.1 n.out.l.1 (Nat.le_trans Q.out.l.2.1 Q.out.l.2.2.1);rw[show (x.l==x.l)=true by simp] at k;clear o r m H I;go_enter Tryz.func37,Tryz.ntmps37;go_wp2_with fail;refine k.mono ?_;rintro e z ⟨rfl,A⟩;have J:=known A (Nat.le_refl _) R.out;have L:=known A (Nat.le_refl _) S.out;clear T c1 c2 c3 c4 c5 U V X Y C D Z a b c d f g h i j E F;obtain⟨T,c1,c2,c3,c4,c5,U,V,X,Y,C,D⟩:=jkX J;obtain⟨Z,a,b,c,d,f,g,h,i,j,E,F⟩:=jkX L;have G:=jit x.sk x.sk p.ss q.ss z (Q.out.go A).s (n.out.go A).s;rw[jm4] at G;clear k;go_wp2_with fail;refine G.mono ?_;rintro e t ⟨rfl,M⟩;have O:=known M (Nat.le_refl _) J;have P:=known M (Nat.le_refl _) L
 have u:t.cell? ⟨w.heap.size,11,none⟩=some (.int .u64 x.seen):=cCc O 11;have v:t.cell? ⟨w.heap.size+1,11,none⟩=some (.int .u64 x.seen):=cCc P 11;clear G J L O P T c1 c2 c3 c4 c5 U V X Y C D Z a b c d f g h i j E F;go_wp2_with fail;go_ret;exact⟨rfl,B.trans ((A.trans (M.mono A.size)).mono B.size)⟩
theorem jkb (l m:List (Ser × SerP)) (a b:Option Addr) (len N cap L:Nat) (w:World) (R:Tab w.heap.size w a len cap l) (n:Tab w.heap.size w b N L m) (Q:l.map (·.1)=m.map (·.1)) :
  CR 18 #[.slice a len cap,.slice b N L] w (.bool true):=by
 have hl:=R.row.1.1;have hm:=n.row.1.1;have P:m.length=l.length:=by have:=congrArg List.length Q;simpa using this.symm
 rw[P] at hm;subst hl hm;have t0:((l.length:Int) != (l.length:Int))=false:=by simp
 have o:l.length<=maxLen:=Nat.le_trans R.row.2.1 R.row.2.2.1;unfold maxLen at o;have HT:=Lib.hid R;have HU:=Lib.hid n;have HL:=Lib.hid Q;have d:=Lib.hid P;clear R n Q P;go_enter Tryz.func18,Tryz.ntmps18;go_wp2_with fail;go_loopw [5] (fun i wr=>∃ (k:Nat),i=.int .i64 k/\k<=l.length/\Bw w wr) (fun i _=>l.length-(intOf i).toNat)
 case atStart=>exact⟨0,rfl,Nat.zero_le _,Below.refl _ _⟩
 case round =>
  obtain⟨k,rfl,hk,j⟩:=hrel;by_cases T:k<l.length
  ·obtain⟨⟨x,p⟩,Z⟩:∃ x,l[k]? = some x:=⟨_,List.getElem?_eq_getElem T⟩
   obtain⟨⟨y,q⟩,c⟩:∃ x,m[k]? = some x:=⟨_,List.getElem?_eq_getElem (by rw[d.out];exact T)⟩
   obtain rfl:x=y:=by
    have h1:(l.map (·.1))[k]? = some x:=by rw[List.getElem?_map,Z];rfl
    rw[HL.out,List.getElem?_map,c] at h1;exact (Option.some.inj h1).symm
   obtain⟨H,A,rfl,F,C⟩:=HT.out.row.1.2 k (x,p) Z;obtain⟨I,B,rfl,G,D⟩:=HU.out.row.1.2 k (x,q) c;have U:=HT.out.at_ _ (List.mem_of_getElem? Z);have V:=HU.out.at_ _ (List.mem_of_getElem? c);have z:Hid (∀ W,Bw w W->CR 37 #[.agg #[.slice p.la p.ll p.lc,.int .i64 x.sk.kind,.int .i64 x.sk.level,.slice p.ss.ea p.ss.el p.ss.ec,.int .i64 x.sk.hb,.string x.sk.hr,.int .i64 x.sk.cr,.int .i64 x.sk.cc,.slice p.ss.ca p.ss.cl p.ss.cc,.int .i64 x.sk.gf,.slice p.ss.ga p.ss.gl p.ss.gc,.int .u64 x.seen],.agg #[.slice q.la q.ll q.lc,.int .i64 x.sk.kind,.int .i64 x.sk.level,.slice q.ss.ea q.ss.el q.ss.ec,.int .i64 x.sk.hb,.string x.sk.hr,.int .i64 x.sk.cr,.int .i64 x.sk.cc,.slice q.ss.ca q.ss.cl q.ss.cc,.int .i64 x.sk.gf,.slice q.ss.ga q.ss.gl q.ss.gc,.int .u64 x.seen]] W (.bool true)):=fun W hb=>jlL x p q W ((U.below hb).mono hb.size) ((V.below hb).mono hb.size)
   have i0:(0:Int)<=(k:Int):=by omega
   have i1:(k:Int)<(l.length:Int):=by omega
   let Inv0:World->Prop:=fun W=>Bw w W
   have S:∀ W g,Inv0 W->Bw W g->Inv0 g:=fun W g h hb=>Below.trans h (hb.mono (Below.size h))
   have f:Hid (∀ X:WIn Inv0,Calls Tryz.prog 37 #[.agg #[.slice p.la p.ll p.lc,.int .i64 x.sk.kind,.int .i64 x.sk.level,.slice p.ss.ea p.ss.el p.ss.ec,.int .i64 x.sk.hb,.string x.sk.hr,.int .i64 x.sk.cr,.int .i64 x.sk.cc,.slice p.ss.ca p.ss.cl p.ss.cc,.int .i64 x.sk.gf,.slice p.ss.ga p.ss.gl p.ss.gc,.int .u64 x.seen],.agg #[.slice q.la q.ll q.lc,.int .i64 x.sk.kind,.int .i64 x.sk.level,.slice q.ss.ea q.ss.el q.ss.ec,.int .i64 x.sk.hb,.string x.sk.hr,.int .i64 x.sk.cr,.int .i64 x.sk.cc,.slice q.ss.ca q.ss.cl q.ss.cc,.int .i64 x.sk.gf,.slice q.ss.ga q.ss.gl q.ss.gc,.int .u64 x.seen]] X.world fun e w'=>e=.returned (.bool true)/\∃ Y:WIn Inv0,w'=Y.world):=fun X=>jah S (z.out X.world X.ok)
   have E:Hid (∀ X:WIn Inv0,Bw w X.world):=fun X=>X.ok
   have q0:∀ X:WIn Inv0,X.world.cell? ⟨H,A+k*12,none⟩=some (.slice p.la p.ll p.lc):=fun X=>((E.out X).cell (p:=⟨H,A+k*12,none⟩) F).trans (C 0 (by omega))
   have q1:∀ X:WIn Inv0,X.world.cell? ⟨H,A+k*12+1,none⟩=some (.int .i64 x.sk.kind):=fun X=>((E.out X).cell (p:=⟨H,A+k*12+1,none⟩) F).trans (C 1 (by omega))
   have q2:∀ X:WIn Inv0,X.world.cell? ⟨H,A+k*12+2,none⟩=some (.int .i64 x.sk.level):=fun X=>((E.out X).cell (p:=⟨H,A+k*12+2,none⟩) F).trans (C 2 (by omega))
   have q3:∀ X:WIn Inv0,X.world.cell? ⟨H,A+k*12+3,none⟩=some (.slice p.ss.ea p.ss.el p.ss.ec):=fun X=>((E.out X).cell (p:=⟨H,A+k*12+3,none⟩) F).trans (C 3 (by omega))
   have q4:∀ X:WIn Inv0,X.world.cell? ⟨H,A+k*12+4,none⟩=some (.int .i64 x.sk.hb):=fun X=>((E.out X).cell (p:=⟨H,A+k*12+4,none⟩) F).trans (C 4 (by omega))
   have q5:∀ X:WIn Inv0,X.world.cell? ⟨H,A+k*12+5,none⟩=some (.string x.sk.hr):=fun X=>((E.out X).cell (p:=⟨H,A+k*12+5,none⟩) F).trans (C 5 (by omega))
   have q6:∀ X:WIn Inv0,X.world.cell? ⟨H,A+k*12+6,none⟩=some (.int .i64 x.sk.cr):=fun X=>((E.out X).cell (p:=⟨H,A+k*12+6,none⟩) F).trans (C 6 (by omega))
   have q7:∀ X:WIn Inv0,X.world.cell? ⟨H,A+k*12+7,none⟩=some (.int .i64 x.sk.cc):=fun X=>((E.out X).cell (p:=⟨H,A+k*12+7,none⟩) F).trans (C 7 (by omega))
   have q8:∀ X:WIn Inv0,X.world.cell? ⟨H,A+k*12+8,none⟩=some (.slice p.ss.ca p.ss.cl p.ss.cc):=fun X=>((E.out X).cell (p:=⟨H,A+k*12+8,none⟩) F).trans (C 8 (by omega))
   have q9:∀ X:WIn Inv0,X.world.cell? ⟨H,A+k*12+9,none⟩=some (.int .i64 x.sk.gf):=fun X=>((E.out X).cell (p:=⟨H,A+k*12+9,none⟩) F).trans (C 9 (by omega))
   have s:∀ X:WIn Inv0,X.world.cell? ⟨H,A+k*12+10,none⟩=some (.slice p.ss.ga p.ss.gl p.ss.gc):=fun X=>((E.out X).cell (p:=⟨H,A+k*12+10,none⟩) F).trans (C 10 (by omega))
   have t:∀ X:WIn Inv0,X.world.cell? ⟨H,A+k*12+11,none⟩=some (.int .u64 x.seen):=fun X=>((E.out X).cell (p:=⟨H,A+k*12+11,none⟩) F).trans (C 11 (by omega))
   have r0:∀ X:WIn Inv0,X.world.cell? ⟨I,B+k*12,none⟩=some (.slice q.la q.ll q.lc):=fun X=>((E.out X).cell (p:=⟨I,B+k*12,none⟩) G).trans (D 0 (by omega))
   have r1:∀ X:WIn Inv0,X.world.cell? ⟨I,B+k*12+1,none⟩=some (.int .i64 x.sk.kind):=fun X=>((E.out X).cell (p:=⟨I,B+k*12+1,none⟩) G).trans (D 1 (by omega))
   have r2:∀ X:WIn Inv0,X.world.cell? ⟨I,B+k*12+2,none⟩=some (.int .i64 x.sk.level):=fun X=>((E.out X).cell (p:=⟨I,B+k*12+2,none⟩) G).trans (D 2 (by omega))
   have r3:∀ X:WIn Inv0,X.world.cell? ⟨I,B+k*12+3,none⟩=some (.slice q.ss.ea q.ss.el q.ss.ec):=fun X=>((E.out X).cell (p:=⟨I,B+k*12+3,none⟩) G).trans (D 3 (by omega))
   have r4:∀ X:WIn Inv0,X.world.cell? ⟨I,B+k*12+4,none⟩=some (.int .i64 x.sk.hb):=fun X=>((E.out X).cell (p:=⟨I,B+k*12+4,none⟩) G).trans (D 4 (by omega))
   have r5:∀ X:WIn Inv0,X.world.cell? ⟨I,B+k*12+5,none⟩=some (.string x.sk.hr):=fun X=>((E.out X).cell (p:=⟨I,B+k*12+5,none⟩) G).trans (D 5 (by omega))
   have r6:∀ X:WIn Inv0,X.world.cell? ⟨I,B+k*12+6,none⟩=some (.int .i64 x.sk.cr):=fun X=>((E.out X).cell (p:=⟨I,B+k*12+6,none⟩) G).trans (D 6 (by omega))
   have r7:∀ X:WIn Inv0,X.world.cell? ⟨I,B+k*12+7,none⟩=some (.int .i64 x.sk.cc):=fun X=>((E.out X).cell (p:=⟨I,B+k*12+7,none⟩) G).trans (D 7 (by omega))
   have r8:∀ X:WIn Inv0,X.world.cell? ⟨I,B+k*12+8,none⟩=some (.slice q.ss.ca q.ss.cl q.ss.cc):=fun X=>((E.out X).cell (p:=⟨I,B+k*12+8,none⟩) G).trans (D 8 (by omega))
   have r9:∀ X:WIn Inv0,X.world.cell? ⟨I,B+k*12+9,none⟩=some (.int .i64 x.sk.gf):=fun X=>((E.out X).cell (p:=⟨I,B+k*12+9,none⟩) G).trans (D 9 (by omega))
   have u:∀ X:WIn Inv0,X.world.cell? ⟨I,B+k*12+10,none⟩=some (.slice q.ss.ga q.ss.gl q.ss.gc):=fun X=>((E.out X).cell (p:=⟨I,B+k*12+10,none⟩) G).trans (D 10 (by omega))
   have v:∀ X:WIn Inv0,X.world.cell? ⟨I,B+k*12+11,none⟩=some (.int .u64 x.seen):=fun X=>((E.out X).cell (p:=⟨I,B+k*12+11,none⟩) G).trans (D 11 (by omega))
   have O:Hid (Inv0 (World.drew wr)):=j.drew;have r:Nonempty (WIn Inv0):=⟨⟨_,O.out⟩⟩;clear S j C D Z c U V z;clear_value Inv0;go_wp2_with fail;refine jao Inv0 (by kernel_rfl) (by kernel_rfl) O.out ?_
   repeat (first | go_big_quiet_step ((go_at_call 37;with_reducible exact f.out _)) | quiet_step ((go_at_call 37;with_reducible exact f.out _)))
   refine wpQuiet_nil ?_;rintro _ ⟨X,rfl⟩;have J:=E.out X;obtain⟨w2,M⟩:∃ w2,X.world=w2:=⟨_,rfl⟩;rw[M] at J ⊢;clear E f q0 q1 q2 q3 q4 q5 q6 q7 q8 q9 s t r0 r1 r2 r3 r4 r5 r6 r7 r8 r9 u v O r M X;go_wp2_with fail;go_roundw
   case rel=>exact⟨k+1,by go_num,by omega,J⟩
   case measure=>simp[intOf];omega
  ·have i1:¬ (k:Int)<(l.length:Int):=by omega
   go_wp2_with fail;go_ret;exact⟨rfl,j⟩
section
theorem jvp {S:jpJ} {g:Lg} {text:ByteArray} (h:jmI S g=true) (C:jby g<=100) (ht:jhO g<=7) (B:text.size<=200):jih S g 7 text=true:=by
 have A:(jby g != 18446744073709551615)=true:=by rw[bne_iff_ne];omega
 unfold jih;rw[h,decide_eq_true B,decide_eq_true ht,A];rfl
theorem jrU (S:jpJ) (g:Lg) (tm:Int) (text:ByteArray):jby (jbU S g tm text)=jby g+1/\jhO (jbU S g tm text)=tm:=by
 have h:(jbU S g tm text).l.getLast? = some (jly S g tm text):=by
  unfold jbU;split<;>simp
 rw[show jby (jbU S g tm text)=match (jbU S g tm text).l.getLast? with | some x=>x.seq | none=>0 from rfl,show jhO (jbU S g tm text)=match (jbU S g tm text).l.getLast? with | some x=>x.tm | none=>0 from rfl,h];exact⟨rfl,rfl⟩
structure TnSt (bt bu b:Nat) (T:List Ser) (c:Int) (W:World) (p:TnP):Prop where
 in_:TnIn W b p
 off:p.Off (fun k=>k≠bt/\k≠bu)
 tab:p.tab=T
 tm:p.tm<=7
 bud:p.bud=1000000
 life:p.life=5
 log:jmI (jal p.A p.B) p.lg=true
 ln:jby p.lg<=c
 lt:jhO p.lg<=7
def TnS (bt bu b:Nat) (T:List Ser) (c:Int) (W:World):Prop:=∃ p,TnSt bt bu b T c W p
def TOk (T:List Ser):Prop:=(∀ x∈T,x.seen=7)/\jlM T 50
def jxK (T:List Ser):Except Int (List Ser × List Nat)->List Ser
 | .error _=>T
 | .ok r=>r.1
section
variable {bt bu b:Nat} {T:List Ser} {c:Int} {A B:World}
theorem TnS.keep {q:Nat->Prop} (h:TnS bt bu b T c A) (C:Kept q A B) (hb:q b) (D:∀ k,k≠bt/\k≠bu->q k):TnS bt bu b T c B :=
 let ⟨p,h⟩:=h;⟨p,h.in_.keep C hb (h.off.imp D),h.off,h.tab,h.tm,h.bud,h.life,h.log,h.ln,h.lt⟩
theorem TnS.go (h:TnS bt bu b T c A) (hb:Bw A B):TnS bt bu b T c B :=
 let ⟨p,h⟩:=h;⟨p,h.in_.go hb,h.off,h.tab,h.tm,h.bud,h.life,h.log,h.ln,h.lt⟩
theorem jlY (h:TOk T):∀ x∈T,jdq 7 5 x=false:=fun x A=>by
 unfold jdq;rw[h.1 x A];rfl
theorem TnSt.do7 {p:TnP} (h:TnSt bt bu b T c A p) (C:c<=100) {text:ByteArray} (ht:text.size<=200) (B:Int):doN p 7 B text=B:=by
 have D:=h.tm;unfold doN;rw[if_neg (by omega),if_pos (jvp h.log (Int.le_trans h.ln C) h.lt ht)];split
 ·rename_i e;exact e.symm
 ·rfl
theorem TnSt.next {p C:TnP} {W:World} {U:List Ser} {text:ByteArray} (h:TnSt bt bu b T c A p) (N:c<=100) (ht:text.size<=200) (J:TnIn W b C) (L:C.tab=U) (D:C.lg=jbU (jal p.A p.B) p.lg 7 text) (S:C.tm=7) (E:C.cf=p.cf) (M:C.Off (fun k=>k≠bt/\k≠bu)):TnS bt bu b U (c+1) W:=by
 simp only[TnP.cf,Prod.mk.injEq] at E;obtain⟨-,F,G,H,I⟩:=E;obtain⟨Q,R⟩:=jrU (jal p.A p.B) p.lg 7 text;have O:=h.ln;refine⟨C,J,M,L,by omega,F.trans h.bud,G.trans h.life,?_,by rw[D,Q];omega,by rw[D,R];omega⟩;rw[H,I,D];refine ji5 (jvp h.log (Int.le_trans O N) h.lt ht) (fun x P=>?_);have:jby p.lg=x.seq:=by unfold jby;rw[P]
 omega
end
theorem jib (I J b:Nat) (T:List Ser) (c:Int) (s:ByteArray) (kind:Int) (B:List (Nat × Int)) (H:Option Addr) (Y:Nat) (W:World) (h:TnS I J b T c W) (X:c<=100) (D:TOk T) (d:GW W) (l:GT W) (M:4<=b) (i:I<W.heap.size) (j:J<W.heap.size) (o:s.size<4294967281) (f:SlE jil 2 W.heap.size W H B.length B)
  (O:∀ z,H=some z->0<B.length->z.block≠b) (a:jef B) (hn:B.length<=50) (R:Except Int (List Ser × List Nat)) (V:jdj T 7 1000000 s kind B=R) (g:∀ r,R=.ok r->r.2=[]) :
  Calls Tryz.prog 6 #[.pointer (some ⟨b,0,none⟩),.int .u64 7,.string s,.int .i64 kind,.slice H B.length Y] W fun e w'=>∃ (t:Option Addr) (u:Nat),e=.returned (.tuple #[.slice t 0 u,.int .i64 (tkN R)])/\Kept (· ≠ b) W w'/\TnS I J b (jxK T R) (c+1) w':=by
 obtain⟨p,A⟩:=h;have U:=jiD 7 p b s kind B H Y W A.in_ d l M ⟨by decide,by decide⟩ (by rw[A.tab,A.life];exact jlY D) o f O a (by rw[A.tab];exact fun x q=>by have:=D.2 x q;omega) (by omega);rw[A.tab,A.bud,V] at U;refine U.mono ?_;intro e w' C;obtain⟨P,C⟩:=C;rw[A.do7 X (by decide)] at C
 cases R with
 | error m =>
  have n:tkN (.error m)≠0:=jl0 V;rw[if_neg n] at C;obtain⟨G,L⟩:=C;have:=A.ln;exact⟨none,0,G,P,p,L,A.off,A.tab,A.tm,A.bud,A.life,A.log,by omega,A.lt⟩
 | ok r =>
  rw[if_pos (show tkN (.ok r)=0 from rfl)] at C;obtain⟨r',v,w,y,Z,G,-,L,F,Q,S,N,E⟩:=C
  cases Z
  rw[g r rfl] at G;exact⟨w,y,G,P,A.next X (by decide) L F Q S N (E _ A.off fun k P=>⟨by omega,by omega⟩)⟩
def jxY (T:List Ser) (kind:Int) (h:Nat):Int:=if jgP (jbm T noS) kind=0 then jpL kind (jaG T kind (jbb T noS)) h else 0
theorem joa (G H b:Nat) (T:List Ser) (c:Int) (kind:Int) (F:Nat) (W:World) (h:TnS G H b T c W) (U:c<=100) (J:TOk T) (V:GW W) (Z:GT W) (L:4<=b) (X:G<W.heap.size) (Y:H<W.heap.size) (O:F<2^64) :
  Calls Tryz.prog 8 #[.pointer (some ⟨b,0,none⟩),.int .u64 7,.string noS.1,.int .i64 kind,.int .u64 F] W fun e w'=>e=.returned (.tuple #[.int .u64 (jxY T kind F),.int .i64 (jgP (jbm T noS) kind)])/\Kept (· ≠ b) W w'/\TnS G H b T (c+1) w':=by
 obtain⟨p,A⟩:=h;have S:=jhd 7 p b noS kind F W A.in_ V Z L ⟨by decide,by decide⟩ (by rw[A.tab,A.life];exact jlY J) O;rw[A.tab] at S;refine S.mono ?_;intro e w' B;obtain⟨P,B⟩:=B;rw[A.do7 U (by decide)] at B;unfold jxY;split at B
 ·rename_i E
  obtain⟨N,a,I,D,Q,R,M,C⟩:=B;rw[if_pos E,E];exact⟨N,P,A.next U (by decide) I (D.trans A.tab) Q R M (C _ A.off fun k P=>⟨by omega,by omega⟩)⟩
 ·rename_i E
  obtain⟨N,I⟩:=B;have:=A.ln;rw[if_neg E];exact⟨N,P,p,I,A.off,A.tab,A.tm,A.bud,A.life,A.log,by omega,A.lt⟩
theorem jrG {s:ByteArray} {kind:Int} {A B:List (Nat × Int)} (I:jef (A++B)) (D:(A++B).length<=50):∃ (n:Int) (R F G:Except Int (List Ser × List Nat)) (T H:List Ser),jdj [] 7 1000000 s kind (A++B)=R/\jdj [] 7 1000000 s kind A=F/\jdj H 7 1000000 s kind B=G/\jxK [] R=T/\jxK [] F=H/\jxK H G=T/\tkN R=n/\tkN F=n/\tkN G=n/\(∀ r,R=.ok r->r.2=[])/\(∀ r,F=.ok r->r.2=[])/\(∀ r,G=.ok r->r.2=[])/\TOk T/\TOk H:=by
 have N:TOk []:=⟨(fun x h=>by cases h),(fun x h=>by cases h)⟩;have Q:=D;rw[List.length_append] at Q;by_cases hb:jbP s=none\/jcm kind=false
 ·have e:∀ (r:List Ser × List Nat) (m:Int),Except.error m=Except.ok r->r.2=[]:=fun r m h=>by cases h
  exact⟨_,_,_,_,[],[],jkm D hb,jkm (by omega) hb,jkm (by omega) hb,rfl,rfl,rfl,rfl,rfl,rfl,fun r=>e r _,fun r=>e r _,fun r=>e r _,N,N⟩
 ·obtain⟨l,L⟩:∃ l,jbP s=some l:=by
   cases h:jbP s with
   | none=>exact absurd (.inl h) hb
   | some l=>exact⟨l,rfl⟩
  have J:jcm kind=true:=by
   cases h:jcm kind with
   | true=>rfl
   | false=>exact absurd (.inr h) hb
  have E:jef A:=fun x M=>I x (List.mem_append.2 (.inl M))
  have e:∀ (y r:List Ser × List Nat),y.2=[]->Except.ok (ε:=Int) y=Except.ok r->r.2=[]:=fun y r S h=>by cases h;exact S
  have O:∀ C:List (Nat × Int),jef C->C.length<=50->TOk [jfu l kind C]:=fun C P D=>⟨fun x M=>by rw[List.mem_singleton.1 M];rfl,juv J P D⟩
  exact⟨0,_,_,_,[jfu l kind (A++B)],[jfu l kind A],jjf L J I D,jjf L J E (by omega),jss L J I D,rfl,rfl,rfl,rfl,rfl,rfl,fun r=>e _ r rfl,fun r=>e _ r rfl,fun r=>e _ r rfl,O _ I D,O _ E (by omega)⟩
end
section
structure LS (w:World) (bt bu:Nat) (T:List Ser) (c:Int) (U:List Ser) (d:Int) (W:World):Prop where
 bel:Bw w W
 t:bt<W.heap.size
 u:bu<W.heap.size
 T:TnS bt bu bt T c W
 U:TnS bt bu bu U d W
 lo:w.heap.size<=bt
 ne:bt<bu
section
variable {w W W':World} {bt bu:Nat} {T U T':List Ser} {c d c':Int}
theorem LS.go (h:LS w bt bu T c U d W) (hb:Bw W W'):LS w bt bu T c U d W':=⟨h.bel.trans (hb.mono h.bel.size),Nat.lt_of_lt_of_le h.t hb.size,Nat.lt_of_lt_of_le h.u hb.size,h.T.go hb,h.U.go hb,h.lo,h.ne⟩
theorem LS.ft (h:LS w bt bu T c U d W) (A:Kept (· ≠ bt) W W') (D:TnS bt bu bt T' c' W'):LS w bt bu T' c' U d W' :=
 have B:=h.lo;have C:=h.ne;⟨h.bel.trans (A.below (fun k A=>by omega) h.bel.size),Nat.lt_of_lt_of_le h.t A.size,Nat.lt_of_lt_of_le h.u A.size,D,h.U.keep A (by show bu≠bt;omega) (fun k A=>A.1),B,C⟩
theorem LS.fu (h:LS w bt bu T c U d W) (A:Kept (· ≠ bu) W W') (D:TnS bt bu bu T' c' W'):LS w bt bu T c T' c' W' :=
 have B:=h.lo;have C:=h.ne;⟨h.bel.trans (A.below (fun k A=>by omega) h.bel.size),Nat.lt_of_lt_of_le h.t A.size,Nat.lt_of_lt_of_le h.u A.size,h.T.keep A (by show bt≠bu;omega) (fun k A=>A.2),D,B,C⟩
end
theorem job (F G b:Nat) (T:List Ser) (c:Int) (W:World) (h:TnS F G b T c W) :
  Calls Tryz.prog 16 #[.pointer (some ⟨b,0,none⟩)] W fun e w'=>∃ (B:Option Addr) (C:Nat) (m:List (Ser × SerP)),e=.returned (.slice B (List.length m) C)/\Tab w'.heap.size w' B m.length C m/\m.map (·.1)=T/\Bw W w':=by
 obtain⟨p,A⟩:=h;have E:=A.in_.at_.qt;have D:=E.len;unfold TnP.tab at D;rw[List.length_map] at D;refine (jvW b p.m p.ta p.tc W (cCc A.in_.box 0) A.in_.at_.tab (jfA E.right A.in_.at_.fit A.in_.at_.tab) D).mono ?_;rintro e w' ⟨B,C,m,I,H,J,-,-,hb⟩;exact⟨B,C,m,I,H,J.trans A.tab,hb⟩
theorem jxC (C D b:Nat) (A B:Int) (W:World) (h:TnIn W b (tn0 1 1000000 5 A B)):TnS C D b [] 0 W :=
 ⟨_,h,jsy ..,rfl,(by show (0:Int)<=7;decide),rfl,rfl,rfl,Int.le_refl 0,(by show (0:Int)<=7;decide)⟩
theorem jh8 (A B:Int) (s:ByteArray) (kind:Int) (l:List (Nat × Int)) (a:Option Addr) (len cap:Nat) (n h:Int) (w:World) (_hA:U64 A) (_hB:U64 B) (_hk:I64 kind) (hT:SlC jil 2 w.heap.size w a len cap l) (hU:∀ i∈l,Item.ok i) (_hn:I64 n) (hh:U64 h) (hG:GW w) (hg:GT w) :
  CR 4 #[.agg #[.int .u64 A,.int .u64 B],.string s,.int .i64 kind,.slice a len cap,.int .i64 n,.int .u64 h] w (.bool true):=by
 obtain⟨h,rfl⟩:∃ h':Nat,h=(h':Int):=⟨h.toNat,by have:=hh.1;omega⟩;have ar:h<2^64:=by have:=hh.2;omega
 have aN:=hT.1.1;have aV:=hT.2.1;obtain⟨m,hm⟩:∃ m,min len 50=m:=⟨_,rfl⟩;have e1:min (len:Int) 50=(m:Int):=by omega
 obtain⟨q,e2⟩:∃ q:Int,min n (m:Int)=q:=⟨_,rfl⟩;obtain⟨r,e3⟩:∃ r:Nat,max 0 q=(r:Int):=⟨(max 0 q).toNat,by omega⟩;have aa:r<=m:=by omega
 have s1:∀ W,(Instr.slice 58 (.slice a len cap) none (some (.int .i64 (m:Int))) none).run Tryz.prog W=.ok (.slice a m cap) W:=fun W=>jjg a len cap m W (by omega)
 have s2:∀ W,(Instr.slice 58 (.slice a m cap) none (some (.int .i64 (r:Int))) none).run Tryz.prog W=.ok (.slice a r cap) W:=fun W=>jjg a m cap r W (by omega)
 have s3:∀ W,(Instr.slice 58 (.slice a m cap) (some (.int .i64 (r:Int))) none none).run Tryz.prog W=.ok (.slice (jcH a cap r 2) (m-r) (cap-r)) W:=fun W=>joX a m cap r W aa
 have hL:=hT.take m (by omega);have hP:=hL.take r aa;have hQ:=hL.drop r aa;have al:=hL.1.1;have am:=hP.1.1;have an:=hQ.1.1;have Z:jef (l.take m):=fun x hx=>hU x (List.mem_of_mem_take hx)
 generalize hLe:l.take m=L at *;have aU:L.take r++L.drop r=L:=List.take_append_drop r L;generalize L.take r=P at *;generalize L.drop r=Q at *;subst aU;obtain⟨nn,R,R1,R2,T,T1,p1,p2,p3,p4,p5,p6,p7,p8,p9,o1,o2,o3,ao,ae⟩:=jrG (s:=jl8 300 s) (kind:=kind) Z (by omega);obtain⟨W0,a1,aJ,f,a3⟩:=jab w #[.int .u64 A,.int .u64 B] 57;have HS:=Lib.hid (jhZ W0 (hG.below f) (hg.go f));have d:=Lib.hid (And.intro aJ f);have HC:=Lib.hid (fun W=>jk5 s W);have aC:=Lib.hid (fun W=>jl2 1 1000000 5 A B W (by decide) (by decide));have N:=hG.size;have k:(jl8 300 s).size<4294967281:=jmr 300 (by decide) s;have h0:TOk []:=⟨(fun x h=>by cases h),(fun x h=>by cases h)⟩
 have y:∀ {ia:Option Addr} {len cap b:Nat} {aQ:List (Nat × Int)},SlC jil 2 w.heap.size w ia len cap aQ->w.heap.size<=b->∀ z,ia=some z->0<aQ.length->z.block≠b:=fun C hb z hz h0=>by
  have h1:=C.1.1;have:=(C.2.2.2.2 z hz (by have:=C.2.1;omega)).2;omega
 have au:Hid (∀ W F D,LS w F D [] 0 [] 0 W->Calls Tryz.prog 6 #[.pointer (some ⟨F,0,none⟩),.int .u64 7,.string (jl8 300 s),.int .i64 kind,.slice a m cap] W fun e w'=>∃ (O:Option Addr) (S:Nat),e=.returned (.tuple #[.slice O 0 S,.int .i64 nn])/\Hid (LS w F D T 1 [] 0 w')):=fun W F D C=>by
  have I:=jib F D F [] 0 (jl8 300 s) kind (P++Q) a cap W C.T (by decide) h0 (hG.below C.bel) (hg.go C.bel) (Nat.le_trans N C.lo) C.t C.u k (by rw[<- al];exact (hL.below C.bel).1.mono C.bel.size) (y hL C.lo) Z (by omega) R p1 o1;rw[p4,p7,<- al] at I;refine I.mono ?_;rintro e w' ⟨O,S,o,p,G⟩;exact⟨O,S,o,C.ft p G⟩
 have aR:Hid (∀ W F D,LS w F D T 1 [] 0 W->Calls Tryz.prog 6 #[.pointer (some ⟨D,0,none⟩),.int .u64 7,.string (jl8 300 s),.int .i64 kind,.slice a r cap] W fun e w'=>∃ (O:Option Addr) (S:Nat),e=.returned (.tuple #[.slice O 0 S,.int .i64 nn])/\Hid (LS w F D T 1 T1 1 w')):=fun W F D C=>by
  have H:w.heap.size<=D:=by have h1:=C.lo;have h2:=C.ne;omega
  have I:=jib F D D [] 0 (jl8 300 s) kind P a cap W C.U (by decide) h0 (hG.below C.bel) (hg.go C.bel) (Nat.le_trans N H) C.t C.u k (by rw[<- am];exact (hP.below C.bel).1.mono C.bel.size) (y hP H) (fun x hx=>Z x (List.mem_append.2 (.inl hx))) (by omega) R1 p2 o2;rw[p5,p8,<- am] at I;refine I.mono ?_;rintro e w' ⟨O,S,o,p,G⟩;exact⟨O,S,o,C.fu p G⟩
 have aS:Hid (∀ W F D,LS w F D T 1 T1 1 W->Calls Tryz.prog 6 #[.pointer (some ⟨D,0,none⟩),.int .u64 7,.string (jl8 300 s),.int .i64 kind,.slice (jcH a cap r 2) (m-r) (cap-r)] W fun e w'=>∃ (O:Option Addr) (S:Nat),e=.returned (.tuple #[.slice O 0 S,.int .i64 nn])/\Hid (LS w F D T 1 T 2 w')):=fun W F D C=>by
  have H:w.heap.size<=D:=by have h1:=C.lo;have h2:=C.ne;omega
  have I:=jib F D D T1 1 (jl8 300 s) kind Q (jcH a cap r 2) (cap-r) W C.U (by decide) ae (hG.below C.bel) (hg.go C.bel) (Nat.le_trans N H) C.t C.u k (by rw[<- an];exact (hQ.below C.bel).1.mono C.bel.size) (y hQ H) (fun x hx=>Z x (List.mem_append.2 (.inr hx))) (by omega) R2 p3 o3;rw[p6,p9,<- an] at I;refine I.mono ?_;rintro e w' ⟨O,S,o,p,G⟩;exact⟨O,S,o,C.fu p G⟩
 obtain⟨V,hV⟩:∃ V,jxY T kind h=V:=⟨_,rfl⟩;obtain⟨E,hE⟩:∃ E,jgP (jbm T noS) kind=E:=⟨_,rfl⟩
 have aD:Hid (∀ W F D,LS w F D T 1 T 2 W->Calls Tryz.prog 8 #[.pointer (some ⟨F,0,none⟩),.int .u64 7,.string noS.1,.int .i64 kind,.int .u64 h] W fun e w'=>e=.returned (.tuple #[.int .u64 V,.int .i64 E])/\Hid (LS w F D T 2 T 2 w')):=fun W F D C=>by
  have I:=joa F D F T 1 kind h W C.T (by decide) ao (hG.below C.bel) (hg.go C.bel) (Nat.le_trans N C.lo) C.t C.u ar;rw[hV,hE] at I;refine I.mono ?_;rintro e w' ⟨o,p,G⟩;exact⟨o,C.ft p G⟩
 have aE:Hid (∀ W F D,LS w F D T 2 T 2 W->Calls Tryz.prog 8 #[.pointer (some ⟨D,0,none⟩),.int .u64 7,.string noS.1,.int .i64 kind,.int .u64 h] W fun e w'=>e=.returned (.tuple #[.int .u64 V,.int .i64 E])/\Hid (LS w F D T 2 T 3 w')):=fun W F D C=>by
  have H:w.heap.size<=D:=by have h1:=C.lo;have h2:=C.ne;omega
  have I:=joa F D D T 2 kind h W C.U (by decide) ao (hG.below C.bel) (hg.go C.bel) (Nat.le_trans N H) C.t C.u ar;rw[hV,hE] at I;refine I.mono ?_;rintro e w' ⟨o,p,G⟩;exact⟨o,C.fu p G⟩
 clear hT hU hh hG hg aN hm hL hP hQ al am an Z hLe p1 p2 p3 p4 p5 p6 p7 p8 p9 o1 o2 o3 ao ae k h0 y hV hE aa aV ar N aJ f;go_enter Tryz.func4,Tryz.ntmps4;go_wp2_with fail;refine HS.out.mono ?_;rintro e w1 ⟨rfl,aq⟩;have ah:Hid (Bw w w1):=d.out.2.trans (aq.mono d.out.2.size);have aK:=known aq (Nat.le_refl _) d.out.1;obtain⟨W1,a2,J,ak,aW⟩:=jab w1 #[.int .u64 1,.int .i64 1000000,.int .u64 5] 60;have M:=known ak (Nat.le_refl _) aK;obtain⟨k0,k1⟩:=cl2 M;obtain⟨c0,c1,c2⟩:=cl3 J;have ai:Hid (Bw w W1):=ah.out.trans (ak.mono ah.out.size);have aj:=Lib.hid (And.intro M J);clear aq HS aK ak M J ah d;go_wp2_with fail;refine (aC.out _).mono ?_;rintro e w2 ⟨F,rfl,aM,aI,g⟩;have aH:=Lib.hid (And.intro aI (And.intro g aM));have M:=known g (Nat.le_refl _) aj.out.1;have J:=known g (Nat.le_refl _) aj.out.2;obtain⟨p0,p1⟩:=cl2 M;obtain⟨q0,q1,q2⟩:=cl3 J;clear aI g aM M J aj k0 k1 c0 c1 c2;go_wp2_with fail;refine (aC.out _).mono ?_;rintro e w3 ⟨D,rfl,H,ap,j⟩
 have ax:Hid (LS w F D [] 0 [] 0 w3):=by
  obtain⟨h1,h2,h3⟩:=aH.out;have h4:=h1.lt;have h5:=ap.lt;have h6:=ai.out.size;exact⟨ai.out.trans ((h2.trans (j.mono h2.size)).mono h6),Nat.lt_of_lt_of_le h4 j.size,h5,jxC _ _ _ _ _ _ (h1.go j),jxC _ _ _ _ _ _ ap,by omega,by omega⟩
 clear ap j H aH ai p0 p1 q0 q1 q2 aW;go_wp2_with fail;refine (HC.out _).mono ?_;rintro e w4 ⟨rfl,aL⟩;have ay:=Lib.hid (ax.out.go aL);clear aL ax;go_wp2_with fail;refine (au.out w4 F D ay.out).mono ?_;rintro e w5 ⟨O,S,rfl,az⟩;clear ay au;go_wp2_with fail
 -- REGION
 refine wp_region_any (by kernel_rfl) ?_;change wpAny _ _ _ _ _ _ _ (World.drew _);refine tk 0 (v:=?_) rfl ?_ ?_;rotate_left
 ·intro w;go_simp;with_reducible rfl
 refine tk 1 (v:=?_) rfl ?_ ?_;rotate_left
 ·intro w;go_simp;with_reducible rfl
 refine tk 3 (v:=?_) rfl ?_ ?_;rotate_left
 ·intro w;go_simp;with_reducible rfl
 refine tk 4 (v:=?_) rfl ?_ ?_;rotate_left
 ·intro w;go_simp;with_reducible rfl
 refine tk 5 (v:=?_) rfl ?_ ?_;rotate_left
 ·intro w;go_simp;with_reducible rfl
 refine tk 6 (v:=?_) rfl ?_ ?_;rotate_left
 ·intro w;go_simp;with_reducible rfl
 refine wpAny_ready (rs:=[2]) (by kernel_rfl) (by simp) ?_;refine AllReady.cons rfl (fun K hK=>?_) ?_
 ·go_simp
  refine (HC.out _).mono ?_;rintro e w6 ⟨rfl,hb⟩;have ac:=Lib.hid ((az.out.go (Below.refl _ _).drew).go hb);clear hb;refine hK _ _ ?_;clear hK K;refine wpAny_ready (rs:=[7]) (by kernel_rfl) (by simp) ?_;refine AllReady.cons rfl (fun K hK=>?_) ?_
  ·go_simp
   refine (aR.out w6 F D ac.out).mono ?_;rintro e w7 ⟨ma,mc,rfl,aA⟩;clear az ac;refine hK _ _ ?_;clear hK K;refine tk 8 (v:=?_) rfl ?_ ?_;rotate_left
   ·intro w;go_simp;with_reducible rfl
   refine tk 9 (v:=?_) rfl ?_ ?_;rotate_left
   ·intro w;go_simp;with_reducible rfl
   refine tk 10 (v:=?_) rfl ?_ ?_;rotate_left
   ·intro w;go_simp;with_reducible rfl
   refine wpAny_ready (rs:=[11]) (by kernel_rfl) (by simp) ?_;refine AllReady.cons rfl (fun K hK=>?_) ?_
   ·go_simp
    refine hK _ _ ?_;clear hK K;refine wpAny_ready (rs:=[12]) (by kernel_rfl) (by simp) ?_;refine AllReady.cons rfl (fun K hK=>?_) ?_
    ·go_simp
     refine hK _ _ ?_;clear hK K;refine wpAny_done (by kernel_rfl) ?_ _;go_wp2_with fail;refine wp_region_any (by kernel_rfl) ?_;change wpAny _ _ _ _ _ _ _ (World.drew _)
     ·
      refine ta 0 ?_;refine ta 1 ?_;refine ta 3 ?_;refine ta 4 ?_;refine ta 5 ?_;refine ta 6 ?_;refine rd [2] (.cons rfl (fun K hK=>?_) .nil)
      all_goals go_simp
      all_goals
       refine (HC.out _).mono ?_;rintro e w8 ⟨rfl,hb⟩;have ad:=Lib.hid ((aA.out.go (Below.refl _ _).drew).go hb);clear hb;refine hK _ _ ?_;clear hK K
      all_goals (refine rd [7] (.cons rfl (fun K hK=>?_) .nil))
      all_goals go_simp
      all_goals
       refine (aS.out w8 F D ad.out).mono ?_;rintro e w9 ⟨ka,kc,rfl,aB⟩;clear aA ad;refine hK _ _ ?_;clear hK K
      all_goals (refine ta 8 ?_;refine ta 9 ?_;refine ta 10 ?_;refine rd [11] (.cons rfl (fun K hK=>?_) .nil))
      all_goals go_simp
      all_goals (refine hK _ _ ?_;clear hK K)
      all_goals (refine rd [12] (.cons rfl (fun K hK=>?_) .nil))
      all_goals go_simp
      all_goals (refine hK _ _ ?_;clear hK K)
      all_goals (refine wpAny_done (by kernel_rfl) ?_ _)
      all_goals
       go_wp2_with fail;refine (aD.out w9 F D aB.out).mono ?_;rintro e aX ⟨rfl,ab⟩;clear aB aD;go_wp2_with fail;refine (aE.out aX F D ab.out).mono ?_;rintro e aY ⟨rfl,X⟩;clear ab aE;have aF:=Lib.hid (job F D F T 2 aY X.out.T);go_wp2_with fail;refine aF.out.mono ?_;rintro e aZ ⟨xa,xc,xm,rfl,hx,aO,af⟩;have Y:=Lib.hid (X.out.go af);have HX:=Lib.hid (And.intro hx aO);clear hx aO af X aF;have aG:=Lib.hid (job F D D T 3 aZ Y.out.U);go_wp2_with fail;refine aG.out.mono ?_;rintro e a0 ⟨ya,yc,ym,rfl,hy,aP,c⟩;have av:=Lib.hid (Y.out.go c);have aT:=Lib.hid (jkb xm ym xa ya xm.length ym.length xc yc a0 (HX.out.1.go c) hy (HX.out.2.trans aP.symm));clear hy aP c Y aG HX;go_wp2_with fail;refine aT.out.mono ?_;rintro e a4 ⟨rfl,ag⟩;have aw:=Lib.hid (av.out.go ag);clear ag;go_wp2_with fail;go_ret;exact⟨rfl,aw.out.bel⟩
    exact AllReady.nil
   exact AllReady.nil
  exact AllReady.nil
 exact AllReady.nil
 -- END
end
end Go.Proofs.YtnegciklhanmbaaGreatDoor
