/- tenant.do with one step. tenant.Ingest. -/
import Derived.Defers
import Derived.Test.YtnegciklhanmbaaGreatDoorZUD
set_option maxHeartbeats 4000000
set_option maxRecDepth 100000
namespace Go.Proofs.YtnegciklhanmbaaGreatDoor
open Go Go.RowKit Go.Shelf
section
theorem ju2 (B F G b:Nat) (e:Int) (T:TnP) (u:FrameMode) (w:World) (g:(e != 0)=true)
  (C:w.heap[B]? = some (.cells #[.int .i64 e] 26 (0,0))) (D:w.heap[F]? = some (.cells #[.slice T.ta T.m.length T.tc,.int .u64 T.nx,.slice T.ga T.gn T.gc,.int .u64 T.lg.before,.slice T.la T.lg.l.length T.lc,.int .u64 T.tm] 79 (0,0))) (E:w.heap[G]? = some (.cells #[.pointer (some ⟨b,0,none⟩)] 24 (0,0)))
  (p:TnP) (A:w.heap[b]? = some (.cells p.vals 81 (0,0))) :
  CallsD Tryz.prog 38 #[.pointer (some ⟨B,0,none⟩),.pointer (some ⟨F,0,none⟩),.pointer (some ⟨G,0,none⟩)] u w fun r M w'=>M=u/\r=.returned (.tuple #[])/\w'=(((((w.setCell ⟨b,0,none⟩ (.slice T.ta T.m.length T.tc)).setCell ⟨b,1,none⟩ (.int .u64 T.nx)).setCell ⟨b,2,none⟩ (.slice T.ga T.gn T.gc)).setCell ⟨b,3,none⟩ (.int .u64 T.lg.before)).setCell ⟨b,4,none⟩ (.slice T.la T.lg.l.length T.lc)).setCell ⟨b,5,none⟩ (.int .u64 T.tm):=by
 have I:=cCc C 0;obtain⟨h,i,j,k,n,o⟩:=cl6 D;have L:=cCc E 0;obtain⟨N,c1,c2,c3,c4,c5,O,P,Q,R,H⟩:=jxT A;obtain⟨S,U,V,X,Y,Z,a,c,d,f,J⟩:=jyc A;simp at I L;clear C D E A;go_enter_d Tryz.func38,Tryz.ntmps38;go_wp2_with fail;go_end0;exact⟨rfl,rfl⟩
theorem jwU (A D E:Nat) (u:FrameMode) (w:World) (B:w.heap[A]? = some (.cells #[.int .i64 0] 26 (0,0))) :
  CallsD Tryz.prog 38 #[.pointer (some ⟨A,0,none⟩),.pointer (some ⟨D,0,none⟩),.pointer (some ⟨E,0,none⟩)] u w fun r F w'=>F=u/\r=.returned (.tuple #[])/\w'=w:=by
 have C:=cCc B 0;simp at C;clear B;go_enter_d Tryz.func38,Tryz.ntmps38;go_wp2_with fail;go_end0;exact⟨rfl,rfl⟩
def TnP.cf (p:TnP):Int × Int × Int × Int × Int:=(p.id,p.bud,p.life,p.A,p.B)
structure DoIn (p:TnP) (b n:Nat) (e:Int) (W:World):Prop where
 tb:W.heap[n]? = some (.cells #[.pointer (some ⟨b,0,none⟩)] 24 (0,0))
 eb:W.heap[n+1]? = some (.cells #[.int .i64 e] 26 (0,0))
 ob:W.heap[n+2]? = some (.cells #[.slice p.ta p.m.length p.tc,.int .u64 p.nx,.slice p.ga p.gn p.gc,.int .u64 p.lg.before,.slice p.la p.lg.l.length p.lc,.int .u64 p.tm] 79 (0,0))
section
variable {p:TnP} {b n:Nat} {e:Int} {W W':World} {q:Nat->Prop}
theorem DoIn.keep (h:DoIn p b n e W) (A:Kept q W W') (B:∀ k,n<=k->q k):DoIn p b n e W':=⟨A.known (B _ (Nat.le_refl _)) h.tb,A.known (B _ (by omega)) h.eb,A.known (B _ (by omega)) h.ob⟩
theorem DoIn.set (h:DoIn p b n e W) (x:Int):∃ V,W.setCell ⟨n+1,0,none⟩ (.int .i64 x)=V/\DoIn p b n x V/\(∀ q w,Kept q w W->w.heap.size<=n->Kept q w V)/\Kept (· ≠ n+1) W V :=
 ⟨_,rfl,⟨(jaa (p:=⟨n+1,0,none⟩) (by show n+1≠n;omega) _).trans h.tb,hSk h.eb _,(jaa (p:=⟨n+1,0,none⟩) (by show n+1≠n+2;omega) _).trans h.ob⟩,fun q w A B=>A.set (fun h=>by omega) _ _,Kept.refl.set (fun _ h=>h rfl) _ _⟩
end
theorem jq9 {p p0:TnP} {b n:Nat} {W:World} (S:Int) (T:Option Addr) (X U:Nat) (L:Int) (J:W.heap[b]? = some (.cells p.vals 81 (0,0))) (a:DoIn p0 b n 0 W) (c:b<n) :
  ∃ V D C,(W.setCell ⟨b,3,none⟩ (.int .u64 S)).setCell ⟨b,4,none⟩ (.slice T X U)=V/\V.setCell ⟨n+1,0,none⟩ (.int .i64 L)=D/\D.setCell ⟨n+1,0,none⟩ (.int .i64 L)=C/\Hid (C.heap[b]? = some (.cells ((p.vals.setIfInBounds 3 (.int .u64 S)).setIfInBounds 4 (.slice T X U)) 81 (0,0))/\DoIn p0 b n L C/\Kept (fun k=>k≠b/\k≠n+1) W C) /\
   (W.frozen? ⟨b,3,none⟩=false/\W.frozen? ⟨b,4,none⟩=false/\W.cell? ⟨b,3,none⟩=some (.int .u64 p.lg.before)/\W.cell? ⟨b,4,none⟩=some (.slice p.la p.lg.l.length p.lc)) /\
   (V.cell? ⟨n+1,0,none⟩=some (.int .i64 0)/\V.frozen? ⟨n+1,0,none⟩=false/\D.cell? ⟨n+1,0,none⟩=some (.int .i64 L)/\D.frozen? ⟨n+1,0,none⟩=false) /\
   Hid ((W.cell? ⟨n,0,none⟩=some (.pointer (some ⟨b,0,none⟩))/\W.cell? ⟨b,5,none⟩=some (.int .u64 p.tm)/\W.cell? ⟨b,9,none⟩=some (.int .u64 p.A)/\W.cell? ⟨b,10,none⟩=some (.int .u64 p.B)) /\
    (V.cell? ⟨n,0,none⟩=some (.pointer (some ⟨b,0,none⟩))/\V.cell? ⟨b,5,none⟩=some (.int .u64 p.tm)/\V.cell? ⟨b,9,none⟩=some (.int .u64 p.A)/\V.cell? ⟨b,10,none⟩=some (.int .u64 p.B)) /\
    (D.cell? ⟨n,0,none⟩=some (.pointer (some ⟨b,0,none⟩))/\D.cell? ⟨b,5,none⟩=some (.int .u64 p.tm)/\D.cell? ⟨b,9,none⟩=some (.int .u64 p.A)/\D.cell? ⟨b,10,none⟩=some (.int .u64 p.B))):=by
 obtain⟨V,Y⟩:∃ V,(W.setCell ⟨b,3,none⟩ (.int .u64 S)).setCell ⟨b,4,none⟩ (.slice T X U)=V:=⟨_,rfl⟩;have H:V.heap[b]? = some (.cells ((p.vals.setIfInBounds 3 (.int .u64 S)).setIfInBounds 4 (.slice T X U)) 81 (0,0)):=by rw[<- Y];exact hSk (hSk J _) _
 have P:Kept (· ≠ b) W V:=by rw[<- Y];exact (Kept.refl.set (fun _ h=>h rfl) _ _).set (fun _ h=>h rfl) _ _
 have F:DoIn p0 b n 0 V:=a.keep P (fun k M=>by show k≠b;omega);obtain⟨D,Z,E,-,O⟩:=F.set L;obtain⟨C,Q,N,-,I⟩:=E.set L;have G:=O.known (show b≠n+1 by omega) H;have R:=I.known (show b≠n+1 by omega) G;refine⟨V,D,C,Y,Z,Q,⟨R,N,((P.mono fun k M=>M.1).trans (O.mono fun k M=>M.2)).trans (I.mono fun k M=>M.2)⟩,⟨cFz J 3,cFz J 4,cCc J 3,cCc J 4⟩,⟨cCc F.eb 0,cFz F.eb 0,cCc E.eb 0,cFz E.eb 0⟩,⟨cCc a.tb 0,cCc J 5,cCc J 9,cCc J 10⟩,⟨cCc F.tb 0,cCc H 5,cCc H 9,cCc H 10⟩,⟨cCc E.tb 0,cCc G 5,cCc G 9,cCc G 10⟩⟩
theorem jjz {p c:TnP} {b n:Nat} {x:Int} {V:World} {tm:Array Value} {Q:Ending->World->Prop} (U:(x != 0)=true) (D:DoIn p b n x V) (S:b<n) (H:c.cf=p.cf) (G:V.heap[b]? = some (.cells c.vals 81 (0,0)))
  (X:tm[8]?.getD undef=.pointer (some ⟨n+1,0,none⟩)) (R:∀ W,Kept (· ≠ b) V W->W.heap[b]? = some (.cells p.vals 81 (0,0))->Q (.returned (.int .i64 x)) W) :
  bodyPostD Tryz.prog Tryz.f19 Q Exit.ret { tmps:=tm,defers:=[{ target:=Target.fn (Fn.func 38) #[.pointer (some ⟨n+1,0,none⟩),.pointer (some ⟨n+2,0,none⟩),.pointer (some ⟨n,0,none⟩)],args:=#[] }] } V:=by
 have F:=ju2 (n+1) (n+2) n b x p .returning V U D.eb D.ob D.tb c G;obtain⟨C,A⟩:∃ C,(((((V.setCell ⟨b,0,none⟩ (.slice p.ta p.m.length p.tc)).setCell ⟨b,1,none⟩ (.int .u64 p.nx)).setCell ⟨b,2,none⟩ (.slice p.ga p.gn p.gc)).setCell ⟨b,3,none⟩ (.int .u64 p.lg.before)).setCell ⟨b,4,none⟩ (.slice p.la p.lg.l.length p.lc)).setCell ⟨b,5,none⟩ (.int .u64 p.tm)=C:=⟨_,rfl⟩
 have B:Kept (· ≠ b) V C:=by
  rw[<- A];exact (((((Kept.refl.set (fun _ h=>h rfl) _ _).set (fun _ h=>h rfl) _ _).set (fun _ h=>h rfl) _ _).set (fun _ h=>h rfl) _ _).set (fun _ h=>h rfl) _ _).set (fun _ h=>h rfl) _ _
 have E:C.heap[b]? = some (.cells p.vals 81 (0,0)):=by
  rw[<- A];have P:=hSk (hSk (hSk (hSk (hSk (hSk (i:=0) G (.slice p.ta p.m.length p.tc)) (i:=1) (.int .u64 p.nx)) (i:=2) (.slice p.ga p.gn p.gc)) (i:=3) (.int .u64 p.lg.before)) (i:=4) (.slice p.la p.lg.l.length p.lc)) (i:=5) (.int .u64 p.tm);rw[P];simp only[TnP.cf,Prod.mk.injEq] at H;obtain⟨J,L,M,N,O⟩:=H;simp only[TnP.vals,J,L,M,N,O];rfl
 have I:=cCc (B.known (show n+1≠b by omega) D.eb) 0;simp at I;rw[A] at F;refine leaves_cons (f:=38) (args:=#[.pointer (some ⟨n+1,0,none⟩),.pointer (some ⟨n+2,0,none⟩),.pointer (some ⟨n,0,none⟩)]) (by simp) (by simp[go_sem]) ?_;refine F.mono ?_;rintro e Z Y ⟨rfl,rfl,rfl⟩;have T:=R _ B E;simp[Leaves,settle,results,Tryz.f19,go_sem,X,I];exact T
theorem jwi {p:TnP} {b n:Nat} {V:World} {tm:Array Value} {Q:Ending->World->Prop} (A:DoIn p b n 0 V)
  (D:tm[8]?.getD undef=.pointer (some ⟨n+1,0,none⟩)) (C:Q (.returned (.int .i64 0)) V) :
  bodyPostD Tryz.prog Tryz.f19 Q Exit.ret { tmps:=tm,defers:=[{ target:=Target.fn (Fn.func 38) #[.pointer (some ⟨n+1,0,none⟩),.pointer (some ⟨n+2,0,none⟩),.pointer (some ⟨n,0,none⟩)],args:=#[] }] } V:=by
 have B:=cCc A.eb 0;simp at B;refine leaves_cons (f:=38) (args:=#[.pointer (some ⟨n+1,0,none⟩),.pointer (some ⟨n+2,0,none⟩),.pointer (some ⟨n,0,none⟩)]) (by simp) (by simp[go_sem]) ?_;refine (jwU (n+1) (n+2) n .returning V A.eb).mono ?_;rintro e F E ⟨rfl,rfl,rfl⟩;simp[Leaves,settle,results,Tryz.f19,go_sem,D,B];exact C
def Came (now:Int) (p:TnP) (b:Nat) (w:World) (p':TnP) (W:World):Prop :=
 ∃ m ta tc,p' = { p with tm:=now,m:=m,ta:=ta,tc:=tc }/\TnIn W b p'/\m.map (·.1)=p.tab/\(∀ z,ta=some z->w.heap.size+3<=z.block)/\(∀ e∈m,e.2.Off (w.heap.size+3 <= ·))/\Kept (· ≠ b) w W/\w.heap.size+3<=W.heap.size
theorem Came.kept {A:Int} {p C:TnP} {b:Nat} {w W:World} (h:Came A p b w C W):Kept (· ≠ b) w W:=by
 obtain⟨m,ta,tc,-,-,-,-,-,B,-⟩:=h;exact B
theorem Came.size {A:Int} {p C:TnP} {b:Nat} {w W:World} (h:Came A p b w C W):w.heap.size+3<=W.heap.size:=by
 obtain⟨m,ta,tc,-,-,-,-,-,-,B⟩:=h;exact B
theorem Came.says {A:Int} {p B:TnP} {b:Nat} {w W:World} (h:Came A p b w B W):B.lg=p.lg/\B.tm=A/\B.cf=p.cf/\TnIn W b B:=by
 obtain⟨m,ta,tc,rfl,C,-⟩:=h;exact⟨rfl,rfl,rfl,C⟩
theorem Came.off {D:Int} {p E:TnP} {b:Nat} {w W:World} (h:Came D p b w E W) (H:p.At w):E.Off (· ≠ w.heap.size+1):=by
 obtain⟨m,ta,tc,rfl,-,-,B,A,-⟩:=h;refine⟨fun z C _=>?_,fun e G=>(A e G).imp fun k I=>by omega,fun z C F=>?_⟩
 ·have:=B z C
  show z.block≠w.heap.size+1;omega
 ·have:=(H.log.2.2.2.2 z C F).2
  show z.block≠w.heap.size+1;omega
def StepPost (p:TnP) (b:Nat) (q:Nat->Prop) (sn:Int) (RR:TnP->World->Prop) (W:World) (e:Ending) (W':World):Prop :=
 Kept q W W'/\e=.returned (.int .i64 sn)/\(if sn=0 then ∃ p'',TnIn W' b p''/\p''.lg=p.lg/\p''.tm=p.tm/\p''.cf=p.cf/\(∀ r:Nat->Prop,p.Off r->(∀ k,W.heap.size<=k->r k)->p''.Off r)/\RR p'' W' else ∃ c:TnP,c.cf=p.cf/\W'.heap[b]? = some (.cells c.vals 81 (0,0)))
def doN (p:TnP) (now sn:Int) (text:ByteArray):Int:=if now<p.tm then 140 else if sn=0 then (if jih (jal p.A p.B) p.lg now text then 0 else 160) else sn
def jei (now:Int) (text:ByteArray) (p:TnP) (b:Nat) (q:Nat->Prop) (sn:Int) (RR:TnP->World->Prop) (w:World) (e:Ending) (w':World):Prop :=
 Kept q w w'/\e=.returned (.int .i64 (doN p now sn text))/\(if doN p now sn text=0 then ∃ p'' la lc W,RR p'' W/\Kept (fun k=>k≠b/\k≠w.heap.size+1) W w'/\TnIn w' b { p'' with lg:=jbU (jal p.A p.B) p.lg now text,la:=la,lc:=lc }/\p''.cf=p.cf/\∀ z,la=some z->w.heap.size<=z.block else TnIn w' b p)
theorem jwI {A B tm:Int} {g:Lg} {text:ByteArray} (hb:U64 g.before) (C:∀ x∈g.l,jmc x) (D:U64 tm) (ht:text.size<4294967) (F:jih (jal A B) g tm text=true):U64 (jbU (jal A B) g tm text).before/\∀ x∈(jbU (jal A B) g tm text).l,jmc x:=by
 have G:jmc (jly (jal A B) g tm text):=by
  have I:0<=jby g/\jby g<=18446744073709551615:=by
   unfold jby
   cases e:g.l.getLast? with
   | none=>exact⟨by decide,by decide⟩
   | some x=>exact (C x (List.mem_of_getLast? e)).1
  have J:jby g≠18446744073709551615:=by
   simp only[jih,Bool.and_eq_true,bne_iff_ne] at F;exact F.1.2
  exact⟨⟨by show 0<=jby g+1;omega,by show jby g+1<=_;omega⟩,D,ht,juQ _ _ _⟩
 have H:U64 ((g.l.head?.map (·.sum)).getD 0):=by
  cases e:g.l.head? with
  | none=>exact⟨by decide,by decide⟩
  | some x=>exact (C x (List.mem_of_head? e)).2.2.2
 unfold jbU;split
 ·exact⟨H,fun x E=>(List.mem_append.1 E).elim (fun h=>C x (List.mem_of_mem_tail h)) (fun h=>by rw[List.mem_singleton.1 h];exact G)⟩
 ·exact⟨hb,fun x E=>(List.mem_append.1 E).elim (fun h=>C x h) (fun h=>by rw[List.mem_singleton.1 h];exact G)⟩
def jvN (now:Int) (p:TnP) (b:Nat) (q:Nat->Prop) (RR:TnP->World->Prop) (w:World) (p'':TnP) (W wr:World):Prop :=
 RR p'' W/\Kept (fun k=>k≠b/\k≠w.heap.size+1) W wr/\TnIn wr b p''/\p''.lg=p.lg/\p''.tm=now/\p''.cf=p.cf/\p''.Off (· ≠ w.heap.size+1)/\DoIn p b w.heap.size 0 wr/\Kept q w wr
theorem Kept.tail {q:Nat->Prop} {w W V:World} {b n:Nat} (h:Kept q w W) (A:Kept (fun k=>k≠b/\k≠n+1) W V) (D:∀ k,q k->k≠b) (E:w.heap.size<=n):Kept q w V :=
 ⟨A.os.trans h.os,A.tape.trans h.tape,A.output.trans h.output,Nat.le_trans h.size A.size,fun k B C=>(A.block k (Nat.lt_of_lt_of_le B h.size) ⟨D k C,by omega⟩).trans (h.block k B C)⟩
theorem jxb {I N:Int} {text:ByteArray} {p C:TnP} {b:Nat} {q:Nat->Prop} {RR:TnP->World->Prop} {w W wr wd w9 U:World} {Q:Ending->World->Prop} {tm:Array Value} {bf en:Int} {o:Option Addr} {nn nc:Nat} (aa:b<w.heap.size)
  (hP:∀ e w',Q e w'=(Kept q w w'/\e=.returned (.int .i64 N)/\(if N=0 then ∃ C la lc W,RR C W/\Kept (fun k=>k≠b/\k≠w.heap.size+1) W w'/\TnIn w' b { C with lg:=jbU (jal p.A p.B) p.lg I text,la:=la,lc:=lc }/\C.cf=p.cf/\∀ z,la=some z->w.heap.size<=z.block else TnIn w' b p)))
  (J:N=if jih (jal p.A p.B) p.lg I text then 0 else 160) (hT:TnIn w b p) (i:∀ k,q k->k≠b) (ab:p.Off q) (ht:text.size<4294967) (hR:jvN I p b q RR w C W wr) (S:Bw wr wd)
  (hA:jeg (jal C.A C.B) C.lg C.tm text wd (.returned (.tuple #[.agg #[.int .u64 bf,.slice o nn nc],.int .i64 en])) w9)
  (hD:U.heap[b]? = some (.cells ((C.vals.setIfInBounds 3 (.int .u64 bf)).setIfInBounds 4 (.slice o nn nc)) 81 (0,0))/\DoIn p b w.heap.size en U/\Kept (fun k=>k≠b/\k≠w.heap.size+1) w9 U)
  (t8:tm[8]?.getD undef=.pointer (some ⟨w.heap.size+1,0,none⟩)) :
  bodyPostD Tryz.prog Tryz.f19 Q Exit.ret { tmps:=tm,defers:=[{ target:=Target.fn (Fn.func 38) #[.pointer (some ⟨w.heap.size+1,0,none⟩),.pointer (some ⟨w.heap.size+2,0,none⟩),.pointer (some ⟨w.heap.size,0,none⟩)],args:=#[] }] } U:=by
 obtain⟨x,s,H,P,j,O,R,r,u⟩:=hR;obtain⟨hX,X,G⟩:=hD;have Z:=O;simp only[TnP.cf,Prod.mk.injEq] at Z;obtain⟨-,-,-,eA,eB⟩:=Z;obtain⟨y,E⟩:=hA;rw[eA,eB,P,j] at E;have M:Bw wr w9:=S.trans (y.mono S.size);have Y:Kept q w U:=(u.trans (.of M)).tail G i (Nat.le_refl _);rcases E with⟨n,L⟩ | ⟨n,a,c,L,hE,f⟩
 ·rw[n] at J
  have J:N=160:=J;simp at L;obtain⟨⟨rfl,rfl,rfl,rfl⟩,rfl⟩:=L;refine jjz (c:={ C with lg:=⟨0,[]⟩,la:=none,lc:=0 }) (by decide) X aa O hX t8 (fun W' hk hx=>?_);rw[hP,J];have d:Kept q w W':=Y.trans (hk.mono i);exact⟨d,rfl,⟨hx,hT.at_.keep d ab,hT.off⟩⟩
 ·rw[n] at J
  have J:N=0:=J;simp at L;obtain⟨⟨rfl,rfl,rfl,rfl⟩,rfl⟩:=L;have D:=H.go M;obtain⟨hU,v⟩:=jwI (text:=text) (A:=p.A) (B:=p.B) (tm:=I) (g:=p.lg) (by rw[<- P];exact H.at_.bef) (by rw[<- P];exact H.at_.ok) (by rw[<- j];exact H.at_.tm) ht n;have ac:w.heap.size+1<wd.heap.size:=Nat.lt_of_lt_of_le (Array.getElem?_eq_some_iff.1 r.eb).1 S.size;have h:∀ z,o=some z->z.block≠b/\z.block≠w.heap.size+1:=fun z T=>by have:=f z T;omega
  refine jwi X t8 ?_;rw[hP,J];have F:=D.at_.keep G ⟨fun z F V=>⟨D.off.t z F V,R.t z F V⟩,fun e L=>(D.off.m e L).and (R.m e L),fun z F V=>⟨D.off.l z F V,R.l z F V⟩⟩;exact⟨Y,rfl,C,o,nc,W,x,(s.trans (.of M)).trans G,⟨hX,⟨F.tab,F.qt,hE.keep G (fun z T _=>h z T),v,hU,F.tm,F.bud⟩,⟨D.off.t,D.off.m,fun z T _=>(h z T).1⟩⟩,O,fun z T=>by have:=f z T;omega⟩
theorem jvd (D:Int) (text:ByteArray) (p:TnP) (b:Nat) (q:Nat->Prop) (J:Int) (RR:TnP->World->Prop) (w:World) (g sb off sc:Nat) (f:Array Value) (h:TnIn w b p) (hG:GW w) (bd:4<=b) (hn:U64 D) (hs:∀ x∈p.tab,jdq D p.life x=false) (ht:text.size<4294967)
  (aN:∀ k,q k->k≠b) (aO:∀ k,w.heap.size<=k->q k) (aP:p.Off q) (hc:w.cell? ⟨sb,off,none⟩=some (.func (.func g) #[] f)) (bj:sb≠b)
  (eg:∀ args w,(callFunc g args).run Tryz.prog w=.ok (.enter g args) w)
  (s:∀ p' W,Came D p b w p' W->Calls Tryz.prog g f W (StepPost p' b q J RR W)) :
  Calls Tryz.prog 19 #[.pointer (some ⟨b,0,none⟩),.int .u64 D,.string text,.slice (some ⟨sb,off,none⟩) 1 sc] w (jei D text p b q J RR w):=by
 have bt:∀ (fn:Fn) (first cap:Array Value) (w:World),(Instr.makeFunc fn first cap).run Tryz.prog w=.ok (.func fn first cap) w:=fun _ _ _ _=>rfl
 obtain⟨W0,bq,aq,aE,y,bh⟩:=jas w #[.pointer (some ⟨b,0,none⟩)] 24 #[.int .i64 0] 26;obtain⟨W1,br,aF,aa,bi⟩:=jab W0 #[.slice p.ta p.m.length p.tc,.int .u64 p.nx,.slice p.ga p.gn p.gc,.int .u64 p.lg.before,.slice p.la p.lg.l.length p.lc,.int .u64 p.tm] 79;have n:=h.lt;have R:Bw w W1:=y.trans (aa.mono y.size);have ao:DoIn p b w.heap.size 0 W1:=⟨known aa (Nat.le_refl _) aq,known aa (Nat.le_refl _) aE,by rw[<- bh];exact aF⟩;have V:W1.heap.size=w.heap.size+3:=by omega
 have av:=Lib.hid ao;have d:=Lib.hid R;have HC:=Lib.hid (jtS D p b W1 (h.go R) (hG.below R) bd hn hs);have HT:=Lib.hid h;have aZ:=Lib.hid (fun W=>jhQ b 0 W);have aH:=(h.go y).box;obtain⟨c0,c1,c2,c3,c4,c5,c6,c7,c8,c9,bl⟩:=jxT aH;have t0:=cCc aq 0;simp at t0;have t1:=cCc ao.tb 0;simp at t1;have u:=Lib.hid aN;have a4:=Lib.hid aO;have ay:=Lib.hid aP;have HG:=Lib.hid hG;have a5:=Lib.hid s;have aT:=Lib.hid hc;have HP:Hid (∀ e w',jei D text p b q J RR w e w'=(Kept q w w'/\e=.returned (.int .i64 (doN p D J text))/\(if doN p D J text=0 then ∃ C la lc W,RR C W/\Kept (fun k=>k≠b/\k≠w.heap.size+1) W w'/\TnIn w' b { C with lg:=jbU (jal p.A p.B) p.lg D text,la:=la,lc:=lc }/\C.cf=p.cf/\∀ z,la=some z->w.heap.size<=z.block else TnIn w' b p))):=fun _ _=>rfl
 have HN:Hid (doN p D J text=if D<p.tm then 140 else if J=0 then (if jih (jal p.A p.B) p.lg D text then 0 else 160) else J):=rfl;generalize jei D text p b q J RR w=Q at HP ⊢;generalize doN p D J text=N at HP HN;clear aH aa aq aE aF y bi R ao hs s h aN aO aP hG hc hn;go_enter_defers Tryz.func19,Tryz.ntmps19;go_wp2_with (go_at_call 26;refine (aZ.out W0).mono ?_;rintro e w1 ⟨rfl,rfl⟩);refine HC.out.mono ?_;rintro e W2 ⟨P,⟨o,rfl,aQ⟩ | ⟨o,rfl,m,ta,tc,ap,aK,t,r⟩⟩
 ·have H:=av.out.keep P (fun k U=>by show k≠b;omega)
  obtain⟨V3,bb,L,M,Y⟩:=H.set 140;obtain⟨V4,bm,aA,ak,aC⟩:=L.set 140;have f2:=cFz H.eb 0;have e2:=cCc H.eb 0;have e3:=cCc L.eb 0;have f3:=cFz L.eb 0;simp at e2 e3;have aU:=Lib.hid aA;have a6:Hid (V4.heap[b]? = some (.cells { p with tm:=0 }.vals 81 (0,0))):=aC.known (show b≠w.heap.size+1 by omega) (Y.known (show b≠w.heap.size+1 by omega) aQ);have aw:Hid (Kept (· ≠ b) w V4):=ak _ _ (M _ _ (Kept.trans (.of d.out) P) (Nat.le_refl _)) (Nat.le_refl _)
  have HF:Hid (∀ W,Kept (· ≠ b) V4 W->W.heap[b]? = some (.cells p.vals 81 (0,0))->Q (.returned (.int .i64 140)) W):=fun W U hx=>by
   rw[HP.out,HN.out,if_pos o];exact⟨(aw.out.trans U).mono (fun k U=>u.out k U),rfl,⟨hx,HT.out.at_.keep (aw.out.trans U) HT.out.off,HT.out.off⟩⟩
  clear H L aA M Y ak aC P aQ o;go_wp2_with fail;exact jjz (c:={ p with tm:=0 }) (by decide) aU.out n rfl a6.out rfl HF.out
 ·obtain⟨p',ar⟩:∃ p':TnP,p' = { p with tm:=D,m:=m,ta:=ta,tc:=tc }:=⟨_,rfl⟩
  rw[<- ar] at ap;have H:=av.out.keep P (fun k U=>by show k≠b;omega);obtain⟨V3,bb,L,M,Y⟩:=H.set 0;have f2:=cFz H.eb 0;have e2:=cCc H.eb 0;have e3:=cCc L.eb 0;simp at e2 e3;have be:b<W1.heap.size:=Nat.lt_of_lt_of_le n d.out.size
  have F:Hid (Came D p b w p' V3/\DoIn p b w.heap.size 0 V3):=by
   have ho:p'.Off (· ≠ w.heap.size+1):=by
    rw[ar];refine⟨fun z hz h0=>?_,fun e he=>?_,fun z hz h0=>?_⟩
    ·have h1:=t z hz;have h2:W1.heap.size=w.heap.size+3:=V
     show z.block≠w.heap.size+1;omega
    ·exact (r e he).imp fun k U=>by have h2:W1.heap.size=w.heap.size+3:=V;omega
    ·have h1:=(HT.out.at_.log.2.2.2.2 z hz h0).2
     show z.block≠w.heap.size+1;omega
   exact⟨⟨m,ta,tc,ar,ap.keep Y (by show b≠w.heap.size+1;omega) ho,aK,fun z hz=>Nat.le_trans (Nat.le_of_eq V.symm) (t z hz),fun e he=>(r e he).imp fun k U=>Nat.le_trans (Nat.le_of_eq V.symm) U,M _ _ (Kept.trans (.of d.out) P) (Nat.le_refl _),by have h8:=P.size;have h9:=Y.size;omega⟩,L⟩
  have ax:Hid (p.tm<=D):=Int.not_lt.1 o;clear H L M Y P ap t r aK be o;go_wp2_with fail;go_loopw [11,27] (fun _ i wr=>(i=.int .i64 0/\Hid (Came D p b w p' wr/\DoIn p b w.heap.size 0 wr))\/(i=.int .i64 1/\∃ C W,Hid (jvN D p b q RR w C W wr/\J=0))) (fun _ i _=>1-(intOf i).toNat)
  case atStart=>exact .inl ⟨rfl,F.out⟩
  case round =>
   clear F;rcases hrel with⟨rfl,F⟩ | ⟨rfl,C,Wr,HR⟩
   ·have bs:wr.cell? ⟨sb,off,none⟩=some (.func (.func g) #[] f):=F.out.1.kept.cell (show sb≠b from bj) aT.out
    have HS:=Lib.hid (a5.out p' wr F.out.1);go_wp2_with fail;refine HS.out.mono ?_;rintro e W5 ⟨ae,rfl,h5⟩;have I:=F.out.2.keep ae a4.out;have af:Kept q w W5:=(F.out.1.kept.mono u.out).trans ae;obtain⟨V6,bn,X,T,j⟩:=I.set J;have f5:=cFz I.eb 0;have e5:=cCc I.eb 0;have e6:=cCc X.eb 0;have f6:=cFz X.eb 0;simp at e5 e6;by_cases G:J=0
    ·rw[if_pos G] at h5
     obtain⟨C,O,ag,aj,ad,aM,ab⟩:=h5;obtain⟨a1,a2,a3,-⟩:=F.out.1.says;have ho:C.Off (· ≠ w.heap.size+1):=aM _ (F.out.1.off HT.out.at_) (fun k U=>by have:=F.out.1.kept.size;have:=(Array.getElem?_eq_some_iff.1 F.out.2.ob).1;omega);have az:Hid (jvN D p b q RR w C W5 V6/\J=0):=⟨⟨ab,j.mono (fun k U=>U.2),O.keep j (by show b≠w.heap.size+1;omega) ho,ag.trans a1,aj.trans a2,ad.trans a3,ho,by rw[<- G];exact X,T _ _ af (Nat.le_refl _)⟩,G⟩;have aL:(J != 0)=false:=by simp[G]
     have an:=Lib.hid G;clear I X T j O ag aj ad ab a1 a2 a3 ho af ae G F;go_wp2_with fail;go_roundw
     case rel=>exact .inr ⟨by go_num,C,W5,az.out⟩
     case measure=>simp[intOf]
    ·rw[if_neg G] at h5
     obtain⟨c,aI,aG⟩:=h5;obtain⟨V7,bc,aB,al,aD⟩:=X.set J;have a7:Hid (V7.heap[b]? = some (.cells c.vals 81 (0,0))):=aD.known (show b≠w.heap.size+1 by omega) (j.known (show b≠w.heap.size+1 by omega) aG);have aX:Hid (Kept q w V7):=al _ _ (T _ _ af (Nat.le_refl _)) (Nat.le_refl _);have aV:=Lib.hid aB;have aS:Hid (c.cf=p.cf):=aI.trans F.out.1.says.2.2.1;have ba:=F.out.1;have aL:(J != 0)=true:=by simp[G]
     have an:=Lib.hid G
     have HF:Hid (∀ W,Kept (· ≠ b) V7 W->W.heap[b]? = some (.cells p.vals 81 (0,0))->Q (.returned (.int .i64 J)) W):=fun W U hx=>by
      have aJ:Kept q w W:=aX.out.trans (U.mono u.out);have e:N=J:=by rw[HN.out,if_neg (Int.not_lt.2 ax.out),if_neg an.out]
      rw[HP.out,e,if_neg an.out];exact⟨aJ,rfl,⟨hx,HT.out.at_.keep aJ ay.out,HT.out.off⟩⟩
     clear I X aB T j al aD aG aI af ae ba G F;go_wp2_with fail;exact jjz (c:=c) aL aV.out n aS.out a7.out rfl HF.out
   ·obtain⟨ab,a8,O,ag,aj,ad,bg,I,a9⟩:=HR.out.1
    have ai:Bw wr wr.drew:=.drew (.refl _ _);have aY:Hid (∀ w',Bw wr w'->∀ bf na nn nc en,_):=fun w' hb bf na nn nc en=>jq9 (p0:=p) bf na nn nc en (O.go hb).box (I.keep (q:=fun _=>True) (.of hb) (fun _ _=>trivial)) n
    have aR:Hid (∀ w',Bw wr w'->Calls Tryz.prog 40 #[.agg #[.int .u64 C.A,.int .u64 C.B],.agg #[.int .u64 C.lg.before,.slice C.la C.lg.l.length C.lc],.int .u64 C.tm,.string text] w' (jeg (jal C.A C.B) C.lg C.tm text w')):=fun w' hb=>by
     have ac:=O.go hb;exact jgT C.A C.B C.tm text C.lg C.la C.lg.l.length C.lc w' ac.at_.log ac.at_.bef ac.at_.ok ht ac.at_.tm
    have au:Hid (∀ w' e w9,jeg (jal C.A C.B) C.lg C.tm text w' e w9->∃ (bf:Int) (na:Option Addr) (nn nc:Nat) (en:Int),e=.returned (.tuple #[.agg #[.int .u64 bf,.slice na nn nc],.int .i64 en])):=fun w' e w9 hp=>by
     obtain⟨hb,⟨-,rfl⟩ | ⟨-,a,c,rfl,-⟩⟩:=hp
     ·exact⟨_,_,_,_,_,rfl⟩
     ·exact⟨_,_,_,_,_,rfl⟩
    have Z:=O.box;have z0:wr.drew.cell? ⟨w.heap.size,0,none⟩=some (.pointer (some ⟨b,0,none⟩)):=cCc I.tb 0;have z3:wr.drew.cell? ⟨b,3,none⟩=some (.int .u64 C.lg.before):=cCc Z 3;have z4:wr.drew.cell? ⟨b,4,none⟩=some (.slice C.la C.lg.l.length C.lc):=cCc Z 4;have z5:wr.drew.cell? ⟨b,5,none⟩=some (.int .u64 C.tm):=cCc Z 5;have z9:wr.drew.cell? ⟨b,9,none⟩=some (.int .u64 C.A):=cCc Z 9;have bk:wr.drew.cell? ⟨b,10,none⟩=some (.int .u64 C.B):=cCc Z 10;clear ab a8 O ag aj ad bg I a9 Z;go_upto_region 15 with fail
    refine wp_region_noPanic ?_;refine wp_region_held_drew (S:=fun w'=>w'.cell? ⟨w.heap.size,0,none⟩=some (.pointer (some ⟨b,0,none⟩))/\w'.cell? ⟨b,5,none⟩=some (.int .u64 C.tm)/\w'.cell? ⟨b,9,none⟩=some (.int .u64 C.A)/\w'.cell? ⟨b,10,none⟩=some (.int .u64 C.B)) (by kernel_rfl) ⟨z0,z5,z9,bk⟩ (fun hS=>?_)
    -- REGION
    refine wpAnyH_take (i:=0) (v:=?_) rfl (by kernel_rfl) (by kernel_rfl) (by kernel_rfl) (fun _ _ _ h=>h) (Or.inl ⟨by rfl,?_⟩) (by assumption) ?_;rotate_left
    ·intro w E;go_split_ands;go_simp;with_reducible rfl
    refine wpAnyH_take (i:=1) (v:=?_) rfl (by kernel_rfl) (by kernel_rfl) (by kernel_rfl) (fun _ _ _ h=>h) (Or.inl ⟨by rfl,?_⟩) (by assumption) ?_;rotate_left
    ·intro w E;go_split_ands;go_simp;with_reducible rfl
    refine wpAnyH_take (i:=2) (v:=?_) rfl (by kernel_rfl) (by kernel_rfl) (by kernel_rfl) (fun _ _ _ h=>h) (Or.inl ⟨by rfl,?_⟩) (by assumption) ?_;rotate_left
    ·intro w E;go_simp;with_reducible rfl
    refine wpAnyH_take (i:=3) (v:=?_) rfl (by kernel_rfl) (by kernel_rfl) (by kernel_rfl) (fun _ _ _ h=>h) (Or.inl ⟨by rfl,?_⟩) (by assumption) ?_;rotate_left
    ·intro w E;go_simp;with_reducible rfl
    refine wpAnyH_take (i:=4) (v:=?_) rfl (by kernel_rfl) (by kernel_rfl) (by kernel_rfl) (fun _ _ _ h=>h) (Or.inl ⟨by rfl,?_⟩) (by assumption) ?_;rotate_left
    ·intro w E;go_split_ands;go_simp;with_reducible rfl
    refine wpAnyH_take (i:=5) (v:=?_) rfl (by kernel_rfl) (by kernel_rfl) (by kernel_rfl) (fun _ _ _ h=>h) (Or.inl ⟨by rfl,?_⟩) (by assumption) ?_;rotate_left
    ·intro w E;go_split_ands;go_simp;with_reducible rfl
    refine wpAnyH_take (i:=6) (v:=?_) rfl (by kernel_rfl) (by kernel_rfl) (by kernel_rfl) (fun _ _ _ h=>h) (Or.inl ⟨by rfl,?_⟩) (by assumption) ?_;rotate_left
    ·intro w E;go_simp;with_reducible rfl
    refine wpAnyH_take (i:=7) (v:=?_) rfl (by kernel_rfl) (by kernel_rfl) (by kernel_rfl) (fun _ _ _ h=>h) (Or.inl ⟨by rfl,?_⟩) (by assumption) ?_;rotate_left
    ·intro w E;go_simp;with_reducible rfl
    refine wpAnyH_take (i:=8) (v:=?_) rfl (by kernel_rfl) (by kernel_rfl) (by kernel_rfl) (fun _ _ _ h=>h) (Or.inl ⟨by rfl,?_⟩) (by assumption) ?_;rotate_left
    ·intro w E;go_simp;with_reducible rfl
    refine wpAnyH_take (i:=10) (v:=?_) rfl (by kernel_rfl) (by kernel_rfl) (by kernel_rfl) (fun _ _ _ h=>h) (Or.inl ⟨by rfl,?_⟩) (by assumption) ?_;rotate_left
    ·intro w E;go_split_ands;go_simp;with_reducible rfl
    refine wpAnyH_take (i:=11) (v:=?_) rfl (by kernel_rfl) (by kernel_rfl) (by kernel_rfl) (fun _ _ _ h=>h) (Or.inl ⟨by rfl,?_⟩) (by assumption) ?_;rotate_left
    ·intro w E;go_simp;with_reducible rfl
    refine wpAnyH_take (i:=12) (v:=?_) rfl (by kernel_rfl) (by kernel_rfl) (by kernel_rfl) (fun _ _ _ h=>h) (Or.inl ⟨by rfl,?_⟩) (by assumption) ?_;rotate_left
    ·intro w E;go_simp;with_reducible rfl
    refine wpAnyH_take (i:=13) (v:=?_) rfl (by kernel_rfl) (by kernel_rfl) (by kernel_rfl) (fun _ _ _ h=>h) (Or.inl ⟨by rfl,?_⟩) (by assumption) ?_;rotate_left
    ·intro w E;go_simp;with_reducible rfl
    refine wpAnyH_take (i:=14) (v:=?_) rfl (by kernel_rfl) (by kernel_rfl) (by kernel_rfl) (fun _ _ _ h=>h) (Or.inl ⟨by rfl,?_⟩) (by assumption) ?_;rotate_left
    ·intro w E;go_split_ands;go_simp;with_reducible rfl
    refine wpAnyH_take (i:=15) (v:=?_) rfl (by kernel_rfl) (by kernel_rfl) (by kernel_rfl) (fun _ _ _ h=>h) (Or.inl ⟨by rfl,?_⟩) (by assumption) ?_;rotate_left
    ·intro w E;go_simp;with_reducible rfl
    refine wpAnyH_ready (rs:=[9]) (by kernel_rfl) (by simp) ?_;refine AllReadyH.cons rfl (fun K hK=>?_) ?_
    ·go_simp
     refine hK.out _ _ ?_ (fun hS=>?_)
     ·exact hS
     clear hK K;refine wpAnyH_ready (rs:=[16]) (by kernel_rfl) (by simp) ?_;refine AllReadyH.cons rfl (fun K hK=>?_) ?_
     ·go_simp
      refine (aR.out _ ai).mono ?_;intro e w9 ah;obtain⟨bf,na,nn,nc,en,rfl⟩:=au.out _ e w9 ah;have a0:=Lib.hid ah;obtain⟨V7,V8,V9,bc,bo,bp,aW,⟨y0,y1,y2,y3⟩,⟨y4,y5,y6,y7⟩,am⟩:=aY.out w9 (ai.trans (ah.1.mono ai.size)) bf na nn nc en;clear ah;refine hK.out _ _ ?_ (fun hS=>?_)
      ·exact am.out.1
      clear hK K;refine wpAnyH_take (i:=17) (v:=?_) rfl (by kernel_rfl) (by kernel_rfl) (by kernel_rfl) (fun _ _ _ h=>h) (Or.inl ⟨by rfl,?_⟩) (by assumption) ?_;rotate_left
      ·intro w E;go_simp;with_reducible rfl
      refine wpAnyH_take (i:=18) (v:=?_) rfl (by kernel_rfl) (by kernel_rfl) (by kernel_rfl) (fun _ _ _ h=>h) (Or.inl ⟨by rfl,?_⟩) (by assumption) ?_;rotate_left
      ·intro w E;go_simp;with_reducible rfl
      refine wpAnyH_take (i:=19) (v:=?_) rfl (by kernel_rfl) (by kernel_rfl) (by kernel_rfl) (fun _ _ _ h=>h) (Or.inl ⟨by rfl,?_⟩) (by assumption) ?_;rotate_left
      ·intro w E;go_simp;with_reducible rfl
      refine wpAnyH_take (i:=20) (v:=?_) rfl (by kernel_rfl) (by kernel_rfl) (by kernel_rfl) (fun _ _ _ h=>h) (Or.inl ⟨by rfl,?_⟩) (by assumption) ?_;rotate_left
      ·intro w E;go_simp;with_reducible rfl
      refine wpAnyH_take (i:=21) (v:=?_) rfl (by kernel_rfl) (by kernel_rfl) (by kernel_rfl) (fun _ _ _ h=>h) (Or.inl ⟨by rfl,?_⟩) (by assumption) ?_;rotate_left
      ·intro w E;go_simp;with_reducible rfl
      refine wpAnyH_take (i:=22) (v:=?_) rfl (by kernel_rfl) (by kernel_rfl) (by kernel_rfl) (fun _ _ _ h=>h) (Or.inl ⟨by rfl,?_⟩) (by assumption) ?_;rotate_left
      ·intro w E;go_simp;with_reducible rfl
      refine wpAnyH_ready (rs:=[23]) (by kernel_rfl) (by simp) ?_;refine AllReadyH.cons rfl (fun K hK=>?_) ?_
      ·go_simp
       refine hK.out _ _ ?_ (fun hS=>?_)
       ·exact am.out.2.1
       clear hK K;refine wpAnyH_ready (rs:=[24]) (by kernel_rfl) (by simp) ?_;refine AllReadyH.cons rfl (fun K hK=>?_) ?_
       ·go_simp
        refine hK.out _ _ ?_ (fun hS=>?_)
        ·exact am.out.2.2
        clear hK K;refine wpAnyH_done (by kernel_rfl) ?_ _;refine NoPanic.normal ?_;go_wp2_with fail;exact jxb n (fun e w'=>HP.out e w') (by rw[HN.out,if_neg (Int.not_lt.2 ax.out),if_pos HR.out.2]:N=if jih (jal p.A p.B) p.lg D text then 0 else 160) HT.out u.out ay.out ht HR.out.1 ai a0.out aW.out rfl
       exact AllReadyH.nil
      exact AllReadyH.nil
     exact AllReadyH.nil
    exact AllReadyH.nil
    -- END
end
def tkN:Except Int (List Ser × List Nat)->Int
 | .error n=>n
 | .ok _=>0
theorem jl0 {T:List Ser} {tm A:Int} {s:ByteArray} {kind:Int} {B:List (Nat × Int)} {n:Int} (h:jdj T tm A s kind B=.error n):n≠0:=by
 unfold jdj jdL at h;split at h
 ·cases h;decide
 ·split at h
  ·cases h;decide
  ·split at h
   ·split at h
    ·cases h;decide
    ·split at h
     ·split at h
      ·cases h
      ·cases h;decide
     ·cases h;decide
   ·cases h;decide
theorem StepPost.mono {p:TnP} {b:Nat} {q:Nat->Prop} {I:Int} {D E:TnP->World->Prop} {W B:World} {e:Ending} (h:StepPost p b q I D W e B) (hr:∀ A B,A.lg=p.lg->A.tm=p.tm->(∀ r:Nat->Prop,p.Off r->(∀ k,W.heap.size<=k->r k)->A.Off r)->D A B->E A B):StepPost p b q I E W e B:=by
 obtain⟨N,O,C⟩:=h;refine⟨N,O,?_⟩;split at C
 ·next h0 =>
  rw[if_pos h0];obtain⟨A,J,F,G,L,H,M⟩:=C;exact⟨A,J,F,G,L,H,hr _ _ F G H M⟩
 ·next h0 =>
  rw[if_neg h0];exact C
def ju8 (R:Except Int (List Ser × List Nat)) (x4 n0:Nat) (p'':TnP) (W':World):Prop :=
 ∃ r pa pc,R=.ok r/\(∀ z,pa=some z->n0<=z.block)/\W'.heap[x4]? = some (.cells #[.slice pa r.2.length pc] 25 (0,0))/\p''.tab=r.1/\SlC jhr 1 W'.heap.size W' pa r.2.length pc r.2
theorem jmF (p:TnP) (b:Nat) (s:ByteArray) (kind:Int) (A:List (Nat × Int)) (d:Option Addr) (ic x0 x1 x2 x3 B:Nat) (na:Option Addr) (nn nc:Nat) (W:World) (h:TnIn W b p) (x:GW W) (hg:GT W) (hs:s.size<4294967281) (y:SlE jil 2 W.heap.size W d A.length A) (w:jef A) (hr:jlM p.tab A.length) (H:A.length<4294967296)
  (o:W.heap[x0]? = some (.cells #[.pointer (some ⟨b,0,none⟩)] 24 (0,0))) (t:W.heap[x1]? = some (.cells #[.string s] 9 (0,0))) (u:W.heap[x2]? = some (.cells #[.int .i64 kind] 3 (0,0))) (v:W.heap[x3]? = some (.cells #[.slice d A.length ic] 58 (0,0))) (Y:W.heap[B]? = some (.cells #[.slice na nn nc] 25 (0,0)))
  (F:B≠b) (ho:p.Off (· ≠ B)) :
  Calls Tryz.prog 20 #[.pointer (some ⟨x0,0,none⟩),.pointer (some ⟨x1,0,none⟩),.pointer (some ⟨x2,0,none⟩),.pointer (some ⟨x3,0,none⟩),.pointer (some ⟨B,0,none⟩)] W (StepPost p b (fun k=>k≠b/\k≠B) (tkN (jdj p.tab p.tm p.bud s kind A)) (ju8 (jdj p.tab p.tm p.bud s kind A) B W.heap.size) W):=by
 have X:=Lib.hid (jpB p b s kind A d ic W h x hg hs y w hr H);obtain⟨R,Z⟩:∃ R,jdj p.tab p.tm p.bud s kind A=R:=⟨_,rfl⟩;have j:Hid (∀ n,R=.error n->n≠0):=fun n e=>jl0 (Z.trans e)
 rw[Z] at X ⊢;have c0:=cCc o 0;have c1:=cCc t 0;have c2:=cCc u 0;have c3:=cCc v 0;simp at c0 c1 c2 c3
 have T:Hid (∀ e D,TakePost R p b W e D->∃ (P:Option Addr) (i S:Nat),e=.returned (.tuple #[.slice P i S,.int .i64 (tkN R)])/\D.cell? ⟨B,0,none⟩=some (.slice na nn nc)/\D.frozen? ⟨B,0,none⟩=false/\Hid (StepPost p b (fun k=>k≠b/\k≠B) (tkN R) (ju8 R B W.heap.size) W (.returned (.int .i64 (tkN R))) (D.setCell ⟨B,0,none⟩ (.slice P i S)))):=fun e D V=>by
  obtain⟨U,V⟩:=V;have C:=U.known (show B≠b from F) Y;have aa:=(Array.getElem?_eq_some_iff.1 Y).1
  cases R with
  | error n =>
   obtain⟨⟨P,S,rfl⟩,m,ta,tc,hX⟩:=V;refine⟨P,0,S,rfl,cCc C 0,cFz C 0,?_⟩;refine⟨(U.mono fun k h=>h.1).set (fun _ h=>h.2 rfl) _ _,rfl,?_⟩;rw[if_neg (show tkN (.error n)≠0 from j.out n rfl)];exact⟨{ p with m:=m,ta:=ta,tc:=tc },rfl,(jaa (p:=⟨B,0,none⟩) F _).trans hX⟩
  | ok r =>
   obtain⟨m,ta,tc,f,g,rfl,hT,hm,M,I,c,L⟩:=V;refine⟨f,r.2.length,g,rfl,cCc C 0,cFz C 0,?_⟩;have G:Kept (· ≠ B) D (D.setCell ⟨B,0,none⟩ (.slice f r.2.length g)):=Kept.refl.set (fun _ h=>h rfl) _ _;refine⟨(U.mono fun k h=>h.1).set (fun _ h=>h.2 rfl) _ _,rfl,?_⟩;rw[if_pos (show tkN (.ok r)=0 from rfl)];refine⟨{ p with m:=m,ta:=ta,tc:=tc },hT.keep G (Ne.symm F) ⟨fun z O _=>?_,fun e a=>(I e a).imp fun k U=>?_,ho.l⟩,rfl,rfl,rfl,fun q hq H=>⟨fun z O _=>H _ (M z O),fun e a=>(I e a).imp H,hq.l⟩,r,f,g,rfl,L,hSk C _,hm,c.keep G (fun z O _=>?_)⟩
   ·have:=M z O
    show z.block≠B;omega
   ·show k≠B
    omega
   ·have:=L z O
    show z.block≠B;omega
 generalize TakePost R p b W=E at X T;generalize StepPost p b (fun k=>k≠b/\k≠B) (tkN R) (ju8 R B W.heap.size) W=Q at T ⊢;generalize tkN R=N at T;clear h o t u v Y x hg hs y w hr ho H j Z;go_enter Tryz.func20,Tryz.ntmps20
 go_wp2_with
  (go_at_call 21
   refine X.out.mono ?_;intro e D J;obtain⟨P,i,S,rfl,j0,j1,HQ⟩:=T.out e D J;clear J)
 exact HQ.out
theorem SlE.keep {α:Type} {enc:α->List Value} {k:Nat} {A B:World} {q:Nat->Prop} {a:Option Addr} {len:Nat} {l:List α} (h:SlE enc k A.heap.size A a len l) (C:Kept q A B) (G:∀ z,a=some z->0<len->q z.block):SlE enc k B.heap.size B a len l :=
 ⟨h.1,fun j x D=>by
  obtain⟨b,off,e,hb,E⟩:=h.2 j x D;exact⟨b,off,e,Nat.lt_of_lt_of_le hb C.size,fun i F=>(jdB (C.block b hb (G _ e (by have:=(List.getElem?_eq_some_iff.1 D).1;rw[h.1];omega)))).trans (E i F)⟩⟩
theorem Came.parts {D:Int} {p A:TnP} {b:Nat} {w W:World} (h:Came D p b w A W):A.tab=p.tab/\A.bud=p.bud/\∀ r:Nat->Prop,p.Off r->(∀ k,w.heap.size<=k->r k)->A.Off r:=by
 obtain⟨m,ta,tc,rfl,-,G,C,B,-⟩:=h;exact⟨G,rfl,fun r hr E=>⟨fun z H _=>E _ (by have:=C z H;omega),fun e F=>(B e F).imp fun k I=>E k (by omega),hr.l⟩⟩
def jbK:ByteArray:=⟨#[105,110,103,101,115,116]⟩
def jdz (now:Int) (p:TnP) (b:Nat) (R:Except Int (List Ser × List Nat)) (w:World) (e:Ending) (w':World):Prop :=
 Kept (· ≠ b) w w'/\if doN p now (tkN R) jbK=0 then ∃ r p'' pa pc,R=.ok r/\e=.returned (.tuple #[.slice pa r.2.length pc,.int .i64 0])/\SlC jhr 1 w'.heap.size w' pa r.2.length pc r.2/\TnIn w' b p''/\p''.tab=r.1/\p''.lg=jbU (jal p.A p.B) p.lg now jbK/\p''.tm=now/\p''.cf=p.cf/\∀ q:Nat->Prop,p.Off q->(∀ k,w.heap.size<=k->q k)->p''.Off q
  else e=.returned (.tuple #[.slice none 0 0,.int .i64 (doN p now (tkN R) jbK)])/\TnIn w' b p
theorem jiD (A:Int) (p:TnP) (b:Nat) (s:ByteArray) (kind:Int) (D:List (Nat × Int)) (ia:Option Addr) (ic:Nat) (w:World) (h:TnIn w b p) (hG:GW w) (hg:GT w) (ai:4<=b) (Y:U64 A) (ad:∀ x∈p.tab,jdq A p.life x=false) (hs:s.size<4294967281) (hI:SlE jil 2 w.heap.size w ia D.length D) (aa:∀ z,ia=some z->0<D.length->z.block≠b) (hA:jef D) (hr:jlM p.tab D.length) (X:D.length<4294967296) :
  Calls Tryz.prog 6 #[.pointer (some ⟨b,0,none⟩),.int .u64 A,.string s,.int .i64 kind,.slice ia D.length ic] w (jdz A p b (jdj p.tab A p.bud s kind D) w):=by
 have az:∀ (fn:Fn) (first cap:Array Value) (w:World),(Instr.makeFunc fn first cap).run Tryz.prog w=.ok (.func fn first cap) w:=fun _ _ _ _=>rfl
 obtain⟨W0,au,c,v,y,a,an⟩:=jbF w #[.pointer (some ⟨b,0,none⟩)] 24 #[.string s] 9 #[.int .i64 kind] 3;obtain⟨W1,av,d,f,H,aB⟩:=jas W0 #[.slice ia D.length ic] 58 #[.slice none 0 0] 25;rw[an] at d f;obtain⟨F,aw,g,I,ao⟩:=jab W1 #[.func (.func 20) #[] #[.pointer (some ⟨w.heap.size,0,none⟩),.pointer (some ⟨w.heap.size+1,0,none⟩),.pointer (some ⟨w.heap.size+1+1,0,none⟩),.pointer (some ⟨w.heap.size+3,0,none⟩),.pointer (some ⟨w.heap.size+3+1,0,none⟩)]] 69;rw[show W1.heap.size=w.heap.size+3+2 by omega] at g;have C:Bw w F:=a.trans ((H.trans (I.mono H.size)).mono a.size);have ax:=h.lt;have t0:=cCc (known H (Nat.le_refl _) c) 0;simp at t0;have y0:=known I (Nat.le_refl _) (known H (Nat.le_refl _) c);have y1:=known I (Nat.le_refl _) (known H (Nat.le_refl _) v);have y2:=known I (Nat.le_refl _) (known H (Nat.le_refl _) y);have y3:=known I (Nat.le_refl _) d;have y4:=known I (Nat.le_refl _) f;have aC:F.heap.size=w.heap.size+6:=by omega
 obtain⟨R,hR⟩:∃ R,jdj p.tab A p.bud s kind D=R:=⟨_,rfl⟩;rw[hR]
 have HD:=Lib.hid (jvd A jbK p b (fun k=>k≠b/\k≠w.heap.size+3+1) (tkN R) (fun B O=>(∃ J,F.heap.size+3<=J/\ju8 R (w.heap.size+3+1) J B O)/\B.tm=A/\∀ r:Nat->Prop,p.Off r->(∀ k,F.heap.size<=k->r k)->B.Off r) F 20 (w.heap.size+3+2) 0 1 _ (h.go C) (hG.below C) ai Y ad (by decide)
  (fun k G=>G.1) (fun k G=>⟨by omega,by omega⟩) ⟨fun z T u=>⟨h.off.t z T u,by have:=(h.at_.tab.row.2.2.2.2 z T u).2;omega⟩,fun e i=>(h.off.m e i).and ((h.at_.tab.at_ e i).off.imp fun k G=>by omega),fun z T u=>⟨h.off.l z T u,by have:=(h.at_.log.2.2.2.2 z T u).2;omega⟩⟩ (cCc g 0) (by omega) (enters_of Tryz.func20 (by kernel_rfl) rfl) (fun p' W P=>by
   obtain⟨a1,a2,a3⟩:=P.parts;obtain⟨b1,b2,b3,ah⟩:=P.says;have j:Kept (· ≠ b) w W:=Kept.trans (.of C) P.kept
   have Z:=jmF p' b s kind D ia ic w.heap.size (w.heap.size+1) (w.heap.size+1+1) (w.heap.size+3) (w.heap.size+3+1) none 0 0 W ah (hG.keep j fun k G=>by omega) (hg.keep j fun k G=>by omega) hs (hI.keep j aa) hA (by rw[a1];exact hr) X
    (P.kept.known (by show w.heap.size≠b;omega) y0) (P.kept.known (by show w.heap.size+1≠b;omega) y1) (P.kept.known (by show w.heap.size+1+1≠b;omega) y2) (P.kept.known (by show w.heap.size+3≠b;omega) y3) (P.kept.known (by show w.heap.size+3+1≠b;omega) y4) (by omega)
    (a3 _ (h.at_.off.imp fun k G=>by omega) (fun k G=>by omega))
   rw[a1,a2,b2,hR] at Z;refine Z.mono ?_;intro e O L;exact L.mono fun B ar c1 c2 c3 c4=>⟨⟨_,P.size,c4⟩,c2.trans b2,fun r hr X=>c3 r (a3 r hr X) (fun k G=>X k (by have:=P.kept.size;omega))⟩))
 have S:Hid (∀ w',Kept (fun k=>k≠b/\k≠w.heap.size+3+1) F w'->Kept (· ≠ b) w w'):=fun w' G=>⟨G.os.trans C.os,G.tape.trans C.tape,G.output.trans C.output,Nat.le_trans C.size G.size,fun k h1 h2=>(G.block k (Nat.lt_of_lt_of_le h1 C.size) ⟨h2,by omega⟩).trans (C.block k h1)⟩
 have HT:=Lib.hid h;clear c v y d f g a H I C ao y0 y1 y2 y3 y4 h hG hg ad hI aa hA hr X hR Y hs;by_cases V:doN p A (tkN R) jbK=0
 ·have U:Hid (∀ e w',jei A jbK p b (fun k=>k≠b/\k≠w.heap.size+3+1) (tkN R) (fun B O=>(∃ J,F.heap.size+3<=J/\ju8 R (w.heap.size+3+1) J B O)/\B.tm=A/\∀ r:Nat->Prop,p.Off r->(∀ k,F.heap.size<=k->r k)->B.Off r) F e w'->∃ (n:Option Addr) (pn o:Nat),e=.returned (.int .i64 0)/\w'.cell? ⟨w.heap.size+3+1,0,none⟩=some (.slice n pn o)/\Hid (jdz A p b R w (.returned (.tuple #[.slice n pn o,.int .i64 0])) w')):=fun e w' L=>by
   obtain⟨G,i,L⟩:=L;rw[if_pos V] at L;rw[V] at i;obtain⟨B,la,lc,W,⟨⟨J,aA,r,n,o,ag,am,af,ae,ap⟩,aq,ac⟩,ab,hT,aj,ak⟩:=L;have ay:=(Array.getElem?_eq_some_iff.1 af).1;refine⟨n,r.2.length,o,i,cCc (ab.known ⟨by show w.heap.size+3+1≠b;omega,by show w.heap.size+3+1≠F.heap.size+1;omega⟩ af) 0,S.out _ G,?_⟩;rw[if_pos V];refine⟨r,_,n,o,ag,rfl,ap.keep ab (fun z T _=>by have:=am z T;exact⟨by omega,by omega⟩),hT,ae,rfl,aq,aj,fun q hq X=>?_⟩;have h8:=ac q hq (fun k G=>X k (by omega));exact⟨h8.t,h8.m,fun z T _=>X _ (by have:=ak z T;omega)⟩
  generalize jei A jbK p b (fun k=>k≠b/\k≠w.heap.size+3+1) (tkN R) (fun B O=>(∃ J,F.heap.size+3<=J/\ju8 R (w.heap.size+3+1) J B O)/\B.tm=A/\∀ r:Nat->Prop,p.Off r->(∀ k,F.heap.size<=k->r k)->B.Off r) F=E at HD U;generalize jdz A p b R w=Q at U ⊢;clear V HT S;go_enter Tryz.func6,Tryz.ntmps6
  go_wp2_with
   (go_at_call 19
    refine HD.out.mono ?_;intro e w9 N;obtain⟨n,pn,o,rfl,j0,HQ⟩:=U.out e w9 N;clear N)
  exact HQ.out
 ·have U:Hid (∀ e w',jei A jbK p b (fun k=>k≠b/\k≠w.heap.size+3+1) (tkN R) (fun B O=>(∃ J,F.heap.size+3<=J/\ju8 R (w.heap.size+3+1) J B O)/\B.tm=A/\∀ r:Nat->Prop,p.Off r->(∀ k,F.heap.size<=k->r k)->B.Off r) F e w'->e=.returned (.int .i64 (doN p A (tkN R) jbK))/\Hid (jdz A p b R w (.returned (.tuple #[.slice none 0 0,.int .i64 (doN p A (tkN R) jbK)])) w')):=fun e w' L=>by
   obtain⟨G,i,L⟩:=L;rw[if_neg V] at L;refine⟨i,S.out _ G,?_⟩;rw[if_neg V];exact⟨rfl,L⟩
  have al:(doN p A (tkN R) jbK != 0)=true:=by simpa using V
  generalize jei A jbK p b (fun k=>k≠b/\k≠w.heap.size+3+1) (tkN R) (fun B O=>(∃ J,F.heap.size+3<=J/\ju8 R (w.heap.size+3+1) J B O)/\B.tm=A/\∀ r:Nat->Prop,p.Off r->(∀ k,F.heap.size<=k->r k)->B.Off r) F=E at HD U;generalize jdz A p b R w=Q at U ⊢;generalize doN p A (tkN R) jbK=M at U al;clear V HT S;go_enter Tryz.func6,Tryz.ntmps6
  go_wp2_with
   (go_at_call 19
    refine HD.out.mono ?_;intro e w9 N;obtain⟨rfl,HQ⟩:=U.out e w9 N;clear N)
  exact HQ.out
end Go.Proofs.YtnegciklhanmbaaGreatDoor
