/- Package ladder: the four bodies' add and lower; told. errors.As at a target of type **ladder.fault: lines of the worked example ToyasAs turned to this program; ladder.errno, isFull. What rows have in common: the program's closed facts, sketches and numbers opened, errors.errorType. Printed by gen_rz.py. Package label: the runes of names and values; names, values. Package ladder: a body's add and lower through the interface. -/
import Derived.LaidEql
import Derived.Stop.Asserts
import Derived.RowKitTokens
import Derived.Test.YtnegciklhanmbaaGreatDoorCards
import Derived.Test.YtnegciklhanmbaaGreatDoorTie
import Derived.LaidHandle
import Derived.Shelf.Vars
import Derived.ChangeMaps5
import Derived.Test.YtnegciklhanmbaaGreatDoorZME
import Derived.Test.YtnegciklhanmbaaGreatDoorZMA
set_option maxHeartbeats 4000000
set_option maxRecDepth 100000
namespace Go.Proofs.YtnegciklhanmbaaGreatDoor
open Go Go.RowKit
section
open Go.Shelf
def BdAt (W:World) (v:Value):Bd->Prop
 | .num l=>∃ a len cap,v=.iface 240 (.agg #[.slice a len cap])/\SlC jaF 1 W.heap.size W a len cap l
 | .reg b r=>v=.iface 242 (.agg #[.int .i64 b,.string (jat r)])
 | .cnt c l=>∃ a len cap,v=.iface 243 (.agg #[.int .i64 2,.int .i64 c,.slice a len cap])/\SlC jaF 1 W.heap.size W a len cap l
 | .bkt f l=>∃ a len cap,v=.iface 245 (.agg #[.int .i64 f,.slice a len cap])/\SlC jb4 2 W.heap.size W a len cap l
theorem BdAt.go {W D:World} {v:Value} {B:Bd} (h:BdAt W v B) (hb:Bw W D):BdAt D v B:=by
 cases B with
 | num l=>obtain⟨a,len,cap,A,C⟩:=h;exact⟨a,len,cap,A,C.go hb⟩
 | reg b r=>exact h
 | cnt c l=>obtain⟨a,len,cap,A,C⟩:=h;exact⟨a,len,cap,A,C.go hb⟩
 | bkt f l=>obtain⟨a,len,cap,A,C⟩:=h;exact⟨a,len,cap,A,C.go hb⟩
def jmd (W:World) (v:Value) (no:Int):Prop:=∃ b,v=.iface 171 (.pointer (some ⟨b,0,none⟩))/\W.heap[b]? = some (.cells #[.int .i64 no] 173 (0,0))
def jaE (o:Option Bd) (w:World) (e:Ending) (w':World):Prop:=Bw w w'/\match o with
 | some B=>∃ v,e=.returned (.tuple #[v,.nilIface])/\BdAt w' v B
 | none=>∃ v,e=.returned (.tuple #[.nilIface,v])/\jmd w' v 60
theorem jcJ (v:Value) (w:World):Calls Tryz.prog 252 #[v,.int .i64 0] w fun e w'=>e=.returned (.tuple #[v,.nilIface])/\w'=w:=by
 go_enter Tryz.func252,Tryz.ntmps252;go_wp2;exact bodyPost_ret (v:=.tuple #[v,.nilIface]) (by simp[results,Tryz.f252,go_sem]) rfl ⟨rfl,rfl⟩
theorem jsB (v:Value) (w:World):Calls Tryz.prog 252 #[v,.int .i64 60] w fun e w'=>e=.returned (.tuple #[.nilIface,.iface 171 (.pointer (some ⟨w.heap.size,0,none⟩))])/\w'=w.alloc (.cells #[.int .i64 60] 173):=by
 go_enter Tryz.func252,Tryz.ntmps252;go_wp2;exact bodyPost_ret (v:=.tuple #[.nilIface,.iface 171 (.pointer (some ⟨w.heap.size,0,none⟩))]) (by simp[results,Tryz.f252,go_sem]) rfl ⟨rfl,rfl⟩
theorem jwE {h:Nat} (A:h<2^64):U64 (h:Int):=by unfold U64;omega
theorem jdK (c:Nat) (A:c=4\/c=8\/c=16\/c=32):ja3 2 (c:Int)=true:=by rcases A with rfl | rfl | rfl | rfl<;>decide +kernel
theorem jg4 {W:World} {g n:Nat} {l:List Int} (h:NumsAt W g l) (D:l.length=n) (C:n<=maxLen):SlC jaF 1 W.heap.size W (some ⟨g,0,none⟩) n n l:=by
 refine⟨⟨D.symm,fun j x A=>⟨g,0,rfl,h.lt,fun i E=>?_⟩⟩,Nat.le_refl _,C,(fun e=>by cases e),fun x A _=>by cases A;exact⟨rfl,h.lt⟩⟩;obtain rfl:i=0:=by omega
 have B:j<l.length:=(List.getElem?_eq_some_iff.1 A).1;rw[show (0+j*1+0)=j by omega,h.cell B];have:l.getD j 0=x:=by rw[List.getD_eq_getElem?_getD,A];rfl
 rw[this];rfl
theorem jv0 (l:List Int) (a:Option Addr) (len cap h:Nat) (n:Int) (w:World) (X:SlC jaF 1 w.heap.size w a len cap l) (hr:jaJ l=true) :
  Calls Tryz.prog 246 #[.agg #[.slice a len cap],.agg #[.int .u64 h,.int .u64 n]] w (jaE ((Bd.num l).add h n) w):=by
 obtain⟨g,i,S,T,J,j⟩:=jas w #[.slice a len cap] 240 #[.int .u64 h,.int .u64 n] 66;obtain⟨s,t⟩:=cl2 T;have r:g.cell? ⟨w.heap.size,0,none⟩=some (.slice a len cap):=cCc S 0;have V:=jqI l a len cap (h:Int) g ((X.1.below J).mono J.size) (fun e=>by have:=X.2.2.2.1 e;have:=X.2.1;omega);have U:joQ l (h:Int)=jan l [(h:Int)]:=by unfold joQ;rw[if_pos hr]
 rw[U] at V;have C:=Lib.hid J;clear S J T X hr U;show Calls _ _ _ _ (jaE ((jan l [(h:Int)]).map .num) w);generalize jan l [(h:Int)]=o at V ⊢
 cases o with
 | some m =>
  obtain⟨P,L⟩:∃ P,jaE ((some m).map .num) w=P:=⟨_,rfl⟩;have Y:=Lib.hid L;rw[L];clear L;go_enter Tryz.func246,Tryz.ntmps246;go_wp2_with fail;refine V.mono ?_;rintro e H ⟨G,c,E,rfl,O,-⟩;obtain⟨M,d,A,F,f⟩:=jab H #[.slice c m.length E] 35;have k:M.cell? ⟨H.heap.size,0,none⟩=some (.slice c m.length E):=cCc A 0;have b:=Lib.hid (jcJ (.iface 240 (.agg #[.slice c m.length E])) M);have Z:=Lib.hid O;have I:=Lib.hid F;have D:=Lib.hid G;clear A F G O;go_wp2_with fail;refine b.out.mono ?_;rintro e q ⟨rfl,rfl⟩;go_wp2_with fail;have B:=D.out.trans (I.out.mono D.out.size);rw[<- Y.out];exact⟨C.out.trans (B.mono C.out.size),_,rfl,_,_,_,rfl,Z.out.go I.out⟩
 | none =>
  obtain⟨P,L⟩:∃ P,jaE ((none:Option (List Int)).map .num) w=P:=⟨_,rfl⟩;have Y:=Lib.hid L;rw[L];clear L;go_enter Tryz.func246,Tryz.ntmps246;go_wp2_with fail;refine V.mono ?_;rintro e H ⟨G,rfl⟩;obtain⟨M,d,A,F,f⟩:=jab H #[.slice none 0 0] 35;have k:M.cell? ⟨H.heap.size,0,none⟩=some (.slice none 0 0):=cCc A 0;have v:M.frozen? ⟨H.heap.size,0,none⟩=false:=cFz A 0;obtain⟨N,Q⟩:∃ N,M.setCell ⟨H.heap.size,0,none⟩ (.slice none 0 0)=N:=⟨_,rfl⟩;have R:N.heap[H.heap.size]? = some (.cells #[.slice none 0 0] 35 (0,0)):=by rw[<- Q];exact hSk A (.slice none 0 0)
  have I:Hid (Bw H N):=by rw[Hid,<- Q];exact F.setCell (p:=⟨H.heap.size,0,none⟩) (Nat.le_refl _) _
  have u:N.cell? ⟨H.heap.size,0,none⟩=some (.slice none 0 0):=cCc R 0;have b:=Lib.hid (jsB (.iface 240 (.agg #[.slice none 0 0])) N);have D:=Lib.hid G;clear A R F G;go_wp2_with fail;refine b.out.mono ?_;rintro e q ⟨rfl,rfl⟩;go_wp2_with fail;have B:=D.out.trans (I.out.mono D.out.size);rw[<- Y.out];exact⟨(C.out.trans (B.mono C.out.size)).alloc (C.out.trans (B.mono C.out.size)).size _,_,rfl,_,rfl,World.alloc_heap_new _ _⟩
-- METHODS
theorem jv1 (b:Nat) (r:List Nat) (h:Nat) (n:Int) (w:World) (O:3<=b) (P:b<=8) (R:r.length=2^b) (hr:∀ i,r.getD i 0<=65-b) (Q:h<2^64) :
  Calls Tryz.prog 275 #[.agg #[.int .i64 b,.string (jat r)],.agg #[.int .u64 h,.int .u64 n]] w (jaE ((Bd.reg b r).add h n) w):=by
 obtain⟨T,V,H,I,D,Y⟩:=jas w #[.int .i64 b,.string (jat r)] 242 #[.int .u64 h,.int .u64 n] 66;obtain⟨d,f⟩:=cl2 I;obtain⟨c,c1⟩:=cl2 H;have L:=Lib.hid (jt7 b r (h:Int) T O P R hr (jwE Q));have B:=Lib.hid D;clear H D I;rw[Int.toNat_natCast] at L;obtain⟨s,A⟩:∃ s,jat (jlg b r h)=s:=⟨_,rfl⟩;rw[A] at L;have N:=Lib.hid A;clear A R hr O P Q;go_enter Tryz.func275,Tryz.ntmps275;go_wp2_with fail;refine L.out.mono ?_;rintro e a ⟨rfl,J⟩;obtain⟨U,X,G,F,Z⟩:=jab a #[.int .i64 b,.string s] 37;obtain⟨g,j⟩:=cl2 G;have S:=Lib.hid (jcJ (.iface 242 (.agg #[.int .i64 b,.string s])) U);have M:=Lib.hid F;have C:=Lib.hid J;clear G F J;go_wp2_with fail;refine S.out.mono ?_;rintro e k ⟨rfl,rfl⟩;go_wp2_with fail;have E:=C.out.trans (M.out.mono C.out.size);refine bodyPost_ret (v:=.tuple #[.iface 242 (.agg #[.int .i64 b,.string s]),.nilIface]) (by simp[results,Tryz.f275,go_sem]) rfl ⟨B.out.trans (E.mono B.out.size),?_⟩;exact⟨_,rfl,by rw[<- N.out];rfl⟩
theorem jvZ (c:Nat) (l:List Int) (a:Option Addr) (len cap h:Nat) (n:Int) (w:World) (f:c=4\/c=8\/c=16\/c=32) (O:SlC jaF 1 w.heap.size w a len cap l) (R:l.length=c+c) (N:jdh l) (Q:h<2^64) (S:U64 n) :
  Calls Tryz.prog 285 #[.agg #[.int .i64 2,.int .i64 c,.slice a len cap],.agg #[.int .u64 h,.int .u64 n]] w (jaE ((Bd.cnt c l).add h n) w):=by
 obtain⟨Y,b,J,L,A,j⟩:=jas w #[.int .i64 2,.int .i64 c,.slice a len cap] 243 #[.int .u64 h,.int .u64 n] 66;obtain⟨o,p⟩:=cl2 L;obtain⟨m,c1,c2⟩:=cl3 J;have U:=Lib.hid (jtK c h n l a len cap Y (jdK c f) (by omega) (by omega) Q S ((O.1.below A).mono A.size) (by omega) N (fun e=>by have:=O.2.2.2.1 e;have:=O.2.1;omega));have B:=Lib.hid A;clear J A L;have E:=Lib.hid (jkY c l h n);have V:Hid (l.length=c+c):=R;clear O R N Q S;go_enter Tryz.func285,Tryz.ntmps285;go_wp2_with fail;refine U.out.mono ?_;rintro e T ⟨g,rfl,H,i,M⟩;have P:Hid (NumsAt T g (jju c l h n)/\(jju c l h n).length=c+c):=⟨H,by rw[E.out];exact V.out⟩;clear H;obtain⟨Z,d,I,G,k⟩:=jab T #[.int .i64 2,.int .i64 c,.slice (some ⟨g,0,none⟩) (2*c) (2*c)] 39;obtain⟨q,r,s⟩:=cl3 I;have X:=Lib.hid (jcJ (.iface 243 (.agg #[.int .i64 2,.int .i64 c,.slice (some ⟨g,0,none⟩) (2*c) (2*c)])) Z);have D:=Lib.hid G;have C:=Lib.hid M;clear I G M;go_wp2_with fail;refine X.out.mono ?_;rintro e t ⟨rfl,rfl⟩;go_wp2_with fail;have F:=C.out.trans (D.out.mono C.out.size);refine bodyPost_ret (v:=.tuple #[.iface 243 (.agg #[.int .i64 2,.int .i64 c,.slice (some ⟨g,0,none⟩) (2*c) (2*c)]),.nilIface]) (by simp[results,Tryz.f285,go_sem]) rfl ⟨B.out.trans (F.mono B.out.size),?_⟩;exact⟨_,rfl,_,_,_,rfl,(jg4 P.out.1 (by rw[P.out.2];omega) (by unfold maxLen;omega)).go D.out⟩
theorem jvY (f:Nat) (l:List (Int × Int)) (a:Option Addr) (len cap h:Nat) (n:Int) (w:World) (S:f<=3) (R:SlC jb4 2 w.heap.size w a len cap l) (hr:jaR f l=true) (X:jbA l) (O:jbl l) (P:l.length<=1000) (V:∀ b∈l,I64 b.1) (T:h<2^64) (U:U64 n) :
  Calls Tryz.prog 304 #[.agg #[.int .i64 f,.slice a len cap],.agg #[.int .u64 h,.int .u64 n]] w (jaE ((Bd.bkt f l).add h n) w):=by
 obtain⟨d,i,L,M,C,k⟩:=jas w #[.int .i64 f,.slice a len cap] 245 #[.int .u64 h,.int .u64 n] 66;obtain⟨q,r⟩:=cl2 M;obtain⟨p,c1⟩:=cl2 L;have Y:=Lib.hid (jqS f l h n a len cap d S ((R.1.below C).mono C.size) hr X O (by have:=R.1.1;omega) V T U);have D:=Lib.hid C;clear L C M;clear R hr X O P V T U S;go_enter Tryz.func304,Tryz.ntmps304;go_wp2_with fail;refine Y.out.mono ?_;rintro e o ⟨Q,B,A,rfl,I,N⟩;have Z:=Lib.hid I;clear I;obtain⟨g,j,J,H,m⟩:=jab o #[.int .i64 f,.slice Q B A] 42;obtain⟨s,t⟩:=cl2 J;have c:=Lib.hid (jcJ (.iface 245 (.agg #[.int .i64 f,.slice Q B A])) g);have F:=Lib.hid H;have E:=Lib.hid N;clear J H N;go_wp2_with fail;refine c.out.mono ?_;rintro e u ⟨rfl,rfl⟩;go_wp2_with fail;have G:=E.out.trans (F.out.mono E.out.size);refine bodyPost_ret (v:=.tuple #[.iface 245 (.agg #[.int .i64 f,.slice Q B A]),.nilIface]) (by simp[results,Tryz.f304,go_sem]) rfl ⟨D.out.trans (G.mono D.out.size),?_⟩;exact⟨_,rfl,_,_,_,rfl,Z.out.go F.out⟩
theorem jww (l:List Int) (a:Option Addr) (len cap:Nat) (w:World) (N:SlC jaF 1 w.heap.size w a len cap l) (Q:jdh l) (J:l.length<=1000) :
  Calls Tryz.prog 249 #[.agg #[.slice a len cap]] w (jaE (some (Bd.num l).low) w):=by
 obtain⟨P,T,H,A,V⟩:=jab w #[.slice a len cap] 240;have Z:P.cell? ⟨w.heap.size,0,none⟩=some (.slice a len cap):=cCc H 0;have O:=Lib.hid (jwo 7 l a len cap P (by decide) (by decide) ((N.1.below A).mono A.size) Q (by have:=N.1.1;omega));have C:=Lib.hid A;clear H A;obtain⟨s,B⟩:∃ s,jat (jgf 7 (jcl 7) (l.map Int.toNat))=s:=⟨_,rfl⟩;rw[B] at O;have M:=Lib.hid B;clear B N Q J;go_enter Tryz.func249,Tryz.ntmps249;go_wp2_with fail;refine O.out.mono ?_;rintro e Y ⟨rfl,I⟩;obtain⟨S,U,G,F,X⟩:=jab Y #[.int .i64 7,.string s] 37;obtain⟨b,c⟩:=cl2 G;have R:=Lib.hid (jcJ (.iface 242 (.agg #[.int .i64 7,.string s])) S);have L:=Lib.hid F;have D:=Lib.hid I;clear G F I;go_wp2_with fail;refine R.out.mono ?_;rintro e d ⟨rfl,rfl⟩;go_wp2_with fail;have E:=D.out.trans (L.out.mono D.out.size);refine bodyPost_ret (v:=.tuple #[.iface 242 (.agg #[.int .i64 7,.string s]),.nilIface]) (by simp[results,Tryz.f249,go_sem]) rfl ⟨C.out.trans (E.mono C.out.size),?_⟩;exact⟨_,rfl,by rw[<- M.out];rfl⟩
theorem jwx (b:Nat) (r:List Nat) (w:World) (N:4<=b) (O:b<=8) (P:r.length=2^b) (hr:∀ i,r.getD i 0<=65-b) :
  Calls Tryz.prog 278 #[.agg #[.int .i64 b,.string (jat r)]] w (jaE (some (Bd.reg b r).low) w):=by
 obtain⟨R,T,H,D,V⟩:=jab w #[.int .i64 b,.string (jat r)] 242;obtain⟨Z,c1⟩:=cl2 H;have M:=Lib.hid (joZ b r R N O P hr);have B:=Lib.hid D;clear H D;obtain⟨s,A⟩:∃ s,jat (jio b r)=s:=⟨_,rfl⟩;rw[A] at M;have L:=Lib.hid A;clear A P hr N O;go_enter Tryz.func278,Tryz.ntmps278;go_wp2_with fail;refine M.out.mono ?_;rintro e Y ⟨rfl,I⟩;obtain⟨S,U,G,F,X⟩:=jab Y #[.int .i64 ((b-1:Nat):Int),.string s] 37;obtain⟨a,c⟩:=cl2 G;have Q:=Lib.hid (jcJ (.iface 242 (.agg #[.int .i64 ((b-1:Nat):Int),.string s])) S);have J:=Lib.hid F;have C:=Lib.hid I;clear G F I;go_wp2_with fail;refine Q.out.mono ?_;rintro e d ⟨rfl,rfl⟩;go_wp2_with fail;have E:=C.out.trans (J.out.mono C.out.size);refine bodyPost_ret (v:=.tuple #[.iface 242 (.agg #[.int .i64 ((b-1:Nat):Int),.string s]),.nilIface]) (by simp[results,Tryz.f278,go_sem]) rfl ⟨B.out.trans (E.mono B.out.size),?_⟩;exact⟨_,rfl,by rw[<- L.out];rfl⟩
theorem jwv (c:Nat) (l:List Int) (a:Option Addr) (len cap:Nat) (w:World) (Q:c=8\/c=16\/c=32) (P:SlC jaF 1 w.heap.size w a len cap l) (f:l.length=c+c) (M:jdh l) :
  Calls Tryz.prog 288 #[.agg #[.int .i64 2,.int .i64 c,.slice a len cap]] w (jaE (some (Bd.cnt c l).low) w):=by
 obtain⟨V,Y,J,A,h⟩:=jab w #[.int .i64 2,.int .i64 c,.slice a len cap] 243;obtain⟨k,c1,c2⟩:=cl3 J;have O:=Lib.hid (jox c l a len cap V (jdK c (by omega)) (jdK (c / 2) (by omega)) Q ((P.1.below A).mono A.size) (by omega) M);have B:=Lib.hid A;clear J A;obtain⟨d,N⟩:∃ d,c / 2=d:=⟨_,rfl⟩;rw[N] at O;have S:=Lib.hid N;have R:Hid (2*d<=64):=(by omega:2*d<=64);have E:Hid ((jf7 c l).length=2*d):=by rw[Hid,jhn];omega
 clear P f M Q N;go_enter Tryz.func288,Tryz.ntmps288;go_wp2_with fail;refine O.out.mono ?_;rintro e j ⟨g,rfl,H,b,L⟩;have T:=Lib.hid (jg4 H E.out (by have:=R.out;unfold maxLen;omega));clear H;obtain⟨X,Z,I,G,i⟩:=jab j #[.int .i64 2,.int .i64 d,.slice (some ⟨g,0,none⟩) (2*d) (2*d)] 39;obtain⟨m,n,o⟩:=cl3 I;have U:=Lib.hid (jcJ (.iface 243 (.agg #[.int .i64 2,.int .i64 d,.slice (some ⟨g,0,none⟩) (2*d) (2*d)])) X);have D:=Lib.hid G;have C:=Lib.hid L;clear I G L;go_wp2_with fail;refine U.out.mono ?_;rintro e p ⟨rfl,rfl⟩;go_wp2_with fail;have F:=C.out.trans (D.out.mono C.out.size);refine bodyPost_ret (v:=.tuple #[.iface 243 (.agg #[.int .i64 2,.int .i64 d,.slice (some ⟨g,0,none⟩) (2*d) (2*d)]),.nilIface]) (by simp[results,Tryz.f288,go_sem]) rfl ⟨B.out.trans (F.mono B.out.size),?_⟩;exact⟨_,rfl,by show BdAt _ _ (.cnt (c / 2) (jf7 c l));rw[S.out];exact⟨_,_,_,rfl,T.out.go D.out⟩⟩
theorem jwu (f:Nat) (l:List (Int × Int)) (a:Option Addr) (len cap:Nat) (w:World) (R:1<=f) (T:f<=3) (S:SlC jb4 2 w.heap.size w a len cap l) (hr:jaR f l=true) (N:∀ b∈l,jaz f b.1=true) (O:jbl l) (P:l.length<=1000) :
  Calls Tryz.prog 307 #[.agg #[.int .i64 f,.slice a len cap]] w (jaE (some (Bd.bkt f l).low) w):=by
 obtain⟨Z,d,L,C,h⟩:=jab w #[.int .i64 f,.slice a len cap] 245;obtain⟨k,c1⟩:=cl2 L;have U:=Lib.hid (jmC f l a len cap Z R T ((S.1.below C).mono C.size) hr N O (by have:=S.1.1;omega));have D:=Lib.hid C;clear L C;have V:Hid (1<=f):=R;clear S hr N O P T R;go_enter Tryz.func307,Tryz.ntmps307;go_wp2_with fail;refine U.out.mono ?_;rintro e j ⟨Q,B,A,rfl,I,M⟩;have X:=Lib.hid I;clear I;obtain⟨c,g,J,H,i⟩:=jab j #[.int .i64 ((f:Int)-1),.slice Q B A] 42;obtain⟨m,n⟩:=cl2 J;have Y:=Lib.hid (jcJ (.iface 245 (.agg #[.int .i64 ((f:Int)-1),.slice Q B A])) c);have F:=Lib.hid H;have E:=Lib.hid M;clear J H M;go_wp2_with fail;refine Y.out.mono ?_;rintro e o ⟨rfl,rfl⟩;go_wp2_with fail;have G:=E.out.trans (F.out.mono E.out.size);refine bodyPost_ret (v:=.tuple #[.iface 245 (.agg #[.int .i64 ((f:Int)-1),.slice Q B A]),.nilIface]) (by simp[results,Tryz.f307,go_sem]) rfl ⟨D.out.trans (G.mono D.out.size),?_⟩;exact⟨_,rfl,_,_,_,by rw[show ((f-1:Nat):Int)=(f:Int)-1 by have:=V.out;omega],X.out.go F.out⟩
end
section
open Go.Extern.Stop Go.Stop Go.Extern
theorem jw6 (t:Value) (w:World) :
  Calls Tryz.prog 170 #[.nilIface,t] w fun e w'=>e=.returned (.bool false)/\w'=w:=by
 go_enter Tryz.func170,Tryz.ntmps170;go_wp2;go_ret;exact⟨rfl,rfl⟩
theorem jkJ (t:Addr) (w:World):(ReflectliteValue.unpack (.iface 296 (.pointer (some t)))).run Tryz.prog w
  = .ok (.agg #[.pointer (some ⟨4,296,none⟩),.pointer (some ⟨w.heap.size,0,none⟩),.int .u64 150]) (w.alloc (.cells #[.pointer (some t)] 296)):=by kernel_rfl
theorem jqa (a : Addr) (w : World) : (ReflectliteValue.methodAny (ReflectliteValue.valueError "reflectlite.Value.Type" 0) (fun t _ _ _ => ReflectliteType.toType t) #[.agg #[.pointer (some ⟨4, 296, none⟩), .pointer (some a), .int .u64 150]]).run Tryz.prog w
  = .ok (.iface 365 (.agg #[.pointer (some ⟨4,296,none⟩)])) w:=by kernel_rfl
theorem jjr (h : Value) (w : World) : (Go.method 590 365 (.agg #[h]) "Kind").run Tryz.prog w = .ok (239, h) w := by kernel_rfl
theorem jp9 (w:World):((ReflectliteType.abiMethod fun t=>(fun a:Nat=>Value.int IntKind.u8 (a:Int)) <$> Rtype.kind t) #[.pointer (some ⟨4,296,none⟩)]).run Tryz.prog w=.ok (.int .u8 22) w:=by kernel_rfl
theorem jp8 (w:World):((ReflectliteType.abiMethod fun t=>(fun a:Nat=>Value.int IntKind.u8 (a:Int)) <$> Rtype.kind t) #[.pointer (some ⟨4,171,none⟩)]).run Tryz.prog w=.ok (.int .u8 22) w:=by kernel_rfl
theorem rlm (z:Sem Value) (f:TypeId->Addr->Nat->Nat->Sem Value) (v:Value) :
  ReflectliteValue.method z f #[v]=(do match <- ReflectliteValue.parts v with | none=>z | some (t,a,fl)=>f t a fl (fl % 32)):=rfl
theorem jiE (a:Addr) (w:World):(ReflectliteValue.parts (.agg #[.pointer (some ⟨4,296,none⟩),.pointer (some a),.int .u64 150])).run Tryz.prog w=.ok (some (296,a,150)) w:=by kernel_rfl
theorem jot (a p:Addr) (W:World) (ha:W.cell? a=some (.pointer (some p))) :
  (ReflectliteValue.method (ReflectliteValue.valueError "reflectlite.Value.IsNil" 0) ReflectliteValue.isNil #[.agg #[.pointer (some ⟨4, 296, none⟩), .pointer (some a), .int .u64 150]]).run Tryz.prog W = .ok (.bool false) W := by
 rw[rlm];simp only[Sem.run_bind,jiE,Result.andThen];simp[ReflectliteValue.isNil,loadVar,isAgg,underlying,Tryz.underlying296,ha,Result.andThen]
theorem jjq (h : Value) (w : World) : (Go.method 590 365 (.agg #[h]) "Elem").run Tryz.prog w = .ok (353, .agg #[h]) w := by kernel_rfl
theorem jfh (h : Value) (w : World) : (Go.method 590 365 (.agg #[h]) "Implements").run Tryz.prog w = .ok (354, .agg #[h]) w := by kernel_rfl
theorem jeo (h : Value) (w : World) : (Go.method 590 365 (.agg #[h]) "AssignableTo").run Tryz.prog w = .ok (351, .agg #[h]) w := by kernel_rfl
theorem jp7 (w:World):(ReflectliteType.method ReflectliteType.elem #[.agg #[.pointer (some ⟨4,296,none⟩)]]).run Tryz.prog w=.ok (.iface 365 (.agg #[.pointer (some ⟨4,171,none⟩)])) w:=by kernel_rfl
theorem jhj (w : World) : (ReflectliteType.relation "Implements" ReflectliteType.implements_ #[.agg #[.pointer (some ⟨4, 171, none⟩)], .iface 365 (.agg #[.pointer (some ⟨4, 119, none⟩)])]).run Tryz.prog w = .ok (.bool true) w := by kernel_rfl
theorem jmj (v:Value) (w:World):(ReflectliteType.typeOf #[.iface 171 v]).run Tryz.prog w=.ok (.iface 365 (.agg #[.pointer (some ⟨4,171,none⟩)])) w:=by kernel_rfl
theorem jhi (w : World) : (ReflectliteType.relation "AssignableTo" ReflectliteType.assignableTo #[.agg #[.pointer (some ⟨4, 171, none⟩)], .iface 365 (.agg #[.pointer (some ⟨4, 171, none⟩)])]).run Tryz.prog w = .ok (.bool true) w := by kernel_rfl
theorem jkI (e:Addr) (w:World):(ReflectliteValue.unpack (.iface 171 (.pointer (some e)))).run Tryz.prog w
  = .ok (.agg #[.pointer (some ⟨4,171,none⟩),.pointer (some ⟨w.heap.size,0,none⟩),.int .u64 150]) (w.alloc (.cells #[.pointer (some e)] 171)):=by kernel_rfl
theorem jmh (w:World):(Rtype.elem? 296).run Tryz.prog w=.ok (some 171) w:=by kernel_rfl
theorem jv8 (p:Addr) (w:World):(ReflectliteValue.mk 171 p ReflectliteValue.flagAddr).run Tryz.prog w=.ok (.agg #[.pointer (some ⟨4,171,none⟩),.pointer (some p),.int .u64 406]) w:=by kernel_rfl
theorem jos (a p:Addr) (W:World) (ha:W.cell? a=some (.pointer (some p))) :
  (ReflectliteValue.method (ReflectliteValue.valueError "reflectlite.Value.Elem" 0) ReflectliteValue.elem #[.agg #[.pointer (some ⟨4, 296, none⟩), .pointer (some a), .int .u64 150]]).run Tryz.prog W
   = .ok (.agg #[.pointer (some ⟨4,171,none⟩),.pointer (some p),.int .u64 406]) W:=by
 rw[rlm];simp only[Sem.run_bind,jiE,Result.andThen];simp[ReflectliteValue.elem,loadVar,isAgg,underlying,Tryz.underlying296,ha,Result.andThen,jmh,jv8]
theorem rls (v x:Value):ReflectliteValue.set #[v,x]=(do
  let (some (dst,a,fl),some (src,b,_)):=(<- ReflectliteValue.parts v,<- ReflectliteValue.parts x)
   | unsupported (.noEntry "extern/(internal/reflectlite.Value).Set.zeroValue")
  if fl / ReflectliteValue.flagAddr % 2 == 0 then unsupported (.noEntry "extern/(internal/reflectlite.Value).Set.unaddressable")
  let val <- loadVar src b;if <- Rtype.directlyAssignable dst src then storeVar dst a val
  else if <- Rtype.implements dst src then
   if (<- Rtype.kind src)==20 then
    match val with
    | .nilIface => unsupported (.noEntry "extern/reflectlite: a nil value of one interface type handed on as a value of another")
    | _=>storeVar dst a val
   else storeVar dst a (.iface src val)
  else panicString ("reflectlite.Set: value of type " ++ (<- Rtype.spelt src) ++ " is not assignable to type " ++ (<- Rtype.spelt dst))
  pure (.tuple #[])):=rfl
theorem jmi (a:Addr) (w:World):(ReflectliteValue.parts (.agg #[.pointer (some ⟨4,171,none⟩),.pointer (some a),.int .u64 406])).run Tryz.prog w=.ok (some (171,a,406)) w:=by kernel_rfl
theorem jou (a:Addr) (w:World):(ReflectliteValue.parts (.agg #[.pointer (some ⟨4,171,none⟩),.pointer (some a),.int .u64 150])).run Tryz.prog w=.ok (some (171,a,150)) w:=by kernel_rfl
theorem jmg (w:World):(Rtype.directlyAssignable 171 171).run Tryz.prog w=.ok true w:=by kernel_rfl
theorem jtg (ta b e:Addr) (A:Value) (W:World) (hb:W.cell? b=some (.pointer (some e))) (ht:W.cell? ta=some A) (B:W.frozen? ta=false) :
  (ReflectliteValue.set #[.agg #[.pointer (some ⟨4,171,none⟩),.pointer (some ta),.int .u64 406],.agg #[.pointer (some ⟨4,171,none⟩),.pointer (some b),.int .u64 150]]).run Tryz.prog W
   = .ok (.tuple #[]) (W.setCell ta (.pointer (some e))):=by
 rw[rls];simp only[Sem.run_bind,jmi,jou,Result.andThen];simp[ReflectliteValue.flagAddr,loadVar,isAgg,underlying,Tryz.underlying171,hb,Result.andThen,jmg,storeVar,Value.cells,storeCells,Addr.add];rw[run_store Tryz.prog W ta _ _ (by rfl)];simp[ht,B]
theorem jw5 (e t:Addr) (C:Value) (w:World) (F:w.cell? ⟨0,0,none⟩=some (.iface 365 (.agg #[.pointer (some ⟨4,119,none⟩)]))) (A:w.cell? t=some C) (D:w.frozen? t=false) :
  Calls Tryz.prog 170 #[.iface 171 (.pointer (some e)),.iface 296 (.pointer (some t))] w fun I w'=>I=.returned (.bool true)/\w'=((((w.alloc (.cells #[.pointer (some t)] 296)).alloc (.cells #[.pointer (some ⟨4,296,none⟩),.pointer (some ⟨w.heap.size,0,none⟩),.int .u64 150] 330)).alloc (.cells #[.pointer (some ⟨4,296,none⟩),.pointer (some ⟨w.heap.size,0,none⟩),.int .u64 150] 330)).alloc (.cells #[.pointer (some e)] 171)).setCell t (.pointer (some e)):=by
 have Z:=@run_callFunc_extern Tryz.prog 195 _ (fun args=>ReflectliteValue.unpack (args.getD 0 (.tuple #[]))) Tryz.func195 (by kernel_rfl) (by kernel_rfl) (by kernel_rfl) (by kernel_rfl);have a := @run_callFunc_extern Tryz.prog 196 _ (ReflectliteValue.methodAny (ReflectliteValue.valueError "reflectlite.Value.Type" 0) (fun t _ _ _ => ReflectliteType.toType t)) Tryz.func196 (by kernel_rfl) (by kernel_rfl) (by kernel_rfl) (by kernel_rfl);have b := @run_callFunc_extern Tryz.prog 197 _ (ReflectliteValue.method (ReflectliteValue.valueError "reflectlite.Value.IsNil" 0) ReflectliteValue.isNil) Tryz.func197 (by kernel_rfl) (by kernel_rfl) (by kernel_rfl) (by kernel_rfl);have N:=@run_callFunc_extern Tryz.prog 239 _ (ReflectliteType.abiMethod fun t=>do pure (.int .u8 (<- Rtype.kind t))) Tryz.func239 (by kernel_rfl) (by kernel_rfl) (by kernel_rfl) (by kernel_rfl);have P:=@run_callFunc_extern Tryz.prog 353 _ (ReflectliteType.method ReflectliteType.elem) Tryz.func353 (by kernel_rfl) (by kernel_rfl) (by kernel_rfl) (by kernel_rfl);have Q := @run_callFunc_extern Tryz.prog 354 _ (ReflectliteType.relation "Implements" ReflectliteType.implements_) Tryz.func354 (by kernel_rfl) (by kernel_rfl) (by kernel_rfl) (by kernel_rfl);have J:=@run_callFunc_extern Tryz.prog 214 _ ReflectliteType.typeOf Tryz.func214 (by kernel_rfl) (by kernel_rfl) (by kernel_rfl) (by kernel_rfl)
 have O := @run_callFunc_extern Tryz.prog 351 _ (ReflectliteType.relation "AssignableTo" ReflectliteType.assignableTo) Tryz.func351 (by kernel_rfl) (by kernel_rfl) (by kernel_rfl) (by kernel_rfl);have L := @run_callFunc_extern Tryz.prog 215 _ (ReflectliteValue.method (ReflectliteValue.valueError "reflectlite.Value.Elem" 0) ReflectliteValue.elem) Tryz.func215 (by kernel_rfl) (by kernel_rfl) (by kernel_rfl) (by kernel_rfl);have M:=@run_callFunc_extern Tryz.prog 216 _ ReflectliteValue.set Tryz.func216 (by kernel_rfl) (by kernel_rfl) (by kernel_rfl) (by kernel_rfl);have k:=jmj;have c:=jeo;have G:=jhi;have V:=jkI;have X:=jkJ;have Y:=jqa;have g:=jjr;have d:=jjq;have f:=jfh;have U:=jp9;have T:=jp8;have H:=jp7;have S:=jhj;have i:=jot ⟨w.heap.size,0,none⟩ t ((w.alloc (.cells #[.pointer (some t)] 296)).alloc (.cells #[.pointer (some ⟨4,296,none⟩),.pointer (some ⟨w.heap.size,0,none⟩),.int .u64 150] 330)) (by simp);have E:0<w.heap.size:=World.block_lt_of_cell? w _ F
 have R:((w.alloc (.cells #[.pointer (some t)] 296)).alloc (.cells #[.pointer (some ⟨4,296,none⟩),.pointer (some ⟨w.heap.size,0,none⟩),.int .u64 150] 330)).cell? ⟨0,0,none⟩=some (.iface 365 (.agg #[.pointer (some ⟨4,119,none⟩)])):=by
  rw[World.cell?_alloc_lt _ _ ⟨0,0,none⟩ (by simp<;>omega),World.cell?_alloc_lt _ _ ⟨0,0,none⟩ E];exact F
 have B:t.block<w.heap.size:=by
  rcases Nat.lt_or_ge t.block w.heap.size with h | h
  ·exact h
  ·simp[World.cell?,Array.getElem?_eq_none h] at A
 have el:=jos ⟨w.heap.size,0,none⟩ t (((w.alloc (.cells #[.pointer (some t)] 296)).alloc (.cells #[.pointer (some ⟨4,296,none⟩),.pointer (some ⟨w.heap.size,0,none⟩),.int .u64 150] 330)).alloc (.cells #[.pointer (some ⟨4,296,none⟩),.pointer (some ⟨w.heap.size,0,none⟩),.int .u64 150] 330)) (by rw[World.cell?_alloc_lt _ _ ⟨w.heap.size,0,none⟩ (by simp;omega)];simp)
 have j:=jtg t ⟨w.heap.size+1+1+1,0,none⟩ e C ((((w.alloc (.cells #[.pointer (some t)] 296)).alloc (.cells #[.pointer (some ⟨4,296,none⟩),.pointer (some ⟨w.heap.size,0,none⟩),.int .u64 150] 330)).alloc (.cells #[.pointer (some ⟨4,296,none⟩),.pointer (some ⟨w.heap.size,0,none⟩),.int .u64 150] 330)).alloc (.cells #[.pointer (some e)] 171))
  (by rw[World.cell?_alloc_at _ _ _ _ (by simp)];rfl)
  (by rw[World.cell?_alloc_lt _ _ t (by simp;omega),World.cell?_alloc_lt _ _ t (by simp;omega),World.cell?_alloc_lt _ _ t (by simp;omega),World.cell?_alloc_lt _ _ t B];exact A)
  (by rw[World.frozen?_alloc_old _ _ t (by simp;omega),World.frozen?_alloc_old _ _ t (by simp;omega),World.frozen?_alloc_old _ _ t (by simp;omega),World.frozen?_alloc_old _ _ t (Nat.ne_of_lt B)];exact D)
 go_enter Tryz.func170,Tryz.ntmps170;go_wp2;refine wp_loop_rounds 1 ?_;rw[rounds_succ];go_wp2;go_ret;exact⟨rfl,rfl⟩
def GT (w:World):Prop:=w.cell? ⟨0,0,none⟩=some (.iface 365 (.agg #[.pointer (some ⟨4,119,none⟩)]))
theorem GT.lt {w:World} (h:GT w):0<w.heap.size:=World.block_lt_of_cell? w _ h
theorem GT.go {w w':World} (h:GT w) (hb:Bw w w'):GT w':=(hb.cell (p:=⟨0,0,none⟩) h.lt).trans h
theorem jqH (w:World):CR 122 #[.nilIface] w (.int .i64 0):=by
 have A:=fun t=>jw6 t (w.alloc (.cells #[.pointer none] 171))
 go_enter Tryz.func122,Tryz.ntmps122;go_wp2_with fail;refine (A _).mono ?_;rintro e B ⟨rfl,rfl⟩;go_wp2_with fail;go_ret;exact⟨rfl,(Below.refl _ w).alloc (Nat.le_refl _) _⟩
theorem jmu (v:Value) (no:Int) (w:World) (Q:GT w) (T:jmd w v no):CR 122 #[v] w (.int .i64 no):=by
 obtain⟨b,rfl,hb⟩:=T;obtain⟨I,R,C,A,U⟩:=jab w #[.pointer none] 171;have P:=jw5 ⟨b,0,none⟩ ⟨w.heap.size,0,none⟩ (.pointer none) I (Q.go A) (cCc C 0) (cFz C 0);obtain⟨D,F⟩:∃ D,(((I.alloc (.cells #[.pointer (some ⟨w.heap.size,0,none⟩)] 296)).alloc (.cells #[.pointer (some ⟨4,296,none⟩),.pointer (some ⟨I.heap.size,0,none⟩),.int .u64 150] 330)).alloc (.cells #[.pointer (some ⟨4,296,none⟩),.pointer (some ⟨I.heap.size,0,none⟩),.int .u64 150] 330)).alloc (.cells #[.pointer (some ⟨b,0,none⟩)] 171)=D:=⟨_,rfl⟩
 have B:Bw I D:=by
  rw[<- F];exact ((((Below.refl _ I).alloc (Nat.le_refl _) _).alloc (by simp<;>omega) _).alloc (by simp<;>omega) _).alloc (by simp<;>omega) _
 rw[F] at P;have L:=known B (Nat.le_refl _) C;have S:=(Array.getElem?_eq_some_iff.1 hb).1;have M:=known (A.trans (B.mono A.size)) (Nat.le_refl _) hb;have G:(D.setCell ⟨w.heap.size,0,none⟩ (.pointer (some ⟨b,0,none⟩))).heap[w.heap.size]? = some (.cells #[.pointer (some ⟨b,0,none⟩)] 171 (0,0)):=hSk L _;have H:=(jaa (W:=D) (p:=⟨w.heap.size,0,none⟩) (b:=b) (by show w.heap.size≠b;omega) (.pointer (some ⟨b,0,none⟩))).trans M;have E:Bw w (D.setCell ⟨w.heap.size,0,none⟩ (.pointer (some ⟨b,0,none⟩))):=(A.trans (B.mono A.size)).setCell (p:=⟨w.heap.size,0,none⟩) (Nat.le_refl _) _;obtain⟨N,J⟩:∃ N,D.setCell ⟨w.heap.size,0,none⟩ (.pointer (some ⟨b,0,none⟩))=N:=⟨_,rfl⟩;rw[J] at P G H E;have V:N.cell? ⟨w.heap.size,0,none⟩=some (.pointer (some ⟨b,0,none⟩)):=cCc G 0;have X:N.cell? ⟨b,0,none⟩=some (.int .i64 no):=cCc H 0;have O:=Lib.hid E;clear Q hb C A F B L M G H E J;go_enter Tryz.func122,Tryz.ntmps122;go_wp2_with fail;refine P.mono ?_;rintro e Y ⟨rfl,rfl⟩;go_wp2_with fail;go_ret;exact⟨rfl,O.out⟩
theorem jiT (w:World):CR 120 #[.nilIface] w (.bool false):=by
 have A:=jqH w;go_enter Tryz.func120,Tryz.ntmps120;go_wp2_with fail;refine A.mono ?_;rintro e B ⟨rfl,hb⟩;go_wp2_with fail;go_ret;exact⟨rfl,hb⟩
theorem jgE (v:Value) (no:Int) (w:World) (C:GT w) (B:jmd w v no):CR 120 #[v] w (.bool (no==60)):=by
 have A:=jmu v no w C B;go_enter Tryz.func120,Tryz.ntmps120;go_wp2_with fail;refine A.mono ?_;rintro e D ⟨rfl,hb⟩;go_wp2_with fail;go_ret;exact⟨rfl,hb⟩
end
section
open Go.ChangeShapes Go.WideShapes Go.ChangeAt Go.Lib Go.Deep Go.Shelf
theorem own:ownKnob Tryz.prog.godebug=none:=by kernel_rfl
theorem jq6:laidOutB Tryz.prog=true:=by kernel_rfl
theorem jsG:Tryz.prog.underlying 4=some .bool:=by kernel_rfl
theorem jji:Tryz.prog.underlying 22=some (.int .u64):=by kernel_rfl
theorem jsI:Tryz.prog.underlying 9=some .string:=by kernel_rfl
theorem jsH:Tryz.prog.underlying 3=some (.int .i64):=by kernel_rfl
theorem jbW {a b:Bool} (ha:a=true) (hb:b=true):(a&&b)=true:=by rw[ha,hb];rfl
theorem jvx:mapsRowed Tryz.pinned.checked.prog=true:=by kernel_rfl
theorem jxt:laidOutB Tryz.pinned.checked.prog=true:=by kernel_rfl
theorem jrK:(Tryz.pinned.checked.prog.stops==[])=true:=by kernel_rfl
theorem jrJ:(Tryz.pinned.checked.prog.stopKnobs==[])=true:=by kernel_rfl
theorem jrI:Tryz.pinned.checked.prog.stopsHeard=true:=by kernel_rfl
theorem jrH:Tryz.pinned.checked.prog.mayEnter=true:=by kernel_rfl
theorem jvu:(Rows.tenantNoneRow.plainKeys==Tryz.pinned.checked.prog.plainKeys)=true:=by kernel_rfl
theorem jvv:(Rows.tenantNoneRow.lifted==Tryz.pinned.checked.prog.liftsFinal)=true:=by kernel_rfl
theorem jvw:(Tryz.pinned.checked.prog.make==some Rows.tenantNoneRow.make)=true:=by kernel_rfl
theorem gET : Tryz.prog.globalNamed "errors.errorType" = some 0 := by kernel_rfl
theorem rtCut : (Tryz.prog.cutTypes.find? (·.1 == "internal/reflectlite.rtype")).map (·.2) = some 365 := by kernel_rfl
theorem jxr:((List.range 490).filter fun t=>Tryz.prog.rowNamed t [101,114,114,111,114])=[119]:=by kernel_rfl
theorem jsC:Tryz.prog.types.size=490:=by kernel_rfl
theorem jxh {W : World} (h : handlesMet Tryz.prog [("errors.errorType", Rows.laid_errors_errorType)] W) : GT W := by
 obtain⟨name,u,J,D,E,F,G,A⟩:=h _ (List.mem_singleton.2 rfl);have H:name=[101,114,114,111,114]:=(Option.some.inj D).symm;subst H;obtain rfl:=Option.some.inj (rtCut.symm.trans E);have C:J∈(List.range 490).filter fun t=>Tryz.prog.rowNamed t [101,114,114,111,114]:=List.mem_filter.2 ⟨List.mem_range.2 (by rw[<- jsC];exact F),G⟩
 rw[jxr] at C;obtain rfl:=List.mem_singleton.1 C;have I:typeHandle Tryz.prog 119=.pointer (some ⟨4,119,none⟩):=by kernel_rfl
 rw[I] at A;have B:=World.var?_cell gET A 0;simp at B;exact B
section
variable {H:Type} {enc:TypeId × Value->H} {w:World} {base:Nat} {held:Bool}
theorem SlC.map {α β:Type} {encA:β->List Value} {k n:Nat} {a:Option Addr} {len cap:Nat} {f:α->β} {l:List α} (h:SlC (fun x=>encA (f x)) k n w a len cap l):SlC encA k n w a len cap (l.map f) :=
 ⟨⟨by rw[List.length_map];exact h.1.1,fun j x A=>by rw[List.getElem?_map] at A;obtain⟨y,B,rfl⟩:=Option.map_eq_some_iff.1 A;exact h.1.2 j y B⟩,h.2⟩
theorem jjk {n:Int} (w0:(Lit.int .u64 n).wf=true):U64 n:=by
 simp only[Lit.wf,IntKind.min,IntKind.max,IntKind.signed,IntKind.bits,Bool.and_eq_true] at w0;exact⟨by simpa using w0.1,by have:=w0.2;simp at this;omega⟩
theorem wf_i64 {n:Int} (w0:(Lit.int .i64 n).wf=true):I64 n:=by
 simp only[Lit.wf,IntKind.min,IntKind.max,IntKind.signed,IntKind.bits,Bool.and_eq_true] at w0;exact⟨by have:=w0.1;simp at this;omega,by have:=w0.2;simp at this;omega⟩
theorem jj8 {t:TypeId} {r:Reach} {A:Nat} {v:Value} {d:DataW H} {p:List MemPlace} (ht:Tryz.prog.underlying t=some .string) (B:Value.okWide Tryz.prog w r A t v) (_h:DataW.Trod enc Tryz.prog w base (fun _=>true) held t v d p):∃ s:ByteArray,v=.string s/\True:=by
 obtain⟨s,rfl⟩:=okWide_string ht B;exact⟨s,rfl,trivial⟩
end
def eT : String × DataW Unit := ("errors.errorType", Rows.laid_errors_errorType)
def ju0:Obj->Obj
 | .cells _ t frozen=>.cells #[.iface 365 (.agg #[.pointer (some ⟨4,119,none⟩)])] t frozen
 | o=>o
end
structure GW (w:World):Prop where
 utf8:Lib.Utf8Tabs 1 2 w
 maxLen:∃ m,w.cell? ⟨3,0,none⟩=some (.int .i64 m)
 size:4<=w.heap.size
theorem GW.below {w w':World} (h:GW w) (hb:Bw w w'):GW w' :=
 ⟨Utf8Tabs_below h.utf8 hb,let ⟨m,hm⟩:=h.maxLen;⟨m,(hb.cell (p:=⟨3,0,none⟩) (by have:=h.size;show 3<w.heap.size;omega)).trans hm⟩,Nat.le_trans h.size hb.size⟩
def ja7 (c:Int):Bool:=decide (97<=c)&&decide (c<=122)
def jbj (c:Int):Bool:=decide (32<=c)&&(c != 127)
theorem jcx (c:Int) (w:World):Calls Tryz.prog 167 #[.int .i32 c] w fun e w'=>e=.returned (.bool (ja7 c))/\w=w':=by
 by_cases A:97<=c
 ·go_enter Tryz.func167,Tryz.ntmps167
  go_wp2;go_ret;exact⟨by simp[ja7,A],rfl⟩
 ·go_enter Tryz.func167,Tryz.ntmps167
  go_wp2;go_ret;exact⟨by simp[ja7];omega,rfl⟩
theorem jca (c:Int) (w:World):Calls Tryz.prog 168 #[.int .i32 c] w fun e w'=>e=.returned (.bool (jbj c))/\w=w':=by
 by_cases A:32<=c
 ·go_enter Tryz.func168,Tryz.ntmps168
  go_wp2;go_ret;exact⟨by simp[jbj,A],rfl⟩
 ·go_enter Tryz.func168,Tryz.ntmps168
  go_wp2;go_ret;exact⟨by simp[jbj];omega,rfl⟩
def jdu (s:ByteArray):Bool:=s.size != 0&&decide (s.size<=12)&&(rl s 0).all fun p=>ja7 p.2
theorem jo4 (s:ByteArray) (w:World) (S:s.size<=maxLen):CR 116 #[.string s] w (.bool (jdu s)):=by
 unfold maxLen at S;have B:=jcz s;by_cases J:s.size=0
 ·have M:s.toList.isEmpty=true:=by rw[B];simp[J]
  have Q:s.toList=[]:=by simpa using M
  clear B;go_enter Tryz.func116,Tryz.ntmps116;go_wp2_with fail;go_ret;exact⟨by simp[jdu,J],Below.refl _ _⟩
 ·have M:s.toList.isEmpty=false:=by rw[B];simp[J]
  have Q:¬ s.toList=[]:=by simpa using M
  clear B;by_cases G:s.size<=12
  ·have R:decide ((12:Int)<s.size)=false:=by simp;omega
   go_enter Tryz.func116,Tryz.ntmps116;go_wp2_with fail;go_loopw [] (fun wr=>∃ pos,wr.heap[w.heap.size]? = some (.stringIter s pos)/\Bw w wr/\Hid (((rl s 0).all fun p=>ja7 p.2)=(rl s pos).all fun p=>ja7 p.2)) (fun wr=>s.size-wr.iterPos w.heap.size)
   case atStart=>exact⟨0,World.iter_heap w s 0,(Below.refl _ _).alloc (Nat.le_refl _) _,rfl⟩
   case round =>
    obtain⟨pos,E,H,L⟩:=hrel;have F:=jaw E;by_cases I:pos<s.size
    ·obtain⟨T,N,D,C,-,-⟩:=jd0 (P:=Tryz.prog) E H (Nat.le_refl _) I
     have A:=Lib.hid (jgm s pos I);have U:=jdU s pos I;go_wp2_with (go_at_call 167;refine (jcx _ _).mono ?_;rintro e w' ⟨rfl,rfl⟩)
     ·go_ret
      exact⟨by have:=L.out;simp_all [jdu,A.out],C⟩
     ·go_roundw
      case rel=>exact⟨_,D,C,by have:=L.out;rw[A.out] at this;simp_all [Hid]⟩
      case measure=>rw[jaw D,F];omega
    ·have N:∀ O,(Instr.next (.pointer (some ⟨w.heap.size,0,none⟩)) true O).run Tryz.prog wr=_:=fun O=>Lib.run_next_end_at wr w.heap.size s pos O E I
     go_wp2_with fail;go_ret;exact⟨by have:=L.out;rw[ji7 s pos I] at this;simp[jdu,J,G,this],H⟩
  ·have R:decide ((12:Int)<s.size)=true:=by simp;omega
   go_enter Tryz.func116,Tryz.ntmps116;go_wp2_with fail;go_ret;exact⟨by simp[jdu,G],Below.refl _ _⟩
def jhW (s:ByteArray) (p:Nat × Int):Bool:=p.2==65533&&((Lib.decodeGo (s.extract p.1 s.size)).2:Int)==1
def jcg (s:ByteArray):Bool:=(rl s 0).all fun p => !jhW s p
def jfX (s:ByteArray):Int:=if jcg s then ((rl s 0).length:Int) else 0
theorem jfx (s:ByteArray) (w:World) (f:s.size<=maxLen) (a:GW w):CR 109 #[.string s] w (.tuple #[.int .i64 (jfX s),.bool (jcg s)]):=by
 unfold maxLen at f;go_enter Tryz.func109,Tryz.ntmps109;go_wp2_with fail;go_loopw [4] (fun n wr=>∃ pos k,wr.heap[w.heap.size]? = some (.stringIter s pos)/\Bw w wr/\n=.int .i64 (k:Nat)/\k<=pos/\Hid ((rl s 0).length=k+(rl s pos).length/\(jcg s=(rl s pos).all fun p => !jhW s p))) (fun _ wr=>s.size-wr.iterPos w.heap.size)
 case atStart=>exact⟨0,0,World.iter_heap w s 0,(Below.refl _ _).alloc (Nat.le_refl _) _,rfl,Nat.le_refl _,by simp[Hid,jcg]⟩
 case round =>
  obtain⟨pos,k,E,N,rfl,c,G⟩:=hrel;have F:=jaw E;by_cases O:pos<s.size
  ·obtain⟨Y,U,C,A,Q,-⟩:=jd0 (P:=Tryz.prog) E N (Nat.le_refl _) O
   have B:=Lib.hid (jgm s pos O);have g:=jdU s pos O;have Z:=(a.below A).utf8;have b:Below w.heap.size Y Y:=Below.refl _ _;by_cases H:((Utf8.decode s pos).1:Int)=65533
   ·have T:(((Utf8.decode s pos).1:Int)==65533)=true:=by simp[H]
    have d:(pos:Int)<=s.size:=by omega
    have R:=Lib.hid H;clear H;by_cases I:((Lib.decodeGo (s.extract pos s.size)).2:Int)=1
    ·have V:(((Lib.decodeGo (s.extract pos s.size)).2:Int)==1)=true:=by simp[I]
     have S:=Lib.hid I;clear I;go_wp2_with (go_at_call 153;refine (Tryz.utf8_DecodeRuneInString _ _ Z).mono ?_;rintro e w' ⟨rfl,D⟩);go_ret2;have J:jcg s=false:=by rw[G.out.2,B.out];simp[jhW,R.out,S.out]
     exact⟨by simp[jfX,J],A.trans (D.mono (by have:=A.size;omega))⟩
    ·have V:(((Lib.decodeGo (s.extract pos s.size)).2:Int)==1)=false:=by simpa using I
     have S:=Lib.hid I;clear I;go_wp2_with (go_at_call 153;refine (Tryz.utf8_DecodeRuneInString _ _ Z).mono ?_;rintro e w' ⟨rfl,D⟩);go_roundw
     case rel=>exact⟨_,k+1,(D.block _ (by rw[Q];have:=(Array.getElem?_eq_some_iff.1 E).1;exact this)).trans C,A.trans (D.mono (by have:=A.size;omega)),by go_num,by omega,by have L:=G.out.1;have M:=G.out.2;rw[B.out] at L M;refine⟨by simp at L;omega,by rw[M];simp[jhW,S.out]⟩⟩
     case measure=>rw[jaw ((D.block _ (by rw[Q];have:=(Array.getElem?_eq_some_iff.1 E).1;exact this)).trans C),F];omega
   ·have T:(((Utf8.decode s pos).1:Int)==65533)=false:=by simpa using H
    have R:=Lib.hid H;clear H;go_wp2_with fail;go_roundw
    case rel=>exact⟨_,k+1,C,A,by go_num,by omega,by have L:=G.out.1;have M:=G.out.2;rw[B.out] at L M;refine⟨by simp at L;omega,by rw[M];simp[jhW,R.out]⟩⟩
    case measure=>rw[jaw C,F];omega
  ·have U:∀ X,(Instr.next (.pointer (some ⟨w.heap.size,0,none⟩)) true X).run Tryz.prog wr=_:=fun X=>Lib.run_next_end_at wr w.heap.size s pos X E O
   go_wp2_with fail;go_ret2;have J:=G.out;rw[ji7 s pos O] at J;simp at J;exact⟨by simp[jfX,J],N⟩
section
open Go.Shelf
theorem jnF (f:Nat):∀ (l:List (Int × Int)) (A:Int),jbA l->(∀ b∈l,A<b.1)->(∀ b∈l,b.2≠0)->(∀ b∈l,jaz f b.1=true)->(jck (jcw f) A l).isSome=true
 | [],A,_,_,_,_=>by simp[jhw]
 | b::t,A,hu,h1,h2,h3=>by
  obtain⟨F,G⟩:=jcV hu
  have E:jcw f A b=some b.1:=by
   unfold jcw;have H:=h1 b List.mem_cons_self;have C:=h2 b List.mem_cons_self;have D:=h3 b List.mem_cons_self;rw[if_neg];simp[C,D];omega
  rw[jdD,E];exact jnF f t b.1 F G (fun c B=>h2 c (List.mem_cons_of_mem _ B)) (fun c B=>h3 c (List.mem_cons_of_mem _ B))
theorem jcX (f:Nat) (l:List (Int × Int)) (B:f<=3) (D:jbA l) (C:∀ b∈l,b.2≠0) (A:∀ b∈l,jaz f b.1=true):jaR f l=true:=by
 unfold jaR;rw[jbZ f B,jnF f l (-1) D (fun b hb=>by have:=jb6 f B b.1 (A b hb);omega) C A];rfl
theorem jvF:∀ (l:List (Int × Int)) (A:Int),jbA l->(∀ b∈l,A<b.1)->(∀ b∈l,b.1<=512)->A<=512->(l.length:Int)<=512-A
 | [],A,_,_,_,h=>by simp;omega
 | b::t,A,hu,h1,h2,h=>by
  obtain⟨D,E⟩:=jcV hu;have F:=h1 b List.mem_cons_self;have B:=h2 b List.mem_cons_self;have:=jvF t b.1 D E (fun c C=>h2 c (List.mem_cons_of_mem _ C)) B;simp only[List.length_cons];omega
theorem jdn (f:Nat) (l:List (Int × Int)) (B:f<=3) (C:jbA l) (A:∀ b∈l,jaz f b.1=true):l.length<=513:=by
 have:=jvF l (-1) C (fun b hb=>by have:=jb6 f B b.1 (A b hb);omega) (fun b hb=>(jb6 f B b.1 (A b hb)).2) (by omega);omega
theorem jfC (f:Nat) (l:List (Int × Int)) (B:f<=3) (A:∀ b∈l,jaz f b.1=true):∀ b∈l,I64 b.1:=fun b hb=>by have:=jb6 f B b.1 (A b hb);unfold I64;omega
theorem jdR {c level:Nat} (h:c*2^level=32) (A:level<=3):c=4\/c=8\/c=16\/c=32:=by
 rcases (by omega:level=0\/level=1\/level=2\/level=3) with rfl | rfl | rfl | rfl<;>simp at h<;>omega
theorem jtR {c level:Nat} (h:c*2^level=32) (A:level<3):c=8\/c=16\/c=32:=by
 rcases (by omega:level=0\/level=1\/level=2) with rfl | rfl | rfl<;>simp at h<;>omega
theorem jrg (x : Value) (w : World) : (method 590 240 (.agg #[x]) "aviary/ladder.add").run Tryz.prog w = .ok (246, .agg #[x]) w := by kernel_rfl
theorem jrh (x y : Value) (w : World) : (method 590 242 (.agg #[x, y]) "aviary/ladder.add").run Tryz.prog w = .ok (275, .agg #[x, y]) w := by kernel_rfl
theorem jrf (x y z : Value) (w : World) : (method 590 243 (.agg #[x, y, z]) "aviary/ladder.add").run Tryz.prog w = .ok (285, .agg #[x, y, z]) w := by kernel_rfl
theorem jre (x y : Value) (w : World) : (method 590 245 (.agg #[x, y]) "aviary/ladder.add").run Tryz.prog w = .ok (304, .agg #[x, y]) w := by kernel_rfl
theorem jro (x : Value) (w : World) : (method 590 240 (.agg #[x]) "aviary/ladder.lower").run Tryz.prog w = .ok (249, .agg #[x]) w := by kernel_rfl
theorem jrp (x y : Value) (w : World) : (method 590 242 (.agg #[x, y]) "aviary/ladder.lower").run Tryz.prog w = .ok (278, .agg #[x, y]) w := by kernel_rfl
theorem jrn (x y z : Value) (w : World) : (method 590 243 (.agg #[x, y, z]) "aviary/ladder.lower").run Tryz.prog w = .ok (288, .agg #[x, y, z]) w := by kernel_rfl
theorem jrm (x y : Value) (w : World) : (method 590 245 (.agg #[x, y]) "aviary/ladder.lower").run Tryz.prog w = .ok (307, .agg #[x, y]) w := by kernel_rfl
theorem jp0 {w : World} {v : Value} {B : Bd} {kind level : Nat} (hb : BdAt w v B) (A : B.Ok kind level) : ∃ T N f, v = .iface T N /\ (∀ W, (method 590 T N "aviary/ladder.add").run Tryz.prog W = .ok (f, N) W) /\ (∀ args W, (callFunc f args).run Tryz.prog W = .ok (.enter f args) W) /\
  ∀ W (h:Nat) (n:Int),BdAt W v B->h<2^64->U64 n->Calls Tryz.prog f #[N,.agg #[.int .u64 h,.int .u64 n]] W (jaE (B.add h n) W):=by
 cases B with
 | num l =>
  obtain⟨a,len,cap,rfl,-⟩:=hb;obtain⟨-,-,L,E,H⟩:=A;refine⟨_,_,_,rfl,fun W=>jrg _ W,enters_of Tryz.func246 (by kernel_rfl) rfl,fun W h n F G J=>?_⟩;obtain⟨R,D,C,e,I⟩:=F
  cases e
  exact jv0 l a len cap h n W I (jd7 l L E)
 | reg b r =>
  obtain rfl:v=_:=hb;obtain⟨-,O,L,E,H,P⟩:=A;refine⟨_,_,_,rfl,fun W=>jrh _ _ W,enters_of Tryz.func275 (by kernel_rfl) rfl,fun W h n F G J=>?_⟩;exact jv1 b r h n W (by omega) (by omega) H P G
 | cnt c l =>
  obtain⟨a,len,cap,rfl,-⟩:=hb;obtain⟨-,O,L,E,H⟩:=A;refine⟨_,_,_,rfl,fun W=>jrf _ _ _ W,enters_of Tryz.func285 (by kernel_rfl) rfl,fun W h n F G J=>?_⟩;obtain⟨R,D,C,e,I⟩:=F
  cases e
  exact jvZ c l a len cap h n W (jdR L O) I E H G J
 | bkt f l =>
  obtain⟨a,len,cap,rfl,-⟩:=hb;obtain⟨-,O,L,E,H,P,Q⟩:=A;refine⟨_,_,_,rfl,fun W=>jre _ _ W,enters_of Tryz.func304 (by kernel_rfl) rfl,fun W h n F G J=>?_⟩;obtain⟨R,D,C,e,I⟩:=F
  cases e
  have M:f<=3:=by omega
  exact jvY f l a len cap h n W M I (jcX f l M E H Q) E P (by have:=jdn f l M E Q;omega) (jfC f l M Q) G J
theorem juq {w : World} {v : Value} {B : Bd} {kind level : Nat} (hb : BdAt w v B) (A : B.Ok kind level) (R : level < jdQ kind) : ∃ T L f, v = .iface T L /\ (∀ W, (method 590 T L "aviary/ladder.lower").run Tryz.prog W = .ok (f, L) W) /\ (∀ args W, (callFunc f args).run Tryz.prog W = .ok (.enter f args) W) /\
  ∀ W,BdAt W v B->Calls Tryz.prog f #[L] W (jaE (some B.low) W):=by
 cases B with
 | num l =>
  obtain⟨a,len,cap,rfl,-⟩:=hb;obtain⟨-,-,J,G,E⟩:=A;refine⟨_,_,_,rfl,fun W=>jro _ W,enters_of Tryz.func249 (by kernel_rfl) rfl,fun W F=>?_⟩;obtain⟨P,D,C,e,H⟩:=F
  cases e
  exact jww l a len cap W H E (by omega)
 | reg b r =>
  obtain rfl:v=_:=hb;obtain⟨I,Q,J,G,E,N⟩:=A;subst I;have:jdQ 1=4:=rfl;refine⟨_,_,_,rfl,fun W=>jrp _ _ W,enters_of Tryz.func278 (by kernel_rfl) rfl,fun W F=>?_⟩;exact jwx b r W (by omega) (by omega) E N
 | cnt c l =>
  obtain⟨a,len,cap,rfl,-⟩:=hb;obtain⟨I,Q,J,G,E⟩:=A;subst I;have:jdQ 2=3:=rfl;refine⟨_,_,_,rfl,fun W=>jrn _ _ _ W,enters_of Tryz.func288 (by kernel_rfl) rfl,fun W F=>?_⟩;obtain⟨P,D,C,e,H⟩:=F
  cases e
  exact jwv c l a len cap W (jtR J (by omega)) H G E
 | bkt f l =>
  obtain⟨a,len,cap,rfl,-⟩:=hb;obtain⟨I,Q,J,G,E,N,O⟩:=A;subst I;have:jdQ 3=3:=rfl;refine⟨_,_,_,rfl,fun W=>jrm _ _ W,enters_of Tryz.func307 (by kernel_rfl) rfl,fun W F=>?_⟩;obtain⟨P,D,C,e,H⟩:=F
  cases e
  have M:f<=3:=by omega
  exact jwu f l a len cap W (by omega) M H (jcX f l M G E O) O N (by have:=jdn f l M G O;omega)
end
end Go.Proofs.YtnegciklhanmbaaGreatDoor
