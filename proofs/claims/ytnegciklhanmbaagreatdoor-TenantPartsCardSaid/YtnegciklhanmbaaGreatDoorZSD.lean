/- sip: a round of four numbers, as plain data and as the program does it: printed by wip/tools/gen_sa.py. sip: rounds, take, begin, mixed, number. The law of a range over a function whose iterator reads one block. Of no program. sip: number, eights, Sum. sip.Sum. -/
import Derived.Test.YtnegciklhanmbaaGreatDoorZB0
set_option maxHeartbeats 4000000
set_option maxRecDepth 100000
namespace Go.Proofs.YtnegciklhanmbaaGreatDoor
open Go Go.RowKit Go.Shelf
abbrev je7 (a b:Int):Int:=bits .xor .u64 a b
def jke (x:Int) (k:Nat):Int:=bits .or .u64 (IntKind.u64.wrap (x*2^k)) (x / 2^(64-k))
structure V4 where
 a:Int
 b:Int
 c:Int
 d:Int
def V4.vals (v:V4):Array Value:=#[.int .u64 v.a,.int .u64 v.b,.int .u64 v.c,.int .u64 v.d]
theorem je5 (n:Int):U64 (IntKind.u64.wrap n):=by rw[IntKind.wrap_u64];exact⟨Int.emod_nonneg _ (by decide),by omega⟩
theorem ja1 {A:BinOp} {a b:Int} (h:A=.xor\/A=.or):U64 (bits A .u64 a b):=by rcases h with rfl | rfl<;>exact je5 _
def V4.Ok (v:V4):Prop:=U64 v.a/\U64 v.b/\U64 v.c/\U64 v.d
def rnd (v:V4):V4 :=
 let a1:=IntKind.u64.wrap (v.a+v.b);let b1:=je7 (jke v.b 13) a1;let a2:=jke a1 32;let c1:=IntKind.u64.wrap (v.c+v.d);let d1:=je7 (jke v.d 16) c1;let a3:=IntKind.u64.wrap (a2+d1);let d2:=je7 (jke d1 21) a3;let c2:=IntKind.u64.wrap (c1+b1);let b2:=je7 (jke b1 17) c2;⟨a3,b2,jke c2 32,d2⟩
theorem jxx (v:V4):(rnd v).Ok:=⟨je5 _,ja1 (.inl rfl),ja1 (.inr rfl),ja1 (.inl rfl)⟩
theorem jcG (x:Int) (k:Nat) (w:World) (B:U64 x) (A:k=13\/k=16\/k=17\/k=21\/k=32) :
  Calls Tryz.prog 212 #[.int .u64 x,.int .i64 k] w fun e w'=>e=.returned (.int .u64 (jke x k))/\w'=w:=by
 obtain⟨H,I⟩:=B;have C:bits .and .u64 13 63=13:=by decide +kernel
 have D:bits .and .u64 16 63=16:=by decide +kernel
 have E:bits .and .u64 17 63=17:=by decide +kernel
 have F:bits .and .u64 21 63=21:=by decide +kernel
 have G:bits .and .u64 32 63=32:=by decide +kernel
 unfold jke;rcases A with rfl | rfl | rfl | rfl | rfl
 all_goals
  go_enter Tryz.func212,Tryz.ntmps212;go_wp2;go_ret;exact⟨rfl,rfl⟩
structure RndIn (x:V4) (w W:World):Prop where
 box:W.heap[w.heap.size]? = some (.cells x.vals 266 (0,0))
 res:W.heap[w.heap.size+1]? = some (.cells #[.int .u64 0,.int .u64 0,.int .u64 0,.int .u64 0] 266 (0,0))
 below:Bw w W
abbrev st4 (W:World) (B:Nat) (v:V4):World:=(((W.setCell ⟨B,0,none⟩ (.int .u64 v.a)).setCell ⟨B,1,none⟩ (.int .u64 v.b)).setCell ⟨B,2,none⟩ (.int .u64 v.c)).setCell ⟨B,3,none⟩ (.int .u64 v.d)
theorem jg8 {W:World} {B:Nat} {x v:V4} {t:TypeId} (h:W.heap[B]? = some (.cells x.vals t (0,0))):(st4 W B v).heap[B]? = some (.cells v.vals t (0,0)):=hSk (hSk (hSk (hSk h _) _) _) _
theorem jh4 {W w:World} {n B:Nat} {v:V4} (h:Below n w W) (A:n<=B):Below n w (st4 W B v):=(((h.setCell (p:=⟨B,0,none⟩) A _).setCell (p:=⟨B,1,none⟩) A _).setCell (p:=⟨B,2,none⟩) A _).setCell (p:=⟨B,3,none⟩) A _
theorem ju1:Tryz.prog.underlying 266=some (.array 4 22):=by kernel_rfl
theorem jsf:(Tryz.prog.info? 266).map (·.size)=some 4:=by kernel_rfl
theorem RndIn.go {x:V4} {w W A:World} (h:RndIn x w W) (hb:Bw W A):RndIn x w A:=⟨known hb (Nat.le_refl _) h.box,known hb (Nat.le_refl _) h.res,h.below.trans (hb.mono h.below.size)⟩
theorem RndIn.cells {x:V4} {w:World}:(∀ X:WIn (RndIn x w),X.world.cell? ⟨w.heap.size,0,none⟩=some (.int .u64 x.a))/\(∀ X:WIn (RndIn x w),X.world.cell? ⟨w.heap.size,1,none⟩=some (.int .u64 x.b))/\(∀ X:WIn (RndIn x w),X.world.cell? ⟨w.heap.size,2,none⟩=some (.int .u64 x.c))/\(∀ X:WIn (RndIn x w),X.world.cell? ⟨w.heap.size,3,none⟩=some (.int .u64 x.d)) :=
 ⟨fun X=>cCc X.ok.box 0,fun X=>cCc X.ok.box 1,fun X=>cCc X.ok.box 2,fun X=>cCc X.ok.box 3⟩
theorem RndIn.at {x:V4} {w W:World} (h:RndIn x w W):W.cell? ⟨w.heap.size,0,none⟩=some (.int .u64 x.a)/\W.cell? ⟨w.heap.size,1,none⟩=some (.int .u64 x.b)/\W.cell? ⟨w.heap.size,2,none⟩=some (.int .u64 x.c)/\W.cell? ⟨w.heap.size,3,none⟩=some (.int .u64 x.d)/\(∀ i,W.frozen? ⟨w.heap.size,i,none⟩=false) :=
 ⟨cCc h.box 0,cCc h.box 1,cCc h.box 2,cCc h.box 3,fun i=>cFz h.box i⟩
theorem RndIn.set {x y:V4} {w W:World} (h:RndIn x w W) {i:Nat} {v:Value} (A:x.vals.setIfInBounds i v=y.vals):∃ V,W.setCell ⟨w.heap.size,i,none⟩ v=V/\RndIn y w V :=
 ⟨_,rfl,by rw[<- A];exact hSk h.box v,(jaa (p:=⟨w.heap.size,i,none⟩) (by show w.heap.size≠w.heap.size+1;omega) v).trans h.res,h.below.setCell (p:=⟨w.heap.size,i,none⟩) (Nat.le_refl _) v⟩
theorem RndIn.call {x:V4} {w:World} (n:Int) (k:Nat) (D:U64 n) (C:k=13\/k=16\/k=17\/k=21\/k=32) (X:WIn (RndIn x w)):Calls Tryz.prog 212 #[.int .u64 n,.int .i64 k] X.world fun e w'=>e=.returned (.int .u64 (jke n k))/\∃ Y:WIn (RndIn x w),w'=Y.world :=
 jah (fun _ _ h hb=>RndIn.go h hb) ((jcG n k X.world D C).mono fun _ _ ⟨A,B⟩=>⟨A,B▸Below.refl _ _⟩)
theorem jpX (v:V4) (w:World) (hv:v.Ok):CR 188 #[.agg v.vals] w (.agg (rnd v).vals):=by
 have H9:Hid (∀ V:World,RndIn (rnd v) w V->V.heap[w.heap.size]? = some (.cells (rnd v).vals 266 (0,0))/\Bw w V):=fun V h=>⟨h.box,h.below⟩
 obtain⟨a,b,c,d⟩:=v;obtain⟨ha,hb,hc,hd⟩:=hv;obtain⟨r,hr⟩:∃ r,rnd ⟨a,b,c,d⟩=r:=⟨_,rfl⟩;rw[hr] at H9 ⊢;have HR:=Lib.hid hr;clear hr;unfold V4.vals;dsimp only at *;obtain⟨W0,ap,ah,ai,ag,am⟩:=jas w #[.int .u64 a,.int .u64 b,.int .u64 c,.int .u64 d] 266 #[.int .u64 0,.int .u64 0,.int .u64 0,.int .u64 0] 266;have h0:RndIn ⟨a,b,c,d⟩ w W0:=⟨ah,ai,ag⟩;clear ah ai ag am;go_enter Tryz.func188,Tryz.ntmps188;obtain⟨O,e1⟩:∃ z,IntKind.u64.wrap (a+b)=z:=⟨_,rfl⟩;have g1:U64 O:=by rw[<- e1];exact je5 _
 obtain⟨W1,aq,h1⟩:=RndIn.set (y:=⟨O,b,c,d⟩) h0 (i:=0) (v:=.int .u64 O) rfl;obtain⟨C,c1,c2,c3,R⟩:=RndIn.at h0;obtain⟨D,E,F,G,S⟩:=RndIn.at h1;dsimp only at C c1 c2 c3 D E F G;obtain⟨A,e2⟩:∃ z,je7 (jke b 13) O=z:=⟨_,rfl⟩;have g2:U64 A:=by rw[<- e2];exact ja1 (.inl rfl)
 have ac:RndIn ⟨O,b,c,d⟩ w W1.drew:=RndIn.go h1 (Below.refl _ _).drew;let Inv:World->Prop:=RndIn ⟨O,b,c,d⟩ w;obtain⟨s,t,u,q3⟩:(∀ X:WIn Inv,X.world.cell? ⟨w.heap.size,0,none⟩=some (.int .u64 O))/\(∀ X:WIn Inv,X.world.cell? ⟨w.heap.size,1,none⟩=some (.int .u64 b))/\(∀ X:WIn Inv,X.world.cell? ⟨w.heap.size,2,none⟩=some (.int .u64 c))/\(∀ X:WIn Inv,X.world.cell? ⟨w.heap.size,3,none⟩=some (.int .u64 d)):=RndIn.cells (x:=⟨O,b,c,d⟩) (w:=w);have J:Hid (∀ X:WIn Inv,Calls Tryz.prog 212 #[.int .u64 b,.int .i64 13] X.world fun e w'=>e=.returned (.int .u64 (jke b 13))/\∃ Y:WIn Inv,w'=Y.world):=RndIn.call b 13 (by assumption) (by decide);have P:Hid (∀ X:WIn Inv,RndIn ⟨O,b,c,d⟩ w X.world):=fun X=>X.ok
 have m:Inv W1.drew:=ac;have L:Nonempty (WIn Inv):=⟨⟨_,m⟩⟩;clear h1 ac;clear_value Inv;go_wp2_with fail;refine jaC Inv (l:=[_,_,_,_,_,_,_]) (o:=_) rfl (by kernel_rfl) (by kernel_rfl) (by kernel_rfl) m ?_
 repeat (first | go_big_quiet_step ((go_at_call 212;with_reducible exact J.out _)) | quiet_step ((go_at_call 212;with_reducible exact J.out _)))
 refine wpQuiet_nil ?_;rintro _ ⟨X,rfl⟩;have f:=P.out X;generalize X.world=Y1 at f ⊢;clear X L s t u q3 J P m;clear Inv;obtain⟨W2,ar,h2⟩:=RndIn.set (y:=⟨O,A,c,d⟩) f (i:=1) (v:=.int .u64 A) rfl;obtain⟨C,c1,c2,c3,R⟩:=RndIn.at f;obtain⟨D,E,F,G,S⟩:=RndIn.at h2;dsimp only at C c1 c2 c3 D E F G;obtain⟨Q,e3⟩:∃ z,jke O 32=z:=⟨_,rfl⟩;have g3:U64 Q:=by rw[<- e3];exact ja1 (.inr rfl)
 obtain⟨W3,au,h3⟩:=RndIn.set (y:=⟨Q,A,c,d⟩) h2 (i:=0) (v:=.int .u64 Q) rfl;obtain⟨C,c1,c2,c3,R⟩:=RndIn.at h2;obtain⟨D,E,F,G,S⟩:=RndIn.at h3;dsimp only at C c1 c2 c3 D E F G;go_wp2_with fail;refine (jcG O 32 _ (by assumption) (by decide)).mono ?_;rintro e w1 ⟨rfl,rfl⟩;obtain⟨H,e4⟩:∃ z,IntKind.u64.wrap (c+d)=z:=⟨_,rfl⟩;have g4:U64 H:=by rw[<- e4];exact je5 _
 obtain⟨W4,av,h4⟩:=RndIn.set (y:=⟨Q,A,H,d⟩) h3 (i:=2) (v:=.int .u64 H) rfl;obtain⟨C,c1,c2,c3,R⟩:=RndIn.at h3;obtain⟨D,E,F,G,S⟩:=RndIn.at h4;dsimp only at C c1 c2 c3 D E F G;obtain⟨v1,e5⟩:∃ z,je7 (jke d 16) H=z:=⟨_,rfl⟩;have g5:U64 v1:=by rw[<- e5];exact ja1 (.inl rfl)
 have ad:RndIn ⟨Q,A,H,d⟩ w W4.drew:=RndIn.go h4 (Below.refl _ _).drew;let Inv:World->Prop:=RndIn ⟨Q,A,H,d⟩ w;obtain⟨s,t,u,q3⟩:(∀ X:WIn Inv,X.world.cell? ⟨w.heap.size,0,none⟩=some (.int .u64 Q))/\(∀ X:WIn Inv,X.world.cell? ⟨w.heap.size,1,none⟩=some (.int .u64 A))/\(∀ X:WIn Inv,X.world.cell? ⟨w.heap.size,2,none⟩=some (.int .u64 H))/\(∀ X:WIn Inv,X.world.cell? ⟨w.heap.size,3,none⟩=some (.int .u64 d)):=RndIn.cells (x:=⟨Q,A,H,d⟩) (w:=w);have J:Hid (∀ X:WIn Inv,Calls Tryz.prog 212 #[.int .u64 d,.int .i64 16] X.world fun e w'=>e=.returned (.int .u64 (jke d 16))/\∃ Y:WIn Inv,w'=Y.world):=RndIn.call d 16 (by assumption) (by decide);have P:Hid (∀ X:WIn Inv,RndIn ⟨Q,A,H,d⟩ w X.world):=fun X=>X.ok
 have n:Inv W4.drew:=ad;have L:Nonempty (WIn Inv):=⟨⟨_,n⟩⟩;clear h4 ad;clear_value Inv;go_wp2_with fail;refine jaC Inv (l:=[_,_,_,_,_,_,_]) (o:=_) rfl (by kernel_rfl) (by kernel_rfl) (by kernel_rfl) n ?_
 repeat (first | go_big_quiet_step ((go_at_call 212;with_reducible exact J.out _)) | quiet_step ((go_at_call 212;with_reducible exact J.out _)))
 refine wpQuiet_nil ?_;rintro _ ⟨X,rfl⟩;have g:=P.out X;generalize X.world=Y4 at g ⊢;clear X L s t u q3 J P n;clear Inv;obtain⟨W5,aw,h5⟩:=RndIn.set (y:=⟨Q,A,H,v1⟩) g (i:=3) (v:=.int .u64 v1) rfl;obtain⟨C,c1,c2,c3,R⟩:=RndIn.at g;obtain⟨D,E,F,G,S⟩:=RndIn.at h5;dsimp only at C c1 c2 c3 D E F G;obtain⟨B,e6⟩:∃ z,IntKind.u64.wrap (Q+v1)=z:=⟨_,rfl⟩;have g6:U64 B:=by rw[<- e6];exact je5 _
 obtain⟨W6,ax,h6⟩:=RndIn.set (y:=⟨B,A,H,v1⟩) h5 (i:=0) (v:=.int .u64 B) rfl;obtain⟨C,c1,c2,c3,R⟩:=RndIn.at h5;obtain⟨D,E,F,G,S⟩:=RndIn.at h6;dsimp only at C c1 c2 c3 D E F G;obtain⟨I,e7⟩:∃ z,je7 (jke v1 21) B=z:=⟨_,rfl⟩;have g7:U64 I:=by rw[<- e7];exact ja1 (.inl rfl)
 have ae:RndIn ⟨B,A,H,v1⟩ w W6.drew:=RndIn.go h6 (Below.refl _ _).drew;let Inv:World->Prop:=RndIn ⟨B,A,H,v1⟩ w;obtain⟨s,t,u,q3⟩:(∀ X:WIn Inv,X.world.cell? ⟨w.heap.size,0,none⟩=some (.int .u64 B))/\(∀ X:WIn Inv,X.world.cell? ⟨w.heap.size,1,none⟩=some (.int .u64 A))/\(∀ X:WIn Inv,X.world.cell? ⟨w.heap.size,2,none⟩=some (.int .u64 H))/\(∀ X:WIn Inv,X.world.cell? ⟨w.heap.size,3,none⟩=some (.int .u64 v1)):=RndIn.cells (x:=⟨B,A,H,v1⟩) (w:=w);have J:Hid (∀ X:WIn Inv,Calls Tryz.prog 212 #[.int .u64 v1,.int .i64 21] X.world fun e w'=>e=.returned (.int .u64 (jke v1 21))/\∃ Y:WIn Inv,w'=Y.world):=RndIn.call v1 21 (by assumption) (by decide);have P:Hid (∀ X:WIn Inv,RndIn ⟨B,A,H,v1⟩ w X.world):=fun X=>X.ok
 have p:Inv W6.drew:=ae;have L:Nonempty (WIn Inv):=⟨⟨_,p⟩⟩;clear h6 ae;clear_value Inv;go_wp2_with fail;refine jaC Inv (l:=[_,_,_,_,_,_,_]) (o:=_) rfl (by kernel_rfl) (by kernel_rfl) (by kernel_rfl) p ?_
 repeat (first | go_big_quiet_step ((go_at_call 212;with_reducible exact J.out _)) | quiet_step ((go_at_call 212;with_reducible exact J.out _)))
 refine wpQuiet_nil ?_;rintro _ ⟨X,rfl⟩;have j:=P.out X;generalize X.world=Y6 at j ⊢;clear X L s t u q3 J P p;clear Inv;obtain⟨W7,ay,h7⟩:=RndIn.set (y:=⟨B,A,H,I⟩) j (i:=3) (v:=.int .u64 I) rfl;obtain⟨C,c1,c2,c3,R⟩:=RndIn.at j;obtain⟨D,E,F,G,S⟩:=RndIn.at h7;dsimp only at C c1 c2 c3 D E F G;obtain⟨N,e8⟩:∃ z,IntKind.u64.wrap (H+A)=z:=⟨_,rfl⟩;have g8:U64 N:=by rw[<- e8];exact je5 _
 obtain⟨W8,az,h8⟩:=RndIn.set (y:=⟨B,A,N,I⟩) h7 (i:=2) (v:=.int .u64 N) rfl;obtain⟨C,c1,c2,c3,R⟩:=RndIn.at h7;obtain⟨D,E,F,G,S⟩:=RndIn.at h8;dsimp only at C c1 c2 c3 D E F G;obtain⟨U,e9⟩:∃ z,je7 (jke A 17) N=z:=⟨_,rfl⟩;have g9:U64 U:=by rw[<- e9];exact ja1 (.inl rfl)
 have af:RndIn ⟨B,A,N,I⟩ w W8.drew:=RndIn.go h8 (Below.refl _ _).drew;let Inv:World->Prop:=RndIn ⟨B,A,N,I⟩ w;obtain⟨s,t,u,q3⟩:(∀ X:WIn Inv,X.world.cell? ⟨w.heap.size,0,none⟩=some (.int .u64 B))/\(∀ X:WIn Inv,X.world.cell? ⟨w.heap.size,1,none⟩=some (.int .u64 A))/\(∀ X:WIn Inv,X.world.cell? ⟨w.heap.size,2,none⟩=some (.int .u64 N))/\(∀ X:WIn Inv,X.world.cell? ⟨w.heap.size,3,none⟩=some (.int .u64 I)):=RndIn.cells (x:=⟨B,A,N,I⟩) (w:=w);have J:Hid (∀ X:WIn Inv,Calls Tryz.prog 212 #[.int .u64 A,.int .i64 17] X.world fun e w'=>e=.returned (.int .u64 (jke A 17))/\∃ Y:WIn Inv,w'=Y.world):=RndIn.call A 17 (by assumption) (by decide);have P:Hid (∀ X:WIn Inv,RndIn ⟨B,A,N,I⟩ w X.world):=fun X=>X.ok
 have q:Inv W8.drew:=af;have L:Nonempty (WIn Inv):=⟨⟨_,q⟩⟩;clear h8 af;clear_value Inv;go_wp2_with fail;refine jaC Inv (l:=[_,_,_,_,_,_,_]) (o:=_) rfl (by kernel_rfl) (by kernel_rfl) (by kernel_rfl) q ?_
 repeat (first | go_big_quiet_step ((go_at_call 212;with_reducible exact J.out _)) | quiet_step ((go_at_call 212;with_reducible exact J.out _)))
 refine wpQuiet_nil ?_;rintro _ ⟨X,rfl⟩;have k:=P.out X;generalize X.world=Y8 at k ⊢;clear X L s t u q3 J P q;clear Inv;obtain⟨W9,aA,h9⟩:=RndIn.set (y:=⟨B,U,N,I⟩) k (i:=1) (v:=.int .u64 U) rfl;obtain⟨C,c1,c2,c3,R⟩:=RndIn.at k;obtain⟨D,E,F,G,S⟩:=RndIn.at h9;dsimp only at C c1 c2 c3 D E F G;obtain⟨Z,ab⟩:∃ z,jke N 32=z:=⟨_,rfl⟩;have ao:U64 Z:=by rw[<- ab];exact ja1 (.inr rfl)
 obtain⟨aa,an,T⟩:=RndIn.set (y:=⟨B,U,Z,I⟩) h9 (i:=2) (v:=.int .u64 Z) rfl;obtain⟨C,c1,c2,c3,R⟩:=RndIn.at h9;obtain⟨D,E,F,G,S⟩:=RndIn.at T;dsimp only at C c1 c2 c3 D E F G;go_wp2_with fail;refine (jcG N 32 _ (by assumption) (by decide)).mono ?_;rintro e w1 ⟨rfl,rfl⟩;have M:=T.res;obtain⟨p0,p1,p2,p3⟩:=cl4 M;obtain⟨t0,t1,t2,t3⟩:=cz4 M;have aj:Hid (Bw w (st4 aa (w.heap.size+1) ⟨B,U,Z,I⟩)):=jh4 T.below (Nat.le_succ _);have ak:Hid ((st4 aa (w.heap.size+1) ⟨B,U,Z,I⟩).heap[w.heap.size+1]? = some (.cells (V4.vals ⟨B,U,Z,I⟩) 266 (0,0))):=jg8 (x:=⟨0,0,0,0⟩) M
 have al:Hid (r=⟨B,U,Z,I⟩):=by
  rw[Hid,<- HR.out];unfold rnd;dsimp only;rw[e1,e2,e3,e4,e5,e6,e7,e8,e9,ab]
 clear M T;go_wp2_with fail;refine bodyPost_ret (results_cell_row rfl _ _ (w.heap.size+1) 266 (V4.vals ⟨B,U,Z,I⟩) (0,0) _ rfl ak.out ju1 rfl jsf) rfl ⟨?_,aj.out⟩;rw[al.out];rfl
def jkB:Nat->V4->V4
 | 0,v=>v
 | n+1,v=>jkB n (rnd v)
theorem jhV:∀ (n:Nat) (v:V4),jkB (n+1) v=rnd (jkB n v)
 | 0,_=>rfl
 | n+1,v=>by rw[jkB,jhV n (rnd v)];rfl
theorem jr7 {v:V4} (h:v.Ok):∀ n,(jkB n v).Ok
 | 0=>h
 | n+1=>by rw[jhV];exact jxx _
structure OnlyB (b:Nat) (W W':World):Prop where
 below:Below b W W'
 other:∀ j,j<W.heap.size->j≠b->W'.heap[j]? = W.heap[j]?
theorem OnlyB.trans {b:Nat} {X Y Z:World} (h:OnlyB b X Y) (k:OnlyB b Y Z):OnlyB b X Z:=⟨h.below.trans k.below,fun j A B=>(k.other j (Nat.lt_of_lt_of_le A h.below.size) B).trans (h.other j A B)⟩
theorem OnlyB.refl (b:Nat) (X:World):OnlyB b X X:=⟨Below.refl _ _,fun _ _ _=>rfl⟩
theorem OnlyB.drew (b:Nat) (X:World):OnlyB b X X.drew:=⟨(Below.refl _ _).drew,fun _ _ _=>rfl⟩
theorem OnlyB.set (b i:Nat) (X:World) (v:Value):OnlyB b X (X.setCell ⟨b,i,none⟩ v):=⟨(Below.refl _ _).setCell (p:=⟨b,i,none⟩) (Nat.le_refl _) v,fun _ _ A=>jaa (p:=⟨b,i,none⟩) (fun e=>A e.symm) v⟩
theorem OnlyB.of_below {b:Nat} {X Y:World} (h:Bw X Y) (hb:b<=X.heap.size):OnlyB b X Y:=⟨h.mono hb,fun j A _=>h.block j A⟩
theorem OnlyB.st4 (b:Nat) (X:World) (v:V4):OnlyB b X (st4 X b v):=(((OnlyB.set b 0 X _).trans (OnlyB.set b 1 _ _)).trans (OnlyB.set b 2 _ _)).trans (OnlyB.set b 3 _ _)
def NumAt (w:World) (b:Nat) (v:V4):Prop:=w.heap[b]? = some (.cells v.vals 269 (0,0))
theorem NumAt.lt {w:World} {b:Nat} {v:V4} (h:NumAt w b v):b<w.heap.size:=(Array.getElem?_eq_some_iff.1 h).1
theorem NumAt.cells {w:World} {b:Nat} {v:V4} (h:NumAt w b v):w.cell? ⟨b,0,none⟩=some (.int .u64 v.a)/\w.cell? ⟨b,1,none⟩=some (.int .u64 v.b)/\w.cell? ⟨b,2,none⟩=some (.int .u64 v.c)/\w.cell? ⟨b,3,none⟩=some (.int .u64 v.d)/\w.frozen? ⟨b,0,none⟩=false/\w.frozen? ⟨b,1,none⟩=false/\w.frozen? ⟨b,2,none⟩=false/\w.frozen? ⟨b,3,none⟩=false :=
 ⟨cCc h 0,cCc h 1,cCc h 2,cCc h 3,cFz h 0,cFz h 1,cFz h 2,cFz h 3⟩
theorem ji8 (b n:Nat) (v:V4) (w:World) (h:NumAt w b v) (L:v.Ok) (c:n<=4) :
  Calls Tryz.prog 151 #[.pointer (some ⟨b,0,none⟩),.int .i64 n] w fun e w'=>e=.returned (.tuple #[])/\NumAt w' b (jkB n v)/\OnlyB b w w':=by
 have H:=Lib.hid h;have O:=Lib.hid L;clear h L;go_enter Tryz.func151,Tryz.ntmps151;go_wp2_with fail;go_loopw [5] (fun i wr=>∃ k:Nat,i=.int .i64 k/\k<=n/\NumAt wr b (jkB k v)/\Hid (OnlyB b w wr)) (fun i _=>n-(intOf i).toNat)
 case atStart=>exact⟨0,rfl,Nat.zero_le _,H.out,OnlyB.refl _ _⟩
 case round =>
  obtain⟨k,rfl,a,B,J⟩:=hrel;by_cases P:k<n
  ·have G:(jkB k v).Ok:=jr7 O.out k
   have D:=Lib.hid (jhV k v);obtain⟨u,E⟩:∃ u,jkB k v=u:=⟨_,rfl⟩;rw[E] at B G D;have N:=Lib.hid G;have I:=Lib.hid B;obtain⟨Q,c1,c2,c3,-,-,-,-⟩:=B.cells;clear B G E;go_wp2_with fail;refine (jpX u _ N.out).mono ?_;rintro e M ⟨rfl,C⟩;have A:NumAt M b u:=known C (Nat.le_refl _) I.out;obtain⟨R,S,T,U,V,X,Y,Z⟩:=A.cells;have F:=Lib.hid A;unfold V4.vals;clear A;go_wp2_with fail;refine⟨⟨k+1,by go_num,by omega,?_,?_⟩,by simp[intOf];omega⟩
   ·rw[D.out];exact jg8 (v:=rnd u) (x:=u) F.out
   ·exact (J.out.trans (OnlyB.of_below C (Nat.le_of_lt I.out.lt))).trans (OnlyB.st4 b M (rnd u))
  ·obtain rfl:k=n:=by omega
   go_wp2_with fail;go_end0;exact⟨rfl,B,J.out⟩
def jl1 (v:V4) (m:Int):V4:=let u:=jkB 2 { v with d:=je7 v.d m };{ u with a:=je7 u.a m }
theorem juY {v:V4} {m:Int} (h:v.Ok):(jl1 v m).Ok:=by
 have A:(jkB 2 { v with d:=je7 v.d m }).Ok:=jr7 (v:={ v with d:=je7 v.d m }) ⟨h.1,h.2.1,h.2.2.1,ja1 (.inl rfl)⟩ 2;unfold jl1;generalize jkB 2 { v with d:=je7 v.d m }=u at A ⊢;exact⟨ja1 (.inl rfl),A.2⟩
theorem NumAt.set {w:World} {b i:Nat} {v u:V4} {x:Value} (h:NumAt w b v) (A:v.vals.setIfInBounds i x=u.vals):∃ V,w.setCell ⟨b,i,none⟩ x=V/\NumAt V b u/\OnlyB b w V :=
 ⟨_,rfl,by unfold NumAt;rw[<- A];exact hSk h x,OnlyB.set _ _ _ _⟩
theorem juZ (b:Nat) (m:Int) (v:V4) (w:World) (h:NumAt w b v) (B:v.Ok) :
  Calls Tryz.prog 150 #[.pointer (some ⟨b,0,none⟩),.int .u64 m] w fun e w'=>e=.returned (.tuple #[])/\NumAt w' b (jl1 v m)/\OnlyB b w w':=by
 obtain⟨V,P,F,G⟩:=NumAt.set (i:=3) (x:=.int .u64 (je7 v.d m)) (u:={ v with d:=je7 v.d m }) h rfl;obtain⟨L,c1,c2,c3,-,-,-,O⟩:=h.cells;have D:=Lib.hid (ji8 b 2 { v with d:=je7 v.d m } V.drew F ⟨B.1,B.2.1,B.2.2.1,ja1 (.inl rfl)⟩ (by decide));have I:=Lib.hid G;have E:Hid (jl1 v m = { jkB 2 { v with d:=je7 v.d m } with a:=je7 (jkB 2 { v with d:=je7 v.d m }).a m }):=rfl;obtain⟨u,H⟩:∃ u,jkB 2 { v with d:=je7 v.d m }=u:=⟨_,rfl⟩;rw[H] at D E;clear h B F G H;go_enter Tryz.func150,Tryz.ntmps150;go_wp2_with fail;go_region;go_wp2_with (go_at_call 151;refine D.out.mono ?_;rintro e J ⟨rfl,A,C⟩;obtain⟨M,-,-,-,N,-,-,-⟩:=A.cells);go_region;go_wp2_with fail;go_end0;refine⟨rfl,?_,(((I.out.trans (OnlyB.drew _ _)).trans C).trans (OnlyB.set b 0 _ _)).trans (OnlyB.drew _ _)⟩;rw[E.out];exact hSk (W:=J) A _
def jxX (v:V4):Int:=je7 (je7 (je7 (je7 0 v.a) v.b) v.c) v.d
theorem jry (b c:Nat) (v:V4) (w:World) (h:NumAt w b v) :
  CR 152 #[.slice (some ⟨b,0,none⟩) 4 c] w (.int .u64 (jxX v)):=by
 obtain⟨A,c1,c2,c3,-,-,-,-⟩:=h.cells;clear h;go_enter Tryz.func152,Tryz.ntmps152;go_wp2_with fail;refine wp_loop_rounds 5 ?_;rw[rounds_succ];go_wp2_with fail;rw[rounds_succ];go_wp2_with fail;rw[rounds_succ];go_wp2_with fail;rw[rounds_succ];go_wp2_with fail;rw[rounds_succ];go_wp2_with fail;go_ret;exact⟨rfl,Below.refl _ _⟩
theorem jpD:Tryz.prog.underlying 269=some (.struct (Tryz.prog.fieldsOf 269)):=by kernel_rfl
theorem jm1:(Tryz.prog.info? 269).map (·.size)=some 4:=by kernel_rfl
def jdm (A B:Int):V4:=⟨je7 A 8317987319222330741,je7 B 7237128888997146477,je7 A 7816392313619706465,je7 B 8387220255154660723⟩
theorem jkM (A B:Int):(jdm A B).Ok:=⟨ja1 (.inl rfl),ja1 (.inl rfl),ja1 (.inl rfl),ja1 (.inl rfl)⟩
theorem jqf (A B:Int) (b:Nat) (w:World) (h:w.heap[b]? = some (.cells #[.int .u64 8317987319222330741,.int .u64 7237128888997146477,.int .u64 7816392313619706465,.int .u64 8387220255154660723] 22 (0,0))) :
  CR 148 #[.agg #[.int .u64 A,.int .u64 B],.slice (some ⟨b,0,none⟩) 4 4] w (.agg (jdm A B).vals):=by
 obtain⟨e,c1,c2,c3⟩:=cl4 h;have o:b<w.heap.size:=(Array.getElem?_eq_some_iff.1 h).1;obtain⟨a,N,Y,G,C,J,O⟩:=jbF w #[.int .u64 A,.int .u64 B] 57 #[.int .u64 0,.int .u64 0,.int .u64 0,.int .u64 0] 269 #[.int .u64 0,.int .u64 0,.int .u64 0,.int .u64 0] 269;obtain⟨Z,M,I,D,P⟩:=jab a #[.int .u64 A,.int .u64 B] 316;rw[O] at I D P;have H:=J.trans (D.mono (by omega));replace h:=known H (Nat.le_refl _) h;replace C:=(D.block _ (by omega)).trans C;replace G:=(D.block _ (by omega)).trans G;rw[<- N] at M;have U:=Lib.hid G;have X:=Lib.hid C;obtain⟨c,d⟩:=cl2 I;obtain⟨f,g,i,j⟩:=cl4 h;obtain⟨p,q,r,s⟩:=cl4 C;obtain⟨k,l,m,n⟩:=cz4 C;have S:=Lib.hid H;clear h I C G Y J D O P H N;go_enter Tryz.func148,Tryz.ntmps148;go_wp2_with fail;refine wp_loop_rounds 5 ?_;rw[rounds_succ];go_wp2_with fail;rw[rounds_succ];go_wp2_with fail;rw[rounds_succ];go_wp2_with fail;rw[rounds_succ];go_wp2_with fail;rw[rounds_succ];obtain⟨V,L⟩:∃ V,(((Z.setCell ⟨w.heap.size+1+1,0,none⟩ (.int .u64 (bits .xor .u64 A 8317987319222330741))).setCell ⟨w.heap.size+1+1,1,none⟩ (.int .u64 (bits .xor .u64 B 7237128888997146477))).setCell ⟨w.heap.size+1+1,2,none⟩ (.int .u64 (bits .xor .u64 A 7816392313619706465))).setCell ⟨w.heap.size+1+1,3,none⟩ (.int .u64 (bits .xor .u64 B 8387220255154660723))=V:=⟨_,rfl⟩;rw[L]
 have E:V.heap[w.heap.size+1]? = some (.cells #[.int .u64 0,.int .u64 0,.int .u64 0,.int .u64 0] 269 (0,0)):=by
  rw[<- L];exact ((OnlyB.st4 (w.heap.size+1+1) Z (jdm A B)).below.block _ (Nat.lt_succ_self _)).trans U.out
 have F:V.heap[w.heap.size+1+1]? = some (.cells (jdm A B).vals 269 (0,0)):=by rw[<- L];exact jg8 (x:=⟨0,0,0,0⟩) (v:=jdm A B) X.out
 have T:Hid (Bw w V):=by rw[Hid,<- L];exact jh4 (v:=jdm A B) S.out (by omega)
 unfold jdm V4.vals at F;dsimp only at F;obtain⟨p0,t,u,y⟩:=cl4 E;obtain⟨z,t1,t2,t3⟩:=cz4 E;obtain⟨v0,v1,v2,v3⟩:=cl4 F;have R:Hid ((st4 V (w.heap.size+1) (jdm A B)).heap[w.heap.size+1]? = some (.cells (jdm A B).vals 269 (0,0))):=jg8 (x:=⟨0,0,0,0⟩) E;have Q:Hid (Bw w (st4 V (w.heap.size+1) (jdm A B))):=jh4 T.out (Nat.le_succ _);clear E F L M c d e c1 c2 c3 f g i j p q r s k l m n;go_wp2_with fail;exact bodyPost_ret (results_cell_row rfl _ _ (w.heap.size+1) 269 (jdm A B).vals (0,0) _ rfl R.out jpD rfl jm1) rfl ⟨rfl,Q.out⟩
section
attribute [local go_sem] Oper.semAt_some
def KB (B:Nat) (W W':World):Prop:=∀ o,W.heap[B]? = some o->W'.heap[B]? = some o
theorem KB.trans {B:Nat} {X Y Z:World} (h:KB B X Y) (k:KB B Y Z):KB B X Z:=fun o A=>k o (h o A)
theorem KB.refl (B:Nat) (X:World):KB B X X:=fun _ h=>h
theorem jnp {α:Type} {P:Program} {g:Operand} {Z:Array Tmp} {assign body:Code} {Q:Exit->Act->World->Prop} {a:Act} {w:World} (M:Nat) (T:α->Array Value)
  {gf:Nat} {lb:Array Value} (r:a.eval g=.func (.func gf) #[] lb) (f:∀ args w,(callFunc gf args).run P w=.ok (.enter gf args) w)
  {B:α->Array Value} {xs:List α} {N:Nat} {w0:World} (J:SeqStopsK Fence.wide 8 P gf lb B (KB M) (fun d=>d=xs) (fun A=>A <+: xs) N w0)
  (m:M<w.heap.size) (U:Bw w0 w) (Y:∀ x,(B x).size=Z.size)
  (I:List α->World->Prop) (L:Code->List α->World->Prop) (q:OwnFrom w.heap.size I) (R:∀ c,OwnFrom w.heap.size (L c)) (i:I [] w)
  (C:∀ (l:Nat) (A:List α) (x:α) (W:World) (K:Act->World->Prop),I A W->(I A W->K { tmps:=T x,defers:=[] } W) ->
   assign.wpIn (Fence.wide.inRound l) 7 P (Exit.then K (fun _ _ _=>False)) { tmps:=(Z.zip (B x)).foldl (fun t (p,v)=>t.setIfInBounds p v) a.tmps,defers:=[] } W)
  (E:∀ (l:Nat) (A:List α) (x:α) (W:World),I A W->A.length<N->body.wpIn (Fence.wide.inRound l) 7 P (ownPostG w.heap.size (KB M) I L (A++[x]) W) { tmps:=T x,defers:=[] } W)
  (F:∀ (D:Nat) (W:World),w.heap.size<=D->I xs W->W.heap[D]? = some (.deferred (some []))->Q .normal { a with defers:={ target:=.collected D,args:=#[] }::a.defers } W)
  (H:∀ (D:Nat) (c:Code) (A:List α) (W:World),w.heap.size<=D->A <+: xs->L c A W->W.heap[D]? = some (.deferred (some []))->c.wp P Q { a with defers:={ target:=.collected D,args:=#[] }::a.defers } W) :
  (Code.rangeFunc g Z assign body).wp P Q a w :=
 (wpIn_wide (n:=9)).1 (wpIn_rangeFunc_ownH rfl (by omega) r trivial f J (fun h k=>h.trans k)
  (fun W l o y u h _ _ z j=>(World.putObj_heap_other (by omega)).trans j) U Y I L q R i (fun x b _=>b = { tmps:=T x,defers:=[] }) (fun _ _=>ownFrom_pure _ _)
  (fun l A x W K G hK=>C l A x W K G (fun V=>hK _ _ (KeepsFrom.refl _ _) (KB.refl _ _) V rfl))
  (fun l A x b W _ _ G S X=>by subst S;exact E l A x W G X) (fun D d W O e G hK=>by subst e;exact F D W O G hK) (fun D c A W O s G hK=>wpIn_wide.2 (H D c A W O s G hK)))
theorem jkz {α:Type} {P:Program} {g:Operand} {L:Array Tmp} {assign body:Code} {Q:Exit->Act->World->Prop} {a:Act} {w:World} {G:Nat} (M X Y:Nat) (v1 v2:α->Value)
  {gf:Nat} {lb:Array Value} (e:a.eval g=.func (.func gf) #[] lb) (Z:∀ args w,(callFunc gf args).run P w=.ok (.enter gf args) w)
  {B:α->Array Value} {xs:List α} {N:Nat} {w0:World} (J:SeqStopsK Fence.wide 8 P gf lb B (KB M) (fun h=>h=xs) (fun A=>A <+: xs) N w0)
  (R:M<w.heap.size) (U:Bw w0 w) (V:∀ x,(B x).size=L.size)
  (I O:List α->World->Prop) (d:OwnFrom w.heap.size I) (T:OwnFrom w.heap.size O) (b:I [] w)
  (C:∀ (l:Nat) (A:List α) (x:α) (W:World) (K:Act->World->Prop),I A W->(I A W->K { tmps:=(((L.zip (B x)).foldl (fun t (p,v)=>t.setIfInBounds p v) a.tmps).setIfInBounds X (v1 x)).setIfInBounds Y (v2 x),defers:=[] } W) ->
   assign.wpIn (Fence.wide.inRound l) 7 P (Exit.then K (fun _ _ _=>False)) { tmps:=(L.zip (B x)).foldl (fun t (p,v)=>t.setIfInBounds p v) a.tmps,defers:=[] } W)
  (F:∀ (l:Nat) (A:List α) (x:α) (W:World),I A W->A.length<N->body.wpIn (Fence.wide.inRound l) 7 P (ownPostG w.heap.size (KB M) I (fun c A W=>c=.exit G/\O A W) (A++[x]) W) { tmps:=(((L.zip (B x)).foldl (fun t (p,v)=>t.setIfInBounds p v) a.tmps).setIfInBounds X (v1 x)).setIfInBounds Y (v2 x),defers:=[] } W)
  (E:∀ (D:Nat) (W:World),w.heap.size<=D->(I xs W\/∃ A,A <+: xs/\O A W)->W.heap[D]? = some (.deferred (some []))->Q .normal { a with defers:={ target:=.collected D,args:=#[] }::a.defers } W) :
  (Code.rangeFunc g L assign body).wp P (Exit.inBlock G Q) a w :=
 jnp M _ e Z J R U V I (fun c A W=>c=.exit G/\O A W) d (fun _=>(ownFrom_pure _ _).and T) b C F (fun D W S H hK=>E D W S (.inl H) hK)
  (fun D c A W S f H hK=>by obtain⟨rfl,H⟩:=H;exact wp_exit (by show (if G=G then Q .normal _ _ else Q (.exit G) _ _);rw[if_pos rfl];exact E D W S (.inr ⟨A,f,H⟩) hK))
end
def jqm (s:ByteArray) (k:Nat):Int:=((s.data.getD k 0).toNat:Int)
def jwX (s:ByteArray):Nat->Int
 | 0=>0
 | k+1=>bits .or .u64 (jwX s k) (IntKind.u64.wrap (IntKind.u64.wrap (jqm s k)*2^(8*k)))
theorem jqn (s:ByteArray) (k:Nat) (h:k<s.size):((s[k]'h).toNat:Int)=jqm s k:=by
 unfold jqm;have A:k<s.data.size:=h;rw[Array.getD_eq_getD_getElem?,Array.getElem?_eq_getElem A];rfl
theorem jiW (s:ByteArray) (w:World) (C:s.size<=8) :
  Calls Tryz.prog 187 #[.string s] w fun e w'=>e=.returned (.int .u64 (jwX s s.size))/\w'=w:=by
 go_enter Tryz.func187,Tryz.ntmps187;go_wp2_with fail;go_loopw [3,7] (fun n i wr=>∃ k:Nat,n=.int .u64 (jwX s k)/\i=.int .i64 k/\k<=s.size/\wr=w) (fun _ i _=>s.size-(intOf i).toNat)
 case atStart=>exact⟨0,rfl,rfl,Nat.zero_le _,rfl⟩
 case round =>
  obtain⟨k,rfl,rfl,B,rfl⟩:=hrel;by_cases A:k<s.size
  ·have hb:=jqn s k A
   go_wp2_with fail;exact⟨⟨k+1,rfl,by go_num,by omega,trivial⟩,by simp[intOf];omega⟩
  ·obtain rfl:k=s.size:=by omega
   go_wp2_with fail;go_ret;exact⟨rfl,rfl⟩
def jkW (s:ByteArray) (j:Nat):Int:=jwX (s.extract (8*j) (8*j+8)) 8
def jlv (s:ByteArray):Int:=bits .or .u64 (jwX (s.extract (8*(s.size / 8)) s.size) (s.extract (8*(s.size / 8)) s.size).size) (IntKind.u64.wrap (IntKind.u64.wrap s.size*72057594037927936))
def jaV (s:ByteArray):List (Int × Bool):=(List.range (s.size / 8)).map (fun j=>(jkW s j,false))++[(jlv s,true)]
theorem jga (s:ByteArray):(jaV s).length=s.size / 8+1:=by simp[jaV]
theorem jk9 (s:ByteArray) (j:Nat) (h:j<s.size / 8):(jaV s)[j]? = some (jkW s j,false):=by
 unfold jaV;rw[List.getElem?_append_left (by simpa using h)];simp[h]
theorem joJ (s:ByteArray):(jaV s)[s.size / 8]? = some (jlv s,true):=by
 unfold jaV;rw[List.getElem?_append_right (by simp)];simp
theorem joK (s:ByteArray) (w:World) :
  Calls Tryz.prog 149 #[.string s] w fun e w'=>e=.returned (.func (.func 186) #[] #[.pointer (some ⟨w.heap.size,0,none⟩)])/\w'=w.alloc (.cells #[.string s] 9):=by
 go_enter Tryz.func149,Tryz.ntmps149;go_wp2;go_ret;exact⟨rfl,rfl⟩
theorem jwk (l I:Nat) (s:ByteArray) (X:s.size<4294967281) (J Q:List (Int × Bool)->World->Prop)
  (f:∀ A x W,J A W->A.length<(jaV s).length->YieldAt Fence.wide 7 Tryz.prog l #[.int .u64 x.1,.bool x.2] W fun e O =>
   (e=.returned (.bool true)/\J (A++[x]) O/\KB I W O)\/(e=.returned (.bool false)/\Q (A++[x]) O))
  (W:World) (y:AbidesFrom W.heap.size J) (R:W.heap[I]? = some (.cells #[.string s] 9 (0,0))) (u:J [] W) :
  CallsIn Fence.wide 8 Tryz.prog 186 #[.func (.yield l) #[] #[],.pointer (some ⟨I,0,none⟩)] W fun e O=>(∃ v,e=.returned v) /\
   ((∃ M,M=jaV s/\J M O)\/(∃ A,A <+: jaV s/\Q A O)):=by
 have U:=jga s;refine callsIn_of_wp Tryz.func186 rfl trivial ?_ rfl;simp only[Tryz.ntmps186,List.size_toArray,List.length_cons,List.length_nil,Nat.reduceAdd,Nat.reduceSub,Array.replicate_succ,Array.replicate_zero,List.push_toArray,List.append_toArray,List.nil_append,List.cons_append];have Y:=Lib.hid U;have c9:W.cell? ⟨I,0,none⟩=some (.string s):=cCc R 0;clear U;gi_wp2;gi_loopw [3] (fun i wr=>∃ j:Nat,j<=s.size / 8/\i=.int .i64 ((8*j:Nat):Int)/\J ((jaV s).take j) wr/\KB I W wr) (fun i _=>s.size-(intOf i).toNat)
 case atStart=>exact⟨0,Nat.zero_le _,rfl,u,KB.refl _ _⟩
 case round =>
  obtain⟨j,z,rfl,N,T⟩:=hrel;have c0:wr.cell? ⟨I,0,none⟩=some (.string s):=cCc (T _ R) 0;by_cases S:j<s.size / 8
  ·have V:=jk9 s j S
   have aa:8*j+8<=s.size:=by omega
   obtain⟨p,tmps,assign,body,L,P⟩:=f _ (jkW s j,false) _ N (by rw[List.length_take,Y.out];omega);have c:=Lib.hid V;have d:(s.extract (8*j) (8*j+8)).size=8:=by simp;omega
   have G:=jiW (s.extract (8*j) (8*j+8)) wr (by omega);rw[d] at G;have Z:(8:Int)<=(s.size:Int)-8*(j:Int):=by omega
   have m:Hid (∀ B,KB I wr B->KB I W B):=fun B h=>T.trans h
   have o:Hid ((jaV s).take j++[(jkW s j,false)] <+: jaV s):=by rw[Hid,<- jaf c.out];exact List.take_prefix _ _
   unfold jkW at L;dsimp only at L;obtain⟨t,ht⟩:∃ t,s.extract (8*j) (8*j+8)=t:=⟨_,rfl⟩;rw[ht] at G L;clear V d;gi_wp2_with fail;refine⟨trivial,(callsIn_wide.2 G).mono ?_⟩;rintro e a ⟨rfl,rfl⟩;gi_wp2_with fail;refine P.mono ?_;rintro e B (⟨rfl,D,H⟩ | ⟨rfl,C⟩)
   ·gi_wp2_with fail
    go_roundw
    case rel=>exact⟨j+1,by omega,by go_num,by rw[jaf c.out];exact D,m.out _ H⟩
    case measure=>simp[intOf];omega
   ·gi_wp2_with fail
    refine bodyPost_ret (results_none rfl _ _ _) rfl ?_;exact⟨⟨_,rfl⟩,.inr ⟨_,o.out,C⟩⟩
  ·obtain rfl:j=s.size / 8:=by omega
   have V:=joJ s;obtain⟨p,tmps,assign,body,L,P⟩:=f _ (jlv s,true) _ (y _ _ _ none N (show wr.grownBy wr.drew none from⟨rfl,rfl,rfl,Nat.le_refl _,fun _ _ _=>rfl⟩) (fun r e=>by cases e)) (by rw[List.length_take,Y.out];omega);have G:=Lib.hid (fun W=>jiW (s.extract (8*(s.size / 8)) s.size) W (by simp;omega));have b:Hid ((jaV s).take (s.size / 8)++[(jlv s,true)]=jaV s):=by rw[Hid,<- jaf V,List.take_of_length_le (by rw[Y.out];exact Nat.le_refl _)]
   rw[b.out] at P;have F:Hid (∀ B,J (jaV s) B->(∃ v,Ending.returned (Value.tuple #[])=Ending.returned v)/\((∃ M,M=jaV s/\J M B)\/∃ A,A <+: jaV s/\Q A B)):=fun B h=>⟨⟨_,rfl⟩,.inl ⟨_,rfl,h⟩⟩
   have E:Hid (∀ B,Q (jaV s) B->(∃ v,Ending.returned (Value.tuple #[])=Ending.returned v)/\((∃ M,M=jaV s/\J M B)\/∃ A,A <+: jaV s/\Q A B)):=fun B h=>⟨⟨_,rfl⟩,.inr ⟨_,List.prefix_refl _,h⟩⟩
   unfold jlv at L;dsimp only at L;obtain⟨t,ht⟩:∃ t,s.extract (8*(s.size / 8)) s.size=t:=⟨_,rfl⟩;rw[ht] at G L;obtain⟨q,k⟩:∃ q,s.size / 8=q:=⟨_,rfl⟩;have h1:8*q<=s.size:=by omega
   have Z:¬ (8:Int)<=(s.size:Int)-8*(q:Int):=by omega
   have ab:(0:Int)<=8*(q:Int):=by omega
   have ac:8*(q:Int)<=(s.size:Int):=by omega
   have ad:(8*(q:Int)).toNat=8*q:=by omega
   rw[k] at ht ⊢;clear V N b S z k;obtain⟨n,g⟩:∃ n,jwX t t.size=n:=⟨_,rfl⟩;rw[g] at G L;clear g;gi_wp2_with fail;refine wpIn_region_any (by kernel_rfl) ?_;change wpAnyIn _ _ _ _ _ _ _ _ _ (World.drew _);refine wpAnyIn_take (i:=0) (v:=?_) rfl rfl (by kernel_rfl) (by kernel_rfl) (by kernel_rfl) (fun _ _ _ h=>h) ⟨Or.inl ⟨by rfl,?_⟩,fun _=>rfl⟩ ?_;rotate_left
   ·intro w;go_simp;with_reducible rfl
   refine wpAnyIn_take (i:=2) (v:=?_) rfl rfl (by kernel_rfl) (by kernel_rfl) (by kernel_rfl) (fun _ _ _ h=>h) ⟨Or.inl ⟨by rfl,?_⟩,fun _=>rfl⟩ ?_;rotate_left
   ·intro w;go_simp;with_reducible rfl
   refine wpAnyIn_ready (rs:=[1,5]) (by kernel_rfl) (by simp) ?_;refine AllReadyIn.cons rfl (fun K hK=>?_) ?_
   ·go_simp
    refine hK _ _ ?_;clear hK K;refine wpAnyIn_take (i:=3) (v:=?_) rfl rfl (by kernel_rfl) (by kernel_rfl) (by kernel_rfl) (fun _ _ _ h=>h) ⟨Or.inl ⟨by rfl,?_⟩,fun _=>rfl⟩ ?_;rotate_left
    ·intro w;go_simp;with_reducible rfl
    refine wpAnyIn_ready (rs:=[4,5]) (by kernel_rfl) (by simp) ?_;refine AllReadyIn.cons rfl (fun K hK=>?_) ?_
    ·go_simp
     refine⟨trivial,(callsIn_wide.2 (G.out _)).mono ?_⟩;rintro e a ⟨rfl,rfl⟩;refine hK _ _ ?_;clear hK K;refine wpAnyIn_ready (rs:=[5]) (by kernel_rfl) (by simp) ?_;refine AllReadyIn.cons rfl (fun K hK=>?_) ?_
     ·go_simp
      refine hK _ _ ?_;clear hK K;refine wpAnyIn_take (i:=6) (v:=?_) rfl rfl (by kernel_rfl) (by kernel_rfl) (by kernel_rfl) (fun _ _ _ h=>h) ⟨Or.inl ⟨by rfl,?_⟩,fun _=>rfl⟩ ?_;rotate_left
      ·intro w;go_simp;with_reducible rfl
      refine wpAnyIn_take (i:=7) (v:=?_) rfl rfl (by kernel_rfl) (by kernel_rfl) (by kernel_rfl) (fun _ _ _ h=>h) ⟨Or.inl ⟨by rfl,?_⟩,fun _=>rfl⟩ ?_;rotate_left
      ·intro w;go_simp;with_reducible rfl
      refine wpAnyIn_take (i:=8) (v:=?_) rfl rfl (by kernel_rfl) (by kernel_rfl) (by kernel_rfl) (fun _ _ _ h=>h) ⟨Or.inl ⟨by rfl,?_⟩,fun _=>rfl⟩ ?_;rotate_left
      ·intro w;go_simp;with_reducible rfl
      refine wpAnyIn_take (i:=9) (v:=?_) rfl rfl (by kernel_rfl) (by kernel_rfl) (by kernel_rfl) (fun _ _ _ h=>h) ⟨Or.inl ⟨by rfl,?_⟩,fun _=>rfl⟩ ?_;rotate_left
      ·intro w;go_simp;with_reducible rfl
      refine wpAnyIn_ready (rs:=[10]) (by kernel_rfl) (by simp) ?_;refine AllReadyIn.cons rfl (fun K hK=>?_) ?_
      ·go_simp
       refine P.mono ?_;rintro e B (⟨rfl,D,H⟩ | ⟨rfl,C⟩)
       ·refine hK _ _ ?_
        clear hK K;refine wpAnyIn_done (by kernel_rfl) ?_ _;gi_wp2;go_end0;exact F.out B D
       ·refine hK _ _ ?_
        clear hK K;refine wpAnyIn_done (by kernel_rfl) ?_ _;gi_wp2;go_end0;exact E.out B C
      exact AllReadyIn.nil
     exact AllReadyIn.nil
    refine AllReadyIn.cons rfl (fun K hK=>?_) ?_
    ·go_simp
     refine hK _ _ ?_;clear hK K;refine wpAnyIn_take (i:=6) (v:=?_) rfl rfl (by kernel_rfl) (by kernel_rfl) (by kernel_rfl) (fun _ _ _ h=>h) ⟨Or.inl ⟨by rfl,?_⟩,fun _=>rfl⟩ ?_;rotate_left
     ·intro w;go_simp;with_reducible rfl
     refine wpAnyIn_take (i:=7) (v:=?_) rfl rfl (by kernel_rfl) (by kernel_rfl) (by kernel_rfl) (fun _ _ _ h=>h) ⟨Or.inl ⟨by rfl,?_⟩,fun _=>rfl⟩ ?_;rotate_left
     ·intro w;go_simp;with_reducible rfl
     refine wpAnyIn_take (i:=8) (v:=?_) rfl rfl (by kernel_rfl) (by kernel_rfl) (by kernel_rfl) (fun _ _ _ h=>h) ⟨Or.inl ⟨by rfl,?_⟩,fun _=>rfl⟩ ?_;rotate_left
     ·intro w;go_simp;with_reducible rfl
     refine wpAnyIn_ready (rs:=[4]) (by kernel_rfl) (by simp) ?_;refine AllReadyIn.cons rfl (fun K hK=>?_) ?_
     ·go_simp
      refine⟨trivial,(callsIn_wide.2 (G.out _)).mono ?_⟩;rintro e a ⟨rfl,rfl⟩;refine hK _ _ ?_;clear hK K;refine wpAnyIn_take (i:=9) (v:=?_) rfl rfl (by kernel_rfl) (by kernel_rfl) (by kernel_rfl) (fun _ _ _ h=>h) ⟨Or.inl ⟨by rfl,?_⟩,fun _=>rfl⟩ ?_;rotate_left
      ·intro w;go_simp;with_reducible rfl
      refine wpAnyIn_ready (rs:=[10]) (by kernel_rfl) (by simp) ?_;refine AllReadyIn.cons rfl (fun K hK=>?_) ?_
      ·go_simp
       refine P.mono ?_;rintro e B (⟨rfl,D,H⟩ | ⟨rfl,C⟩)
       ·refine hK _ _ ?_
        clear hK K;refine wpAnyIn_done (by kernel_rfl) ?_ _;gi_wp2;go_end0;exact F.out B D
       ·refine hK _ _ ?_
        clear hK K;refine wpAnyIn_done (by kernel_rfl) ?_ _;gi_wp2;go_end0;exact E.out B C
      exact AllReadyIn.nil
     exact AllReadyIn.nil
    exact AllReadyIn.nil
   refine AllReadyIn.cons rfl (fun K hK=>?_) ?_
   ·go_simp
    refine hK _ _ ?_;clear hK K;refine wpAnyIn_take (i:=6) (v:=?_) rfl rfl (by kernel_rfl) (by kernel_rfl) (by kernel_rfl) (fun _ _ _ h=>h) ⟨Or.inl ⟨by rfl,?_⟩,fun _=>rfl⟩ ?_;rotate_left
    ·intro w;go_simp;with_reducible rfl
    refine wpAnyIn_take (i:=7) (v:=?_) rfl rfl (by kernel_rfl) (by kernel_rfl) (by kernel_rfl) (fun _ _ _ h=>h) ⟨Or.inl ⟨by rfl,?_⟩,fun _=>rfl⟩ ?_;rotate_left
    ·intro w;go_simp;with_reducible rfl
    refine wpAnyIn_take (i:=8) (v:=?_) rfl rfl (by kernel_rfl) (by kernel_rfl) (by kernel_rfl) (fun _ _ _ h=>h) ⟨Or.inl ⟨by rfl,?_⟩,fun _=>rfl⟩ ?_;rotate_left
    ·intro w;go_simp;with_reducible rfl
    refine wpAnyIn_ready (rs:=[1]) (by kernel_rfl) (by simp) ?_;refine AllReadyIn.cons rfl (fun K hK=>?_) ?_
    ·go_simp
     refine hK _ _ ?_;clear hK K;refine wpAnyIn_take (i:=3) (v:=?_) rfl rfl (by kernel_rfl) (by kernel_rfl) (by kernel_rfl) (fun _ _ _ h=>h) ⟨Or.inl ⟨by rfl,?_⟩,fun _=>rfl⟩ ?_;rotate_left
     ·intro w;go_simp;with_reducible rfl
     refine wpAnyIn_ready (rs:=[4]) (by kernel_rfl) (by simp) ?_;refine AllReadyIn.cons rfl (fun K hK=>?_) ?_
     ·go_simp
      refine⟨trivial,(callsIn_wide.2 (G.out _)).mono ?_⟩;rintro e a ⟨rfl,rfl⟩;refine hK _ _ ?_;clear hK K;refine wpAnyIn_take (i:=9) (v:=?_) rfl rfl (by kernel_rfl) (by kernel_rfl) (by kernel_rfl) (fun _ _ _ h=>h) ⟨Or.inl ⟨by rfl,?_⟩,fun _=>rfl⟩ ?_;rotate_left
      ·intro w;go_simp;with_reducible rfl
      refine wpAnyIn_ready (rs:=[10]) (by kernel_rfl) (by simp) ?_;refine AllReadyIn.cons rfl (fun K hK=>?_) ?_
      ·go_simp
       refine P.mono ?_;rintro e B (⟨rfl,D,H⟩ | ⟨rfl,C⟩)
       ·refine hK _ _ ?_
        clear hK K;refine wpAnyIn_done (by kernel_rfl) ?_ _;gi_wp2;go_end0;exact F.out B D
       ·refine hK _ _ ?_
        clear hK K;refine wpAnyIn_done (by kernel_rfl) ?_ _;gi_wp2;go_end0;exact E.out B C
      exact AllReadyIn.nil
     exact AllReadyIn.nil
    exact AllReadyIn.nil
   exact AllReadyIn.nil
theorem joL (B:Nat) (s:ByteArray) (A:s.size<4294967281) (w:World) (I:w.heap[B]? = some (.cells #[.string s] 9 (0,0))) :
  SeqStopsK Fence.wide 8 Tryz.prog 186 #[.pointer (some ⟨B,0,none⟩)] (fun x:Int × Bool=>#[.int .u64 x.1,.bool x.2]) (KB B) (fun L=>L=jaV s) (fun C=>C <+: jaV s) (jaV s).length w:=fun l J D W G F _ H E =>
 jwk l B s A J D H W F (known G (Nat.le_refl _) I) E
section
attribute [local go_sem] Oper.semAt_some
def jyd (v:V4):V4:=jkB 4 { v with c:=je7 v.c 255 }
def jdX (A B:Int) (l:List (Int × Bool)):V4:=(l.map (·.1)).foldl jl1 (jdm A B)
def jwO (A B:Int) (s:ByteArray):Int:=jxX (jyd (jdX A B (jaV s)))
theorem joV (A B:Int) (l:List (Int × Bool)) (x:Int × Bool):jdX A B (l++[x])=jl1 (jdX A B l) x.1:=by unfold jdX;rw[List.map_append,List.foldl_append];rfl
theorem jfc:∀ (l:List Int) (v:V4),v.Ok->(l.foldl jl1 v).Ok
 | [],_,h=>h
 | _::l,_,h=>jfc l _ (juY h)
theorem jnA (A B:Int) (l:List (Int × Bool)):(jdX A B l).Ok:=jfc _ _ (jkM A B)
theorem juQ (A B:Int) (s:ByteArray):U64 (jwO A B s):=ja1 (.inl rfl)
theorem OnlyB.keeps {b B:Nat} {W C:World} {c:Array Value} {t:TypeId} {D:Nat × Nat} (h:OnlyB b W C) (hb:W.heap[b]? = some (.cells c t D)):KeepsFrom B W C :=
 ⟨h.below.size,fun k o _ A E=>by
  refine (h.other k (Array.getElem?_eq_some_iff.1 A).1 (fun e=>?_)).trans A;subst e;rw[hb] at A;injection A with A
  subst A
  cases E⟩
theorem jms {s:ByteArray} {B:List (Int × Bool)} {x:Int × Bool} (h:B++[x] <+: jaV s) (C:x.2=true):B++[x]=jaV s:=by
 have A:(jaV s)[B.length]? = some x:=by
  obtain⟨r,hr⟩:=h;rw[<- hr,List.append_assoc];simp
 have D:=(List.getElem?_eq_some_iff.1 A).1;rw[jga] at D;by_cases E:B.length<s.size / 8
 ·rw[jk9 s _ E] at A
  injection A with A
  rw[<- A] at C
  cases C
 ·exact h.eq_of_length (by rw[jga,List.length_append];simp;omega)
theorem jm0 (A B:Int) (s:ByteArray) (w:World) (hs:s.size<4294967281):CR 107 #[.agg #[.int .u64 A,.int .u64 B],.string s] w (.int .u64 (jwO A B s)):=by
 obtain⟨Wa,ak,y,n,ad⟩:=jab w #[.int .u64 A,.int .u64 B] 57;obtain⟨a0,a1⟩:=cl2 y;obtain⟨Wb,al,Y,Q,ae⟩:=jab Wa #[.int .u64 8317987319222330741,.int .u64 7237128888997146477,.int .u64 7816392313619706465,.int .u64 8387220255154660723] 22;rw[ad] at Y Q ae;have hG:=jqf A B (w.heap.size+1) Wb Y;have q:=jkM A B;have HF:Hid (jdm A B=jdX A B []):=rfl;obtain⟨v0,af⟩:∃ v,jdm A B=v:=⟨_,rfl⟩;rw[af] at hG q HF;clear af;refine jaq Tryz.func107 rfl ?_;simp only[Tryz.ntmps107,List.size_toArray,List.length_cons,List.length_nil,Nat.reduceAdd,Nat.reduceSub,Array.replicate_succ,Array.replicate_zero,List.push_toArray,List.append_toArray,List.nil_append,List.cons_append];go_wp2_with fail;go_step3;go_wp2_with fail;refine hG.mono ?_;rintro e d ⟨rfl,Z⟩;obtain⟨W2,aj,X,m,ab⟩:=jab d v0.vals 269;have G:Bw w d:=(n.trans (Q.mono (by omega))).trans (Z.mono (by omega));have am:=Z.size;have O:Bw w W2:=G.trans (m.mono (by omega));unfold V4.vals at *;clear hG Z Q n Y y a0 a1 ak al;go_wp2_with fail;have t:=Lib.hid X;apply wp_label;go_wp2_with (go_at_call 149;refine (joK _ _).mono ?_;rintro e w2 ⟨rfl,rfl⟩);obtain⟨W3,r,M,F,ac⟩:=jab W2 #[.string s] 9;rw[ab] at M F ac;rw[r];have I:=joL (d.heap.size+1) s hs W3 M;have H:W3.heap[d.heap.size]? = some (.cells (jdX A B []).vals 269 (0,0)):=by rw[<- HF.out];exact (F.block _ (by omega)).trans X
 have R:Bw w W3:=O.trans (F.mono (by omega));have N:w.heap.size<=d.heap.size:=G.size;have HS:=Lib.hid hs;obtain⟨b,hb⟩:∃ b,d.heap.size=b:=⟨_,rfl⟩;rw[hb] at M F ac I H N ⊢;clear X t m ab G am O aj r M F ad ae hb hs q
 refine jkz (b+1) 6 7 (fun x:Int × Bool=>.int .u64 x.1) (fun x:Int × Bool=>.bool x.2) (gf:=186) (lb:=#[.pointer (some ⟨b+1,0,none⟩)]) rfl (enters_of Tryz.func186 (by kernel_rfl) rfl)
  I (by omega) (Below.refl _ _) (fun _=>rfl)
  (fun C W=>W.heap[b]? = some (.cells (jdX A B C).vals 269 (0,0))/\Bw w W)
  (fun C W=>(∃ pr x,C=pr++[x]/\x.2=true)/\W.heap[b]? = some (.cells (jdX A B C).vals 269 (0,0))/\Bw w W)
  ((jg6 _ _ (fun C=>(jdX A B C).vals) _).and (ownFrom_below (Nat.le_refl _) R.size))
  ((ownFrom_pure _ _).and ((jg6 _ _ (fun C=>(jdX A B C).vals) _).and (ownFrom_below (Nat.le_refl _) R.size)))
  ⟨H,R⟩ ?assign ?body ?fin
 case assign =>
  rintro l C x W K hI hK;simp only[List.zip_toArray,List.zip_cons_cons,List.zip_nil_right,List.size_toArray,List.foldl_toArray',List.foldl_cons,List.foldl_nil,List.setIfInBounds_toArray,List.set_cons_succ,List.set_cons_zero] at hK ⊢;gi_wp2;exact hI
 case body =>
  rintro l C x W ⟨a,hB⟩ ap;simp only[List.zip_toArray,List.zip_cons_cons,List.zip_nil_right,List.size_toArray,List.foldl_toArray',List.foldl_cons,List.foldl_nil,List.setIfInBounds_toArray,List.set_cons_succ,List.set_cons_zero];have J:NumAt W b (jdX A B C):=a;have HT:=Lib.hid (juZ b x.1 _ W J (jnA A B C));have HN:Hid (jl1 (jdX A B C) x.1=jdX A B (C++[x])):=(joV A B C x).symm;have HK:Hid (∀ g,OnlyB b W g->KeepsFrom W3.heap.size W g/\KB (b+1) W g/\Bw w g):=fun g h=>⟨h.keeps a,fun o P=>(h.other _ (Array.getElem?_eq_some_iff.1 P).1 (by omega)).trans P,hB.trans (h.below.mono N)⟩
  have ao:b<W.heap.size:=J.lt;clear a J
  cases hx:x.2 with
  | true =>
   have HX:=Lib.hid hx;clear hx;gi_wp2_with fail;refine⟨trivial,(callsIn_wide.2 HT.out).mono ?_⟩;rintro e w4 ⟨rfl,E,T⟩;rw[HN.out] at E;obtain⟨k1,-,k3⟩:=HK.out _ T;gi_wp2_with fail;exact⟨k1,rfl,⟨C,x,rfl,HX.out⟩,E,k3⟩
  | false =>
   clear hx;gi_wp2_with fail;refine⟨trivial,(callsIn_wide.2 HT.out).mono ?_⟩;rintro e w4 ⟨rfl,E,T⟩;rw[HN.out] at E;obtain⟨k1,k2,k3⟩:=HK.out _ T;gi_wp2_with fail;exact⟨k1,k2,E,k3⟩
 case fin =>
  intro D W hD hI hK
  have ah:W.heap[b]? = some (.cells (jdX A B (jaV s)).vals 269 (0,0))/\Bw w W:=by
   rcases hI with h | ⟨C,hp,⟨pr,x,rfl,hx⟩,h⟩
   ·exact h
   ·rw[jms hp hx] at h
    exact h
  have an:b+1<D:=by omega
  obtain⟨J,hB⟩:=ah;have J:NumAt W b (jdX A B (jaV s)):=J;have P:=jnA A B (jaV s);have HE:Hid (jwO A B s=jxX (jkB 4 { jdX A B (jaV s) with c:=je7 (jdX A B (jaV s)).c 255 })):=rfl;obtain⟨u,hu⟩:∃ u,jdX A B (jaV s)=u:=⟨_,rfl⟩;rw[hu] at J P HE;clear hI hu H I;obtain⟨V,hV,k,U⟩:=NumAt.set (i:=2) (x:=.int .u64 (je7 u.c 255)) (u:={ u with c:=je7 u.c 255 }) J rfl;obtain⟨c0,c1,c2,c3,-,-,f2,-⟩:=J.cells;have S:V.heap[D]? = some (.deferred (some [])):=(U.other _ (Array.getElem?_eq_some_iff.1 hK).1 (by omega)).trans hK;have HR:=Lib.hid (ji8 b 4 { u with c:=je7 u.c 255 } V k ⟨P.1,P.2.1,ja1 (.inl rfl),P.2.2.2⟩ (by decide));have HB:=Lib.hid (hB.trans (U.below.mono N));obtain⟨z,hz⟩:∃ z,jkB 4 { u with c:=je7 u.c 255 }=z:=⟨_,rfl⟩;rw[hz] at HR HE;have ag:D<V.heap.size:=(Array.getElem?_eq_some_iff.1 S).1;clear hz J P k U hB hK;go_wp2_with (go_at_call 151;refine HR.out.mono ?_;rintro e w5 ⟨rfl,j,L⟩);have HM:=Lib.hid (jry b 4 z w5 j);have ai:w5.heap[D]? = some (.deferred (some [])):=(L.other _ ag (by omega)).trans S;have f:=Lib.hid (HB.out.trans (L.below.mono N));have aq:=L.below.size;clear j L S;go_wp2_with (go_at_call 152;refine HM.out.mono ?_;rintro e w6 ⟨rfl,aa⟩);rw[Exit.noGoto_ret];have p:=(aa.block _ (by omega)).trans ai;refine jau p (results_tmp rfl _ _ _) ⟨by rw[HE.out];rfl,?_⟩;exact jee (f.out.trans (aa.mono f.out.size)) (by omega) p
end
end Go.Proofs.YtnegciklhanmbaaGreatDoor
