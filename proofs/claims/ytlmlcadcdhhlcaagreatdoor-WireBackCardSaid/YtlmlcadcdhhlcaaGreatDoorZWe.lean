/- sip: a round of four numbers, as plain data and as the program does it: printed by wip/tools/gen_sa.py. sip: rounds, take, begin, mixed, number. sip: number, eights, Sum. sip.Sum. Package collector: find, Key, New, as far as wires ask: whose numbers there are. -/
import Derived.RegionIn
import Derived.Test.YtlmlcadcdhhlcaaGreatDoorZKQ
set_option maxHeartbeats 4000000
set_option maxRecDepth 100000
namespace Go.Proofs.YtlmlcadcdhhlcaaGreatDoor
open Go Go.RowKit Go.Shelf
abbrev jbI (a b:Int):Int:=bits .xor .u64 a b
def jdw (x:Int) (k:Nat):Int:=bits .or .u64 (IntKind.u64.wrap (x*2^k)) (x / 2^(64-k))
structure V4 where
 a:Int
 b:Int
 c:Int
 d:Int
def V4.vals (v:V4):Array Value:=#[.int .u64 v.a,.int .u64 v.b,.int .u64 v.c,.int .u64 v.d]
theorem jbG (n:Int):U64 (IntKind.u64.wrap n):=by rw[IntKind.wrap_u64];exact⟨Int.emod_nonneg _ (by decide),by omega⟩
theorem jax {A:BinOp} {a b:Int} (h:A=.xor\/A=.or):U64 (bits A .u64 a b):=by rcases h with rfl | rfl<;>exact jbG _
def V4.Ok (v:V4):Prop:=U64 v.a/\U64 v.b/\U64 v.c/\U64 v.d
def rnd (v:V4):V4 :=
 let a1:=IntKind.u64.wrap (v.a+v.b);let b1:=jbI (jdw v.b 13) a1;let a2:=jdw a1 32;let c1:=IntKind.u64.wrap (v.c+v.d);let d1:=jbI (jdw v.d 16) c1;let a3:=IntKind.u64.wrap (a2+d1);let d2:=jbI (jdw d1 21) a3;let c2:=IntKind.u64.wrap (c1+b1);let b2:=jbI (jdw b1 17) c2;⟨a3,b2,jdw c2 32,d2⟩
theorem jiF (v:V4):(rnd v).Ok:=⟨jbG _,jax (.inl rfl),jax (.inr rfl),jax (.inl rfl)⟩
theorem jaV (x:Int) (k:Nat) (w:World) (B:U64 x) (A:k=13\/k=16\/k=17\/k=21\/k=32) :
  Calls Tryz.prog 186 #[.int .u64 x,.int .i64 k] w fun e C=>e=.returned (.int .u64 (jdw x k))/\C=w:=by
 obtain⟨I,J⟩:=B;have D:bits .and .u64 13 63=13:=by decide +kernel
 have E:bits .and .u64 16 63=16:=by decide +kernel
 have F:bits .and .u64 17 63=17:=by decide +kernel
 have G:bits .and .u64 21 63=21:=by decide +kernel
 have H:bits .and .u64 32 63=32:=by decide +kernel
 unfold jdw;rcases A with rfl | rfl | rfl | rfl | rfl
 all_goals
  go_enter Tryz.func186,Tryz.ntmps186;go_wp2;go_ret;exact⟨rfl,rfl⟩
structure RndIn (x:V4) (w W:World):Prop where
 box:W.heap[w.heap.size]? = some (.cells x.vals 264 (0,0))
 res:W.heap[w.heap.size+1]? = some (.cells #[.int .u64 0,.int .u64 0,.int .u64 0,.int .u64 0] 264 (0,0))
 below:Bw w W
abbrev st4 (W:World) (B:Nat) (v:V4):World:=(((W.setCell ⟨B,0,none⟩ (.int .u64 v.a)).setCell ⟨B,1,none⟩ (.int .u64 v.b)).setCell ⟨B,2,none⟩ (.int .u64 v.c)).setCell ⟨B,3,none⟩ (.int .u64 v.d)
theorem jcA {W:World} {B:Nat} {x v:V4} {t:TypeId} (h:W.heap[B]? = some (.cells x.vals t (0,0))):(st4 W B v).heap[B]? = some (.cells v.vals t (0,0)):=hSk (hSk (hSk (hSk h _) _) _) _
theorem jcW {W w:World} {n B:Nat} {v:V4} (h:Below n w W) (A:n<=B):Below n w (st4 W B v):=(((h.setCell (p:=⟨B,0,none⟩) A _).setCell (p:=⟨B,1,none⟩) A _).setCell (p:=⟨B,2,none⟩) A _).setCell (p:=⟨B,3,none⟩) A _
theorem jhy:Tryz.prog.underlying 264=some (.array 4 22):=by kernel_rfl
theorem jgJ:(Tryz.prog.info? 264).map (·.size)=some 4:=by kernel_rfl
theorem RndIn.go {x:V4} {w W B:World} (h:RndIn x w W) (A:Bw W B):RndIn x w B:=⟨known A (Nat.le_refl _) h.box,known A (Nat.le_refl _) h.res,h.below.trans (A.mono h.below.size)⟩
theorem RndIn.cells {x:V4} {w:World}:(∀ X:WIn (RndIn x w),X.world.cell? ⟨w.heap.size,0,none⟩=some (.int .u64 x.a))/\(∀ X:WIn (RndIn x w),X.world.cell? ⟨w.heap.size,1,none⟩=some (.int .u64 x.b))/\(∀ X:WIn (RndIn x w),X.world.cell? ⟨w.heap.size,2,none⟩=some (.int .u64 x.c))/\(∀ X:WIn (RndIn x w),X.world.cell? ⟨w.heap.size,3,none⟩=some (.int .u64 x.d)) :=
 ⟨fun X=>cCc X.ok.box 0,fun X=>cCc X.ok.box 1,fun X=>cCc X.ok.box 2,fun X=>cCc X.ok.box 3⟩
theorem RndIn.at {x:V4} {w W:World} (h:RndIn x w W):W.cell? ⟨w.heap.size,0,none⟩=some (.int .u64 x.a)/\W.cell? ⟨w.heap.size,1,none⟩=some (.int .u64 x.b)/\W.cell? ⟨w.heap.size,2,none⟩=some (.int .u64 x.c)/\W.cell? ⟨w.heap.size,3,none⟩=some (.int .u64 x.d)/\(∀ i,W.frozen? ⟨w.heap.size,i,none⟩=false) :=
 ⟨cCc h.box 0,cCc h.box 1,cCc h.box 2,cCc h.box 3,fun i=>cFz h.box i⟩
theorem RndIn.set {x y:V4} {w W:World} (h:RndIn x w W) {i:Nat} {v:Value} (A:x.vals.setIfInBounds i v=y.vals):∃ V,W.setCell ⟨w.heap.size,i,none⟩ v=V/\RndIn y w V :=
 ⟨_,rfl,by rw[<- A];exact hSk h.box v,(jay (p:=⟨w.heap.size,i,none⟩) (by show w.heap.size≠w.heap.size+1;omega) v).trans h.res,h.below.setCell (p:=⟨w.heap.size,i,none⟩) (Nat.le_refl _) v⟩
theorem RndIn.call {x:V4} {w:World} (n:Int) (k:Nat) (E:U64 n) (D:k=13\/k=16\/k=17\/k=21\/k=32) (X:WIn (RndIn x w)):Calls Tryz.prog 186 #[.int .u64 n,.int .i64 k] X.world fun e F=>e=.returned (.int .u64 (jdw n k))/\∃ Y:WIn (RndIn x w),F=Y.world :=
 jaz (fun _ _ h C=>RndIn.go h C) ((jaV n k X.world E D).mono fun _ _ ⟨A,B⟩=>⟨A,B▸Below.refl _ _⟩)
theorem jfP (v:V4) (w:World) (hv:v.Ok):CR 153 #[.agg v.vals] w (.agg (rnd v).vals):=by
 have H9:Hid (∀ V:World,RndIn (rnd v) w V->V.heap[w.heap.size]? = some (.cells (rnd v).vals 264 (0,0))/\Bw w V):=fun V h=>⟨h.box,h.below⟩
 obtain⟨a,b,c,d⟩:=v;obtain⟨ha,hb,hc,hd⟩:=hv;obtain⟨r,hr⟩:∃ r,rnd ⟨a,b,c,d⟩=r:=⟨_,rfl⟩;rw[hr] at H9 ⊢;have HR:=Lib.hid hr;clear hr;unfold V4.vals;dsimp only at *;obtain⟨W0,ap,ah,ai,ag,am⟩:=jbq w #[.int .u64 a,.int .u64 b,.int .u64 c,.int .u64 d] 264 #[.int .u64 0,.int .u64 0,.int .u64 0,.int .u64 0] 264;have h0:RndIn ⟨a,b,c,d⟩ w W0:=⟨ah,ai,ag⟩;clear ah ai ag am;go_enter Tryz.func153,Tryz.ntmps153;obtain⟨R,e1⟩:∃ z,IntKind.u64.wrap (a+b)=z:=⟨_,rfl⟩;have g1:U64 R:=by rw[<- e1];exact jbG _
 obtain⟨W1,aq,h1⟩:=RndIn.set (y:=⟨R,b,c,d⟩) h0 (i:=0) (v:=.int .u64 R) rfl;obtain⟨C,D,E,c3,U⟩:=RndIn.at h0;obtain⟨F,G,H,I,Z⟩:=RndIn.at h1;dsimp only at C D E c3 F G H I;obtain⟨A,e2⟩:∃ z,jbI (jdw b 13) R=z:=⟨_,rfl⟩;have g2:U64 A:=by rw[<- e2];exact jax (.inl rfl)
 have ac:RndIn ⟨R,b,c,d⟩ w W1.drew:=RndIn.go h1 (Below.refl _ _).drew;let Inv:World->Prop:=RndIn ⟨R,b,c,d⟩ w;obtain⟨q0,q1,q2,q3⟩:(∀ X:WIn Inv,X.world.cell? ⟨w.heap.size,0,none⟩=some (.int .u64 R))/\(∀ X:WIn Inv,X.world.cell? ⟨w.heap.size,1,none⟩=some (.int .u64 b))/\(∀ X:WIn Inv,X.world.cell? ⟨w.heap.size,2,none⟩=some (.int .u64 c))/\(∀ X:WIn Inv,X.world.cell? ⟨w.heap.size,3,none⟩=some (.int .u64 d)):=RndIn.cells (x:=⟨R,b,c,d⟩) (w:=w);have M:Hid (∀ X:WIn Inv,Calls Tryz.prog 186 #[.int .u64 b,.int .i64 13] X.world fun e w'=>e=.returned (.int .u64 (jdw b 13))/\∃ Y:WIn Inv,w'=Y.world):=RndIn.call b 13 (by assumption) (by decide);have S:Hid (∀ X:WIn Inv,RndIn ⟨R,b,c,d⟩ w X.world):=fun X=>X.ok
 have q:Inv W1.drew:=ac;have N:Nonempty (WIn Inv):=⟨⟨_,q⟩⟩;clear h1 ac;clear_value Inv;go_wp2_with fail;refine jaB Inv (l:=[_,_,_,_,_,_,_]) (o:=_) rfl (by kernel_rfl) (by kernel_rfl) (by kernel_rfl) q ?_
 repeat (first | go_big_quiet_step ((go_at_call 186;with_reducible exact M.out _)) | quiet_step ((go_at_call 186;with_reducible exact M.out _)))
 refine wpQuiet_nil ?_;rintro _ ⟨X,rfl⟩;have k:=S.out X;generalize X.world=Y1 at k ⊢;clear X N q0 q1 q2 q3 M S q;clear Inv;obtain⟨W2,ar,h2⟩:=RndIn.set (y:=⟨R,A,c,d⟩) k (i:=1) (v:=.int .u64 A) rfl;obtain⟨C,D,E,c3,U⟩:=RndIn.at k;obtain⟨F,G,H,I,Z⟩:=RndIn.at h2;dsimp only at C D E c3 F G H I;obtain⟨T,e3⟩:∃ z,jdw R 32=z:=⟨_,rfl⟩;have g3:U64 T:=by rw[<- e3];exact jax (.inr rfl)
 obtain⟨W3,au,h3⟩:=RndIn.set (y:=⟨T,A,c,d⟩) h2 (i:=0) (v:=.int .u64 T) rfl;obtain⟨C,D,E,c3,U⟩:=RndIn.at h2;obtain⟨F,G,H,I,Z⟩:=RndIn.at h3;dsimp only at C D E c3 F G H I;go_wp2_with fail;refine (jaV R 32 _ (by assumption) (by decide)).mono ?_;rintro e w1 ⟨rfl,rfl⟩;obtain⟨J,e4⟩:∃ z,IntKind.u64.wrap (c+d)=z:=⟨_,rfl⟩;have g4:U64 J:=by rw[<- e4];exact jbG _
 obtain⟨W4,av,h4⟩:=RndIn.set (y:=⟨T,A,J,d⟩) h3 (i:=2) (v:=.int .u64 J) rfl;obtain⟨C,D,E,c3,U⟩:=RndIn.at h3;obtain⟨F,G,H,I,Z⟩:=RndIn.at h4;dsimp only at C D E c3 F G H I;obtain⟨P,e5⟩:∃ z,jbI (jdw d 16) J=z:=⟨_,rfl⟩;have g5:U64 P:=by rw[<- e5];exact jax (.inl rfl)
 have ad:RndIn ⟨T,A,J,d⟩ w W4.drew:=RndIn.go h4 (Below.refl _ _).drew;let Inv:World->Prop:=RndIn ⟨T,A,J,d⟩ w;obtain⟨q0,q1,q2,q3⟩:(∀ X:WIn Inv,X.world.cell? ⟨w.heap.size,0,none⟩=some (.int .u64 T))/\(∀ X:WIn Inv,X.world.cell? ⟨w.heap.size,1,none⟩=some (.int .u64 A))/\(∀ X:WIn Inv,X.world.cell? ⟨w.heap.size,2,none⟩=some (.int .u64 J))/\(∀ X:WIn Inv,X.world.cell? ⟨w.heap.size,3,none⟩=some (.int .u64 d)):=RndIn.cells (x:=⟨T,A,J,d⟩) (w:=w);have M:Hid (∀ X:WIn Inv,Calls Tryz.prog 186 #[.int .u64 d,.int .i64 16] X.world fun e w'=>e=.returned (.int .u64 (jdw d 16))/\∃ Y:WIn Inv,w'=Y.world):=RndIn.call d 16 (by assumption) (by decide);have S:Hid (∀ X:WIn Inv,RndIn ⟨T,A,J,d⟩ w X.world):=fun X=>X.ok
 have s:Inv W4.drew:=ad;have N:Nonempty (WIn Inv):=⟨⟨_,s⟩⟩;clear h4 ad;clear_value Inv;go_wp2_with fail;refine jaB Inv (l:=[_,_,_,_,_,_,_]) (o:=_) rfl (by kernel_rfl) (by kernel_rfl) (by kernel_rfl) s ?_
 repeat (first | go_big_quiet_step ((go_at_call 186;with_reducible exact M.out _)) | quiet_step ((go_at_call 186;with_reducible exact M.out _)))
 refine wpQuiet_nil ?_;rintro _ ⟨X,rfl⟩;have m:=S.out X;generalize X.world=Y4 at m ⊢;clear X N q0 q1 q2 q3 M S s;clear Inv;obtain⟨W5,aw,h5⟩:=RndIn.set (y:=⟨T,A,J,P⟩) m (i:=3) (v:=.int .u64 P) rfl;obtain⟨C,D,E,c3,U⟩:=RndIn.at m;obtain⟨F,G,H,I,Z⟩:=RndIn.at h5;dsimp only at C D E c3 F G H I;obtain⟨B,e6⟩:∃ z,IntKind.u64.wrap (T+P)=z:=⟨_,rfl⟩;have g6:U64 B:=by rw[<- e6];exact jbG _
 obtain⟨W6,ax,h6⟩:=RndIn.set (y:=⟨B,A,J,P⟩) h5 (i:=0) (v:=.int .u64 B) rfl;obtain⟨C,D,E,c3,U⟩:=RndIn.at h5;obtain⟨F,G,H,I,Z⟩:=RndIn.at h6;dsimp only at C D E c3 F G H I;obtain⟨L,e7⟩:∃ z,jbI (jdw P 21) B=z:=⟨_,rfl⟩;have g7:U64 L:=by rw[<- e7];exact jax (.inl rfl)
 have ae:RndIn ⟨B,A,J,P⟩ w W6.drew:=RndIn.go h6 (Below.refl _ _).drew;let Inv:World->Prop:=RndIn ⟨B,A,J,P⟩ w;obtain⟨q0,q1,q2,q3⟩:(∀ X:WIn Inv,X.world.cell? ⟨w.heap.size,0,none⟩=some (.int .u64 B))/\(∀ X:WIn Inv,X.world.cell? ⟨w.heap.size,1,none⟩=some (.int .u64 A))/\(∀ X:WIn Inv,X.world.cell? ⟨w.heap.size,2,none⟩=some (.int .u64 J))/\(∀ X:WIn Inv,X.world.cell? ⟨w.heap.size,3,none⟩=some (.int .u64 P)):=RndIn.cells (x:=⟨B,A,J,P⟩) (w:=w);have M:Hid (∀ X:WIn Inv,Calls Tryz.prog 186 #[.int .u64 P,.int .i64 21] X.world fun e w'=>e=.returned (.int .u64 (jdw P 21))/\∃ Y:WIn Inv,w'=Y.world):=RndIn.call P 21 (by assumption) (by decide);have S:Hid (∀ X:WIn Inv,RndIn ⟨B,A,J,P⟩ w X.world):=fun X=>X.ok
 have t:Inv W6.drew:=ae;have N:Nonempty (WIn Inv):=⟨⟨_,t⟩⟩;clear h6 ae;clear_value Inv;go_wp2_with fail;refine jaB Inv (l:=[_,_,_,_,_,_,_]) (o:=_) rfl (by kernel_rfl) (by kernel_rfl) (by kernel_rfl) t ?_
 repeat (first | go_big_quiet_step ((go_at_call 186;with_reducible exact M.out _)) | quiet_step ((go_at_call 186;with_reducible exact M.out _)))
 refine wpQuiet_nil ?_;rintro _ ⟨X,rfl⟩;have n:=S.out X;generalize X.world=Y6 at n ⊢;clear X N q0 q1 q2 q3 M S t;clear Inv;obtain⟨W7,ay,h7⟩:=RndIn.set (y:=⟨B,A,J,L⟩) n (i:=3) (v:=.int .u64 L) rfl;obtain⟨C,D,E,c3,U⟩:=RndIn.at n;obtain⟨F,G,H,I,Z⟩:=RndIn.at h7;dsimp only at C D E c3 F G H I;obtain⟨Q,e8⟩:∃ z,IntKind.u64.wrap (J+A)=z:=⟨_,rfl⟩;have g8:U64 Q:=by rw[<- e8];exact jbG _
 obtain⟨W8,az,h8⟩:=RndIn.set (y:=⟨B,A,Q,L⟩) h7 (i:=2) (v:=.int .u64 Q) rfl;obtain⟨C,D,E,c3,U⟩:=RndIn.at h7;obtain⟨F,G,H,I,Z⟩:=RndIn.at h8;dsimp only at C D E c3 F G H I;obtain⟨g,e9⟩:∃ z,jbI (jdw A 17) Q=z:=⟨_,rfl⟩;have g9:U64 g:=by rw[<- e9];exact jax (.inl rfl)
 have af:RndIn ⟨B,A,Q,L⟩ w W8.drew:=RndIn.go h8 (Below.refl _ _).drew;let Inv:World->Prop:=RndIn ⟨B,A,Q,L⟩ w;obtain⟨q0,q1,q2,q3⟩:(∀ X:WIn Inv,X.world.cell? ⟨w.heap.size,0,none⟩=some (.int .u64 B))/\(∀ X:WIn Inv,X.world.cell? ⟨w.heap.size,1,none⟩=some (.int .u64 A))/\(∀ X:WIn Inv,X.world.cell? ⟨w.heap.size,2,none⟩=some (.int .u64 Q))/\(∀ X:WIn Inv,X.world.cell? ⟨w.heap.size,3,none⟩=some (.int .u64 L)):=RndIn.cells (x:=⟨B,A,Q,L⟩) (w:=w);have M:Hid (∀ X:WIn Inv,Calls Tryz.prog 186 #[.int .u64 A,.int .i64 17] X.world fun e w'=>e=.returned (.int .u64 (jdw A 17))/\∃ Y:WIn Inv,w'=Y.world):=RndIn.call A 17 (by assumption) (by decide);have S:Hid (∀ X:WIn Inv,RndIn ⟨B,A,Q,L⟩ w X.world):=fun X=>X.ok
 have u:Inv W8.drew:=af;have N:Nonempty (WIn Inv):=⟨⟨_,u⟩⟩;clear h8 af;clear_value Inv;go_wp2_with fail;refine jaB Inv (l:=[_,_,_,_,_,_,_]) (o:=_) rfl (by kernel_rfl) (by kernel_rfl) (by kernel_rfl) u ?_
 repeat (first | go_big_quiet_step ((go_at_call 186;with_reducible exact M.out _)) | quiet_step ((go_at_call 186;with_reducible exact M.out _)))
 refine wpQuiet_nil ?_;rintro _ ⟨X,rfl⟩;have p:=S.out X;generalize X.world=Y8 at p ⊢;clear X N q0 q1 q2 q3 M S u;clear Inv;obtain⟨W9,aA,h9⟩:=RndIn.set (y:=⟨B,g,Q,L⟩) p (i:=1) (v:=.int .u64 g) rfl;obtain⟨C,D,E,c3,U⟩:=RndIn.at p;obtain⟨F,G,H,I,Z⟩:=RndIn.at h9;dsimp only at C D E c3 F G H I;obtain⟨j,ab⟩:∃ z,jdw Q 32=z:=⟨_,rfl⟩;have ao:U64 j:=by rw[<- ab];exact jax (.inr rfl)
 obtain⟨aa,an,f⟩:=RndIn.set (y:=⟨B,g,j,L⟩) h9 (i:=2) (v:=.int .u64 j) rfl;obtain⟨C,D,E,c3,U⟩:=RndIn.at h9;obtain⟨F,G,H,I,Z⟩:=RndIn.at f;dsimp only at C D E c3 F G H I;go_wp2_with fail;refine (jaV Q 32 _ (by assumption) (by decide)).mono ?_;rintro e w1 ⟨rfl,rfl⟩;have O:=f.res;obtain⟨p0,p1,p2,p3⟩:=cl4 O;obtain⟨t0,t1,t2,t3⟩:=cz4 O;have aj:Hid (Bw w (st4 aa (w.heap.size+1) ⟨B,g,j,L⟩)):=jcW f.below (Nat.le_succ _);have ak:Hid ((st4 aa (w.heap.size+1) ⟨B,g,j,L⟩).heap[w.heap.size+1]? = some (.cells (V4.vals ⟨B,g,j,L⟩) 264 (0,0))):=jcA (x:=⟨0,0,0,0⟩) O
 have al:Hid (r=⟨B,g,j,L⟩):=by
  rw[Hid,<- HR.out];unfold rnd;dsimp only;rw[e1,e2,e3,e4,e5,e6,e7,e8,e9,ab]
 clear O f;go_wp2_with fail;refine bodyPost_ret (results_cell_row rfl _ _ (w.heap.size+1) 264 (V4.vals ⟨B,g,j,L⟩) (0,0) _ rfl ak.out jhy rfl jgJ) rfl ⟨?_,aj.out⟩;rw[al.out];rfl
def jdD:Nat->V4->V4
 | 0,v=>v
 | n+1,v=>jdD n (rnd v)
theorem jcS:∀ (n:Nat) (v:V4),jdD (n+1) v=rnd (jdD n v)
 | 0,_=>rfl
 | n+1,v=>by rw[jdD,jcS n (rnd v)];rfl
theorem jgC {v:V4} (h:v.Ok):∀ n,(jdD n v).Ok
 | 0=>h
 | n+1=>by rw[jcS];exact jiF _
structure OnlyB (b:Nat) (W W':World):Prop where
 below:Below b W W'
 other:∀ j,j<W.heap.size->j≠b->W'.heap[j]? = W.heap[j]?
theorem OnlyB.trans {b:Nat} {X Y Z:World} (h:OnlyB b X Y) (k:OnlyB b Y Z):OnlyB b X Z:=⟨h.below.trans k.below,fun j A B=>(k.other j (Nat.lt_of_lt_of_le A h.below.size) B).trans (h.other j A B)⟩
theorem OnlyB.refl (b:Nat) (X:World):OnlyB b X X:=⟨Below.refl _ _,fun _ _ _=>rfl⟩
theorem OnlyB.drew (b:Nat) (X:World):OnlyB b X X.drew:=⟨(Below.refl _ _).drew,fun _ _ _=>rfl⟩
theorem OnlyB.set (b i:Nat) (X:World) (v:Value):OnlyB b X (X.setCell ⟨b,i,none⟩ v):=⟨(Below.refl _ _).setCell (p:=⟨b,i,none⟩) (Nat.le_refl _) v,fun _ _ A=>jay (p:=⟨b,i,none⟩) (fun e=>A e.symm) v⟩
theorem OnlyB.of_below {b:Nat} {X Y:World} (h:Bw X Y) (A:b<=X.heap.size):OnlyB b X Y:=⟨h.mono A,fun j B _=>h.block j B⟩
theorem OnlyB.st4 (b:Nat) (X:World) (v:V4):OnlyB b X (st4 X b v):=(((OnlyB.set b 0 X _).trans (OnlyB.set b 1 _ _)).trans (OnlyB.set b 2 _ _)).trans (OnlyB.set b 3 _ _)
def NumAt (w:World) (b:Nat) (v:V4):Prop:=w.heap[b]? = some (.cells v.vals 267 (0,0))
theorem NumAt.lt {w:World} {b:Nat} {v:V4} (h:NumAt w b v):b<w.heap.size:=(Array.getElem?_eq_some_iff.1 h).1
theorem NumAt.cells {w:World} {b:Nat} {v:V4} (h:NumAt w b v):w.cell? ⟨b,0,none⟩=some (.int .u64 v.a)/\w.cell? ⟨b,1,none⟩=some (.int .u64 v.b)/\w.cell? ⟨b,2,none⟩=some (.int .u64 v.c)/\w.cell? ⟨b,3,none⟩=some (.int .u64 v.d)/\w.frozen? ⟨b,0,none⟩=false/\w.frozen? ⟨b,1,none⟩=false/\w.frozen? ⟨b,2,none⟩=false/\w.frozen? ⟨b,3,none⟩=false :=
 ⟨cCc h 0,cCc h 1,cCc h 2,cCc h 3,cFz h 0,cFz h 1,cFz h 2,cFz h 3⟩
theorem jdc (b n:Nat) (v:V4) (w:World) (h:NumAt w b v) (L:v.Ok) (g:n<=4) :
  Calls Tryz.prog 125 #[.pointer (some ⟨b,0,none⟩),.int .i64 n] w fun e M=>e=.returned (.tuple #[])/\NumAt M b (jdD n v)/\OnlyB b w M:=by
 have H:=Lib.hid h;have P:=Lib.hid L;clear h L;go_enter Tryz.func125,Tryz.ntmps125;go_wp2_with fail;go_loopw [5] (fun i wr=>∃ k:Nat,i=.int .i64 k/\k<=n/\NumAt wr b (jdD k v)/\Hid (OnlyB b w wr)) (fun i _=>n-(intOf i).toNat)
 case atStart=>exact⟨0,rfl,Nat.zero_le _,H.out,OnlyB.refl _ _⟩
 case round =>
  obtain⟨k,rfl,f,B,J⟩:=hrel;by_cases Q:k<n
  ·have G:(jdD k v).Ok:=jgC P.out k
   have D:=Lib.hid (jcS k v);obtain⟨u,E⟩:∃ u,jdD k v=u:=⟨_,rfl⟩;rw[E] at B G D;have O:=Lib.hid G;have I:=Lib.hid B;obtain⟨R,S,T,c3,-,-,-,-⟩:=B.cells;clear B G E;go_wp2_with fail;refine (jfP u _ O.out).mono ?_;rintro e N ⟨rfl,C⟩;have A:NumAt N b u:=known C (Nat.le_refl _) I.out;obtain⟨U,V,X,Y,Z,a,c,d⟩:=A.cells;have F:=Lib.hid A;unfold V4.vals;clear A;go_wp2_with fail;refine⟨⟨k+1,by go_num,by omega,?_,?_⟩,by simp[intOf];omega⟩
   ·rw[D.out];exact jcA (v:=rnd u) (x:=u) F.out
   ·exact (J.out.trans (OnlyB.of_below C (Nat.le_of_lt I.out.lt))).trans (OnlyB.st4 b N (rnd u))
  ·obtain rfl:k=n:=by omega
   go_wp2_with fail;go_end0;exact⟨rfl,B,J.out⟩
def jel (v:V4) (m:Int):V4:=let u:=jdD 2 { v with d:=jbI v.d m };{ u with a:=jbI u.a m }
theorem jhs {v:V4} {m:Int} (h:v.Ok):(jel v m).Ok:=by
 have A:(jdD 2 { v with d:=jbI v.d m }).Ok:=jgC (v:={ v with d:=jbI v.d m }) ⟨h.1,h.2.1,h.2.2.1,jax (.inl rfl)⟩ 2;unfold jel;generalize jdD 2 { v with d:=jbI v.d m }=u at A ⊢;exact⟨jax (.inl rfl),A.2⟩
theorem NumAt.set {w:World} {b i:Nat} {v u:V4} {x:Value} (h:NumAt w b v) (A:v.vals.setIfInBounds i x=u.vals):∃ V,w.setCell ⟨b,i,none⟩ x=V/\NumAt V b u/\OnlyB b w V :=
 ⟨_,rfl,by unfold NumAt;rw[<- A];exact hSk h x,OnlyB.set _ _ _ _⟩
theorem jht (b:Nat) (m:Int) (v:V4) (w:World) (h:NumAt w b v) (B:v.Ok) :
  Calls Tryz.prog 124 #[.pointer (some ⟨b,0,none⟩),.int .u64 m] w fun e I=>e=.returned (.tuple #[])/\NumAt I b (jel v m)/\OnlyB b w I:=by
 obtain⟨V,S,F,G⟩:=NumAt.set (i:=3) (x:=.int .u64 (jbI v.d m)) (u:={ v with d:=jbI v.d m }) h rfl;obtain⟨M,N,O,c3,-,-,-,R⟩:=h.cells;have D:=Lib.hid (jdc b 2 { v with d:=jbI v.d m } V.drew F ⟨B.1,B.2.1,B.2.2.1,jax (.inl rfl)⟩ (by decide));have J:=Lib.hid G;have E:Hid (jel v m = { jdD 2 { v with d:=jbI v.d m } with a:=jbI (jdD 2 { v with d:=jbI v.d m }).a m }):=rfl;obtain⟨u,H⟩:∃ u,jdD 2 { v with d:=jbI v.d m }=u:=⟨_,rfl⟩;rw[H] at D E;clear h B F G H;go_enter Tryz.func124,Tryz.ntmps124;go_wp2_with fail;go_region;go_wp2_with (go_at_call 125;refine D.out.mono ?_;rintro e L ⟨rfl,A,C⟩;obtain⟨P,-,-,-,Q,-,-,-⟩:=A.cells);go_region;go_wp2_with fail;go_end0;refine⟨rfl,?_,(((J.out.trans (OnlyB.drew _ _)).trans C).trans (OnlyB.set b 0 _ _)).trans (OnlyB.drew _ _)⟩;rw[E.out];exact hSk (W:=L) A _
def jiW (v:V4):Int:=jbI (jbI (jbI (jbI 0 v.a) v.b) v.c) v.d
theorem jgi (b c:Nat) (v:V4) (w:World) (h:NumAt w b v) :
  CR 126 #[.slice (some ⟨b,0,none⟩) 4 c] w (.int .u64 (jiW v)):=by
 obtain⟨A,B,C,c3,-,-,-,-⟩:=h.cells;clear h;go_enter Tryz.func126,Tryz.ntmps126;go_wp2_with fail;refine wp_loop_rounds 5 ?_;rw[rounds_succ];go_wp2_with fail;rw[rounds_succ];go_wp2_with fail;rw[rounds_succ];go_wp2_with fail;rw[rounds_succ];go_wp2_with fail;rw[rounds_succ];go_wp2_with fail;go_ret;exact⟨rfl,Below.refl _ _⟩
theorem jfF:Tryz.prog.underlying 267=some (.struct (Tryz.prog.fieldsOf 267)):=by kernel_rfl
theorem jeO:(Tryz.prog.info? 267).map (·.size)=some 4:=by kernel_rfl
def ja4 (A B:Int):V4:=⟨jbI A 8317987319222330741,jbI B 7237128888997146477,jbI A 7816392313619706465,jbI B 8387220255154660723⟩
theorem jdM (A B:Int):(ja4 A B).Ok:=⟨jax (.inl rfl),jax (.inl rfl),jax (.inl rfl),jax (.inl rfl)⟩
theorem jfV (A B:Int) (b:Nat) (w:World) (h:w.heap[b]? = some (.cells #[.int .u64 8317987319222330741,.int .u64 7237128888997146477,.int .u64 7816392313619706465,.int .u64 8387220255154660723] 22 (0,0))) :
  CR 122 #[.agg #[.int .u64 A,.int .u64 B],.slice (some ⟨b,0,none⟩) 4 4] w (.agg (ja4 A B).vals):=by
 obtain⟨e,f,g,c3⟩:=cl4 h;have q:b<w.heap.size:=(Array.getElem?_eq_some_iff.1 h).1;obtain⟨a,N,Y,G,C,J,O⟩:=jiq w #[.int .u64 A,.int .u64 B] 24 #[.int .u64 0,.int .u64 0,.int .u64 0,.int .u64 0] 267 #[.int .u64 0,.int .u64 0,.int .u64 0,.int .u64 0] 267;obtain⟨Z,M,I,D,P⟩:=jab a #[.int .u64 A,.int .u64 B] 316;rw[O] at I D P;have H:=J.trans (D.mono (by omega));replace h:=known H (Nat.le_refl _) h;replace C:=(D.block _ (by omega)).trans C;replace G:=(D.block _ (by omega)).trans G;rw[<- N] at M;have U:=Lib.hid G;have X:=Lib.hid C;obtain⟨c,d⟩:=cl2 I;obtain⟨i,j,k,l⟩:=cl4 h;obtain⟨r,s,t,u⟩:=cl4 C;obtain⟨m,n,o,p⟩:=cz4 C;have S:=Lib.hid H;clear h I C G Y J D O P H N;go_enter Tryz.func122,Tryz.ntmps122;go_wp2_with fail;refine wp_loop_rounds 5 ?_;rw[rounds_succ];go_wp2_with fail;rw[rounds_succ];go_wp2_with fail;rw[rounds_succ];go_wp2_with fail;rw[rounds_succ];go_wp2_with fail;rw[rounds_succ];obtain⟨V,L⟩:∃ V,(((Z.setCell ⟨w.heap.size+1+1,0,none⟩ (.int .u64 (bits .xor .u64 A 8317987319222330741))).setCell ⟨w.heap.size+1+1,1,none⟩ (.int .u64 (bits .xor .u64 B 7237128888997146477))).setCell ⟨w.heap.size+1+1,2,none⟩ (.int .u64 (bits .xor .u64 A 7816392313619706465))).setCell ⟨w.heap.size+1+1,3,none⟩ (.int .u64 (bits .xor .u64 B 8387220255154660723))=V:=⟨_,rfl⟩;rw[L]
 have E:V.heap[w.heap.size+1]? = some (.cells #[.int .u64 0,.int .u64 0,.int .u64 0,.int .u64 0] 267 (0,0)):=by
  rw[<- L];exact ((OnlyB.st4 (w.heap.size+1+1) Z (ja4 A B)).below.block _ (Nat.lt_succ_self _)).trans U.out
 have F:V.heap[w.heap.size+1+1]? = some (.cells (ja4 A B).vals 267 (0,0)):=by rw[<- L];exact jcA (x:=⟨0,0,0,0⟩) (v:=ja4 A B) X.out
 have T:Hid (Bw w V):=by rw[Hid,<- L];exact jcW (v:=ja4 A B) S.out (by omega)
 unfold ja4 V4.vals at F;dsimp only at F;obtain⟨y,z,p2,p3⟩:=cl4 E;obtain⟨t0,t1,t2,t3⟩:=cz4 E;obtain⟨v0,v1,v2,v3⟩:=cl4 F;have R:Hid ((st4 V (w.heap.size+1) (ja4 A B)).heap[w.heap.size+1]? = some (.cells (ja4 A B).vals 267 (0,0))):=jcA (x:=⟨0,0,0,0⟩) E;have Q:Hid (Bw w (st4 V (w.heap.size+1) (ja4 A B))):=jcW T.out (Nat.le_succ _);clear E F L M c d e f g c3 i j k l r s t u m n o p;go_wp2_with fail;exact bodyPost_ret (results_cell_row rfl _ _ (w.heap.size+1) 267 (ja4 A B).vals (0,0) _ rfl R.out jfF rfl jeO) rfl ⟨rfl,Q.out⟩
def jfX (s:ByteArray) (k:Nat):Int:=((s.data.getD k 0).toNat:Int)
def jig (s:ByteArray):Nat->Int
 | 0=>0
 | k+1=>bits .or .u64 (jig s k) (IntKind.u64.wrap (IntKind.u64.wrap (jfX s k)*2^(8*k)))
theorem jfY (s:ByteArray) (k:Nat) (h:k<s.size):((s[k]'h).toNat:Int)=jfX s k:=by
 unfold jfX;have A:k<s.data.size:=h;rw[Array.getD_eq_getD_getElem?,Array.getElem?_eq_getElem A];rfl
theorem jda (s:ByteArray) (w:World) (E:s.size<=8) :
  Calls Tryz.prog 152 #[.string s] w fun e B=>e=.returned (.int .u64 (jig s s.size))/\B=w:=by
 go_enter Tryz.func152,Tryz.ntmps152;go_wp2_with fail;go_loopw [3,7] (fun n i wr=>∃ k:Nat,n=.int .u64 (jig s k)/\i=.int .i64 k/\k<=s.size/\wr=w) (fun _ i _=>s.size-(intOf i).toNat)
 case atStart=>exact⟨0,rfl,rfl,Nat.zero_le _,rfl⟩
 case round =>
  obtain⟨k,rfl,rfl,D,rfl⟩:=hrel;by_cases A:k<s.size
  ·have C:=jfY s k A
   go_wp2_with fail;exact⟨⟨k+1,rfl,by go_num,by omega,trivial⟩,by simp[intOf];omega⟩
  ·obtain rfl:k=s.size:=by omega
   go_wp2_with fail;go_ret;exact⟨rfl,rfl⟩
def jdR (s:ByteArray) (j:Nat):Int:=jig (s.extract (8*j) (8*j+8)) 8
def jd2 (s:ByteArray):Int:=bits .or .u64 (jig (s.extract (8*(s.size / 8)) s.size) (s.extract (8*(s.size / 8)) s.size).size) (IntKind.u64.wrap (IntKind.u64.wrap s.size*72057594037927936))
def jas (s:ByteArray):List (Int × Bool):=(List.range (s.size / 8)).map (fun j=>(jdR s j,false))++[(jd2 s,true)]
theorem jb9 (s:ByteArray):(jas s).length=s.size / 8+1:=by simp[jas]
theorem jdS (s:ByteArray) (j:Nat) (h:j<s.size / 8):(jas s)[j]? = some (jdR s j,false):=by
 unfold jas;rw[List.getElem?_append_left (by simpa using h)];simp[h]
theorem jfa (s:ByteArray):(jas s)[s.size / 8]? = some (jd2 s,true):=by
 unfold jas;rw[List.getElem?_append_right (by simp)];simp
theorem jfb (s:ByteArray) (w:World) :
  Calls Tryz.prog 123 #[.string s] w fun e A=>e=.returned (.func (.func 151) #[] #[.pointer (some ⟨w.heap.size,0,none⟩)])/\A=w.alloc (.cells #[.string s] 9):=by
 go_enter Tryz.func123,Tryz.ntmps123;go_wp2;go_ret;exact⟨rfl,rfl⟩
theorem jhK (l I:Nat) (s:ByteArray) (X:s.size<4294967281) (J Q:List (Int × Bool)->World->Prop)
  (f:∀ A x W,J A W->A.length<(jas s).length->YieldAt Fence.wide 7 Tryz.prog l #[.int .u64 x.1,.bool x.2] W fun e O =>
   (e=.returned (.bool true)/\J (A++[x]) O/\KB I W O)\/(e=.returned (.bool false)/\Q (A++[x]) O))
  (W:World) (y:AbidesFrom W.heap.size J) (R:W.heap[I]? = some (.cells #[.string s] 9 (0,0))) (u:J [] W) :
  CallsIn Fence.wide 8 Tryz.prog 151 #[.func (.yield l) #[] #[],.pointer (some ⟨I,0,none⟩)] W fun e O=>(∃ v,e=.returned v) /\
   ((∃ M,M=jas s/\J M O)\/(∃ A,A <+: jas s/\Q A O)):=by
 have U:=jb9 s;refine callsIn_of_wp Tryz.func151 rfl trivial ?_ rfl;simp only[Tryz.ntmps151,List.size_toArray,List.length_cons,List.length_nil,Nat.reduceAdd,Nat.reduceSub,Array.replicate_succ,Array.replicate_zero,List.push_toArray,List.append_toArray,List.nil_append,List.cons_append];have Y:=Lib.hid U;have c9:W.cell? ⟨I,0,none⟩=some (.string s):=cCc R 0;clear U;gi_wp2;gi_loopw [3] (fun i wr=>∃ j:Nat,j<=s.size / 8/\i=.int .i64 ((8*j:Nat):Int)/\J ((jas s).take j) wr/\KB I W wr) (fun i _=>s.size-(intOf i).toNat)
 case atStart=>exact⟨0,Nat.zero_le _,rfl,u,KB.refl _ _⟩
 case round =>
  obtain⟨j,z,rfl,N,T⟩:=hrel;have c0:wr.cell? ⟨I,0,none⟩=some (.string s):=cCc (T _ R) 0;by_cases S:j<s.size / 8
  ·have V:=jdS s j S
   have aa:8*j+8<=s.size:=by omega
   obtain⟨p,tmps,assign,body,L,P⟩:=f _ (jdR s j,false) _ N (by rw[List.length_take,Y.out];omega);have c:=Lib.hid V;have d:(s.extract (8*j) (8*j+8)).size=8:=by simp;omega
   have G:=jda (s.extract (8*j) (8*j+8)) wr (by omega);rw[d] at G;have Z:(8:Int)<=(s.size:Int)-8*(j:Int):=by omega
   have m:Hid (∀ B,KB I wr B->KB I W B):=fun B h=>T.trans h
   have o:Hid ((jas s).take j++[(jdR s j,false)] <+: jas s):=by rw[Hid,<- jaq c.out];exact List.take_prefix _ _
   unfold jdR at L;dsimp only at L;obtain⟨t,ht⟩:∃ t,s.extract (8*j) (8*j+8)=t:=⟨_,rfl⟩;rw[ht] at G L;clear V d;gi_wp2_with fail;refine⟨trivial,(callsIn_wide.2 G).mono ?_⟩;rintro e a ⟨rfl,rfl⟩;gi_wp2_with fail;refine P.mono ?_;rintro e B (⟨rfl,D,H⟩ | ⟨rfl,C⟩)
   ·gi_wp2_with fail
    go_roundw
    case rel=>exact⟨j+1,by omega,by go_num,by rw[jaq c.out];exact D,m.out _ H⟩
    case measure=>simp[intOf];omega
   ·gi_wp2_with fail
    refine bodyPost_ret (results_none rfl _ _ _) rfl ?_;exact⟨⟨_,rfl⟩,.inr ⟨_,o.out,C⟩⟩
  ·obtain rfl:j=s.size / 8:=by omega
   have V:=jfa s;obtain⟨p,tmps,assign,body,L,P⟩:=f _ (jd2 s,true) _ (y _ _ _ none N (show wr.grownBy wr.drew none from⟨rfl,rfl,rfl,Nat.le_refl _,fun _ _ _=>rfl⟩) (fun r e=>by cases e)) (by rw[List.length_take,Y.out];omega);have G:=Lib.hid (fun W=>jda (s.extract (8*(s.size / 8)) s.size) W (by simp;omega));have b:Hid ((jas s).take (s.size / 8)++[(jd2 s,true)]=jas s):=by rw[Hid,<- jaq V,List.take_of_length_le (by rw[Y.out];exact Nat.le_refl _)]
   rw[b.out] at P;have F:Hid (∀ B,J (jas s) B->(∃ v,Ending.returned (Value.tuple #[])=Ending.returned v)/\((∃ M,M=jas s/\J M B)\/∃ A,A <+: jas s/\Q A B)):=fun B h=>⟨⟨_,rfl⟩,.inl ⟨_,rfl,h⟩⟩
   have E:Hid (∀ B,Q (jas s) B->(∃ v,Ending.returned (Value.tuple #[])=Ending.returned v)/\((∃ M,M=jas s/\J M B)\/∃ A,A <+: jas s/\Q A B)):=fun B h=>⟨⟨_,rfl⟩,.inr ⟨_,List.prefix_refl _,h⟩⟩
   unfold jd2 at L;dsimp only at L;obtain⟨t,ht⟩:∃ t,s.extract (8*(s.size / 8)) s.size=t:=⟨_,rfl⟩;rw[ht] at G L;obtain⟨q,k⟩:∃ q,s.size / 8=q:=⟨_,rfl⟩;have h1:8*q<=s.size:=by omega
   have Z:¬ (8:Int)<=(s.size:Int)-8*(q:Int):=by omega
   have ab:(0:Int)<=8*(q:Int):=by omega
   have ac:8*(q:Int)<=(s.size:Int):=by omega
   have ad:(8*(q:Int)).toNat=8*q:=by omega
   rw[k] at ht ⊢;clear V N b S z k;obtain⟨n,g⟩:∃ n,jig t t.size=n:=⟨_,rfl⟩;rw[g] at G L;clear g;gi_wp2_with fail;refine wpIn_region_any (by kernel_rfl) ?_;change wpAnyIn _ _ _ _ _ _ _ _ _ (World.drew _);refine wpAnyIn_take (i:=0) (v:=?_) rfl rfl (by kernel_rfl) (by kernel_rfl) (by kernel_rfl) (fun _ _ _ h=>h) ⟨Or.inl ⟨by rfl,?_⟩,fun _=>rfl⟩ ?_;rotate_left
   ·intro w;go_simp;with_reducible rfl
   refine wpAnyIn_take (i:=2) (v:=?_) rfl rfl (by kernel_rfl) (by kernel_rfl) (by kernel_rfl) (fun _ _ _ h=>h) ⟨Or.inl ⟨by rfl,?_⟩,fun _=>rfl⟩ ?_;rotate_left
   ·intro w;go_simp;with_reducible rfl
   refine wpAnyIn_ready (rs:=[1,5]) (by kernel_rfl) (by simp) ?_;refine AllReadyIn.cons rfl (fun K hK=>?_) ?_
   ·go_simp
    refine hK _ _ ?_;clear hK K;refine wpAnyIn_take (i:=3) (v:=?_) rfl rfl (by kernel_rfl) (by kernel_rfl) (by kernel_rfl) (fun _ _ _ h=>h) ⟨Or.inl ⟨by rfl,?_⟩,fun _=>rfl⟩ ?_;rotate_left
    ·intro w;go_simp;with_reducible rfl
    refine wpAnyIn_ready (rs:=[4,5]) (by kernel_rfl) (by simp) ?_;refine AllReadyIn.cons rfl (fun K hK=>?_) ?_
    ·go_simp
     refine⟨trivial,(callsIn_wide.2 (G.out _)).mono ?_⟩;rintro e a ⟨rfl,rfl⟩;refine hK _ _ ?_;clear hK K;refine wpAnyIn_ready (rs:=[5]) (by kernel_rfl) (by simp) ?_;refine AllReadyIn.cons rfl (fun K hK=>?_) ?_
     ·go_simp
      refine hK _ _ ?_;clear hK K;refine wpAnyIn_take (i:=6) (v:=?_) rfl rfl (by kernel_rfl) (by kernel_rfl) (by kernel_rfl) (fun _ _ _ h=>h) ⟨Or.inl ⟨by rfl,?_⟩,fun _=>rfl⟩ ?_;rotate_left
      ·intro w;go_simp;with_reducible rfl
      refine wpAnyIn_take (i:=7) (v:=?_) rfl rfl (by kernel_rfl) (by kernel_rfl) (by kernel_rfl) (fun _ _ _ h=>h) ⟨Or.inl ⟨by rfl,?_⟩,fun _=>rfl⟩ ?_;rotate_left
      ·intro w;go_simp;with_reducible rfl
      refine wpAnyIn_take (i:=8) (v:=?_) rfl rfl (by kernel_rfl) (by kernel_rfl) (by kernel_rfl) (fun _ _ _ h=>h) ⟨Or.inl ⟨by rfl,?_⟩,fun _=>rfl⟩ ?_;rotate_left
      ·intro w;go_simp;with_reducible rfl
      refine wpAnyIn_take (i:=9) (v:=?_) rfl rfl (by kernel_rfl) (by kernel_rfl) (by kernel_rfl) (fun _ _ _ h=>h) ⟨Or.inl ⟨by rfl,?_⟩,fun _=>rfl⟩ ?_;rotate_left
      ·intro w;go_simp;with_reducible rfl
      refine wpAnyIn_ready (rs:=[10]) (by kernel_rfl) (by simp) ?_;refine AllReadyIn.cons rfl (fun K hK=>?_) ?_
      ·go_simp
       refine P.mono ?_;rintro e B (⟨rfl,D,H⟩ | ⟨rfl,C⟩)
       ·refine hK _ _ ?_
        clear hK K;refine wpAnyIn_done (by kernel_rfl) ?_ _;gi_wp2;go_end0;exact F.out B D
       ·refine hK _ _ ?_
        clear hK K;refine wpAnyIn_done (by kernel_rfl) ?_ _;gi_wp2;go_end0;exact E.out B C
      exact AllReadyIn.nil
     exact AllReadyIn.nil
    refine AllReadyIn.cons rfl (fun K hK=>?_) ?_
    ·go_simp
     refine hK _ _ ?_;clear hK K;refine wpAnyIn_take (i:=6) (v:=?_) rfl rfl (by kernel_rfl) (by kernel_rfl) (by kernel_rfl) (fun _ _ _ h=>h) ⟨Or.inl ⟨by rfl,?_⟩,fun _=>rfl⟩ ?_;rotate_left
     ·intro w;go_simp;with_reducible rfl
     refine wpAnyIn_take (i:=7) (v:=?_) rfl rfl (by kernel_rfl) (by kernel_rfl) (by kernel_rfl) (fun _ _ _ h=>h) ⟨Or.inl ⟨by rfl,?_⟩,fun _=>rfl⟩ ?_;rotate_left
     ·intro w;go_simp;with_reducible rfl
     refine wpAnyIn_take (i:=8) (v:=?_) rfl rfl (by kernel_rfl) (by kernel_rfl) (by kernel_rfl) (fun _ _ _ h=>h) ⟨Or.inl ⟨by rfl,?_⟩,fun _=>rfl⟩ ?_;rotate_left
     ·intro w;go_simp;with_reducible rfl
     refine wpAnyIn_ready (rs:=[4]) (by kernel_rfl) (by simp) ?_;refine AllReadyIn.cons rfl (fun K hK=>?_) ?_
     ·go_simp
      refine⟨trivial,(callsIn_wide.2 (G.out _)).mono ?_⟩;rintro e a ⟨rfl,rfl⟩;refine hK _ _ ?_;clear hK K;refine wpAnyIn_take (i:=9) (v:=?_) rfl rfl (by kernel_rfl) (by kernel_rfl) (by kernel_rfl) (fun _ _ _ h=>h) ⟨Or.inl ⟨by rfl,?_⟩,fun _=>rfl⟩ ?_;rotate_left
      ·intro w;go_simp;with_reducible rfl
      refine wpAnyIn_ready (rs:=[10]) (by kernel_rfl) (by simp) ?_;refine AllReadyIn.cons rfl (fun K hK=>?_) ?_
      ·go_simp
       refine P.mono ?_;rintro e B (⟨rfl,D,H⟩ | ⟨rfl,C⟩)
       ·refine hK _ _ ?_
        clear hK K;refine wpAnyIn_done (by kernel_rfl) ?_ _;gi_wp2;go_end0;exact F.out B D
       ·refine hK _ _ ?_
        clear hK K;refine wpAnyIn_done (by kernel_rfl) ?_ _;gi_wp2;go_end0;exact E.out B C
      exact AllReadyIn.nil
     exact AllReadyIn.nil
    exact AllReadyIn.nil
   refine AllReadyIn.cons rfl (fun K hK=>?_) ?_
   ·go_simp
    refine hK _ _ ?_;clear hK K;refine wpAnyIn_take (i:=6) (v:=?_) rfl rfl (by kernel_rfl) (by kernel_rfl) (by kernel_rfl) (fun _ _ _ h=>h) ⟨Or.inl ⟨by rfl,?_⟩,fun _=>rfl⟩ ?_;rotate_left
    ·intro w;go_simp;with_reducible rfl
    refine wpAnyIn_take (i:=7) (v:=?_) rfl rfl (by kernel_rfl) (by kernel_rfl) (by kernel_rfl) (fun _ _ _ h=>h) ⟨Or.inl ⟨by rfl,?_⟩,fun _=>rfl⟩ ?_;rotate_left
    ·intro w;go_simp;with_reducible rfl
    refine wpAnyIn_take (i:=8) (v:=?_) rfl rfl (by kernel_rfl) (by kernel_rfl) (by kernel_rfl) (fun _ _ _ h=>h) ⟨Or.inl ⟨by rfl,?_⟩,fun _=>rfl⟩ ?_;rotate_left
    ·intro w;go_simp;with_reducible rfl
    refine wpAnyIn_ready (rs:=[1]) (by kernel_rfl) (by simp) ?_;refine AllReadyIn.cons rfl (fun K hK=>?_) ?_
    ·go_simp
     refine hK _ _ ?_;clear hK K;refine wpAnyIn_take (i:=3) (v:=?_) rfl rfl (by kernel_rfl) (by kernel_rfl) (by kernel_rfl) (fun _ _ _ h=>h) ⟨Or.inl ⟨by rfl,?_⟩,fun _=>rfl⟩ ?_;rotate_left
     ·intro w;go_simp;with_reducible rfl
     refine wpAnyIn_ready (rs:=[4]) (by kernel_rfl) (by simp) ?_;refine AllReadyIn.cons rfl (fun K hK=>?_) ?_
     ·go_simp
      refine⟨trivial,(callsIn_wide.2 (G.out _)).mono ?_⟩;rintro e a ⟨rfl,rfl⟩;refine hK _ _ ?_;clear hK K;refine wpAnyIn_take (i:=9) (v:=?_) rfl rfl (by kernel_rfl) (by kernel_rfl) (by kernel_rfl) (fun _ _ _ h=>h) ⟨Or.inl ⟨by rfl,?_⟩,fun _=>rfl⟩ ?_;rotate_left
      ·intro w;go_simp;with_reducible rfl
      refine wpAnyIn_ready (rs:=[10]) (by kernel_rfl) (by simp) ?_;refine AllReadyIn.cons rfl (fun K hK=>?_) ?_
      ·go_simp
       refine P.mono ?_;rintro e B (⟨rfl,D,H⟩ | ⟨rfl,C⟩)
       ·refine hK _ _ ?_
        clear hK K;refine wpAnyIn_done (by kernel_rfl) ?_ _;gi_wp2;go_end0;exact F.out B D
       ·refine hK _ _ ?_
        clear hK K;refine wpAnyIn_done (by kernel_rfl) ?_ _;gi_wp2;go_end0;exact E.out B C
      exact AllReadyIn.nil
     exact AllReadyIn.nil
    exact AllReadyIn.nil
   exact AllReadyIn.nil
theorem jfc (B:Nat) (s:ByteArray) (A:s.size<4294967281) (w:World) (I:w.heap[B]? = some (.cells #[.string s] 9 (0,0))) :
  SeqStopsK Fence.wide 8 Tryz.prog 151 #[.pointer (some ⟨B,0,none⟩)] (fun x:Int × Bool=>#[.int .u64 x.1,.bool x.2]) (KB B) (fun L=>L=jas s) (fun C=>C <+: jas s) (jas s).length w:=fun l J D W G F _ H E =>
 jhK l B s A J D H W F (known G (Nat.le_refl _) I) E
section
attribute [local go_sem] Oper.semAt_some
def jja (v:V4):V4:=jdD 4 { v with c:=jbI v.c 255 }
def jbi (A B:Int) (l:List (Int × Bool)):V4:=(l.map (·.1)).foldl jel (ja4 A B)
def jij (A B:Int) (s:ByteArray):Int:=jiW (jja (jbi A B (jas s)))
theorem jfe (A B:Int) (l:List (Int × Bool)) (x:Int × Bool):jbi A B (l++[x])=jel (jbi A B l) x.1:=by unfold jbi;rw[List.map_append,List.foldl_append];rfl
theorem jbM:∀ (l:List Int) (v:V4),v.Ok->(l.foldl jel v).Ok
 | [],_,h=>h
 | _::l,_,h=>jbM l _ (jhs h)
theorem jeW (A B:Int) (l:List (Int × Bool)):(jbi A B l).Ok:=jbM _ _ (jdM A B)
theorem OnlyB.keeps {b B:Nat} {W C:World} {c:Array Value} {t:TypeId} {D:Nat × Nat} (h:OnlyB b W C) (E:W.heap[b]? = some (.cells c t D)):KeepsFrom B W C :=
 ⟨h.below.size,fun k o _ A F=>by
  refine (h.other k (Array.getElem?_eq_some_iff.1 A).1 (fun e=>?_)).trans A;subst e;rw[E] at A;injection A with A
  subst A
  cases F⟩
theorem jeF {s:ByteArray} {B:List (Int × Bool)} {x:Int × Bool} (h:B++[x] <+: jas s) (C:x.2=true):B++[x]=jas s:=by
 have A:(jas s)[B.length]? = some x:=by
  obtain⟨r,F⟩:=h;rw[<- F,List.append_assoc];simp
 have D:=(List.getElem?_eq_some_iff.1 A).1;rw[jb9] at D;by_cases E:B.length<s.size / 8
 ·rw[jdS s _ E] at A
  injection A with A
  rw[<- A] at C
  cases C
 ·exact h.eq_of_length (by rw[jb9,List.length_append];simp;omega)
theorem jcU (A B:Int) (s:ByteArray) (w:World) (hs:s.size<4294967281):CR 100 #[.agg #[.int .u64 A,.int .u64 B],.string s] w (.int .u64 (jij A B s)):=by
 obtain⟨Wa,ak,y,n,ad⟩:=jab w #[.int .u64 A,.int .u64 B] 24;obtain⟨a0,a1⟩:=cl2 y;obtain⟨Wb,al,Y,Q,ae⟩:=jab Wa #[.int .u64 8317987319222330741,.int .u64 7237128888997146477,.int .u64 7816392313619706465,.int .u64 8387220255154660723] 22;rw[ad] at Y Q ae;have hG:=jfV A B (w.heap.size+1) Wb Y;have q:=jdM A B;have HF:Hid (ja4 A B=jbi A B []):=rfl;obtain⟨v0,af⟩:∃ v,ja4 A B=v:=⟨_,rfl⟩;rw[af] at hG q HF;clear af;refine jbS Tryz.func100 rfl ?_;simp only[Tryz.ntmps100,List.size_toArray,List.length_cons,List.length_nil,Nat.reduceAdd,Nat.reduceSub,Array.replicate_succ,Array.replicate_zero,List.push_toArray,List.append_toArray,List.nil_append,List.cons_append];go_wp2_with fail;go_step3;go_wp2_with fail;refine hG.mono ?_;rintro e d ⟨rfl,Z⟩;obtain⟨W2,aj,X,m,ab⟩:=jab d v0.vals 267;have G:Bw w d:=(n.trans (Q.mono (by omega))).trans (Z.mono (by omega));have am:=Z.size;have O:Bw w W2:=G.trans (m.mono (by omega));unfold V4.vals at *;clear hG Z Q n Y y a0 a1 ak al;go_wp2_with fail;have t:=Lib.hid X;apply wp_label;go_wp2_with (go_at_call 123;refine (jfb _ _).mono ?_;rintro e w2 ⟨rfl,rfl⟩);obtain⟨W3,r,M,F,ac⟩:=jab W2 #[.string s] 9;rw[ab] at M F ac;rw[r];have I:=jfc (d.heap.size+1) s hs W3 M;have H:W3.heap[d.heap.size]? = some (.cells (jbi A B []).vals 267 (0,0)):=by rw[<- HF.out];exact (F.block _ (by omega)).trans X
 have R:Bw w W3:=O.trans (F.mono (by omega));have N:w.heap.size<=d.heap.size:=G.size;have HS:=Lib.hid hs;obtain⟨b,hb⟩:∃ b,d.heap.size=b:=⟨_,rfl⟩;rw[hb] at M F ac I H N ⊢;clear X t m ab G am O aj r M F ad ae hb hs q
 refine jb2 (b+1) 6 7 (fun x:Int × Bool=>.int .u64 x.1) (fun x:Int × Bool=>.bool x.2) (gf:=151) (lb:=#[.pointer (some ⟨b+1,0,none⟩)]) rfl (enters_of Tryz.func151 (by kernel_rfl) rfl)
  I (by omega) (Below.refl _ _) (fun _=>rfl)
  (fun C W=>W.heap[b]? = some (.cells (jbi A B C).vals 267 (0,0))/\Bw w W)
  (fun C W=>(∃ pr x,C=pr++[x]/\x.2=true)/\W.heap[b]? = some (.cells (jbi A B C).vals 267 (0,0))/\Bw w W)
  ((jcv _ _ (fun C=>(jbi A B C).vals) _).and (ownFrom_below (Nat.le_refl _) R.size))
  ((ownFrom_pure _ _).and ((jcv _ _ (fun C=>(jbi A B C).vals) _).and (ownFrom_below (Nat.le_refl _) R.size)))
  ⟨H,R⟩ ?assign ?body ?fin
 case assign =>
  rintro l C x W K hI hK;simp only[List.zip_toArray,List.zip_cons_cons,List.zip_nil_right,List.size_toArray,List.foldl_toArray',List.foldl_cons,List.foldl_nil,List.setIfInBounds_toArray,List.set_cons_succ,List.set_cons_zero] at hK ⊢;gi_wp2;exact hI
 case body =>
  rintro l C x W ⟨a,hB⟩ ap;simp only[List.zip_toArray,List.zip_cons_cons,List.zip_nil_right,List.size_toArray,List.foldl_toArray',List.foldl_cons,List.foldl_nil,List.setIfInBounds_toArray,List.set_cons_succ,List.set_cons_zero];have J:NumAt W b (jbi A B C):=a;have HT:=Lib.hid (jht b x.1 _ W J (jeW A B C));have HN:Hid (jel (jbi A B C) x.1=jbi A B (C++[x])):=(jfe A B C x).symm;have HK:Hid (∀ g,OnlyB b W g->KeepsFrom W3.heap.size W g/\KB (b+1) W g/\Bw w g):=fun g h=>⟨h.keeps a,fun o P=>(h.other _ (Array.getElem?_eq_some_iff.1 P).1 (by omega)).trans P,hB.trans (h.below.mono N)⟩
  have ao:b<W.heap.size:=J.lt;clear a J
  cases hx:x.2 with
  | true =>
   have HX:=Lib.hid hx;clear hx;gi_wp2_with fail;refine⟨trivial,(callsIn_wide.2 HT.out).mono ?_⟩;rintro e w4 ⟨rfl,E,T⟩;rw[HN.out] at E;obtain⟨k1,-,k3⟩:=HK.out _ T;gi_wp2_with fail;exact⟨k1,rfl,⟨C,x,rfl,HX.out⟩,E,k3⟩
  | false =>
   clear hx;gi_wp2_with fail;refine⟨trivial,(callsIn_wide.2 HT.out).mono ?_⟩;rintro e w4 ⟨rfl,E,T⟩;rw[HN.out] at E;obtain⟨k1,k2,k3⟩:=HK.out _ T;gi_wp2_with fail;exact⟨k1,k2,E,k3⟩
 case fin =>
  intro D W hD hI hK
  have ah:W.heap[b]? = some (.cells (jbi A B (jas s)).vals 267 (0,0))/\Bw w W:=by
   rcases hI with h | ⟨C,hp,⟨pr,x,rfl,hx⟩,h⟩
   ·exact h
   ·rw[jeF hp hx] at h
    exact h
  have an:b+1<D:=by omega
  obtain⟨J,hB⟩:=ah;have J:NumAt W b (jbi A B (jas s)):=J;have P:=jeW A B (jas s);have HE:Hid (jij A B s=jiW (jdD 4 { jbi A B (jas s) with c:=jbI (jbi A B (jas s)).c 255 })):=rfl;obtain⟨u,hu⟩:∃ u,jbi A B (jas s)=u:=⟨_,rfl⟩;rw[hu] at J P HE;clear hI hu H I;obtain⟨V,hV,k,U⟩:=NumAt.set (i:=2) (x:=.int .u64 (jbI u.c 255)) (u:={ u with c:=jbI u.c 255 }) J rfl;obtain⟨c0,c1,c2,c3,-,-,f2,-⟩:=J.cells;have S:V.heap[D]? = some (.deferred (some [])):=(U.other _ (Array.getElem?_eq_some_iff.1 hK).1 (by omega)).trans hK;have HR:=Lib.hid (jdc b 4 { u with c:=jbI u.c 255 } V k ⟨P.1,P.2.1,jax (.inl rfl),P.2.2.2⟩ (by decide));have HB:=Lib.hid (hB.trans (U.below.mono N));obtain⟨z,hz⟩:∃ z,jdD 4 { u with c:=jbI u.c 255 }=z:=⟨_,rfl⟩;rw[hz] at HR HE;have ag:D<V.heap.size:=(Array.getElem?_eq_some_iff.1 S).1;clear hz J P k U hB hK;go_wp2_with (go_at_call 125;refine HR.out.mono ?_;rintro e w5 ⟨rfl,j,L⟩);have HM:=Lib.hid (jgi b 4 z w5 j);have ai:w5.heap[D]? = some (.deferred (some [])):=(L.other _ ag (by omega)).trans S;have f:=Lib.hid (HB.out.trans (L.below.mono N));have aq:=L.below.size;clear j L S;go_wp2_with (go_at_call 126;refine HM.out.mono ?_;rintro e w6 ⟨rfl,aa⟩);rw[Exit.noGoto_ret];have p:=(aa.block _ (by omega)).trans ai;refine jaC p (results_tmp rfl _ _ _) ⟨by rw[HE.out];rfl,?_⟩;exact jcZ (f.out.trans (aa.mono f.out.size)) (by omega) p
end
theorem jhv (S C E A B:Int) (w:World) (O:0<=C) (P:C<=1000000) :
  Calls Tryz.prog 48 #[.agg #[.int .u64 S,.int .i64 C,.int .u64 E],.agg #[.int .u64 A,.int .u64 B]] w fun e g=>∃ b,e=.returned (.tuple #[.pointer (some ⟨b,0,none⟩),.int .i64 0])/\Bw w g:=by
 obtain⟨T,Z,J,L,G,f⟩:=jbq w #[.int .u64 S,.int .i64 C,.int .u64 E] 41 #[.int .u64 A,.int .u64 B] 24;obtain⟨h,i,j⟩:=cl3 J;obtain⟨m,n⟩:=cl2 L;have k:decide (C<0)=false:=decide_eq_false (by omega);have l:decide (1000000<C)=false:=decide_eq_false (by omega);have X:=Lib.hid (fun W=>jdo W);obtain⟨U,a,H,I,Q⟩:=jab T #[.slice none 0 0,.int .u64 0,.slice none 0 0,.int .u64 0,.slice none 0 0,.int .u64 0,.int .u64 S,.int .i64 C,.int .u64 E,.int .u64 A,.int .u64 B] 171;have D:Bw w U:=G.trans (I.mono G.size);have R:T.heap.size=w.heap.size+2:=by omega
 rw[R] at H
 have V:Hid (∀ F,Bw U F->F.cell? ⟨w.heap.size+2,1,none⟩=some (.int .u64 0)/\F.cell? ⟨w.heap.size+2,2,none⟩=some (.slice none 0 0)/\F.frozen? ⟨w.heap.size+2,1,none⟩=false/\F.frozen? ⟨w.heap.size+2,2,none⟩=false/\Hid (Bw w ((F.setCell ⟨w.heap.size+2,1,none⟩ (.int .u64 1)).setCell ⟨w.heap.size+2,2,none⟩ (.slice none 0 0)))):=fun F M=>by
  have N:=known M (Nat.le_refl _) H;exact⟨cCc N 1,cCc N 2,cFz N 1,cFz N 2,((D.trans (M.mono D.size)).setCell (p:=⟨w.heap.size+2,1,none⟩) (by show w.heap.size<=w.heap.size+2;omega) _).setCell (p:=⟨w.heap.size+2,2,none⟩) (by show w.heap.size<=w.heap.size+2;omega) _⟩
 have c:¬ C<0:=by omega
 have d:¬ 1000000<C:=by omega
 clear J L H G I D O P Q;go_enter Tryz.func48,Tryz.ntmps48
 go_wp2_with
  (go_at_call 73
   refine (X.out _).mono ?_;rintro e F ⟨rfl,M⟩;obtain⟨o,q,r,s,Y⟩:=V.out F M;clear M)
 exact bodyPost_ret (v:=.tuple #[.pointer (some ⟨w.heap.size+2,0,none⟩),.int .i64 0]) (by simp[results,Tryz.results48,go_sem]) rfl ⟨_,rfl,Y.out⟩
def jdy:ByteArray:=⟨#[116,101,110,97,110,116]⟩
def jiN:ByteArray:=⟨#[0]⟩
def jiO:ByteArray:=⟨#[1]⟩
def jdQ (A B:Int) (s:ByteArray):Int × Int:=(jij A B (jiN++s),jij A B (jiO++s))
theorem jfJ (A B:Int) (s:ByteArray) (w:World) (l:s.size<4294967280):CR 74 #[.agg #[.int .u64 A,.int .u64 B],.string s] w (.agg #[.int .u64 (jdQ A B s).1,.int .u64 (jdQ A B s).2]):=by
 have d:(jiN++s).size<4294967281:=by rw[ByteArray.size_append];show 1+s.size<_;omega
 have f:(jiO++s).size<4294967281:=by rw[ByteArray.size_append];show 1+s.size<_;omega
 have x:¬ 9223372036854775807<1+s.size:=by omega
 unfold jdQ;dsimp only;obtain⟨F,L⟩:∃ S,jij A B (jiN++s)=S:=⟨_,rfl⟩;obtain⟨I,M⟩:∃ S,jij A B (jiO++s)=S:=⟨_,rfl⟩;have N:Hid (∀ W,CR 100 #[.agg #[.int .u64 A,.int .u64 B],.string (⟨#[0]⟩++s)] W (.int .u64 F)):=fun W=>by rw[<- L];exact jcU A B (jiN++s) W d
 have U:Hid (∀ W,CR 100 #[.agg #[.int .u64 A,.int .u64 B],.string (⟨#[1]⟩++s)] W (.int .u64 I)):=fun W=>by rw[<- M];exact jcU A B (jiO++s) W f
 rw[L,M];obtain⟨W,u,Q,R,O,m⟩:=jbq w #[.int .u64 A,.int .u64 B] 24 #[.int .u64 0,.int .u64 0] 24;obtain⟨D,P⟩:∃ D,W.drew=D:=⟨_,rfl⟩;have J:Bw w D:=by rw[<- P];exact O.drew
 have C:D.heap[w.heap.size]? = some (.cells #[.int .u64 A,.int .u64 B] 24 (0,0)):=by rw[<- P];exact Q
 have G:D.heap[w.heap.size+1]? = some (.cells #[.int .u64 0,.int .u64 0] 24 (0,0)):=by rw[<- P];exact R
 obtain⟨r,t⟩:=cl2 C
 have T:Hid (∀ V,Bw D V->V.cell? ⟨w.heap.size,0,none⟩=some (.int .u64 A)/\V.cell? ⟨w.heap.size,1,none⟩=some (.int .u64 B) /\
   (V.cell? ⟨w.heap.size+1,0,none⟩=some (.int .u64 0)/\V.frozen? ⟨w.heap.size+1,0,none⟩=false) /\
   ((V.setCell ⟨w.heap.size+1,0,none⟩ (.int .u64 F)).cell? ⟨w.heap.size+1,1,none⟩=some (.int .u64 0))/\(V.setCell ⟨w.heap.size+1,0,none⟩ (.int .u64 F)).frozen? ⟨w.heap.size+1,1,none⟩=false/\True /\
   ((V.setCell ⟨w.heap.size+1,0,none⟩ (.int .u64 F)).setCell ⟨w.heap.size+1,1,none⟩ (.int .u64 I)).cell? ⟨w.heap.size+1,0,none⟩=some (.int .u64 F)/\((V.setCell ⟨w.heap.size+1,0,none⟩ (.int .u64 F)).setCell ⟨w.heap.size+1,1,none⟩ (.int .u64 I)).cell? ⟨w.heap.size+1,1,none⟩=some (.int .u64 I) /\
   Hid (Bw w ((V.setCell ⟨w.heap.size+1,0,none⟩ (.int .u64 F)).setCell ⟨w.heap.size+1,1,none⟩ (.int .u64 I)))):=fun V X=>by
  have b:=known X (Nat.le_refl _) C;have Z:=known X (Nat.le_refl _) G;have a:=hSk Z (i:=0) (.int .u64 F);have c:=hSk a (i:=1) (.int .u64 I);exact⟨cCc b 0,cCc b 1,⟨cCc Z 0,cFz Z 0⟩,cCc a 1,cFz a 1,trivial,cCc c 0,cCc c 1,((J.trans (X.mono J.size)).setCell (p:=⟨w.heap.size+1,0,none⟩) (Nat.le_succ _) _).setCell (p:=⟨w.heap.size+1,1,none⟩) (Nat.le_succ _) _⟩
 have g:=Lib.hid P;clear Q R O P J C G L M d f l;go_enter Tryz.func74,Tryz.ntmps74;go_wp2_with fail;refine wp_region_any (by kernel_rfl) ?_;change wpAny _ _ _ _ _ _ _ (World.drew _);rw[g.out]
 ·
  refine ta 1 ?_;refine ta 2 ?_;refine ta 5 ?_;refine ta 6 ?_;refine rd [0,4] (.cons rfl (fun K hK=>?_) (.cons rfl (fun K hK=>?_) .nil))
  all_goals go_simp
  all_goals (refine hK _ _ ?_;clear hK K)
  all_goals first
   | (refine rq [3,4] (.cons rfl (fun K hK=>?_) (.cons rfl (fun K hK=>?_) .nil)))
   | (refine rq [0] (.cons rfl (fun K hK=>?_) .nil))
  all_goals go_simp
  all_goals first
   |
    refine (N.out _).mono ?_;rintro e Y ⟨rfl,E⟩;obtain⟨j,k,-⟩:=T.out Y E;have H:=Lib.hid E;clear E;refine hK _ _ ?_;clear hK K
   | (refine hK _ _ ?_;clear hK K)
  all_goals first
   | (refine rq [4] (.cons rfl (fun K hK=>?_) .nil))
   | (refine rq [3] (.cons rfl (fun K hK=>?_) .nil))
  all_goals go_simp
  all_goals first
   |
    refine (N.out _).mono ?_;rintro e Y ⟨rfl,E⟩;obtain⟨j,k,-⟩:=T.out Y E;have H:=Lib.hid E;clear E;refine hK _ _ ?_;clear hK K
   | (refine hK _ _ ?_;clear hK K)
  all_goals (refine rd [7] (.cons rfl (fun K hK=>?_) .nil))
  all_goals go_simp
  all_goals
   refine (U.out _).mono ?_;rintro e q ⟨rfl,E⟩;obtain⟨-,-,⟨y,z⟩,r2,r3,-,n,o,h⟩:=T.out q (H.out.trans (E.mono H.out.size));clear E;refine hK _ _ ?_;clear hK K
  all_goals (refine ta 8 ?_;refine rd [9] (.cons rfl (fun K hK=>?_) .nil))
  all_goals go_simp
  all_goals (refine hK _ _ ?_;clear hK K)
  all_goals (refine wpAny_done (by kernel_rfl) ?_ _)
  all_goals
   go_wp2_with fail;exact bodyPost_ret (v:=.agg #[.int .u64 F,.int .u64 I]) (by simp[results,Tryz.results74,go_sem,n,o]) rfl ⟨rfl,h.out⟩
end Go.Proofs.YtlmlcadcdhhlcaaGreatDoor
