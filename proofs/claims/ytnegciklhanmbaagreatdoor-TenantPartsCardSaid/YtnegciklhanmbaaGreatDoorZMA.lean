/- Package cms: New, begin, Add, Lower. Package cms: Add, Lower. Package cms: Lower. Package exact: Add : any list. Package exact: Merge. Printed by gen_ma.py. -/
import Derived.Test.YtnegciklhanmbaaGreatDoorZGE
set_option maxHeartbeats 1000000
set_option maxRecDepth 100000
namespace Go.Proofs.YtnegciklhanmbaaGreatDoor
open Go Go.RowKit Go.Shelf
theorem jw9 (w:World):(Instr.typeAssert .nilIface 119 292 true).run Tryz.prog w=.ok (.tuple #[.agg #[.string ⟨#[]⟩],.bool false]) w:=by kernel_rfl
theorem jiK (w:World):CR 119 #[.nilIface] w (.int .i64 0):=by
 have h:=jw9 w;go_enter Tryz.func119,Tryz.ntmps119;go_wp2;go_ret;exact⟨rfl,(Below.refl _ w).alloc (Nat.le_refl _) _⟩
theorem jt2 (l:List Int):l.flatMap jaF=l.map (Value.int .u64):=by
 induction l with
 | nil=>rfl
 | cons x l ih=>rw[List.flatMap_cons,ih];rfl
theorem jrv (w:World) (len:Nat) (h:len<=1000):∃ B,(Instr.makeSlice 33 (.int .i64 (len:Int)) (.int .i64 (len:Int))).run Tryz.prog w=.ok (.slice (some ⟨w.heap.size,0,none⟩) len len) B/\NumsAt B w.heap.size (List.replicate len 0)/\Bw w B/\B.heap.size=w.heap.size+1:=by
 obtain⟨i,D,E,A,C⟩:=info_parts jeV;have hr:=run_makeSlice (P:=Tryz.prog) (w:=w) 33 22 i _ jdg D E .i64 .i64 (len:Int) (len:Int) (by omega) (Int.le_refl _) (by rw[A];omega) (by rw[C];omega) (by omega);rw[Int.toNat_natCast] at hr;refine⟨_,hr,?_,(Below.refl _ w).alloc (Nat.le_refl _) _,by simp⟩
 have e:madeCells (Value.int .u64 0).cells (len*i.size)=((List.replicate len (0:Int)).map (Value.int .u64)).toArray:=by
  rw[A,Nat.mul_one];apply Array.ext
  ·rw[size_madeCells];simp
  ·intro j F G
   simp[madeCells,Value.cells,Nat.mod_one]
 rw[e];exact World.alloc_heap_new _ _
theorem jf6 (c:Nat) (w:World) (P:ja3 2 c=true) (j:c<=32) :
  Calls Tryz.prog 118 #[.int .i64 2,.int .i64 c] w fun e w'=>∃ g,e=.returned (.tuple #[.agg #[.int .i64 2,.int .i64 c,.slice (some ⟨g,0,none⟩) (2*c) (2*c)],.nilIface])/\NumsAt w' g (List.replicate (2*c) 0)/\w.heap.size<=g/\Bw w w':=by
 have H:=fun w=>jhI 2 c w
 rw[P] at H;obtain⟨S,V,G,B,N⟩:=jab w #[.int .i64 0,.int .i64 0,.slice none 0 0] 227;obtain⟨T,I,E,C,O⟩:=jrv S (2*c) (by omega);have A:=(C.block _ (by omega)).trans G;rw[N] at I E;rw[show (((2*c:Nat)):Int)=2*(c:Int) by omega] at I;obtain⟨a,b,d⟩:=cl3 A;obtain⟨f,h,i⟩:=cz3 A;have Q:=Lib.hid E;have U:=B.trans (C.mono B.size);have R:=Lib.hid A;clear G A E B C O P;obtain⟨F,D⟩:∃ F,((T.setCell ⟨w.heap.size,0,none⟩ (.int .i64 2)).setCell ⟨w.heap.size,1,none⟩ (.int .i64 c)).setCell ⟨w.heap.size,2,none⟩ (.slice (some ⟨w.heap.size+1,0,none⟩) (2*c) (2*c))=F:=⟨_,rfl⟩;have L:F.heap[w.heap.size]? = some (.cells #[.int .i64 2,.int .i64 c,.slice (some ⟨w.heap.size+1,0,none⟩) (2*c) (2*c)] 227 (0,0)):=by rw[<- D];exact hSk (hSk (hSk R.out _) _) _
 have J:Bw w F:=by rw[<- D];exact ((U.setCell (p:=⟨w.heap.size,0,none⟩) (Nat.le_refl _) _).setCell (p:=⟨w.heap.size,1,none⟩) (Nat.le_refl _) _).setCell (p:=⟨w.heap.size,2,none⟩) (Nat.le_refl _) _
 have M:NumsAt F (w.heap.size+1) (List.replicate (2*c) 0):=by
  rw[<- D];exact ((Q.out.block (jaa (p:=⟨w.heap.size,0,none⟩) (by show w.heap.size≠_;omega) _)).block (jaa (p:=⟨w.heap.size,1,none⟩) (by show w.heap.size≠_;omega) _)).block (jaa (p:=⟨w.heap.size,2,none⟩) (by show w.heap.size≠_;omega) _)
 go_enter Tryz.func118,Tryz.ntmps118;go_wp2_with (first | (go_at_call 169;refine (H _).mono ?_;rintro e w' ⟨rfl,rfl⟩) | fail);obtain⟨X,Y,Z⟩:=cl3 L;exact bodyPost_ret (v:=.tuple #[.agg #[.int .i64 2,.int .i64 c,.slice (some ⟨w.heap.size+1,0,none⟩) (2*c) (2*c)],.nilIface]) (by simp[results,Tryz.f118,go_sem,X,Y,Z]) rfl ⟨_,rfl,M,Nat.le_succ _,J⟩
theorem jtL (w:World) :
  Calls Tryz.prog 74 #[.int .i64 2,.int .i64 32] w fun e w'=>∃ g,e=.returned (.tuple #[.agg #[.int .i64 2,.int .i64 32,.slice (some ⟨g,0,none⟩) 64 64],.int .i64 0])/\NumsAt w' g (List.replicate 64 0)/\w.heap.size<=g/\Bw w w':=by
 have h:=fun w=>jf6 32 w (by decide) (by omega)
 obtain⟨s,i,S,R,l⟩:=jab w #[.int .i64 0,.int .i64 0,.slice none 0 0] 39;have U:=Lib.hid S;clear S;go_enter Tryz.func74,Tryz.ntmps74;go_wp2_with fail;refine (h _).mono ?_;rintro e b ⟨g,rfl,L,k,E⟩;obtain⟨O,j,T,F,m⟩:=jab b #[.int .i64 2,.int .i64 32,.slice (some ⟨g,0,none⟩) 64 64] 227;have X:=L.lt;have C:Bw w O.drew:=((R.trans (E.mono R.size)).trans (F.mono (by have:=E.size;omega))).drew;have I:O.drew.heap[w.heap.size]? = some (.cells #[.int .i64 0,.int .i64 0,.slice none 0 0] 39 (0,0)):=known (E.trans (F.drew.mono E.size)) (Nat.le_refl _) U.out;have H:O.drew.heap[b.heap.size]? = some (.cells #[.int .i64 2,.int .i64 32,.slice (some ⟨g,0,none⟩) 64 64] 227 (0,0)):=T;have P:=Lib.hid H;have Q:=Lib.hid I;obtain⟨t,c1,c2⟩:=cl3 H;obtain⟨x,y,z⟩:=cl3 I;have M:NumsAt O.drew g (List.replicate 64 0):=(L.block (F.block _ X)).block rfl;have J:w.heap.size≠g:=by omega
 have fin:∀ N,Below O.drew.heap.size O.drew N->∃ V,Ending.returned (.tuple #[.agg #[.int .i64 2,.int .i64 32,.slice (some ⟨g,0,none⟩) 64 64],.int .i64 0])=.returned (.tuple #[.agg #[.int .i64 2,.int .i64 32,.slice (some ⟨V,0,none⟩) 64 64],.int .i64 0])/\NumsAt (((N.setCell ⟨w.heap.size,0,none⟩ (.int .i64 2)).setCell ⟨w.heap.size,1,none⟩ (.int .i64 32)).setCell ⟨w.heap.size,2,none⟩ (.slice (some ⟨g,0,none⟩) 64 64)) V (List.replicate 64 0)/\w.heap.size<=V/\Bw w (((N.setCell ⟨w.heap.size,0,none⟩ (.int .i64 2)).setCell ⟨w.heap.size,1,none⟩ (.int .i64 32)).setCell ⟨w.heap.size,2,none⟩ (.slice (some ⟨g,0,none⟩) 64 64)):=fun N B =>
  ⟨g,rfl,(((M.block (B.block _ M.lt)).block (jaa (p:=⟨w.heap.size,0,none⟩) J _)).block (jaa (p:=⟨w.heap.size,1,none⟩) J _)).block (jaa (p:=⟨w.heap.size,2,none⟩) J _),by omega,
   (((C.trans (B.mono C.size)).setCell (p:=⟨w.heap.size,0,none⟩) (Nat.le_refl _) _).setCell (p:=⟨w.heap.size,1,none⟩) (Nat.le_refl _) _).setCell (p:=⟨w.heap.size,2,none⟩) (Nat.le_refl _) _⟩
 clear T F L H I M E C;go_wp2_with fail;refine wp_region_any (by kernel_rfl) ?_;change wpAny _ _ _ _ _ _ _ (World.drew _)
 ·
  refine ta 0 ?_;refine ta 2 ?_;refine rd [1,3] (.cons rfl (fun K hK=>?_) (.cons rfl (fun K hK=>?_) .nil))
  all_goals go_simp
  all_goals first
   |
    refine (jiK _).mono ?_;rintro e N ⟨rfl,B⟩;have D:=known B (Nat.le_refl _) P.out;have A:=known B (Nat.le_refl _) Q.out;obtain⟨n,o,r⟩:=cl3 D;obtain⟨v0,v1,v2⟩:=cl3 A;obtain⟨c,d,f⟩:=cz3 A;refine hK _ _ ?_;clear hK K D
   | (refine hK _ _ ?_;clear hK K)
  all_goals first
   | (refine rq [3] (.cons rfl (fun K hK=>?_) .nil))
   | (refine rq [1] (.cons rfl (fun K hK=>?_) .nil))
  all_goals go_simp
  all_goals first
   |
    refine (jiK _).mono ?_;rintro e N ⟨rfl,B⟩;have D:=known B (Nat.le_refl _) P.out;have A:=known B (Nat.le_refl _) Q.out;obtain⟨n,o,r⟩:=cl3 D;obtain⟨v0,v1,v2⟩:=cl3 A;obtain⟨c,d,f⟩:=cz3 A;refine hK _ _ ?_;clear hK K D
   | (refine hK _ _ ?_;clear hK K)
  all_goals (refine rd [4] (.cons rfl (fun K hK=>?_) .nil))
  all_goals go_simp
  all_goals (refine hK _ _ ?_;clear hK K)
  all_goals (refine ta 5 ?_;refine wpAny_done (by kernel_rfl) ?_ _)
  all_goals
   go_wp2_with fail;refine bodyPost_ret (v:=.tuple #[.agg #[.int .i64 2,.int .i64 32,.slice (some ⟨g,0,none⟩) 64 64],.int .i64 0]) ?_ rfl (fin N B);have G:=jcs (u:=.int .i64 2) (v:=.int .i64 32) (q:=.slice (some ⟨g,0,none⟩) 64 64) A;have Y:=cCc G 0;have Z:=cCc G 1;have a:=cCc G 2;simp at Y Z a;simp[results,Tryz.f74,go_sem,Y,Z,a]
theorem jiJ (c:Nat) (l:List Int) (a:Option Addr) (len cap:Nat) (w:World) (x:ja3 2 c=true) (h2:c<=32) (o:SlE jaF 1 w.heap.size w a len l) (t:l.length=2*c) (hn:a=none->len=0) :
  Calls Tryz.prog 294 #[.agg #[.int .i64 2,.int .i64 c,.slice a len cap]] w fun e w'=>∃ g,e=.returned (.tuple #[.agg #[.int .i64 2,.int .i64 c,.slice (some ⟨g,0,none⟩) (2*c) (2*c)],.nilIface])/\NumsAt w' g l/\w.heap.size<=g/\Bw w w':=by
 have hR:Hid (∀ i,CR 173 #[.agg #[.int .i64 2,.int .i64 c,.slice a len cap]] i (.bool true)):=fun i=>(jb7 2 c l a len cap i o.1).mono fun e w' h=>⟨by rw[h.1];simp[jbJ,x,t],h.2⟩
 have hB:=fun w=>jf6 c w x h2
 obtain⟨W0,aa,N,X,R,ae⟩:=jas w #[.int .i64 2,.int .i64 c,.slice a len cap] 39 #[.int .i64 0,.int .i64 0,.slice none 0 0] 227;have m:=Lib.hid X;have n:=Lib.hid N;obtain⟨z0,z1,z2⟩:=cl3 N;have z:=Lib.hid o;have j:=Lib.hid t;have k:=Lib.hid hn;clear X N o t x hn;go_enter Tryz.func294,Tryz.ntmps294;go_wp2_with fail;refine (hR.out _).mono ?_;rintro e i ⟨rfl,A⟩;have H:=known A (Nat.le_refl _) n.out;obtain⟨y0,y1,y2⟩:=cl3 H;go_wp2_with fail;refine (hB _).mono ?_;rintro e y ⟨g,rfl,Q,ad,C⟩;obtain⟨W2,ab,L,F,af⟩:=jab y #[.int .i64 2,.int .i64 c,.slice (some ⟨g,0,none⟩) (2*c) (2*c)] 227;have s:=Q.lt;have D:Bw w y:=(R.trans (A.mono R.size)).trans (C.mono (by have:=A.size;omega));have E:Bw w W2:=D.trans (F.mono D.size);have I:=known (C.trans (F.mono C.size)) (Nat.le_refl _) H;have J:=known (C.trans (F.mono C.size)) (Nat.le_refl _) (known A (Nat.le_refl _) m.out);have d:NumsAt W2 g (List.replicate (2*c) 0):=Q.block (F.block _ s);have b:len=2*c:=by rw[z.out.1,j.out]
 subst b;obtain⟨f,ac,M,S,ag,P⟩:=jnv (cap:=cap) d (by simp) (z.out.below E) k.out;rw[jt2] at M;have Z:=(P y.heap.size (by omega)).trans L;have B:=(P (w.heap.size+1) (by have:=A.size;omega)).trans J;obtain⟨q0,q1,q2⟩:=cl3 I;obtain⟨s0,s1,s2⟩:=cl3 L;obtain⟨t0,t1,t2⟩:=cl3 Z;obtain⟨o0,o1,o2⟩:=cl3 B;obtain⟨f0,f1,f2⟩:=cz3 B;have G:Bw w f:=E.trans (S.mono (by have:=A.size;omega));have Y:=jcs (u:=.int .i64 2) (v:=.int .i64 c) (q:=.slice (some ⟨g,0,none⟩) (2*c) (2*c)) B;have O:w.heap.size+1≠g:=by have:=A.size;omega
 have U:NumsAt (((f.setCell ⟨w.heap.size+1,0,none⟩ (.int .i64 2)).setCell ⟨w.heap.size+1,1,none⟩ (.int .i64 c)).setCell ⟨w.heap.size+1,2,none⟩ (.slice (some ⟨g,0,none⟩) (2*c) (2*c))) g l :=
  ((NumsAt.block (W:=f) M (jaa (p:=⟨w.heap.size+1,0,none⟩) O _)).block (jaa (p:=⟨w.heap.size+1,1,none⟩) O _)).block (jaa (p:=⟨w.heap.size+1,2,none⟩) O _)
 have T:=((G.setCell (p:=⟨w.heap.size+1,0,none⟩) (Nat.le_succ _) (.int .i64 2)).setCell (p:=⟨w.heap.size+1,1,none⟩) (Nat.le_succ _) (.int .i64 c)).setCell (p:=⟨w.heap.size+1,2,none⟩) (Nat.le_succ _) (.slice (some ⟨g,0,none⟩) (2*c) (2*c));have r:w.heap.size<=g:=by have:=A.size;omega
 clear L M I J Q d F A C S E D G P Z B;go_wp2_with fail;generalize ((f.setCell ⟨w.heap.size+1,0,none⟩ (.int .i64 2)).setCell ⟨w.heap.size+1,1,none⟩ (.int .i64 c)).setCell ⟨w.heap.size+1,2,none⟩ (.slice (some ⟨g,0,none⟩) (2*c) (2*c))=V at Y U T ⊢;obtain⟨k0,k1,k2⟩:=cl3 Y;exact bodyPost_ret (v:=.tuple #[.agg #[.int .i64 2,.int .i64 c,.slice (some ⟨g,0,none⟩) (2*c) (2*c)],.nilIface]) (by simp[results,Tryz.f294,go_sem,k0,k1,k2]) rfl ⟨g,rfl,U,r,T⟩
theorem jtK (c h:Nat) (n:Int) (l:List Int) (a:Option Addr) (len cap:Nat) (w:World) (hs:ja3 2 c=true) (hc:0<c) (h2:c<=32) (hh:h<2^64) (hu:U64 n) (hL:SlE jaF 1 w.heap.size w a len l) (hl:l.length=2*c) (t:jdh l) (hn:a=none->len=0) :
  Calls Tryz.prog 290 #[.agg #[.int .i64 2,.int .i64 c,.slice a len cap],.int .u64 h,.int .u64 n] w fun e w'=>∃ g,e=.returned (.tuple #[.agg #[.int .i64 2,.int .i64 c,.slice (some ⟨g,0,none⟩) (2*c) (2*c)],.int .i64 0])/\NumsAt w' g (jju c l h n)/\w.heap.size<=g/\Bw w w':=by
 have hB:Hid (∀ D,Bw w D->Calls Tryz.prog 294 #[.agg #[.int .i64 2,.int .i64 c,.slice a len cap]] D fun e w'=>∃ g,e=.returned (.tuple #[.agg #[.int .i64 2,.int .i64 c,.slice (some ⟨g,0,none⟩) (2*c) (2*c)],.nilIface])/\NumsAt w' g l/\D.heap.size<=g/\Bw D w'):=fun D hb=>jiJ c l a len cap D hs h2 ((hL.below hb).mono hb.size) hl hn
 have B:Hid (0<c/\c<=32/\h<2^64/\U64 n/\l.length=2*c/\jdh l):=⟨hc,h2,hh,hu,hl,t⟩;clear hL hl t hs hn hu;obtain⟨W0,ah,r,q,s,b,al⟩:=jbF w #[.int .i64 2,.int .i64 c,.slice a len cap] 39 #[.int .u64 n] 22 #[.int .i64 0,.int .i64 0,.slice none 0 0] 39;have z:=Lib.hid q;have aa:=Lib.hid s;obtain⟨x0,x1,x2⟩:=cl3 r;clear r q s;go_enter Tryz.func290,Tryz.ntmps290;go_wp2_with fail;refine (hB.out _ b).mono ?_;rintro e D ⟨g,rfl,X,aj,F⟩;obtain⟨y,ai,P,d,ae⟩:=jab D #[.int .i64 2,.int .i64 c,.slice (some ⟨g,0,none⟩) (2*c) (2*c)] 227;obtain⟨L,j,S,T,H,af⟩:=jas y.drew #[.int .i64 2,.int .i64 c,.slice (some ⟨g,0,none⟩) (2*c) (2*c)] 227 #[.int .u64 h] 22;have ag:y.drew.heap.size=D.heap.size+1:=ae;rw[ag] at S T H af;have ad:=X.lt;have N:=F.size;have A:Bw D L:=d.drew.trans (H.mono (by omega));have u:NumsAt L g l:=X.block (A.block _ ad);have Q:L.heap[D.heap.size]? = some (.cells #[.int .i64 2,.int .i64 c,.slice (some ⟨g,0,none⟩) (2*c) (2*c)] 227 (0,0)):=(H.block _ (by omega)).trans (show y.drew.heap[D.heap.size]? = _ from P);have O:L.heap[w.heap.size+1]? = some (.cells #[.int .u64 n] 22 (0,0)):=known (F.trans (A.mono N)) (Nat.le_refl _) z.out;have i:L.heap[w.heap.size+2]? = some (.cells #[.int .i64 0,.int .i64 0,.slice none 0 0] 39 (0,0)):=known (F.trans (A.mono N)) (Nat.le_refl _) aa.out
 have f:=joB (fun _ x=>jeb x n) c h (w.heap.size+1) (D.heap.size+1) (D.heap.size+2) g (2*c) (2*c) 2 (.slice (some ⟨g,0,none⟩) (2*c) (2*c)) l L B.out.1 B.out.2.1 B.out.2.2.1 S T u B.out.2.2.2.2.1 B.out.2.2.2.2.2 (by intro k hk;simp at hk;omega)
  (fun W p x hG hx=>jta (w.heap.size+1) p.1 x n W (cCc ((hG.block _ (Array.getElem?_eq_some_iff.1 O).1 (fun e=>by cases e;omega)).trans O) 0) hx B.out.2.2.2.1) (fun p x hx=>jcT x n hx B.out.2.2.2.1) (fun p=>p.2)
 have M:Bw w L:=(b.trans (F.mono (by omega))).trans (A.mono (by omega));have Y:=Lib.hid j;have Z:=Lib.hid Q;have G:=Lib.hid i;have J:=Lib.hid M;have o:y.drew.heap[D.heap.size]? = some (.cells #[.int .i64 2,.int .i64 c,.slice (some ⟨g,0,none⟩) (2*c) (2*c)] 227 (0,0)):=P;obtain⟨c0,c1,c2⟩:=cl3 o;obtain⟨y0,y1,y2⟩:=cl3 Q;have ak:w.heap.size+2<g:=by omega
 clear j P o Q i O S T d H A M X u F
 have fin:∀ w6,NumsAt w6 g (jju c l h n)->L.grownBy w6 (some g)->∃ V,((w6.setCell ⟨w.heap.size+1+1,0,none⟩ (.int .i64 2)).setCell ⟨w.heap.size+1+1,1,none⟩ (.int .i64 c)).setCell ⟨w.heap.size+1+1,2,none⟩ (.slice (some ⟨g,0,none⟩) (2*c) (2*c))=V/\V.heap[w.heap.size+1+1]? = some (.cells #[.int .i64 2,.int .i64 c,.slice (some ⟨g,0,none⟩) (2*c) (2*c)] 39 (0,0))/\NumsAt V g (jju c l h n)/\Bw w V:=fun w6 I C=>by
  have E:=(C.block _ (Array.getElem?_eq_some_iff.1 G.out).1 (fun e=>by cases e;omega)).trans G.out;have U:w.heap.size+1+1≠g:=by omega
  refine⟨_,rfl,jcs E,((I.block (jaa (p:=⟨w.heap.size+1+1,0,none⟩) U _)).block (jaa (p:=⟨w.heap.size+1+1,1,none⟩) U _)).block (jaa (p:=⟨w.heap.size+1+1,2,none⟩) U _),?_⟩;exact (((J.out.grown C J.out.size (fun k e=>by cases e;omega)).setCell (p:=⟨w.heap.size+1+1,0,none⟩) (by show _<=_+1+1;omega) _).setCell (p:=⟨w.heap.size+1+1,1,none⟩) (by show _<=_+1+1;omega) _).setCell (p:=⟨w.heap.size+1+1,2,none⟩) (by show _<=_+1+1;omega) _
 go_wp2_with fail;refine wp_region_any (by kernel_rfl) ?_;change wpAny _ _ _ _ _ _ _ (World.drew _)
 ·
  refine ta 2 ?_;refine ta 4 ?_;refine rd [0,1] (.cons rfl (fun K hK=>?_) (.cons rfl (fun K hK=>?_) .nil))
  all_goals go_simp
  all_goals (refine hK _ _ ?_;clear hK K)
  all_goals first
   | (refine rq [1] (.cons rfl (fun K hK=>?_) .nil))
   | (refine rq [0,3] (.cons rfl (fun K hK=>?_) (.cons rfl (fun K hK=>?_) .nil)))
  all_goals go_simp
  all_goals first
   |
    refine (jko 2 c (.slice (some ⟨g,0,none⟩) (2*c) (2*c)) h _).mono ?_;rintro e w5 ⟨rfl,rfl⟩;rw[Y.out];refine hK _ _ ?_;clear hK K
   | (refine hK _ _ ?_;clear hK K)
  all_goals first
   | (refine rq [3] (.cons rfl (fun K hK=>?_) .nil))
   | (refine rq [0] (.cons rfl (fun K hK=>?_) .nil))
  all_goals go_simp
  all_goals first
   |
    refine (jko 2 c (.slice (some ⟨g,0,none⟩) (2*c) (2*c)) h _).mono ?_;rintro e w5 ⟨rfl,rfl⟩;rw[Y.out];refine hK _ _ ?_;clear hK K
   | (refine hK _ _ ?_;clear hK K)
  all_goals (refine rd [5] (.cons rfl (fun K hK=>?_) .nil))
  all_goals go_simp
  all_goals
   refine f.mono ?_;rintro e w6 ⟨rfl,I,C⟩;refine hK _ _ ?_;clear hK K
  all_goals (refine wpAny_done (by kernel_rfl) ?_ _)
  all_goals
   have m:=(C.block _ (Array.getElem?_eq_some_iff.1 Z.out).1 (fun e=>by cases e;omega)).trans Z.out;have E:w6.heap[w.heap.size+1+1]? = _:=(C.block _ (Array.getElem?_eq_some_iff.1 G.out).1 (fun e=>by cases e;omega)).trans G.out;obtain⟨z0,z1,z2⟩:=cl3 m;obtain⟨v0,v1,v2⟩:=cl3 E;obtain⟨f0,f1,f2⟩:=cz3 E;obtain⟨V,hV,R,ac,ab⟩:=fin w6 I C;clear fin m E I C f;go_wp2_with fail;have k0:=cCc R 0;have k1:=cCc R 1;have k2:=cCc R 2;simp at k0 k1 k2;exact bodyPost_ret (v:=.tuple #[.agg #[.int .i64 2,.int .i64 c,.slice (some ⟨g,0,none⟩) (2*c) (2*c)],.int .i64 0]) (by simp[results,Tryz.f290,go_sem,k0,k1,k2]) rfl ⟨g,rfl,ac,by omega,ab⟩
theorem jox (c:Nat) (l:List Int) (a:Option Addr) (len cap:Nat) (w:World) (hs:ja3 2 c=true) (O:ja3 2 ((c / 2:Nat):Int)=true) (hc:c=8\/c=16\/c=32) (hL:SlE jaF 1 w.heap.size w a len l) (hl:l.length=2*c) (N:jdh l) :
  Calls Tryz.prog 292 #[.agg #[.int .i64 2,.int .i64 c,.slice a len cap]] w fun e w'=>∃ g,e=.returned (.tuple #[.agg #[.int .i64 2,.int .i64 ((c / 2:Nat):Int),.slice (some ⟨g,0,none⟩) (2*(c / 2)) (2*(c / 2))],.int .i64 0])/\NumsAt w' g (jf7 c l)/\w.heap.size<=g/\Bw w w':=by
 have hR:Hid (∀ E,CR 173 #[.agg #[.int .i64 2,.int .i64 c,.slice a len cap]] E (.bool true)):=fun E=>(jb7 2 c l a len cap E hL.1).mono fun e w' h=>⟨by rw[h.1];simp[jbJ,hs,hl],h.2⟩
 obtain⟨d,hd⟩:∃ d,c / 2=d:=⟨_,rfl⟩;have hB:Hid (∀ w,Calls Tryz.prog 118 #[.int .i64 2,.int .i64 d] w fun e w'=>∃ g,e=.returned (.tuple #[.agg #[.int .i64 2,.int .i64 d,.slice (some ⟨g,0,none⟩) (2*d) (2*d)],.nilIface])/\NumsAt w' g (List.replicate (2*d) 0)/\w.heap.size<=g/\Bw w w'):=fun w=>by rw[<- hd];exact jf6 (c / 2) w O (by omega)
 have HF:Hid (∀ (fb xb p:Nat) (P:Int) (v:Value) (E:World),p<2*d->SlE jaF 1 E.heap.size E a len l->E.heap[fb]? = some (.cells #[.int .i64 2,.int .i64 d,v] 227 (0,0))->E.heap[xb]? = some (.cells #[.int .i64 2,.int .i64 c,.slice a len cap] 39 (0,0)) ->
   CR 300 #[.int .i64 p,.int .u64 P,.pointer (some ⟨fb,0,none⟩),.pointer (some ⟨xb,0,none⟩)] E (.int .u64 (jvn c l p P))):=fun fb xb p P v E hp af hf hx=>by rw[<- hd] at hp hf;exact jun c fb xb p P l a len cap v E hc hp hl N af hf hx
 have HE:Hid (jaX (fun x:Fin (2*d)=>x.1) (jvn c l) (List.replicate (2*d) 0) (List.finRange (2*d))=jf7 c l):=by rw[Hid,<- hd];exact joz c l
 have HU:Hid (∀ p x,U64 (jvn c l p x)):=fun p x=>jcT _ _ (jbe l N _) (jbe l N _)
 have am:d<=16:=by omega
 have ap:((c:Int).tdiv 2)=(d:Int):=by rw[Int.tdiv_eq_ediv_of_nonneg (by omega)];omega
 have al:((c:Int) / 2)=(d:Int):=by omega
 have aq:wrap64 (d:Int)=d:=jbr d (by omega);rw[hd];have HL:=Lib.hid hL;obtain⟨W0,an,Y,y,ac,av⟩:=jas w #[.int .i64 2,.int .i64 c,.slice a len cap] 39 #[.int .i64 0,.int .i64 0,.slice none 0 0] 39;have m:=Lib.hid Y;have ab:=Lib.hid y;obtain⟨x0,x1,x2⟩:=cl3 Y;clear Y y hL hl N hs O hd hc;go_enter Tryz.func292,Tryz.ntmps292;go_wp2_with fail;refine (hR.out _).mono ?_;rintro e E ⟨rfl,D⟩;have u:=known D (Nat.le_refl _) m.out;obtain⟨y0,y1,y2⟩:=cl3 u;go_wp2_with fail;refine (hB.out _).mono ?_;rintro e Q ⟨g,rfl,f,ar,I⟩;obtain⟨W2,ao,U,n,O⟩:=jab Q #[.int .i64 2,.int .i64 d,.slice (some ⟨g,0,none⟩) (2*d) (2*d)] 227;obtain⟨J,r,Z,M,ai⟩:=jab W2.drew #[.int .i64 2,.int .i64 d,.slice (some ⟨g,0,none⟩) (2*d) (2*d)] 227;have aj:W2.drew.heap.size=Q.heap.size+1:=O;rw[aj] at Z M ai;have ah:=f.lt;have S:=D.size;have ak:=I.size;have A:Bw Q J:=n.drew.trans (M.mono (by omega));have aa:NumsAt J g (List.replicate (2*d) 0):=f.block (A.block _ ah);have H:J.heap[Q.heap.size]? = some (.cells #[.int .i64 2,.int .i64 d,.slice (some ⟨g,0,none⟩) (2*d) (2*d)] 227 (0,0)):=(M.block _ (by omega)).trans (show W2.drew.heap[Q.heap.size]? = _ from U);have T:J.heap[w.heap.size]? = some (.cells #[.int .i64 2,.int .i64 c,.slice a len cap] 39 (0,0)):=known ((D.trans (I.mono S)).trans (A.mono (by omega))) (Nat.le_refl _) m.out;have q:J.heap[w.heap.size+1]? = some (.cells #[.int .i64 0,.int .i64 0,.slice none 0 0] 39 (0,0)):=known ((D.trans (I.mono S)).trans (A.mono (by omega))) (Nat.le_refl _) ab.out
 have C:Bw w J:=(ac.trans (D.mono (by omega))).trans ((I.mono (by omega)).trans (A.mono (by omega)))
 have o:=joC (jvn c l) (Q.heap.size+1) Q.heap.size w.heap.size g (2*d) (2*d) (2*d) (2*d) 2 d 2 d (some ⟨g,0,none⟩) (List.replicate (2*d) 0) J (by omega) Z aa (by simp) (fun x hx=>by rw[List.eq_of_mem_replicate hx];exact jsD) (by intro k hk;simp at hk;omega)
  (fun W p x hG hx=>by
   have ae:Below w.heap.size J W:=(Below.refl _ J).grown hG C.size (fun k e=>by cases e;omega);have z:=C.trans ae;exact HF.out Q.heap.size w.heap.size p.1 x (.slice (some ⟨g,0,none⟩) (2*d) (2*d)) W p.2 ((HL.out.below z).mono z.size) ((hG.block _ (Array.getElem?_eq_some_iff.1 H).1 (fun e=>by cases e;omega)).trans H) ((hG.block _ (Array.getElem?_eq_some_iff.1 T).1 (fun e=>by cases e;omega)).trans T)) (fun p x _=>HU.out p x) (fun p=>p.2)
 have i:=Lib.hid r;have j:=Lib.hid H;have L:=Lib.hid q;have R:=Lib.hid C;have t:W2.drew.heap[Q.heap.size]? = some (.cells #[.int .i64 2,.int .i64 d,.slice (some ⟨g,0,none⟩) (2*d) (2*d)] 227 (0,0)):=U;obtain⟨c0,c1,c2⟩:=cl3 t;obtain⟨z0,z1,z2⟩:=cl3 H;have au:w.heap.size+1<g:=by omega
 clear r U t H q T Z n M A C f aa D I
 have fin:∀ w6,NumsAt w6 g (jf7 c l)->J.grownBy w6 (some g)->∃ V,((w6.setCell ⟨w.heap.size+1,0,none⟩ (.int .i64 2)).setCell ⟨w.heap.size+1,1,none⟩ (.int .i64 d)).setCell ⟨w.heap.size+1,2,none⟩ (.slice (some ⟨g,0,none⟩) (2*d) (2*d))=V/\V.heap[w.heap.size+1]? = some (.cells #[.int .i64 2,.int .i64 d,.slice (some ⟨g,0,none⟩) (2*d) (2*d)] 39 (0,0))/\NumsAt V g (jf7 c l)/\Bw w V:=fun w6 F B=>by
  have G:=(B.block _ (Array.getElem?_eq_some_iff.1 L.out).1 (fun e=>by cases e;omega)).trans L.out;have b:w.heap.size+1≠g:=by omega
  refine⟨_,rfl,jcs G,((F.block (jaa (p:=⟨w.heap.size+1,0,none⟩) b _)).block (jaa (p:=⟨w.heap.size+1,1,none⟩) b _)).block (jaa (p:=⟨w.heap.size+1,2,none⟩) b _),?_⟩;exact (((R.out.grown B R.out.size (fun k e=>by cases e;omega)).setCell (p:=⟨w.heap.size+1,0,none⟩) (by show _<=_+1;omega) _).setCell (p:=⟨w.heap.size+1,1,none⟩) (by show _<=_+1;omega) _).setCell (p:=⟨w.heap.size+1,2,none⟩) (by show _<=_+1;omega) _
 go_wp2_with fail;refine wp_region_any (by kernel_rfl) ?_;change wpAny _ _ _ _ _ _ _ (World.drew _)
 ·
  refine ta 3 ?_;refine rd [0,1] (.cons rfl (fun K hK=>?_) (.cons rfl (fun K hK=>?_) .nil))
  all_goals go_simp
  all_goals (refine hK _ _ ?_;clear hK K)
  all_goals first
   | (refine rq [1] (.cons rfl (fun K hK=>?_) .nil))
   | (refine rq [0,2] (.cons rfl (fun K hK=>?_) (.cons rfl (fun K hK=>?_) .nil)))
  all_goals go_simp
  all_goals first
   |
    refine (jjp 2 d (.slice (some ⟨g,0,none⟩) (2*d) (2*d)) _).mono ?_;rintro e w5 ⟨rfl,rfl⟩;rw[i.out];refine hK _ _ ?_;clear hK K
   | (refine hK _ _ ?_;clear hK K)
  all_goals first
   | (refine rq [2] (.cons rfl (fun K hK=>?_) .nil))
   | (refine rq [0] (.cons rfl (fun K hK=>?_) .nil))
  all_goals go_simp
  all_goals first
   |
    refine (jjp 2 d (.slice (some ⟨g,0,none⟩) (2*d) (2*d)) _).mono ?_;rintro e w5 ⟨rfl,rfl⟩;rw[i.out];refine hK _ _ ?_;clear hK K
   | (refine hK _ _ ?_;clear hK K)
  all_goals (refine rd [4] (.cons rfl (fun K hK=>?_) .nil))
  all_goals go_simp
  all_goals
   refine o.mono ?_;rintro e w6 ⟨rfl,F,B⟩;rw[HE.out] at F;refine hK _ _ ?_;clear hK K
  all_goals (refine wpAny_done (by kernel_rfl) ?_ _)
  all_goals
   have s:=(B.block _ (Array.getElem?_eq_some_iff.1 j.out).1 (fun e=>by cases e;omega)).trans j.out;have G:w6.heap[w.heap.size+1]? = _:=(B.block _ (Array.getElem?_eq_some_iff.1 L.out).1 (fun e=>by cases e;omega)).trans L.out;obtain⟨z0,z1,z2⟩:=cl3 s;obtain⟨v0,v1,v2⟩:=cl3 G;obtain⟨f0,f1,f2⟩:=cz3 G;obtain⟨V,hV,X,ag,ad⟩:=fin w6 F B;clear fin s G F B o;go_wp2_with fail;have k0:=cCc X 0;have k1:=cCc X 1;have k2:=cCc X 2;simp at k0 k1 k2;exact bodyPost_ret (v:=.tuple #[.agg #[.int .i64 2,.int .i64 d,.slice (some ⟨g,0,none⟩) (2*d) (2*d)],.int .i64 0]) (by simp[results,Tryz.f292,go_sem,k0,k1,k2]) rfl ⟨g,rfl,ag,by omega,ad⟩
theorem jqI (l:List Int) (a:Option Addr) (len cap:Nat) (n:Int) (w:World) (g:SlE jaF 1 w.heap.size w a len l) (hn:a=none->len=0) :
  Calls Tryz.prog 251 #[.agg #[.slice a len cap],.int .u64 n] w (ju6 (joQ l n) w):=by
 have hR:Hid (∀ I,Bw w I->CR 171 #[.agg #[.slice a len cap]] I (.bool (jaJ l))):=fun I hb=>jbv l a len cap I ((g.below hb).mono hb.size)
 have u:=Lib.hid g;have HN:=Lib.hid hn;obtain⟨rb,V⟩:∃ rb,jaJ l=rb:=⟨_,rfl⟩;rw[V] at hR;have Y:=Lib.hid V;clear V g hn;go_enter Tryz.func251,Tryz.ntmps251;go_wp2_with fail;have S:Bw w ((w.alloc (.cells #[.slice a len cap] 35)).alloc (.cells #[.slice none 0 0] 35)):=((Below.refl _ w).alloc (Nat.le_refl _) _).alloc (by simp) _;have o:((w.alloc (.cells #[.slice a len cap] 35)).alloc (.cells #[.slice none 0 0] 35)).heap[w.heap.size]? = some (.cells #[.slice a len cap] 35 (0,0)):=(Boxed.new w 35 (.slice a len cap)).alloc _;refine (hR.out _ S).mono ?_;rintro e I ⟨rfl,F⟩;have c1:=cCc (known F (Nat.le_refl _) o) 0;have ab:((w.alloc (.cells #[.slice a len cap] 35)).alloc (.cells #[.slice none 0 0] 35)).heap.size=w.heap.size+2:=by simp
 have r:Boxed ((w.alloc (.cells #[.slice a len cap] 35)).alloc (.cells #[.slice none 0 0] 35)) (w.heap.size+1) 35 (.slice none 0 0):=by
  have h:=Boxed.new (w.alloc (.cells #[.slice a len cap] 35)) 35 (.slice none 0 0);simpa using h
 have J:Boxed I (w.heap.size+1) 35 (.slice none 0 0):=(F.block _ (by omega)).trans r;have c2:=J.cell;have f2:=J.frozen;have F:=S.trans (F.mono S.size)
 cases rb with
 | true =>
  have Q:=jeQ l Y.out;have G:Bw w (I.alloc (.cells #[.int .u64 n] 22)):=F.alloc F.size _
  have z:SlE jaF 1 (I.alloc (.cells #[.int .u64 n] 22)).heap.size (I.alloc (.cells #[.int .u64 n] 22)) (some ⟨I.heap.size,0,none⟩) 1 [n]:=by
   refine⟨rfl,fun j x q=>⟨I.heap.size,0,rfl,by simp,fun i hi=>?_⟩⟩;obtain rfl:i=0:=by omega
   have h5:=jcC jaF 1 (fun _=>rfl) [n] j 0 x q (by omega);rw[cCc (World.alloc_heap_new I _),Nat.zero_add];simpa [jaF] using h5
  have hG:=jiP l [n] a len cap (some ⟨I.heap.size,0,none⟩) 1 1 (I.alloc (.cells #[.int .u64 n] 22)) ((u.out.below G).mono G.size) z Q.1 (by have:=u.out.1;have:=Q.2;omega) (by omega) HN.out;have aa:=Lib.hid Q;clear z Q;go_wp2_with fail;refine hG.mono ?_;rintro e M ⟨T,X⟩;have L:Boxed M (w.heap.size+1) 35 (.slice none 0 0):=(T.block _ (by have:=J.lt;simp;omega)).trans (J.alloc _);have c4:=L.cell;have f4:=L.frozen
  cases Z:jan l [n] with
  | none =>
   rw[Z] at X;dsimp only at X;subst X;go_wp2_with fail;have P:Boxed (M.alloc (.cells #[.slice none 0 0] 35)).drew M.heap.size 35 (.slice none 0 0):=Boxed.new M 35 (.slice none 0 0);have e4:=P.cell;have U:Boxed (M.alloc (.cells #[.slice none 0 0] 35)).drew (w.heap.size+1) 35 (.slice none 0 0):=L.alloc _;have s:w.heap.size+1<M.heap.size:=L.lt;have N:Bw w (M.alloc (.cells #[.slice none 0 0] 35)).drew:=((G.trans (T.mono (by have:=G.size;simp at this ⊢;omega))).alloc (by omega) _).drew;have E:=Lib.hid P;have D:=Lib.hid U;refine wp_region_any (by kernel_rfl) ?_;change wpAny _ _ _ _ _ _ _ (World.drew _)
   ·
    refine ta 1 ?_;refine rd [0,2] (.cons rfl (fun K hK=>?_) (.cons rfl (fun K hK=>?_) .nil))
    all_goals go_simp
    all_goals first
     |
      refine (jcQ _).mono ?_;rintro e t ⟨rfl,A⟩;have H:=(A.block _ E.out.lt).trans E.out;have B:=(A.block _ D.out.lt).trans D.out;have b:=Boxed.cell H;have c:=Boxed.cell B;have d:=Boxed.frozen B;refine hK _ _ ?_;clear hK K
     | (refine hK _ _ ?_;clear hK K)
    all_goals first
     | (refine rq [2] (.cons rfl (fun K hK=>?_) .nil))
     | (refine rq [0] (.cons rfl (fun K hK=>?_) .nil))
    all_goals go_simp
    all_goals first
     |
      refine (jcQ _).mono ?_;rintro e t ⟨rfl,A⟩;have H:=(A.block _ E.out.lt).trans E.out;have B:=(A.block _ D.out.lt).trans D.out;have b:=Boxed.cell H;have c:=Boxed.cell B;have d:=Boxed.frozen B;refine hK _ _ ?_;clear hK K
     | (refine hK _ _ ?_;clear hK K)
    all_goals (refine rd [3] (.cons rfl (fun K hK=>?_) .nil))
    all_goals go_simp
    all_goals (refine hK _ _ ?_;clear hK K)
    all_goals (refine ta 4 ?_;refine wpAny_done (by kernel_rfl) ?_ _)
    all_goals
     go_wp2_with fail;have f:=(Boxed.set (.slice none 0 0) B).cell;refine bodyPost_ret (v:=.tuple #[.agg #[.slice none 0 0],.int .i64 60]) ?_ rfl ?_
     ·simp[results,Tryz.f251,go_sem,f]
     ·refine⟨(N.trans (A.mono N.size)).setCell (p:=⟨w.heap.size+1,0,none⟩) (by show _<=_+1;omega) _,?_⟩
      unfold joQ;rw[Y.out,if_pos rfl,Z]
  | some m =>
   rw[Z] at X;obtain⟨R,C,rfl,k,O⟩:=X;go_wp2_with fail;have P:Boxed (M.alloc (.cells #[.slice R m.length C] 35)).drew M.heap.size 35 (.slice R m.length C):=Boxed.new M 35 (.slice R m.length C);have e4:=P.cell;have U:Boxed (M.alloc (.cells #[.slice R m.length C] 35)).drew (w.heap.size+1) 35 (.slice none 0 0):=L.alloc _;have s:w.heap.size+1<M.heap.size:=L.lt;have N:Bw w (M.alloc (.cells #[.slice R m.length C] 35)).drew:=((G.trans (T.mono (by have:=G.size;simp at this ⊢;omega))).alloc (by omega) _).drew;have E:=Lib.hid P;have D:=Lib.hid U;refine wp_region_any (by kernel_rfl) ?_;change wpAny _ _ _ _ _ _ _ (World.drew _)
   ·
    refine ta 1 ?_;refine rd [0,2] (.cons rfl (fun K hK=>?_) (.cons rfl (fun K hK=>?_) .nil))
    all_goals go_simp
    all_goals first
     |
      refine (jdW _).mono ?_;rintro e t ⟨rfl,A⟩;have H:=(A.block _ E.out.lt).trans E.out;have B:=(A.block _ D.out.lt).trans D.out;have b:=Boxed.cell H;have c:=Boxed.cell B;have d:=Boxed.frozen B;refine hK _ _ ?_;clear hK K
     | (refine hK _ _ ?_;clear hK K)
    all_goals first
     | (refine rq [2] (.cons rfl (fun K hK=>?_) .nil))
     | (refine rq [0] (.cons rfl (fun K hK=>?_) .nil))
    all_goals go_simp
    all_goals first
     |
      refine (jdW _).mono ?_;rintro e t ⟨rfl,A⟩;have H:=(A.block _ E.out.lt).trans E.out;have B:=(A.block _ D.out.lt).trans D.out;have b:=Boxed.cell H;have c:=Boxed.cell B;have d:=Boxed.frozen B;refine hK _ _ ?_;clear hK K
     | (refine hK _ _ ?_;clear hK K)
    all_goals (refine rd [3] (.cons rfl (fun K hK=>?_) .nil))
    all_goals go_simp
    all_goals (refine hK _ _ ?_;clear hK K)
    all_goals (refine ta 4 ?_;refine wpAny_done (by kernel_rfl) ?_ _)
    all_goals
     go_wp2_with fail;have f:=(Boxed.set (.slice R m.length C) B).cell;refine bodyPost_ret (v:=.tuple #[.agg #[.slice R m.length C],.int .i64 0]) ?_ rfl ?_
     ·simp[results,Tryz.f251,go_sem,f]
     ·refine⟨(N.trans (A.mono N.size)).setCell (p:=⟨w.heap.size+1,0,none⟩) (by show _<=_+1;omega) _,?_⟩
      unfold joQ;rw[Y.out,if_pos rfl,Z];refine⟨R,C,rfl,?_,fun x q=>?_⟩
      ·rw[jbR];exact (((k.go ((Below.refl _ _).alloc (Nat.le_refl _) _)).go (Below.refl _ _).drew).go A).set_far (fun y hy=>by have h7:=O y hy;have:=J.lt;rw[World.size_alloc] at h7;show w.heap.size+1≠_;omega) _
      ·have:=O x q;have:=G.size;omega
 | false =>
  go_wp2_with fail;refine bodyPost_ret (v:=.tuple #[.agg #[.slice none 0 0],.int .i64 60]) ?_ rfl ?_
  ·have c3:=(J.set (.slice none 0 0)).cell
   simp[results,Tryz.f251,go_sem,c3]
  ·refine⟨F.setCell (p:=⟨w.heap.size+1,0,none⟩) (by show _<=_+1;omega) _,?_⟩
   unfold joQ;rw[Y.out];rfl
theorem jht (l m:List Int) (a:Option Addr) (len cap:Nat) (U:Option Addr) (A D:Nat) (w:World) (hL:SlE jaF 1 w.heap.size w a len l) (hn:a=none->len=0) (hM:SlE jaF 1 w.heap.size w U A m) (hr:jaJ l=true) (f:jaJ m=true) :
  Calls Tryz.prog 255 #[.agg #[.slice a len cap],.agg #[.slice U A D]] w (ju6 (jan l m) w):=by
 obtain⟨T,af,d,o,n,M,ag⟩:=jbF w #[.slice a len cap] 35 #[.slice U A D] 35 #[.slice none 0 0] 35;have b:SlE jaF 1 T.heap.size T a len l:=(hL.below M).mono M.size;have c:SlE jaF 1 T.heap.size T U A m:=(hM.below M).mono M.size;have hu:=jeQ l hr;have aa:=jeQ m f;have i:=Lib.hid (jbv l a len cap T b);rw[hr] at i
 have Z:Hid (∀ O,Bw T O->CR 171 #[.agg #[.slice U A D]] O (.bool true)):=fun O hb=>by
  have h:=jbv m U A D O (c.go hb);rw[f] at h;exact h
 have HG:Hid (∀ O,Bw T O->Calls Tryz.prog 256 #[.slice a len cap,.slice U A D] O (jiC l m O)):=fun O hb =>
  jiP l m a len cap U A D O (b.go hb) (c.go hb) hu.1 (by have:=hL.1;have:=hu.2;omega) (by have:=hM.1;have:=aa.2;omega) hn
 have c0:T.cell? ⟨w.heap.size,0,none⟩=some (.slice a len cap):=cCc d 0;have ac:=Lib.hid d;have j:=Lib.hid o;have ab:Hid (Boxed T (w.heap.size+2) 35 (.slice none 0 0)):=n;have Y:=Lib.hid M;clear hL hM b c hu aa hr f d o n M hn;go_enter Tryz.func255,Tryz.ntmps255;go_wp2_with fail;refine i.out.mono ?_;rintro e O ⟨rfl,P⟩;have q:=known P (Nat.le_refl _) j.out;have d0:O.cell? ⟨w.heap.size+1,0,none⟩=some (.slice U A D):=cCc q 0;have Z:=Lib.hid (Z.out O P);go_wp2_with fail;refine Z.out.mono ?_;rintro e w2 ⟨rfl,s⟩;have I:Bw T w2:=P.trans (s.mono P.size);have HG:=Lib.hid (HG.out w2 I);have k:=known I (Nat.le_refl _) ac.out;have r:=known I (Nat.le_refl _) j.out;have p0:w2.cell? ⟨w.heap.size,0,none⟩=some (.slice a len cap):=cCc k 0;have q0:w2.cell? ⟨w.heap.size+1,0,none⟩=some (.slice U A D):=cCc r 0;have F:=Lib.hid I;clear P s I q k r;go_wp2_with fail;refine HG.out.mono ?_;rintro e L ⟨t,u⟩;have N:Boxed L (w.heap.size+2) 35 (.slice none 0 0):=known (F.out.trans (t.mono F.out.size)) (Nat.le_refl _) ab.out;have X:Bw w L:=Y.out.trans ((F.out.trans (t.mono F.out.size)).mono Y.out.size);have ah:w.heap.size+2<w2.heap.size:=by have:=F.out.size;omega
 have c4:=N.cell;have f4:=N.frozen
 cases hg:jan l m with
 | none =>
  rw[hg] at u;dsimp only at u;subst u;go_wp2_with fail;have S:Boxed (L.alloc (.cells #[.slice none 0 0] 35)).drew L.heap.size 35 (.slice none 0 0):=Boxed.new L 35 (.slice none 0 0);have e4:=S.cell;have g:Boxed (L.alloc (.cells #[.slice none 0 0] 35)).drew (w.heap.size+2) 35 (.slice none 0 0):=N.alloc _;have ae:w.heap.size+2<L.heap.size:=N.lt;have Q:Bw w (L.alloc (.cells #[.slice none 0 0] 35)).drew:=(X.alloc (by omega) _).drew;have H:=Lib.hid S;have G:=Lib.hid g;refine wp_region_any (by kernel_rfl) ?_;change wpAny _ _ _ _ _ _ _ (World.drew _)
  ·
   refine ta 1 ?_;refine rd [0,2] (.cons rfl (fun K hK=>?_) (.cons rfl (fun K hK=>?_) .nil))
   all_goals go_simp
   all_goals first
    |
     refine (jcQ _).mono ?_;rintro e w5 ⟨rfl,B⟩;have J:=(B.block _ H.out.lt).trans H.out;have C:=(B.block _ G.out.lt).trans G.out;have g1:=Boxed.cell J;have g2:=Boxed.cell C;have g3:=Boxed.frozen C;refine hK _ _ ?_;clear hK K
    | (refine hK _ _ ?_;clear hK K)
   all_goals first
    | (refine rq [2] (.cons rfl (fun K hK=>?_) .nil))
    | (refine rq [0] (.cons rfl (fun K hK=>?_) .nil))
   all_goals go_simp
   all_goals first
    |
     refine (jcQ _).mono ?_;rintro e w5 ⟨rfl,B⟩;have J:=(B.block _ H.out.lt).trans H.out;have C:=(B.block _ G.out.lt).trans G.out;have g1:=Boxed.cell J;have g2:=Boxed.cell C;have g3:=Boxed.frozen C;refine hK _ _ ?_;clear hK K
    | (refine hK _ _ ?_;clear hK K)
   all_goals (refine rd [3] (.cons rfl (fun K hK=>?_) .nil))
   all_goals go_simp
   all_goals (refine hK _ _ ?_;clear hK K)
   all_goals (refine ta 4 ?_;refine wpAny_done (by kernel_rfl) ?_ _)
   all_goals
    go_wp2_with fail;have g4:=(Boxed.set (.slice none 0 0) C).cell;refine bodyPost_ret (v:=.tuple #[.agg #[.slice none 0 0],.int .i64 60]) ?_ rfl ?_
    ·simp[results,Tryz.f255,go_sem,g4]
    ·refine⟨(Q.trans (B.mono Q.size)).setCell (p:=⟨w.heap.size+2,0,none⟩) (by show _<=_+2;omega) _,?_⟩
     rw[hg]
 | some z =>
  rw[hg] at u;obtain⟨V,E,rfl,ad,R⟩:=u;go_wp2_with fail;have S:Boxed (L.alloc (.cells #[.slice V z.length E] 35)).drew L.heap.size 35 (.slice V z.length E):=Boxed.new L 35 (.slice V z.length E);have e4:=S.cell;have g:Boxed (L.alloc (.cells #[.slice V z.length E] 35)).drew (w.heap.size+2) 35 (.slice none 0 0):=N.alloc _;have ae:w.heap.size+2<L.heap.size:=N.lt;have Q:Bw w (L.alloc (.cells #[.slice V z.length E] 35)).drew:=(X.alloc (by omega) _).drew;have H:=Lib.hid S;have G:=Lib.hid g;refine wp_region_any (by kernel_rfl) ?_;change wpAny _ _ _ _ _ _ _ (World.drew _)
  ·
   refine ta 1 ?_;refine rd [0,2] (.cons rfl (fun K hK=>?_) (.cons rfl (fun K hK=>?_) .nil))
   all_goals go_simp
   all_goals first
    |
     refine (jdW _).mono ?_;rintro e w5 ⟨rfl,B⟩;have J:=(B.block _ H.out.lt).trans H.out;have C:=(B.block _ G.out.lt).trans G.out;have g1:=Boxed.cell J;have g2:=Boxed.cell C;have g3:=Boxed.frozen C;refine hK _ _ ?_;clear hK K
    | (refine hK _ _ ?_;clear hK K)
   all_goals first
    | (refine rq [2] (.cons rfl (fun K hK=>?_) .nil))
    | (refine rq [0] (.cons rfl (fun K hK=>?_) .nil))
   all_goals go_simp
   all_goals first
    |
     refine (jdW _).mono ?_;rintro e w5 ⟨rfl,B⟩;have J:=(B.block _ H.out.lt).trans H.out;have C:=(B.block _ G.out.lt).trans G.out;have g1:=Boxed.cell J;have g2:=Boxed.cell C;have g3:=Boxed.frozen C;refine hK _ _ ?_;clear hK K
    | (refine hK _ _ ?_;clear hK K)
   all_goals (refine rd [3] (.cons rfl (fun K hK=>?_) .nil))
   all_goals go_simp
   all_goals (refine hK _ _ ?_;clear hK K)
   all_goals (refine ta 4 ?_;refine wpAny_done (by kernel_rfl) ?_ _)
   all_goals
    go_wp2_with fail;have g4:=(Boxed.set (.slice V z.length E) C).cell;refine bodyPost_ret (v:=.tuple #[.agg #[.slice V z.length E],.int .i64 0]) ?_ rfl ?_
    ·simp[results,Tryz.f255,go_sem,g4]
    ·refine⟨(Q.trans (B.mono Q.size)).setCell (p:=⟨w.heap.size+2,0,none⟩) (by show _<=_+2;omega) _,?_⟩
     rw[hg];refine⟨V,E,rfl,?_,fun x hx=>?_⟩
     ·rw[jbR];exact (((ad.go ((Below.refl _ _).alloc (Nat.le_refl _) _)).go (Below.refl _ _).drew).go B).set_far (fun y hy=>by have h7:=R y hy;show w.heap.size+2≠_;omega) _
     ·have:=R x hx;have:=F.out.size;have:=Y.out.size;omega
end Go.Proofs.YtnegciklhanmbaaGreatDoor
