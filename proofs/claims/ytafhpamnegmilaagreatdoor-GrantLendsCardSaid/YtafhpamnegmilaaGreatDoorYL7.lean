/- Package cms: New, begin, Add, Lower. Package cms: Lower. Package exact: errno; what Add and Merge hand back. Package ladder: the four bodies' add and lower; told. errors.As at a target of type **ladder.fault: lines of the worked example ToyasAs turned to this program; ladder.errno, isFull. What rows have in common: the program's closed facts, sketches and numbers opened, errors.errorType. Printed by gen_rz.py. Package label over slices by their elements: Right, Text. -/
import Derived.LaidEql
import Derived.Stop.Asserts
import Derived.RowKitTokens
import Derived.Test.YtafhpamnegmilaaGreatDoorCards
import Derived.Test.YtafhpamnegmilaaGreatDoorTie
import Derived.LaidHandle
import Derived.Shelf.Vars
import Derived.ChangeMaps5
import Derived.Test.YtafhpamnegmilaaGreatDoorYM1
set_option maxHeartbeats 4000000
set_option maxRecDepth 100000
namespace Go.Proofs.YtafhpamnegmilaaGreatDoor
open Go Go.RowKit
section
open Go.Shelf
theorem jwD (w:World):(Instr.typeAssert .nilIface 118 230 true).run Tryz.prog w=.ok (.tuple #[.agg #[.string ⟨#[]⟩],.bool false]) w:=by kernel_rfl
theorem jju (w:World):CR 124 #[.nilIface] w (.int .i64 0):=by
 have h:=jwD w;go_enter Tryz.func124,Tryz.ntmps124;go_wp2;go_ret;exact⟨rfl,(Below.refl _ w).alloc (Nat.le_refl _) _⟩
theorem jki (l:List Int):l.flatMap jaG=l.map (Value.int .u64):=by
 induction l with
 | nil=>rfl
 | cons x l ih=>rw[List.flatMap_cons,ih];rfl
theorem jlZ (w:World) (len:Nat) (h:len<=1000):∃ B,(Instr.makeSlice 30 (.int .i64 (len:Int)) (.int .i64 (len:Int))).run Tryz.prog w=.ok (.slice (some ⟨w.heap.size,0,none⟩) len len) B/\NumsAt B w.heap.size (List.replicate len 0)/\Bw w B/\B.heap.size=w.heap.size+1:=by
 obtain⟨i,D,E,A,C⟩:=info_parts jbF;have hr:=run_makeSlice (P:=Tryz.prog) (w:=w) 30 48 i _ jbs D E .i64 .i64 (len:Int) (len:Int) (by omega) (Int.le_refl _) (by rw[A];omega) (by rw[C];omega) (by omega);rw[Int.toNat_natCast] at hr;refine⟨_,hr,?_,(Below.refl _ w).alloc (Nat.le_refl _) _,by simp⟩
 have e:madeCells (Value.int .u64 0).cells (len*i.size)=((List.replicate len (0:Int)).map (Value.int .u64)).toArray:=by
  rw[A,Nat.mul_one];apply Array.ext
  ·rw[size_madeCells];simp
  ·intro j F G
   simp[madeCells,Value.cells,Nat.mod_one]
 rw[e];exact World.alloc_heap_new _ _
theorem jgB (c:Nat) (w:World) (P:jbn 2 c=true) (j:c<=32) :
  Calls Tryz.prog 123 #[.int .i64 2,.int .i64 c] w fun e w'=>∃ g,e=.returned (.tuple #[.agg #[.int .i64 2,.int .i64 c,.slice (some ⟨g,0,none⟩) (2*c) (2*c)],.nilIface])/\NumsAt w' g (List.replicate (2*c) 0)/\w.heap.size<=g/\Bw w w':=by
 have H:=fun w=>jie 2 c w
 rw[P] at H;obtain⟨S,V,G,B,N⟩:=jaf w #[.int .i64 0,.int .i64 0,.slice none 0 0] 174;obtain⟨T,I,E,C,O⟩:=jlZ S (2*c) (by omega);have A:=(C.block _ (by omega)).trans G;rw[N] at I E;rw[show (((2*c:Nat)):Int)=2*(c:Int) by omega] at I;obtain⟨a,b,d⟩:=cl3 A;obtain⟨f,h,i⟩:=cz3 A;have Q:=Lib.hid E;have U:=B.trans (C.mono B.size);have R:=Lib.hid A;clear G A E B C O P;obtain⟨F,D⟩:∃ F,((T.setCell ⟨w.heap.size,0,none⟩ (.int .i64 2)).setCell ⟨w.heap.size,1,none⟩ (.int .i64 c)).setCell ⟨w.heap.size,2,none⟩ (.slice (some ⟨w.heap.size+1,0,none⟩) (2*c) (2*c))=F:=⟨_,rfl⟩;have L:F.heap[w.heap.size]? = some (.cells #[.int .i64 2,.int .i64 c,.slice (some ⟨w.heap.size+1,0,none⟩) (2*c) (2*c)] 174 (0,0)):=by rw[<- D];exact hSk (hSk (hSk R.out _) _) _
 have J:Bw w F:=by rw[<- D];exact ((U.setCell (p:=⟨w.heap.size,0,none⟩) (Nat.le_refl _) _).setCell (p:=⟨w.heap.size,1,none⟩) (Nat.le_refl _) _).setCell (p:=⟨w.heap.size,2,none⟩) (Nat.le_refl _) _
 have M:NumsAt F (w.heap.size+1) (List.replicate (2*c) 0):=by
  rw[<- D];exact ((Q.out.block (jae (p:=⟨w.heap.size,0,none⟩) (by show w.heap.size≠_;omega) _)).block (jae (p:=⟨w.heap.size,1,none⟩) (by show w.heap.size≠_;omega) _)).block (jae (p:=⟨w.heap.size,2,none⟩) (by show w.heap.size≠_;omega) _)
 go_enter Tryz.func123,Tryz.ntmps123;go_wp2_with (first | (go_at_call 158;refine (H _).mono ?_;rintro e w' ⟨rfl,rfl⟩) | fail);obtain⟨X,Y,Z⟩:=cl3 L;exact bodyPost_ret (v:=.tuple #[.agg #[.int .i64 2,.int .i64 c,.slice (some ⟨w.heap.size+1,0,none⟩) (2*c) (2*c)],.nilIface]) (by simp[results,Tryz.f123,go_sem,X,Y,Z]) rfl ⟨_,rfl,M,Nat.le_succ _,J⟩
theorem jtt (w:World) :
  Calls Tryz.prog 73 #[.int .i64 2,.int .i64 32] w fun e w'=>∃ g,e=.returned (.tuple #[.agg #[.int .i64 2,.int .i64 32,.slice (some ⟨g,0,none⟩) 64 64],.int .i64 0])/\NumsAt w' g (List.replicate 64 0)/\w.heap.size<=g/\Bw w w':=by
 have h:=fun w=>jgB 32 w (by decide) (by omega)
 obtain⟨s,i,S,R,l⟩:=jaf w #[.int .i64 0,.int .i64 0,.slice none 0 0] 36;have U:=Lib.hid S;clear S;go_enter Tryz.func73,Tryz.ntmps73;go_wp2_with fail;refine (h _).mono ?_;rintro e b ⟨g,rfl,L,k,E⟩;obtain⟨O,j,T,F,m⟩:=jaf b #[.int .i64 2,.int .i64 32,.slice (some ⟨g,0,none⟩) 64 64] 174;have X:=L.lt;have C:Bw w O.drew:=((R.trans (E.mono R.size)).trans (F.mono (by have:=E.size;omega))).drew;have I:O.drew.heap[w.heap.size]? = some (.cells #[.int .i64 0,.int .i64 0,.slice none 0 0] 36 (0,0)):=jab (E.trans (F.drew.mono E.size)) (Nat.le_refl _) U.out;have H:O.drew.heap[b.heap.size]? = some (.cells #[.int .i64 2,.int .i64 32,.slice (some ⟨g,0,none⟩) 64 64] 174 (0,0)):=T;have P:=Lib.hid H;have Q:=Lib.hid I;obtain⟨t,x,y⟩:=cl3 H;obtain⟨z,o1,o2⟩:=cl3 I;have M:NumsAt O.drew g (List.replicate 64 0):=(L.block (F.block _ X)).block rfl;have J:w.heap.size≠g:=by omega
 have fin:∀ N,Below O.drew.heap.size O.drew N->∃ V,Ending.returned (.tuple #[.agg #[.int .i64 2,.int .i64 32,.slice (some ⟨g,0,none⟩) 64 64],.int .i64 0])=.returned (.tuple #[.agg #[.int .i64 2,.int .i64 32,.slice (some ⟨V,0,none⟩) 64 64],.int .i64 0])/\NumsAt (((N.setCell ⟨w.heap.size,0,none⟩ (.int .i64 2)).setCell ⟨w.heap.size,1,none⟩ (.int .i64 32)).setCell ⟨w.heap.size,2,none⟩ (.slice (some ⟨g,0,none⟩) 64 64)) V (List.replicate 64 0)/\w.heap.size<=V/\Bw w (((N.setCell ⟨w.heap.size,0,none⟩ (.int .i64 2)).setCell ⟨w.heap.size,1,none⟩ (.int .i64 32)).setCell ⟨w.heap.size,2,none⟩ (.slice (some ⟨g,0,none⟩) 64 64)):=fun N B =>
  ⟨g,rfl,(((M.block (B.block _ M.lt)).block (jae (p:=⟨w.heap.size,0,none⟩) J _)).block (jae (p:=⟨w.heap.size,1,none⟩) J _)).block (jae (p:=⟨w.heap.size,2,none⟩) J _),by omega,
   (((C.trans (B.mono C.size)).setCell (p:=⟨w.heap.size,0,none⟩) (Nat.le_refl _) _).setCell (p:=⟨w.heap.size,1,none⟩) (Nat.le_refl _) _).setCell (p:=⟨w.heap.size,2,none⟩) (Nat.le_refl _) _⟩
 clear T F L H I M E C;go_wp2_with fail;refine wp_region_any (by kernel_rfl) ?_;change wpAny _ _ _ _ _ _ _ (World.drew _)
 ·
  refine ta 0 ?_;refine ta 2 ?_;refine rd [1,3] (.cons rfl (fun K hK=>?_) (.cons rfl (fun K hK=>?_) .nil))
  all_goals go_simp
  all_goals first
   |
    refine (jju _).mono ?_;rintro e N ⟨rfl,B⟩;have D:=jab B (Nat.le_refl _) P.out;have A:=jab B (Nat.le_refl _) Q.out;obtain⟨n,o,r⟩:=cl3 D;obtain⟨v0,v1,v2⟩:=cl3 A;obtain⟨c,d,f⟩:=cz3 A;refine hK _ _ ?_;clear hK K D
   | (refine hK _ _ ?_;clear hK K)
  all_goals first
   | (refine rq [3] (.cons rfl (fun K hK=>?_) .nil))
   | (refine rq [1] (.cons rfl (fun K hK=>?_) .nil))
  all_goals go_simp
  all_goals first
   |
    refine (jju _).mono ?_;rintro e N ⟨rfl,B⟩;have D:=jab B (Nat.le_refl _) P.out;have A:=jab B (Nat.le_refl _) Q.out;obtain⟨n,o,r⟩:=cl3 D;obtain⟨v0,v1,v2⟩:=cl3 A;obtain⟨c,d,f⟩:=cz3 A;refine hK _ _ ?_;clear hK K D
   | (refine hK _ _ ?_;clear hK K)
  all_goals (refine rd [4] (.cons rfl (fun K hK=>?_) .nil))
  all_goals go_simp
  all_goals (refine hK _ _ ?_;clear hK K)
  all_goals (refine ta 5 ?_;refine wpAny_done (by kernel_rfl) ?_ _)
  all_goals
   go_wp2_with fail;refine bodyPost_ret (v:=.tuple #[.agg #[.int .i64 2,.int .i64 32,.slice (some ⟨g,0,none⟩) 64 64],.int .i64 0]) ?_ rfl (fin N B);have G:=jcI (u:=.int .i64 2) (v:=.int .i64 32) (q:=.slice (some ⟨g,0,none⟩) 64 64) A;have Y:=cCc G 0;have Z:=cCc G 1;have a:=cCc G 2;simp at Y Z a;simp[results,Tryz.f73,go_sem,Y,Z,a]
theorem jo1 (c:Nat) (l:List Int) (a:Option Addr) (len cap:Nat) (w:World) (x:jbn 2 c=true) (h2:c<=32) (o:SlE jaG 1 w.heap.size w a len l) (t:l.length=2*c) (hn:a=none->len=0) :
  Calls Tryz.prog 277 #[.agg #[.int .i64 2,.int .i64 c,.slice a len cap]] w fun e w'=>∃ g,e=.returned (.tuple #[.agg #[.int .i64 2,.int .i64 c,.slice (some ⟨g,0,none⟩) (2*c) (2*c)],.nilIface])/\NumsAt w' g l/\w.heap.size<=g/\Bw w w':=by
 have hR:Hid (∀ i,CR 178 #[.agg #[.int .i64 2,.int .i64 c,.slice a len cap]] i (.bool true)):=fun i=>(jdc 2 c l a len cap i o.1).mono fun e w' h=>⟨by rw[h.1];simp[jaN,x,t],h.2⟩
 have hB:=fun w=>jgB c w x h2
 obtain⟨W0,aa,N,X,R,ae⟩:=jaI w #[.int .i64 2,.int .i64 c,.slice a len cap] 36 #[.int .i64 0,.int .i64 0,.slice none 0 0] 174;have m:=Lib.hid X;have n:=Lib.hid N;obtain⟨z0,z1,z2⟩:=cl3 N;have z:=Lib.hid o;have j:=Lib.hid t;have k:=Lib.hid hn;clear X N o t x hn;go_enter Tryz.func277,Tryz.ntmps277;go_wp2_with fail;refine (hR.out _).mono ?_;rintro e i ⟨rfl,A⟩;have H:=jab A (Nat.le_refl _) n.out;obtain⟨y0,y1,y2⟩:=cl3 H;go_wp2_with fail;refine (hB _).mono ?_;rintro e y ⟨g,rfl,Q,ad,C⟩;obtain⟨W2,ab,L,F,af⟩:=jaf y #[.int .i64 2,.int .i64 c,.slice (some ⟨g,0,none⟩) (2*c) (2*c)] 174;have s:=Q.lt;have D:Bw w y:=(R.trans (A.mono R.size)).trans (C.mono (by have:=A.size;omega));have E:Bw w W2:=D.trans (F.mono D.size);have I:=jab (C.trans (F.mono C.size)) (Nat.le_refl _) H;have J:=jab (C.trans (F.mono C.size)) (Nat.le_refl _) (jab A (Nat.le_refl _) m.out);have d:NumsAt W2 g (List.replicate (2*c) 0):=Q.block (F.block _ s);have b:len=2*c:=by rw[z.out.1,j.out]
 subst b;obtain⟨f,ac,M,S,ag,P⟩:=joc (cap:=cap) d (by simp) (z.out.below E) k.out;rw[jki] at M;have Z:=(P y.heap.size (by omega)).trans L;have B:=(P (w.heap.size+1) (by have:=A.size;omega)).trans J;obtain⟨q0,q1,q2⟩:=cl3 I;obtain⟨s0,s1,s2⟩:=cl3 L;obtain⟨t0,t1,t2⟩:=cl3 Z;obtain⟨o0,o1,o2⟩:=cl3 B;obtain⟨f0,f1,f2⟩:=cz3 B;have G:Bw w f:=E.trans (S.mono (by have:=A.size;omega));have Y:=jcI (u:=.int .i64 2) (v:=.int .i64 c) (q:=.slice (some ⟨g,0,none⟩) (2*c) (2*c)) B;have O:w.heap.size+1≠g:=by have:=A.size;omega
 have U:NumsAt (((f.setCell ⟨w.heap.size+1,0,none⟩ (.int .i64 2)).setCell ⟨w.heap.size+1,1,none⟩ (.int .i64 c)).setCell ⟨w.heap.size+1,2,none⟩ (.slice (some ⟨g,0,none⟩) (2*c) (2*c))) g l :=
  ((NumsAt.block (W:=f) M (jae (p:=⟨w.heap.size+1,0,none⟩) O _)).block (jae (p:=⟨w.heap.size+1,1,none⟩) O _)).block (jae (p:=⟨w.heap.size+1,2,none⟩) O _)
 have T:=((G.setCell (p:=⟨w.heap.size+1,0,none⟩) (Nat.le_succ _) (.int .i64 2)).setCell (p:=⟨w.heap.size+1,1,none⟩) (Nat.le_succ _) (.int .i64 c)).setCell (p:=⟨w.heap.size+1,2,none⟩) (Nat.le_succ _) (.slice (some ⟨g,0,none⟩) (2*c) (2*c));have r:w.heap.size<=g:=by have:=A.size;omega
 clear L M I J Q d F A C S E D G P Z B;go_wp2_with fail;generalize ((f.setCell ⟨w.heap.size+1,0,none⟩ (.int .i64 2)).setCell ⟨w.heap.size+1,1,none⟩ (.int .i64 c)).setCell ⟨w.heap.size+1,2,none⟩ (.slice (some ⟨g,0,none⟩) (2*c) (2*c))=V at Y U T ⊢;obtain⟨k0,k1,k2⟩:=cl3 Y;exact bodyPost_ret (v:=.tuple #[.agg #[.int .i64 2,.int .i64 c,.slice (some ⟨g,0,none⟩) (2*c) (2*c)],.nilIface]) (by simp[results,Tryz.f277,go_sem,k0,k1,k2]) rfl ⟨g,rfl,U,r,T⟩
theorem joZ (c:Nat) (l:List Int) (a:Option Addr) (len cap:Nat) (w:World) (hs:jbn 2 c=true) (O:jbn 2 ((c / 2:Nat):Int)=true) (hc:c=8\/c=16\/c=32) (hL:SlE jaG 1 w.heap.size w a len l) (hl:l.length=2*c) (N:jc8 l) :
  Calls Tryz.prog 271 #[.agg #[.int .i64 2,.int .i64 c,.slice a len cap]] w fun e w'=>∃ g,e=.returned (.tuple #[.agg #[.int .i64 2,.int .i64 ((c / 2:Nat):Int),.slice (some ⟨g,0,none⟩) (2*(c / 2)) (2*(c / 2))],.int .i64 0])/\NumsAt w' g (jdW c l)/\w.heap.size<=g/\Bw w w':=by
 have hR:Hid (∀ E,CR 178 #[.agg #[.int .i64 2,.int .i64 c,.slice a len cap]] E (.bool true)):=fun E=>(jdc 2 c l a len cap E hL.1).mono fun e w' h=>⟨by rw[h.1];simp[jaN,hs,hl],h.2⟩
 obtain⟨d,hd⟩:∃ d,c / 2=d:=⟨_,rfl⟩;have hB:Hid (∀ w,Calls Tryz.prog 123 #[.int .i64 2,.int .i64 d] w fun e w'=>∃ g,e=.returned (.tuple #[.agg #[.int .i64 2,.int .i64 d,.slice (some ⟨g,0,none⟩) (2*d) (2*d)],.nilIface])/\NumsAt w' g (List.replicate (2*d) 0)/\w.heap.size<=g/\Bw w w'):=fun w=>by rw[<- hd];exact jgB (c / 2) w O (by omega)
 have HF:Hid (∀ (fb xb p:Nat) (P:Int) (v:Value) (E:World),p<2*d->SlE jaG 1 E.heap.size E a len l->E.heap[fb]? = some (.cells #[.int .i64 2,.int .i64 d,v] 174 (0,0))->E.heap[xb]? = some (.cells #[.int .i64 2,.int .i64 c,.slice a len cap] 36 (0,0)) ->
   CR 275 #[.int .i64 p,.int .u64 P,.pointer (some ⟨fb,0,none⟩),.pointer (some ⟨xb,0,none⟩)] E (.int .u64 (juZ c l p P))):=fun fb xb p P v E hp af hf hx=>by rw[<- hd] at hp hf;exact jt8 c fb xb p P l a len cap v E hc hp hl N af hf hx
 have HE:Hid (jbK (fun x:Fin (2*d)=>x.1) (juZ c l) (List.replicate (2*d) 0) (List.finRange (2*d))=jdW c l):=by rw[Hid,<- hd];exact jo2 c l
 have HU:Hid (∀ p x,U64 (juZ c l p x)):=fun p x=>jfj _ _ (jbT l N _) (jbT l N _)
 have am:d<=16:=by omega
 have ap:((c:Int).tdiv 2)=(d:Int):=by rw[Int.tdiv_eq_ediv_of_nonneg (by omega)];omega
 have al:((c:Int) / 2)=(d:Int):=by omega
 have aq:wrap64 (d:Int)=d:=jbD d (by omega);rw[hd];have HL:=Lib.hid hL;obtain⟨W0,an,Y,y,ac,av⟩:=jaI w #[.int .i64 2,.int .i64 c,.slice a len cap] 36 #[.int .i64 0,.int .i64 0,.slice none 0 0] 36;have m:=Lib.hid Y;have ab:=Lib.hid y;obtain⟨x0,x1,x2⟩:=cl3 Y;clear Y y hL hl N hs O hd hc;go_enter Tryz.func271,Tryz.ntmps271;go_wp2_with fail;refine (hR.out _).mono ?_;rintro e E ⟨rfl,D⟩;have u:=jab D (Nat.le_refl _) m.out;obtain⟨y0,y1,y2⟩:=cl3 u;go_wp2_with fail;refine (hB.out _).mono ?_;rintro e Q ⟨g,rfl,f,ar,I⟩;obtain⟨W2,ao,U,n,O⟩:=jaf Q #[.int .i64 2,.int .i64 d,.slice (some ⟨g,0,none⟩) (2*d) (2*d)] 174;obtain⟨J,r,Z,M,ai⟩:=jaf W2.drew #[.int .i64 2,.int .i64 d,.slice (some ⟨g,0,none⟩) (2*d) (2*d)] 174;have aj:W2.drew.heap.size=Q.heap.size+1:=O;rw[aj] at Z M ai;have ah:=f.lt;have S:=D.size;have ak:=I.size;have A:Bw Q J:=n.drew.trans (M.mono (by omega));have aa:NumsAt J g (List.replicate (2*d) 0):=f.block (A.block _ ah);have H:J.heap[Q.heap.size]? = some (.cells #[.int .i64 2,.int .i64 d,.slice (some ⟨g,0,none⟩) (2*d) (2*d)] 174 (0,0)):=(M.block _ (by omega)).trans (show W2.drew.heap[Q.heap.size]? = _ from U);have T:J.heap[w.heap.size]? = some (.cells #[.int .i64 2,.int .i64 c,.slice a len cap] 36 (0,0)):=jab ((D.trans (I.mono S)).trans (A.mono (by omega))) (Nat.le_refl _) m.out;have q:J.heap[w.heap.size+1]? = some (.cells #[.int .i64 0,.int .i64 0,.slice none 0 0] 36 (0,0)):=jab ((D.trans (I.mono S)).trans (A.mono (by omega))) (Nat.le_refl _) ab.out
 have C:Bw w J:=(ac.trans (D.mono (by omega))).trans ((I.mono (by omega)).trans (A.mono (by omega)))
 have o:=jo4 (juZ c l) (Q.heap.size+1) Q.heap.size w.heap.size g (2*d) (2*d) (2*d) (2*d) 2 d 2 d (some ⟨g,0,none⟩) (List.replicate (2*d) 0) J (by omega) Z aa (by simp) (fun x hx=>by rw[List.eq_of_mem_replicate hx];exact jsj) (by intro k hk;simp at hk;omega)
  (fun W p x hG hx=>by
   have ae:Below w.heap.size J W:=(Below.refl _ J).grown hG C.size (fun k e=>by cases e;omega);have z:=C.trans ae;exact HF.out Q.heap.size w.heap.size p.1 x (.slice (some ⟨g,0,none⟩) (2*d) (2*d)) W p.2 ((HL.out.below z).mono z.size) ((hG.block _ (Array.getElem?_eq_some_iff.1 H).1 (fun e=>by cases e;omega)).trans H) ((hG.block _ (Array.getElem?_eq_some_iff.1 T).1 (fun e=>by cases e;omega)).trans T)) (fun p x _=>HU.out p x) (fun p=>p.2)
 have i:=Lib.hid r;have j:=Lib.hid H;have L:=Lib.hid q;have R:=Lib.hid C;have t:W2.drew.heap[Q.heap.size]? = some (.cells #[.int .i64 2,.int .i64 d,.slice (some ⟨g,0,none⟩) (2*d) (2*d)] 174 (0,0)):=U;obtain⟨c0,c1,c2⟩:=cl3 t;obtain⟨z0,z1,z2⟩:=cl3 H;have au:w.heap.size+1<g:=by omega
 clear r U t H q T Z n M A C f aa D I
 have fin:∀ w6,NumsAt w6 g (jdW c l)->J.grownBy w6 (some g)->∃ V,((w6.setCell ⟨w.heap.size+1,0,none⟩ (.int .i64 2)).setCell ⟨w.heap.size+1,1,none⟩ (.int .i64 d)).setCell ⟨w.heap.size+1,2,none⟩ (.slice (some ⟨g,0,none⟩) (2*d) (2*d))=V/\V.heap[w.heap.size+1]? = some (.cells #[.int .i64 2,.int .i64 d,.slice (some ⟨g,0,none⟩) (2*d) (2*d)] 36 (0,0))/\NumsAt V g (jdW c l)/\Bw w V:=fun w6 F B=>by
  have G:=(B.block _ (Array.getElem?_eq_some_iff.1 L.out).1 (fun e=>by cases e;omega)).trans L.out;have b:w.heap.size+1≠g:=by omega
  refine⟨_,rfl,jcI G,((F.block (jae (p:=⟨w.heap.size+1,0,none⟩) b _)).block (jae (p:=⟨w.heap.size+1,1,none⟩) b _)).block (jae (p:=⟨w.heap.size+1,2,none⟩) b _),?_⟩;exact (((R.out.grown B R.out.size (fun k e=>by cases e;omega)).setCell (p:=⟨w.heap.size+1,0,none⟩) (by show _<=_+1;omega) _).setCell (p:=⟨w.heap.size+1,1,none⟩) (by show _<=_+1;omega) _).setCell (p:=⟨w.heap.size+1,2,none⟩) (by show _<=_+1;omega) _
 go_wp2_with fail;refine wp_region_any (by kernel_rfl) ?_;change wpAny _ _ _ _ _ _ _ (World.drew _)
 ·
  refine ta 3 ?_;refine rd [0,1] (.cons rfl (fun K hK=>?_) (.cons rfl (fun K hK=>?_) .nil))
  all_goals go_simp
  all_goals (refine hK _ _ ?_;clear hK K)
  all_goals first
   | (refine rq [1] (.cons rfl (fun K hK=>?_) .nil))
   | (refine rq [0,2] (.cons rfl (fun K hK=>?_) (.cons rfl (fun K hK=>?_) .nil)))
  all_goals go_simp
  all_goals first
   |
    refine (jj4 2 d (.slice (some ⟨g,0,none⟩) (2*d) (2*d)) _).mono ?_;rintro e w5 ⟨rfl,rfl⟩;rw[i.out];refine hK _ _ ?_;clear hK K
   | (refine hK _ _ ?_;clear hK K)
  all_goals first
   | (refine rq [2] (.cons rfl (fun K hK=>?_) .nil))
   | (refine rq [0] (.cons rfl (fun K hK=>?_) .nil))
  all_goals go_simp
  all_goals first
   |
    refine (jj4 2 d (.slice (some ⟨g,0,none⟩) (2*d) (2*d)) _).mono ?_;rintro e w5 ⟨rfl,rfl⟩;rw[i.out];refine hK _ _ ?_;clear hK K
   | (refine hK _ _ ?_;clear hK K)
  all_goals (refine rd [4] (.cons rfl (fun K hK=>?_) .nil))
  all_goals go_simp
  all_goals
   refine o.mono ?_;rintro e w6 ⟨rfl,F,B⟩;rw[HE.out] at F;refine hK _ _ ?_;clear hK K
  all_goals (refine wpAny_done (by kernel_rfl) ?_ _)
  all_goals
   have s:=(B.block _ (Array.getElem?_eq_some_iff.1 j.out).1 (fun e=>by cases e;omega)).trans j.out;have G:w6.heap[w.heap.size+1]? = _:=(B.block _ (Array.getElem?_eq_some_iff.1 L.out).1 (fun e=>by cases e;omega)).trans L.out;obtain⟨z0,z1,z2⟩:=cl3 s;obtain⟨v0,v1,v2⟩:=cl3 G;obtain⟨f0,f1,f2⟩:=cz3 G;obtain⟨V,hV,X,ag,ad⟩:=fin w6 F B;clear fin s G F B o;go_wp2_with fail;have k0:=cCc X 0;have k1:=cCc X 1;have k2:=cCc X 2;simp at k0 k1 k2;exact bodyPost_ret (v:=.tuple #[.agg #[.int .i64 2,.int .i64 d,.slice (some ⟨g,0,none⟩) (2*d) (2*d)],.int .i64 0]) (by simp[results,Tryz.f271,go_sem,k0,k1,k2]) rfl ⟨g,rfl,ag,by omega,ad⟩
theorem jvp (w:World):(Instr.typeAssert (.iface 333 (.agg #[.string jfQ])) 118 333 true).run Tryz.prog w=.ok (.tuple #[.agg #[.string jfQ],.bool true]) w:=by kernel_rfl
theorem joT (w:World):(Instr.typeAssert .nilIface 118 333 true).run Tryz.prog w=.ok (.tuple #[.agg #[.string ⟨#[]⟩],.bool false]) w:=by kernel_rfl
theorem jf7 (w:World):CR 243 #[.iface 333 (.agg #[.string jfQ])] w (.int .i64 60):=by
 have h:=jvp w;go_enter Tryz.func243,Tryz.ntmps243;go_wp2;go_ret;exact⟨rfl,(Below.refl _ w).alloc (Nat.le_refl _) _⟩
theorem jh1 (w:World):CR 243 #[.nilIface] w (.int .i64 0):=by
 have h:=joT w;go_enter Tryz.func243,Tryz.ntmps243;go_wp2;go_ret;exact⟨rfl,(Below.refl _ w).alloc (Nat.le_refl _) _⟩
def jwr (o:Option (List Int)) (w:World) (e:Ending) (w':World):Prop:=Bw w w'/\match o with
 | some m=>∃ a cap,e=.returned (.tuple #[.agg #[.slice a m.length cap],.int .i64 0])/\SlC jaG 1 w'.heap.size w' a m.length cap m/\(∀ x,a=some x->w.heap.size<=x.block)
 | none=>e=.returned (.tuple #[.agg #[.slice none 0 0],.int .i64 60])
def BdAt (W:World) (v:Value):Bd->Prop
 | .num l=>∃ a len cap,v=.iface 234 (.agg #[.slice a len cap])/\SlC jaG 1 W.heap.size W a len cap l
 | .reg b r=>v=.iface 236 (.agg #[.int .i64 b,.string (jap r)])
 | .cnt c l=>∃ a len cap,v=.iface 237 (.agg #[.int .i64 2,.int .i64 c,.slice a len cap])/\SlC jaG 1 W.heap.size W a len cap l
 | .bkt f l=>∃ a len cap,v=.iface 239 (.agg #[.int .i64 f,.slice a len cap])/\SlC jbO 2 W.heap.size W a len cap l
theorem BdAt.go {W E:World} {v:Value} {B:Bd} (h:BdAt W v B) (D:Bw W E):BdAt E v B:=by
 cases B with
 | num l=>obtain⟨a,len,cap,A,C⟩:=h;exact⟨a,len,cap,A,C.go D⟩
 | reg b r=>exact h
 | cnt c l=>obtain⟨a,len,cap,A,C⟩:=h;exact⟨a,len,cap,A,C.go D⟩
 | bkt f l=>obtain⟨a,len,cap,A,C⟩:=h;exact⟨a,len,cap,A,C.go D⟩
def jmI (W:World) (v:Value) (no:Int):Prop:=∃ b,v=.iface 178 (.pointer (some ⟨b,0,none⟩))/\W.heap[b]? = some (.cells #[.int .i64 no] 180 (0,0))
def jbi (o:Option Bd) (w:World) (e:Ending) (w':World):Prop:=Bw w w'/\match o with
 | some B=>∃ v,e=.returned (.tuple #[v,.nilIface])/\BdAt w' v B
 | none=>∃ v,e=.returned (.tuple #[.nilIface,v])/\jmI w' v 60
theorem jc7 (v:Value) (w:World):Calls Tryz.prog 236 #[v,.int .i64 0] w fun e w'=>e=.returned (.tuple #[v,.nilIface])/\w'=w:=by
 go_enter Tryz.func236,Tryz.ntmps236;go_wp2;exact bodyPost_ret (v:=.tuple #[v,.nilIface]) (by simp[results,Tryz.f236,go_sem]) rfl ⟨rfl,rfl⟩
theorem jsh (v:Value) (w:World):Calls Tryz.prog 236 #[v,.int .i64 60] w fun e w'=>e=.returned (.tuple #[.nilIface,.iface 178 (.pointer (some ⟨w.heap.size,0,none⟩))])/\w'=w.alloc (.cells #[.int .i64 60] 180):=by
 go_enter Tryz.func236,Tryz.ntmps236;go_wp2;exact bodyPost_ret (v:=.tuple #[.nilIface,.iface 178 (.pointer (some ⟨w.heap.size,0,none⟩))]) (by simp[results,Tryz.f236,go_sem]) rfl ⟨rfl,rfl⟩
theorem je3 (c:Nat) (A:c=4\/c=8\/c=16\/c=32):jbn 2 (c:Int)=true:=by rcases A with rfl | rfl | rfl | rfl<;>decide +kernel
theorem jhD {W:World} {g n:Nat} {l:List Int} (h:NumsAt W g l) (D:l.length=n) (C:n<=maxLen):SlC jaG 1 W.heap.size W (some ⟨g,0,none⟩) n n l:=by
 refine⟨⟨D.symm,fun j x A=>⟨g,0,rfl,h.lt,fun i E=>?_⟩⟩,Nat.le_refl _,C,(fun e=>by cases e),fun x A _=>by cases A;exact⟨rfl,h.lt⟩⟩;obtain rfl:i=0:=by omega
 have B:j<l.length:=(List.getElem?_eq_some_iff.1 A).1;rw[show (0+j*1+0)=j by omega,h.cell B];have:l.getD j 0=x:=by rw[List.getD_eq_getElem?_getD,A];rfl
 rw[this];rfl
-- METHODS
theorem jvR (l:List Int) (a:Option Addr) (len cap:Nat) (w:World) (N:SlC jaG 1 w.heap.size w a len cap l) (Q:jc8 l) (J:l.length<=1000) :
  Calls Tryz.prog 233 #[.agg #[.slice a len cap]] w (jbi (some (Bd.num l).low) w):=by
 obtain⟨P,T,H,A,V⟩:=jaf w #[.slice a len cap] 234;have Z:P.cell? ⟨w.heap.size,0,none⟩=some (.slice a len cap):=cCc H 0;have O:=Lib.hid (jvE 7 l a len cap P (by decide) (by decide) ((N.1.below A).mono A.size) Q (by have:=N.1.1;omega));have C:=Lib.hid A;clear H A;obtain⟨s,B⟩:∃ s,jap (jcn 7 (jaY 7) (l.map Int.toNat))=s:=⟨_,rfl⟩;rw[B] at O;have M:=Lib.hid B;clear B N Q J;go_enter Tryz.func233,Tryz.ntmps233;go_wp2_with fail;refine O.out.mono ?_;rintro e Y ⟨rfl,I⟩;obtain⟨S,U,G,F,X⟩:=jaf Y #[.int .i64 7,.string s] 34;obtain⟨b,c⟩:=cl2 G;have R:=Lib.hid (jc7 (.iface 236 (.agg #[.int .i64 7,.string s])) S);have L:=Lib.hid F;have D:=Lib.hid I;clear G F I;go_wp2_with fail;refine R.out.mono ?_;rintro e d ⟨rfl,rfl⟩;go_wp2_with fail;have E:=D.out.trans (L.out.mono D.out.size);refine bodyPost_ret (v:=.tuple #[.iface 236 (.agg #[.int .i64 7,.string s]),.nilIface]) (by simp[results,Tryz.f233,go_sem]) rfl ⟨C.out.trans (E.mono C.out.size),?_⟩;exact⟨_,rfl,by rw[<- M.out];rfl⟩
theorem jvS (b:Nat) (r:List Nat) (w:World) (N:4<=b) (O:b<=8) (P:r.length=2^b) (hr:∀ i,r.getD i 0<=65-b) :
  Calls Tryz.prog 261 #[.agg #[.int .i64 b,.string (jap r)]] w (jbi (some (Bd.reg b r).low) w):=by
 obtain⟨R,T,H,D,V⟩:=jaf w #[.int .i64 b,.string (jap r)] 236;obtain⟨Z,a⟩:=cl2 H;have M:=Lib.hid (jpf b r R N O P hr);have B:=Lib.hid D;clear H D;obtain⟨s,A⟩:∃ s,jap (jfC b r)=s:=⟨_,rfl⟩;rw[A] at M;have L:=Lib.hid A;clear A P hr N O;go_enter Tryz.func261,Tryz.ntmps261;go_wp2_with fail;refine M.out.mono ?_;rintro e Y ⟨rfl,I⟩;obtain⟨S,U,G,F,X⟩:=jaf Y #[.int .i64 ((b-1:Nat):Int),.string s] 34;obtain⟨c,d⟩:=cl2 G;have Q:=Lib.hid (jc7 (.iface 236 (.agg #[.int .i64 ((b-1:Nat):Int),.string s])) S);have J:=Lib.hid F;have C:=Lib.hid I;clear G F I;go_wp2_with fail;refine Q.out.mono ?_;rintro e f ⟨rfl,rfl⟩;go_wp2_with fail;have E:=C.out.trans (J.out.mono C.out.size);refine bodyPost_ret (v:=.tuple #[.iface 236 (.agg #[.int .i64 ((b-1:Nat):Int),.string s]),.nilIface]) (by simp[results,Tryz.f261,go_sem]) rfl ⟨B.out.trans (E.mono B.out.size),?_⟩;exact⟨_,rfl,by rw[<- L.out];rfl⟩
theorem jvP (c:Nat) (l:List Int) (a:Option Addr) (len cap:Nat) (w:World) (Q:c=8\/c=16\/c=32) (P:SlC jaG 1 w.heap.size w a len cap l) (f:l.length=c+c) (M:jc8 l) :
  Calls Tryz.prog 269 #[.agg #[.int .i64 2,.int .i64 c,.slice a len cap]] w (jbi (some (Bd.cnt c l).low) w):=by
 obtain⟨V,Y,J,A,h⟩:=jaf w #[.int .i64 2,.int .i64 c,.slice a len cap] 237;obtain⟨k,m,n⟩:=cl3 J;have O:=Lib.hid (joZ c l a len cap V (je3 c (by omega)) (je3 (c / 2) (by omega)) Q ((P.1.below A).mono A.size) (by omega) M);have B:=Lib.hid A;clear J A;obtain⟨d,N⟩:∃ d,c / 2=d:=⟨_,rfl⟩;rw[N] at O;have S:=Lib.hid N;have R:Hid (2*d<=64):=(by omega:2*d<=64);have E:Hid ((jdW c l).length=2*d):=by rw[Hid,jf0];omega
 clear P f M Q N;go_enter Tryz.func269,Tryz.ntmps269;go_wp2_with fail;refine O.out.mono ?_;rintro e j ⟨g,rfl,H,b,L⟩;have T:=Lib.hid (jhD H E.out (by have:=R.out;unfold maxLen;omega));clear H;obtain⟨X,Z,I,G,i⟩:=jaf j #[.int .i64 2,.int .i64 d,.slice (some ⟨g,0,none⟩) (2*d) (2*d)] 36;obtain⟨o,p,q⟩:=cl3 I;have U:=Lib.hid (jc7 (.iface 237 (.agg #[.int .i64 2,.int .i64 d,.slice (some ⟨g,0,none⟩) (2*d) (2*d)])) X);have D:=Lib.hid G;have C:=Lib.hid L;clear I G L;go_wp2_with fail;refine U.out.mono ?_;rintro e r ⟨rfl,rfl⟩;go_wp2_with fail;have F:=C.out.trans (D.out.mono C.out.size);refine bodyPost_ret (v:=.tuple #[.iface 237 (.agg #[.int .i64 2,.int .i64 d,.slice (some ⟨g,0,none⟩) (2*d) (2*d)]),.nilIface]) (by simp[results,Tryz.f269,go_sem]) rfl ⟨B.out.trans (F.mono B.out.size),?_⟩;exact⟨_,rfl,by show BdAt _ _ (.cnt (c / 2) (jdW c l));rw[S.out];exact⟨_,_,_,rfl,T.out.go D.out⟩⟩
theorem jvO (f:Nat) (l:List (Int × Int)) (a:Option Addr) (len cap:Nat) (w:World) (R:1<=f) (T:f<=3) (S:SlC jbO 2 w.heap.size w a len cap l) (hr:jaP f l=true) (N:∀ b∈l,jao f b.1=true) (O:jbj l) (P:l.length<=1000) :
  Calls Tryz.prog 283 #[.agg #[.int .i64 f,.slice a len cap]] w (jbi (some (Bd.bkt f l).low) w):=by
 obtain⟨Z,d,L,C,h⟩:=jaf w #[.int .i64 f,.slice a len cap] 239;obtain⟨k,m⟩:=cl2 L;have U:=Lib.hid (jm8 f l a len cap Z R T ((S.1.below C).mono C.size) hr N O (by have:=S.1.1;omega));have D:=Lib.hid C;clear L C;have V:Hid (1<=f):=R;clear S hr N O P T R;go_enter Tryz.func283,Tryz.ntmps283;go_wp2_with fail;refine U.out.mono ?_;rintro e j ⟨Q,B,A,rfl,I,M⟩;have X:=Lib.hid I;clear I;obtain⟨c,g,J,H,i⟩:=jaf j #[.int .i64 ((f:Int)-1),.slice Q B A] 39;obtain⟨n,o⟩:=cl2 J;have Y:=Lib.hid (jc7 (.iface 239 (.agg #[.int .i64 ((f:Int)-1),.slice Q B A])) c);have F:=Lib.hid H;have E:=Lib.hid M;clear J H M;go_wp2_with fail;refine Y.out.mono ?_;rintro e p ⟨rfl,rfl⟩;go_wp2_with fail;have G:=E.out.trans (F.out.mono E.out.size);refine bodyPost_ret (v:=.tuple #[.iface 239 (.agg #[.int .i64 ((f:Int)-1),.slice Q B A]),.nilIface]) (by simp[results,Tryz.f283,go_sem]) rfl ⟨D.out.trans (G.mono D.out.size),?_⟩;exact⟨_,rfl,_,_,_,by rw[show ((f-1:Nat):Int)=(f:Int)-1 by have:=V.out;omega],X.out.go F.out⟩
end
section
open Go.Extern.Stop Go.Stop Go.Extern
theorem jwz (t:Value) (w:World) :
  Calls Tryz.prog 162 #[.nilIface,t] w fun e w'=>e=.returned (.bool false)/\w'=w:=by
 go_enter Tryz.func162,Tryz.ntmps162;go_wp2;go_ret;exact⟨rfl,rfl⟩
theorem jlf (t:Addr) (w:World):(ReflectliteValue.unpack (.iface 241 (.pointer (some t)))).run Tryz.prog w
  = .ok (.agg #[.pointer (some ⟨4,241,none⟩),.pointer (some ⟨w.heap.size,0,none⟩),.int .u64 150]) (w.alloc (.cells #[.pointer (some t)] 241)):=by kernel_rfl
theorem jqr (a : Addr) (w : World) : (ReflectliteValue.methodAny (ReflectliteValue.valueError "reflectlite.Value.Type" 0) (fun t _ _ _ => ReflectliteType.toType t) #[.agg #[.pointer (some ⟨4, 241, none⟩), .pointer (some a), .int .u64 150]]).run Tryz.prog w
  = .ok (.iface 283 (.agg #[.pointer (some ⟨4,241,none⟩)])) w:=by kernel_rfl
theorem jj6 (h : Value) (w : World) : (Go.method 495 283 (.agg #[h]) "Kind").run Tryz.prog w = .ok (220, h) w := by kernel_rfl
theorem jqq (w:World):((ReflectliteType.abiMethod fun t=>(fun a:Nat=>Value.int IntKind.u8 (a:Int)) <$> Rtype.kind t) #[.pointer (some ⟨4,241,none⟩)]).run Tryz.prog w=.ok (.int .u8 22) w:=by kernel_rfl
theorem jqp (w:World):((ReflectliteType.abiMethod fun t=>(fun a:Nat=>Value.int IntKind.u8 (a:Int)) <$> Rtype.kind t) #[.pointer (some ⟨4,178,none⟩)]).run Tryz.prog w=.ok (.int .u8 22) w:=by kernel_rfl
theorem rlm (z:Sem Value) (f:TypeId->Addr->Nat->Nat->Sem Value) (v:Value) :
  ReflectliteValue.method z f #[v]=(do match <- ReflectliteValue.parts v with | none=>z | some (t,a,fl)=>f t a fl (fl % 32)):=rfl
theorem jjp (a:Addr) (w:World):(ReflectliteValue.parts (.agg #[.pointer (some ⟨4,241,none⟩),.pointer (some a),.int .u64 150])).run Tryz.prog w=.ok (some (241,a,150)) w:=by kernel_rfl
theorem joV (a p:Addr) (W:World) (ha:W.cell? a=some (.pointer (some p))) :
  (ReflectliteValue.method (ReflectliteValue.valueError "reflectlite.Value.IsNil" 0) ReflectliteValue.isNil #[.agg #[.pointer (some ⟨4, 241, none⟩), .pointer (some a), .int .u64 150]]).run Tryz.prog W = .ok (.bool false) W := by
 rw[rlm];simp only[Sem.run_bind,jjp,Result.andThen];simp[ReflectliteValue.isNil,loadVar,isAgg,underlying,Tryz.underlying241,ha,Result.andThen]
theorem jj5 (h : Value) (w : World) : (Go.method 495 283 (.agg #[h]) "Elem").run Tryz.prog w = .ok (325, .agg #[h]) w := by kernel_rfl
theorem jfz (h : Value) (w : World) : (Go.method 495 283 (.agg #[h]) "Implements").run Tryz.prog w = .ok (326, .agg #[h]) w := by kernel_rfl
theorem jeA (h : Value) (w : World) : (Go.method 495 283 (.agg #[h]) "AssignableTo").run Tryz.prog w = .ok (323, .agg #[h]) w := by kernel_rfl
theorem jqo (w:World):(ReflectliteType.method ReflectliteType.elem #[.agg #[.pointer (some ⟨4,241,none⟩)]]).run Tryz.prog w=.ok (.iface 283 (.agg #[.pointer (some ⟨4,178,none⟩)])) w:=by kernel_rfl
theorem jhQ (w : World) : (ReflectliteType.relation "Implements" ReflectliteType.implements_ #[.agg #[.pointer (some ⟨4, 178, none⟩)], .iface 283 (.agg #[.pointer (some ⟨4, 118, none⟩)])]).run Tryz.prog w = .ok (.bool true) w := by kernel_rfl
theorem jmN (v:Value) (w:World):(ReflectliteType.typeOf #[.iface 178 v]).run Tryz.prog w=.ok (.iface 283 (.agg #[.pointer (some ⟨4,178,none⟩)])) w:=by kernel_rfl
theorem jhP (w : World) : (ReflectliteType.relation "AssignableTo" ReflectliteType.assignableTo #[.agg #[.pointer (some ⟨4, 178, none⟩)], .iface 283 (.agg #[.pointer (some ⟨4, 178, none⟩)])]).run Tryz.prog w = .ok (.bool true) w := by kernel_rfl
theorem jle (e:Addr) (w:World):(ReflectliteValue.unpack (.iface 178 (.pointer (some e)))).run Tryz.prog w
  = .ok (.agg #[.pointer (some ⟨4,178,none⟩),.pointer (some ⟨w.heap.size,0,none⟩),.int .u64 150]) (w.alloc (.cells #[.pointer (some e)] 178)):=by kernel_rfl
theorem jmL (w:World):(Rtype.elem? 241).run Tryz.prog w=.ok (some 178) w:=by kernel_rfl
theorem jvq (p:Addr) (w:World):(ReflectliteValue.mk 178 p ReflectliteValue.flagAddr).run Tryz.prog w=.ok (.agg #[.pointer (some ⟨4,178,none⟩),.pointer (some p),.int .u64 406]) w:=by kernel_rfl
theorem joU (a p:Addr) (W:World) (ha:W.cell? a=some (.pointer (some p))) :
  (ReflectliteValue.method (ReflectliteValue.valueError "reflectlite.Value.Elem" 0) ReflectliteValue.elem #[.agg #[.pointer (some ⟨4, 241, none⟩), .pointer (some a), .int .u64 150]]).run Tryz.prog W
   = .ok (.agg #[.pointer (some ⟨4,178,none⟩),.pointer (some p),.int .u64 406]) W:=by
 rw[rlm];simp only[Sem.run_bind,jjp,Result.andThen];simp[ReflectliteValue.elem,loadVar,isAgg,underlying,Tryz.underlying241,ha,Result.andThen,jmL,jvq]
theorem rls (v x:Value):ReflectliteValue.set #[v,x]=(do
  let (some (dst,a,fl),some (src,b,_)):=(<- ReflectliteValue.parts v,<- ReflectliteValue.parts x)
   | unsupported (.noEntry "extern/(internal/reflectlite.Value).Set.zeroValue")
  if fl / ReflectliteValue.flagAddr % 2 == 0 then unsupported (.noEntry "extern/(internal/reflectlite.Value).Set.unaddressable")
  let val <- loadVar src b;if <- Rtype.directlyAssignable dst src then storeVar dst a val
  else if <- Rtype.implements dst src then
   if (<- Rtype.kind src)==20 then
    match val with
    | .nilIface => unsupported (.noEntry "extern/reflectlite: a nil value of one interface type handed on as a value of another")
    | _=>storeVar dst a val
   else storeVar dst a (.iface src val)
  else panicString ("reflectlite.Set: value of type " ++ (<- Rtype.spelt src) ++ " is not assignable to type " ++ (<- Rtype.spelt dst))
  pure (.tuple #[])):=rfl
theorem jmM (a:Addr) (w:World):(ReflectliteValue.parts (.agg #[.pointer (some ⟨4,178,none⟩),.pointer (some a),.int .u64 406])).run Tryz.prog w=.ok (some (178,a,406)) w:=by kernel_rfl
theorem joW (a:Addr) (w:World):(ReflectliteValue.parts (.agg #[.pointer (some ⟨4,178,none⟩),.pointer (some a),.int .u64 150])).run Tryz.prog w=.ok (some (178,a,150)) w:=by kernel_rfl
theorem jmK (w:World):(Rtype.directlyAssignable 178 178).run Tryz.prog w=.ok true w:=by kernel_rfl
theorem jsT (ta b e:Addr) (A:Value) (W:World) (B:W.cell? b=some (.pointer (some e))) (ht:W.cell? ta=some A) (C:W.frozen? ta=false) :
  (ReflectliteValue.set #[.agg #[.pointer (some ⟨4,178,none⟩),.pointer (some ta),.int .u64 406],.agg #[.pointer (some ⟨4,178,none⟩),.pointer (some b),.int .u64 150]]).run Tryz.prog W
   = .ok (.tuple #[]) (W.setCell ta (.pointer (some e))):=by
 rw[rls];simp only[Sem.run_bind,jmM,joW,Result.andThen];simp[ReflectliteValue.flagAddr,loadVar,isAgg,underlying,Tryz.underlying178,B,Result.andThen,jmK,storeVar,Value.cells,storeCells,Addr.add];rw[run_store Tryz.prog W ta _ _ (by rfl)];simp[ht,C]
theorem jwy (e t:Addr) (C:Value) (w:World) (F:w.cell? ⟨0,0,none⟩=some (.iface 283 (.agg #[.pointer (some ⟨4,118,none⟩)]))) (A:w.cell? t=some C) (D:w.frozen? t=false) :
  Calls Tryz.prog 162 #[.iface 178 (.pointer (some e)),.iface 241 (.pointer (some t))] w fun I w'=>I=.returned (.bool true)/\w'=((((w.alloc (.cells #[.pointer (some t)] 241)).alloc (.cells #[.pointer (some ⟨4,241,none⟩),.pointer (some ⟨w.heap.size,0,none⟩),.int .u64 150] 254)).alloc (.cells #[.pointer (some ⟨4,241,none⟩),.pointer (some ⟨w.heap.size,0,none⟩),.int .u64 150] 254)).alloc (.cells #[.pointer (some e)] 178)).setCell t (.pointer (some e)):=by
 have a:=@run_callFunc_extern Tryz.prog 180 _ (fun args=>ReflectliteValue.unpack (args.getD 0 (.tuple #[]))) Tryz.func180 (by kernel_rfl) (by kernel_rfl) (by kernel_rfl) (by kernel_rfl);have b := @run_callFunc_extern Tryz.prog 181 _ (ReflectliteValue.methodAny (ReflectliteValue.valueError "reflectlite.Value.Type" 0) (fun t _ _ _ => ReflectliteType.toType t)) Tryz.func181 (by kernel_rfl) (by kernel_rfl) (by kernel_rfl) (by kernel_rfl);have c := @run_callFunc_extern Tryz.prog 182 _ (ReflectliteValue.method (ReflectliteValue.valueError "reflectlite.Value.IsNil" 0) ReflectliteValue.isNil) Tryz.func182 (by kernel_rfl) (by kernel_rfl) (by kernel_rfl) (by kernel_rfl);have N:=@run_callFunc_extern Tryz.prog 220 _ (ReflectliteType.abiMethod fun t=>do pure (.int .u8 (<- Rtype.kind t))) Tryz.func220 (by kernel_rfl) (by kernel_rfl) (by kernel_rfl) (by kernel_rfl);have P:=@run_callFunc_extern Tryz.prog 325 _ (ReflectliteType.method ReflectliteType.elem) Tryz.func325 (by kernel_rfl) (by kernel_rfl) (by kernel_rfl) (by kernel_rfl);have Q := @run_callFunc_extern Tryz.prog 326 _ (ReflectliteType.relation "Implements" ReflectliteType.implements_) Tryz.func326 (by kernel_rfl) (by kernel_rfl) (by kernel_rfl) (by kernel_rfl);have J:=@run_callFunc_extern Tryz.prog 199 _ ReflectliteType.typeOf Tryz.func199 (by kernel_rfl) (by kernel_rfl) (by kernel_rfl) (by kernel_rfl)
 have O := @run_callFunc_extern Tryz.prog 323 _ (ReflectliteType.relation "AssignableTo" ReflectliteType.assignableTo) Tryz.func323 (by kernel_rfl) (by kernel_rfl) (by kernel_rfl) (by kernel_rfl);have L := @run_callFunc_extern Tryz.prog 200 _ (ReflectliteValue.method (ReflectliteValue.valueError "reflectlite.Value.Elem" 0) ReflectliteValue.elem) Tryz.func200 (by kernel_rfl) (by kernel_rfl) (by kernel_rfl) (by kernel_rfl);have M:=@run_callFunc_extern Tryz.prog 201 _ ReflectliteValue.set Tryz.func201 (by kernel_rfl) (by kernel_rfl) (by kernel_rfl) (by kernel_rfl);have l:=jmN;have d:=jeA;have G:=jhP;have V:=jle;have Y:=jlf;have Z:=jqr;have i:=jj6;have f:=jj5;have g:=jfz;have U:=jqq;have T:=jqp;have H:=jqo;have S:=jhQ;have j:=joV ⟨w.heap.size,0,none⟩ t ((w.alloc (.cells #[.pointer (some t)] 241)).alloc (.cells #[.pointer (some ⟨4,241,none⟩),.pointer (some ⟨w.heap.size,0,none⟩),.int .u64 150] 254)) (by simp);have E:0<w.heap.size:=World.block_lt_of_cell? w _ F
 have R:((w.alloc (.cells #[.pointer (some t)] 241)).alloc (.cells #[.pointer (some ⟨4,241,none⟩),.pointer (some ⟨w.heap.size,0,none⟩),.int .u64 150] 254)).cell? ⟨0,0,none⟩=some (.iface 283 (.agg #[.pointer (some ⟨4,118,none⟩)])):=by
  rw[World.cell?_alloc_lt _ _ ⟨0,0,none⟩ (by simp<;>omega),World.cell?_alloc_lt _ _ ⟨0,0,none⟩ E];exact F
 have B:t.block<w.heap.size:=by
  rcases Nat.lt_or_ge t.block w.heap.size with h | h
  ·exact h
  ·simp[World.cell?,Array.getElem?_eq_none h] at A
 have X:=joU ⟨w.heap.size,0,none⟩ t (((w.alloc (.cells #[.pointer (some t)] 241)).alloc (.cells #[.pointer (some ⟨4,241,none⟩),.pointer (some ⟨w.heap.size,0,none⟩),.int .u64 150] 254)).alloc (.cells #[.pointer (some ⟨4,241,none⟩),.pointer (some ⟨w.heap.size,0,none⟩),.int .u64 150] 254)) (by rw[World.cell?_alloc_lt _ _ ⟨w.heap.size,0,none⟩ (by simp;omega)];simp)
 have k:=jsT t ⟨w.heap.size+1+1+1,0,none⟩ e C ((((w.alloc (.cells #[.pointer (some t)] 241)).alloc (.cells #[.pointer (some ⟨4,241,none⟩),.pointer (some ⟨w.heap.size,0,none⟩),.int .u64 150] 254)).alloc (.cells #[.pointer (some ⟨4,241,none⟩),.pointer (some ⟨w.heap.size,0,none⟩),.int .u64 150] 254)).alloc (.cells #[.pointer (some e)] 178))
  (by rw[World.cell?_alloc_at _ _ _ _ (by simp)];rfl)
  (by rw[World.cell?_alloc_lt _ _ t (by simp;omega),World.cell?_alloc_lt _ _ t (by simp;omega),World.cell?_alloc_lt _ _ t (by simp;omega),World.cell?_alloc_lt _ _ t B];exact A)
  (by rw[World.frozen?_alloc_old _ _ t (by simp;omega),World.frozen?_alloc_old _ _ t (by simp;omega),World.frozen?_alloc_old _ _ t (by simp;omega),World.frozen?_alloc_old _ _ t (Nat.ne_of_lt B)];exact D)
 go_enter Tryz.func162,Tryz.ntmps162;go_wp2;refine wp_loop_rounds 1 ?_;rw[rounds_succ];go_wp2;go_ret;exact⟨rfl,rfl⟩
def GT (w:World):Prop:=w.cell? ⟨0,0,none⟩=some (.iface 283 (.agg #[.pointer (some ⟨4,118,none⟩)]))
theorem GT.lt {w:World} (h:GT w):0<w.heap.size:=World.block_lt_of_cell? w _ h
theorem GT.go {w w':World} (h:GT w) (A:Bw w w'):GT w':=(A.cell (p:=⟨0,0,none⟩) h.lt).trans h
theorem jqN (w:World):CR 128 #[.nilIface] w (.int .i64 0):=by
 have A:=fun t=>jwz t (w.alloc (.cells #[.pointer none] 178))
 go_enter Tryz.func128,Tryz.ntmps128;go_wp2_with fail;refine (A _).mono ?_;rintro e B ⟨rfl,rfl⟩;go_wp2_with fail;go_ret;exact⟨rfl,(Below.refl _ w).alloc (Nat.le_refl _) _⟩
theorem jmZ (v:Value) (R:Int) (w:World) (S:GT w) (V:jmI w v R):CR 128 #[v] w (.int .i64 R):=by
 obtain⟨b,rfl,Q⟩:=V;obtain⟨I,T,C,A,X⟩:=jaf w #[.pointer none] 178;have P:=jwy ⟨b,0,none⟩ ⟨w.heap.size,0,none⟩ (.pointer none) I (S.go A) (cCc C 0) (cFz C 0);obtain⟨D,F⟩:∃ D,(((I.alloc (.cells #[.pointer (some ⟨w.heap.size,0,none⟩)] 241)).alloc (.cells #[.pointer (some ⟨4,241,none⟩),.pointer (some ⟨I.heap.size,0,none⟩),.int .u64 150] 254)).alloc (.cells #[.pointer (some ⟨4,241,none⟩),.pointer (some ⟨I.heap.size,0,none⟩),.int .u64 150] 254)).alloc (.cells #[.pointer (some ⟨b,0,none⟩)] 178)=D:=⟨_,rfl⟩
 have B:Bw I D:=by
  rw[<- F];exact ((((Below.refl _ I).alloc (Nat.le_refl _) _).alloc (by simp<;>omega) _).alloc (by simp<;>omega) _).alloc (by simp<;>omega) _
 rw[F] at P;have L:=jab B (Nat.le_refl _) C;have U:=(Array.getElem?_eq_some_iff.1 Q).1;have M:=jab (A.trans (B.mono A.size)) (Nat.le_refl _) Q;have G:(D.setCell ⟨w.heap.size,0,none⟩ (.pointer (some ⟨b,0,none⟩))).heap[w.heap.size]? = some (.cells #[.pointer (some ⟨b,0,none⟩)] 178 (0,0)):=hSk L _;have H:=(jae (W:=D) (p:=⟨w.heap.size,0,none⟩) (b:=b) (by show w.heap.size≠b;omega) (.pointer (some ⟨b,0,none⟩))).trans M;have E:Bw w (D.setCell ⟨w.heap.size,0,none⟩ (.pointer (some ⟨b,0,none⟩))):=(A.trans (B.mono A.size)).setCell (p:=⟨w.heap.size,0,none⟩) (Nat.le_refl _) _;obtain⟨N,J⟩:∃ N,D.setCell ⟨w.heap.size,0,none⟩ (.pointer (some ⟨b,0,none⟩))=N:=⟨_,rfl⟩;rw[J] at P G H E;have Y:N.cell? ⟨w.heap.size,0,none⟩=some (.pointer (some ⟨b,0,none⟩)):=cCc G 0;have Z:N.cell? ⟨b,0,none⟩=some (.int .i64 R):=cCc H 0;have O:=Lib.hid E;clear S Q C A F B L M G H E J;go_enter Tryz.func128,Tryz.ntmps128;go_wp2_with fail;refine P.mono ?_;rintro e a ⟨rfl,rfl⟩;go_wp2_with fail;go_ret;exact⟨rfl,O.out⟩
theorem jpm (w:World):CR 130 #[.nilIface] w (.bool false):=by
 have A:=jqN w;go_enter Tryz.func130,Tryz.ntmps130;go_wp2_with fail;refine A.mono ?_;rintro e C ⟨rfl,B⟩;go_wp2_with fail;go_ret;exact⟨rfl,B⟩
theorem jlO (v:Value) (A:Int) (w:World) (E:GT w) (D:jmI w v A):CR 130 #[v] w (.bool (A==60)):=by
 have B:=jmZ v A w E D;go_enter Tryz.func130,Tryz.ntmps130;go_wp2_with fail;refine B.mono ?_;rintro e F ⟨rfl,C⟩;go_wp2_with fail;go_ret;exact⟨rfl,C⟩
end
section
open Go.ChangeShapes Go.WideShapes Go.ChangeAt Go.Lib Go.Deep Go.Shelf
theorem own:ownKnob Tryz.prog.godebug=none:=by kernel_rfl
theorem jvJ:laidOutB Tryz.prog=true:=by kernel_rfl
theorem jwh:Tryz.prog.underlying 4=some .bool:=by kernel_rfl
theorem jsn:Tryz.prog.underlying 48=some (.int .u64):=by kernel_rfl
theorem joK:Tryz.prog.underlying 9=some .string:=by kernel_rfl
theorem jhd:Tryz.prog.underlying 3=some (.int .i64):=by kernel_rfl
theorem jfy {a b:Bool} (ha:a=true) (A:b=true):(a&&b)=true:=by rw[ha,A];rfl
theorem jwU:mapsRowed Tryz.pinned.checked.prog=true:=by kernel_rfl
theorem jxn:laidOutB Tryz.pinned.checked.prog=true:=by kernel_rfl
theorem jv6:(Tryz.pinned.checked.prog.stops==[])=true:=by kernel_rfl
theorem jv5:(Tryz.pinned.checked.prog.stopKnobs==[])=true:=by kernel_rfl
theorem jv4:Tryz.pinned.checked.prog.stopsHeard=true:=by kernel_rfl
theorem jv3:Tryz.pinned.checked.prog.mayEnter=true:=by kernel_rfl
theorem jwR:(Rows.seriesMeantRow.plainKeys==Tryz.pinned.checked.prog.plainKeys)=true:=by kernel_rfl
theorem jwS:(Rows.seriesMeantRow.lifted==Tryz.pinned.checked.prog.liftsFinal)=true:=by kernel_rfl
theorem jwT:(Tryz.pinned.checked.prog.make==some Rows.seriesMeantRow.make)=true:=by kernel_rfl
theorem gET : Tryz.prog.globalNamed "errors.errorType" = some 0 := by kernel_rfl
theorem rtCut : (Tryz.prog.cutTypes.find? (·.1 == "internal/reflectlite.rtype")).map (·.2) = some 283 := by kernel_rfl
theorem jwP:((List.range 395).filter fun t=>Tryz.prog.rowNamed t [101,114,114,111,114])=[118]:=by kernel_rfl
theorem jsi:Tryz.prog.types.size=395:=by kernel_rfl
theorem jxi {W : World} (h : handlesMet Tryz.prog [("errors.errorType", Rows.laid_errors_errorType)] W) : GT W := by
 obtain⟨name,u,J,D,E,F,G,A⟩:=h _ (List.mem_singleton.2 rfl);have H:name=[101,114,114,111,114]:=(Option.some.inj D).symm;subst H;obtain rfl:=Option.some.inj (rtCut.symm.trans E);have C:J∈(List.range 395).filter fun t=>Tryz.prog.rowNamed t [101,114,114,111,114]:=List.mem_filter.2 ⟨List.mem_range.2 (by rw[<- jsi];exact F),G⟩
 rw[jwP] at C;obtain rfl:=List.mem_singleton.1 C;have I:typeHandle Tryz.prog 118=.pointer (some ⟨4,118,none⟩):=by kernel_rfl
 rw[I] at A;have B:=World.var?_cell gET A 0;simp at B;exact B
section
variable {H:Type} {enc:TypeId × Value->H} {w:World} {base:Nat} {held:Bool}
theorem jlA {P:Program} {t:TypeId} {B:Array Field} {A:Nat} {cs:List Value} {x:DataW H × List MemPlace} (ht:P.underlying t=some (.struct B)) (h:DataW.trod enc P w base (fun _=>true) held A t cs=some x) :
  cs.length=P.cellsOf t/\∃ n,∀ (i:Nat) (f:Field),B[i]? = some f->∃ y,DataW.trod enc P w base (fun _=>true) held n f.type ((cs.drop f.offset).take (P.cellsOf f.type))=some y:=by
 obtain⟨xs,n,_,_,F,I,E⟩:=DataW.trod_struct ht h;refine⟨F,n,fun i f D=>?_⟩;have C:=E i f D;have G:=(Array.getElem?_eq_some_iff.1 D).1;rw[List.getElem?_eq_getElem (by omega)] at C;exact⟨_,C⟩
theorem SlC.map {α β:Type} {encA:β->List Value} {k n:Nat} {a:Option Addr} {len cap:Nat} {f:α->β} {l:List α} (h:SlC (fun x=>encA (f x)) k n w a len cap l):SlC encA k n w a len cap (l.map f) :=
 ⟨⟨by rw[List.length_map];exact h.1.1,fun j x A=>by rw[List.getElem?_map] at A;obtain⟨y,B,rfl⟩:=Option.map_eq_some_iff.1 A;exact h.1.2 j y B⟩,h.2⟩
theorem jgu {P:Program} {α:Type} {t e:TypeId} {k:Nat} {encA:α->List Value} {Q:α->Prop} (M:0<k) (ht:P.underlying t=some (.slice e)) (L:P.cellsOf e=k)
  (C:∀ n cs x,DataW.trod enc P w base (fun _=>true) held n e cs=some x->∃ y,cs=encA y/\Q y) {A:Nat} {v:Value} {x:DataW H × List MemPlace}
  (h:DataW.trod enc P w base (fun _=>true) held A t [v]=some x):∃ a len cap l,v=.slice a len cap/\SlC encA k w.heap.size w a len cap l/\∀ y∈l,Q y:=by
 obtain⟨a,len,cap,rfl⟩:∃ a len cap,v=.slice a len cap:=by
  rcases open_slice ht h with⟨F,_⟩ | ⟨T,G,E,m,n,D,S,B,-⟩
  ·simp only[List.cons.injEq,and_true] at F;exact⟨_,_,_,F⟩
  ·simp only[List.cons.injEq,and_true] at B;exact⟨_,_,_,B⟩
 obtain⟨l,N⟩:=jnN (encA:=fun y : { y // Q y }=>encA y.1) M ht L (fun n cs x O=>by obtain⟨y,I,J⟩:=C n cs x O;exact⟨⟨y,J⟩,I⟩) h;refine⟨a,len,cap,l.map (·.1),rfl,N.map,fun y R=>?_⟩;obtain⟨z,_,rfl⟩:=List.mem_map.1 R;exact z.2
theorem jsz {n:Int} (A:(Lit.int .u64 n).wf=true):U64 n:=by
 simp only[Lit.wf,IntKind.min,IntKind.max,IntKind.signed,IntKind.bits,Bool.and_eq_true] at A;exact⟨by simpa using A.1,by have:=A.2;simp at this;omega⟩
theorem wf_i64 {n:Int} (A:(Lit.int .i64 n).wf=true):I64 n:=by
 simp only[Lit.wf,IntKind.min,IntKind.max,IntKind.signed,IntKind.bits,Bool.and_eq_true] at A;exact⟨by have:=A.1;simp at this;omega,by have:=A.2;simp at this;omega⟩
theorem joJ (n:Nat) (cs:List Value) (x:DataW H × List MemPlace) (h:DataW.trod enc Tryz.prog w base (fun _=>true) held n 48 cs=some x):∃ y:Int,cs=jaG y/\U64 y:=by
 obtain⟨B,A,-,C⟩:=DataW.trod_int jsn h;exact⟨B,A,jsz C⟩
theorem jtc (n:Nat) (cs:List Value) (x:DataW H × List MemPlace) (h:DataW.trod enc Tryz.prog w base (fun _=>true) held n 132 cs=some x):∃ y:Int × Int,cs=jbO y/\(I64 y.1/\U64 y.2):=by
 obtain⟨I,m,E⟩:=jcm Tryz.underlying132 (by kernel_rfl) (by kernel_rfl) h;obtain⟨v0,O,C,F⟩:=E 0 _ rfl;obtain⟨v1,P,D,G⟩:=E 1 _ rfl;obtain⟨J,A,-,M⟩:=DataW.trod_int jhd F;obtain⟨L,B,-,N⟩:=DataW.trod_int jsn G
 match cs,I with
 | [a,b],_ =>
  simp only[List.getElem?_cons_zero,List.getElem?_cons_succ,Option.some.injEq,List.cons.injEq,and_true] at C D A B;exact⟨(J,L),by rw[C,D,A,B];rfl,wf_i64 M,jsz N⟩
theorem jun {t:TypeId} {r:Reach} {A:Nat} {v:Value} {d:DataW H} {p:List MemPlace} (ht:Tryz.prog.underlying t=some .string) (B:Value.okWide Tryz.prog w r A t v) (_h:DataW.Trod enc Tryz.prog w base (fun _=>true) held t v d p):∃ s:ByteArray,v=.string s/\True:=by
 obtain⟨s,rfl⟩:=okWide_string ht B;exact⟨s,rfl,trivial⟩
end
def eT : String × DataW Unit := ("errors.errorType", Rows.laid_errors_errorType)
def juK:Obj->Obj
 | .cells _ t frozen=>.cells #[.iface 283 (.agg #[.pointer (some ⟨4,118,none⟩)])] t frozen
 | o=>o
end
section
open Go.Shelf
def jfs (l:List Lab):Prop:=∀ x∈l,x.ok
theorem jks (l:List Lab) (h:jfs l):∃ B:List ji3,B.map (·.1)=l:=by
 induction l with
 | nil=>exact⟨[],rfl⟩
 | cons x xs ih =>
  obtain⟨B,A⟩:=ih (fun y C=>h y (List.mem_cons_of_mem _ C));exact⟨⟨x,h x (List.mem_cons_self ..)⟩::B,by rw[List.map_cons,A]⟩
theorem jfh (x:Lab):x.enc.length=2:=rfl
def jmA (l:List Lab):ByteArray:=if jal l then jng l else ⟨#[]⟩
theorem jeG (A:Option Addr) (cap:Nat) (w:World) :
  Calls Tryz.prog 61 #[.slice A 0 cap] w fun e w'=>e=.returned (.bool false)/\w'=w:=by
 refine jay Tryz.func61 rfl ?_;simp only[Tryz.ntmps61,List.size_toArray,List.length_cons,List.length_nil,Nat.reduceAdd,Nat.reduceSub,Array.replicate_succ,Array.replicate_zero,List.push_toArray,List.append_toArray,List.nil_append,List.cons_append];go_wp2_with fail;go_step3;go_wp2_with fail;exact jck (results_tmp rfl _ _ _) rfl ⟨rfl,rfl⟩
theorem jgl (a:Option Addr) (len cap:Nat) (l:List Lab) (w:World) (h:SlE Lab.enc 2 w.heap.size w a len l) (F:jfs l) (D:GW w) (E:len<4294967281) :
  CR 61 #[.slice a len cap] w (.bool (jal l)):=by
 rcases Nat.eq_zero_or_pos len with A | A
 ·subst A
  obtain rfl:l=[]:=List.eq_nil_of_length_eq_zero h.1.symm;refine (jeG a cap w).mono ?_;rintro e w' ⟨rfl,rfl⟩;exact⟨rfl,Below.refl _ _⟩
 ·have B:=h.to_at (cap:=cap) jfh A
  obtain⟨G,rfl⟩:=jks l F;have C:=h.1;rw[List.length_map] at C;subst C;exact jbA a cap G w B D E
end
end Go.Proofs.YtafhpamnegmilaaGreatDoor
