/- Package ladder: the four bodies' merge. Printed by gen_mg.py. Package ladder: a body's merge through the interface; even. Package ladder: merged. -/
import Derived.Test.YtnegciklhanmbaaGreatDoorZQC
import Derived.Test.YtnegciklhanmbaaGreatDoorZMB
import Derived.Test.YtnegciklhanmbaaGreatDoorZL8
set_option maxHeartbeats 2000000
set_option maxRecDepth 100000
namespace Go.Proofs.YtnegciklhanmbaaGreatDoor
open Go Go.RowKit Go.Shelf
theorem jwC (l m:List Int) (a:Option Addr) (len cap:Nat) (O:Option Addr) (C B:Nat) (z:List Int) (w:World) (j:SlC jaF 1 w.heap.size w a len cap l) (s:SlC jaF 1 w.heap.size w O C B m) (hr:jaJ l=true) (d:jaJ m=true) (t:jan l m=some z) :
  Calls Tryz.prog 250 #[.agg #[.slice a len cap],.iface 240 (.agg #[.slice O C B])] w (jaE (some (Bd.num z)) w):=by
 obtain⟨f,ac,D,E,ad⟩:=jab w #[.slice a len cap] 240
 have x:Hid (∀ W,Bw f W->Calls Tryz.prog 255 #[.agg #[.slice a len cap],.agg #[.slice O C B]] W fun e w'=>∃ H A,e=.returned (.tuple #[.agg #[.slice H z.length A],.int .i64 0])/\BdAt w' (.iface 240 (.agg #[.slice H z.length A])) (Bd.num z)/\Bw W w'):=by
  intro W g;have h:=jht l m a len cap O C B W ((j.1.below (E.trans (g.mono E.size))).mono (E.trans (g.mono E.size)).size) (fun e=>by have:=j.2.2.2.1 e;have:=j.2.1;omega) ((s.1.below (E.trans (g.mono E.size))).mono (E.trans (g.mono E.size)).size) hr d;rw[t] at h;exact h.mono fun e w' ⟨hb,H,A,e1,o,_⟩=>⟨H,A,e1,⟨_,_,_,rfl,o⟩,hb⟩
 have ab:∀ w,(Instr.typeAssert (.iface 240 (.agg #[.slice O C B])) 115 240 false).run Tryz.prog w=.ok (.agg #[.slice O C B]) w:=fun w=>by kernel_rfl
 have aa:∀ w,(Instr.field 240 (.agg #[.slice O C B]) 0).run Tryz.prog w=.ok (.agg #[.slice O C B]) w:=fun w=>by kernel_rfl
 have Q:=Lib.hid E;have v:w.heap.size+1<=f.heap.size:=by omega
 have k:=Lib.hid D;obtain⟨P,n⟩:∃ P,jaE (some (Bd.num z)) w=P:=⟨_,rfl⟩;have y:=Lib.hid n;rw[n];clear n D E j s hr d t;go_enter Tryz.func250,Tryz.ntmps250;go_wp2_with fail;apply jrx
 case main =>
  intro key;refine wp_region_any (by kernel_rfl) ?_;change wpAny _ _ _ _ _ _ _ (World.drew _);obtain⟨G,N⟩:∃ G,f.drew=G:=⟨_,rfl⟩;rw[N];have F:G.heap[w.heap.size]? = some (.cells #[.slice a len cap] 240 (0,0)):=by rw[<- N];exact k.out
  have J:Bw f G:=by rw[<- N];exact (Below.refl _ _).drew
  clear N;have R:G.cell? ⟨w.heap.size,0,none⟩=some (.slice a len cap):=cCc F 0
  iterate 6
   all_goals
    first
     | (refine taq 0 ?_;refine taq 2 ?_;refine taq 3 ?_;refine taq 4 ?_;refine rq [1,9] (.cons rfl (fun K hK=>?_) (.cons rfl (fun K hK=>?_) .nil)))
     | (refine taq 6 ?_;refine taq 7 ?_;refine taq 8 ?_;refine rq [9] (.cons rfl (fun K hK=>?_) .nil))
     | (refine rq [5,9] (.cons rfl (fun K hK=>?_) (.cons rfl (fun K hK=>?_) .nil)))
     | (refine rq [5] (.cons rfl (fun K hK=>?_) .nil))
     | (refine rq [1] (.cons rfl (fun K hK=>?_) .nil))
     |
      go_simp
      first
       |
        refine (x.out _ J).mono ?_;rintro e G ⟨H,A,rfl,I,hb⟩;replace J:=J.trans (hb.mono J.size);replace F:=known hb (Nat.le_refl _) F
        (try replace D:=known hb (Nat.le_refl _) D)
        clear hb R;have R:G.cell? ⟨w.heap.size,0,none⟩=some (.slice a len cap):=cCc F 0;refine hK _ _ ?_;clear hK K
       |
        obtain⟨G,L,X,Z,D,M,b⟩:=jkG J #[.slice none 0 0] 35;rw[X];replace J:=J.trans (M.mono J.size);replace F:=known M (Nat.le_refl _) F
        (try replace I:=I.go M)
        clear M X R;have R:G.cell? ⟨w.heap.size,0,none⟩=some (.slice a len cap):=cCc F 0;refine hK _ _ ?_;clear hK K;rw[Z];clear Z
       |
        refine hK _ _ ?_;clear hK K
  all_goals (try (refine taq 6 ?_;refine taq 7 ?_;refine taq 8 ?_))
  all_goals
   clear F R;revert D;revert I;revert J;revert b;revert G;revert H;revert A;revert L;exact key
 case pf =>
  intro L A H G b J I D;have T:Bw w G:=Q.out.trans (J.mono Q.out.size);have c:w.heap.size<=L:=by omega
  refine rd [10] (.cons rfl (fun K hK=>?_) .nil);obtain⟨V,q⟩:∃ V,(G.setCell ⟨L,0,none⟩ (.slice H z.length A))=V:=⟨_,rfl⟩;have Y:V.heap[L]? = some (.cells #[.slice H z.length A] 35 (0,0)):=by rw[<- q];exact (hSk D (.slice H z.length A))
  have U:OnlyAt (L) G V:=by rw[<- q];exact ((OnlyAt.refl _ _).set _ _)
  have x0:G.cell? ⟨L,0,none⟩=some (.slice none 0 0):=cCc D 0;have f0:G.frozen? ⟨L,0,none⟩=false:=cFz D 0;have y0:V.cell? ⟨L,0,none⟩=some (.slice H z.length A):=cCc Y 0;have S:Bw w V:=by rw[<- q];exact (T.setCell (p:=⟨L,0,none⟩) c _)
  have r:Hid (BdAt V (.iface 240 (.agg #[.slice H z.length A])) (Bd.num z)/\Bw w V):=⟨BdAt.apart I D (fun i u h=>by rcases i with _ | i<;>simp at h) U,S⟩;have HT:=Lib.hid (jcJ (.iface 240 (.agg #[.slice H z.length A])) V);clear Y U S D I;go_simp;refine hK _ _ ?_;clear hK K;refine ta 11 ?_;refine wpAny_done (by kernel_rfl) ?_ _;go_wp2_with fail;refine HT.out.mono ?_;rintro e w3 ⟨rfl,rfl⟩;go_wp2_with fail;rw[<- y.out];exact⟨r.out.2,_,rfl,r.out.1⟩
theorem jut (l m:List Int) (a:Option Addr) (len cap:Nat) (J:Option Addr) (B A:Nat) (w:World) (c:SlC jaF 1 w.heap.size w a len cap l) (k:SlC jaF 1 w.heap.size w J B A m) (hr:jaJ l=true) (Y:jaJ m=true) (n:jan l m=none) :
  Calls Tryz.prog 250 #[.agg #[.slice a len cap],.iface 240 (.agg #[.slice J B A])] w (jaE (none:Option Bd) w):=by
 obtain⟨Z,x,C,D,y⟩:=jab w #[.slice a len cap] 240
 have q:Hid (∀ W,Bw Z W->CR 255 #[.agg #[.slice a len cap],.agg #[.slice J B A]] W (.tuple #[.agg #[.slice none 0 0],.int .i64 60])):=by
  intro W b;have h:=jht l m a len cap J B A W ((c.1.below (D.trans (b.mono D.size))).mono (D.trans (b.mono D.size)).size) (fun e=>by have:=c.2.2.2.1 e;have:=c.2.1;omega) ((k.1.below (D.trans (b.mono D.size))).mono (D.trans (b.mono D.size)).size) hr Y;rw[n] at h;exact h.mono fun e w' ⟨hb,t⟩=>⟨t,hb⟩
 have v:∀ w,(Instr.typeAssert (.iface 240 (.agg #[.slice J B A])) 115 240 false).run Tryz.prog w=.ok (.agg #[.slice J B A]) w:=fun w=>by kernel_rfl
 have u:∀ w,(Instr.field 240 (.agg #[.slice J B A]) 0).run Tryz.prog w=.ok (.agg #[.slice J B A]) w:=fun w=>by kernel_rfl
 have M:=Lib.hid D;have o:w.heap.size+1<=Z.heap.size:=by omega
 have d:=Lib.hid C;obtain⟨P,g⟩:∃ P,jaE (none:Option Bd) w=P:=⟨_,rfl⟩;have r:=Lib.hid g;rw[g];clear g C D c k hr Y n;go_enter Tryz.func250,Tryz.ntmps250;go_wp2_with fail;apply jrx
 case main =>
  intro key;refine wp_region_any (by kernel_rfl) ?_;change wpAny _ _ _ _ _ _ _ (World.drew _);obtain⟨F,I⟩:∃ F,Z.drew=F:=⟨_,rfl⟩;rw[I];have E:F.heap[w.heap.size]? = some (.cells #[.slice a len cap] 240 (0,0)):=by rw[<- I];exact d.out
  have G:Bw Z F:=by rw[<- I];exact (Below.refl _ _).drew
  clear I;have N:F.cell? ⟨w.heap.size,0,none⟩=some (.slice a len cap):=cCc E 0
  iterate 6
   all_goals
    first
     | (refine taq 0 ?_;refine taq 2 ?_;refine taq 3 ?_;refine taq 4 ?_;refine rq [1,9] (.cons rfl (fun K hK=>?_) (.cons rfl (fun K hK=>?_) .nil)))
     | (refine taq 6 ?_;refine taq 7 ?_;refine taq 8 ?_;refine rq [9] (.cons rfl (fun K hK=>?_) .nil))
     | (refine rq [5,9] (.cons rfl (fun K hK=>?_) (.cons rfl (fun K hK=>?_) .nil)))
     | (refine rq [5] (.cons rfl (fun K hK=>?_) .nil))
     | (refine rq [1] (.cons rfl (fun K hK=>?_) .nil))
     |
      go_simp
      first
       |
        refine (q.out _ G).mono ?_;rintro e F ⟨rfl,hb⟩;replace G:=G.trans (hb.mono G.size);replace E:=known hb (Nat.le_refl _) E
        (try replace C:=known hb (Nat.le_refl _) C)
        clear hb N;have N:F.cell? ⟨w.heap.size,0,none⟩=some (.slice a len cap):=cCc E 0;refine hK _ _ ?_;clear hK K
       |
        obtain⟨F,H,R,T,C,L,U⟩:=jkG G #[.slice none 0 0] 35;rw[R];replace G:=G.trans (L.mono G.size);replace E:=known L (Nat.le_refl _) E;clear L R N;have N:F.cell? ⟨w.heap.size,0,none⟩=some (.slice a len cap):=cCc E 0;refine hK _ _ ?_;clear hK K;rw[T];clear T
       |
        refine hK _ _ ?_;clear hK K
  all_goals (try (refine taq 6 ?_;refine taq 7 ?_;refine taq 8 ?_))
  all_goals
   clear E N;revert C;revert G;revert U;revert F;revert H;exact key
 case pf =>
  intro H F U G C;have Q:Bw w F:=M.out.trans (G.mono M.out.size);have X:w.heap.size<=H:=by omega
  refine rd [10] (.cons rfl (fun K hK=>?_) .nil);obtain⟨V,i⟩:∃ V,(F.setCell ⟨H,0,none⟩ (.slice none 0 0))=V:=⟨_,rfl⟩;have S:V.heap[H]? = some (.cells #[.slice none 0 0] 35 (0,0)):=by rw[<- i];exact (hSk C (.slice none 0 0))
  have f:OnlyAt (H) F V:=by rw[<- i];exact ((OnlyAt.refl _ _).set _ _)
  have x0:F.cell? ⟨H,0,none⟩=some (.slice none 0 0):=cCc C 0;have z:F.frozen? ⟨H,0,none⟩=false:=cFz C 0;have y0:V.cell? ⟨H,0,none⟩=some (.slice none 0 0):=cCc S 0;have O:Bw w V:=by rw[<- i];exact (Q.setCell (p:=⟨H,0,none⟩) X _)
  have j:Hid (Bw w V):=O;have s:=Lib.hid (jsB (.iface 240 (.agg #[.slice none 0 0])) V);clear S f O C;go_simp;refine hK _ _ ?_;clear hK K;refine ta 11 ?_;refine wpAny_done (by kernel_rfl) ?_ _;go_wp2_with fail;refine s.out.mono ?_;rintro e w3 ⟨rfl,rfl⟩;go_wp2_with fail;rw[<- r.out];exact⟨j.out.alloc j.out.size _,_,rfl,_,rfl,World.alloc_heap_new _ _⟩
theorem jwD (b:Nat) (r L:List Nat) (s M:ByteArray) (w:World) (n:3<=b) (o:b<=8) (q:r.length=2^b) (hr:∀ i,r.getD i 0<=65-b) (a:L.length=2^b) (c:∀ i,L.getD i 0<=65-b) (d:s=jat r) (f:M=jat L) :
  Calls Tryz.prog 279 #[.agg #[.int .i64 b,.string s],.iface 242 (.agg #[.int .i64 b,.string M])] w (jaE (some (Bd.reg b (jfM r L))) w):=by
 obtain⟨g,ac,A,Q,ad⟩:=jab w #[.int .i64 b,.string s] 242
 have v:Hid (∀ W,Bw g W->Calls Tryz.prog 283 #[.agg #[.int .i64 b,.string s],.agg #[.int .i64 b,.string M]] W fun e w'=>∃ F,e=.returned (.tuple #[.agg #[.int .i64 b,.string F],.int .i64 0])/\BdAt w' (.iface 242 (.agg #[.int .i64 b,.string F])) (Bd.reg b (jfM r L))/\Bw W w'):=by
  intro W hB;have h:=jo0 b r L W n o q hr a c;rw[<- d,<- f] at h;exact h.mono fun e w' ⟨z,hb⟩=>⟨_,z,rfl,hb⟩
 have ab:∀ w,(Instr.typeAssert (.iface 242 (.agg #[.int .i64 b,.string M])) 115 242 false).run Tryz.prog w=.ok (.agg #[.int .i64 b,.string M]) w:=fun w=>by kernel_rfl
 have aa:∀ w,(Instr.field 242 (.agg #[.int .i64 b,.string M]) 0).run Tryz.prog w=.ok (.agg #[.int .i64 b,.string M]) w:=fun w=>by kernel_rfl
 have N:=Lib.hid Q;have t:w.heap.size+1<=g.heap.size:=by omega
 have j:=Lib.hid A;obtain⟨P,k⟩:∃ P,jaE (some (Bd.reg b (jfM r L))) w=P:=⟨_,rfl⟩;have x:=Lib.hid k;rw[k];clear k A Q n o q hr a c d f;go_enter Tryz.func279,Tryz.ntmps279;go_wp2_with fail;apply jrx
 case main =>
  intro key;refine wp_region_any (by kernel_rfl) ?_;change wpAny _ _ _ _ _ _ _ (World.drew _);obtain⟨E,I⟩:∃ E,g.drew=E:=⟨_,rfl⟩;rw[I];have B:E.heap[w.heap.size]? = some (.cells #[.int .i64 b,.string s] 242 (0,0)):=by rw[<- I];exact j.out
  have D:Bw g E:=by rw[<- I];exact (Below.refl _ _).drew
  clear I;obtain⟨O,c1⟩:=cl2 B
  iterate 6
   all_goals
    first
     | (refine taq 0 ?_;refine taq 2 ?_;refine taq 3 ?_;refine taq 4 ?_;refine rq [1,9] (.cons rfl (fun K hK=>?_) (.cons rfl (fun K hK=>?_) .nil)))
     | (refine taq 6 ?_;refine taq 7 ?_;refine taq 8 ?_;refine rq [9] (.cons rfl (fun K hK=>?_) .nil))
     | (refine rq [5,9] (.cons rfl (fun K hK=>?_) (.cons rfl (fun K hK=>?_) .nil)))
     | (refine rq [5] (.cons rfl (fun K hK=>?_) .nil))
     | (refine rq [1] (.cons rfl (fun K hK=>?_) .nil))
     |
      go_simp
      first
       |
        refine (v.out _ D).mono ?_;rintro e E ⟨F,rfl,C,hb⟩;replace D:=D.trans (hb.mono D.size);replace B:=known hb (Nat.le_refl _) B
        (try replace A:=known hb (Nat.le_refl _) A)
        clear hb O c1;obtain⟨O,c1⟩:=cl2 B;refine hK _ _ ?_;clear hK K
       |
        obtain⟨E,G,U,Y,A,H,Z⟩:=jkG D #[.int .i64 0,.string ⟨#[]⟩] 37;rw[U];replace D:=D.trans (H.mono D.size);replace B:=known H (Nat.le_refl _) B
        (try replace C:=C.go H)
        clear H U O c1;obtain⟨O,c1⟩:=cl2 B;refine hK _ _ ?_;clear hK K;rw[Y];clear Y
       |
        refine hK _ _ ?_;clear hK K
  all_goals (try (refine taq 6 ?_;refine taq 7 ?_;refine taq 8 ?_))
  all_goals
   clear B O c1;revert A;revert C;revert D;revert Z;revert E;revert F;revert G;exact key
 case pf =>
  intro G F E Z D C A;have S:Bw w E:=N.out.trans (D.mono N.out.size);have J:w.heap.size<=G:=by omega
  refine rd [10] (.cons rfl (fun K hK=>?_) .nil);obtain⟨V,l⟩:∃ V,((E.setCell ⟨G,0,none⟩ (.int .i64 b)).setCell ⟨G,1,none⟩ (.string F))=V:=⟨_,rfl⟩;have X:V.heap[G]? = some (.cells #[.int .i64 b,.string F] 37 (0,0)):=by rw[<- l];exact (hSk (hSk A (.int .i64 b)) (.string F))
  have T:OnlyAt (G) E V:=by rw[<- l];exact (((OnlyAt.refl _ _).set _ _).set _ _)
  obtain⟨x0,x1⟩:=cl2 A;obtain⟨f0,f1⟩:=cz2 A;obtain⟨y0,y1⟩:=cl2 X;have R:Bw w V:=by rw[<- l];exact ((S.setCell (p:=⟨G,0,none⟩) J _).setCell (p:=⟨G,1,none⟩) J _)
  have m:Hid (BdAt V (.iface 242 (.agg #[.int .i64 b,.string F])) (Bd.reg b (jfM r L))/\Bw w V):=⟨BdAt.apart C A (fun i u h=>by rcases i with _ | _ | i<;>simp at h) T,R⟩;have y:=Lib.hid (jcJ (.iface 242 (.agg #[.int .i64 b,.string F])) V);clear X T R A C;go_simp;refine hK _ _ ?_;clear hK K;refine ta 11 ?_;refine wpAny_done (by kernel_rfl) ?_ _;go_wp2_with fail;refine y.out.mono ?_;rintro e w3 ⟨rfl,rfl⟩;go_wp2_with fail;rw[<- x.out];exact⟨m.out.2,_,rfl,m.out.1⟩
theorem jwB (c:Nat) (l m:List Int) (a:Option Addr) (len cap:Nat) (N:Option Addr) (B A:Nat) (w:World) (t:c=4\/c=8\/c=16\/c=32) (k:SlC jaF 1 w.heap.size w a len cap l) (hl:l.length=c+c) (b:jdh l) (s:SlC jaF 1 w.heap.size w N B A m) (hm:m.length=c+c) (d:jdh m) :
  Calls Tryz.prog 289 #[.agg #[.int .i64 2,.int .i64 c,.slice a len cap],.iface 243 (.agg #[.int .i64 2,.int .i64 c,.slice N B A])] w (jaE (some (Bd.cnt c (jfF l m))) w):=by
 obtain⟨f,ac,C,D,ad⟩:=jab w #[.int .i64 2,.int .i64 c,.slice a len cap] 243
 have x:Hid (∀ W,Bw f W->Calls Tryz.prog 293 #[.agg #[.int .i64 2,.int .i64 c,.slice a len cap],.agg #[.int .i64 2,.int .i64 c,.slice N B A]] W fun e w'=>∃ g,e=.returned (.tuple #[.agg #[.int .i64 2,.int .i64 c,.slice (some ⟨g,0,none⟩) (2*c) (2*c)],.int .i64 0])/\BdAt w' (.iface 243 (.agg #[.int .i64 2,.int .i64 c,.slice (some ⟨g,0,none⟩) (2*c) (2*c)])) (Bd.cnt c (jfF l m))/\Bw W w'):=by
  intro W j;have h:=joy c l m a len cap N B A W (jdK c t) (by omega) ((k.1.below (D.trans (j.mono D.size))).mono (D.trans (j.mono D.size)).size) (by omega) b (fun e=>by have:=k.2.2.2.1 e;have:=k.2.1;omega) ((s.1.below (D.trans (j.mono D.size))).mono (D.trans (j.mono D.size)).size) (by omega) d;exact h.mono fun e w' ⟨g,e1,hN,_,hb⟩=>⟨g,e1,⟨_,_,_,rfl,jg4 hN (by rw[jho];omega) (by unfold maxLen;omega)⟩,hb⟩
 have ab:∀ w,(Instr.typeAssert (.iface 243 (.agg #[.int .i64 2,.int .i64 c,.slice N B A])) 115 243 false).run Tryz.prog w=.ok (.agg #[.int .i64 2,.int .i64 c,.slice N B A]) w:=fun w=>by kernel_rfl
 have aa:∀ w,(Instr.field 243 (.agg #[.int .i64 2,.int .i64 c,.slice N B A]) 0).run Tryz.prog w=.ok (.agg #[.int .i64 2,.int .i64 c,.slice N B A]) w:=fun w=>by kernel_rfl
 have O:=Lib.hid D;have v:w.heap.size+1<=f.heap.size:=by omega
 have n:=Lib.hid C;obtain⟨P,o⟩:∃ P,jaE (some (Bd.cnt c (jfF l m))) w=P:=⟨_,rfl⟩;have y:=Lib.hid o;rw[o];clear o C D t k hl b s hm d;go_enter Tryz.func289,Tryz.ntmps289;go_wp2_with fail;apply jrx
 case main =>
  intro key;refine wp_region_any (by kernel_rfl) ?_;change wpAny _ _ _ _ _ _ _ (World.drew _);obtain⟨J,M⟩:∃ J,f.drew=J:=⟨_,rfl⟩;rw[M];have E:J.heap[w.heap.size]? = some (.cells #[.int .i64 2,.int .i64 c,.slice a len cap] 243 (0,0)):=by rw[<- M];exact n.out
  have I:Bw f J:=by rw[<- M];exact (Below.refl _ _).drew
  clear M;obtain⟨Q,c1,c2⟩:=cl3 E
  iterate 6
   all_goals
    first
     | (refine taq 0 ?_;refine taq 2 ?_;refine taq 3 ?_;refine taq 4 ?_;refine rq [1,9] (.cons rfl (fun K hK=>?_) (.cons rfl (fun K hK=>?_) .nil)))
     | (refine taq 6 ?_;refine taq 7 ?_;refine taq 8 ?_;refine rq [9] (.cons rfl (fun K hK=>?_) .nil))
     | (refine rq [5,9] (.cons rfl (fun K hK=>?_) (.cons rfl (fun K hK=>?_) .nil)))
     | (refine rq [5] (.cons rfl (fun K hK=>?_) .nil))
     | (refine rq [1] (.cons rfl (fun K hK=>?_) .nil))
     |
      go_simp
      first
       |
        refine (x.out _ I).mono ?_;rintro e J ⟨g,rfl,F,hb⟩;replace I:=I.trans (hb.mono I.size);replace E:=known hb (Nat.le_refl _) E
        (try replace C:=known hb (Nat.le_refl _) C)
        clear hb Q c1 c2;obtain⟨Q,c1,c2⟩:=cl3 E;refine hK _ _ ?_;clear hK K
       |
        obtain⟨J,G,U,Y,C,L,Z⟩:=jkG I #[.int .i64 0,.int .i64 0,.slice none 0 0] 39;rw[U];replace I:=I.trans (L.mono I.size);replace E:=known L (Nat.le_refl _) E
        (try replace F:=F.go L)
        clear L U Q c1 c2;obtain⟨Q,c1,c2⟩:=cl3 E;refine hK _ _ ?_;clear hK K;rw[Y];clear Y
       |
        refine hK _ _ ?_;clear hK K
  all_goals (try (refine taq 6 ?_;refine taq 7 ?_;refine taq 8 ?_))
  all_goals
   clear E Q c1 c2;revert C;revert F;revert I;revert Z;revert J;revert g;revert G;exact key
 case pf =>
  intro G g J Z I F C;have S:Bw w J:=O.out.trans (I.mono O.out.size);have H:w.heap.size<=G:=by omega
  refine rd [10] (.cons rfl (fun K hK=>?_) .nil);obtain⟨V,q⟩:∃ V,(((J.setCell ⟨G,0,none⟩ (.int .i64 2)).setCell ⟨G,1,none⟩ (.int .i64 c)).setCell ⟨G,2,none⟩ (.slice (some ⟨g,0,none⟩) (2*c) (2*c)))=V:=⟨_,rfl⟩;have X:V.heap[G]? = some (.cells #[.int .i64 2,.int .i64 c,.slice (some ⟨g,0,none⟩) (2*c) (2*c)] 39 (0,0)):=by rw[<- q];exact (hSk (hSk (hSk C (.int .i64 2)) (.int .i64 c)) (.slice (some ⟨g,0,none⟩) (2*c) (2*c)))
  have T:OnlyAt (G) J V:=by rw[<- q];exact ((((OnlyAt.refl _ _).set _ _).set _ _).set _ _)
  obtain⟨x0,x1,x2⟩:=cl3 C;obtain⟨f0,f1,f2⟩:=cz3 C;obtain⟨y0,y1,y2⟩:=cl3 X;have R:Bw w V:=by rw[<- q];exact (((S.setCell (p:=⟨G,0,none⟩) H _).setCell (p:=⟨G,1,none⟩) H _).setCell (p:=⟨G,2,none⟩) H _)
  have r:Hid (BdAt V (.iface 243 (.agg #[.int .i64 2,.int .i64 c,.slice (some ⟨g,0,none⟩) (2*c) (2*c)])) (Bd.cnt c (jfF l m))/\Bw w V):=⟨BdAt.apart F C (fun i u h=>by rcases i with _ | _ | _ | i<;>simp at h) T,R⟩;have z:=Lib.hid (jcJ (.iface 243 (.agg #[.int .i64 2,.int .i64 c,.slice (some ⟨g,0,none⟩) (2*c) (2*c)])) V);clear X T R C F;go_simp;refine hK _ _ ?_;clear hK K;refine ta 11 ?_;refine wpAny_done (by kernel_rfl) ?_ _;go_wp2_with fail;refine z.out.mono ?_;rintro e w3 ⟨rfl,rfl⟩;go_wp2_with fail;rw[<- y.out];exact⟨r.out.2,_,rfl,r.out.1⟩
theorem jwA (f:Nat) (l m:List (Int × Int)) (a:Option Addr) (len cap:Nat) (Q:Option Addr) (D C:Nat) (w:World) (hf:f<=3) (z:SlC jb4 2 w.heap.size w a len cap l) (hr:jaR f l=true) (hu:jbA l) (k:jbl l) (n:l.length<=1000) (hp:∀ b∈l,I64 b.1) (x:SlC jb4 2 w.heap.size w Q D C m) (r:jaR f m=true) (o:jbl m) (S:m.length<=1000) (q:∀ b∈m,I64 b.1) :
  Calls Tryz.prog 308 #[.agg #[.int .i64 f,.slice a len cap],.iface 245 (.agg #[.int .i64 f,.slice Q D C])] w (jaE (some (Bd.bkt f (jbi (jaK l m)))) w):=by
 obtain⟨s,ae,E,F,af⟩:=jab w #[.int .i64 f,.slice a len cap] 245
 have HA:Hid (∀ W,Bw s W->Calls Tryz.prog 312 #[.agg #[.int .i64 f,.slice a len cap],.agg #[.int .i64 f,.slice Q D C]] W fun e w'=>∃ I B A,e=.returned (.tuple #[.agg #[.int .i64 f,.slice I B A],.int .i64 0])/\BdAt w' (.iface 245 (.agg #[.int .i64 f,.slice I B A])) (Bd.bkt f (jbi (jaK l m)))/\Bw W w'):=by
  intro W t;have h:=jmD f l m a len cap Q D C W hf ((z.1.below (F.trans (t.mono F.size))).mono (F.trans (t.mono F.size)).size) hr hu k (by have:=z.1.1;omega) hp ((x.1.below (F.trans (t.mono F.size))).mono (F.trans (t.mono F.size)).size) r o (by have:=x.1.1;omega) q;exact h.mono fun e w' ⟨I,B,A,e1,aa,hb⟩=>⟨I,B,A,e1,⟨_,_,_,rfl,aa⟩,hb⟩
 have ad:∀ w,(Instr.typeAssert (.iface 245 (.agg #[.int .i64 f,.slice Q D C])) 115 245 false).run Tryz.prog w=.ok (.agg #[.int .i64 f,.slice Q D C]) w:=fun w=>by kernel_rfl
 have ac:∀ w,(Instr.field 245 (.agg #[.int .i64 f,.slice Q D C]) 0).run Tryz.prog w=.ok (.agg #[.int .i64 f,.slice Q D C]) w:=fun w=>by kernel_rfl
 have T:=Lib.hid F;have ab:w.heap.size+1<=s.heap.size:=by omega
 have v:=Lib.hid E;obtain⟨P,y⟩:∃ P,jaE (some (Bd.bkt f (jbi (jaK l m)))) w=P:=⟨_,rfl⟩;have HP:=Lib.hid y;rw[y];clear y E F hf z hr hu k n hp x r o S q;go_enter Tryz.func308,Tryz.ntmps308;go_wp2_with fail;apply jrx
 case main =>
  intro key;refine wp_region_any (by kernel_rfl) ?_;change wpAny _ _ _ _ _ _ _ (World.drew _);obtain⟨L,O⟩:∃ L,s.drew=L:=⟨_,rfl⟩;rw[O];have G:L.heap[w.heap.size]? = some (.cells #[.int .i64 f,.slice a len cap] 245 (0,0)):=by rw[<- O];exact v.out
  have J:Bw s L:=by rw[<- O];exact (Below.refl _ _).drew
  clear O;obtain⟨U,c1⟩:=cl2 G
  iterate 6
   all_goals
    first
     | (refine taq 0 ?_;refine taq 2 ?_;refine taq 3 ?_;refine taq 4 ?_;refine rq [1,9] (.cons rfl (fun K hK=>?_) (.cons rfl (fun K hK=>?_) .nil)))
     | (refine taq 6 ?_;refine taq 7 ?_;refine taq 8 ?_;refine rq [9] (.cons rfl (fun K hK=>?_) .nil))
     | (refine rq [5,9] (.cons rfl (fun K hK=>?_) (.cons rfl (fun K hK=>?_) .nil)))
     | (refine rq [5] (.cons rfl (fun K hK=>?_) .nil))
     | (refine rq [1] (.cons rfl (fun K hK=>?_) .nil))
     |
      go_simp
      first
       |
        refine (HA.out _ J).mono ?_;rintro e L ⟨I,B,A,rfl,H,hb⟩;replace J:=J.trans (hb.mono J.size);replace G:=known hb (Nat.le_refl _) G
        (try replace E:=known hb (Nat.le_refl _) E)
        clear hb U c1;obtain⟨U,c1⟩:=cl2 G;refine hK _ _ ?_;clear hK K
       |
        obtain⟨L,M,c,g,E,N,j⟩:=jkG J #[.int .i64 0,.slice none 0 0] 42;rw[c];replace J:=J.trans (N.mono J.size);replace G:=known N (Nat.le_refl _) G
        (try replace H:=H.go N)
        clear N c U c1;obtain⟨U,c1⟩:=cl2 G;refine hK _ _ ?_;clear hK K;rw[g];clear g
       |
        refine hK _ _ ?_;clear hK K
  all_goals (try (refine taq 6 ?_;refine taq 7 ?_;refine taq 8 ?_))
  all_goals
   clear G U c1;revert E;revert H;revert J;revert j;revert L;revert I;revert B;revert A;revert M;exact key
 case pf =>
  intro M A B I L j J H E;have Y:Bw w L:=T.out.trans (J.mono T.out.size);have R:w.heap.size<=M:=by omega
  refine rd [10] (.cons rfl (fun K hK=>?_) .nil);obtain⟨V,hV⟩:∃ V,((L.setCell ⟨M,0,none⟩ (.int .i64 f)).setCell ⟨M,1,none⟩ (.slice I B A))=V:=⟨_,rfl⟩;have d:V.heap[M]? = some (.cells #[.int .i64 f,.slice I B A] 42 (0,0)):=by rw[<- hV];exact (hSk (hSk E (.int .i64 f)) (.slice I B A))
  have Z:OnlyAt (M) L V:=by rw[<- hV];exact (((OnlyAt.refl _ _).set _ _).set _ _)
  obtain⟨x0,x1⟩:=cl2 E;obtain⟨f0,f1⟩:=cz2 E;obtain⟨y0,y1⟩:=cl2 d;have X:Bw w V:=by rw[<- hV];exact ((Y.setCell (p:=⟨M,0,none⟩) R _).setCell (p:=⟨M,1,none⟩) R _)
  have HE:Hid (BdAt V (.iface 245 (.agg #[.int .i64 f,.slice I B A])) (Bd.bkt f (jbi (jaK l m)))/\Bw w V):=⟨BdAt.apart H E (fun i u h=>by rcases i with _ | _ | i<;>simp at h) Z,X⟩;have HT:=Lib.hid (jcJ (.iface 245 (.agg #[.int .i64 f,.slice I B A])) V);clear d Z X E H;go_simp;refine hK _ _ ?_;clear hK K;refine ta 11 ?_;refine wpAny_done (by kernel_rfl) ?_ _;go_wp2_with fail;refine HT.out.mono ?_;rintro e w3 ⟨rfl,rfl⟩;go_wp2_with fail;rw[<- HP.out];exact⟨HE.out.2,_,rfl,HE.out.1⟩
theorem jrs (x : Value) (w : World) : (method 590 240 (.agg #[x]) "aviary/ladder.merge").run Tryz.prog w = .ok (250, .agg #[x]) w := by kernel_rfl
theorem jrt (x y : Value) (w : World) : (method 590 242 (.agg #[x, y]) "aviary/ladder.merge").run Tryz.prog w = .ok (279, .agg #[x, y]) w := by kernel_rfl
theorem jrr (x y z : Value) (w : World) : (method 590 243 (.agg #[x, y, z]) "aviary/ladder.merge").run Tryz.prog w = .ok (289, .agg #[x, y, z]) w := by kernel_rfl
theorem jrq (x y : Value) (w : World) : (method 590 245 (.agg #[x, y]) "aviary/ladder.merge").run Tryz.prog w = .ok (308, .agg #[x, y]) w := by kernel_rfl
theorem jey {w : World} {v : Value} {B : Bd} {kind level : Nat} (hb : BdAt w v B) (H : B.Ok kind level) : ∃ T X f, v = .iface T X /\ (∀ W, (method 590 T X "aviary/ladder.merge").run Tryz.prog W = .ok (f, X) W) /\ (∀ args W, (callFunc f args).run Tryz.prog W = .ok (.enter f args) W) /\
  ∀ W v2 G,BdAt W v B->BdAt W v2 G->G.Ok kind level->Calls Tryz.prog f #[X,v2] W (jaE (B.merge G) W):=by
 cases B with
 | num l =>
  obtain⟨a,len,cap,rfl,-⟩:=hb;obtain⟨rfl,rfl,N,I,R⟩:=H;refine⟨_,_,_,rfl,fun W=>jrs _ W,enters_of Tryz.func250 (by kernel_rfl) rfl,fun W v2 G Q E A=>?_⟩
  cases G with
  | num m =>
   obtain⟨j,L,J,e,P⟩:=Q
   cases e
   obtain⟨O,D,C,rfl,F⟩:=E
   cases V:jan l m with
   | some z =>
    have h:=jwC l m a len cap O D C z W P F (jd7 l N I) (jd7 m A.2.2.1 A.2.2.2.1) V;show Calls _ _ _ _ (jaE ((jan l m).map Bd.num) W);rw[V];exact h
   | none =>
    have h:=jut l m a len cap O D C W P F (jd7 l N I) (jd7 m A.2.2.1 A.2.2.2.1) V;show Calls _ _ _ _ (jaE ((jan l m).map Bd.num) W);rw[V];exact h
  | reg b r=>exact absurd A.2.1 (by omega)
  | cnt c m=>exact absurd A.1 (by omega)
  | bkt f m=>exact absurd A.1 (by omega)
 | reg b r =>
  obtain rfl:v=_:=hb;obtain⟨rfl,Y,N,I,R,Z⟩:=H;refine⟨_,_,_,rfl,fun W=>jrt _ _ W,enters_of Tryz.func279 (by kernel_rfl) rfl,fun W v2 G Q E A=>?_⟩
  cases G with
  | num m=>exact absurd A.2.1 (by omega)
  | reg b' r2 =>
   obtain rfl:v2=_:=E;obtain⟨-,-,-,S,U,g⟩:=A;obtain rfl:b=b':=by omega
   exact jwD b r r2 _ _ W (by omega) (by omega) R Z U g rfl rfl
  | cnt c m=>exact absurd A.1 (by omega)
  | bkt f m=>exact absurd A.1 (by omega)
 | cnt c l =>
  obtain⟨a,len,cap,rfl,-⟩:=hb;obtain⟨rfl,Y,N,I,R⟩:=H;refine⟨_,_,_,rfl,fun W=>jrr _ _ _ W,enters_of Tryz.func289 (by kernel_rfl) rfl,fun W v2 G Q E A=>?_⟩
  cases G with
  | num m=>exact absurd A.1 (by omega)
  | reg b r=>exact absurd A.1 (by omega)
  | cnt c' m =>
   obtain⟨j,L,J,e,P⟩:=Q
   cases e
   obtain⟨O,D,C,rfl,F⟩:=E;obtain⟨-,n,k,S,U⟩:=A;obtain rfl:c=c':=jr8 N k;exact jwB c l m a len cap O D C W (jdR N Y) P I R F S U
  | bkt f m=>exact absurd A.1 (by omega)
 | bkt f l =>
  obtain⟨a,len,cap,rfl,-⟩:=hb;obtain⟨rfl,Y,N,I,R,Z,d⟩:=H;refine⟨_,_,_,rfl,fun W=>jrq _ _ W,enters_of Tryz.func308 (by kernel_rfl) rfl,fun W v2 G Q E A=>?_⟩
  cases G with
  | num m=>exact absurd A.1 (by omega)
  | reg b r=>exact absurd A.1 (by omega)
  | cnt c m=>exact absurd A.1 (by omega)
  | bkt f' m =>
   obtain⟨j,L,J,e,P⟩:=Q
   cases e
   obtain⟨O,D,C,rfl,F⟩:=E;obtain⟨-,n,k,S,U,g,i⟩:=A;obtain rfl:f=f':=by omega
   have M:f<=3:=by omega
   exact jwA f l m a len cap O D C W M P (jcX f l M I R d) I Z (by have:=jdn f l M I d;omega) (jfC f l M d) F (jcX f m M S U i) g (by have:=jdn f m M S i;omega) (jfC f m M i)
theorem jjC (v1 v2:Value) (U V:Bd) (kind L M t:Nat) (w:World) (aa:BdAt w v1 U) (ab:BdAt w v2 V) (R:U.Ok kind L) (S:V.Ok kind M) (h1:L<=t) (h2:M<=t) (ht:t<=jdQ kind) :
  Calls Tryz.prog 137 #[.agg #[v1,.int .i64 kind,.int .i64 L],.agg #[v2,.int .i64 kind,.int .i64 M],.int .i64 t] w fun e w'=>∃ u1 u2,e=.returned (.tuple #[.agg #[u1,.int .i64 kind,.int .i64 t],.agg #[u2,.int .i64 kind,.int .i64 t],.nilIface])/\BdAt w' u1 (jbL (L,U) t).2/\BdAt w' u2 (jbL (M,V) t).2/\Bw w w':=by
 obtain⟨T1,a,rfl⟩:=jaD aa;obtain⟨T2,c,rfl⟩:=jaD ab;have e1:(jbL (L,U) t).1=t:=(jcv t ht _ (L,U) rfl R).2.trans (by show max L t=t;omega);have e2:(jbL (M,V) t).1=t:=(jcv t ht _ (M,V) rfl S).2.trans (by show max M t=t;omega)
 have X:Hid (∀ W,BdAt W (.iface T1 a) U->Calls Tryz.prog 179 #[.agg #[.iface T1 a,.int .i64 kind,.int .i64 L],.int .i64 t] W fun e w'=>∃ v',e=.returned (.tuple #[.agg #[v',.int .i64 kind,.int .i64 t],.nilIface])/\BdAt w' v' (jbL (L,U) t).2/\Bw W w'):=fun W h=>by
  have h3:=jvD (.iface T1 a) U kind L t W h R ht;rw[e1] at h3;exact h3
 have Y:Hid (∀ W,BdAt W (.iface T2 c) V->Calls Tryz.prog 179 #[.agg #[.iface T2 c,.int .i64 kind,.int .i64 M],.int .i64 t] W fun e w'=>∃ v',e=.returned (.tuple #[.agg #[v',.int .i64 kind,.int .i64 t],.nilIface])/\BdAt w' v' (jbL (M,V) t).2/\Bw W w'):=fun W h=>by
  have h3:=jvD (.iface T2 c) V kind M t W h S ht;rw[e2] at h3;exact h3
 generalize (jbL (L,U) t).2=D1 at X;generalize (jbL (M,V) t).2=D2 at Y;obtain⟨W0,aH,ao,ap,aq,x,aB⟩:=jbF w #[.iface T1 a,.int .i64 kind,.int .i64 L] 117 #[.iface T2 c,.int .i64 kind,.int .i64 M] 117 #[.nilIface,.int .i64 0,.int .i64 0] 117;obtain⟨W1,aI,z,N,aC⟩:=jab W0 #[.nilIface,.int .i64 0,.int .i64 0] 117;rw[aB] at z aC;have Q:=known N (by omega) ao;have p:=known N (by omega) ap;have q:=known N (by omega) aq;obtain⟨c0,c1,c2⟩:=cl3 Q;have E:=x.trans (N.mono x.size);have X:=Lib.hid (X.out W1 (aa.go E));have au:=Lib.hid (ab.go E);have ax:=Lib.hid Q;have ay:=Lib.hid p;have aA:=Lib.hid q;have az:=Lib.hid z;have d:=Lib.hid E;clear ao ap aq z Q p q x N E aa ab R S h1 h2 ht e1 e2;go_enter Tryz.func137,Tryz.ntmps137;go_wp2_with fail;refine X.out.mono ?_;rintro e w2 ⟨u1,rfl,ac,A⟩;obtain⟨S1,J,rfl⟩:=jaD ac;have F:=known A (Nat.le_refl _) ax.out;obtain⟨p0,p1,p2⟩:=cl3 F;obtain⟨f0,f1,f2⟩:=cz3 F;obtain⟨V1,aD,al,H,ah⟩:=jb3 (.iface S1 J) (.int .i64 kind) (.int .i64 t) F;have g:Bw w V1:=ah _ _ (d.out.trans (A.mono d.out.size)) (Nat.le_refl _);have P:=(H.2 (w.heap.size+1) (by omega)).trans (known A (Nat.le_refl _) ay.out);have n:=(H.2 (w.heap.size+2) (by omega)).trans (known A (Nat.le_refl _) aA.out);have l:=(H.2 (w.heap.size+2+1) (by omega)).trans (known A (Nat.le_refl _) az.out);have r:BdAt V1 (.iface S1 J) D1:=BdAt.set_work ac F (by simp) (by simp) (by simp) H;have Y:=Lib.hid (Y.out V1 (BdAt.set_work (au.out.go A) F (by simp) (by simp) (by simp) H));obtain⟨q0,q1,q2⟩:=cl3 P
 have aw:=Lib.hid al;have ae:=Lib.hid P;have ag:=Lib.hid n;have af:=Lib.hid l;have av:=Lib.hid r;have f:=Lib.hid g;clear al H ah P n l ac r g F A;go_wp2_with fail;refine Y.out.mono ?_;rintro e w3 ⟨u2,rfl,ad,B⟩;obtain⟨S2,T,rfl⟩:=jaD ad;have G:=known B (Nat.le_refl _) ae.out;obtain⟨r0,r1,r2⟩:=cl3 G;obtain⟨g0,g1,g2⟩:=cz3 G;obtain⟨V2,aE,y,I,ai⟩:=jb3 (.iface S2 T) (.int .i64 kind) (.int .i64 t) G;have i:Bw w V2:=ai _ _ (f.out.trans (B.mono f.out.size)) (Nat.le_succ _);have k:=(I.2 w.heap.size (by omega)).trans (known B (Nat.le_refl _) aw.out);have D:=(I.2 (w.heap.size+2) (by omega)).trans (known B (Nat.le_refl _) ag.out);have m:=(I.2 (w.heap.size+2+1) (by omega)).trans (known B (Nat.le_refl _) af.out);have s:BdAt V2 (.iface S1 J) D1:=BdAt.set_work (av.out.go B) G (by simp) (by simp) (by simp) I;have u:BdAt V2 (.iface S2 T) D2:=BdAt.set_work ad G (by simp) (by simp) (by simp) I;obtain⟨x0,x1,x2⟩:=cl3 k;obtain⟨y0,y1,y2⟩:=cl3 y;obtain⟨z0,z1,z2⟩:=cl3 D;obtain⟨h0,h1,h2⟩:=cz3 D;obtain⟨V3,aF,am,O,aj⟩:=jb3 (b:=w.heap.size+1+1) (.iface S1 J) (.int .i64 kind) (.int .i64 t) D;have C:=(O.2 (w.heap.size+2+1) (by omega)).trans m;have ar:=(O.2 (w.heap.size+1) (by omega)).trans y;obtain⟨n0,n1,n2⟩:=cl3 ar;obtain⟨l0,l1,l2⟩:=cl3 C;obtain⟨m0,m1,m2⟩:=cz3 C;obtain⟨V4,aG,an,Z,ak⟩:=jb3 (b:=w.heap.size+1+1+1) (.iface S2 T) (.int .i64 kind) (.int .i64 t) C;have o:V4.drew.heap[w.heap.size+1+1]? = _:=(Z.2 (w.heap.size+1+1) (by omega)).trans am;have j:V4.drew.heap[w.heap.size+1+1+1]? = _:=an
 obtain⟨j0,j1,j2⟩:=cl3 o;obtain⟨k0,k1,k2⟩:=cl3 j
 have HE:Hid (BdAt V4.drew (.iface S1 J) D1/\BdAt V4.drew (.iface S2 T) D2/\Bw w V4.drew):=by
  refine⟨?_,?_,(ak _ _ (aj _ _ i (by omega)) (by omega)).drew⟩
  ·exact (BdAt.set_work (BdAt.set_work s D (by simp) (by simp) (by simp) O) C (by simp) (by simp) (by simp) Z).go (Below.refl _ _).drew
  ·exact (BdAt.set_work (BdAt.set_work u D (by simp) (by simp) (by simp) O) C (by simp) (by simp) (by simp) Z).go (Below.refl _ _).drew
 clear ar y I ai k D m ad s u i G B am O aj C an Z ak o j;go_wp2_with fail;go_region;go_wp2_with fail;exact bodyPost_ret (v:=.tuple #[.agg #[.iface S1 J,.int .i64 kind,.int .i64 t],.agg #[.iface S2 T,.int .i64 kind,.int .i64 t],.nilIface]) (by simp[results,Tryz.f137,go_sem,j0,j1,j2,k0,k1,k2]) rfl ⟨_,_,rfl,HE.out.1,HE.out.2.1,HE.out.2.2⟩
theorem jmK (v1 v2:Value) (Q R B:Bd) (kind D E u:Nat) (w:World) (c:BdAt w v1 Q) (d:BdAt w v2 R) (O:Q.Ok kind D) (P:R.Ok kind E) (hu:max D E=u) (T:u<=jdQ kind) (he:(jbL (D,Q) u).2.merge (jbL (E,R) u).2=some B) :
  Calls Tryz.prog 92 #[.agg #[v1,.int .i64 kind,.int .i64 D],.agg #[v2,.int .i64 kind,.int .i64 E]] w fun e w'=>∃ v,e=.returned (.tuple #[.agg #[v,.int .i64 kind,.int .i64 u],.nilIface])/\BdAt w' v B/\Bw w w':=by
 obtain⟨T1,n,rfl⟩:=jaD c;obtain⟨T2,o,rfl⟩:=jaD d
 have o1:(jbL (D,Q) u).2.Ok kind u:=by
  have h:=jcv u T _ (D,Q) rfl O;have e:(jbL (D,Q) u).1=u:=h.2.trans (by show max D u=u;omega);have q:=h.1;rwa [e] at q
 have o2:(jbL (E,R) u).2.Ok kind u:=by
  have h:=jcv u T _ (E,R) rfl P;have e:(jbL (E,R) u).1=u:=h.2.trans (by show max E u=u;omega);have q:=h.1;rwa [e] at q
 have I:Hid (∀ W,BdAt W (.iface T1 n) Q->BdAt W (.iface T2 o) R->Calls Tryz.prog 137 #[.agg #[.iface T1 n,.int .i64 kind,.int .i64 D],.agg #[.iface T2 o,.int .i64 kind,.int .i64 E],.int .i64 u] W fun e w'=>∃ u1 u2,e=.returned (.tuple #[.agg #[u1,.int .i64 kind,.int .i64 u],.agg #[u2,.int .i64 kind,.int .i64 u],.nilIface])/\BdAt w' u1 (jbL (D,Q) u).2/\BdAt w' u2 (jbL (E,R) u).2/\Bw W w'):=fun W q h2=>jjC _ _ Q R kind D E u W q h2 O P (by omega) (by omega) T
 generalize (jbL (D,Q) u).2=D1 at I o1 he;generalize (jbL (E,R) u).2=D2 at I o2 he;obtain⟨W0,aB,Z,a,am,S,aC⟩:=jbF w #[.iface T1 n,.int .i64 kind,.int .i64 D] 117 #[.iface T2 o,.int .i64 kind,.int .i64 E] 117 #[.nilIface,.int .i64 0,.int .i64 0] 117;obtain⟨c0,c1,c2⟩:=cl3 Z;obtain⟨d0,d1,d2⟩:=cl3 a;have I:=Lib.hid (I.out W0 (c.go S) (d.go S));have ax:max (D:Int) (E:Int)=(u:Int):=by omega
 have ar:=Lib.hid Z;have au:=Lib.hid a;have av:=Lib.hid am;have r:=Lib.hid S;have HO:Hid (D1.Ok kind u/\D2.Ok kind u):=⟨o1,o2⟩;have HM:=Lib.hid he;clear Z a am S c d O P hu T he o1 o2;go_enter Tryz.func92,Tryz.ntmps92;go_wp2_with fail;refine I.out.mono ?_;rintro e w2 ⟨u1,u2,rfl,j,k,A⟩;obtain⟨S1,ao,f,rfl,hm,aw,hc⟩:=jey j HO.out.1;obtain⟨S2,m,rfl⟩:=jaD k;have G:=known A (Nat.le_refl _) ar.out;have t:=known A (Nat.le_refl _) au.out;have af:=known A (Nat.le_refl _) av.out;obtain⟨p0,p1,p2⟩:=cl3 G;obtain⟨g0,g1,g2⟩:=cz3 G;obtain⟨V1,ay,ai,L,ab⟩:=jb3 (.iface S1 ao) (.int .i64 kind) (.int .i64 u) G;have H:=(L.2 (w.heap.size+1) (by omega)).trans t;have ae:=(L.2 (w.heap.size+2) (by omega)).trans af;obtain⟨q0,q1,q2⟩:=cl3 H;obtain⟨h0,q,h2⟩:=cz3 H;obtain⟨V2,az,aj,M,ac⟩:=jb3 (.iface S2 m) (.int .i64 kind) (.int .i64 u) H;have X:=(M.2 w.heap.size (by omega)).trans ai;have ag:=(M.2 (w.heap.size+2) (by omega)).trans ae;have z:Bw w V2:=ac _ _ (ab _ _ (r.out.trans (A.mono r.out.size)) (Nat.le_refl _)) (Nat.le_succ _);have k1:BdAt V2 (.iface S1 ao) D1:=BdAt.set_work (BdAt.set_work j G (by simp) (by simp) (by simp) L) H (by simp) (by simp) (by simp) M;have k2:BdAt V2 (.iface S2 m) D2:=BdAt.set_work (BdAt.set_work k G (by simp) (by simp) (by simp) L) H (by simp) (by simp) (by simp) M;have hC:=hc V2 (.iface S2 m) D2 k1 k2 HO.out.2;rw[HM.out] at hC;have HC:=Lib.hid hC;obtain⟨x0,x1,x2⟩:=cl3 X;obtain⟨y0,y1,y2⟩:=cl3 aj;have ap:=Lib.hid X;have aq:=Lib.hid ag;have s:=Lib.hid z
 clear hc hC G t af ai L ab H ae aj M ac X ag z k1 k2 j k A;go_wp2_with fail;refine HC.out.mono ?_;rintro e w3 ⟨g,v3,rfl,l⟩;obtain⟨V,C,rfl⟩:=jaD l;have HF:=Lib.hid (jiT w3);go_wp2_with fail;refine HF.out.mono ?_;rintro e w4 ⟨rfl,i⟩;have F:=g.trans (i.mono g.size);have J:=known F (Nat.le_refl _) ap.out;have ah:=known F (Nat.le_refl _) aq.out;have x:=s.out.trans (F.mono s.out.size);obtain⟨r0,r1,r2⟩:=cl3 J;obtain⟨s0,s1,s2⟩:=cz3 J;obtain⟨U,hU⟩:∃ U,w4.setCell ⟨w.heap.size,0,none⟩ (.iface V C)=U:=⟨_,rfl⟩;have al:U.heap[w.heap.size]? = some (.cells #[.iface V C,.int .i64 kind,.int .i64 u] 117 (0,0)):=by rw[<- hU];exact hSk J (.iface V C)
 have Y:OnlyAt w.heap.size w4 U:=by rw[<- hU];exact (OnlyAt.refl _ _).set _ _
 have y:Bw w U:=by rw[<- hU];exact x.setCell (p:=⟨w.heap.size,0,none⟩) (Nat.le_refl _) _
 have N:=(Y.2 (w.heap.size+2) (by omega)).trans ah;have an:BdAt U (.iface V C) B:=BdAt.set_work (l.go i) J (by simp) (by simp) (by simp) Y;obtain⟨l0,l1,l2⟩:=cl3 al;obtain⟨n0,n1,n2⟩:=cl3 N;obtain⟨z0,z1,z2⟩:=cz3 N;obtain⟨V5,aA,ak,aa,ad⟩:=jb3 (b:=w.heap.size+1+1) (.iface V C) (.int .i64 kind) (.int .i64 u) N;obtain⟨k0,k1,k2⟩:=cl3 ak;have HE:Hid (BdAt V5 (.iface V C) B/\Bw w V5):=⟨BdAt.set_work an N (by simp) (by simp) (by simp) aa,ad _ _ y (by omega)⟩;clear hm aw J ah x F g i l al Y y N an ak aa ad;go_wp2_with fail;exact bodyPost_ret (v:=.tuple #[.agg #[.iface V C,.int .i64 kind,.int .i64 u],.nilIface]) (by simp[results,Tryz.f92,go_sem,k0,k1,k2]) rfl ⟨_,rfl,HE.out.1,HE.out.2⟩
theorem jmJ (v1 v2:Value) (M N B:Bd) (kind E F u:Nat) (w:World) (ad:BdAt w v1 M) (ae:BdAt w v2 N) (X:M.Ok kind E) (Y:N.Ok kind F) (hu:max E F=u) (i:u<=jdQ kind) (m:u<jdQ kind) (hg:GT w) (he:(jbL (E,M) u).2.merge (jbL (F,N) u).2=none) (g:(jbL (E,M) u).2.low.merge (jbL (F,N) u).2.low=some B) :
  Calls Tryz.prog 92 #[.agg #[v1,.int .i64 kind,.int .i64 E],.agg #[v2,.int .i64 kind,.int .i64 F]] w fun e w'=>∃ v,e=.returned (.tuple #[.agg #[v,.int .i64 kind,.int .i64 ((u:Int)+1)],.nilIface])/\BdAt w' v B/\Bw w w':=by
 obtain⟨T1,am,rfl⟩:=jaD ad;obtain⟨T2,an,rfl⟩:=jaD ae
 have o1:(jbL (E,M) u).2.Ok kind u:=by
  have h:=jcv u i _ (E,M) rfl X;have e:(jbL (E,M) u).1=u:=h.2.trans (by show max E u=u;omega);have h1:=h.1;rwa [e] at h1
 have o2:(jbL (F,N) u).2.Ok kind u:=by
  have h:=jcv u i _ (F,N) rfl Y;have e:(jbL (F,N) u).1=u:=h.2.trans (by show max F u=u;omega);have h1:=h.1;rwa [e] at h1
 have O:Hid (∀ W,BdAt W (.iface T1 am) M->BdAt W (.iface T2 an) N->Calls Tryz.prog 137 #[.agg #[.iface T1 am,.int .i64 kind,.int .i64 E],.agg #[.iface T2 an,.int .i64 kind,.int .i64 F],.int .i64 u] W fun e w'=>∃ u1 u2,e=.returned (.tuple #[.agg #[u1,.int .i64 kind,.int .i64 u],.agg #[u2,.int .i64 kind,.int .i64 u],.nilIface])/\BdAt w' u1 (jbL (E,M) u).2/\BdAt w' u2 (jbL (F,N) u).2/\Bw W w'):=fun W h1 h2=>jjC _ _ M N kind E F u W h1 h2 X Y (by omega) (by omega) i
 generalize (jbL (E,M) u).2=D1 at O o1 he g;generalize (jbL (F,N) u).2=D2 at O o2 he g;obtain⟨W0,bt,aa,ab,aQ,a,bu⟩:=jbF w #[.iface T1 am,.int .i64 kind,.int .i64 E] 117 #[.iface T2 an,.int .i64 kind,.int .i64 F] 117 #[.nilIface,.int .i64 0,.int .i64 0] 117;obtain⟨c0,c1,c2⟩:=cl3 aa;obtain⟨d0,d1,d2⟩:=cl3 ab;have O:=Lib.hid (O.out W0 (ad.go a) (ae.go a));have bn:max (E:Int) (F:Int)=(u:Int):=by omega
 have bd:=Lib.hid aa;have be:=Lib.hid ab;have bg:=Lib.hid aQ;have ao:=Lib.hid a;have HO:Hid (D1.Ok kind u/\D2.Ok kind u):=⟨o1,o2⟩;have HM:=Lib.hid he;have a9:=Lib.hid g;have a6:=Lib.hid hg;have n:Hid (u<jdQ kind):=m;have bv:u<=4:=by have:jdQ kind<=4:=(by unfold jdQ;split<;>omega);omega
 clear aa ab aQ a ad ae X Y hu i he g hg m o1 o2;go_enter Tryz.func92,Tryz.ntmps92;go_wp2_with fail;refine O.out.mono ?_;rintro e w2 ⟨u1,u2,rfl,af,ag,C⟩;obtain⟨S1,ak,f,rfl,hm,bj,hc⟩:=jey af HO.out.1;obtain⟨S2,j,rfl⟩:=jaD ag;have H:=known C (Nat.le_refl _) bd.out;have aq:=known C (Nat.le_refl _) be.out;have aE:=known C (Nat.le_refl _) bg.out;obtain⟨p0,p1,p2⟩:=cl3 H;obtain⟨g0,g1,g2⟩:=cz3 H;obtain⟨V1,bo,aL,Q,ay⟩:=jb3 (.iface S1 ak) (.int .i64 kind) (.int .i64 u) H;have J:=(Q.2 (w.heap.size+1) (by omega)).trans aq;have aD:=(Q.2 (w.heap.size+2) (by omega)).trans aE;obtain⟨q0,q1,q2⟩:=cl3 J;obtain⟨h0,h1,h2⟩:=cz3 J;obtain⟨V2,bp,z,R,az⟩:=jb3 (.iface S2 j) (.int .i64 kind) (.int .i64 u) J;have q:=(R.2 w.heap.size (by omega)).trans aL;have aF:=(R.2 (w.heap.size+2) (by omega)).trans aD;have aw:Bw w V2:=az _ _ (ay _ _ (ao.out.trans (C.mono ao.out.size)) (Nat.le_refl _)) (Nat.le_succ _);have k1:BdAt V2 (.iface S1 ak) D1:=BdAt.set_work (BdAt.set_work af H (by simp) (by simp) (by simp) Q) J (by simp) (by simp) (by simp) R;have k2:BdAt V2 (.iface S2 j) D2:=BdAt.set_work (BdAt.set_work ag H (by simp) (by simp) (by simp) Q) J (by simp) (by simp) (by simp) R;have hC:=hc V2 (.iface S2 j) D2 k1 k2 HO.out.2;rw[HM.out] at hC;have HC:=Lib.hid hC;obtain⟨x0,x1,x2⟩:=cl3 q;obtain⟨y0,y1,y2⟩:=cl3 z;have aY:=Lib.hid q;have bh:=Lib.hid z;have ba:=Lib.hid aF;have a7:=Lib.hid k1;have a8:=Lib.hid k2;have Z:=Lib.hid aw;clear hc hC H aq aE aL Q ay J aD z R az q aF aw k1 k2 af ag C;go_wp2_with fail
 refine HC.out.mono ?_;rintro e w3 ⟨c,v3,rfl,aW⟩;have hF:CR 120 #[v3] w3 (.bool true):=jgE v3 60 w3 (a6.out.go (Z.out.trans (c.mono Z.out.size))) aW;have HF:=Lib.hid hF;obtain⟨bf,rfl,-⟩:=aW;clear hF hm bj;go_wp2_with fail;refine HF.out.mono ?_;rintro e w4 ⟨rfl,aS⟩;have A:=c.trans (aS.mono c.size);have r:=known A (Nat.le_refl _) aY.out;have ac:=known A (Nat.le_refl _) bh.out;have aG:=known A (Nat.le_refl _) ba.out;have ar:=Z.out.trans (A.mono Z.out.size);have x:=jjC (.iface S1 ak) (.iface S2 j) D1 D2 kind u u (u+1) w4 (a7.out.go A) (a8.out.go A) HO.out.1 HO.out.2 (Nat.le_succ _) (Nat.le_succ _) n.out;rw[show (jbL (u,D1) (u+1)).2=D1.low by unfold jbL;rw[show u+1-(u,D1).1=1 by show u+1-u=1;omega];rfl,show (jbL (u,D2) (u+1)).2=D2.low by unfold jbL;rw[show u+1-(u,D2).1=1 by show u+1-u=1;omega];rfl,Int.natCast_add] at x;have a5:=Lib.hid x;obtain⟨r0,r1,r2⟩:=cl3 r;obtain⟨s0,s1,s2⟩:=cl3 ac;have bl:wrap64 ((u:Int)+1)=(u:Int)+1:=by unfold wrap64;omega
 have bm:IntKind.i64.wrap ((u:Int)+1)=(u:Int)+1:=IntWalk.i64_in _ (by omega);have aZ:=Lib.hid r;have bi:=Lib.hid ac;have bb:=Lib.hid aG;have ap:=Lib.hid ar;clear r ac aG ar A c aS x;go_wp2_with fail;refine a5.out.mono ?_;rintro e w5 ⟨u3,u4,rfl,ah,ai,D⟩;obtain⟨S3,aX,f3,rfl,bk,aV,aU⟩:=jey ah (jb5 HO.out.1 n.out);obtain⟨S4,al,rfl⟩:=jaD ai;have I:=known D (Nat.le_refl _) aZ.out;have aR:=known D (Nat.le_refl _) bi.out;have aH:=known D (Nat.le_refl _) bb.out;obtain⟨a0,a1,a2⟩:=cl3 I;obtain⟨b0,b1,b2⟩:=cz3 I;obtain⟨V3,bq,aM,S,aA⟩:=jb3 (.iface S3 aX) (.int .i64 kind) (.int .i64 ((u:Int)+1)) I;have L:=(S.2 (w.heap.size+1) (by omega)).trans aR;have aI:=(S.2 (w.heap.size+2) (by omega)).trans aH;obtain⟨m0,m1,m2⟩:=cl3 L;obtain⟨o0,o1,o2⟩:=cz3 L;obtain⟨V4,br,aN,T,aB⟩:=jb3 (.iface S4 al) (.int .i64 kind) (.int .i64 ((u:Int)+1)) L;have s:=(T.2 w.heap.size (by omega)).trans aM;have aJ:=(T.2 (w.heap.size+2) (by omega)).trans aI;have l:Bw w V4:=aB _ _ (aA _ _ (ap.out.trans (D.mono ap.out.size)) (Nat.le_refl _)) (Nat.le_succ _);have k3:BdAt V4 (.iface S3 aX) D1.low:=BdAt.set_work (BdAt.set_work ah I (by simp) (by simp) (by simp) S) L (by simp) (by simp) (by simp) T;have k4:BdAt V4 (.iface S4 al) D2.low:=BdAt.set_work (BdAt.set_work ai I (by simp) (by simp) (by simp) S) L (by simp) (by simp) (by simp) T;have t:=aU V4 (.iface S4 al) D2.low k3 k4 (jb5 HO.out.2 n.out);rw[a9.out] at t;have a4:=Lib.hid t;obtain⟨t0,t1,t2⟩:=cl3 s;obtain⟨v0,v1,v2⟩:=cl3 aN;have a3:=Lib.hid s;have bc:=Lib.hid aJ
 have k:=Lib.hid l;clear aU t I aR aH aM S aA L aI aN T aB s aJ l k3 k4 ah ai D;go_wp2_with fail;refine a4.out.mono ?_;rintro e w6 ⟨d,v6,rfl,aj⟩;obtain⟨o,G,rfl⟩:=jaD aj;have P:=known d (Nat.le_refl _) a3.out;have aK:=known d (Nat.le_refl _) bc.out;have au:=k.out.trans (d.mono k.out.size);obtain⟨i0,i1,i2⟩:=cl3 P;obtain⟨j0,j1,j2⟩:=cz3 P;obtain⟨U,hU⟩:∃ U,w6.setCell ⟨w.heap.size,0,none⟩ (.iface o G)=U:=⟨_,rfl⟩;have aP:U.heap[w.heap.size]? = some (.cells #[.iface o G,.int .i64 kind,.int .i64 ((u:Int)+1)] 117 (0,0)):=by rw[<- hU];exact hSk P (.iface o G)
 have y:OnlyAt w.heap.size w6 U:=by rw[<- hU];exact (OnlyAt.refl _ _).set _ _
 have av:Bw w U:=by rw[<- hU];exact au.setCell (p:=⟨w.heap.size,0,none⟩) (Nat.le_refl _) _
 have V:=(y.2 (w.heap.size+2) (by omega)).trans aK;have aT:BdAt U (.iface o G) B:=BdAt.set_work aj P (by simp) (by simp) (by simp) y;obtain⟨l0,l1,l2⟩:=cl3 aP;obtain⟨n0,n1,n2⟩:=cl3 V;obtain⟨z0,z1,z2⟩:=cz3 V;obtain⟨V5,bs,aO,ax,aC⟩:=jb3 (b:=w.heap.size+1+1) (.iface o G) (.int .i64 kind) (.int .i64 ((u:Int)+1)) V;obtain⟨k0,k1,k2⟩:=cl3 aO;have HE:Hid (BdAt V5 (.iface o G) B/\Bw w V5):=⟨BdAt.set_work aT V (by simp) (by simp) (by simp) ax,aC _ _ av (by omega)⟩;clear bk aV P aK au d aj aP y av V aT aO ax aC;go_wp2_with fail;exact bodyPost_ret (v:=.tuple #[.agg #[.iface o G,.int .i64 kind,.int .i64 ((u:Int)+1)],.nilIface]) (by simp[results,Tryz.f92,go_sem,k0,k1,k2]) rfl ⟨_,rfl,HE.out.1,HE.out.2⟩
theorem jfe {k L:Nat} {x y:Bd} (A:x.Ok k L) (B:y.Ok k L) (C:x.merge y=none):L<jdQ k/\∃ z,x.low.merge y.low=some z:=by
 cases x with
 | num l =>
  cases y with
  | num m =>
   obtain⟨rfl,rfl,-⟩:=A;exact⟨by decide,_,rfl⟩
  | reg b r=>exact absurd B.2.1 (by have:=A.2.1;omega)
  | cnt c m=>exact absurd B.1 (by have:=A.1;omega)
  | bkt f m=>exact absurd B.1 (by have:=A.1;omega)
 | reg b r =>
  cases y with
  | num m=>exact absurd A.2.1 (by have:=B.2.1;omega)
  | reg b' s=>cases C
  | cnt c m=>exact absurd B.1 (by have:=A.1;omega)
  | bkt f m=>exact absurd B.1 (by have:=A.1;omega)
 | cnt c l =>
  cases y with
  | num m=>exact absurd B.1 (by have:=A.1;omega)
  | reg b' s=>exact absurd B.1 (by have:=A.1;omega)
  | cnt c m=>cases C
  | bkt f m=>exact absurd B.1 (by have:=A.1;omega)
 | bkt f l =>
  cases y with
  | num m=>exact absurd B.1 (by have:=A.1;omega)
  | reg b' s=>exact absurd B.1 (by have:=A.1;omega)
  | cnt c m=>exact absurd B.1 (by have:=A.1;omega)
  | bkt f m=>cases C
theorem jpc (v1 v2:Value) (F G:Bd) (kind A C:Nat) (w:World) (I:BdAt w v1 F) (J:BdAt w v2 G) (D:F.Ok kind A) (E:G.Ok kind C) (Q:GT w) :
  Calls Tryz.prog 92 #[.agg #[v1,.int .i64 kind,.int .i64 A],.agg #[v2,.int .i64 kind,.int .i64 C]] w fun e w'=>∃ v,e=.returned (.tuple #[.agg #[v,.int .i64 kind,.int .i64 ((jbz (A,F) (C,G)).1:Nat)],.nilIface])/\BdAt w' v (jbz (A,F) (C,G)).2/\Bw w w':=by
 obtain⟨u,M⟩:∃ u,max A C=u:=⟨_,rfl⟩;have H:u<=jdQ kind:=by have:=jlz D;have:=jlz E;omega
 have R:(jbL (A,F) u).2.Ok kind u:=by
  have h:=jcv u H _ (A,F) rfl D;have e:(jbL (A,F) u).1=u:=h.2.trans (by show max A u=u;omega);have N:=h.1;rwa [e] at N
 have S:(jbL (C,G) u).2.Ok kind u:=by
  have h:=jcv u H _ (C,G) rfl E;have e:(jbL (C,G) u).1=u:=h.2.trans (by show max C u=u;omega);have N:=h.1;rwa [e] at N
 cases L:(jbL (A,F) u).2.merge (jbL (C,G) u).2 with
 | some B =>
  have e:jbz (A,F) (C,G)=(u,B):=by
   unfold jbz;simp only[M,L]
  rw[e];exact jmK v1 v2 F G B kind A C u w I J D E M H L
 | none =>
  obtain⟨O,z,P⟩:=jfe R S L
  have e:jbz (A,F) (C,G)=(u+1,z):=by
   unfold jbz;simp only[M,L,P,Option.getD_some]
  rw[e];exact jmJ v1 v2 F G z kind A C u w I J D E M H O Q L P
end Go.Proofs.YtnegciklhanmbaaGreatDoor
