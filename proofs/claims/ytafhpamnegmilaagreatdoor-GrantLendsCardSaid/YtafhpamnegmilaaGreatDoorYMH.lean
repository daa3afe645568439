/- Package ladder: the four bodies' merge. Printed by gen_mg.py. Package ladder: a body's merge through the interface; even. -/
import Derived.Test.YtafhpamnegmilaaGreatDoorYMA
import Derived.Test.YtafhpamnegmilaaGreatDoorYMD
set_option maxHeartbeats 2000000
set_option maxRecDepth 100000
namespace Go.Proofs.YtafhpamnegmilaaGreatDoor
open Go Go.RowKit Go.Shelf
theorem jvW (l m:List Int) (a:Option Addr) (len cap:Nat) (T:Option Addr) (C B:Nat) (z:List Int) (w:World) (hS:SlC jaG 1 w.heap.size w a len cap l) (hM:SlC jaG 1 w.heap.size w T C B m) (hr:jaH l=true) (x:jaH m=true) (he:jan l m=some z) :
  Calls Tryz.prog 234 #[.agg #[.slice a len cap],.iface 234 (.agg #[.slice T C B])] w (jbi (some (Bd.num z)) w):=by
 obtain⟨L,am,k,D,ag⟩:=jaf w #[.slice a len cap] 234;have v:L.drew.heap[w.heap.size]? = some (.cells #[.slice a len cap] 234 (0,0)):=k;have c0:L.drew.cell? ⟨w.heap.size,0,none⟩=some (.slice a len cap):=cCc v 0
 have HA:Hid (∀ W,Bw L W->Calls Tryz.prog 237 #[.agg #[.slice a len cap],.agg #[.slice T C B]] W fun e w'=>∃ E A,e=.returned (.tuple #[.agg #[.slice E z.length A],.int .i64 0])/\BdAt w' (.iface 234 (.agg #[.slice E z.length A])) (Bd.num z)/\Bw W w'):=by
  intro W y;have h:=jh2 l m a len cap T C B W ((hS.1.below (D.trans (y.mono D.size))).mono (D.trans (y.mono D.size)).size) (fun e=>by have:=hS.2.2.2.1 e;have:=hS.2.1;omega) ((hM.1.below (D.trans (y.mono D.size))).mono (D.trans (y.mono D.size)).size) hr x;rw[he] at h;exact h.mono fun e w' ⟨hb,E,A,e1,ae,_⟩=>⟨E,A,e1,⟨_,_,_,rfl,ae⟩,hb⟩
 have al:∀ w,(Instr.typeAssert (.iface 234 (.agg #[.slice T C B])) 114 234 false).run Tryz.prog w=.ok (.agg #[.slice T C B]) w:=fun w=>by kernel_rfl
 have ak:∀ w,(Instr.field 234 (.agg #[.slice T C B]) 0).run Tryz.prog w=.ok (.agg #[.slice T C B]) w:=fun w=>by kernel_rfl
 obtain⟨Wa,g,t,q,ai⟩:=jaf L #[.slice none 0 0] 32;obtain⟨b,r,j,c⟩:∃ b,(L.alloc (.cells #[.slice none 0 0] 32)).drew=b/\b.heap[L.heap.size]? = some (.cells #[.slice none 0 0] 32 (0,0))/\Bw L b:=⟨_,rfl,by rw[g];exact t,by rw[g];exact q.drew⟩;have U:b.heap[w.heap.size]? = some (.cells #[.slice a len cap] 234 (0,0)):=jab c (Nat.le_refl _) k;rw[ag] at j;have k0:b.cell? ⟨w.heap.size,0,none⟩=some (.slice a len cap):=cCc U 0;have n:=Lib.hid r;have ad:=Lib.hid j;have S:=Lib.hid D;have Z:=Lib.hid c;have ab:=Lib.hid (HA.out b Z.out);have aa:=Lib.hid (HA.out L.drew (Below.refl _ L).drew);have aj:w.heap.size+1<=L.heap.size:=by omega
 obtain⟨P,hP⟩:∃ P,jbi (some (Bd.num z)) w=P:=⟨_,rfl⟩;have HP:=Lib.hid hP;rw[hP];clear hP HA k D v r j U c g t q ai hS hM hr x he;go_enter Tryz.func234,Tryz.ntmps234;go_wp2_with fail;refine wp_region_any (by kernel_rfl) ?_;change wpAny _ _ _ _ _ _ _ (World.drew _)
 ·
  refine ta 0 ?_;refine ta 2 ?_;refine ta 3 ?_;refine ta 4 ?_;refine rd [1,9] (.cons rfl (fun K hK=>?_) (.cons rfl (fun K hK=>?_) .nil))
  all_goals go_simp
  all_goals first
   |
    rw[n.out];refine hK _ _ ?_;clear hK K
   | (refine hK _ _ ?_;clear hK K)
  all_goals first
   | (refine rq [5,9] (.cons rfl (fun K hK=>?_) (.cons rfl (fun K hK=>?_) .nil)))
   | (refine rq [1] (.cons rfl (fun K hK=>?_) .nil))
  all_goals go_simp
  all_goals first
   |
    refine aa.out.mono ?_;rintro e J ⟨E,A,rfl,I,G⟩;obtain⟨o,s,Q,d,ah⟩:=jaf J #[.slice none 0 0] 32;have Y:=G.trans (d.mono G.size);have af:L.heap.size<=J.heap.size:=G.size;have F:Bw w o:=S.out.trans (((Below.refl _ L).drew.trans Y).mono S.out.size);have H:w.heap.size<=J.heap.size:=by omega
    replace I:=I.go d;obtain⟨V,f⟩:∃ V,(o.setCell ⟨J.heap.size,0,none⟩ (.slice E z.length A))=V:=⟨_,rfl⟩;have R:V.heap[J.heap.size]? = some (.cells #[.slice E z.length A] 32 (0,0)):=by rw[<- f];exact (hSk Q (.slice E z.length A))
    have N:OnlyAt (J.heap.size) o V:=by rw[<- f];exact ((OnlyAt.refl _ _).set _ _)
    have x0:o.cell? ⟨J.heap.size,0,none⟩=some (.slice none 0 0):=cCc Q 0;have f0:o.frozen? ⟨J.heap.size,0,none⟩=false:=cFz Q 0;have y0:V.cell? ⟨J.heap.size,0,none⟩=some (.slice E z.length A):=cCc R 0;have M:Bw w V:=by rw[<- f];exact (F.setCell (p:=⟨J.heap.size,0,none⟩) H _)
    have HE:Hid (BdAt V (.iface 234 (.agg #[.slice E z.length A])) (Bd.num z)/\Bw w V):=⟨BdAt.apart I Q (fun i u h=>by rcases i with _ | i<;>simp at h) N,M⟩;have HT:=Lib.hid (jc7 (.iface 234 (.agg #[.slice E z.length A])) V);clear R N M Q I;have ac:=Lib.hid s;clear G Y F af H d ah s;refine hK _ _ ?_;clear hK K
   |
    rw[n.out];refine hK _ _ ?_;clear hK K
   | (refine hK _ _ ?_;clear hK K)
  all_goals first
   | (refine taq 6 ?_;refine taq 7 ?_;refine taq 8 ?_;refine rq [9] (.cons rfl (fun K hK=>?_) .nil))
   | (refine rq [5] (.cons rfl (fun K hK=>?_) .nil))
  all_goals go_simp
  all_goals first
   |
    rw[ac.out];refine hK _ _ ?_;clear hK K
   |
    refine ab.out.mono ?_;rintro e J ⟨E,A,rfl,I,G⟩;have O:=jab G (Nat.le_refl _) ad.out;have X:=Z.out.trans (G.mono Z.out.size);have H:w.heap.size<=w.heap.size+1:=Nat.le_succ _;have F:=S.out.trans (X.mono S.out.size);obtain⟨V,f⟩:∃ V,(J.setCell ⟨w.heap.size+1,0,none⟩ (.slice E z.length A))=V:=⟨_,rfl⟩;have R:V.heap[w.heap.size+1]? = some (.cells #[.slice E z.length A] 32 (0,0)):=by rw[<- f];exact (hSk O (.slice E z.length A))
    have N:OnlyAt (w.heap.size+1) J V:=by rw[<- f];exact ((OnlyAt.refl _ _).set _ _)
    have x0:J.cell? ⟨w.heap.size+1,0,none⟩=some (.slice none 0 0):=cCc O 0;have f0:J.frozen? ⟨w.heap.size+1,0,none⟩=false:=cFz O 0;have y0:V.cell? ⟨w.heap.size+1,0,none⟩=some (.slice E z.length A):=cCc R 0;have M:Bw w V:=by rw[<- f];exact (F.setCell (p:=⟨w.heap.size+1,0,none⟩) H _)
    have HE:Hid (BdAt V (.iface 234 (.agg #[.slice E z.length A])) (Bd.num z)/\Bw w V):=⟨BdAt.apart I O (fun i u h=>by rcases i with _ | i<;>simp at h) N,M⟩;have HT:=Lib.hid (jc7 (.iface 234 (.agg #[.slice E z.length A])) V);clear R N M O I;clear G X F H;refine hK _ _ ?_;clear hK K
  all_goals first
   | (refine rq [10] (.cons rfl (fun K hK=>?_) .nil))
   | (refine taq 6 ?_;refine taq 7 ?_;refine taq 8 ?_;refine rq [10] (.cons rfl (fun K hK=>?_) .nil))
  all_goals go_simp
  all_goals (refine hK _ _ ?_;clear hK K)
  all_goals (refine ta 11 ?_;refine wpAny_done (by kernel_rfl) ?_ _)
  all_goals
   go_wp2_with fail;refine HT.out.mono ?_;rintro e w3 ⟨rfl,rfl⟩;go_wp2_with fail;rw[<- HP.out];exact⟨HE.out.2,_,rfl,HE.out.1⟩
theorem juh (l m:List Int) (a:Option Addr) (len cap:Nat) (O:Option Addr) (B A:Nat) (w:World) (t:SlC jaG 1 w.heap.size w a len cap l) (hM:SlC jaG 1 w.heap.size w O B A m) (hr:jaH l=true) (r:jaH m=true) (he:jan l m=none) :
  Calls Tryz.prog 234 #[.agg #[.slice a len cap],.iface 234 (.agg #[.slice O B A])] w (jbi (none:Option Bd) w):=by
 obtain⟨H,ai,d,C,ac⟩:=jaf w #[.slice a len cap] 234;have q:H.drew.heap[w.heap.size]? = some (.cells #[.slice a len cap] 234 (0,0)):=d;have c0:H.drew.cell? ⟨w.heap.size,0,none⟩=some (.slice a len cap):=cCc q 0
 have u:Hid (∀ W,Bw H W->CR 237 #[.agg #[.slice a len cap],.agg #[.slice O B A]] W (.tuple #[.agg #[.slice none 0 0],.int .i64 60])):=by
  intro W s;have h:=jh2 l m a len cap O B A W ((t.1.below (C.trans (s.mono C.size))).mono (C.trans (s.mono C.size)).size) (fun e=>by have:=t.2.2.2.1 e;have:=t.2.1;omega) ((hM.1.below (C.trans (s.mono C.size))).mono (C.trans (s.mono C.size)).size) hr r;rw[he] at h;exact h.mono fun e w' ⟨hb,e1⟩=>⟨e1,hb⟩
 have ah:∀ w,(Instr.typeAssert (.iface 234 (.agg #[.slice O B A])) 114 234 false).run Tryz.prog w=.ok (.agg #[.slice O B A]) w:=fun w=>by kernel_rfl
 have ag:∀ w,(Instr.field 234 (.agg #[.slice O B A]) 0).run Tryz.prog w=.ok (.agg #[.slice O B A]) w:=fun w=>by kernel_rfl
 obtain⟨Wa,b,o,j,ae⟩:=jaf H #[.slice none 0 0] 32;obtain⟨U,k,c,X⟩:∃ U,(H.alloc (.cells #[.slice none 0 0] 32)).drew=U/\U.heap[H.heap.size]? = some (.cells #[.slice none 0 0] 32 (0,0))/\Bw H U:=⟨_,rfl,by rw[b];exact o,by rw[b];exact j.drew⟩;have Q:U.heap[w.heap.size]? = some (.cells #[.slice a len cap] 234 (0,0)):=jab X (Nat.le_refl _) d;rw[ac] at c;have k0:U.cell? ⟨w.heap.size,0,none⟩=some (.slice a len cap):=cCc Q 0;have f:=Lib.hid k;have aa:=Lib.hid c;have L:=Lib.hid C;have T:=Lib.hid X;have x:=Lib.hid (u.out U T.out);have v:=Lib.hid (u.out H.drew (Below.refl _ H).drew);have af:w.heap.size+1<=H.heap.size:=by omega
 obtain⟨P,hP⟩:∃ P,jbi (none:Option Bd) w=P:=⟨_,rfl⟩;have HP:=Lib.hid hP;rw[hP];clear hP u d C q k c Q X b o j ae t hM hr r he;go_enter Tryz.func234,Tryz.ntmps234;go_wp2_with fail;refine wp_region_any (by kernel_rfl) ?_;change wpAny _ _ _ _ _ _ _ (World.drew _)
 ·
  refine ta 0 ?_;refine ta 2 ?_;refine ta 3 ?_;refine ta 4 ?_;refine rd [1,9] (.cons rfl (fun K hK=>?_) (.cons rfl (fun K hK=>?_) .nil))
  all_goals go_simp
  all_goals first
   |
    rw[f.out];refine hK _ _ ?_;clear hK K
   | (refine hK _ _ ?_;clear hK K)
  all_goals first
   | (refine rq [5,9] (.cons rfl (fun K hK=>?_) (.cons rfl (fun K hK=>?_) .nil)))
   | (refine rq [1] (.cons rfl (fun K hK=>?_) .nil))
  all_goals go_simp
  all_goals first
   |
    refine v.out.mono ?_;rintro e G ⟨rfl,E⟩;obtain⟨g,n,N,i,ad⟩:=jaf G #[.slice none 0 0] 32;have S:=E.trans (i.mono E.size);have ab:H.heap.size<=G.heap.size:=E.size;have D:Bw w g:=L.out.trans (((Below.refl _ H).drew.trans S).mono L.out.size);have F:w.heap.size<=G.heap.size:=by omega
    obtain⟨V,Z⟩:∃ V,(g.setCell ⟨G.heap.size,0,none⟩ (.slice none 0 0))=V:=⟨_,rfl⟩;have J:V.heap[G.heap.size]? = some (.cells #[.slice none 0 0] 32 (0,0)):=by rw[<- Z];exact (hSk N (.slice none 0 0))
    have Y:OnlyAt (G.heap.size) g V:=by rw[<- Z];exact ((OnlyAt.refl _ _).set _ _)
    have x0:g.cell? ⟨G.heap.size,0,none⟩=some (.slice none 0 0):=cCc N 0;have f0:g.frozen? ⟨G.heap.size,0,none⟩=false:=cFz N 0;have y0:V.cell? ⟨G.heap.size,0,none⟩=some (.slice none 0 0):=cCc J 0;have I:Bw w V:=by rw[<- Z];exact (D.setCell (p:=⟨G.heap.size,0,none⟩) F _)
    have y:Hid (Bw w V):=I;have HT:=Lib.hid (jsh (.iface 234 (.agg #[.slice none 0 0])) V);clear J Y I N;have z:=Lib.hid n;clear E S D ab F i ad n;refine hK _ _ ?_;clear hK K
   |
    rw[f.out];refine hK _ _ ?_;clear hK K
   | (refine hK _ _ ?_;clear hK K)
  all_goals first
   | (refine taq 6 ?_;refine taq 7 ?_;refine taq 8 ?_;refine rq [9] (.cons rfl (fun K hK=>?_) .nil))
   | (refine rq [5] (.cons rfl (fun K hK=>?_) .nil))
  all_goals go_simp
  all_goals first
   |
    rw[z.out];refine hK _ _ ?_;clear hK K
   |
    refine x.out.mono ?_;rintro e G ⟨rfl,E⟩;have M:=jab E (Nat.le_refl _) aa.out;have R:=T.out.trans (E.mono T.out.size);have F:w.heap.size<=w.heap.size+1:=Nat.le_succ _;have D:=L.out.trans (R.mono L.out.size);obtain⟨V,Z⟩:∃ V,(G.setCell ⟨w.heap.size+1,0,none⟩ (.slice none 0 0))=V:=⟨_,rfl⟩;have J:V.heap[w.heap.size+1]? = some (.cells #[.slice none 0 0] 32 (0,0)):=by rw[<- Z];exact (hSk M (.slice none 0 0))
    have Y:OnlyAt (w.heap.size+1) G V:=by rw[<- Z];exact ((OnlyAt.refl _ _).set _ _)
    have x0:G.cell? ⟨w.heap.size+1,0,none⟩=some (.slice none 0 0):=cCc M 0;have f0:G.frozen? ⟨w.heap.size+1,0,none⟩=false:=cFz M 0;have y0:V.cell? ⟨w.heap.size+1,0,none⟩=some (.slice none 0 0):=cCc J 0;have I:Bw w V:=by rw[<- Z];exact (D.setCell (p:=⟨w.heap.size+1,0,none⟩) F _)
    have y:Hid (Bw w V):=I;have HT:=Lib.hid (jsh (.iface 234 (.agg #[.slice none 0 0])) V);clear J Y I M;clear E R D F;refine hK _ _ ?_;clear hK K
  all_goals first
   | (refine rq [10] (.cons rfl (fun K hK=>?_) .nil))
   | (refine taq 6 ?_;refine taq 7 ?_;refine taq 8 ?_;refine rq [10] (.cons rfl (fun K hK=>?_) .nil))
  all_goals go_simp
  all_goals (refine hK _ _ ?_;clear hK K)
  all_goals (refine ta 11 ?_;refine wpAny_done (by kernel_rfl) ?_ _)
  all_goals
   go_wp2_with fail;refine HT.out.mono ?_;rintro e w3 ⟨rfl,rfl⟩;go_wp2_with fail;rw[<- HP.out];exact⟨y.out.alloc y.out.size _,_,rfl,_,rfl,World.alloc_heap_new _ _⟩
theorem jvX (b:Nat) (r O:List Nat) (s d:ByteArray) (w:World) (h1:3<=b) (h2:b<=8) (hl:r.length=2^b) (hr:∀ i,r.getD i 0<=65-b) (q:O.length=2^b) (t:∀ i,O.getD i 0<=65-b) (v:s=jap r) (x:d=jap O) :
  Calls Tryz.prog 262 #[.agg #[.int .i64 b,.string s],.iface 236 (.agg #[.int .i64 b,.string d])] w (jbi (some (Bd.reg b (jd2 r O))) w):=by
 obtain⟨G,ak,c,j,ae⟩:=jaf w #[.int .i64 b,.string s] 236;have o:G.drew.heap[w.heap.size]? = some (.cells #[.int .i64 b,.string s] 236 (0,0)):=c;obtain⟨c0,c1⟩:=cl2 o
 have y:Hid (∀ W,Bw G W->Calls Tryz.prog 264 #[.agg #[.int .i64 b,.string s],.agg #[.int .i64 b,.string d]] W fun e w'=>∃ E,e=.returned (.tuple #[.agg #[.int .i64 b,.string E],.int .i64 0])/\BdAt w' (.iface 236 (.agg #[.int .i64 b,.string E])) (Bd.reg b (jd2 r O))/\Bw W w'):=by
  intro W hB;have h:=jpg b r O W h1 h2 hl hr q t;rw[<- v,<- x] at h;exact h.mono fun e w' ⟨e1,hb⟩=>⟨_,e1,rfl,hb⟩
 have aj:∀ w,(Instr.typeAssert (.iface 236 (.agg #[.int .i64 b,.string d])) 114 236 false).run Tryz.prog w=.ok (.agg #[.int .i64 b,.string d]) w:=fun w=>by kernel_rfl
 have ai:∀ w,(Instr.field 236 (.agg #[.int .i64 b,.string d]) 0).run Tryz.prog w=.ok (.agg #[.int .i64 b,.string d]) w:=fun w=>by kernel_rfl
 obtain⟨Wa,Z,n,k,ag⟩:=jaf G #[.int .i64 0,.string ⟨#[]⟩] 34;obtain⟨f,l,a,U⟩:∃ f,(G.alloc (.cells #[.int .i64 0,.string ⟨#[]⟩] 34)).drew=f/\f.heap[G.heap.size]? = some (.cells #[.int .i64 0,.string ⟨#[]⟩] 34 (0,0))/\Bw G f:=⟨_,rfl,by rw[Z];exact n,by rw[Z];exact k.drew⟩;have Q:f.heap[w.heap.size]? = some (.cells #[.int .i64 b,.string s] 236 (0,0)):=jab U (Nat.le_refl _) c;rw[ae] at a;obtain⟨k0,k1⟩:=cl2 Q;have g:=Lib.hid l;have ac:=Lib.hid a;have N:=Lib.hid j;have T:=Lib.hid U;have aa:=Lib.hid (y.out f T.out);have z:=Lib.hid (y.out G.drew (Below.refl _ G).drew);have ah:w.heap.size+1<=G.heap.size:=by omega
 obtain⟨P,hP⟩:∃ P,jbi (some (Bd.reg b (jd2 r O))) w=P:=⟨_,rfl⟩;have HP:=Lib.hid hP;rw[hP];clear hP y c j o l a Q U Z n k ag h1 h2 hl hr q t v x;go_enter Tryz.func262,Tryz.ntmps262;go_wp2_with fail;refine wp_region_any (by kernel_rfl) ?_;change wpAny _ _ _ _ _ _ _ (World.drew _)
 ·
  refine ta 0 ?_;refine ta 2 ?_;refine ta 3 ?_;refine ta 4 ?_;refine rd [1,9] (.cons rfl (fun K hK=>?_) (.cons rfl (fun K hK=>?_) .nil))
  all_goals go_simp
  all_goals first
   |
    rw[g.out];refine hK _ _ ?_;clear hK K
   | (refine hK _ _ ?_;clear hK K)
  all_goals first
   | (refine rq [5,9] (.cons rfl (fun K hK=>?_) (.cons rfl (fun K hK=>?_) .nil)))
   | (refine rq [1] (.cons rfl (fun K hK=>?_) .nil))
  all_goals go_simp
  all_goals first
   |
    refine z.out.mono ?_;rintro e F ⟨E,rfl,D,C⟩;obtain⟨W3,m,L,X,af⟩:=jaf F #[.int .i64 0,.string ⟨#[]⟩] 34;have S:=C.trans (X.mono C.size);have ad:G.heap.size<=F.heap.size:=C.size;have B:Bw w W3:=N.out.trans (((Below.refl _ G).drew.trans S).mono N.out.size);have A:w.heap.size<=F.heap.size:=by omega
    replace D:=D.go X;obtain⟨V,Y⟩:∃ V,((W3.setCell ⟨F.heap.size,0,none⟩ (.int .i64 b)).setCell ⟨F.heap.size,1,none⟩ (.string E))=V:=⟨_,rfl⟩;have M:V.heap[F.heap.size]? = some (.cells #[.int .i64 b,.string E] 34 (0,0)):=by rw[<- Y];exact (hSk (hSk L (.int .i64 b)) (.string E))
    have I:OnlyAt (F.heap.size) W3 V:=by rw[<- Y];exact (((OnlyAt.refl _ _).set _ _).set _ _)
    obtain⟨x0,x1⟩:=cl2 L;obtain⟨f0,f1⟩:=cz2 L;obtain⟨y0,y1⟩:=cl2 M;have H:Bw w V:=by rw[<- Y];exact ((B.setCell (p:=⟨F.heap.size,0,none⟩) A _).setCell (p:=⟨F.heap.size,1,none⟩) A _)
    have HE:Hid (BdAt V (.iface 236 (.agg #[.int .i64 b,.string E])) (Bd.reg b (jd2 r O))/\Bw w V):=⟨BdAt.apart D L (fun i u h=>by rcases i with _ | _ | i<;>simp at h) I,H⟩;have HT:=Lib.hid (jc7 (.iface 236 (.agg #[.int .i64 b,.string E])) V);clear M I H L D;have ab:=Lib.hid m;clear C S B ad A X af m;refine hK _ _ ?_;clear hK K
   |
    rw[g.out];refine hK _ _ ?_;clear hK K
   | (refine hK _ _ ?_;clear hK K)
  all_goals first
   | (refine taq 6 ?_;refine taq 7 ?_;refine taq 8 ?_;refine rq [9] (.cons rfl (fun K hK=>?_) .nil))
   | (refine rq [5] (.cons rfl (fun K hK=>?_) .nil))
  all_goals go_simp
  all_goals first
   |
    rw[ab.out];refine hK _ _ ?_;clear hK K
   |
    refine aa.out.mono ?_;rintro e F ⟨E,rfl,D,C⟩;have J:=jab C (Nat.le_refl _) ac.out;have R:=T.out.trans (C.mono T.out.size);have A:w.heap.size<=w.heap.size+1:=Nat.le_succ _;have B:=N.out.trans (R.mono N.out.size);obtain⟨V,Y⟩:∃ V,((F.setCell ⟨w.heap.size+1,0,none⟩ (.int .i64 b)).setCell ⟨w.heap.size+1,1,none⟩ (.string E))=V:=⟨_,rfl⟩;have M:V.heap[w.heap.size+1]? = some (.cells #[.int .i64 b,.string E] 34 (0,0)):=by rw[<- Y];exact (hSk (hSk J (.int .i64 b)) (.string E))
    have I:OnlyAt (w.heap.size+1) F V:=by rw[<- Y];exact (((OnlyAt.refl _ _).set _ _).set _ _)
    obtain⟨x0,x1⟩:=cl2 J;obtain⟨f0,f1⟩:=cz2 J;obtain⟨y0,y1⟩:=cl2 M;have H:Bw w V:=by rw[<- Y];exact ((B.setCell (p:=⟨w.heap.size+1,0,none⟩) A _).setCell (p:=⟨w.heap.size+1,1,none⟩) A _)
    have HE:Hid (BdAt V (.iface 236 (.agg #[.int .i64 b,.string E])) (Bd.reg b (jd2 r O))/\Bw w V):=⟨BdAt.apart D J (fun i u h=>by rcases i with _ | _ | i<;>simp at h) I,H⟩;have HT:=Lib.hid (jc7 (.iface 236 (.agg #[.int .i64 b,.string E])) V);clear M I H J D;clear C R B A;refine hK _ _ ?_;clear hK K
  all_goals first
   | (refine rq [10] (.cons rfl (fun K hK=>?_) .nil))
   | (refine taq 6 ?_;refine taq 7 ?_;refine taq 8 ?_;refine rq [10] (.cons rfl (fun K hK=>?_) .nil))
  all_goals go_simp
  all_goals (refine hK _ _ ?_;clear hK K)
  all_goals (refine ta 11 ?_;refine wpAny_done (by kernel_rfl) ?_ _)
  all_goals
   go_wp2_with fail;refine HT.out.mono ?_;rintro e w3 ⟨rfl,rfl⟩;go_wp2_with fail;rw[<- HP.out];exact⟨HE.out.2,_,rfl,HE.out.1⟩
theorem jvV (c:Nat) (l m:List Int) (a:Option Addr) (len cap:Nat) (R:Option Addr) (C B:Nat) (w:World) (hc:c=4\/c=8\/c=16\/c=32) (z:SlC jaG 1 w.heap.size w a len cap l) (hl:l.length=c+c) (v:jc8 l) (hM:SlC jaG 1 w.heap.size w R C B m) (hm:m.length=c+c) (x:jc8 m) :
  Calls Tryz.prog 270 #[.agg #[.int .i64 2,.int .i64 c,.slice a len cap],.iface 237 (.agg #[.int .i64 2,.int .i64 c,.slice R C B])] w (jbi (some (Bd.cnt c (jdE l m))) w):=by
 obtain⟨I,al,j,D,af⟩:=jaf w #[.int .i64 2,.int .i64 c,.slice a len cap] 237;have t:I.drew.heap[w.heap.size]? = some (.cells #[.int .i64 2,.int .i64 c,.slice a len cap] 237 (0,0)):=j;obtain⟨c0,c1,c2⟩:=cl3 t
 have HA:Hid (∀ W,Bw I W->Calls Tryz.prog 272 #[.agg #[.int .i64 2,.int .i64 c,.slice a len cap],.agg #[.int .i64 2,.int .i64 c,.slice R C B]] W fun e w'=>∃ g,e=.returned (.tuple #[.agg #[.int .i64 2,.int .i64 c,.slice (some ⟨g,0,none⟩) (2*c) (2*c)],.int .i64 0])/\BdAt w' (.iface 237 (.agg #[.int .i64 2,.int .i64 c,.slice (some ⟨g,0,none⟩) (2*c) (2*c)])) (Bd.cnt c (jdE l m))/\Bw W w'):=by
  intro W y;have h:=jo0 c l m a len cap R C B W (je3 c hc) (by omega) ((z.1.below (D.trans (y.mono D.size))).mono (D.trans (y.mono D.size)).size) (by omega) v (fun e=>by have:=z.2.2.2.1 e;have:=z.2.1;omega) ((hM.1.below (D.trans (y.mono D.size))).mono (D.trans (y.mono D.size)).size) (by omega) x;exact h.mono fun e w' ⟨g,e1,hN,_,hb⟩=>⟨g,e1,⟨_,_,_,rfl,jhD hN (by rw[jf2];omega) (by unfold maxLen;omega)⟩,hb⟩
 have ak:∀ w,(Instr.typeAssert (.iface 237 (.agg #[.int .i64 2,.int .i64 c,.slice R C B])) 114 237 false).run Tryz.prog w=.ok (.agg #[.int .i64 2,.int .i64 c,.slice R C B]) w:=fun w=>by kernel_rfl
 have aj:∀ w,(Instr.field 237 (.agg #[.int .i64 2,.int .i64 c,.slice R C B]) 0).run Tryz.prog w=.ok (.agg #[.int .i64 2,.int .i64 c,.slice R C B]) w:=fun w=>by kernel_rfl
 obtain⟨Wa,d,s,o,ah⟩:=jaf I #[.int .i64 0,.int .i64 0,.slice none 0 0] 36;obtain⟨k,q,f,Y⟩:∃ k,(I.alloc (.cells #[.int .i64 0,.int .i64 0,.slice none 0 0] 36)).drew=k/\k.heap[I.heap.size]? = some (.cells #[.int .i64 0,.int .i64 0,.slice none 0 0] 36 (0,0))/\Bw I k:=⟨_,rfl,by rw[d];exact s,by rw[d];exact o.drew⟩;have S:k.heap[w.heap.size]? = some (.cells #[.int .i64 2,.int .i64 c,.slice a len cap] 237 (0,0)):=jab Y (Nat.le_refl _) j;rw[af] at f;obtain⟨k0,k1,k2⟩:=cl3 S;have n:=Lib.hid q;have ad:=Lib.hid f;have Q:=Lib.hid D;have X:=Lib.hid Y;have ab:=Lib.hid (HA.out k X.out);have aa:=Lib.hid (HA.out I.drew (Below.refl _ I).drew);have ai:w.heap.size+1<=I.heap.size:=by omega
 obtain⟨P,hP⟩:∃ P,jbi (some (Bd.cnt c (jdE l m))) w=P:=⟨_,rfl⟩;have HP:=Lib.hid hP;rw[hP];clear hP HA j D t q f S Y d s o ah hc z hl v hM hm x;go_enter Tryz.func270,Tryz.ntmps270;go_wp2_with fail;refine wp_region_any (by kernel_rfl) ?_;change wpAny _ _ _ _ _ _ _ (World.drew _)
 ·
  refine ta 0 ?_;refine ta 2 ?_;refine ta 3 ?_;refine ta 4 ?_;refine rd [1,9] (.cons rfl (fun K hK=>?_) (.cons rfl (fun K hK=>?_) .nil))
  all_goals go_simp
  all_goals first
   |
    rw[n.out];refine hK _ _ ?_;clear hK K
   | (refine hK _ _ ?_;clear hK K)
  all_goals first
   | (refine rq [5,9] (.cons rfl (fun K hK=>?_) (.cons rfl (fun K hK=>?_) .nil)))
   | (refine rq [1] (.cons rfl (fun K hK=>?_) .nil))
  all_goals go_simp
  all_goals first
   |
    refine aa.out.mono ?_;rintro e H ⟨g,rfl,G,F⟩;obtain⟨W3,r,N,Z,ag⟩:=jaf H #[.int .i64 0,.int .i64 0,.slice none 0 0] 36;have U:=F.trans (Z.mono F.size);have ae:I.heap.size<=H.heap.size:=F.size;have E:Bw w W3:=Q.out.trans (((Below.refl _ I).drew.trans U).mono Q.out.size);have A:w.heap.size<=H.heap.size:=by omega
    replace G:=G.go Z;obtain⟨V,b⟩:∃ V,(((W3.setCell ⟨H.heap.size,0,none⟩ (.int .i64 2)).setCell ⟨H.heap.size,1,none⟩ (.int .i64 c)).setCell ⟨H.heap.size,2,none⟩ (.slice (some ⟨g,0,none⟩) (2*c) (2*c)))=V:=⟨_,rfl⟩;have O:V.heap[H.heap.size]? = some (.cells #[.int .i64 2,.int .i64 c,.slice (some ⟨g,0,none⟩) (2*c) (2*c)] 36 (0,0)):=by rw[<- b];exact (hSk (hSk (hSk N (.int .i64 2)) (.int .i64 c)) (.slice (some ⟨g,0,none⟩) (2*c) (2*c)))
    have L:OnlyAt (H.heap.size) W3 V:=by rw[<- b];exact ((((OnlyAt.refl _ _).set _ _).set _ _).set _ _)
    obtain⟨x0,x1,x2⟩:=cl3 N;obtain⟨f0,f1,f2⟩:=cz3 N;obtain⟨y0,y1,y2⟩:=cl3 O;have J:Bw w V:=by rw[<- b];exact (((E.setCell (p:=⟨H.heap.size,0,none⟩) A _).setCell (p:=⟨H.heap.size,1,none⟩) A _).setCell (p:=⟨H.heap.size,2,none⟩) A _)
    have HE:Hid (BdAt V (.iface 237 (.agg #[.int .i64 2,.int .i64 c,.slice (some ⟨g,0,none⟩) (2*c) (2*c)])) (Bd.cnt c (jdE l m))/\Bw w V):=⟨BdAt.apart G N (fun i u h=>by rcases i with _ | _ | _ | i<;>simp at h) L,J⟩;have HT:=Lib.hid (jc7 (.iface 237 (.agg #[.int .i64 2,.int .i64 c,.slice (some ⟨g,0,none⟩) (2*c) (2*c)])) V);clear O L J N G;have ac:=Lib.hid r;clear F U E ae A Z ag r;refine hK _ _ ?_;clear hK K
   |
    rw[n.out];refine hK _ _ ?_;clear hK K
   | (refine hK _ _ ?_;clear hK K)
  all_goals first
   | (refine taq 6 ?_;refine taq 7 ?_;refine taq 8 ?_;refine rq [9] (.cons rfl (fun K hK=>?_) .nil))
   | (refine rq [5] (.cons rfl (fun K hK=>?_) .nil))
  all_goals go_simp
  all_goals first
   |
    rw[ac.out];refine hK _ _ ?_;clear hK K
   |
    refine ab.out.mono ?_;rintro e H ⟨g,rfl,G,F⟩;have M:=jab F (Nat.le_refl _) ad.out;have T:=X.out.trans (F.mono X.out.size);have A:w.heap.size<=w.heap.size+1:=Nat.le_succ _;have E:=Q.out.trans (T.mono Q.out.size);obtain⟨V,b⟩:∃ V,(((H.setCell ⟨w.heap.size+1,0,none⟩ (.int .i64 2)).setCell ⟨w.heap.size+1,1,none⟩ (.int .i64 c)).setCell ⟨w.heap.size+1,2,none⟩ (.slice (some ⟨g,0,none⟩) (2*c) (2*c)))=V:=⟨_,rfl⟩;have O:V.heap[w.heap.size+1]? = some (.cells #[.int .i64 2,.int .i64 c,.slice (some ⟨g,0,none⟩) (2*c) (2*c)] 36 (0,0)):=by rw[<- b];exact (hSk (hSk (hSk M (.int .i64 2)) (.int .i64 c)) (.slice (some ⟨g,0,none⟩) (2*c) (2*c)))
    have L:OnlyAt (w.heap.size+1) H V:=by rw[<- b];exact ((((OnlyAt.refl _ _).set _ _).set _ _).set _ _)
    obtain⟨x0,x1,x2⟩:=cl3 M;obtain⟨f0,f1,f2⟩:=cz3 M;obtain⟨y0,y1,y2⟩:=cl3 O;have J:Bw w V:=by rw[<- b];exact (((E.setCell (p:=⟨w.heap.size+1,0,none⟩) A _).setCell (p:=⟨w.heap.size+1,1,none⟩) A _).setCell (p:=⟨w.heap.size+1,2,none⟩) A _)
    have HE:Hid (BdAt V (.iface 237 (.agg #[.int .i64 2,.int .i64 c,.slice (some ⟨g,0,none⟩) (2*c) (2*c)])) (Bd.cnt c (jdE l m))/\Bw w V):=⟨BdAt.apart G M (fun i u h=>by rcases i with _ | _ | _ | i<;>simp at h) L,J⟩;have HT:=Lib.hid (jc7 (.iface 237 (.agg #[.int .i64 2,.int .i64 c,.slice (some ⟨g,0,none⟩) (2*c) (2*c)])) V);clear O L J M G;clear F T E A;refine hK _ _ ?_;clear hK K
  all_goals first
   | (refine rq [10] (.cons rfl (fun K hK=>?_) .nil))
   | (refine taq 6 ?_;refine taq 7 ?_;refine taq 8 ?_;refine rq [10] (.cons rfl (fun K hK=>?_) .nil))
  all_goals go_simp
  all_goals (refine hK _ _ ?_;clear hK K)
  all_goals (refine ta 11 ?_;refine wpAny_done (by kernel_rfl) ?_ _)
  all_goals
   go_wp2_with fail;refine HT.out.mono ?_;rintro e w3 ⟨rfl,rfl⟩;go_wp2_with fail;rw[<- HP.out];exact⟨HE.out.2,_,rfl,HE.out.1⟩
theorem jvU (f:Nat) (l m:List (Int × Int)) (a:Option Addr) (len cap:Nat) (U:Option Addr) (D C:Nat) (w:World) (hf:f<=3) (hS:SlC jbO 2 w.heap.size w a len cap l) (hr:jaP f l=true) (hu:jb5 l) (aa:jbj l) (ab:l.length<=1000) (hp:∀ b∈l,I64 b.1) (hM:SlC jbO 2 w.heap.size w U D C m) (ae:jaP f m=true) (ac:jbj m) (q:m.length<=1000) (ad:∀ b∈m,I64 b.1) :
  Calls Tryz.prog 284 #[.agg #[.int .i64 f,.slice a len cap],.iface 239 (.agg #[.int .i64 f,.slice U D C])] w (jbi (some (Bd.bkt f (ja7 (jaB l m)))) w):=by
 obtain⟨M,ar,o,F,al⟩:=jaf w #[.int .i64 f,.slice a len cap] 239;have z:M.drew.heap[w.heap.size]? = some (.cells #[.int .i64 f,.slice a len cap] 239 (0,0)):=o;obtain⟨c0,c1⟩:=cl2 z
 have HA:Hid (∀ W,Bw M W->Calls Tryz.prog 286 #[.agg #[.int .i64 f,.slice a len cap],.agg #[.int .i64 f,.slice U D C]] W fun e w'=>∃ I B A,e=.returned (.tuple #[.agg #[.int .i64 f,.slice I B A],.int .i64 0])/\BdAt w' (.iface 239 (.agg #[.int .i64 f,.slice I B A])) (Bd.bkt f (ja7 (jaB l m)))/\Bw W w'):=by
  intro W hB;have h:=jm9 f l m a len cap U D C W hf ((hS.1.below (F.trans (hB.mono F.size))).mono (F.trans (hB.mono F.size)).size) hr hu aa (by have:=hS.1.1;omega) hp ((hM.1.below (F.trans (hB.mono F.size))).mono (F.trans (hB.mono F.size)).size) ae ac (by have:=hM.1.1;omega) ad;exact h.mono fun e w' ⟨I,B,A,e1,aj,hb⟩=>⟨I,B,A,e1,⟨_,_,_,rfl,aj⟩,hb⟩
 have aq:∀ w,(Instr.typeAssert (.iface 239 (.agg #[.int .i64 f,.slice U D C])) 114 239 false).run Tryz.prog w=.ok (.agg #[.int .i64 f,.slice U D C]) w:=fun w=>by kernel_rfl
 have ap:∀ w,(Instr.field 239 (.agg #[.int .i64 f,.slice U D C]) 0).run Tryz.prog w=.ok (.agg #[.int .i64 f,.slice U D C]) w:=fun w=>by kernel_rfl
 obtain⟨Wa,k,y,t,an⟩:=jaf M #[.int .i64 0,.slice none 0 0] 39;obtain⟨r,v,n,d⟩:∃ r,(M.alloc (.cells #[.int .i64 0,.slice none 0 0] 39)).drew=r/\r.heap[M.heap.size]? = some (.cells #[.int .i64 0,.slice none 0 0] 39 (0,0))/\Bw M r:=⟨_,rfl,by rw[k];exact y,by rw[k];exact t.drew⟩;have X:r.heap[w.heap.size]? = some (.cells #[.int .i64 f,.slice a len cap] 239 (0,0)):=jab d (Nat.le_refl _) o;rw[al] at n;obtain⟨k0,k1⟩:=cl2 X;have s:=Lib.hid v;have ai:=Lib.hid n;have T:=Lib.hid F;have c:=Lib.hid d;have ag:=Lib.hid (HA.out r c.out);have af:=Lib.hid (HA.out M.drew (Below.refl _ M).drew);have ao:w.heap.size+1<=M.heap.size:=by omega
 obtain⟨P,hP⟩:∃ P,jbi (some (Bd.bkt f (ja7 (jaB l m)))) w=P:=⟨_,rfl⟩;have HP:=Lib.hid hP;rw[hP];clear hP HA o F z v n X d k y t an hf hS hr hu aa ab hp hM ae ac q ad;go_enter Tryz.func284,Tryz.ntmps284;go_wp2_with fail;refine wp_region_any (by kernel_rfl) ?_;change wpAny _ _ _ _ _ _ _ (World.drew _)
 ·
  refine ta 0 ?_;refine ta 2 ?_;refine ta 3 ?_;refine ta 4 ?_;refine rd [1,9] (.cons rfl (fun K hK=>?_) (.cons rfl (fun K hK=>?_) .nil))
  all_goals go_simp
  all_goals first
   |
    rw[s.out];refine hK _ _ ?_;clear hK K
   | (refine hK _ _ ?_;clear hK K)
  all_goals first
   | (refine rq [5,9] (.cons rfl (fun K hK=>?_) (.cons rfl (fun K hK=>?_) .nil)))
   | (refine rq [1] (.cons rfl (fun K hK=>?_) .nil))
  all_goals go_simp
  all_goals first
   |
    refine af.out.mono ?_;rintro e L ⟨I,B,A,rfl,J,H⟩;obtain⟨W3,x,R,g,am⟩:=jaf L #[.int .i64 0,.slice none 0 0] 39;have Z:=H.trans (g.mono H.size);have ak:M.heap.size<=L.heap.size:=H.size;have G:Bw w W3:=T.out.trans (((Below.refl _ M).drew.trans Z).mono T.out.size);have E:w.heap.size<=L.heap.size:=by omega
    replace J:=J.go g;obtain⟨V,j⟩:∃ V,((W3.setCell ⟨L.heap.size,0,none⟩ (.int .i64 f)).setCell ⟨L.heap.size,1,none⟩ (.slice I B A))=V:=⟨_,rfl⟩;have S:V.heap[L.heap.size]? = some (.cells #[.int .i64 f,.slice I B A] 39 (0,0)):=by rw[<- j];exact (hSk (hSk R (.int .i64 f)) (.slice I B A))
    have O:OnlyAt (L.heap.size) W3 V:=by rw[<- j];exact (((OnlyAt.refl _ _).set _ _).set _ _)
    obtain⟨x0,x1⟩:=cl2 R;obtain⟨f0,f1⟩:=cz2 R;obtain⟨y0,y1⟩:=cl2 S;have N:Bw w V:=by rw[<- j];exact ((G.setCell (p:=⟨L.heap.size,0,none⟩) E _).setCell (p:=⟨L.heap.size,1,none⟩) E _)
    have HE:Hid (BdAt V (.iface 239 (.agg #[.int .i64 f,.slice I B A])) (Bd.bkt f (ja7 (jaB l m)))/\Bw w V):=⟨BdAt.apart J R (fun i u h=>by rcases i with _ | _ | i<;>simp at h) O,N⟩;have HT:=Lib.hid (jc7 (.iface 239 (.agg #[.int .i64 f,.slice I B A])) V);clear S O N R J;have ah:=Lib.hid x;clear H Z G ak E g am x;refine hK _ _ ?_;clear hK K
   |
    rw[s.out];refine hK _ _ ?_;clear hK K
   | (refine hK _ _ ?_;clear hK K)
  all_goals first
   | (refine taq 6 ?_;refine taq 7 ?_;refine taq 8 ?_;refine rq [9] (.cons rfl (fun K hK=>?_) .nil))
   | (refine rq [5] (.cons rfl (fun K hK=>?_) .nil))
  all_goals go_simp
  all_goals first
   |
    rw[ah.out];refine hK _ _ ?_;clear hK K
   |
    refine ag.out.mono ?_;rintro e L ⟨I,B,A,rfl,J,H⟩;have Q:=jab H (Nat.le_refl _) ai.out;have Y:=c.out.trans (H.mono c.out.size);have E:w.heap.size<=w.heap.size+1:=Nat.le_succ _;have G:=T.out.trans (Y.mono T.out.size);obtain⟨V,j⟩:∃ V,((L.setCell ⟨w.heap.size+1,0,none⟩ (.int .i64 f)).setCell ⟨w.heap.size+1,1,none⟩ (.slice I B A))=V:=⟨_,rfl⟩;have S:V.heap[w.heap.size+1]? = some (.cells #[.int .i64 f,.slice I B A] 39 (0,0)):=by rw[<- j];exact (hSk (hSk Q (.int .i64 f)) (.slice I B A))
    have O:OnlyAt (w.heap.size+1) L V:=by rw[<- j];exact (((OnlyAt.refl _ _).set _ _).set _ _)
    obtain⟨x0,x1⟩:=cl2 Q;obtain⟨f0,f1⟩:=cz2 Q;obtain⟨y0,y1⟩:=cl2 S;have N:Bw w V:=by rw[<- j];exact ((G.setCell (p:=⟨w.heap.size+1,0,none⟩) E _).setCell (p:=⟨w.heap.size+1,1,none⟩) E _)
    have HE:Hid (BdAt V (.iface 239 (.agg #[.int .i64 f,.slice I B A])) (Bd.bkt f (ja7 (jaB l m)))/\Bw w V):=⟨BdAt.apart J Q (fun i u h=>by rcases i with _ | _ | i<;>simp at h) O,N⟩;have HT:=Lib.hid (jc7 (.iface 239 (.agg #[.int .i64 f,.slice I B A])) V);clear S O N Q J;clear H Y G E;refine hK _ _ ?_;clear hK K
  all_goals first
   | (refine rq [10] (.cons rfl (fun K hK=>?_) .nil))
   | (refine taq 6 ?_;refine taq 7 ?_;refine taq 8 ?_;refine rq [10] (.cons rfl (fun K hK=>?_) .nil))
  all_goals go_simp
  all_goals (refine hK _ _ ?_;clear hK K)
  all_goals (refine ta 11 ?_;refine wpAny_done (by kernel_rfl) ?_ _)
  all_goals
   go_wp2_with fail;refine HT.out.mono ?_;rintro e w3 ⟨rfl,rfl⟩;go_wp2_with fail;rw[<- HP.out];exact⟨HE.out.2,_,rfl,HE.out.1⟩
theorem jry (x : Value) (w : World) : (method 495 234 (.agg #[x]) "aviary/ladder.merge").run Tryz.prog w = .ok (234, .agg #[x]) w := by kernel_rfl
theorem jrz (x y : Value) (w : World) : (method 495 236 (.agg #[x, y]) "aviary/ladder.merge").run Tryz.prog w = .ok (262, .agg #[x, y]) w := by kernel_rfl
theorem jrx (x y z : Value) (w : World) : (method 495 237 (.agg #[x, y, z]) "aviary/ladder.merge").run Tryz.prog w = .ok (270, .agg #[x, y, z]) w := by kernel_rfl
theorem jrw (x y : Value) (w : World) : (method 495 239 (.agg #[x, y]) "aviary/ladder.merge").run Tryz.prog w = .ok (284, .agg #[x, y]) w := by kernel_rfl
theorem jeL {w : World} {v : Value} {B : Bd} {L G : Nat} (X : BdAt w v B) (H : B.Ok L G) : ∃ T Z f, v = .iface T Z /\ (∀ W, (method 495 T Z "aviary/ladder.merge").run Tryz.prog W = .ok (f, Z) W) /\ (∀ args W, (callFunc f args).run Tryz.prog W = .ok (.enter f args) W) /\
  ∀ W v2 B2,BdAt W v B->BdAt W v2 B2->B2.Ok L G->Calls Tryz.prog f #[Z,v2] W (jbi (B.merge B2) W):=by
 cases B with
 | num l =>
  obtain⟨a,len,cap,rfl,-⟩:=X;obtain⟨rfl,rfl,O,I,S⟩:=H;refine⟨_,_,_,rfl,fun W=>jry _ W,enters_of Tryz.func234 (by kernel_rfl) rfl,fun W v2 B2 R E A=>?_⟩
  cases B2 with
  | num m =>
   obtain⟨n,M,J,e,Q⟩:=R
   cases e
   obtain⟨P,D,C,rfl,F⟩:=E
   cases Y:jan l m with
   | some z =>
    have h:=jvW l m a len cap P D C z W Q F (jcS l O I) (jcS m A.2.2.1 A.2.2.2.1) Y;show Calls _ _ _ _ (jbi ((jan l m).map Bd.num) W);rw[Y];exact h
   | none =>
    have h:=juh l m a len cap P D C W Q F (jcS l O I) (jcS m A.2.2.1 A.2.2.2.1) Y;show Calls _ _ _ _ (jbi ((jan l m).map Bd.num) W);rw[Y];exact h
  | reg b r=>exact absurd A.2.1 (by omega)
  | cnt c m=>exact absurd A.1 (by omega)
  | bkt f m=>exact absurd A.1 (by omega)
 | reg b r =>
  obtain rfl:v=_:=X;obtain⟨rfl,d,O,I,S,g⟩:=H;refine⟨_,_,_,rfl,fun W=>jrz _ _ W,enters_of Tryz.func262 (by kernel_rfl) rfl,fun W v2 B2 R E A=>?_⟩
  cases B2 with
  | num m=>exact absurd A.2.1 (by omega)
  | reg b' r2 =>
   obtain rfl:v2=_:=E;obtain⟨-,-,-,U,V,j⟩:=A;obtain rfl:b=b':=by omega
   exact jvX b r r2 _ _ W (by omega) (by omega) S g V j rfl rfl
  | cnt c m=>exact absurd A.1 (by omega)
  | bkt f m=>exact absurd A.1 (by omega)
 | cnt c l =>
  obtain⟨a,len,cap,rfl,-⟩:=X;obtain⟨rfl,d,O,I,S⟩:=H;refine⟨_,_,_,rfl,fun W=>jrx _ _ _ W,enters_of Tryz.func270 (by kernel_rfl) rfl,fun W v2 B2 R E A=>?_⟩
  cases B2 with
  | num m=>exact absurd A.1 (by omega)
  | reg b r=>exact absurd A.1 (by omega)
  | cnt c' m =>
   obtain⟨n,M,J,e,Q⟩:=R
   cases e
   obtain⟨P,D,C,rfl,F⟩:=E;obtain⟨-,p,o,U,V⟩:=A;obtain rfl:c=c':=jml O o;exact jvV c l m a len cap P D C W (jhU O d) Q I S F U V
  | bkt f m=>exact absurd A.1 (by omega)
 | bkt f l =>
  obtain⟨a,len,cap,rfl,-⟩:=X;obtain⟨rfl,d,O,I,S,g,i⟩:=H;refine⟨_,_,_,rfl,fun W=>jrw _ _ W,enters_of Tryz.func284 (by kernel_rfl) rfl,fun W v2 B2 R E A=>?_⟩
  cases B2 with
  | num m=>exact absurd A.1 (by omega)
  | reg b r=>exact absurd A.1 (by omega)
  | cnt c m=>exact absurd A.1 (by omega)
  | bkt f' m =>
   obtain⟨n,M,J,e,Q⟩:=R
   cases e
   obtain⟨P,D,C,rfl,F⟩:=E;obtain⟨-,p,o,U,V,j,k⟩:=A;obtain rfl:f=f':=by omega
   have N:f<=3:=by omega
   exact jvU f l m a len cap P D C W N Q (jd1 f l N I S i) I g (by have:=jfc f l N I i;omega) (jhB f l N i) F (jd1 f m N U V k) j (by have:=jfc f m N U k;omega) (jhB f m N k)
theorem jkh (v1 v2:Value) (U B2:Bd) (A M L2 t:Nat) (w:World) (z:BdAt w v1 U) (aa:BdAt w v2 B2) (R:U.Ok A M) (S:B2.Ok A L2) (h1:M<=t) (h2:L2<=t) (ht:t<=jc1 A) :
  Calls Tryz.prog 129 #[.agg #[v1,.int .i64 A,.int .i64 M],.agg #[v2,.int .i64 A,.int .i64 L2],.int .i64 t] w fun e w'=>∃ u1 u2,e=.returned (.tuple #[.agg #[u1,.int .i64 A,.int .i64 t],.agg #[u2,.int .i64 A,.int .i64 t],.nilIface])/\BdAt w' u1 (jbk (M,U) t).2/\BdAt w' u2 (jbk (L2,B2) t).2/\Bw w w':=by
 obtain⟨T1,Z,rfl⟩:=ja6 z;obtain⟨T2,a,rfl⟩:=ja6 aa;have e1:(jbk (M,U) t).1=t:=(jbb t ht _ (M,U) rfl R).2.trans (by show max M t=t;omega);have e2:(jbk (L2,B2) t).1=t:=(jbb t ht _ (L2,B2) rfl S).2.trans (by show max L2 t=t;omega)
 have V:Hid (∀ W,BdAt W (.iface T1 Z) U->Calls Tryz.prog 163 #[.agg #[.iface T1 Z,.int .i64 A,.int .i64 M],.int .i64 t] W fun e w'=>∃ v',e=.returned (.tuple #[.agg #[v',.int .i64 A,.int .i64 t],.nilIface])/\BdAt w' v' (jbk (M,U) t).2/\Bw W w'):=fun W h=>by
  have h3:=jva (.iface T1 Z) U A M t W h R ht;rw[e1] at h3;exact h3
 have X:Hid (∀ W,BdAt W (.iface T2 a) B2->Calls Tryz.prog 163 #[.agg #[.iface T2 a,.int .i64 A,.int .i64 L2],.int .i64 t] W fun e w'=>∃ v',e=.returned (.tuple #[.agg #[v',.int .i64 A,.int .i64 t],.nilIface])/\BdAt w' v' (jbk (L2,B2) t).2/\Bw W w'):=fun W h=>by
  have h3:=jva (.iface T2 a) B2 A L2 t W h S ht;rw[e2] at h3;exact h3
 generalize (jbk (M,U) t).2=D1 at V;generalize (jbk (L2,B2) t).2=D2 at X;obtain⟨W0,aG,an,ao,ap,u,aA⟩:=jbJ w #[.iface T1 Z,.int .i64 A,.int .i64 M] 116 #[.iface T2 a,.int .i64 A,.int .i64 L2] 116 #[.nilIface,.int .i64 0,.int .i64 0] 116;obtain⟨W1,aH,y,N,aB⟩:=jaf W0 #[.nilIface,.int .i64 0,.int .i64 0] 116;rw[aA] at y aB;have Q:=jab N (by omega) an;have o:=jab N (by omega) ao;have p:=jab N (by omega) ap;obtain⟨c0,c1,c2⟩:=cl3 Q;have F:=u.trans (N.mono u.size);have V:=Lib.hid (V.out W1 (z.go F));have ar:=Lib.hid (aa.go F);have aw:=Lib.hid Q;have ax:=Lib.hid o;have az:=Lib.hid p;have ay:=Lib.hid y;have c:=Lib.hid F;clear an ao ap y Q o p u N F z aa R S h1 h2 ht e1 e2;go_enter Tryz.func129,Tryz.ntmps129;go_wp2_with fail;refine V.out.mono ?_;rintro e w2 ⟨u1,rfl,ab,B⟩;obtain⟨S1,L,rfl⟩:=ja6 ab;have G:=jab B (Nat.le_refl _) aw.out;obtain⟨p0,p1,p2⟩:=cl3 G;obtain⟨f0,f1,f2⟩:=cz3 G;obtain⟨V1,aC,ak,I,ag⟩:=jdz (.iface S1 L) (.int .i64 A) (.int .i64 t) G;have f:Bw w V1:=ag _ _ (c.out.trans (B.mono c.out.size)) (Nat.le_refl _);have P:=(I.2 (w.heap.size+1) (by omega)).trans (jab B (Nat.le_refl _) ax.out);have m:=(I.2 (w.heap.size+2) (by omega)).trans (jab B (Nat.le_refl _) az.out);have k:=(I.2 (w.heap.size+2+1) (by omega)).trans (jab B (Nat.le_refl _) ay.out);have q:BdAt V1 (.iface S1 L) D1:=BdAt.set_work ab G (by simp) (by simp) (by simp) I;have X:=Lib.hid (X.out V1 (BdAt.set_work (ar.out.go B) G (by simp) (by simp) (by simp) I));obtain⟨q0,q1,q2⟩:=cl3 P;have av:=Lib.hid ak;have ad:=Lib.hid P
 have af:=Lib.hid m;have ae:=Lib.hid k;have au:=Lib.hid q;have d:=Lib.hid f;clear ak I ag P m k ab q f G B;go_wp2_with fail;refine X.out.mono ?_;rintro e w3 ⟨u2,rfl,ac,C⟩;obtain⟨S2,T,rfl⟩:=ja6 ac;have H:=jab C (Nat.le_refl _) ad.out;obtain⟨r0,r1,r2⟩:=cl3 H;obtain⟨g0,g1,g2⟩:=cz3 H;obtain⟨V2,aD,x,J,ah⟩:=jdz (.iface S2 T) (.int .i64 A) (.int .i64 t) H;have g:Bw w V2:=ah _ _ (d.out.trans (C.mono d.out.size)) (Nat.le_succ _);have j:=(J.2 w.heap.size (by omega)).trans (jab C (Nat.le_refl _) av.out);have E:=(J.2 (w.heap.size+2) (by omega)).trans (jab C (Nat.le_refl _) af.out);have l:=(J.2 (w.heap.size+2+1) (by omega)).trans (jab C (Nat.le_refl _) ae.out);have r:BdAt V2 (.iface S1 L) D1:=BdAt.set_work (au.out.go C) H (by simp) (by simp) (by simp) J;have s:BdAt V2 (.iface S2 T) D2:=BdAt.set_work ac H (by simp) (by simp) (by simp) J;obtain⟨x0,x1,x2⟩:=cl3 j;obtain⟨y0,y1,y2⟩:=cl3 x;obtain⟨z0,z1,z2⟩:=cl3 E;obtain⟨h0,h1,h2⟩:=cz3 E;obtain⟨V3,aE,al,O,ai⟩:=jdz (b:=w.heap.size+1+1) (.iface S1 L) (.int .i64 A) (.int .i64 t) E;have D:=(O.2 (w.heap.size+2+1) (by omega)).trans l;have aq:=(O.2 (w.heap.size+1) (by omega)).trans x;obtain⟨n0,n1,n2⟩:=cl3 aq;obtain⟨l0,l1,l2⟩:=cl3 D;obtain⟨m0,m1,m2⟩:=cz3 D;obtain⟨V4,aF,am,Y,aj⟩:=jdz (b:=w.heap.size+1+1+1) (.iface S2 T) (.int .i64 A) (.int .i64 t) D;have n:V4.drew.heap[w.heap.size+1+1]? = _:=(Y.2 (w.heap.size+1+1) (by omega)).trans al;have i:V4.drew.heap[w.heap.size+1+1+1]? = _:=am;obtain⟨j0,j1,j2⟩:=cl3 n;obtain⟨k0,k1,k2⟩:=cl3 i
 have HE:Hid (BdAt V4.drew (.iface S1 L) D1/\BdAt V4.drew (.iface S2 T) D2/\Bw w V4.drew):=by
  refine⟨?_,?_,(aj _ _ (ai _ _ g (by omega)) (by omega)).drew⟩
  ·exact (BdAt.set_work (BdAt.set_work r E (by simp) (by simp) (by simp) O) D (by simp) (by simp) (by simp) Y).go (Below.refl _ _).drew
  ·exact (BdAt.set_work (BdAt.set_work s E (by simp) (by simp) (by simp) O) D (by simp) (by simp) (by simp) Y).go (Below.refl _ _).drew
 clear aq x J ah j E l ac r s g H C al O ai D am Y aj n i;go_wp2_with fail;go_region;go_wp2_with fail;exact bodyPost_ret (v:=.tuple #[.agg #[.iface S1 L,.int .i64 A,.int .i64 t],.agg #[.iface S2 T,.int .i64 A,.int .i64 t],.nilIface]) (by simp[results,Tryz.f129,go_sem,j0,j1,j2,k0,k1,k2]) rfl ⟨_,_,rfl,HE.out.1,HE.out.2.1,HE.out.2.2⟩
end Go.Proofs.YtafhpamnegmilaaGreatDoor
