/- tenant.Own, Query. A nil tenant; tenant.Cost, Audit, New. tenant.New. aviarylaw18.shown. aviarylaw18.TenantNone answers true. -/
import Derived.Test.YtnegciklhanmbaaGreatDoorZUI
import Derived.Test.YtnegciklhanmbaaGreatDoorZSM
import Derived.Test.YtnegciklhanmbaaGreatDoorZNE
set_option maxHeartbeats 4000000
set_option maxRecDepth 100000
namespace Go.Proofs.YtnegciklhanmbaaGreatDoor
open Go Go.RowKit Go.Shelf
theorem jvS (p:TnP) (b:Nat) (s:jcL) (kind:Int) (w:World) (h:TnIn w b p) (N:GW w) (P:GT w) :
  Calls Tryz.prog 11 #[.pointer (some ⟨b,0,none⟩),.string s.1,.int .i64 kind] w (jel kind (jbm p.tab s) (jaG p.tab kind (jbb p.tab s)) w):=by
 obtain⟨F,S,G,A,U⟩:=jab w zsV 44;have B:=h.go A;have M:=Lib.hid (jon s kind p.m p.ta p.m.length p.tc F B.at_.tab B.at_.fit (fun _ x C=>(B.at_.qt.good x C).sk) (N.below A) (P.go A));have t0:F.cell? ⟨b,0,none⟩=some (.slice p.ta p.m.length p.tc):=cCc B.box 0
 have I:Hid (∀ e w',jel kind (jbm (p.m.map (·.1)) s) (jaG (p.m.map (·.1)) kind (jbb (p.m.map (·.1)) s)) F e w'->∃ (y:Sk) (u:SS) (V:World) (n:Int),e=.returned (.tuple #[.agg (skv y u),.int .i64 n])/\Hid (w'.heap[w.heap.size]? = some (.cells zsV 44 (0,0))) /\
   (((((((((w'.setCell ⟨w.heap.size,0,none⟩ (.int .i64 y.kind)).setCell ⟨w.heap.size,1,none⟩ (.int .i64 y.level)).setCell ⟨w.heap.size,2,none⟩ (.slice u.ea u.el u.ec)).setCell ⟨w.heap.size,3,none⟩ (.int .i64 y.hb)).setCell ⟨w.heap.size,4,none⟩ (.string y.hr)).setCell ⟨w.heap.size,5,none⟩ (.int .i64 y.cr)).setCell ⟨w.heap.size,6,none⟩ (.int .i64 y.cc)).setCell ⟨w.heap.size,7,none⟩ (.slice u.ca u.cl u.cc)).setCell ⟨w.heap.size,8,none⟩ (.int .i64 y.gf)).setCell ⟨w.heap.size,9,none⟩ (.slice u.ga u.gl u.gc)=V /\
   Hid (V.heap[w.heap.size]? = some (.cells (skv y u) 44 (0,0)))/\Hid (jel kind (jbm p.tab s) (jaG p.tab kind (jbb p.tab s)) w (.returned (.tuple #[.agg (skv y u),.int .i64 n])) V)):=fun e w' T=>by
  obtain⟨y,u,Y,rfl,X,hb⟩:=T;have C:=known hb (Nat.le_refl _) G;obtain⟨V,O,D,L,J⟩:=ja9 (.int .i64 y.kind) (.int .i64 y.level) (.slice u.ea u.el u.ec) (.int .i64 y.hb) (.string y.hr) (.int .i64 y.cr) (.int .i64 y.cc) (.slice u.ca u.cl u.cc) (.int .i64 y.gf) (.slice u.ga u.gl u.gc) C;exact⟨y,u,V,_,rfl,C,O,D,y,u,Y,rfl,jdP X C (fun i v=>jcd v) L,J _ _ (A.trans (hb.mono A.size)) (Nat.le_refl _)⟩
 generalize jel kind (jbm (p.m.map (·.1)) s) (jaG (p.m.map (·.1)) kind (jbb (p.m.map (·.1)) s)) F=E at M I;generalize jel kind (jbm p.tab s) (jaG p.tab kind (jbb p.tab s)) w=Q at I ⊢;clear h N P G A B;go_enter Tryz.func11,Tryz.ntmps11;go_wp2_with (go_at_call 26;refine (jhQ b 0 F).mono ?_;rintro e w1 ⟨rfl,rfl⟩);refine M.out.mono ?_;intro e q H;obtain⟨y,u,V,n,rfl,C,O,D,R⟩:=I.out e q H;obtain⟨r,c1,c2,c3,c4,c5,t,z,c8,c9⟩:=jbg C.out;obtain⟨f0,f1,f2,f3,f4,f5,f6,f7,f8,f9⟩:=jft C.out;obtain⟨Z,a,c,d,f,g,j,k,l,o⟩:=jbg D.out;clear H;go_wp2_with fail;exact bodyPost_ret (v:=.tuple #[.agg (skv y u),.int .i64 n]) (by simp[results,Tryz.results11,go_sem,Z,a,c,d,f,g,j,k,l,o]) rfl R.out
def jpL (kind:Int) (S:List (Nat × Bd)) (h:Nat):Int:=(jdk kind.toNat S).2.ask h
theorem jpj (p:TnP) (b:Nat) (s:jcL) (kind:Int) (H:Nat) (x0 x1 x2 x3 D:Nat) (v:Int) (W:World) (h:TnIn W b p) (hG:GW W) (hg:GT W) (ac:H<2^64)
  (q:W.heap[x0]? = some (.cells #[.pointer (some ⟨b,0,none⟩)] 24 (0,0))) (t:W.heap[x1]? = some (.cells #[.string s.1] 9 (0,0))) (z:W.heap[x2]? = some (.cells #[.int .i64 kind] 3 (0,0))) (h3:W.heap[x3]? = some (.cells #[.int .u64 H] 22 (0,0))) (l:W.heap[D]? = some (.cells #[.int .u64 v] 22 (0,0)))
  (af:D≠b) (ho:p.Off (· ≠ D)) :
  Calls Tryz.prog 22 #[.pointer (some ⟨x0,0,none⟩),.pointer (some ⟨x1,0,none⟩),.pointer (some ⟨x2,0,none⟩),.pointer (some ⟨x3,0,none⟩),.pointer (some ⟨D,0,none⟩)] W (StepPost p b (fun k=>k≠b/\k≠D) (jgP (jbm p.tab s) kind) (fun C R=>C.tab=p.tab/\R.heap[D]? = some (.cells #[.int .u64 (jpL kind (jaG p.tab kind (jbb p.tab s)) H)] 22 (0,0))) W):=by
 have d:=Lib.hid (jvS p b s kind W h hG hg);have Y:∀ x∈p.tab,SkGood x.sk:=fun x hx=>(h.at_.qt.good x hx).sk
 have P:Hid (∀ k:Nat,k=1\/k=2\/k=3->(jdk k (jaG p.tab (k:Int) (jbb p.tab s))).2.Ok k (jdk k (jaG p.tab (k:Int) (jbb p.tab s))).1):=fun k m=>joh m (jlG Y _)
 generalize jbb p.tab s=M at d P ⊢;generalize jbm p.tab s=E at d ⊢;have c0:=cCc q 0;have c1:=cCc t 0;have c2:=cCc z 0;simp at c0 c1 c2;have ag:=(Array.getElem?_eq_some_iff.1 l).1
 have f:Hid (∀ e O,jel kind E (jaG p.tab kind M) W e O->∃ (y:Sk) (u:SS),e=.returned (.tuple #[.agg (skv y u),.int .i64 (jgP E kind)])/\Hid (y=jne kind E (jaG p.tab kind M))/\Hid (u.At O.heap.size O y)/\Hid (Bw W O)):=fun e O hp=>by
  obtain⟨y,u,hy,rfl,hu,hb⟩:=hp;exact⟨y,u,rfl,hy,hu,hb⟩
 generalize jel kind E (jaG p.tab kind M) W=PE at d f;by_cases Z:jgP E kind=0
 ·obtain⟨rfl,k,rfl,m⟩:=jxB Z
  have o:=Lib.hid (jn7 (S:=jaG p.tab (k:Int) M) m);rw[Z] at f
  have X:Hid (∀ B,Bw W B->Hid (B.cell? ⟨D,0,none⟩=some (.int .u64 v)/\B.frozen? ⟨D,0,none⟩=false/\B.cell? ⟨x3,0,none⟩=some (.int .u64 H))/\Hid (StepPost p b (fun k=>k≠b/\k≠D) 0 (fun C R=>C.tab=p.tab/\R.heap[D]? = some (.cells #[.int .u64 (jpL k (jaG p.tab (k:Int) M) H)] 22 (0,0))) W (.returned (.int .i64 0)) (B.setCell ⟨D,0,none⟩ (.int .u64 (jpL k (jaG p.tab (k:Int) M) H))))):=fun B hb=>by
   have c:=known hb (Nat.le_refl _) l;refine⟨⟨cCc c 0,cFz c 0,cCc (known hb (Nat.le_refl _) h3) 0⟩,(Kept.of hb).set (fun _ h=>h.2 rfl) _ _,rfl,?_⟩;have ad:Kept (· ≠ D) B (B.setCell ⟨D,0,none⟩ (.int .u64 (jpL k (jaG p.tab (k:Int) M) H))):=Kept.refl.set (fun _ h=>h rfl) _ _;exact⟨p,(h.go hb).keep ad (Ne.symm af) ho,rfl,rfl,rfl,fun r hr _=>hr,rfl,hSk c _⟩
  have HB:=Lib.hid (P.out k m);rw[Z]
  have HW:Hid (∀ (B:World) (y:Sk) (u:SS),y=jne (k:Int) 0 (jaG p.tab (k:Int) M)->u.At B.heap.size B y->Calls Tryz.prog 23 #[.agg (skv y u),.int .u64 H] B (jeh (jpL k (jaG p.tab (k:Int) M) H) B)):=fun B y u hy hu=>by
   have h9:=jvK (h:=H) HB.out ac (v:=.agg (skv y u)) (w:=B) ⟨y,u,hy.trans o.out.2,rfl,hu⟩;exact h9
  generalize jpL k (jaG p.tab (k:Int) M) H=V at X HW ⊢;generalize StepPost p b (fun k=>k≠b/\k≠D) 0 (fun C R=>C.tab=p.tab/\R.heap[D]? = some (.cells #[.int .u64 V] 22 (0,0))) W=Q at X ⊢;clear h hG hg q t z h3 l Y P Z;go_enter Tryz.func22,Tryz.ntmps22
  go_wp2_with
   (go_at_call 11
    refine d.out.mono ?_;intro e O L;obtain⟨y,u,rfl,HY,HU,F⟩:=f.out e O L;obtain⟨W3,ab,A,G,a⟩:=jab O zsV 44;obtain⟨z0,z1,z2,z3,z4,z5,z6,z7,z8,z9⟩:=jbg A;obtain⟨f0,f1,f2,f3,f4,f5,f6,f7,f8,f9⟩:=jft A;obtain⟨g,aa,U,T,J⟩:=ja9 (.int .i64 y.kind) (.int .i64 y.level) (.slice u.ea u.el u.ec) (.int .i64 y.hb) (.string y.hr) (.int .i64 y.cr) (.int .i64 y.cc) (.slice u.ca u.cl u.cc) (.int .i64 y.gf) (.slice u.ga u.gl u.gc) A;have I:Hid (Bw W g):=J _ _ (F.out.trans (G.mono F.out.size)) F.out.size;have n:=Lib.hid (HW.out g y u HY.out (jdP (HU.out.go G) A (fun i v=>jcd v) T));obtain⟨k0,k1,k2,k3,k4,k5,k6,k7,k8,k9⟩:=jbg U;have j3:=(X.out g I.out).1.out.2.2;clear L A G a U T J)
  refine n.out.mono ?_;rintro e B ⟨rfl,j⟩;obtain⟨HZ,HQ⟩:=X.out B (I.out.trans (j.mono I.out.size));obtain⟨l4,m4,-⟩:=HZ.out;clear j;go_wp2_with fail;exact HQ.out
 ·have ae:(jgP E kind==0)=false:=by simpa using Z
  have X:Hid (∀ B,Bw W B->StepPost p b (fun k=>k≠b/\k≠D) (jgP E kind) (fun C R=>C.tab=p.tab/\R.heap[D]? = some (.cells #[.int .u64 (jpL kind (jaG p.tab kind M) H)] 22 (0,0))) W (.returned (.int .i64 (jgP E kind))) B):=fun B hb=>by
   refine⟨.of hb,rfl,?_⟩;rw[if_neg Z];exact⟨p,rfl,known hb (Nat.le_refl _) h.box⟩
  generalize StepPost p b (fun k=>k≠b/\k≠D) (jgP E kind) (fun C R=>C.tab=p.tab/\R.heap[D]? = some (.cells #[.int .u64 (jpL kind (jaG p.tab kind M) H)] 22 (0,0))) W=Q at X ⊢;generalize jgP E kind=N at f X ae ⊢;clear h hG hg q t z h3 l Y P Z;go_enter Tryz.func22,Tryz.ntmps22
  go_wp2_with
   (go_at_call 11
    refine d.out.mono ?_;intro e O L;obtain⟨y,u,rfl,HY,HU,F⟩:=f.out e O L;obtain⟨W3,ab,A,G,a⟩:=jab O zsV 44;obtain⟨z0,z1,z2,z3,z4,z5,z6,z7,z8,z9⟩:=jbg A;obtain⟨f0,f1,f2,f3,f4,f5,f6,f7,f8,f9⟩:=jft A;obtain⟨g,aa,U,T,J⟩:=ja9 (.int .i64 y.kind) (.int .i64 y.level) (.slice u.ea u.el u.ec) (.int .i64 y.hb) (.string y.hr) (.int .i64 y.cr) (.int .i64 y.cc) (.slice u.ca u.cl u.cc) (.int .i64 y.gf) (.slice u.ga u.gl u.gc) A;have I:Hid (Bw W g):=J _ _ (F.out.trans (G.mono F.out.size)) F.out.size;clear L A G a U T J)
  exact X.out _ I.out
def jcf:ByteArray:=⟨#[113,117,101,114,121]⟩
def jek (now:Int) (p:TnP) (b:Nat) (sn V:Int) (w:World) (e:Ending) (w':World):Prop :=
 Kept (· ≠ b) w w'/\if doN p now sn jcf=0 then e=.returned (.tuple #[.int .u64 V,.int .i64 0])/\∃ p'',TnIn w' b p''/\p''.tab=p.tab/\p''.lg=jbU (jal p.A p.B) p.lg now jcf/\p''.tm=now/\p''.cf=p.cf/\∀ q:Nat->Prop,p.Off q->(∀ k,w.heap.size<=k->q k)->p''.Off q
  else e=.returned (.tuple #[.int .u64 0,.int .i64 (doN p now sn jcf)])/\TnIn w' b p
theorem jhd (A:Int) (p:TnP) (b:Nat) (s:jcL) (kind:Int) (i:Nat) (w:World) (h:TnIn w b p) (hG:GW w) (hg:GT w) (af:4<=b) (T:U64 A) (ab:∀ x∈p.tab,jdq A p.life x=false) (u:i<2^64) :
  Calls Tryz.prog 8 #[.pointer (some ⟨b,0,none⟩),.int .u64 A,.string s.1,.int .i64 kind,.int .u64 i] w (jek A p b (jgP (jbm p.tab s) kind) (jpL kind (jaG p.tab kind (jbb p.tab s)) i) w):=by
 have av:∀ (fn:Fn) (first cap:Array Value) (w:World),(Instr.makeFunc fn first cap).run Tryz.prog w=.ok (.func fn first cap) w:=fun _ _ _ _=>rfl
 obtain⟨W0,ao,Z,n,o,X,ak⟩:=jbF w #[.pointer (some ⟨b,0,none⟩)] 24 #[.string s.1] 9 #[.int .i64 kind] 3;obtain⟨W1,ap,a,c,F,aw⟩:=jas W0 #[.int .u64 i] 22 #[.int .u64 0] 22;rw[ak] at a c;obtain⟨H,aq,d,G,al⟩:=jab W1 #[.func (.func 22) #[] #[.pointer (some ⟨w.heap.size,0,none⟩),.pointer (some ⟨w.heap.size+1,0,none⟩),.pointer (some ⟨w.heap.size+1+1,0,none⟩),.pointer (some ⟨w.heap.size+3,0,none⟩),.pointer (some ⟨w.heap.size+3+1,0,none⟩)]] 69;rw[show W1.heap.size=w.heap.size+3+2 by omega] at d;have C:Bw w H:=X.trans ((F.trans (G.mono F.size)).mono X.size);have ar:=h.lt;have t0:=cCc (known F (Nat.le_refl _) Z) 0;simp at t0;have y0:=known G (Nat.le_refl _) (known F (Nat.le_refl _) Z);have y1:=known G (Nat.le_refl _) (known F (Nat.le_refl _) n);have y2:=known G (Nat.le_refl _) (known F (Nat.le_refl _) o);have y3:=known G (Nat.le_refl _) a;have y4:=known G (Nat.le_refl _) c;have ax:H.heap.size=w.heap.size+6:=by omega
 obtain⟨V,hV⟩:∃ V,jpL kind (jaG p.tab kind (jbb p.tab s)) i=V:=⟨_,rfl⟩;obtain⟨N,Y⟩:∃ N,jgP (jbm p.tab s) kind=N:=⟨_,rfl⟩;rw[hV,Y]
 have HD:=Lib.hid (jvd A jcf p b (fun k=>k≠b/\k≠w.heap.size+3+1) N (fun B L=>(B.tab=p.tab/\L.heap[w.heap.size+3+1]? = some (.cells #[.int .u64 V] 22 (0,0)))/\B.tm=A/\∀ r:Nat->Prop,p.Off r->(∀ k,H.heap.size<=k->r k)->B.Off r) H 22 (w.heap.size+3+2) 0 1 _ (h.go C) (hG.below C) af T ab (by decide)
  (fun k D=>D.1) (fun k D=>⟨by omega,by omega⟩) ⟨fun z g j=>⟨h.off.t z g j,by have:=(h.at_.tab.row.2.2.2.2 z g j).2;omega⟩,fun e f=>(h.off.m e f).and ((h.at_.tab.at_ e f).off.imp fun k D=>by omega),fun z g j=>⟨h.off.l z g j,by have:=(h.at_.log.2.2.2.2 z g j).2;omega⟩⟩ (cCc d 0) (by omega) (enters_of Tryz.func22 (by kernel_rfl) rfl) (fun p' W P=>by
   obtain⟨a1,a2,a3⟩:=P.parts;obtain⟨b1,b2,b3,ae⟩:=P.says;have v:Kept (· ≠ b) w W:=Kept.trans (.of C) P.kept
   have U:=jpj p' b s kind i w.heap.size (w.heap.size+1) (w.heap.size+1+1) (w.heap.size+3) (w.heap.size+3+1) 0 W ae (hG.keep v fun k D=>by omega) (hg.keep v fun k D=>by omega) u
    (P.kept.known (by show w.heap.size≠b;omega) y0) (P.kept.known (by show w.heap.size+1≠b;omega) y1) (P.kept.known (by show w.heap.size+1+1≠b;omega) y2) (P.kept.known (by show w.heap.size+3≠b;omega) y3) (P.kept.known (by show w.heap.size+3+1≠b;omega) y4) (by omega)
    (a3 _ (h.at_.off.imp fun k D=>by omega) (fun k D=>by omega))
   rw[a1,hV,Y] at U;refine U.mono ?_;intro e L I;exact I.mono fun B an c1 c2 c3 c4=>⟨⟨c4.1,c4.2⟩,c2.trans b2,fun r hr y=>c3 r (a3 r hr y) (fun k D=>y k (by have:=P.kept.size;omega))⟩))
 have O:Hid (∀ w',Kept (fun k=>k≠b/\k≠w.heap.size+3+1) H w'->Kept (· ≠ b) w w'):=fun w' D=>⟨D.os.trans C.os,D.tape.trans C.tape,D.output.trans C.output,Nat.le_trans C.size D.size,fun k h1 h2=>(D.block k (Nat.lt_of_lt_of_le h1 C.size) ⟨h2,by omega⟩).trans (C.block k h1)⟩
 have HT:=Lib.hid h;clear Z n o a c d X F G C al y0 y1 y2 y3 y4 h hG hg ab T u hV Y;by_cases S:doN p A N jcf=0
 ·have R:Hid (∀ e w',jei A jcf p b (fun k=>k≠b/\k≠w.heap.size+3+1) N (fun B L=>(B.tab=p.tab/\L.heap[w.heap.size+3+1]? = some (.cells #[.int .u64 V] 22 (0,0)))/\B.tm=A/\∀ r:Nat->Prop,p.Off r->(∀ k,H.heap.size<=k->r k)->B.Off r) H e w'->e=.returned (.int .i64 0)/\w'.cell? ⟨w.heap.size+3+1,0,none⟩=some (.int .u64 V)/\Hid (jek A p b N V w (.returned (.tuple #[.int .u64 V,.int .i64 0])) w')):=fun e w' I=>by
   obtain⟨D,f,I⟩:=I;rw[if_pos S] at I;rw[S] at f;obtain⟨B,la,lc,W,⟨⟨ac,ad⟩,am,aa⟩,ah,hT,ag,ai⟩:=I;have au:=(Array.getElem?_eq_some_iff.1 ad).1;refine⟨f,cCc (ah.known ⟨by show w.heap.size+3+1≠b;omega,by show w.heap.size+3+1≠H.heap.size+1;omega⟩ ad) 0,O.out _ D,?_⟩;rw[if_pos S];refine⟨rfl,_,hT,ac,rfl,am,ag,fun q hq y=>?_⟩;have h8:=aa q hq (fun k D=>y k (by omega));exact⟨h8.t,h8.m,fun z g _=>y _ (by have:=ai z g;omega)⟩
  generalize jei A jcf p b (fun k=>k≠b/\k≠w.heap.size+3+1) N (fun B L=>(B.tab=p.tab/\L.heap[w.heap.size+3+1]? = some (.cells #[.int .u64 V] 22 (0,0)))/\B.tm=A/\∀ r:Nat->Prop,p.Off r->(∀ k,H.heap.size<=k->r k)->B.Off r) H=E at HD R;generalize jek A p b N V w=Q at R ⊢;clear S HT O;go_enter Tryz.func8,Tryz.ntmps8
  go_wp2_with
   (go_at_call 19
    refine HD.out.mono ?_;intro e w9 J;obtain⟨rfl,j0,HQ⟩:=R.out e w9 J;clear J)
  exact HQ.out
 ·have R:Hid (∀ e w',jei A jcf p b (fun k=>k≠b/\k≠w.heap.size+3+1) N (fun B L=>(B.tab=p.tab/\L.heap[w.heap.size+3+1]? = some (.cells #[.int .u64 V] 22 (0,0)))/\B.tm=A/\∀ r:Nat->Prop,p.Off r->(∀ k,H.heap.size<=k->r k)->B.Off r) H e w'->e=.returned (.int .i64 (doN p A N jcf))/\Hid (jek A p b N V w (.returned (.tuple #[.int .u64 0,.int .i64 (doN p A N jcf)])) w')):=fun e w' I=>by
   obtain⟨D,f,I⟩:=I;rw[if_neg S] at I;refine⟨f,O.out _ D,?_⟩;rw[if_neg S];exact⟨rfl,I⟩
  have aj:(doN p A N jcf != 0)=true:=by simpa using S
  generalize jei A jcf p b (fun k=>k≠b/\k≠w.heap.size+3+1) N (fun B L=>(B.tab=p.tab/\L.heap[w.heap.size+3+1]? = some (.cells #[.int .u64 V] 22 (0,0)))/\B.tm=A/\∀ r:Nat->Prop,p.Off r->(∀ k,H.heap.size<=k->r k)->B.Off r) H=E at HD R;generalize jek A p b N V w=Q at R ⊢;generalize doN p A N jcf=M at R aj;clear S HT O;go_enter Tryz.func8,Tryz.ntmps8
  go_wp2_with
   (go_at_call 19
    refine HD.out.mono ?_;intro e w9 J;obtain⟨rfl,HQ⟩:=R.out e w9 J;clear J)
  exact HQ.out
theorem jw0 (p:TnP) (b:Nat) (w:World) (h:TnIn w b p) (B:GW w):CR 15 #[.pointer (some ⟨b,0,none⟩)] w (.int .i64 (jbs p.tab)):=by
 have A:=Lib.hid (jdc p.m p.ta p.m.length p.tc w h.at_.tab h.at_.fit B);have D:w.cell? ⟨b,0,none⟩=some (.slice p.ta p.m.length p.tc):=cCc h.box 0;have e:jbs (p.m.map (·.1))=jbs p.tab:=rfl;rw[e] at A;generalize jbs p.tab=c at A ⊢;clear h B e;go_enter Tryz.func15,Tryz.ntmps15
 go_wp2_with
  (first
   | (go_at_call 26;refine (jhQ b 0 w).mono ?_;rintro e C ⟨rfl,rfl⟩)
   | (go_at_call 32;refine A.out.mono ?_;rintro e C ⟨rfl,hb⟩))
 go_ret;exact⟨rfl,hb⟩
theorem jvL (q:Int) (p:TnP) (b:Nat) (w:World) (h:TnIn w b p) (C:p.lg.l.length<4294967):Calls Tryz.prog 14 #[.pointer (some ⟨b,0,none⟩),.int .u64 q] w fun e w'=>∃ A B,e=.returned (.slice A (jdi q p.lg.l).length B)/\jii w'.heap.size w' A (jdi q p.lg.l).length B (jdi q p.lg.l)/\(∀ z,A=some z->w.heap.size<=z.block)/\Bw w w':=by
 have D:=Lib.hid (js3 q p.lg.before p.lg.l p.la p.lg.l.length p.lc w h.at_.log C);have H:w.cell? ⟨b,3,none⟩=some (.int .u64 p.lg.before):=cCc h.box 3;have I:w.cell? ⟨b,4,none⟩=some (.slice p.la p.lg.l.length p.lc):=cCc h.box 4;clear h C;go_enter Tryz.func14,Tryz.ntmps14
 go_wp2_with
  (first
   | (go_at_call 26;refine (jhQ b 0 w).mono ?_;rintro e G ⟨rfl,rfl⟩)
   | (go_at_call 31;refine D.out.mono ?_;rintro e G ⟨A,B,rfl,E,F,hb⟩))
 go_ret;exact⟨A,B,rfl,E,F,hb⟩
def tn0 (id bud life A B:Int):TnP:=⟨[],none,0,1,none,0,0,⟨0,[]⟩,none,0,0,id,bud,life,A,B⟩
theorem jxD (E C D A B:Int) (w:World) (h:jbO C=true):(tn0 E C D A B).At w :=
 ⟨Tab.nil,⟨rfl,(fun x h=>by cases h)⟩,SlC.nil,(fun x h=>by cases h),⟨Int.le_refl 0,by show (0:Int)<=18446744073709551615;decide⟩,⟨Int.le_refl 0,by show (0:Int)<=18446744073709551615;decide⟩,h⟩
theorem jsy (E D C A B:Int) (q:Nat->Prop):(tn0 E D C A B).Off q:=⟨(fun z h=>by cases h),(fun e h=>by cases h),(fun z h=>by cases h)⟩
theorem jl2 (I C D A B:Int) (w:World) (N:0<=C) (O:C<=1000000) :
  Calls Tryz.prog 17 #[.agg #[.int .u64 I,.int .i64 C,.int .u64 D],.agg #[.int .u64 A,.int .u64 B]] w fun e w'=>∃ b,e=.returned (.tuple #[.pointer (some ⟨b,0,none⟩),.int .i64 0])/\w.heap.size<=b/\TnIn w' b (tn0 I C D A B)/\Bw w w':=by
 obtain⟨U,a,L,M,G,g⟩:=jas w #[.int .u64 I,.int .i64 C,.int .u64 D] 60 #[.int .u64 A,.int .u64 B] 57;obtain⟨h,c1,c2⟩:=cl3 L;obtain⟨m,n⟩:=cl2 M;have j:decide (C<0)=false:=decide_eq_false (by omega);have k:decide (1000000<C)=false:=decide_eq_false (by omega);have P:jbO C=true:=by simp[jbO,N,O]
 have Z:=Lib.hid (fun W=>jjF W);obtain⟨X,c,H,J,R⟩:=jab U #[.slice none 0 0,.int .u64 0,.slice none 0 0,.int .u64 0,.slice none 0 0,.int .u64 0,.int .u64 I,.int .i64 C,.int .u64 D,.int .u64 A,.int .u64 B] 81;have E:Bw w X:=G.trans (J.mono G.size);have S:U.heap.size=w.heap.size+2:=by omega
 rw[S] at H
 have Y:Hid (∀ F,Bw X F->F.cell? ⟨w.heap.size+2,1,none⟩=some (.int .u64 0)/\F.cell? ⟨w.heap.size+2,2,none⟩=some (.slice none 0 0)/\F.frozen? ⟨w.heap.size+2,1,none⟩=false/\F.frozen? ⟨w.heap.size+2,2,none⟩=false/\∃ V,(F.setCell ⟨w.heap.size+2,1,none⟩ (.int .u64 1)).setCell ⟨w.heap.size+2,2,none⟩ (.slice none 0 0)=V/\Hid (TnIn V (w.heap.size+2) (tn0 I C D A B)/\Bw w V)):=fun F hb=>by
  have Q:=known hb (Nat.le_refl _) H;refine⟨cCc Q 1,cCc Q 2,cFz Q 1,cFz Q 2,_,rfl,⟨hSk (hSk Q (i:=1) (.int .u64 1)) (i:=2) (.slice none 0 0),jxD I C D A B _ P,jsy ..⟩,?_⟩;exact ((E.trans (hb.mono E.size)).setCell (p:=⟨w.heap.size+2,1,none⟩) (by show w.heap.size<=w.heap.size+2;omega) _).setCell (p:=⟨w.heap.size+2,2,none⟩) (by show w.heap.size<=w.heap.size+2;omega) _
 have d:¬ C<0:=by omega
 have f:¬ 1000000<C:=by omega
 clear L M H G J E P N O R;go_enter Tryz.func17,Tryz.ntmps17
 go_wp2_with
  (go_at_call 36
   refine (Z.out _).mono ?_;rintro e F ⟨rfl,hb⟩;obtain⟨o,q,r,s,V,l,T⟩:=Y.out F hb;clear hb)
 exact bodyPost_ret (v:=.tuple #[.pointer (some ⟨w.heap.size+2,0,none⟩),.int .i64 0]) (by simp[results,Tryz.results17,go_sem]) rfl ⟨_,rfl,by omega,T.out.1,T.out.2⟩
def axS:ByteArray:=⟨#[97,61,120]⟩
def shL:List Lab:=[⟨⟨#[97]⟩,⟨#[120]⟩⟩]
def jjb:List Ser:=[⟨shL,jcy 1 0 (.num [5,6]),3⟩]
def jo5:List (Nat × Int):=[(5,0),(5,0),(6,0)]
def joq:jcL:=⟨⟨#[97,61,42]⟩,by decide⟩
def noS:jcL:=⟨⟨#[]⟩,by decide⟩
theorem jpq:jbP axS=some shL:=by kernel_rfl
theorem juO:jed [] shL 1 3 jo5=⟨shL,jcy 1 0 (.num [5,6]),3⟩:=by kernel_rfl
theorem juN:jce [] ⟨shL,jcy 1 0 (.num [5,6]),3⟩=true:=by kernel_rfl
theorem jsd:jf3 [] ⟨shL,jcy 1 0 (.num [5,6]),3⟩=jjb:=by kernel_rfl
theorem jlQ:jbs jjb=35:=by kernel_rfl
theorem juL:fit 1000 jjb=some (jjb,[]):=jeR (by
 have h:jbs jjb=jbh jjb:=by unfold jbs;rw[show jaj jjb=true by kernel_rfl];rfl
 rw[<- h,jlQ];decide)
theorem jse:jdj [] 3 1000 axS 1 jo5=.ok (jjb,[]):=by
 unfold jdj;rw[if_neg (by decide),jpq];show jdL [] 3 1000 1 jo5 shL=_;unfold jdL;rw[if_pos (show jcm 1=true from rfl),show jdC [] shL 1=false by kernel_rfl];rw[show Int.toNat 1=1 from rfl,juO,jsd,juL,if_neg (by decide),if_pos juN]
theorem jsc:jbm jjb joq=0:=by kernel_rfl
theorem jpp:jbb jjb joq=[0]:=by kernel_rfl
theorem jn0:jgP (jbm jjb joq) 1=0/\jpL 1 (jaG jjb 1 (jbb jjb joq)) 0=2:=by
 rw[jsc,jpp];exact⟨by kernel_rfl,by kernel_rfl⟩
def jvj:Lg:=jbU (jal 1 2) ⟨0,[]⟩ 3 jbK
theorem jn1:jih (jal 1 2) ⟨0,[]⟩ 3 jbK=true:=by kernel_rfl
theorem jsb:jih (jal 1 2) jvj 3 jcf=true:=by
 have h:jmI (jal 1 2) jvj=true:=ji5 jn1 (fun x h=>by cases h);unfold jih;rw[h];rfl
theorem juM (l:List Ent) (h:l=(jbU (jal 1 2) jvj 3 jcf).l):(jdi 0 l).length=2:=by rw[h];rfl
theorem juI:doN (tn0 1 1000 10 1 2) 3 0 jbK=0:=by
 unfold doN;rw[if_neg (by decide),if_pos rfl];exact if_pos jn1
theorem jsa {p:TnP} (h:p.cf=(tn0 1 1000 10 1 2).cf):p.A=1/\p.B=2:=by
 simp only[TnP.cf,tn0,Prod.mk.injEq] at h;exact h.2.2.2
theorem juJ {p:TnP} (C:p.cf=(tn0 1 1000 10 1 2).cf) (D:p.lg=jvj) (ht:p.tm=3):doN p 3 0 jcf=0:=by
 obtain⟨A,B⟩:=jsa C;unfold doN;rw[A,B,D,ht,if_neg (by decide),if_pos rfl];exact if_pos jsb
theorem juK {p:TnP} (ht:p.tm=3) (A:Int):doN p 2 A jcf=140:=by
 unfold doN;rw[ht];rfl
theorem jjc {B A:Int} (h:B<=3):∀ x∈jjb,jdq B A x=false:=fun x C=>by
 rw[List.mem_singleton.1 C];simp[jdq];omega
theorem jhZ (w:World) (hG:GW w) (hg:GT w):CR 5 #[] w (.bool true):=by
 have ac:=Lib.hid (jl2 1 1000 10 1 2 w (by decide) (by decide));have U:Hid (∀ W,Bw w W->GW W/\GT W):=fun W hb=>⟨hG.below hb,hg.go hb⟩
 have al:=hG.size;clear hG hg;go_enter Tryz.func5,Tryz.ntmps5;go_wp2_with fail;refine ac.out.mono ?_;rintro e o ⟨b,rfl,ak,V,Y⟩;obtain⟨W2,aj,m,X,an⟩:=jab o #[.int .u64 5,.int .u64 0,.int .u64 5,.int .u64 0,.int .u64 6,.int .u64 0] 66;have G:=Y.trans (X.mono Y.size);have HK:Hid (∀ A B,Bw w A->Kept (· ≠ b) A B->Bw w B):=fun A B hA R=>hA.trans (R.below (fun k R=>by omega) hA.size)
 have ab:Hid (Calls Tryz.prog 6 #[.pointer (some ⟨b,0,none⟩),.int .u64 3,.string axS,.int .i64 1,.slice (some ⟨o.heap.size,0,none⟩) 3 3] W2 fun e L=>∃ (F:TnP) (p:Option Addr) (q:Nat),e=.returned (.tuple #[.slice p 0 q,.int .i64 0])/\Hid (Bw w L)/\Hid (TnIn L b F/\F.tab=jjb/\F.lg=jvj/\F.tm=3/\F.cf=(tn0 1 1000 10 1 2).cf)):=by
  have am:=V.lt
  have P:=jiD 3 (tn0 1 1000 10 1 2) b axS 1 jo5 (some ⟨o.heap.size,0,none⟩) 3 W2 (V.go X) (U.out _ G).1 (U.out _ G).2 (by omega) ⟨by decide,by decide⟩ (fun x D=>by cases D) (by decide)
   ⟨rfl,fun j x D=>⟨o.heap.size,0,rfl,by omega,fun i hi=>by
    rw[cCc m]
    match j,i,D,hi with
    | 0,0,D,_=>cases D;rfl
    | 0,1,D,_=>cases D;rfl
    | 1,0,D,_=>cases D;rfl
    | 1,1,D,_=>cases D;rfl
    | 2,0,D,_=>cases D;rfl
    | 2,1,D,_=>cases D;rfl⟩⟩ (fun z hz _=>by cases hz;show o.heap.size≠b;omega) (fun x D=>by
     simp only[jo5,List.mem_cons,List.not_mem_nil,or_false] at D;rcases D with rfl | rfl | rfl<;>exact⟨by decide,by decide,by decide⟩) (fun x D=>by cases D) (by decide)
  rw[show jdj (tn0 1 1000 10 1 2).tab 3 (tn0 1 1000 10 1 2).bud axS 1 jo5=.ok (jjb,[]) from jse] at P;refine P.mono ?_;intro e L H;obtain⟨R,H⟩:=H;rw[show tkN (.ok (jjb,[]))=0 from rfl,if_pos juI] at H;obtain⟨r,F,p,q,hr,Q,-,l,C,I,J,O,-⟩:=H
  cases hr
  exact⟨F,p,q,Q,HK.out _ _ G R,l,C,I,J,O⟩
 have ae:Hid (∀ L F,Bw w L->(TnIn L b F/\F.tab=jjb/\F.lg=jvj/\F.tm=3/\F.cf=(tn0 1 1000 10 1 2).cf)->Calls Tryz.prog 8 #[.pointer (some ⟨b,0,none⟩),.int .u64 3,.string joq.1,.int .i64 1,.int .u64 0] L fun e M=>e=.returned (.tuple #[.int .u64 2,.int .i64 0])/\Hid (Bw w M)/\∃ E:TnP,Hid (TnIn M b E/\E.tab=jjb/\E.lg=jbU (jal 1 2) jvj 3 jcf/\E.tm=3)):=fun L F hb h1=>by
  obtain⟨l,C,I,J,O⟩:=h1;have P:=jhd 3 F b joq 1 0 L l (U.out _ hb).1 (U.out _ hb).2 (by omega) ⟨by decide,by decide⟩ (by rw[C];exact jjc (by decide)) (by decide);rw[C,jn0.1,jn0.2] at P;refine P.mono ?_;intro e M H;obtain⟨R,H⟩:=H;rw[if_pos (juJ O I J)] at H;obtain⟨Q,E,ag,d,S,n,-,-⟩:=H;obtain⟨eA,eB⟩:=jsa O;rw[eA,eB,I] at S;exact⟨Q,HK.out _ _ hb R,E,ag,d.trans C,S,n⟩
 have af:Hid (∀ M E,Bw w M->(TnIn M b E/\E.tab=jjb/\E.lg=jbU (jal 1 2) jvj 3 jcf/\E.tm=3)->Calls Tryz.prog 8 #[.pointer (some ⟨b,0,none⟩),.int .u64 2,.string noS.1,.int .i64 1,.int .u64 0] M fun e f=>e=.returned (.tuple #[.int .u64 0,.int .i64 140])/\Hid (Bw w f)/\Hid (TnIn f b E)):=fun M E hb h2=>by
  obtain⟨l,C,I,J⟩:=h2;refine (jhd 2 E b noS 1 0 M l (U.out _ hb).1 (U.out _ hb).2 (by omega) ⟨by decide,by decide⟩ (by rw[C];exact jjc (by decide)) (by decide)).mono ?_;intro e f H;obtain⟨R,H⟩:=H;rw[juK J] at H;obtain⟨Q,ah⟩:=H;exact⟨Q,HK.out _ _ hb R,ah⟩
 clear V m X G Y;go_wp2_with fail;refine ab.out.mono ?_;rintro e L ⟨F,p,q,rfl,u,ad⟩;go_wp2_with fail;refine (ae.out L F u.out ad.out).mono ?_;rintro e M ⟨rfl,v,E,N⟩;go_wp2_with fail;refine (af.out M E v.out N.out).mono ?_;rintro e f ⟨rfl,T,h⟩
 have aa:Hid (CR 15 #[.pointer (some ⟨b,0,none⟩)] f (.int .i64 35)):=by
  have P:=jw0 E b f h.out (U.out _ T.out).1;rw[N.out.2.1,jlQ] at P;exact P
 have t:Hid (∀ w6,Bw f w6->Calls Tryz.prog 14 #[.pointer (some ⟨b,0,none⟩),.int .u64 0] w6 fun e w7=>∃ a c,e=.returned (.slice a 2 c)/\Hid (Bw w6 w7)):=fun w6 hb=>by
  refine (jvL 0 E b w6 (h.out.go hb) (by rw[N.out.2.2.1];decide)).mono ?_;rintro e w7 ⟨a,c,Q,-,-,ai⟩;rw[juM _ (by rw[N.out.2.2.1])] at Q;exact⟨a,c,Q,ai⟩
 go_wp2_with
  (first
   | (go_at_call 15;refine aa.out.mono ?_;rintro e w6 ⟨rfl,Z⟩;have s:=Lib.hid (t.out w6 Z);have g:=Lib.hid Z;clear Z)
   | (go_at_call 14;refine s.out.mono ?_;rintro e w7 ⟨a,c,rfl,y⟩))
 go_ret;exact⟨rfl,T.out.trans ((g.out.trans (y.out.mono g.out.size)).mono T.out.size)⟩
theorem jk5 (s:ByteArray) (w:World):CR 7 #[.string s] w (.string (jl8 300 s)):=by
 go_enter Tryz.func7,Tryz.ntmps7;go_wp2_with fail;go_ret;exact⟨rfl,Below.refl _ _⟩
end Go.Proofs.YtnegciklhanmbaaGreatDoor
