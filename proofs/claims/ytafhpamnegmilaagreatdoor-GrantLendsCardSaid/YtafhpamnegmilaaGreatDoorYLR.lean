/- Package ladder: a sketch as a value and its body at work. Package ladder: stores into a box, kept bodies and sketches; lowered at the bottom; told. Package ladder: to. Package ladder: New. Printed by gen_lj.py. Sketches at work as plain data: two merged. No program in sight. Laws of layer 10: items; New, whatever the kind. What rows have in common: sketches opened, with their counters' columns. Printed by gen_rkw.py. What rows have in common: series opened, with their sketches' columns. Printed by gen_rkt.py. Package ladder: told, Lower, To: the lists of what is told lie in new memory. Printed by gen_lr.py. -/
import Derived.Test.YtafhpamnegmilaaGreatDoorYP1
set_option maxHeartbeats 2000000
set_option maxRecDepth 100000
namespace Go.Proofs.YtafhpamnegmilaaGreatDoor
open Go Go.RowKit
section
open Go.Shelf
def jbu (kind level:Nat):Bd->Sk
 | .num l=>jaQ kind level l
 | .reg b r=>jbl kind level b (jap r)
 | .cnt c l=>jba kind level 2 c l
 | .bkt f l=>jbv kind level f l
theorem jwd (x:Sk):jaw x x=true:=by simp[jaw]
theorem jak (k L:Nat) (B:Bd):(jbu k L B).kind=k/\(jbu k L B).level=L:=by cases B<;>exact⟨rfl,rfl⟩
theorem jv0 {B:Bd} {k L:Nat} (h:B.Ok k L):k=1\/k=2\/k=3:=by
 cases B with
 | num l=>exact .inl h.1
 | reg b r=>exact .inl h.1
 | cnt c l=>exact .inr (.inl h.1)
 | bkt f l=>exact .inr (.inr h.1)
theorem jtw {c A:Nat} (h:c*2^A=32) (B:A<=3):((c:Int)==32 / 2^A)=true:=by
 rw[beq_iff_eq];rcases (by omega:A=0\/A=1\/A=2\/A=3) with rfl | rfl | rfl | rfl<;>simp at h ⊢<;>omega
theorem jpR {B:Bd} {k L:Nat} (h:B.Ok k L):ja9 (jbu k L B)=jbu k L B:=by
 cases B with
 | num l =>
  obtain⟨rfl,rfl,-⟩:=h;rfl
 | reg b r =>
  obtain⟨rfl,C,-⟩:=h;have A:(((L:Nat):Int)==0)=false:=by simp;omega
  show (if ((1:Nat):Int)==1 then if (L:Int)==0 then _ else _ else _)=_;rw[A];rfl
 | cnt c l =>
  obtain⟨rfl,-⟩:=h;rfl
 | bkt f l =>
  obtain⟨rfl,-⟩:=h;rfl
theorem jr4 {B:Bd} {k L:Nat} (h:B.Ok k L):jaM (jbu k L B)=true:=by
 cases B with
 | num l =>
  obtain⟨rfl,rfl,A,C,-⟩:=h;exact jcS l A C
 | reg b r =>
  obtain⟨rfl,H,D,A,C,E⟩:=h;have F:(((L:Nat):Int)==0)=false:=by simp;omega
  show (if ((1:Nat):Int)==1 then if (L:Int)==0 then _ else jaT (b:Int) (jap r)&&((b:Int)==8-(L:Int)) else _)=true;rw[F,jdo b r (by omega) (by omega) C E];simp;omega
 | cnt c l =>
  obtain⟨rfl,D,A,C,-⟩:=h;show (jaN 2 (c:Int) l&&((2:Int)==2)&&((c:Int)==32 / 2^((L:Int)).toNat))=true;rw[Int.toNat_natCast,jtw A D];unfold jaN;rw[je3 c (jhU A D)];simp;omega
 | bkt f l =>
  obtain⟨rfl,D,A,C,E,-,G⟩:=h;show (jaP (f:Int) l&&((f:Int)==3-(L:Int)))=true;rw[jd1 f l (by omega) C E G];simp;omega
theorem jgV {B:Bd} {k L:Nat} (h:B.Ok k L):jcc (jbu k L B)=true:=by
 unfold jcc;rw[jr4 h,jpR h,jwd,(jak k L B).1,(jak k L B).2,(jjt h).1];have A:=(jjt h).2;have C:=jv0 h;simp;omega
theorem jfm {B:Bd} {k L:Nat} (h:B.Ok k L):(jbu k L B).fit:=by
 cases B with
 | bkt f l =>
  obtain⟨rfl,D,E,F,G,-,C⟩:=h;exact fun b A=>(jhB f l (by omega) C b A).2
 | num l=>exact fun b A=>by cases A
 | reg b r=>exact fun b A=>by cases A
 | cnt c l=>exact fun b A=>by cases A
def SkB (W:World) (v:Value) (k L:Nat) (B:Bd):Prop:=∃ (y:Sk) (s:SS),y=jbu k L B/\v=.agg #[.int .i64 y.kind,.int .i64 y.level,.slice s.ea s.el s.ec,.int .i64 y.hb,.string y.hr,.int .i64 y.cr,.int .i64 y.cc,.slice s.ca s.cl s.cc,.int .i64 y.gf,.slice s.ga s.gl s.gc]/\s.At W.heap.size W y
theorem SkB.go {W A:World} {v:Value} {k L:Nat} {B:Bd} (h:SkB W v k L B) (F:Bw W A):SkB A v k L B:=by
 obtain⟨y,s,C,D,E⟩:=h;exact⟨y,s,C,D,E.go F⟩
theorem jsU {s:SS} {k L:Nat} {B:Bd} {n:Nat} {W:World} (h:B.Ok k L) (C:s.At n W (jbu k L B)):s.Short:=by
 have F:s.el=(jbu k L B).e.length:=C.e.1.1;have G:s.cl=(jbu k L B).cl.length:=C.c.1.1;have H:s.gl=(jbu k L B).gl.length:=C.g.1.1;unfold SS.Short;rw[F,G,H]
 cases B with
 | num l =>
  obtain⟨-,-,-,A,-⟩:=h;show l.length<_/\0<_/\0<_;omega
 | reg b r=>show 0<_/\0<_/\0<_;omega
 | cnt c l =>
  obtain⟨-,D,E,A,-⟩:=h;have:=jhU E D;show 0<_/\l.length<_/\0<_;omega
 | bkt f l =>
  obtain⟨-,D,E,A,-,-,I⟩:=h;have:=jfc f l (by omega) A I;show 0<_/\0<_/\l.length<_;omega
theorem jr3 {s:SS} {k L:Nat} {B:Bd} {W:World} (h:B.Ok k L) (A:s.At W.heap.size W (jbu k L B)):BdAt W (jcl (jbu k L B) s) B:=by
 cases B with
 | num l =>
  obtain⟨rfl,rfl,-⟩:=h;exact⟨s.ea,s.el,s.ec,rfl,A.e⟩
 | reg b r =>
  obtain⟨rfl,D,-⟩:=h;have C:(((L:Nat):Int)==0)=false:=by simp;omega
  show (if ((1:Nat):Int)==1 then if (L:Int)==0 then _ else _ else _)=_;rw[C];rfl
 | cnt c l =>
  obtain⟨rfl,-⟩:=h;exact⟨s.ca,s.cl,s.cc,rfl,A.c⟩
 | bkt f l =>
  obtain⟨rfl,-⟩:=h;exact⟨s.ga,s.gl,s.gc,rfl,A.g⟩
theorem jir {k L:Nat} {B:Bd} {v:Value} {w:World} (h:B.Ok k L) (E:SkB w v k L B) :
  Calls Tryz.prog 74 #[v] w fun e w'=>∃ b,e=.returned (.tuple #[.agg #[b,.int .i64 k,.int .i64 L],.nilIface])/\BdAt w' b B/\Bw w w':=by
 obtain⟨y,s,rfl,rfl,A⟩:=E;refine (jeo (jbu k L B) s w A (jsU h A) (jfm h)).mono ?_;rintro e w' ⟨C,D⟩;rw[jgV h,(jak k L B).1,(jak k L B).2] at C;exact⟨_,C,jr3 h (A.go D),D⟩
theorem jr8 {k L:Nat} {B:Bd} {v:Value} {w:World} (h:B.Ok k L) (E:BdAt w v B) :
  Calls Tryz.prog 127 #[.agg #[v,.int .i64 k,.int .i64 L]] w fun e w'=>∃ x,e=.returned x/\SkB w' x k L B/\Bw w w':=by
 cases B with
 | num l =>
  obtain⟨a,len,cap,rfl,A⟩:=E;refine (jjR k L l a len cap w A.1 (by have:=h.2.2.2.1;have:=A.1.1;omega)).mono ?_;rintro e w' ⟨s,rfl,D,-,-,-,C⟩;exact⟨_,rfl,⟨_,s,rfl,rfl,D⟩,C⟩
 | reg b r =>
  obtain rfl:v=_:=E;refine (jjS k L b (jap r) w).mono ?_;rintro e w' ⟨s,rfl,D,-,-,-,C⟩;exact⟨_,rfl,⟨_,s,rfl,rfl,D⟩,C⟩
 | cnt c l =>
  obtain⟨a,len,cap,rfl,A⟩:=E;refine (jjQ k L 2 c l a len cap w A.1 (by have:=jhU h.2.2.1 h.2.1;have:=h.2.2.2.1;have:=A.1.1;omega)).mono ?_;rintro e w' ⟨s,rfl,D,-,-,-,C⟩;exact⟨_,rfl,⟨_,s,rfl,rfl,D⟩,C⟩
 | bkt f l =>
  obtain⟨a,len,cap,rfl,A⟩:=E;refine (jjP k L f l a len cap w A.1 (by have:=jfc f l (by have:=h.2.2.1;omega) h.2.2.2.1 h.2.2.2.2.2.2;have:=A.1.1;omega)).mono ?_;rintro e w' ⟨s,rfl,D,-,-,-,C⟩;exact⟨_,rfl,⟨_,s,rfl,rfl,D⟩,C⟩
theorem OnlyAt.trans {b:Nat} {W V U:World} (A:OnlyAt b W V) (B:OnlyAt b V U):OnlyAt b W U:=⟨B.1.trans A.1,fun k C=>(B.2 k C).trans (A.2 k C)⟩
theorem jaa {W:World} {B i:Nat} {c:Array Value} {t:TypeId} {F:Nat × Nat} {v:Value} (h:W.heap[B]? = some (.cells c t F)) (H:c[i]? = some v):W.setCell ⟨B,i,none⟩ v=W:=by
 have G:c.setIfInBounds i v=c:=by
  obtain⟨I,rfl⟩:=Array.getElem?_eq_some_iff.1 H;apply Array.ext (by simp);intro j C D;rw[Array.getElem_setIfInBounds];split
  ·rename_i e;subst e;rfl
  ·rfl
 have key:(W.setCell ⟨B,i,none⟩ v).heap=W.heap:=by
  apply Array.ext (jdg W _ v);intro j C D
  have A:(W.setCell ⟨B,i,none⟩ v).heap[j]? = W.heap[j]? := by
   by_cases E:B=j
   ·subst E
    rw[hSk h,h,G]
   ·exact jae (p:=⟨B,i,none⟩) E v
  rw[Array.getElem?_eq_getElem C,Array.getElem?_eq_getElem D] at A;exact Option.some.inj A
 have e:W.setCell ⟨B,i,none⟩ v = { W with heap:=(W.setCell ⟨B,i,none⟩ v).heap }:=rfl;rw[e,key]
theorem jgQ {W:World} {b:Nat} {t:TypeId} {A:Nat × Nat} (h:W.heap[b]? = some (.cells #[.int .i64 0,.int .i64 0,.slice none 0 0,.int .i64 0,.string ⟨#[]⟩,.int .i64 0,.int .i64 0,.slice none 0 0,.int .i64 0,.slice none 0 0] t A)):W.setCell ⟨b,0,none⟩ (.int .i64 0)=W/\W.setCell ⟨b,1,none⟩ (.int .i64 0)=W/\W.setCell ⟨b,2,none⟩ (.slice none 0 0)=W/\W.setCell ⟨b,3,none⟩ (.int .i64 0)=W/\W.setCell ⟨b,4,none⟩ (.string ⟨#[]⟩)=W/\W.setCell ⟨b,5,none⟩ (.int .i64 0)=W/\W.setCell ⟨b,6,none⟩ (.int .i64 0)=W/\W.setCell ⟨b,7,none⟩ (.slice none 0 0)=W/\W.setCell ⟨b,8,none⟩ (.int .i64 0)=W/\W.setCell ⟨b,9,none⟩ (.slice none 0 0)=W:=⟨jaa h rfl,jaa h rfl,jaa h rfl,jaa h rfl,jaa h rfl,jaa h rfl,jaa h rfl,jaa h rfl,jaa h rfl,jaa h rfl⟩
theorem jdz {W:World} {b:Nat} {x y z:Value} (u v q:Value) {t:TypeId} (h:W.heap[b]? = some (.cells #[x,y,z] t (0,0))):∃ V,((W.setCell ⟨b,0,none⟩ u).setCell ⟨b,1,none⟩ v).setCell ⟨b,2,none⟩ q=V/\V.heap[b]? = some (.cells #[u,v,q] t (0,0))/\OnlyAt b W V/\∀ n B,Below n B W->n<=b->Below n B V :=
 ⟨_,rfl,jcI h,(((OnlyAt.refl _ _).set _ _).set _ _).set _ _,fun _ _ C A=>((C.setCell (p:=⟨b,0,none⟩) A _).setCell (p:=⟨b,1,none⟩) A _).setCell (p:=⟨b,2,none⟩) A _⟩
theorem jaD {W:World} {b:Nat} {D E F G H I J L M N:Value} (v0 v1 v2 v3 v4 v5 v6 v7 v8 v9:Value) {t:TypeId} (h:W.heap[b]? = some (.cells #[D,E,F,G,H,I,J,L,M,N] t (0,0))) :
  ∃ V,(((((((((W.setCell ⟨b,0,none⟩ v0).setCell ⟨b,1,none⟩ v1).setCell ⟨b,2,none⟩ v2).setCell ⟨b,3,none⟩ v3).setCell ⟨b,4,none⟩ v4).setCell ⟨b,5,none⟩ v5).setCell ⟨b,6,none⟩ v6).setCell ⟨b,7,none⟩ v7).setCell ⟨b,8,none⟩ v8).setCell ⟨b,9,none⟩ v9=V /\
   V.heap[b]? = some (.cells #[v0,v1,v2,v3,v4,v5,v6,v7,v8,v9] t (0,0))/\OnlyAt b W V/\∀ n B,Below n B W->n<=b->Below n B V :=
 ⟨_,rfl,jv8 h,((((((((((OnlyAt.refl _ _).set _ _).set _ _).set _ _).set _ _).set _ _).set _ _).set _ _).set _ _).set _ _).set _ _,
  fun _ _ C A=>(((((((((C.setCell (p:=⟨b,0,none⟩) A _).setCell (p:=⟨b,1,none⟩) A _).setCell (p:=⟨b,2,none⟩) A _).setCell (p:=⟨b,3,none⟩) A _).setCell (p:=⟨b,4,none⟩) A _).setCell (p:=⟨b,5,none⟩) A _).setCell (p:=⟨b,6,none⟩) A _).setCell (p:=⟨b,7,none⟩) A _).setCell (p:=⟨b,8,none⟩) A _).setCell (p:=⟨b,9,none⟩) A _⟩
theorem BdAt.set_work {W V:World} {v:Value} {B:Bd} {b:Nat} {x y z:Value} {t:TypeId} (h:BdAt W v B) (C:W.heap[b]? = some (.cells #[x,y,z] t (0,0))) (D:∀ u,x≠.int .u64 u) (E:∀ u,y≠.int .u64 u) (F:∀ u,z≠.int .u64 u) (A:OnlyAt b W V):BdAt V v B :=
 h.apart C (fun _ u=>ju3 D E F u) A
theorem SkB.apart {W V:World} {v:Value} {k L:Nat} {B:Bd} (h:SkB W v k L B) {b:Nat} {cs:Array Value} {t:TypeId} (D:W.heap[b]? = some (.cells cs t (0,0))) (E:∀ (i:Nat) (u:Int),cs[i]? ≠ some (Value.int .u64 u)) (C:OnlyAt b W V):SkB V v k L B:=by
 obtain⟨y,s,F,G,A⟩:=h;exact⟨y,s,F,G,jaW (i0:=0) (by decide) (fun x=>⟨x,rfl⟩) D E C A.e,jaW (i0:=0) (by decide) (fun x=>⟨x,rfl⟩) D E C A.c,jaW (i0:=1) (by decide) (fun x=>⟨x.2,rfl⟩) D E C A.g⟩
theorem ju2 (x:Sk) (s:SS) {i:Nat} (u:Int):(#[.int .i64 x.kind,.int .i64 x.level,.slice s.ea s.el s.ec,.int .i64 x.hb,.string x.hr,.int .i64 x.cr,.int .i64 x.cc,.slice s.ca s.cl s.cc,.int .i64 x.gf,.slice s.ga s.gl s.gc]:Array Value)[i]? ≠ some (.int .u64 u):=by
 intro h;rcases i with _ | _ | _ | _ | _ | _ | _ | _ | _ | _ | i<;>simp at h
theorem jcP {i:Nat} (u:Int):(#[.int .i64 0,.int .i64 0,.slice none 0 0,.int .i64 0,.string ⟨#[]⟩,.int .i64 0,.int .i64 0,.slice none 0 0,.int .i64 0,.slice none 0 0]:Array Value)[i]? ≠ some (.int .u64 u):=by
 intro h;rcases i with _ | _ | _ | _ | _ | _ | _ | _ | _ | _ | i<;>simp at h
theorem juJ (v:Value) (B:Bd) (C A:Nat) (w:World) (S:BdAt w v B) (N:B.Ok C A) :
  Calls Tryz.prog 75 #[.agg #[v,.int .i64 C,.int .i64 A],.nilIface] w fun e w'=>∃ x,e=.returned (.tuple #[x,.int .i64 0])/\SkB w' x C A B/\Bw w w':=by
 obtain⟨T,r,rfl⟩:=ja6 S;obtain⟨c,d,L,M,G,f⟩:=jaI w #[.iface T r,.int .i64 C,.int .i64 A] 116 #[.int .i64 0,.int .i64 0,.slice none 0 0,.int .i64 0,.string ⟨#[]⟩,.int .i64 0,.int .i64 0,.slice none 0 0,.int .i64 0,.slice none 0 0] 41;obtain⟨z,c1,c2⟩:=cl3 L;have Z:=Lib.hid (jr8 (w:=c) N (S.go G));have P:=Lib.hid M;have I:=Lib.hid G;clear L M G S N;go_enter Tryz.func75,Tryz.ntmps75;go_wp2_with fail;refine Z.out.mono ?_;rintro e t ⟨x,rfl,⟨y,s,X,rfl,U⟩,H⟩;have D:=jab H (Nat.le_refl _) P.out;have b:=Lib.hid X;clear X;obtain⟨r0,r1,r2,r3,r4,r5,r6,r7,r8,r9⟩:=jam D;obtain⟨g0,g1,g2,g3,g4,g5,g6,g7,g8,g9⟩:=jbL D;obtain⟨V,hV,J,F,E⟩:=jaD (.int .i64 y.kind) (.int .i64 y.level) (.slice s.ea s.el s.ec) (.int .i64 y.hb) (.string y.hr) (.int .i64 y.cr) (.int .i64 y.cc) (.slice s.ca s.cl s.cc) (.int .i64 y.gf) (.slice s.ga s.gl s.gc) D;have O:=Lib.hid D;have a:=Lib.hid (And.intro F E);have Y:=Lib.hid U;have Q:=Lib.hid H;obtain⟨g,h,j,k,l,m,n,o,p,q⟩:=jam J;clear D F E U H J;go_wp2_with fail;obtain⟨F,E⟩:=a.out;have R:SkB t (.agg #[.int .i64 y.kind,.int .i64 y.level,.slice s.ea s.el s.ec,.int .i64 y.hb,.string y.hr,.int .i64 y.cr,.int .i64 y.cc,.slice s.ca s.cl s.cc,.int .i64 y.gf,.slice s.ga s.gl s.gc]) C A B:=⟨y,s,b.out,rfl,Y.out⟩
 exact bodyPost_ret (v:=.tuple #[.agg #[.int .i64 y.kind,.int .i64 y.level,.slice s.ea s.el s.ec,.int .i64 y.hb,.string y.hr,.int .i64 y.cr,.int .i64 y.cc,.slice s.ca s.cl s.cc,.int .i64 y.gf,.slice s.ga s.gl s.gc],.int .i64 0]) (by simp[results,Tryz.f75,go_sem,g,h,j,k,l,m,n,o,p,q]) rfl ⟨_,rfl,R.apart O.out (fun i u=>jcP u) F,E _ _ (I.out.trans (Q.out.mono I.out.size)) (Nat.le_succ _)⟩
end
section
open Go.Shelf
attribute [local go_sem] Oper.semAt_some
theorem ji2 {P:Program} {g:Operand} {C:Array Tmp} {assign body:Code} {Q:Exit->Act->World->Prop} {a:Act} {w:World} {O:Nat} (L:List Nat) (N:Nat)
  {gf:Nat} {lb:Array Value} (X:a.eval g=.func (.func gf) #[] lb) (R:∀ args w,(callFunc gf args).run P w=.ok (.enter gf args) w)
  {enc:Nat->Value} {M:Nat} (F:jqa P gf lb enc L M w) (U:∀ b∈L,b<w.heap.size) (J:C.size=1)
  (I:Nat->World->Prop) (G:World->Prop) (T:OwnFrom w.heap.size I) (H:OwnFrom w.heap.size (fun (_:Unit) W=>G W)) (V:∀ k W,I k W->k<M) (S:I 0 w)
  (A:∀ (l k:Nat) (W:World) (K:Act->World->Prop),I k W->K { tmps:=((C.zip #[enc k]).foldl (fun t (p,v)=>t.setIfInBounds p v) a.tmps).setIfInBounds N (enc k),defers:=[] } W ->
   assign.wpIn (Fence.wide.inRound l) 7 P (Exit.then K (fun _ _ _=>False)) { tmps:=(C.zip #[enc k]).foldl (fun t (p,v)=>t.setIfInBounds p v) a.tmps,defers:=[] } W)
  (B:∀ (l k:Nat) (W:World),I k W->body.wpIn (Fence.wide.inRound l) 7 P (ownPostG w.heap.size (KL L) (fun (_:List Unit)=>I (k+1)) (fun c (_:List Unit) W=>c=.exit O/\G W) [] W) { tmps:=((C.zip #[enc k]).foldl (fun t (p,v)=>t.setIfInBounds p v) a.tmps).setIfInBounds N (enc k),defers:=[] } W)
  (E:∀ (D:Nat) (W:World),w.heap.size<=D->G W->W.heap[D]? = some (.deferred (some []))->Q .normal { a with defers:={ target:=.collected D,args:=#[] }::a.defers } W) :
  (Code.rangeFunc g C assign body).wp P (Exit.inBlock O Q) a w :=
 jjm L (fun k=>((C.zip #[enc k]).foldl (fun t (p,v)=>t.setIfInBounds p v) a.tmps).setIfInBounds N (enc k)) X R F U J I G T H V S A B E
theorem jnq {α:Type} {enc:α->List Value} {k C:Nat} (A:∀ x,(enc x).length=k) {X Y:World} {row:Option Nat} {a:Option Addr} {len cap:Nat} {l:List α} (B:SlC enc k X.heap.size X a len cap l) (E:X.grownBy Y row) (hr:∀ r,row=some r->C<=r/\∃ o:Obj,X.heap[r]? = some o/\o.isCells=false):SlC enc k Y.heap.size Y a len cap l:=by
 have G:SlC enc k X.heap.size Y a len cap l:=⟨⟨B.1.1,fun j x L=>by
  obtain⟨b,off,e,I,J⟩:=B.1.2 j x L;refine⟨b,off,e,I,fun i F=>?_⟩;have D:=J i F;have H:(enc x)[i]? = some ((enc x)[i]'(by rw[A];exact F)):=List.getElem?_eq_getElem _;rw[H] at D ⊢;exact job D E (fun r h=>(hr r h).2)⟩,B.2⟩
 exact G.mono E.size
theorem jwQ {C:Nat} {X Y:World} {row:Option Nat} {v:Value} {B:Bd} (h:BdAt X v B) (E:X.grownBy Y row) (hr:∀ r,row=some r->C<=r/\∃ o:Obj,X.heap[r]? = some o/\o.isCells=false):BdAt Y v B:=by
 cases B with
 | num l=>obtain⟨a,len,cap,A,D⟩:=h;exact⟨a,len,cap,A,jnq (enc:=jaG) (fun _=>rfl) D E hr⟩
 | reg b r=>exact h
 | cnt c l=>obtain⟨a,len,cap,A,D⟩:=h;exact⟨a,len,cap,A,jnq (enc:=jaG) (fun _=>rfl) D E hr⟩
 | bkt f l=>obtain⟨a,len,cap,A,D⟩:=h;exact⟨a,len,cap,A,jnq (enc:=jbO) (fun _=>rfl) D E hr⟩
theorem jhZ:∀ (k:Nat) (s:Nat × Bd),jea (k+1) s=jsA (jea k s)
 | 0,_=>rfl
 | k+1,s=>jhZ k (jsA s)
theorem jkd:∀ (k:Nat) (s:Nat × Bd),(jea k s).1=s.1+k
 | 0,_=>rfl
 | k+1,s=>by rw[jhZ];show (jea k s).1+1=_;rw[jkd k s];omega
theorem jvz {k L n:Nat} {B:Bd} (h:B.Ok k L) (C:L+n<=jc1 k):(jea n (L,B)).2.Ok k (L+n):=by
 have A:=(jbb (L+n) C _ (L,B) rfl h).1;have e:jbk (L,B) (L+n)=jea n (L,B):=by unfold jbk;rw[show L+n-(L,B).1=n by show L+n-L=n;omega]
 rw[e,jkd] at A;exact A
def jxv (W:World) (b:Nat) (v:Value) (kind:Nat) (level:Int):Prop:=W.heap[b]? = some (.cells #[v,.int .i64 kind,.int .i64 level] 116 (0,0))
def TI (B:Bd) (kind level t:Nat) (ti:Int) (w:World) (k:Nat) (W:World):Prop :=
 k<=t-level/\(∃ T rv,jxv W w.heap.size (.iface T rv) kind ((level:Int)+(k:Int))/\BdAt W (.iface T rv) (jea k (level,B)).2)/\Boxed W (w.heap.size+1) 3 (.int .i64 ti) /\
 W.heap[w.heap.size+2]? = some (.cells #[.nilIface,.int .i64 0,.int .i64 0] 116 (0,0))/\Boxed W (w.heap.size+3) 118 .nilIface/\Bw w W
theorem jow {X Y:World} {row:Option Nat} {b:Nat} {cs:Array Value} {t:TypeId} {f:Nat × Nat} (h:X.heap[b]? = some (.cells cs t f)) (C:X.grownBy Y row) (hr:∀ r,row=some r->∃ o:Obj,X.heap[r]? = some o/\o.isCells=false):Y.heap[b]? = some (.cells cs t f):=by
 refine (C.block b (Array.getElem?_eq_some_iff.1 h).1 (fun e=>?_)).trans h;obtain⟨o,A,B⟩:=hr b e.symm;rw[h] at A
 cases A
 cases B
theorem ju9 (B:Bd) (F D t:Nat) (R:Int) (w:World) (C:Nat) (O:w.heap.size<=C):OwnFrom C (TI B F D t R w):=fun k X Y row P E hr=>by
 obtain⟨G,⟨T,Q,H,I⟩,J,L,M,N⟩:=P;have A:∀ r,row=some r->∃ o:Obj,X.heap[r]? = some o/\o.isCells=false:=fun r e=>(hr r e).2
 exact⟨G,⟨T,Q,jow H E A,jwQ I E hr⟩,jow J E A,jow L E A,jow M E A,ownFrom_below (β:=Unit) (B:=C) (Nat.le_refl _) O () X Y row N E hr⟩
theorem jwg (v:Value) (B:Bd) (E A t:Nat) (M:Int) (w:World) (hb:BdAt w v B) (j:B.Ok E A) (ht:t<=jc1 E) (aL:M=t\/(M<0/\t=0)) :
  Calls Tryz.prog 163 #[.agg #[v,.int .i64 E,.int .i64 A],.int .i64 M] w fun e w'=>∃ v',e=.returned (.tuple #[.agg #[v',.int .i64 E,.int .i64 ((jbk (A,B) t).1:Int)],.nilIface])/\BdAt w' v' (jbk (A,B) t).2/\Bw w w':=by
 obtain⟨T,rv,rfl⟩:=ja6 hb;obtain⟨W0,aG,ad,ac,am,u,aE⟩:=jbJ w #[.iface T rv,.int .i64 E,.int .i64 A] 116 #[.int .i64 M] 3 #[.nilIface,.int .i64 0,.int .i64 0] 116;have ar:Hid (∀ w,Calls Tryz.prog 126 #[.int .i64 E] w fun e w'=>e=.returned (.int .i64 (jc1 E:Nat))/\w'=w):=fun w=>(jb1 E w).mono fun e w' ⟨h1,h2⟩=>⟨by rw[h1,(jjt j).1],h2.symm⟩
 obtain⟨c0,c1,c2⟩:=cl3 ad;have d0:W0.cell? ⟨w.heap.size+1,0,none⟩=some (.int .i64 M):=cCc ac 0;have aH:jc1 E<=4:=by unfold jc1;split<;>omega
 have t1:decide ((jc1 E:Int)<M)=false:=by rw[decide_eq_false_iff_not];omega
 have aA:=Lib.hid ad;have az:=Lib.hid ac;have aB:=Lib.hid am;have af:=Lib.hid u;have HB:=Lib.hid (hb.go u);have aJ:=jg6 j;clear ad ac am u hb;refine jay Tryz.func163 rfl ?_;simp only[Tryz.ntmps163,List.size_toArray,List.length_cons,List.length_nil,Nat.reduceAdd,Nat.reduceSub,Array.replicate_succ,Array.replicate_zero,List.push_toArray,List.append_toArray,List.nil_append,List.cons_append];go_wp2_with fail;go_step3;go_wp2_with fail;go_quiet ((go_at_call 126;exact Calls.quiet_of_same (ar.out _)));go_wp2_with fail;obtain⟨W3,aD,z,ah,ap⟩:=jaf (W0.drewN nq) #[.nilIface] 118;rw[aD];have hz:(W0.drewN nq).heap.size=w.heap.size+3:=aE;rw[hz] at z ap;have G:Bw W0 W3:=(jh0 nq).trans ah;have c:=jab G (Nat.le_refl _) aA.out;have o:=jab G (Nat.le_refl _) az.out;have p:=jab G (Nat.le_refl _) aB.out;obtain⟨p0,p1,p2⟩:=cl3 c;obtain⟨W4,ak,aa,O,aF⟩:=jaf W3 #[.int .i64 A] 3;rw[ap] at aa aF;have ax:=Lib.hid ak;have ag:=Lib.hid (G.trans (O.mono G.size))
 have h0:TI B E A t M w 0 W4:=by
  refine⟨Nat.zero_le _,⟨T,rv,?_,HB.out.go ag.out⟩,jab O (Nat.le_refl _) o,jab O (Nat.le_refl _) p,jab O (Nat.le_refl _) z,af.out.trans (ag.out.mono af.out.size)⟩;have h:=jab O (Nat.le_refl _) c;show W4.heap[w.heap.size]? = some (.cells #[.iface T rv,.int .i64 E,.int .i64 ((A:Int)+((0:Nat):Int))] 116 (0,0));rw[show (A:Int)+((0:Nat):Int)=A by omega];exact h
 have H0:=Lib.hid h0;have ay:=Lib.hid aa;have aM:w.heap.size+5<=W4.heap.size:=by omega
 have aw:=Lib.hid j;clear ak z ah G c o p aa O h0 j c0 c1 c2 d0;apply wp_label;go_wp2_with (go_at_call 184;refine (jpp _ _).mono ?_;rintro e w' ⟨rfl,rfl⟩;rw[ax.out])
 refine ji2 [] 7 (gf:=202) (lb:=#[.pointer (some ⟨w.heap.size+3+1,0,none⟩)]) rfl (enters_of Tryz.func202 (by kernel_rfl) rfl)
  (jku (w.heap.size+3+1) A (t-A+1) W4 ay.out (by omega)) (by intro k hk;cases hk) rfl (TI B E A t M w) (TI B E A t M w (t-A)) (ju9 B E A t M w _ (by omega)) (fun _ X Y row h hg hr=>ju9 B E A t M w _ (by omega) _ X Y row h hg hr) (fun k W h=>Nat.lt_succ_of_le h.1) H0.out ?assign ?body ?fin
 case assign =>
  rintro l k W K hI hK;simp only[List.zip_toArray,List.zip_cons_cons,List.zip_nil_right,List.size_toArray,List.foldl_toArray',List.foldl_cons,List.foldl_nil,List.setIfInBounds_toArray,List.set_cons_succ,List.set_cons_zero] at hK ⊢;gi_wp2;exact hK
 case body =>
  rintro lo k W ⟨hk,⟨g,F,Z,d⟩,R,J,P,N⟩;simp only[List.zip_toArray,List.zip_cons_cons,List.zip_nil_right,List.size_toArray,List.foldl_toArray',List.foldl_cons,List.foldl_nil,List.setIfInBounds_toArray,List.set_cons_succ,List.set_cons_zero];have c0:=R.cell;have e0:=P.cell;by_cases aI:A+k<t
  ·have g1:decide (M<=(A:Int)+(k:Int))=false:=by rw[decide_eq_false_iff_not];omega
   have ao:=jvz aw.out (show A+k<=jc1 E by omega);have n:=jni _ _ E (A+k) W d ao (by omega);rw[Int.natCast_add] at n;have H:W.heap[w.heap.size]? = some (.cells #[.iface g F,.int .i64 E,.int .i64 ((A:Int)+(k:Int))] 116 (0,0)):=Z;obtain⟨d0,d1,d2⟩:=cl3 H;gi_wp2_with fail;refine⟨trivial,(CallsIn.inRound lo (callsIn_wide.2 n)).mono ?_⟩;rintro e W5 ⟨v5,rfl,ae,L⟩;obtain⟨T5,m,rfl⟩:=ja6 ae;have a:=jab L (Nat.le_refl _) H;have aj:W5.heap[w.heap.size+3]? = some (.cells #[.nilIface] 118 (0,0)):=jab L (Nat.le_refl _) P;obtain⟨q0,q1,q2⟩:=cl3 a;obtain⟨f0,f1,f2⟩:=cz3 a;obtain⟨V,hV,U,I,S⟩:=jdz (.iface T5 m) (.int .i64 E) (.int .i64 ((A:Int)+(k:Int)+1)) a;have Q:=(I.2 (w.heap.size+3) (by omega)).trans aj;have u0:V.cell? ⟨w.heap.size+3,0,none⟩=some (.nilIface):=cCc Q 0;have v0:V.frozen? ⟨w.heap.size+3,0,none⟩=false:=cFz Q 0;have aK:V.setCell ⟨w.heap.size+3,0,none⟩ .nilIface=V:=jaa Q rfl;have f:BdAt V (.iface T5 m) (jea (k+1) (A,B)).2:=by rw[jhZ];exact BdAt.set_work ae a (by simp) (by simp) (by simp) I
   have i:KeepsFrom W4.heap.size W V:=by
    rw[<- hV];exact (jgZ L (Nat.le_refl _)).trans ((((KeepsOthers.setCell _ _ _).from _).trans ((KeepsOthers.setCell _ _ _).from _)).trans ((KeepsOthers.setCell _ _ _).from _))
   have al:jxv V w.heap.size (.iface T5 m) E ((A:Int)+((k+1:Nat):Int)):=by
    rw[show (A:Int)+((k+1:Nat):Int)=(A:Int)+(k:Int)+1 by omega];exact U
   have HT:Hid (TI B E A t M w (k+1) V):=⟨by omega,⟨T5,m,al,f⟩,(I.2 _ (by omega)).trans (jab L (Nat.le_refl _) R),(I.2 _ (by omega)).trans (jab L (Nat.le_refl _) J),Q,S _ _ (N.trans (L.mono N.size)) (Nat.le_refl _)⟩;clear U I S Q f al aj a ae L;gi_wp2_with fail;exact⟨i,(fun b hb=>by cases hb),HT.out⟩
  ·have g1:decide (M<=(A:Int)+(k:Int))=true:=by rw[decide_eq_true_iff];omega
   obtain rfl:k=t-A:=by omega
   have HT:Hid (TI B E A t M w (t-A) W):=⟨hk,⟨g,F,Z,d⟩,R,J,P,N⟩;clear Z d R J P N;gi_wp2_with fail;exact⟨KeepsFrom.refl _ _,rfl,HT.out⟩
 case fin =>
  rintro D W hD ⟨hk,⟨g,F,Z,d⟩,R,J,P,N⟩ hK;have H:W.heap[w.heap.size]? = some (.cells #[.iface g F,.int .i64 E,.int .i64 ((A:Int)+((t-A:Nat):Int))] 116 (0,0)):=Z
  have q:(A:Int)+((t-A:Nat):Int)=((jbk (A,B) t).1:Int):=by
   unfold jbk;rw[jkd];show _=((A+(t-A):Nat):Int);omega
  rw[q] at H;have an:BdAt W (.iface g F) (jbk (A,B) t).2:=d;obtain⟨L2,y⟩:∃ L2,(jbk (A,B) t).1=L2:=⟨_,rfl⟩;obtain⟨B2,x⟩:∃ B2,(jbk (A,B) t).2=B2:=⟨_,rfl⟩;rw[y] at H;rw[x] at an;have av:=Lib.hid y;have aq:=Lib.hid x;clear y x q;have e0:=P.cell;obtain⟨d0,d1,d2⟩:=cl3 H;obtain⟨r0,r1,r2⟩:=cl3 J;obtain⟨f0,f1,f2⟩:=cz3 J;obtain⟨V,hV,U,I,S⟩:=jdz (b:=w.heap.size+1+1) (.iface g F) (.int .i64 E) (.int .i64 L2) J;have f:BdAt V.drew (.iface g F) B2:=(BdAt.set_work an J (by simp) (by simp) (by simp) I).go (Below.refl _ _).drew;have i:V.drew.heap[D]? = some (.deferred (some [])):=(I.2 D (by omega)).trans hK;have ai:Bw w V.drew:=(S _ _ N (by omega)).drew;have ab:(V.drew.putObj D (.deferred none)).heap[w.heap.size+1+1]? = some (.cells #[.iface g F,.int .i64 E,.int .i64 L2] 116 (0,0)):=(World.putObj_heap_other (by omega)).trans U;have aC:=Lib.hid f;have au:=Lib.hid ai;have s:=Lib.hid i;have HV:=Lib.hid hV;clear f ai i hV U I S;go_wp2_with fail;go_region;rw[HV.out];go_wp2_with fail;rw[Exit.noGoto_ret];have x0:(V.drew.putObj D (.deferred none)).cell? ⟨w.heap.size+1+1,0,none⟩=some (.iface g F):=cCc ab 0;have x1:(V.drew.putObj D (.deferred none)).cell? ⟨w.heap.size+1+1,1,none⟩=some (.int .i64 E):=cCc ab 1;have x2:(V.drew.putObj D (.deferred none)).cell? ⟨w.heap.size+1+1,2,none⟩=some (.int .i64 L2):=cCc ab 2;refine jaX (v:=.tuple #[.agg #[.iface g F,.int .i64 E,.int .i64 L2],.nilIface]) s.out ?_ ?_
  ·simp[results,Tryz.f163,go_sem,x0,x1,x2]
  ·rw[av.out,aq.out]
   exact⟨_,rfl,jwQ (C:=0) aC.out (grownBy_putObj' _ D _) (fun r e=>by cases e;exact⟨Nat.zero_le _,_,s.out,rfl⟩),jgy au.out (by omega) s.out⟩
theorem jva (v:Value) (B:Bd) (C A t:Nat) (w:World) (E:BdAt w v B) (D:B.Ok C A) (ht:t<=jc1 C) :
  Calls Tryz.prog 163 #[.agg #[v,.int .i64 C,.int .i64 A],.int .i64 t] w fun e w'=>∃ v',e=.returned (.tuple #[.agg #[v',.int .i64 C,.int .i64 ((jbk (A,B) t).1:Int)],.nilIface])/\BdAt w' v' (jbk (A,B) t).2/\Bw w w' :=
 jwg v B C A t t w E D ht (.inl rfl)
end
section
open Go.Shelf
theorem jaA {α:Type} {enc:α->List Value} {k n:Nat} {w:World}:SlC enc k n w none 0 0 []:=⟨⟨rfl,fun j x A=>by simp at A⟩,Nat.le_refl _,Nat.zero_le _,fun _=>rfl,fun x e=>by cases e⟩
theorem jxb (w:World):Calls Tryz.prog 33 #[.int .i64 1] w fun e w'=>∃ x,e=.returned (.tuple #[x,.int .i64 0])/\SkB w' x 1 0 (jhh 1)/\Bw w w':=by
 obtain⟨B,I,C,A,D,J⟩:=jaI w #[.int .i64 0,.int .i64 0,.slice none 0 0,.int .i64 0,.string ⟨#[]⟩,.int .i64 0,.int .i64 0,.slice none 0 0,.int .i64 0,.slice none 0 0] 41 #[.int .i64 1,.int .i64 0,.slice none 0 0,.int .i64 0,.string ⟨#[]⟩,.int .i64 0,.int .i64 0,.slice none 0 0,.int .i64 0,.slice none 0 0] 41;obtain⟨X,Y,Z,a,b,c,d,f,g,h⟩:=jam A;obtain⟨r,s,t,u,y,z,f6,f7,f8,f9⟩:=jbL A;have i:B.setCell ⟨w.heap.size+1,1,none⟩ (.int .i64 0)=B:=jaa A rfl;have j:B.setCell ⟨w.heap.size+1,2,none⟩ (.slice none 0 0)=B:=jaa A rfl;have k:B.setCell ⟨w.heap.size+1,3,none⟩ (.int .i64 0)=B:=jaa A rfl;have l:B.setCell ⟨w.heap.size+1,4,none⟩ (.string ⟨#[]⟩)=B:=jaa A rfl;have m:B.setCell ⟨w.heap.size+1,5,none⟩ (.int .i64 0)=B:=jaa A rfl;have n:B.setCell ⟨w.heap.size+1,6,none⟩ (.int .i64 0)=B:=jaa A rfl;have o:B.setCell ⟨w.heap.size+1,7,none⟩ (.slice none 0 0)=B:=jaa A rfl;have p:B.setCell ⟨w.heap.size+1,8,none⟩ (.int .i64 0)=B:=jaa A rfl;have q:B.setCell ⟨w.heap.size+1,9,none⟩ (.slice none 0 0)=B:=jaa A rfl;obtain⟨r0,r1,r2,r3,r4,r5,r6,r7,r8,r9⟩:=jam C;obtain⟨g0,g1,g2,g3,g4,g5,g6,g7,g8,g9⟩:=jbL C;obtain⟨V,hV,F,H,E⟩:=jaD (.int .i64 1) (.int .i64 0) (.slice none 0 0) (.int .i64 0) (.string ⟨#[]⟩) (.int .i64 0) (.int .i64 0) (.slice none 0 0) (.int .i64 0) (.slice none 0 0) C;obtain⟨L,M,N,O,P,Q,R,S,T,U⟩:=jam F;have G:Hid (Bw w V):=E _ _ D (Nat.le_refl _);clear C A F H E D;go_enter Tryz.func33,Tryz.ntmps33;go_wp2_with fail
 exact bodyPost_ret (v:=.tuple #[.agg #[.int .i64 1,.int .i64 0,.slice none 0 0,.int .i64 0,.string ⟨#[]⟩,.int .i64 0,.int .i64 0,.slice none 0 0,.int .i64 0,.slice none 0 0],.int .i64 0]) (by simp[results,Tryz.f33,go_sem,L,M,N,O,P,Q,R,S,T,U]) rfl ⟨_,rfl,⟨_,⟨none,0,0,none,0,0,none,0,0⟩,rfl,rfl,jaA,jaA,jaA⟩,G.out⟩
theorem jxd (w:World):Calls Tryz.prog 33 #[.int .i64 3] w fun e w'=>∃ x,e=.returned (.tuple #[x,.int .i64 0])/\SkB w' x 3 0 (jhh 3)/\Bw w w':=by
 obtain⟨B,N,C,A,F,O⟩:=jaI w #[.int .i64 0,.int .i64 0,.slice none 0 0,.int .i64 0,.string ⟨#[]⟩,.int .i64 0,.int .i64 0,.slice none 0 0,.int .i64 0,.slice none 0 0] 41 #[.int .i64 3,.int .i64 0,.slice none 0 0,.int .i64 0,.string ⟨#[]⟩,.int .i64 0,.int .i64 0,.slice none 0 0,.int .i64 0,.slice none 0 0] 41;obtain⟨b,c,d,f,g,h,i,j,k,l⟩:=jam A;obtain⟨z,f1,f2,f3,f4,f5,f6,f7,f8,f9⟩:=jbL A;have m:B.setCell ⟨w.heap.size+1,1,none⟩ (.int .i64 0)=B:=jaa A rfl;have n:B.setCell ⟨w.heap.size+1,2,none⟩ (.slice none 0 0)=B:=jaa A rfl;have o:B.setCell ⟨w.heap.size+1,3,none⟩ (.int .i64 0)=B:=jaa A rfl;have q:B.setCell ⟨w.heap.size+1,4,none⟩ (.string ⟨#[]⟩)=B:=jaa A rfl;have r:B.setCell ⟨w.heap.size+1,5,none⟩ (.int .i64 0)=B:=jaa A rfl;have s:B.setCell ⟨w.heap.size+1,6,none⟩ (.int .i64 0)=B:=jaa A rfl;have t:B.setCell ⟨w.heap.size+1,7,none⟩ (.slice none 0 0)=B:=jaa A rfl;have u:B.setCell ⟨w.heap.size+1,8,none⟩ (.int .i64 0)=B:=jaa A rfl;have y:B.setCell ⟨w.heap.size+1,9,none⟩ (.slice none 0 0)=B:=jaa A rfl;obtain⟨E,D⟩:∃ E,B.setCell ⟨w.heap.size+1,8,none⟩ (.int .i64 3)=E:=⟨_,rfl⟩;have J:E.heap[w.heap.size+1]? = some (.cells #[.int .i64 3,.int .i64 0,.slice none 0 0,.int .i64 0,.string ⟨#[]⟩,.int .i64 0,.int .i64 0,.slice none 0 0,.int .i64 3,.slice none 0 0] 41 (0,0)):=by rw[<- D];exact hSk A (.int .i64 3)
 replace C:E.heap[w.heap.size]? = some (.cells #[.int .i64 0,.int .i64 0,.slice none 0 0,.int .i64 0,.string ⟨#[]⟩,.int .i64 0,.int .i64 0,.slice none 0 0,.int .i64 0,.slice none 0 0] 41 (0,0)):=by rw[<- D];exact (jae (p:=⟨w.heap.size+1,8,none⟩) (by show w.heap.size+1≠w.heap.size;omega) _).trans C
 have G:Bw w E:=by rw[<- D];exact F.setCell (p:=⟨w.heap.size+1,8,none⟩) (Nat.le_succ _) _
 obtain⟨x0,x1,x2,x3,x4,x5,x6,x7,x8,x9⟩:=jam J;obtain⟨r0,r1,r2,r3,r4,r5,r6,r7,r8,r9⟩:=jam C;obtain⟨g0,g1,g2,g3,g4,g5,g6,g7,g8,g9⟩:=jbL C;obtain⟨V,hV,I,M,H⟩:=jaD (.int .i64 3) (.int .i64 0) (.slice none 0 0) (.int .i64 0) (.string ⟨#[]⟩) (.int .i64 0) (.int .i64 0) (.slice none 0 0) (.int .i64 3) (.slice none 0 0) C;obtain⟨P,Q,R,S,T,U,X,Y,Z,a⟩:=jam I;have L:Hid (Bw w V):=H _ _ G (Nat.le_refl _);clear C A J I M H F G;go_enter Tryz.func33,Tryz.ntmps33;go_wp2_with fail;exact bodyPost_ret (v:=.tuple #[.agg #[.int .i64 3,.int .i64 0,.slice none 0 0,.int .i64 0,.string ⟨#[]⟩,.int .i64 0,.int .i64 0,.slice none 0 0,.int .i64 3,.slice none 0 0],.int .i64 0]) (by simp[results,Tryz.f33,go_sem,P,Q,R,S,T,U,X,Y,Z,a]) rfl ⟨_,rfl,⟨_,⟨none,0,0,none,0,0,none,0,0⟩,rfl,rfl,jaA,jaA,jaA⟩,L.out⟩
theorem jl3 {i:Nat} (u:Int):(#[.int .i64 2,.int .i64 0,.slice none 0 0,.int .i64 0,.string ⟨#[]⟩,.int .i64 0,.int .i64 0,.slice none 0 0,.int .i64 0,.slice none 0 0]:Array Value)[i]? ≠ some (.int .u64 u):=by
 intro h;rcases i with _ | _ | _ | _ | _ | _ | _ | _ | _ | _ | i<;>simp at h
theorem jxc (w:World):Calls Tryz.prog 33 #[.int .i64 2] w fun e w'=>∃ x,e=.returned (.tuple #[x,.int .i64 0])/\SkB w' x 2 0 (jhh 2)/\Bw w w':=by
 obtain⟨C,Z,B,A,I,b⟩:=jaI w #[.int .i64 0,.int .i64 0,.slice none 0 0,.int .i64 0,.string ⟨#[]⟩,.int .i64 0,.int .i64 0,.slice none 0 0,.int .i64 0,.slice none 0 0] 41 #[.int .i64 2,.int .i64 0,.slice none 0 0,.int .i64 0,.string ⟨#[]⟩,.int .i64 0,.int .i64 0,.slice none 0 0,.int .i64 0,.slice none 0 0] 41;obtain⟨q,r,s,t,y,z,c6,c7,c8,c9⟩:=jam A;obtain⟨f0,f1,f2,f3,f4,f5,f6,f7,f8,f9⟩:=jbL A;have e1:C.setCell ⟨w.heap.size+1,1,none⟩ (.int .i64 0)=C:=jaa A rfl;have e2:C.setCell ⟨w.heap.size+1,2,none⟩ (.slice none 0 0)=C:=jaa A rfl;have e3:C.setCell ⟨w.heap.size+1,3,none⟩ (.int .i64 0)=C:=jaa A rfl;have e4:C.setCell ⟨w.heap.size+1,4,none⟩ (.string ⟨#[]⟩)=C:=jaa A rfl;have e5:C.setCell ⟨w.heap.size+1,5,none⟩ (.int .i64 0)=C:=jaa A rfl;have e6:C.setCell ⟨w.heap.size+1,6,none⟩ (.int .i64 0)=C:=jaa A rfl;have e7:C.setCell ⟨w.heap.size+1,7,none⟩ (.slice none 0 0)=C:=jaa A rfl;have e8:C.setCell ⟨w.heap.size+1,8,none⟩ (.int .i64 0)=C:=jaa A rfl;have e9:C.setCell ⟨w.heap.size+1,9,none⟩ (.slice none 0 0)=C:=jaa A rfl;have Y:=Lib.hid (jtt C);have T:=Lib.hid B;have U:=Lib.hid A;have H:=Lib.hid I;clear B A I;go_enter Tryz.func33,Tryz.ntmps33;go_wp2_with fail;refine Y.out.mono ?_;rintro e Q ⟨g,rfl,X,a,D⟩;have A:=jab D (Nat.le_refl _) U.out;have B:=jab D (Nat.le_refl _) T.out;obtain⟨x0,x1,x2,x3,x4,x5,x6,x7,x8,x9⟩:=jam A;obtain⟨y0,y1,y2,y3,y4,y5,y6,y7,y8,y9⟩:=jbL A
 obtain⟨E,G⟩:∃ E,((Q.setCell ⟨w.heap.size+1,5,none⟩ (.int .i64 2)).setCell ⟨w.heap.size+1,6,none⟩ (.int .i64 32)).setCell ⟨w.heap.size+1,7,none⟩ (.slice (some ⟨g,0,none⟩) 64 64)=E:=⟨_,rfl⟩;have O:E.heap[w.heap.size+1]? = some (.cells #[.int .i64 2,.int .i64 0,.slice none 0 0,.int .i64 0,.string ⟨#[]⟩,.int .i64 2,.int .i64 32,.slice (some ⟨g,0,none⟩) 64 64,.int .i64 0,.slice none 0 0] 41 (0,0)):=by rw[<- G];exact hSk (hSk (hSk A (.int .i64 2)) (.int .i64 32)) (.slice (some ⟨g,0,none⟩) 64 64)
 have F:OnlyAt (w.heap.size+1) Q E:=by rw[<- G];exact (((OnlyAt.refl _ _).set _ _).set _ _).set _ _
 have J:Bw w E:=by rw[<- G];exact (((H.out.trans (D.mono H.out.size)).setCell (p:=⟨w.heap.size+1,5,none⟩) (Nat.le_succ _) _).setCell (p:=⟨w.heap.size+1,6,none⟩) (Nat.le_succ _) _).setCell (p:=⟨w.heap.size+1,7,none⟩) (Nat.le_succ _) _
 replace B:=(F.2 w.heap.size (by omega)).trans B;have P:SlC jaG 1 Q.heap.size Q (some ⟨g,0,none⟩) 64 64 (List.replicate 64 0):=jhD X (by simp) (by unfold maxLen;omega);replace P:SlC jaG 1 E.heap.size E (some ⟨g,0,none⟩) 64 64 (List.replicate 64 0):=jaW (i0:=0) (by decide) (fun x=>⟨x,rfl⟩) A (fun i u=>jl3 u) F P;obtain⟨z0,z1,z2,z3,z4,z5,z6,z7,z8,z9⟩:=jam O;obtain⟨r0,r1,r2,r3,r4,r5,r6,r7,r8,r9⟩:=jam B;obtain⟨g0,g1,g2,g3,g4,g5,g6,g7,g8,g9⟩:=jbL B;obtain⟨V,hV,N,M,L⟩:=jaD (.int .i64 2) (.int .i64 0) (.slice none 0 0) (.int .i64 0) (.string ⟨#[]⟩) (.int .i64 2) (.int .i64 32) (.slice (some ⟨g,0,none⟩) 64 64) (.int .i64 0) (.slice none 0 0) B;obtain⟨c,d,f,h,j,k,l,m,n,o⟩:=jam N;have R:Hid (Bw w V):=L _ _ J (Nat.le_refl _);have S:Hid (SlC jaG 1 V.heap.size V (some ⟨g,0,none⟩) 64 64 (List.replicate 64 0)):=jaW (i0:=0) (by decide) (fun x=>⟨x,rfl⟩) B (fun i u=>jcP u) M P;clear X a B A O N M L J F P D;go_wp2_with fail;exact bodyPost_ret (v:=.tuple #[.agg #[.int .i64 2,.int .i64 0,.slice none 0 0,.int .i64 0,.string ⟨#[]⟩,.int .i64 2,.int .i64 32,.slice (some ⟨g,0,none⟩) 64 64,.int .i64 0,.slice none 0 0],.int .i64 0]) (by simp[results,Tryz.f33,go_sem,c,d,f,h,j,k,l,m,n,o]) rfl ⟨_,rfl,⟨_,⟨none,0,0,some ⟨g,0,none⟩,64,64,none,0,0⟩,rfl,rfl,jaA,S.out,jaA⟩,R.out⟩
theorem jwu (n:Int) (h1:(n==1)=false) (h2:(n==2)=false) (h3:(n==3)=false) (w:World):CR 33 #[.int .i64 n] w (.tuple #[.agg #[.int .i64 0,.int .i64 0,.slice none 0 0,.int .i64 0,.string ⟨#[]⟩,.int .i64 0,.int .i64 0,.slice none 0 0,.int .i64 0,.slice none 0 0],.int .i64 101]):=by
 obtain⟨B,F,C,A,D,G⟩:=jaI w #[.int .i64 0,.int .i64 0,.slice none 0 0,.int .i64 0,.string ⟨#[]⟩,.int .i64 0,.int .i64 0,.slice none 0 0,.int .i64 0,.slice none 0 0] 41 #[.int .i64 n,.int .i64 0,.slice none 0 0,.int .i64 0,.string ⟨#[]⟩,.int .i64 0,.int .i64 0,.slice none 0 0,.int .i64 0,.slice none 0 0] 41;obtain⟨S,T,U,V,X,Y,Z,a,b,c⟩:=jam A;obtain⟨z,f1,f2,f3,f4,f5,f6,f7,f8,f9⟩:=jbL A;have o:B.setCell ⟨w.heap.size+1,1,none⟩ (.int .i64 0)=B:=jaa A rfl;have p:B.setCell ⟨w.heap.size+1,2,none⟩ (.slice none 0 0)=B:=jaa A rfl;have q:B.setCell ⟨w.heap.size+1,3,none⟩ (.int .i64 0)=B:=jaa A rfl;have r:B.setCell ⟨w.heap.size+1,4,none⟩ (.string ⟨#[]⟩)=B:=jaa A rfl;have s:B.setCell ⟨w.heap.size+1,5,none⟩ (.int .i64 0)=B:=jaa A rfl;have t:B.setCell ⟨w.heap.size+1,6,none⟩ (.int .i64 0)=B:=jaa A rfl;have u:B.setCell ⟨w.heap.size+1,7,none⟩ (.slice none 0 0)=B:=jaa A rfl;have x:B.setCell ⟨w.heap.size+1,8,none⟩ (.int .i64 0)=B:=jaa A rfl;have y:B.setCell ⟨w.heap.size+1,9,none⟩ (.slice none 0 0)=B:=jaa A rfl;obtain⟨H,I,J,L,M,N,O,P,Q,R⟩:=jam C;obtain⟨g0,g1,g2,g3,g4,g5,g6,g7,g8,g9⟩:=jbL C;obtain⟨d,e,f,g,h,i,j,k,l,m⟩:=jgQ C;have E:=Lib.hid D;clear C A D;go_enter Tryz.func33,Tryz.ntmps33;go_wp2_with fail;exact bodyPost_ret (v:=.tuple #[.agg #[.int .i64 0,.int .i64 0,.slice none 0 0,.int .i64 0,.string ⟨#[]⟩,.int .i64 0,.int .i64 0,.slice none 0 0,.int .i64 0,.slice none 0 0],.int .i64 101]) (by simp[results,Tryz.f33,go_sem,H,I,J,L,M,N,O,P,Q,R]) rfl ⟨rfl,E.out⟩
end
def jd2 (r s:List Nat):List Nat:=(List.range r.length).map fun i=>max (r.getD i 0) (s.getD i 0)
def jdE (l m:List Int):List Int:=(List.range l.length).map fun i=>jdf (l.getD i 0) (m.getD i 0)
def Bd.merge:Bd->Bd->Option Bd
 | .num l,.num m=>(jan l m).map .num
 | .reg b r,.reg _ s=>some (.reg b (jd2 r s))
 | .cnt c l,.cnt _ m=>some (.cnt c (jdE l m))
 | .bkt f l,.bkt _ m=>some (.bkt f (ja7 (jaB l m)))
 | _,_=>none
def ja2 (s t:Nat × Bd):Nat × Bd :=
 match (jbk s (max s.1 t.1)).2.merge (jbk t (max s.1 t.1)).2 with
 | some B=>(max s.1 t.1,B)
 | none=>(max s.1 t.1+1,((jbk s (max s.1 t.1)).2.low.merge (jbk t (max s.1 t.1)).2.low).getD (jbk s (max s.1 t.1)).2.low)
theorem jve:∀ (m l:List Int),Up l->Up m->(∀ y∈l,y∈m)->l.length<=m.length
 | [],l,_,_,h=>by
  cases l with
  | nil=>exact Nat.le_refl _
  | cons x l=>exact absurd (h x List.mem_cons_self) (by simp)
 | x::m,l,hl,hm,h=>by
  obtain⟨E,F⟩:=jfR hm
  cases l with
  | nil=>exact Nat.zero_le _
  | cons y l =>
   obtain⟨C,D⟩:=jfR hl
   have:=jve m l C E (fun z B=>by
    rcases List.mem_cons.1 (h z (List.mem_cons_of_mem _ B)) with e | e
    ·have G:=D z B
     rcases List.mem_cons.1 (h y List.mem_cons_self) with A | A
     ·omega
     ·have:=F y A;omega
    ·exact e)
   simp only[List.length_cons];omega
theorem jfB:∀ (r l m:List Int),Up l->l.length<=64->jan l r=some m->Up m/\m.length<=64/\∀ y,y∈m↔y∈l\/y∈r
 | [],l,m,hu,hl,h=>by
  obtain rfl:l=m:=by simpa [jan] using h
  exact⟨hu,hl,fun y=>by simp⟩
 | n::r,l,m,hu,hl,h=>by
  rw[jan] at h;split at h
  ·cases h
  ·rename_i D
   rw[jga l n hu] at h D;obtain⟨A,B,C⟩:=jfB r _ m (jgF l n hu) (by omega) h;refine⟨A,B,fun y=>?_⟩;rw[C,jfg,List.mem_cons];constructor
   ·rintro ((e | e) | e)
    ·exact .inr (.inl e)
    ·exact .inl e
    ·exact .inr (.inr e)
   ·rintro (e | e | e)
    ·exact .inl (.inr e)
    ·exact .inl (.inl e)
    ·exact .inr e
theorem jh6:∀ (r l:List Int),Up l->jan l r=none->∀ m,Up m->(∀ y,y∈l\/y∈r->y∈m)->64<m.length
 | [],l,_,h,_,_,_=>by simp[jan] at h
 | n::r,l,hu,h,m,hm,hs=>by
  rw[jan] at h;split at h
  ·rename_i B
   rw[jga l n hu] at B
   have:=jve m (jff l n) (jgF l n hu) hm (fun y A=>by
    rcases (jfg l n y).1 A with e | e
    ·exact hs y (.inr (by rw[e];exact List.mem_cons_self))
    ·exact hs y (.inl e))
   omega
  ·rw[jga l n hu] at h
   exact jh6 r _ (jgF l n hu) h m hm (fun y A=>by
    rcases A with e | e
    ·rcases (jfg l n y).1 e with e | e
     ·exact hs y (.inr (by rw[e];exact List.mem_cons_self))
     ·exact hs y (.inl e)
    ·exact hs y (.inr (List.mem_cons_of_mem _ e)))
theorem jgh (r s:List Nat):(jd2 r s).length=r.length:=by simp[jd2]
theorem joj (r s:List Nat) (i:Nat) (A:i<r.length):(jd2 r s).getD i 0=max (r.getD i 0) (s.getD i 0):=by
 unfold jd2;rw[List.getD_eq_getElem?_getD,List.getElem?_map,List.getElem?_range A];rfl
theorem jqY (l:List Nat) (i:Nat) (h:l.length<=i):l.getD i 0=0:=by rw[List.getD_eq_getElem?_getD,List.getElem?_eq_none h];rfl
theorem jf2 (l m:List Int):(jdE l m).length=l.length:=by simp[jdE]
theorem jtv (l m:List Int) (i:Nat) (A:i<l.length):(jdE l m).getD i 0=jdf (l.getD i 0) (m.getD i 0):=by
 unfold jdE;rw[List.getD_eq_getElem?_getD,List.getElem?_map,List.getElem?_range A];rfl
theorem jqB (l m:List Int) (A:jc8 l) (B:jc8 m):jc8 (jdE l m):=by
 intro x C;obtain⟨i,-,rfl⟩:=List.mem_map.1 C;exact jfj _ _ (jbT l A i) (jbT m B i)
def Bd.wide:Bd->Prop
 | .num _=>False
 | _=>True
theorem jml {c d L:Nat} (h:c*2^L=32) (A:d*2^L=32):c=d:=Nat.eq_of_mul_eq_mul_right (Nat.two_pow_pos L) (h.trans A.symm)
theorem jos {k L:Nat} {x y z:Bd} (H:x.Ok k L) (B:y.Ok k L) (A:x.merge y=some z):z.Ok k L:=by
 cases x with
 | num l =>
  cases y with
  | num m =>
   obtain⟨C,D,E,F,G⟩:=H;obtain⟨M,N,O,P,I⟩:=B;obtain⟨q,Z,rfl⟩:=Option.map_eq_some_iff.1 A;obtain⟨T,U,V⟩:=jfB m l q E F Z;exact⟨C,D,T,U,fun n Y=>((V n).1 Y).elim (G n) (I n)⟩
  | reg b r=>cases A
  | cnt c l=>cases A
  | bkt f l=>cases A
 | reg b r =>
  cases y with
  | num m=>cases A
  | reg b' s =>
   obtain⟨C,D,E,F,G,J⟩:=H;obtain⟨M,N,O,P,I,Q⟩:=B;obtain rfl:_=z:=Option.some.inj A;refine⟨C,D,E,F,by rw[jgh,G],fun i=>?_⟩;by_cases X:i<r.length
   ·rw[joj _ _ _ X]
    have:=J i;have:=Q i;obtain rfl:b=b':=by omega
    omega
   ·rw[jqY _ _ (by rw[jgh];omega)];omega
  | cnt c l=>cases A
  | bkt f l=>cases A
 | cnt c l =>
  cases y with
  | num m=>cases A
  | reg b r=>cases A
  | cnt c' m =>
   obtain⟨C,D,E,F,G⟩:=H;obtain⟨M,N,O,P,I⟩:=B;obtain rfl:_=z:=Option.some.inj A;exact⟨C,D,E,by rw[jf2,F],jqB l m G I⟩
  | bkt f l=>cases A
 | bkt f l =>
  cases y with
  | num m=>cases A
  | reg b r=>cases A
  | cnt c m=>cases A
  | bkt f' m =>
   obtain⟨C,D,E,F,G,J,R⟩:=H;obtain⟨M,N,O,P,I,Q,S⟩:=B;obtain rfl:f=f':=by omega
   obtain rfl:_=z:=Option.some.inj A;refine⟨C,D,E,jgf (jd0 m l F),jjB,jgD (jcF m l J Q),fun x H=>?_⟩;rcases jdZ m l x (List.mem_filter.1 H).1 with h | ⟨y,B,e⟩ | ⟨y,B,e⟩
   ·exact R x h
   ·rw[e];exact R y B
   ·rw[e];exact S y B
section
open Go.Shelf
theorem jvj (k:Nat) (A:k=1\/k=2\/k=3) (w:World):Calls Tryz.prog 33 #[.int .i64 k] w fun e w'=>∃ x,e=.returned (.tuple #[x,.int .i64 0])/\SkB w' x k 0 (jhh k)/\Bw w w':=by
 rcases A with rfl | rfl | rfl
 ·exact jxb w
 ·exact jxc w
 ·exact jxd w
theorem jee {W V:World} {y:Sk} {s:SS} (h:s.At W.heap.size W y) {b:Nat} {cs:Array Value} {t:TypeId} (B:W.heap[b]? = some (.cells cs t (0,0))) (C:∀ (i:Nat) (u:Int),cs[i]? ≠ some (Value.int .u64 u)) (A:OnlyAt b W V):s.At V.heap.size V y :=
 ⟨jaW (i0:=0) (by decide) (fun x=>⟨x,rfl⟩) B C A h.e,jaW (i0:=0) (by decide) (fun x=>⟨x,rfl⟩) B C A h.c,jaW (i0:=1) (by decide) (fun x=>⟨x.2,rfl⟩) B C A h.g⟩
end
section
open Go.ChangeShapes Go.WideShapes Go.ChangeAt Go.Lib Go.Deep Go.Shelf
section
variable {H:Type} {enc:TypeId × Value->H} {w:World} {base:Nat} {held:Bool}
theorem jpS (n:Nat) (cs:List Value) (x:DataW H × List MemPlace) (h:DataW.trod enc Tryz.prog w base (fun _=>true) held n 41 cs=some x):∃ (y:Sk) (s:SS),cs=[.int .i64 y.kind,.int .i64 y.level,.slice s.ea s.el s.ec,.int .i64 y.hb,.string y.hr,.int .i64 y.cr,.int .i64 y.cc,.slice s.ca s.cl s.cc,.int .i64 y.gf,.slice s.ga s.gl s.gc]/\s.At w.heap.size w y/\y.arg/\I64 y.cc:=by
 obtain⟨J,m,A⟩:=jlA Tryz.underlying41 h;replace J:cs.length=10:=J.trans (by kernel_rfl);obtain⟨y0,B⟩:=A 0 _ rfl;obtain⟨y1,C⟩:=A 1 _ rfl;obtain⟨y2,D⟩:=A 2 _ rfl;obtain⟨y3,E⟩:=A 3 _ rfl;obtain⟨y4,F⟩:=A 4 _ rfl;obtain⟨y5,G⟩:=A 5 _ rfl
 match cs,J with
 | [v1,v2,v3,v4,v5,v6,v7,v8,v9,v10],_ =>
  change DataW.trod enc Tryz.prog w base _ held m 3 (([v1,v2,v3,v4,v5,v6,v7,v8,v9,v10].drop 0).take (Tryz.prog.cellsOf 3))=some y0 at B;change DataW.trod enc Tryz.prog w base _ held m 3 (([v1,v2,v3,v4,v5,v6,v7,v8,v9,v10].drop 1).take (Tryz.prog.cellsOf 3))=some y1 at C;change DataW.trod enc Tryz.prog w base _ held m 32 (([v1,v2,v3,v4,v5,v6,v7,v8,v9,v10].drop 2).take (Tryz.prog.cellsOf 32))=some y2 at D;change DataW.trod enc Tryz.prog w base _ held m 34 (([v1,v2,v3,v4,v5,v6,v7,v8,v9,v10].drop 3).take (Tryz.prog.cellsOf 34))=some y3 at E;change DataW.trod enc Tryz.prog w base _ held m 36 (([v1,v2,v3,v4,v5,v6,v7,v8,v9,v10].drop 5).take (Tryz.prog.cellsOf 36))=some y4 at F;change DataW.trod enc Tryz.prog w base _ held m 39 (([v1,v2,v3,v4,v5,v6,v7,v8,v9,v10].drop 8).take (Tryz.prog.cellsOf 39))=some y5 at G;rw[show Tryz.prog.cellsOf 3=1 by kernel_rfl] at B C;rw[show Tryz.prog.cellsOf 32=1 by kernel_rfl] at D;rw[show Tryz.prog.cellsOf 34=2 by kernel_rfl] at E;rw[show Tryz.prog.cellsOf 36=3 by kernel_rfl] at F;rw[show Tryz.prog.cellsOf 39=2 by kernel_rfl] at G;simp only[List.drop_zero,List.drop_succ_cons,List.take_succ_cons,List.take_zero] at B C D E F G;obtain⟨s0,L,-,-⟩:=DataW.trod_int jhd B;obtain⟨s1,M,-,-⟩:=DataW.trod_int jhd C;obtain⟨-,m2,t⟩:=jcm Tryz.underlying32 (by kernel_rfl) (by kernel_rfl) D;obtain⟨-,m3,b⟩:=jcm Tryz.underlying34 (by kernel_rfl) (by kernel_rfl) E;obtain⟨-,m4,I⟩:=jcm Tryz.underlying36 (by kernel_rfl) (by kernel_rfl) F
  obtain⟨-,m5,c⟩:=jcm Tryz.underlying39 (by kernel_rfl) (by kernel_rfl) G;obtain⟨u2,z2,S,u⟩:=t 0 _ rfl;obtain⟨u3,z3,T,v⟩:=b 0 _ rfl;obtain⟨u4,z4,U,z⟩:=b 1 _ rfl;obtain⟨u5,z5,V,g5⟩:=I 0 _ rfl;obtain⟨u6,z6,X,g6⟩:=I 1 _ rfl;obtain⟨u7,z7,Y,g7⟩:=I 2 _ rfl;obtain⟨u8,z8,Z,g8⟩:=c 0 _ rfl;obtain⟨u9,z9,a,g9⟩:=c 1 _ rfl;obtain⟨p,r,q,le,k2,d,g⟩:=jgu (k:=1) (encA:=jaG) (by omega) Tryz.underlying30 (by kernel_rfl) joJ u;obtain⟨s3,N,-,-⟩:=DataW.trod_int jhd v;obtain⟨s4,O,-,-⟩:=DataW.trod_string joK z;obtain⟨s5,P,-,-⟩:=DataW.trod_int jhd g5;obtain⟨s6,Q,-,w6⟩:=DataW.trod_int jhd g6;obtain⟨l,cl,o,lc,k7,e,i⟩:=jgu (k:=1) (encA:=jaG) (by omega) Tryz.underlying30 (by kernel_rfl) joJ g7;obtain⟨s8,R,-,-⟩:=DataW.trod_int jhd g8;obtain⟨ga,gl,gc,lg,k9,f,j⟩:=jgu (k:=2) (encA:=jbO) (by omega) Tryz.underlying37 (by kernel_rfl) jtc g9;simp only[List.getElem?_cons_zero,List.getElem?_cons_succ,Option.some.injEq,List.cons.injEq,and_true] at S T U V X Y Z a L M N O P Q R;refine⟨⟨s0,s1,le,s3,s4,s5,s6,lc,s8,lg⟩,⟨p,r,q,l,cl,o,ga,gl,gc⟩,?_,⟨d,e,f⟩,⟨g,i,j⟩,wf_i64 w6⟩;rw[L,M,S,k2,T,N,U,O,V,P,X,Q,Y,k7,Z,R,a,k9]
end
end
section
open Go.ChangeShapes Go.WideShapes Go.ChangeAt Go.Lib Go.Deep Go.Shelf
section
variable {H:Type} {enc:TypeId × Value->H} {w:World} {base:Nat} {held:Bool}
theorem jnH (n:Nat) (cs:List Value) (x:DataW H × List MemPlace) (h:DataW.trod enc Tryz.prog w base (fun _=>true) held n 60 cs=some x):∃ e:Ser × SerP,cs=jev e/\(e.2.At w.heap.size w e.1/\(e.1.wn/\I64 e.1.sk.cc)):=by
 obtain⟨E,m,D⟩:=jlA Tryz.underlying60 h;replace E:cs.length=12:=E.trans (by kernel_rfl);obtain⟨c,A⟩:=D 0 _ rfl;obtain⟨d,B⟩:=D 1 _ rfl;obtain⟨f,C⟩:=D 2 _ rfl
 match cs,E with
 | [v0,v1,v2,v3,v4,v5,v6,v7,v8,v9,v10,v11],_ =>
  change DataW.trod enc Tryz.prog w base _ held m 58 (([v0,v1,v2,v3,v4,v5,v6,v7,v8,v9,v10,v11].drop 0).take (Tryz.prog.cellsOf 58))=some c at A;change DataW.trod enc Tryz.prog w base _ held m 41 (([v0,v1,v2,v3,v4,v5,v6,v7,v8,v9,v10,v11].drop 1).take (Tryz.prog.cellsOf 41))=some d at B;change DataW.trod enc Tryz.prog w base _ held m 48 (([v0,v1,v2,v3,v4,v5,v6,v7,v8,v9,v10,v11].drop 11).take (Tryz.prog.cellsOf 48))=some f at C;rw[show Tryz.prog.cellsOf 58=1 by kernel_rfl] at A;rw[show Tryz.prog.cellsOf 41=10 by kernel_rfl] at B;rw[show Tryz.prog.cellsOf 48=1 by kernel_rfl] at C;simp only[List.drop_zero,List.drop_succ_cons,List.take_succ_cons,List.take_zero] at A B C;obtain⟨N,P,O,l,M,J,-⟩:=jgu (k:=2) (encA:=Lab.enc) (by omega) Tryz.underlying58 (by kernel_rfl) jrh A;obtain⟨y,s,I,L,fit,w6⟩:=jpS _ _ _ B;obtain⟨a,G,-,b⟩:=DataW.trod_int jsn C;simp only[List.cons.injEq,and_true] at I G;obtain⟨Q,R,S,T,U,V,X,Y,Z,F⟩:=I;refine⟨(⟨l,y,a⟩,⟨N,P,O,s⟩),?_,⟨J,L⟩,⟨fit,jsz b⟩,w6⟩;rw[M,Q,R,S,T,U,V,X,Y,Z,F,G];rfl
theorem jg7 {r:Reach} {E:Nat} {v:Value} {d:DataW H} {p:List MemPlace} (G:Value.okWide Tryz.prog w r E 22 v) (h:DataW.Trod enc Tryz.prog w base (fun _=>true) held 22 v d p) :
  ∃ a len cap l,v=.slice a len cap/\Tab w.heap.size w a len cap l/\∀ x∈l.map (·.1),Ser.wn x/\I64 x.sk.cc:=by
 obtain⟨a,len,cap,rfl⟩:=okWide_slice jcY G;obtain⟨C,F⟩:=h;obtain⟨J,D,B,l,e,S,U⟩:=jgu (k:=12) (encA:=jev) (by omega) jcY (by kernel_rfl) jnH F;injection e with e1 e2 e3
 subst e1 e2 e3;refine⟨a,len,cap,l,rfl,⟨S,fun e A=>(U e A).1⟩,fun x I=>?_⟩;obtain⟨e,A,rfl⟩:=List.mem_map.1 I;exact (U e A).2
end
end
section
open Go.Shelf
def SS.From (s:SS) (n:Nat):Prop:=(∀ z,s.ea=some z->n<=z.block)/\(∀ z,s.ca=some z->n<=z.block)/\(∀ z,s.ga=some z->n<=z.block)
theorem SS.From.mono {s:SS} {n m:Nat} (h:s.From m) (B:n<=m):s.From n:=⟨fun z A=>Nat.le_trans B (h.1 z A),fun z A=>Nat.le_trans B (h.2.1 z A),fun z A=>Nat.le_trans B (h.2.2 z A)⟩
end
end Go.Proofs.YtafhpamnegmilaaGreatDoor
