/- Package ladder: work.sketch. Package ladder: work.sketch, the other bodies. Package ladder: open. Package ladder: open at a kind that is none. Package ladder: open, the other kinds. Package ladder: open whole; Right, Cost. Package ladder: Cost. aviarylaw06 .. 09: Few. Package exact: errno; what Add and Merge hand back. Package exact: Count. -/
import Derived.Deep.RegionHeld3
import Derived.Deep.Cut
import Derived.Deep.CutRange
import Derived.Deep.DeepCutAuto
import Derived.StillTactics
import Derived.Laws.Rows
import Derived.Lib.MinMax
import Derived.Test.YtnegciklhanmbaaGreatDoorZLE
set_option maxHeartbeats 8000000
set_option maxRecDepth 100000
namespace Go.Proofs.YtnegciklhanmbaaGreatDoor
open Go Go.RowKit
theorem jxW (v:Value) (w:World) (a:Option Addr) (l c:Nat) (A:v=.agg #[.slice a l c]):(Instr.typeAssert (.iface 240 v) 115 240 true).run Tryz.prog w=.ok (.tuple #[v,.bool true]) w:=by subst A;kernel_rfl
theorem jwM {W:World} {B:Nat} {L J I H G F E D C A v0 v1 v2 v3 v4 v5 v6 v7 v8 v9:Value} {t:TypeId} (h:W.heap[B]? = some (.cells #[L,J,I,H,G,F,E,D,C,A] t (0,0))) :
  ((((((((((W.setCell ⟨B,0,none⟩ v0).setCell ⟨B,1,none⟩ v1).setCell ⟨B,2,none⟩ v2).setCell ⟨B,3,none⟩ v3).setCell ⟨B,4,none⟩ v4).setCell ⟨B,5,none⟩ v5).setCell ⟨B,6,none⟩ v6).setCell ⟨B,7,none⟩ v7).setCell ⟨B,8,none⟩ v8).setCell ⟨B,9,none⟩ v9).heap[B]? = some (.cells #[v0,v1,v2,v3,v4,v5,v6,v7,v8,v9] t (0,0)):=by
 replace h:(W.setCell ⟨B,0,none⟩ v0).heap[B]? = some (.cells #[v0,J,I,H,G,F,E,D,C,A] t (0,0)):=hSk h v0;generalize W.setCell ⟨B,0,none⟩ v0=W at h ⊢;replace h:(W.setCell ⟨B,1,none⟩ v1).heap[B]? = some (.cells #[v0,v1,I,H,G,F,E,D,C,A] t (0,0)):=hSk h v1;generalize W.setCell ⟨B,1,none⟩ v1=W at h ⊢;replace h:(W.setCell ⟨B,2,none⟩ v2).heap[B]? = some (.cells #[v0,v1,v2,H,G,F,E,D,C,A] t (0,0)):=hSk h v2;generalize W.setCell ⟨B,2,none⟩ v2=W at h ⊢;replace h:(W.setCell ⟨B,3,none⟩ v3).heap[B]? = some (.cells #[v0,v1,v2,v3,G,F,E,D,C,A] t (0,0)):=hSk h v3;generalize W.setCell ⟨B,3,none⟩ v3=W at h ⊢;replace h:(W.setCell ⟨B,4,none⟩ v4).heap[B]? = some (.cells #[v0,v1,v2,v3,v4,F,E,D,C,A] t (0,0)):=hSk h v4;generalize W.setCell ⟨B,4,none⟩ v4=W at h ⊢;replace h:(W.setCell ⟨B,5,none⟩ v5).heap[B]? = some (.cells #[v0,v1,v2,v3,v4,v5,E,D,C,A] t (0,0)):=hSk h v5;generalize W.setCell ⟨B,5,none⟩ v5=W at h ⊢;replace h:(W.setCell ⟨B,6,none⟩ v6).heap[B]? = some (.cells #[v0,v1,v2,v3,v4,v5,v6,D,C,A] t (0,0)):=hSk h v6;generalize W.setCell ⟨B,6,none⟩ v6=W at h ⊢;replace h:(W.setCell ⟨B,7,none⟩ v7).heap[B]? = some (.cells #[v0,v1,v2,v3,v4,v5,v6,v7,C,A] t (0,0)):=hSk h v7;generalize W.setCell ⟨B,7,none⟩ v7=W at h ⊢;replace h:(W.setCell ⟨B,8,none⟩ v8).heap[B]? = some (.cells #[v0,v1,v2,v3,v4,v5,v6,v7,v8,A] t (0,0)):=hSk h v8;generalize W.setCell ⟨B,8,none⟩ v8=W at h ⊢;replace h:(W.setCell ⟨B,9,none⟩ v9).heap[B]? = some (.cells #[v0,v1,v2,v3,v4,v5,v6,v7,v8,v9] t (0,0)):=hSk h v9
 generalize W.setCell ⟨B,9,none⟩ v9=W at h ⊢;exact h
def jhg (y:Sk) (w:World) (e:Ending) (w':World):Prop:=∃ s:SS,e=.returned (.agg (skv y s))/\s.At w'.heap.size w' y/\(∀ z,s.ea=some z->w.heap.size<=z.block)/\(∀ z,s.ca=some z->w.heap.size<=z.block)/\(∀ z,s.ga=some z->w.heap.size<=z.block)/\Bw w w'
def jgY (kind level:Int) (l:List Int):Sk:=⟨kind,level,l,0,⟨#[]⟩,0,0,[],0,[]⟩
def SS.Far (s:SS) (b:Nat):Prop:=(∀ z,s.ea=some z->b≠z.block)/\(∀ z,s.ca=some z->b≠z.block)/\(∀ z,s.ga=some z->b≠z.block)
theorem SS.At.set {s:SS} {n:Nat} {W:World} {x:Sk} (h:s.At n W x) {b o:Nat} (A:s.Far b) (v:Value):s.At n (W.setCell ⟨b,o,none⟩ v) x :=
 ⟨h.e.set_far (p:=⟨b,o,none⟩) A.1 v,h.c.set_far (p:=⟨b,o,none⟩) A.2.1 v,h.g.set_far (p:=⟨b,o,none⟩) A.2.2 v⟩
theorem jaa {W:World} {p:Addr} {b:Nat} (h:p.block≠b) (v:Value):(W.setCell p v).heap[b]? = W.heap[b]? := by
 show (W.heap.modify p.block _)[b]? = _;rw[Array.getElem?_modify];simp[h]
theorem jbR (W:World) (p:Addr) (v:Value):(W.setCell p v).heap.size=W.heap.size:=by simp[World.setCell]
theorem jsi {w W:World} {y:Sk} {s:SS} {tm:Array Value} {Y a b c d e f g h i:Value} (L:W.heap[w.heap.size+1]? = some (.cells #[Y,a,b,c,d,e,f,g,h,i] 44 (0,0))) (J:Bw w W) (I:s.At W.heap.size W y)
  (E:∀ z,s.ea=some z->w.heap.size+2<=z.block) (F:∀ z,s.ca=some z->w.heap.size+2<=z.block) (G:∀ z,s.ga=some z->w.heap.size+2<=z.block)
  (X:tm[2]?.getD undef=.pointer (some ⟨w.heap.size+1,0,none⟩)) :
  bodyPost Tryz.prog Tryz.f89 (jhg y w) Exit.ret { tmps:=tm,defers:=[] }
   ((((((((((W.setCell ⟨w.heap.size+1,0,none⟩ (.int .i64 y.kind)).setCell ⟨w.heap.size+1,1,none⟩ (.int .i64 y.level)).setCell ⟨w.heap.size+1,2,none⟩ (.slice s.ea s.el s.ec)).setCell ⟨w.heap.size+1,3,none⟩ (.int .i64 y.hb)).setCell ⟨w.heap.size+1,4,none⟩ (.string y.hr)).setCell ⟨w.heap.size+1,5,none⟩ (.int .i64 y.cr)).setCell ⟨w.heap.size+1,6,none⟩ (.int .i64 y.cc)).setCell ⟨w.heap.size+1,7,none⟩ (.slice s.ca s.cl s.cc)).setCell ⟨w.heap.size+1,8,none⟩ (.int .i64 y.gf)).setCell ⟨w.heap.size+1,9,none⟩ (.slice s.ga s.gl s.gc)):=by
 have B:s.Far (w.heap.size+1):=⟨fun z A=>by have:=E z A;omega,fun z A=>by have:=F z A;omega,fun z A=>by have:=G z A;omega⟩;have H:=jwM (v0:=.int .i64 y.kind) (v1:=.int .i64 y.level) (v2:=.slice s.ea s.el s.ec) (v3:=.int .i64 y.hb) (v4:=.string y.hr) (v5:=.int .i64 y.cr) (v6:=.int .i64 y.cc) (v7:=.slice s.ca s.cl s.cc) (v8:=.int .i64 y.gf) (v9:=.slice s.ga s.gl s.gc) L;have C:=(((((((((I.set (o:=0) B (.int .i64 y.kind)).set (o:=1) B (.int .i64 y.level)).set (o:=2) B (.slice s.ea s.el s.ec)).set (o:=3) B (.int .i64 y.hb)).set (o:=4) B (.string y.hr)).set (o:=5) B (.int .i64 y.cr)).set (o:=6) B (.int .i64 y.cc)).set (o:=7) B (.slice s.ca s.cl s.cc)).set (o:=8) B (.int .i64 y.gf)).set (o:=9) B (.slice s.ga s.gl s.gc);have D:=(((((((((J.setCell (p:=⟨w.heap.size+1,0,none⟩) (Nat.le_succ _) (.int .i64 y.kind)).setCell (p:=⟨w.heap.size+1,1,none⟩) (Nat.le_succ _) (.int .i64 y.level)).setCell (p:=⟨w.heap.size+1,2,none⟩) (Nat.le_succ _) (.slice s.ea s.el s.ec)).setCell (p:=⟨w.heap.size+1,3,none⟩) (Nat.le_succ _) (.int .i64 y.hb)).setCell (p:=⟨w.heap.size+1,4,none⟩) (Nat.le_succ _) (.string y.hr)).setCell (p:=⟨w.heap.size+1,5,none⟩) (Nat.le_succ _) (.int .i64 y.cr)).setCell (p:=⟨w.heap.size+1,6,none⟩) (Nat.le_succ _) (.int .i64 y.cc)).setCell (p:=⟨w.heap.size+1,7,none⟩) (Nat.le_succ _) (.slice s.ca s.cl s.cc)).setCell (p:=⟨w.heap.size+1,8,none⟩) (Nat.le_succ _) (.int .i64 y.gf)).setCell (p:=⟨w.heap.size+1,9,none⟩) (Nat.le_succ _) (.slice s.ga s.gl s.gc)
 rw[show W.heap.size=_ from (by simp only[jbR]:W.heap.size=((((((((((W.setCell ⟨w.heap.size+1,0,none⟩ (.int .i64 y.kind)).setCell ⟨w.heap.size+1,1,none⟩ (.int .i64 y.level)).setCell ⟨w.heap.size+1,2,none⟩ (.slice s.ea s.el s.ec)).setCell ⟨w.heap.size+1,3,none⟩ (.int .i64 y.hb)).setCell ⟨w.heap.size+1,4,none⟩ (.string y.hr)).setCell ⟨w.heap.size+1,5,none⟩ (.int .i64 y.cr)).setCell ⟨w.heap.size+1,6,none⟩ (.int .i64 y.cc)).setCell ⟨w.heap.size+1,7,none⟩ (.slice s.ca s.cl s.cc)).setCell ⟨w.heap.size+1,8,none⟩ (.int .i64 y.gf)).setCell ⟨w.heap.size+1,9,none⟩ (.slice s.ga s.gl s.gc)).heap.size)] at C;generalize ((((((((((W.setCell ⟨w.heap.size+1,0,none⟩ (.int .i64 y.kind)).setCell ⟨w.heap.size+1,1,none⟩ (.int .i64 y.level)).setCell ⟨w.heap.size+1,2,none⟩ (.slice s.ea s.el s.ec)).setCell ⟨w.heap.size+1,3,none⟩ (.int .i64 y.hb)).setCell ⟨w.heap.size+1,4,none⟩ (.string y.hr)).setCell ⟨w.heap.size+1,5,none⟩ (.int .i64 y.cr)).setCell ⟨w.heap.size+1,6,none⟩ (.int .i64 y.cc)).setCell ⟨w.heap.size+1,7,none⟩ (.slice s.ca s.cl s.cc)).setCell ⟨w.heap.size+1,8,none⟩ (.int .i64 y.gf)).setCell ⟨w.heap.size+1,9,none⟩ (.slice s.ga s.gl s.gc))=Z at H C D ⊢;obtain⟨M,N,O,P,Q,R,S,T,U,V⟩:=jbg H;refine bodyPost_ret (v:=.agg (skv y s)) (by simp[results,Tryz.f89,go_sem,X,M,N,O,P,Q,R,S,T,U,V]) rfl ⟨s,rfl,C,fun z A=>by have:=E z A;omega,fun z A=>by have:=F z A;omega,fun z A=>by have:=G z A;omega,D⟩
theorem jgr (kind level:Int) (l:List Int) (a:Option Addr) (len cap:Nat) (w:World) (k:SlE jaF 1 w.heap.size w a len l) (d:len<2147483648) :
  Calls Tryz.prog 89 #[.agg #[.iface 240 (.agg #[.slice a len cap]),.int .i64 kind,.int .i64 level]] w (jhg (jgY kind level l) w):=by
 obtain⟨m,Q,Y,S,T,O,f⟩:=jbF w #[.iface 240 (.agg #[.slice a len cap]),.int .i64 kind,.int .i64 level] 117 zsV 44 #[.int .i64 kind,.int .i64 level,.slice none 0 0,.int .i64 0,.string ⟨#[]⟩,.int .i64 0,.int .i64 0,.slice none 0 0,.int .i64 0,.slice none 0 0] 44;have ht:=fun w=>jxW (.agg #[.slice a len cap]) w a len cap rfl
 obtain⟨i,R,Z,D,g⟩:=jab m #[.slice a len cap] 240;have C:=O.trans (D.mono O.size);have j:=jbM a len cap l i (k.go C) d;have I:=Lib.hid Q;have J:=Lib.hid R;have L:=Lib.hid (known D (Nat.le_refl _) S);have M:=Lib.hid (known D (Nat.le_refl _) T);have B:w.heap.size+3<i.heap.size:=by omega
 clear k Q R Y S T Z g f;go_enter Tryz.func89,Tryz.ntmps89;go_wp2_with fail;rw[I.out,J.out];refine j.mono ?_;rintro e H ⟨G,A,rfl,h,X,F⟩;have E:=known F (Nat.le_refl _) L.out;have U:=known F (Nat.le_refl _) M.out;obtain⟨p0,p1,p2,p3,p4,p5,p6,p7,p8,p9⟩:=jbg E;obtain⟨r,t,u,v,x,f5,f6,f7,f8,f9⟩:=jft E;obtain⟨q0,q1,q2,q3,q4,q5,q6,q7,q8,q9⟩:=jbg U;have g2:H.frozen? ⟨w.heap.size+1+1,2,none⟩=false:=cFz U 2;have q:w.heap.size+1≠w.heap.size+1+1:=by omega
 clear j ht L M I J;go_wp2_with fail;have P:Bw w H:=C.trans (F.mono C.size);have n:SS.At ⟨G,len,A,none,0,0,none,0,0⟩ H.heap.size H (jgY kind level l):=⟨h,SlC.nil,SlC.nil⟩;have V:SS.Far ⟨G,len,A,none,0,0,none,0,0⟩ (w.heap.size+1+1):=⟨(fun z B=>by have:=X z B;omega),(fun z B=>by cases B),(fun z B=>by cases B)⟩;have N:=n.set (o:=2) V (.slice G len A);rw[<- jbR H ⟨w.heap.size+1+1,2,none⟩ (.slice G len A)] at N;have c:=(jaa (W:=H) (p:=⟨w.heap.size+1+1,2,none⟩) (b:=w.heap.size+1) (by show w.heap.size+1+1≠_;omega) (.slice G len A)).trans E;exact jsi (y:=jgY kind level l) (s:=⟨G,len,A,none,0,0,none,0,0⟩) c (P.setCell (p:=⟨w.heap.size+1+1,2,none⟩) (by show w.heap.size<=w.heap.size+1+1;omega) _) N (fun z B=>by have:=X z B;omega) (fun z B=>by cases B) (fun z B=>by cases B) rfl
theorem jw4 (b:Int) (r:ByteArray) (w:World):(Instr.typeAssert (.iface 242 (.agg #[.int .i64 b,.string r])) 115 240 true).run Tryz.prog w=.ok (.tuple #[.agg #[.slice none 0 0],.bool false]) w /\
  (Instr.typeAssert (.iface 242 (.agg #[.int .i64 b,.string r])) 115 242 true).run Tryz.prog w=.ok (.tuple #[.agg #[.int .i64 b,.string r],.bool true]) w:=⟨by kernel_rfl,by kernel_rfl⟩
theorem jv6 (r c:Int) (a:Option Addr) (n m:Nat) (w:World):(Instr.typeAssert (.iface 243 (.agg #[.int .i64 r,.int .i64 c,.slice a n m])) 115 240 true).run Tryz.prog w=.ok (.tuple #[.agg #[.slice none 0 0],.bool false]) w /\
  (Instr.typeAssert (.iface 243 (.agg #[.int .i64 r,.int .i64 c,.slice a n m])) 115 242 true).run Tryz.prog w=.ok (.tuple #[.agg #[.int .i64 0,.string ⟨#[]⟩],.bool false]) w /\
  (Instr.typeAssert (.iface 243 (.agg #[.int .i64 r,.int .i64 c,.slice a n m])) 115 243 true).run Tryz.prog w=.ok (.tuple #[.agg #[.int .i64 r,.int .i64 c,.slice a n m],.bool true]) w:=⟨by kernel_rfl,by kernel_rfl,by kernel_rfl⟩
theorem jtf (f:Int) (a:Option Addr) (n m:Nat) (w:World):(Instr.typeAssert (.iface 245 (.agg #[.int .i64 f,.slice a n m])) 115 240 true).run Tryz.prog w=.ok (.tuple #[.agg #[.slice none 0 0],.bool false]) w /\
  (Instr.typeAssert (.iface 245 (.agg #[.int .i64 f,.slice a n m])) 115 242 true).run Tryz.prog w=.ok (.tuple #[.agg #[.int .i64 0,.string ⟨#[]⟩],.bool false]) w /\
  (Instr.typeAssert (.iface 245 (.agg #[.int .i64 f,.slice a n m])) 115 243 true).run Tryz.prog w=.ok (.tuple #[.agg #[.int .i64 0,.int .i64 0,.slice none 0 0],.bool false]) w /\
  (Instr.typeAssert (.iface 245 (.agg #[.int .i64 f,.slice a n m])) 115 245 true).run Tryz.prog w=.ok (.tuple #[.agg #[.int .i64 f,.slice a n m],.bool true]) w:=⟨by kernel_rfl,by kernel_rfl,by kernel_rfl,by kernel_rfl⟩
def jpt (kind level:Int) (b:Int) (r:ByteArray):Sk:=⟨kind,level,[],b,r,0,0,[],0,[]⟩
def jm3 (kind level:Int) (r c:Int) (l:List Int):Sk:=⟨kind,level,[],0,⟨#[]⟩,r,c,l,0,[]⟩
def jm2 (kind level:Int) (f:Int) (l:List (Int × Int)):Sk:=⟨kind,level,[],0,⟨#[]⟩,0,0,[],f,l⟩
theorem jgs (kind level b:Int) (r:ByteArray) (w:World) :
  Calls Tryz.prog 89 #[.agg #[.iface 242 (.agg #[.int .i64 b,.string r]),.int .i64 kind,.int .i64 level]] w (jhg (jpt kind level b r) w):=by
 have B:=fun w=>(jw4 b r w).1
 have C:=fun w=>(jw4 b r w).2
 go_enter Tryz.func89,Tryz.ntmps89;go_wp2_with fail;refine bodyPost_ret (v:=.agg #[.int .i64 kind,.int .i64 level,.slice none 0 0,.int .i64 b,.string r,.int .i64 0,.int .i64 0,.slice none 0 0,.int .i64 0,.slice none 0 0]) (by simp[results,Tryz.f89,go_sem]) rfl ⟨⟨none,0,0,none,0,0,none,0,0⟩,rfl,⟨SlC.nil,SlC.nil,SlC.nil⟩,(fun z A=>by cases A),(fun z A=>by cases A),(fun z A=>by cases A),?_⟩;exact ((((Below.refl _ w).alloc (Nat.le_refl _) _).alloc (by simp) _).alloc (by simp;omega) _).alloc (by simp;omega) _
theorem jgq (kind level r c:Int) (l:List Int) (a:Option Addr) (len cap:Nat) (w:World) (m:SlE jaF 1 w.heap.size w a len l) (f:len<2147483648) :
  Calls Tryz.prog 89 #[.agg #[.iface 243 (.agg #[.int .i64 r,.int .i64 c,.slice a len cap]),.int .i64 kind,.int .i64 level]] w (jhg (jm3 kind level r c l) w):=by
 obtain⟨n,Q,Y,S,T,O,g⟩:=jbF w #[.iface 243 (.agg #[.int .i64 r,.int .i64 c,.slice a len cap]),.int .i64 kind,.int .i64 level] 117 zsV 44 #[.int .i64 kind,.int .i64 level,.slice none 0 0,.int .i64 0,.string ⟨#[]⟩,.int .i64 r,.int .i64 c,.slice a len cap,.int .i64 0,.slice none 0 0] 44;have q:=fun w=>(jv6 r c a len cap w).1
 have t:=fun w=>(jv6 r c a len cap w).2.1
 have u:=fun w=>(jv6 r c a len cap w).2.2
 obtain⟨j,R,Z,D,h⟩:=jab n #[.int .i64 r,.int .i64 c,.slice a len cap] 243;have C:=O.trans (D.mono O.size);have k:=jbM a len cap l j (m.go C) f;have I:=Lib.hid Q;have J:=Lib.hid R;have L:=Lib.hid (known D (Nat.le_refl _) S);have M:=Lib.hid (known D (Nat.le_refl _) T);have B:w.heap.size+3<j.heap.size:=by omega
 clear m Q R Y S T Z h g;go_enter Tryz.func89,Tryz.ntmps89;go_wp2_with fail;rw[I.out,J.out];refine k.mono ?_;rintro e H ⟨G,A,rfl,i,X,F⟩;have E:=known F (Nat.le_refl _) L.out;have U:=known F (Nat.le_refl _) M.out;obtain⟨p0,p1,p2,p3,p4,p5,p6,p7,p8,p9⟩:=jbg E;obtain⟨f0,f1,f2,f3,f4,f5,f6,f7,f8,f9⟩:=jft E;obtain⟨q0,q1,q2,q3,q4,q5,q6,q7,q8,q9⟩:=jbg U;have g2:H.frozen? ⟨w.heap.size+1+1,7,none⟩=false:=cFz U 7;have x:w.heap.size+1≠w.heap.size+1+1:=by omega
 clear k q t u L M I J;go_wp2_with fail;have P:Bw w H:=C.trans (F.mono C.size);have v:SS.At ⟨none,0,0,G,len,A,none,0,0⟩ H.heap.size H (jm3 kind level r c l):=⟨SlC.nil,i,SlC.nil⟩;have V:SS.Far ⟨none,0,0,G,len,A,none,0,0⟩ (w.heap.size+1+1):=⟨(fun z B=>by cases B),(fun z B=>by have:=X z B;omega),(fun z B=>by cases B)⟩;have N:=v.set (o:=7) V (.slice G len A);rw[<- jbR H ⟨w.heap.size+1+1,7,none⟩ (.slice G len A)] at N;have d:=(jaa (W:=H) (p:=⟨w.heap.size+1+1,7,none⟩) (b:=w.heap.size+1) (by show w.heap.size+1+1≠_;omega) (.slice G len A)).trans E;exact jsi (y:=jm3 kind level r c l) (s:=⟨none,0,0,G,len,A,none,0,0⟩) d (P.setCell (p:=⟨w.heap.size+1+1,7,none⟩) (by show w.heap.size<=w.heap.size+1+1;omega) _) N (fun z B=>by cases B) (fun z B=>by have:=X z B;omega) (fun z B=>by cases B) rfl
theorem jgp (kind level f:Int) (l:List (Int × Int)) (a:Option Addr) (len cap:Nat) (w:World) (m:SlE jb4 2 w.heap.size w a len l) (d:len<2147483648) :
  Calls Tryz.prog 89 #[.agg #[.iface 245 (.agg #[.int .i64 f,.slice a len cap]),.int .i64 kind,.int .i64 level]] w (jhg (jm2 kind level f l) w):=by
 obtain⟨n,Q,Y,S,T,O,g⟩:=jbF w #[.iface 245 (.agg #[.int .i64 f,.slice a len cap]),.int .i64 kind,.int .i64 level] 117 zsV 44 #[.int .i64 kind,.int .i64 level,.slice none 0 0,.int .i64 0,.string ⟨#[]⟩,.int .i64 0,.int .i64 0,.slice none 0 0,.int .i64 f,.slice a len cap] 44;have q:=fun w=>(jtf f a len cap w).1
 have r:=fun w=>(jtf f a len cap w).2.1
 have t:=fun w=>(jtf f a len cap w).2.2.1
 have u:=fun w=>(jtf f a len cap w).2.2.2
 obtain⟨j,R,Z,D,h⟩:=jab n #[.int .i64 f,.slice a len cap] 245;have C:=O.trans (D.mono O.size);have k:=jeq a len cap l j (m.go C) d;have I:=Lib.hid Q;have J:=Lib.hid R;have L:=Lib.hid (known D (Nat.le_refl _) S);have M:=Lib.hid (known D (Nat.le_refl _) T);have B:w.heap.size+3<j.heap.size:=by omega
 clear m Q R Y S T Z h g;go_enter Tryz.func89,Tryz.ntmps89;go_wp2_with fail;rw[I.out,J.out];refine k.mono ?_;rintro e H ⟨G,A,rfl,i,X,F⟩;have E:=known F (Nat.le_refl _) L.out;have U:=known F (Nat.le_refl _) M.out;obtain⟨p0,p1,p2,p3,p4,p5,p6,p7,p8,p9⟩:=jbg E;obtain⟨f0,f1,f2,f3,f4,f5,f6,f7,f8,f9⟩:=jft E;obtain⟨q0,q1,q2,q3,q4,q5,q6,q7,q8,q9⟩:=jbg U;have g2:H.frozen? ⟨w.heap.size+1+1,9,none⟩=false:=cFz U 9;have x:w.heap.size+1≠w.heap.size+1+1:=by omega
 clear k q r t u L M I J;go_wp2_with fail;have P:Bw w H:=C.trans (F.mono C.size);have v:SS.At ⟨none,0,0,none,0,0,G,len,A⟩ H.heap.size H (jm2 kind level f l):=⟨SlC.nil,SlC.nil,i⟩;have V:SS.Far ⟨none,0,0,none,0,0,G,len,A⟩ (w.heap.size+1+1):=⟨(fun z B=>by cases B),(fun z B=>by cases B),(fun z B=>by have:=X z B;omega)⟩;have N:=v.set (o:=9) V (.slice G len A);rw[<- jbR H ⟨w.heap.size+1+1,9,none⟩ (.slice G len A)] at N;have c:=(jaa (W:=H) (p:=⟨w.heap.size+1+1,9,none⟩) (b:=w.heap.size+1) (by show w.heap.size+1+1≠_;omega) (.slice G len A)).trans E;exact jsi (y:=jm2 kind level f l) (s:=⟨none,0,0,none,0,0,G,len,A⟩) c (P.setCell (p:=⟨w.heap.size+1+1,9,none⟩) (by show w.heap.size<=w.heap.size+1+1;omega) _) N (fun z B=>by cases B) (fun z B=>by cases B) (fun z B=>by have:=X z B;omega) rfl
structure OpenIn (x:Sk) (s:SS) (w W:World):Prop where
 box:W.heap[w.heap.size]? = some (.cells (skv x s) 44 (0,0))
 res:W.heap[w.heap.size+1]? = some (.cells #[.nilIface,.int .i64 0,.int .i64 0] 117 (0,0))
 flt:W.heap[w.heap.size+1+1]? = some (.cells #[.int .i64 100] 173 (0,0))
 lists:s.At W.heap.size W x
 below:Bw w W
theorem OpenIn.go {x:Sk} {s:SS} {w W A:World} (h:OpenIn x s w W) (hb:Bw W A):OpenIn x s w A:=⟨known hb (Nat.le_refl _) h.box,known hb (Nat.le_refl _) h.res,known hb (Nat.le_refl _) h.flt,h.lists.go hb,h.below.trans (hb.mono h.below.size)⟩
def jeL (ok:Bool) (body:Value) (x:Sk) (w:World) (e:Ending) (w':World):Prop :=
 (if ok then e=.returned (.tuple #[.agg #[body,.int .i64 x.kind,.int .i64 x.level],.nilIface])
  else ∃ b,e=.returned (.tuple #[.agg #[.nilIface,.int .i64 0,.int .i64 0],.iface 171 (.pointer (some ⟨b,0,none⟩))])/\w'.heap[b]? = some (.cells #[.int .i64 100] 173 (0,0))/\w.heap.size<=b)/\Bw w w'
theorem jeY {x:Sk} {s:SS} {w W:World} {body:Value} {tm:Array Value} (h:OpenIn x s w W) (N:tm[2]?.getD undef=.pointer (some ⟨w.heap.size+1,0,none⟩)) (O:tm[3]?.getD undef=.iface 171 (.pointer (some ⟨w.heap.size+1+1,0,none⟩))) :
  bodyPost Tryz.prog Tryz.f47 (jeL false body x w) Exit.ret { tmps:=tm,defers:=[] } (((W.setCell ⟨w.heap.size+1,0,none⟩ .nilIface).setCell ⟨w.heap.size+1,1,none⟩ (.int .i64 0)).setCell ⟨w.heap.size+1,2,none⟩ (.int .i64 0)):=by
 have G:(W.setCell ⟨w.heap.size+1,0,none⟩ .nilIface).heap[w.heap.size+1]? = some (.cells #[.nilIface,.int .i64 0,.int .i64 0] 117 (0,0)):=hSk h.res .nilIface;have D:=(jaa (W:=W) (p:=⟨w.heap.size+1,0,none⟩) (b:=w.heap.size+1+1) (by show w.heap.size+1≠_;omega) .nilIface).trans h.flt;have A:=h.below.setCell (p:=⟨w.heap.size+1,0,none⟩) (Nat.le_succ _) .nilIface;generalize W.setCell ⟨w.heap.size+1,0,none⟩ .nilIface=W at G D A ⊢;have H:(W.setCell ⟨w.heap.size+1,1,none⟩ (.int .i64 0)).heap[w.heap.size+1]? = some (.cells #[.nilIface,.int .i64 0,.int .i64 0] 117 (0,0)):=hSk G (.int .i64 0);have E:=(jaa (W:=W) (p:=⟨w.heap.size+1,1,none⟩) (b:=w.heap.size+1+1) (by show w.heap.size+1≠_;omega) (.int .i64 0)).trans D;have B:=A.setCell (p:=⟨w.heap.size+1,1,none⟩) (Nat.le_succ _) (.int .i64 0);generalize W.setCell ⟨w.heap.size+1,1,none⟩ (.int .i64 0)=W at H E B ⊢;have I:(W.setCell ⟨w.heap.size+1,2,none⟩ (.int .i64 0)).heap[w.heap.size+1]? = some (.cells #[.nilIface,.int .i64 0,.int .i64 0] 117 (0,0)):=hSk H (.int .i64 0);have F:=(jaa (W:=W) (p:=⟨w.heap.size+1,2,none⟩) (b:=w.heap.size+1+1) (by show w.heap.size+1≠_;omega) (.int .i64 0)).trans E;have C:=B.setCell (p:=⟨w.heap.size+1,2,none⟩) (Nat.le_succ _) (.int .i64 0);generalize W.setCell ⟨w.heap.size+1,2,none⟩ (.int .i64 0)=W at I F C ⊢;obtain⟨J,L,M⟩:=cl3 I;refine bodyPost_ret (v:=.tuple #[.agg #[.nilIface,.int .i64 0,.int .i64 0],.iface 171 (.pointer (some ⟨w.heap.size+1+1,0,none⟩))]) (by simp[results,Tryz.f47,go_sem,N,O,J,L,M]) rfl ⟨?_,C⟩
 exact⟨_,rfl,F,by omega⟩
theorem jjP (w:World):Calls Tryz.prog 86 #[] w fun e w'=>∃ r,e=.returned (.map (some r))/\w'.heap[r]? = some (.map jcR 3)/\Bw w w' :=
 (jq5 w).mono fun e w' ⟨B,A⟩=>⟨_,B,by rw[A];exact World.alloc_heap_new _ _,by rw[A];exact (Below.refl _ w).alloc (Nat.le_refl _) _⟩
theorem jwW (w:World):(zeroValue 174).run Tryz.prog w=.ok .nilFunc w:=by kernel_rfl
theorem jum {w:World} {r:Nat} (k:Int) (h:w.heap[r]? = some (.map jcR 3)) (A:(k==1)=false) (B:(k==2)=false) (C:(k==3)=false):(Instr.lookup 176 (.map (some r)) (.int .i64 k) true).run Tryz.prog w=.ok (.tuple #[.nilFunc,.bool false]) w :=
 jfQ jdf Tryz.underlying3 h (jwW w) (by simp[jcR,Instr.findNow,Instr.sameNow,A,B,C])
theorem jra {w:World} {r:Nat} (h:w.heap[r]? = some (.map jcR 3)):(Instr.lookup 176 (.map (some r)) (.int .i64 1) true).run Tryz.prog w=.ok (.tuple #[.func (.func 125) #[] #[],.bool true]) w:=(jeW jdf Tryz.underlying3 h rfl).1
theorem jvl {w:World} {r:Nat} (h:w.heap[r]? = some (.map jcR 3)):(Instr.lookup 176 (.map (some r)) (.int .i64 2) true).run Tryz.prog w=.ok (.tuple #[.func (.func 126) #[] #[],.bool true]) w:=(jeW jdf Tryz.underlying3 h rfl).1
theorem jvm {w:World} {r:Nat} (h:w.heap[r]? = some (.map jcR 3)):(Instr.lookup 176 (.map (some r)) (.int .i64 3) true).run Tryz.prog w=.ok (.tuple #[.func (.func 127) #[] #[],.bool true]) w:=(jeW jdf Tryz.underlying3 h rfl).1
theorem jmQ {x:Sk} {s:SS} {w:World} (H:s.At w.heap.size w x):∃ B,((w.alloc (.cells (skv x s) 44)).alloc (.cells #[.nilIface,.int .i64 0,.int .i64 0] 117)).alloc (.cells #[.int .i64 100] 173)=B/\OpenIn x s w B:=by
 obtain⟨B,C,D,E,F,A,G⟩:=jbF w (skv x s) 44 #[.nilIface,.int .i64 0,.int .i64 0] 117 #[.int .i64 100] 173;exact⟨B,C,D,E,F,H.go A,A⟩
theorem jlA (x:Sk) (s:SS) (body:Value) (w:World) (O:s.At w.heap.size w x) (J:(x.kind==1)=false) (L:(x.kind==2)=false) (M:(x.kind==3)=false) :
  Calls Tryz.prog 47 #[.agg (skv x s)] w (jeL false body x w):=by
 obtain⟨B,F,N⟩:=jmQ O;have E:=Lib.hid N;have D:Hid ((x.kind==1)=false/\(x.kind==2)=false/\(x.kind==3)=false):=⟨J,L,M⟩;clear O J L M N;go_enter Tryz.func47,Tryz.ntmps47;go_wp2_with fail;clear F;have R:B.cell? ⟨w.heap.size,0,none⟩=some (.int .i64 x.kind):=cCc E.out.box 0;have P:∀ W,Bw B W->W.cell? ⟨w.heap.size,0,none⟩=some (.int .i64 x.kind)/\Bw B W:=fun W h=>⟨cCc (E.out.go h).box 0,h⟩
 have I:=Lib.hid P;clear P
 go_region_held3 (fun w'=>w'.cell? ⟨w.heap.size,0,none⟩=some (.int .i64 x.kind)/\Bw B w')
  (first
   | exact I.out _ (Below.refl _ _).drew
   | (go_split_ands;refine I.out _ ?_;first | assumption | exact Below.trans (by assumption) (Below.mono (by assumption) (Below.size (by assumption)))))
  (first
   | (go_at_call 86;refine (jjP _).mono ?_;rintro e Q ⟨r,rfl,hr,C⟩;have G:=jum x.kind hr D.out.1 D.out.2.1 D.out.2.2;have H:Bw B Q:=(by go_split_ands;exact Below.trans (by assumption) (Below.mono C (Below.size (by assumption))))))
 have A:=E.out.go H;clear G hr C;go_wp2_with fail;go_quiet (fail);obtain⟨p0,V,X⟩:=cl3 A.res;obtain⟨S,T,U⟩:=cz3 A.res;go_wp2_with fail;exact jeY (A.go (bDr (Below.refl _ _) _)) rfl rfl
theorem jrE {x:Sk} {s:SS} {w W:World} {body:Value} {tm:Array Value} (h:OpenIn x s w W) (J:tm[2]?.getD undef=.pointer (some ⟨w.heap.size+1,0,none⟩)) (L:tm[3]?.getD undef=.nilIface) :
  bodyPost Tryz.prog Tryz.f47 (jeL true body x w) Exit.ret { tmps:=tm,defers:=[] } (((W.setCell ⟨w.heap.size+1,0,none⟩ body).setCell ⟨w.heap.size+1,1,none⟩ (.int .i64 x.kind)).setCell ⟨w.heap.size+1,2,none⟩ (.int .i64 x.level)):=by
 have D:(W.setCell ⟨w.heap.size+1,0,none⟩ body).heap[w.heap.size+1]? = some (.cells #[body,.int .i64 0,.int .i64 0] 117 (0,0)):=hSk h.res body;have A:=h.below.setCell (p:=⟨w.heap.size+1,0,none⟩) (Nat.le_succ _) body;generalize W.setCell ⟨w.heap.size+1,0,none⟩ body=W at D A ⊢;have E:(W.setCell ⟨w.heap.size+1,1,none⟩ (.int .i64 x.kind)).heap[w.heap.size+1]? = some (.cells #[body,.int .i64 x.kind,.int .i64 0] 117 (0,0)):=hSk D (.int .i64 x.kind);have B:=A.setCell (p:=⟨w.heap.size+1,1,none⟩) (Nat.le_succ _) (.int .i64 x.kind);generalize W.setCell ⟨w.heap.size+1,1,none⟩ (.int .i64 x.kind)=W at E B ⊢;have F:(W.setCell ⟨w.heap.size+1,2,none⟩ (.int .i64 x.level)).heap[w.heap.size+1]? = some (.cells #[body,.int .i64 x.kind,.int .i64 x.level] 117 (0,0)):=hSk E (.int .i64 x.level);have C:=B.setCell (p:=⟨w.heap.size+1,2,none⟩) (Nat.le_succ _) (.int .i64 x.level);generalize W.setCell ⟨w.heap.size+1,2,none⟩ (.int .i64 x.level)=W at F C ⊢;obtain⟨G,H,I⟩:=cl3 F;exact bodyPost_ret (v:=.tuple #[.agg #[body,.int .i64 x.kind,.int .i64 x.level],.nilIface]) (by simp[results,Tryz.f47,go_sem,J,L,G,H,I]) rfl ⟨rfl,C⟩
theorem jfT {N:Nat} {T:TypeId} {v:Value} {y:Bool} {C:Sk} (x:Sk) (s:SS) (w:World) (hx:s.At w.heap.size w x)
  (E:∀ (w:World) (r:Nat),w.heap[r]? = some (.map jcR 3)->(Instr.lookup 176 (.map (some r)) (.int .i64 x.kind) true).run Tryz.prog w=.ok (.tuple #[.func (.func N) #[] #[],.bool true]) w)
  (ad:∀ args w,(callFunc N args).run Tryz.prog w=.ok (.enter N args) w) (h1:0<=x.level) (o:x.level<=jaH x.kind)
  (a:∀ W,s.At W.heap.size W x->Calls Tryz.prog N #[.agg (skv x s)] W fun e w'=>e=.returned (.tuple #[.iface T v,.bool y])/\Bw W w')
  (hK:∀ W,s.At W.heap.size W x->Calls Tryz.prog 89 #[.agg #[.iface T v,.int .i64 x.kind,.int .i64 x.level]] W (jhg C W)) :
  Calls Tryz.prog 47 #[.agg (skv x s)] w (jeL (y&&jbc x C) (.iface T v) x w):=by
 obtain⟨X,aa,hO⟩:=jmQ hx;have n:=Lib.hid hO;have t1:decide (x.level<0)=false:=by simp;omega
 have H:Hid (∀ w,Calls Tryz.prog 87 #[.int .i64 x.kind] w fun e w'=>e=.returned (.int .i64 (jaH x.kind))/\w'=w):=fun w=>(jdy x.kind w).mono fun e w' ⟨h1,o⟩=>⟨h1,o.symm⟩
 generalize jaH x.kind=bt at o H;have t2:decide (bt<x.level)=false:=by simp;omega
 have t:=Lib.hid E;have HD:=Lib.hid a;have q:=Lib.hid hK;clear hx hO h1 o E a hK;go_enter Tryz.func47,Tryz.ntmps47;go_wp2_with fail;clear aa;have c0:X.cell? ⟨w.heap.size,0,none⟩=some (.int .i64 x.kind):=cCc n.out.box 0;have q0:∀ W,Bw X W->W.cell? ⟨w.heap.size,0,none⟩=some (.int .i64 x.kind)/\Bw X W:=fun W h=>⟨cCc (n.out.go h).box 0,h⟩
 have u:=Lib.hid q0;clear q0
 go_region_held3 (fun w'=>w'.cell? ⟨w.heap.size,0,none⟩=some (.int .i64 x.kind)/\Bw X w')
  (first
   | exact u.out _ (Below.refl _ _).drew
   | (go_split_ands;refine u.out _ ?_;first | assumption | exact Below.trans (by assumption) (Below.mono (by assumption) (Below.size (by assumption)))))
  (first
   | (go_at_call 86;refine (jjP _).mono ?_;rintro e w1 ⟨r,rfl,hr,f⟩;have E:=t.out _ _ hr;have l:Bw X w1:=(by go_split_ands;exact Below.trans (by assumption) (Below.mono f (Below.size (by assumption))))))
 have O:=n.out.go l;have k:=O.box;obtain⟨z,d1,d2,d3,d4,d5,d6,d7,d8,d9⟩:=jbg k;clear E hr f c0;go_wp2_with fail;go_quiet ((go_at_call 87;exact Calls.quiet_of_same (H.out _)));go_wp2_with fail;have P:=O.go (bDr (Below.refl _ _) nq);have a:=HD.out (w1.drewN nq) P.lists;refine a.mono ?_;rintro e R ⟨rfl,g⟩;have A:=P.go g;have G:=A.box;clear a HD P g O k z d1 d2 d3 d4 d5 d6 d7 d8 d9 u H n l;obtain⟨z,d1,d2,d3,d4,d5,d6,d7,d8,d9⟩:=jbg G;obtain⟨p0,p1,p2⟩:=cl3 A.res;obtain⟨f0,f1,f2⟩:=cz3 A.res
 cases y with
 | false =>
  go_wp2_with fail;rw[Bool.false_and];exact jeY A rfl rfl
 | true =>
  obtain⟨M,b,c,Z,ac⟩:=jab R #[.iface T v,.int .i64 x.kind,.int .i64 x.level] 117;have V:=Lib.hid b;have B:=Lib.hid (A.go Z);have L:=Lib.hid c;clear b c Z ac A p0 p1 p2 f0 f1 f2 G;go_wp2_with fail;rw[V.out];clear V z d1 d2 d3 d4 d5 d6 d7 d8 d9
  have q4:∀ w',Bw M w'->w'.cell? ⟨w.heap.size,0,none⟩=some (.int .i64 x.kind)/\w'.cell? ⟨w.heap.size,1,none⟩=some (.int .i64 x.level)/\w'.cell? ⟨w.heap.size,2,none⟩=some (.slice s.ea s.el s.ec)/\w'.cell? ⟨w.heap.size,3,none⟩=some (.int .i64 x.hb)/\w'.cell? ⟨w.heap.size,4,none⟩=some (.string x.hr)/\w'.cell? ⟨w.heap.size,5,none⟩=some (.int .i64 x.cr)/\w'.cell? ⟨w.heap.size,6,none⟩=some (.int .i64 x.cc)/\w'.cell? ⟨w.heap.size,7,none⟩=some (.slice s.ca s.cl s.cc)/\w'.cell? ⟨w.heap.size,8,none⟩=some (.int .i64 x.gf)/\w'.cell? ⟨w.heap.size,9,none⟩=some (.slice s.ga s.gl s.gc)/\w'.cell? ⟨R.heap.size,0,none⟩=some (.iface T v)/\w'.cell? ⟨R.heap.size,1,none⟩=some (.int .i64 x.kind)/\w'.cell? ⟨R.heap.size,2,none⟩=some (.int .i64 x.level)/\Bw M w':=fun w' h=>by
   have hb:=(B.out.go h).box;have hc:=known h (Nat.le_refl _) L.out;exact⟨cCc hb 0,cCc hb 1,cCc hb 2,cCc hb 3,cCc hb 4,cCc hb 5,cCc hb 6,cCc hb 7,cCc hb 8,cCc hb 9,cCc hc 0,cCc hc 1,cCc hc 2,h⟩
  have I:=Lib.hid q4;clear q4;obtain⟨p,m⟩:∃ p,jbc x C=p:=⟨_,rfl⟩;have J:=Lib.hid m;clear m;have U:Hid (∀ W,Bw M W->Calls Tryz.prog 89 #[.agg #[.iface T v,.int .i64 x.kind,.int .i64 x.level]] W (jhg C W)):=fun W h=>q.out W (B.out.go h).lists
  have S:Hid (∀ W (s':SS),Bw M W->s'.At W.heap.size W C->CR 88 #[.agg (skv x s),.agg #[.int .i64 C.kind,.int .i64 C.level,.slice s'.ea s'.el s'.ec,.int .i64 C.hb,.string C.hr,.int .i64 C.cr,.int .i64 C.cc,.slice s'.ca s'.cl s'.cc,.int .i64 C.gf,.slice s'.ga s'.gl s'.gc]] W (.bool p)):=fun W s' h ab=>by
   have:=jhN x C s s' W (B.out.go h).lists ab;rw[J.out] at this;exact this
  go_region_held3 (fun w'=>w'.cell? ⟨w.heap.size,0,none⟩=some (.int .i64 x.kind)/\w'.cell? ⟨w.heap.size,1,none⟩=some (.int .i64 x.level)/\w'.cell? ⟨w.heap.size,2,none⟩=some (.slice s.ea s.el s.ec)/\w'.cell? ⟨w.heap.size,3,none⟩=some (.int .i64 x.hb)/\w'.cell? ⟨w.heap.size,4,none⟩=some (.string x.hr)/\w'.cell? ⟨w.heap.size,5,none⟩=some (.int .i64 x.cr)/\w'.cell? ⟨w.heap.size,6,none⟩=some (.int .i64 x.cc)/\w'.cell? ⟨w.heap.size,7,none⟩=some (.slice s.ca s.cl s.cc)/\w'.cell? ⟨w.heap.size,8,none⟩=some (.int .i64 x.gf)/\w'.cell? ⟨w.heap.size,9,none⟩=some (.slice s.ga s.gl s.gc)/\w'.cell? ⟨R.heap.size,0,none⟩=some (.iface T v)/\w'.cell? ⟨R.heap.size,1,none⟩=some (.int .i64 x.kind)/\w'.cell? ⟨R.heap.size,2,none⟩=some (.int .i64 x.level)/\Bw M w')
   (first
    | exact I.out _ (Below.refl _ _).drew
    | (go_split_ands;refine I.out _ ?_;first | assumption | exact Below.trans (by assumption) (Below.mono (by assumption) (Below.size (by assumption)))))
   (first
    | (go_at_call 89;refine (U.out _ (by go_split_ands;assumption)).mono ?_;rintro e w5 ⟨s5,rfl,Y,-,-,-,i⟩;have F:Bw M w5:=(by go_split_ands;exact Below.trans (by assumption) (Below.mono i (Below.size (by assumption)))))
    | (go_at_call 88;refine (S.out _ s5 F Y).mono ?_;rintro e w6 ⟨rfl,j⟩;have Q:Bw M w6:=F.trans (j.mono F.size)))
  have D:=B.out.go Q;have d:=known Q (Nat.le_refl _) L.out;obtain⟨u0,u1,u2⟩:=cl3 d;obtain⟨p0,p1,p2⟩:=cl3 D.res;obtain⟨f0,f1,f2⟩:=cz3 D.res;clear I U S d j i Y F Q B L
  cases p with
  | false =>
   go_wp2_with fail;rw[J.out,Bool.true_and];exact jeY D rfl rfl
  | true =>
   go_wp2_with fail;have h9:=fun tm=>jrE (body:=.iface T v) (tm:=tm) D
   rw[J.out,Bool.true_and];exact h9 _ rfl rfl
theorem jxn {k:Int} (A:k=1\/k=2\/k=3):∃ N,∀ (w:World) (r:Nat),w.heap[r]? = some (.map jcR 3)->(Instr.lookup 176 (.map (some r)) (.int .i64 k) true).run Tryz.prog w=.ok (.tuple #[.func (.func N) #[] #[],.bool true]) w:=by
 rcases A with rfl | rfl | rfl
 ·exact⟨_,fun _ _ h=>jra h⟩
 ·exact⟨_,fun _ _ h=>jvl h⟩
 ·exact⟨_,fun _ _ h=>jvm h⟩
theorem jux (x:Sk) (s:SS) (body:Value) (w:World) (Q:s.At w.heap.size w x) (O:x.kind=1\/x.kind=2\/x.kind=3) (P:x.level<0\/jaH x.kind<x.level) :
  Calls Tryz.prog 47 #[.agg (skv x s)] w (jeL false body x w):=by
 obtain⟨D,H,M⟩:=jmQ Q;have G:=Lib.hid M;obtain⟨N,B⟩:=jxn O;have F:=Lib.hid B;have C:Hid (∀ w,Calls Tryz.prog 87 #[.int .i64 x.kind] w fun e w'=>e=.returned (.int .i64 (jaH x.kind))/\w'=w):=fun w=>(jdy x.kind w).mono fun e w' ⟨T,U⟩=>⟨T,U.symm⟩
 generalize jaH x.kind=bt at P C;have ht:decide (x.level<0)=true\/decide (x.level<0)=false/\decide (bt<x.level)=true:=by simp only[decide_eq_true_eq,decide_eq_false_iff_not];omega
 clear Q M O P B;rcases ht with V | ⟨V,f⟩
 all_goals
  go_enter Tryz.func47,Tryz.ntmps47;go_wp2_with fail;clear H;have S:D.cell? ⟨w.heap.size,0,none⟩=some (.int .i64 x.kind):=cCc G.out.box 0;have R:∀ W,Bw D W->W.cell? ⟨w.heap.size,0,none⟩=some (.int .i64 x.kind)/\Bw D W:=fun W h=>⟨cCc (G.out.go h).box 0,h⟩
  have L:=Lib.hid R;clear R
  go_region_held3 (fun w'=>w'.cell? ⟨w.heap.size,0,none⟩=some (.int .i64 x.kind)/\Bw D w')
   (first
    | exact L.out _ (Below.refl _ _).drew
    | (go_split_ands;refine L.out _ ?_;first | assumption | exact Below.trans (by assumption) (Below.mono (by assumption) (Below.size (by assumption)))))
   (first
    | (go_at_call 86;refine (jjP _).mono ?_;rintro e J ⟨r,rfl,hr,E⟩;have B:=F.out _ _ hr;have I:Bw D J:=(by go_split_ands;exact Below.trans (by assumption) (Below.mono E (Below.size (by assumption))))))
  have A:=G.out.go I;have X:J.cell? ⟨w.heap.size,0,none⟩=some (.int .i64 x.kind):=(cCc A.box 0);have Y:J.cell? ⟨w.heap.size,1,none⟩=some (.int .i64 x.level):=(cCc A.box 1);clear B hr E S;go_wp2_with fail;go_quiet ((go_at_call 87;exact Calls.quiet_of_same (C.out _)));obtain⟨p0,c,d⟩:=cl3 A.res;obtain⟨Z,a,b⟩:=cz3 A.res;go_wp2_with fail;exact jeY (A.go (bDr (Below.refl _ _) _)) rfl rfl
def ja8 (x:Sk):Sk:=if x.kind==1 then (if x.level==0 then jgY 1 x.level x.e else jpt 1 x.level x.hb x.hr) else if x.kind==2 then jm3 2 x.level x.cr x.cc x.cl else jm2 3 x.level x.gf x.gl
def jfv (x:Sk):Bool:=decide (1<=x.kind)&&decide (x.kind<=3)&&(decide (0<=x.level)&&decide (x.level<=jaH x.kind))&&(jaQ x&&jbc x (ja8 x))
def jb2 (x:Sk) (s:SS):Value :=
 if x.kind==1 then (if x.level==0 then .iface 240 (.agg #[.slice s.ea s.el s.ec]) else .iface 242 (.agg #[.int .i64 x.hb,.string x.hr]))
 else if x.kind==2 then .iface 243 (.agg #[.int .i64 x.cr,.int .i64 x.cc,.slice s.ca s.cl s.cc]) else .iface 245 (.agg #[.int .i64 x.gf,.slice s.ga s.gl s.gc])
theorem jlT (x:Sk) (s:SS):∃ T v,jb2 x s=.iface T v:=by
 unfold jb2;split
 ·split<;>exact⟨_,_,rfl⟩
 ·split<;>exact⟨_,_,rfl⟩
def SS.Short (s:SS):Prop:=s.el<2147483648/\s.cl<2147483648/\s.gl<2147483648
def Sk.fit (x:Sk):Prop:=∀ b∈x.gl,b.1<=9223372036854775807
theorem jd2 (x:Sk) (s:SS) (w:World) (I:s.At w.heap.size w x) (R:s.Short) (P:x.fit) :
  Calls Tryz.prog 47 #[.agg (skv x s)] w (jeL (jfv x) (jb2 x s) x w):=by
 obtain⟨M,N,O⟩:=R;by_cases Q:x.level<0\/jaH x.kind<x.level
 ·have:jfv x=false:=by
   unfold jfv;have:(decide (0<=x.level)&&decide (x.level<=jaH x.kind))=false:=by rw[Bool.and_eq_false_iff,decide_eq_false_iff_not,decide_eq_false_iff_not];omega
   rw[this];simp
  rw[this];by_cases A:x.kind=1\/x.kind=2\/x.kind=3
  ·exact jux x s _ w I A Q
  ·exact jlA x s _ w I (beq_eq_false_iff_ne.2 fun h=>A (.inl h)) (beq_eq_false_iff_ne.2 fun h=>A (.inr (.inl h))) (beq_eq_false_iff_ne.2 fun h=>A (.inr (.inr h)))
 by_cases D:x.kind=1
 ·have hb:jaH x.kind=4:=by rw[D];rfl
  have A:(x.kind==1)=true:=beq_iff_eq.2 D;have C:jfv x=(jaQ x&&jbc x (ja8 x)):=by unfold jfv;rw[hb,D,decide_eq_true (show 0<=x.level by omega),decide_eq_true (show x.level<=4 by omega)];simp
  cases E:(x.level==0) with
  | true =>
   have F:jaQ x=jaJ x.e:=by unfold jaQ;rw[A,E];rfl
   have G:ja8 x=jgY 1 x.level x.e:=by unfold ja8;rw[A,E];rfl
   have H:jb2 x s=.iface 240 (.agg #[.slice s.ea s.el s.ec]):=by unfold jb2;rw[A,E];rfl
   rw[C,F,G,H];exact jfT x s w I (fun _ _ h=>by rw[D];exact jra h) (enters_of Tryz.func125 (by kernel_rfl) rfl) (by omega) (by omega) (fun W h=>jjx x s W h E) (fun W h=>by rw[D];exact jgr 1 x.level x.e s.ea s.el s.ec W h.e.1 M)
  | false =>
   have F:jaQ x=(jbw x.hb x.hr&&(x.hb==8-x.level)):=by unfold jaQ;rw[A,E];rfl
   have G:ja8 x=jpt 1 x.level x.hb x.hr:=by unfold ja8;rw[A,E];rfl
   have H:jb2 x s=.iface 242 (.agg #[.int .i64 x.hb,.string x.hr]):=by unfold jb2;rw[A,E];rfl
   rw[C,F,G,H];exact jfT x s w I (fun _ _ h=>by rw[D];exact jra h) (enters_of Tryz.func125 (by kernel_rfl) rfl) (by omega) (by omega) (fun W h=>jjy x s W h E (by omega) (by omega)) (fun W h=>by rw[D];exact jgs 1 x.level x.hb x.hr W)
 by_cases J:x.kind=2
 ·have hb:jaH x.kind=3:=by rw[J];rfl
  have B:(x.kind==1)=false:=beq_eq_false_iff_ne.2 D;have A:(x.kind==2)=true:=beq_iff_eq.2 J;have C:jfv x=(jaQ x&&jbc x (ja8 x)):=by unfold jfv;rw[hb,J,decide_eq_true (show 0<=x.level by omega),decide_eq_true (show x.level<=3 by omega)];simp
  have F:jaQ x=(jbJ x.cr x.cc x.cl&&(x.cr==2)&&(x.cc==32 / 2^x.level.toNat)):=by unfold jaQ;rw[B,A];rfl
  have G:ja8 x=jm3 2 x.level x.cr x.cc x.cl:=by unfold ja8;rw[B,A];rfl
  have H:jb2 x s=.iface 243 (.agg #[.int .i64 x.cr,.int .i64 x.cc,.slice s.ca s.cl s.cc]):=by unfold jb2;rw[B,A];rfl
  rw[C,F,G,H];exact jfT x s w I (fun _ _ h=>by rw[J];exact jvl h) (enters_of Tryz.func126 (by kernel_rfl) rfl) (by omega) (by omega) (fun W h=>jqz x s W h (by omega) (by omega)) (fun W h=>by rw[J];exact jgq 2 x.level x.cr x.cc x.cl s.ca s.cl s.cc W h.c.1 N)
 by_cases L:x.kind=3
 ·have hb:jaH x.kind=3:=by rw[L];rfl
  have B:(x.kind==1)=false:=beq_eq_false_iff_ne.2 D;have A:(x.kind==2)=false:=beq_eq_false_iff_ne.2 J;have C:jfv x=(jaQ x&&jbc x (ja8 x)):=by unfold jfv;rw[hb,L,decide_eq_true (show 0<=x.level by omega),decide_eq_true (show x.level<=3 by omega)];simp
  have F:jaQ x=(jaR x.gf x.gl&&(x.gf==3-x.level)):=by unfold jaQ;rw[B,A];rfl
  have G:ja8 x=jm2 3 x.level x.gf x.gl:=by unfold ja8;rw[B,A];rfl
  have H:jb2 x s=.iface 245 (.agg #[.int .i64 x.gf,.slice s.ga s.gl s.gc]):=by unfold jb2;rw[B,A];rfl
  rw[C,F,G,H];exact jfT x s w I (fun _ _ h=>by rw[L];exact jvm h) (enters_of Tryz.func127 (by kernel_rfl) rfl) (by omega) (by omega) (fun W h=>jws x s W h (by omega) (by omega) P) (fun W h=>by rw[L];exact jgp 3 x.level x.gf x.gl s.ga s.gl s.gc W h.g.1 O)
 ·have:jfv x=false:=by
   unfold jfv;have:(decide (1<=x.kind)&&decide (x.kind<=3))=false:=by rw[Bool.and_eq_false_iff,decide_eq_false_iff_not,decide_eq_false_iff_not];omega
   rw[this];rfl
  rw[this];exact jlA x s _ w I (beq_eq_false_iff_ne.2 D) (beq_eq_false_iff_ne.2 J) (beq_eq_false_iff_ne.2 L)
theorem jgX (x:Sk) (s:SS) (w:World) (L:s.At w.heap.size w x) (U:s.Short) (S:x.fit) :
  CR 123 #[.agg (skv x s)] w (.bool (jfv x)):=by
 obtain⟨M,G,D,B,I⟩:=jab w (skv x s) 44;obtain⟨N,c1,c2,c3,c4,c5,O,P,Q,R⟩:=jbg D;have J:=jd2 x s M (L.go B) U S;clear L D I;go_enter Tryz.func123,Tryz.ntmps123;go_wp2_with fail;refine J.mono ?_;rintro e V ⟨F,H⟩;clear G J N c1 c2 c3 c4 c5 O P Q R;have A:=B.trans (H.mono B.size);generalize hok:jfv x=ok at F;have C:=Lib.hid hok;clear hok
 cases ok with
 | true =>
  obtain⟨T,v,E⟩:=jlT x s;rw[E] at F;clear E;obtain rfl:=(show e=_ from F);clear F;go_wp2_with fail;go_ret;exact⟨by rw[C.out];rfl,A.alloc A.size _⟩
 | false =>
  obtain⟨b,rfl,-,-⟩:=(show ∃ b,_ from F);go_wp2_with fail;go_ret;exact⟨by rw[C.out];rfl,A.alloc A.size _⟩
theorem jtV (a:Option Addr) (n c:Nat) (w:World) (A:n<2147483648):CR 248 #[.agg #[.slice a n c]] w (.int .i64 (8*n)):=by
 go_enter Tryz.func248,Tryz.ntmps248;go_wp2;go_ret;exact⟨rfl,(Below.refl _ w).alloc (Nat.le_refl _) _⟩
theorem jtW (b:Int) (r:ByteArray) (w:World):CR 277 #[.agg #[.int .i64 b,.string r]] w (.int .i64 r.size):=by
 go_enter Tryz.func277,Tryz.ntmps277;go_wp2;go_ret;exact⟨rfl,(Below.refl _ w).alloc (Nat.le_refl _) _⟩
theorem jtU (r k:Int) (a:Option Addr) (n c:Nat) (w:World) (A:n<2147483648):CR 287 #[.agg #[.int .i64 r,.int .i64 k,.slice a n c]] w (.int .i64 (8*n)):=by
 go_enter Tryz.func287,Tryz.ntmps287;go_wp2;go_ret;exact⟨rfl,(Below.refl _ w).alloc (Nat.le_refl _) _⟩
theorem jtT (f:Int) (a:Option Addr) (n c:Nat) (w:World) (A:n<2147483648):CR 306 #[.agg #[.int .i64 f,.slice a n c]] w (.int .i64 (16*n)):=by
 go_enter Tryz.func306,Tryz.ntmps306;go_wp2;go_ret;exact⟨rfl,(Below.refl _ w).alloc (Nat.le_refl _) _⟩
theorem jj1 (a : Option Addr) (n c : Nat) (w : World) : (method 590 240 (.agg #[.slice a n c]) "aviary/ladder.cost").run Tryz.prog w = .ok (248, .agg #[.slice a n c]) w := by kernel_rfl
theorem jj2 (b : Int) (r : ByteArray) (w : World) : (method 590 242 (.agg #[.int .i64 b, .string r]) "aviary/ladder.cost").run Tryz.prog w = .ok (277, .agg #[.int .i64 b, .string r]) w := by kernel_rfl
theorem jj0 (r k : Int) (a : Option Addr) (n c : Nat) (w : World) : (method 590 243 (.agg #[.int .i64 r, .int .i64 k, .slice a n c]) "aviary/ladder.cost").run Tryz.prog w = .ok (287, .agg #[.int .i64 r, .int .i64 k, .slice a n c]) w := by kernel_rfl
theorem jjZ (f : Int) (a : Option Addr) (n c : Nat) (w : World) : (method 590 245 (.agg #[.int .i64 f, .slice a n c]) "aviary/ladder.cost").run Tryz.prog w = .ok (306, .agg #[.int .i64 f, .slice a n c]) w := by kernel_rfl
theorem js0 (x:Sk) (s:SS) (w:World) (Q:s.At w.heap.size w x) (P:s.Short) (Z:x.fit) (F:jfv x=true) (hb:jb2 x s=.iface 240 (.agg #[.slice s.ea s.el s.ec])) :
  CR 59 #[.agg (skv x s)] w (.int .i64 (8*(s.el:Int)+16)):=by
 obtain⟨R,H,E,A,L⟩:=jab w (skv x s) 44;obtain⟨T,c1,c2,c3,c4,c5,U,V,X,Y⟩:=jbg E;have G:=jd2 x s R (Q.go A) P Z;rw[F,hb] at G;obtain⟨M,b,c⟩:=P;clear Q E L F hb;go_enter Tryz.func59,Tryz.ntmps59;go_wp2_with fail;refine G.mono ?_;rintro e d ⟨O,I⟩;obtain rfl:=(show e=_ from O);clear O H G T c1 c2 c3 c4 c5 U V X Y;have B:=A.trans (I.mono A.size);have a:=jj1 s.ea s.el s.ec;obtain⟨S,D,-,C,-⟩:=jab d #[.iface 240 (.agg #[.slice s.ea s.el s.ec]),.int .i64 x.kind,.int .i64 x.level] 117;have N:=Lib.hid D;clear D;go_wp2_with fail;rw[N.out];refine (jtV s.ea s.el s.ec S M).mono ?_;rintro e f ⟨rfl,J⟩;clear N a;go_wp2_with fail;go_ret;exact⟨rfl,B.trans ((C.trans (J.mono C.size)).mono B.size)⟩
theorem js1 (x:Sk) (s:SS) (w:World) (P:s.At w.heap.size w x) (O:s.Short) (Y:x.fit) (hr:x.hr.size<2147483648) (F:jfv x=true) (hb:jb2 x s=.iface 242 (.agg #[.int .i64 x.hb,.string x.hr])) :
  CR 59 #[.agg (skv x s)] w (.int .i64 ((x.hr.size:Int)+16)):=by
 obtain⟨Q,H,E,A,L⟩:=jab w (skv x s) 44;obtain⟨S,c1,c2,c3,c4,c5,T,U,V,X⟩:=jbg E;have G:=jd2 x s Q (P.go A) O Y;rw[F,hb] at G;obtain⟨a,b,c⟩:=O;clear P E L F hb;go_enter Tryz.func59,Tryz.ntmps59;go_wp2_with fail;refine G.mono ?_;rintro e d ⟨N,I⟩;obtain rfl:=(show e=_ from N);clear N H G S c1 c2 c3 c4 c5 T U V X;have B:=A.trans (I.mono A.size);have Z:=jj2 x.hb x.hr;obtain⟨R,D,-,C,-⟩:=jab d #[.iface 242 (.agg #[.int .i64 x.hb,.string x.hr]),.int .i64 x.kind,.int .i64 x.level] 117;have M:=Lib.hid D;clear D;go_wp2_with fail;rw[M.out];refine (jtW x.hb x.hr R).mono ?_;rintro e f ⟨rfl,J⟩;clear M Z;go_wp2_with fail;go_ret;exact⟨rfl,B.trans ((C.trans (J.mono C.size)).mono B.size)⟩
theorem jsY (x:Sk) (s:SS) (w:World) (Q:s.At w.heap.size w x) (P:s.Short) (Z:x.fit) (F:jfv x=true) (hb:jb2 x s=.iface 243 (.agg #[.int .i64 x.cr,.int .i64 x.cc,.slice s.ca s.cl s.cc])) :
  CR 59 #[.agg (skv x s)] w (.int .i64 (8*(s.cl:Int)+16)):=by
 obtain⟨R,H,E,A,L⟩:=jab w (skv x s) 44;obtain⟨T,c1,c2,c3,c4,c5,U,V,X,Y⟩:=jbg E;have G:=jd2 x s R (Q.go A) P Z;rw[F,hb] at G;obtain⟨b,M,c⟩:=P;clear Q E L F hb;go_enter Tryz.func59,Tryz.ntmps59;go_wp2_with fail;refine G.mono ?_;rintro e d ⟨O,I⟩;obtain rfl:=(show e=_ from O);clear O H G T c1 c2 c3 c4 c5 U V X Y;have B:=A.trans (I.mono A.size);have a:=jj0 x.cr x.cc s.ca s.cl s.cc;obtain⟨S,D,-,C,-⟩:=jab d #[.iface 243 (.agg #[.int .i64 x.cr,.int .i64 x.cc,.slice s.ca s.cl s.cc]),.int .i64 x.kind,.int .i64 x.level] 117;have N:=Lib.hid D;clear D;go_wp2_with fail;rw[N.out];refine (jtU x.cr x.cc s.ca s.cl s.cc S M).mono ?_;rintro e f ⟨rfl,J⟩;clear N a;go_wp2_with fail;go_ret;exact⟨rfl,B.trans ((C.trans (J.mono C.size)).mono B.size)⟩
theorem jsX (x:Sk) (s:SS) (w:World) (Q:s.At w.heap.size w x) (P:s.Short) (Z:x.fit) (F:jfv x=true) (hb:jb2 x s=.iface 245 (.agg #[.int .i64 x.gf,.slice s.ga s.gl s.gc])) :
  CR 59 #[.agg (skv x s)] w (.int .i64 (16*(s.gl:Int)+16)):=by
 obtain⟨R,H,E,A,L⟩:=jab w (skv x s) 44;obtain⟨T,c1,c2,c3,c4,c5,U,V,X,Y⟩:=jbg E;have G:=jd2 x s R (Q.go A) P Z;rw[F,hb] at G;obtain⟨b,c,M⟩:=P;clear Q E L F hb;go_enter Tryz.func59,Tryz.ntmps59;go_wp2_with fail;refine G.mono ?_;rintro e d ⟨O,I⟩;obtain rfl:=(show e=_ from O);clear O H G T c1 c2 c3 c4 c5 U V X Y;have B:=A.trans (I.mono A.size);have a:=jjZ x.gf s.ga s.gl s.gc;obtain⟨S,D,-,C,-⟩:=jab d #[.iface 245 (.agg #[.int .i64 x.gf,.slice s.ga s.gl s.gc]),.int .i64 x.kind,.int .i64 x.level] 117;have N:=Lib.hid D;clear D;go_wp2_with fail;rw[N.out];refine (jtT x.gf s.ga s.gl s.gc S M).mono ?_;rintro e f ⟨rfl,J⟩;clear N a;go_wp2_with fail;go_ret;exact⟨rfl,B.trans ((C.trans (J.mono C.size)).mono B.size)⟩
def jbY (x:Sk):Int:=if jfv x then (if x.kind==1 then (if x.level==0 then 8*(x.e.length:Int) else (x.hr.size:Int)) else if x.kind==2 then 8*(x.cl.length:Int) else 16*(x.gl.length:Int))+16 else 0
theorem jhM (x:Sk) (s:SS) (w:World) (B:s.At w.heap.size w x) (H:s.Short) (G:x.fit) (hr:x.hr.size<2147483648) :
  CR 59 #[.agg (skv x s)] w (.int .i64 (jbY x)):=by
 cases A:jfv x with
 | true =>
  cases C:(x.kind==1) with
  | true =>
   cases J:(x.level==0) with
   | true =>
    have e:jbY x=8*(s.el:Int)+16:=by unfold jbY;rw[A,C,J,B.e.1.1];rfl
    rw[e];exact js0 x s w B H G A (by unfold jb2;rw[C,J];rfl)
   | false =>
    have e:jbY x=(x.hr.size:Int)+16:=by unfold jbY;rw[A,C,J];rfl
    rw[e];exact js1 x s w B H G hr A (by unfold jb2;rw[C,J];rfl)
  | false =>
   cases I:(x.kind==2) with
   | true =>
    have e:jbY x=8*(s.cl:Int)+16:=by unfold jbY;rw[A,C,I,B.c.1.1];rfl
    rw[e];exact jsY x s w B H G A (by unfold jb2;rw[C,I];rfl)
   | false =>
    have e:jbY x=16*(s.gl:Int)+16:=by unfold jbY;rw[A,C,I,B.g.1.1];rfl
    rw[e];exact jsX x s w B H G A (by unfold jb2;rw[C,I];rfl)
 | false =>
  have P:Hid (jbY x=0):=by unfold Hid jbY;rw[A];rfl
  obtain⟨Q,M,F,D,O⟩:=jab w (skv x s) 44;obtain⟨R,c1,c2,c3,c4,c5,S,T,U,V⟩:=jbg F;have L:=jd2 x s Q (B.go D) H G;rw[A] at L;clear B F O A;go_enter Tryz.func59,Tryz.ntmps59;go_wp2_with fail;refine L.mono ?_;rintro e Y ⟨X,N⟩;obtain⟨b,rfl,-,-⟩:=(show ∃ b,_ from X);clear M L R c1 c2 c3 c4 c5 S T U V;have E:=D.trans (N.mono D.size);go_wp2_with fail;go_ret;exact⟨by rw[P.out];rfl,E.alloc E.size _⟩
theorem jcs {W:World} {B:Nat} {x y z u v q:Value} {t:TypeId} (h:W.heap[B]? = some (.cells #[x,y,z] t (0,0))):(((W.setCell ⟨B,0,none⟩ u).setCell ⟨B,1,none⟩ v).setCell ⟨B,2,none⟩ q).heap[B]? = some (.cells #[u,v,q] t (0,0)):=hSk (hSk (hSk h u) v) q
section
open Go.Shelf
theorem jv7 (w:World):(Instr.typeAssert (.iface 416 (.agg #[.string jfr])) 119 416 true).run Tryz.prog w=.ok (.tuple #[.agg #[.string jfr],.bool true]) w:=by kernel_rfl
theorem jor (w:World):(Instr.typeAssert .nilIface 119 416 true).run Tryz.prog w=.ok (.tuple #[.agg #[.string ⟨#[]⟩],.bool false]) w:=by kernel_rfl
theorem jcQ (w:World):CR 257 #[.iface 416 (.agg #[.string jfr])] w (.int .i64 60):=by
 have h:=jv7 w;go_enter Tryz.func257,Tryz.ntmps257;go_wp2;go_ret;exact⟨rfl,(Below.refl _ w).alloc (Nat.le_refl _) _⟩
theorem jdW (w:World):CR 257 #[.nilIface] w (.int .i64 0):=by
 have h:=jor w;go_enter Tryz.func257,Tryz.ntmps257;go_wp2;go_ret;exact⟨rfl,(Below.refl _ w).alloc (Nat.le_refl _) _⟩
def ju6 (o:Option (List Int)) (w:World) (e:Ending) (w':World):Prop:=Bw w w'/\match o with
 | some m=>∃ a cap,e=.returned (.tuple #[.agg #[.slice a m.length cap],.int .i64 0])/\SlC jaF 1 w'.heap.size w' a m.length cap m/\(∀ x,a=some x->w.heap.size<=x.block)
 | none=>e=.returned (.tuple #[.agg #[.slice none 0 0],.int .i64 60])
def joQ (l:List Int) (n:Int):Option (List Int):=if jaJ l then jan l [n] else none
theorem jl6 (n:Nat) (h:n<2^63):IntKind.u64.wrap (n:Int)=n:=by simp[IntKind.wrap,IntKind.bits,IntKind.signed];omega
theorem jmv (l:List Int) (a:Option Addr) (len cap:Nat) (w:World) (F:SlE jaF 1 w.heap.size w a len l) (I:len<2^62) :
  CR 253 #[.agg #[.slice a len cap]] w (.int .u64 (if jaJ l then (l.length:Int) else 0)):=by
 have H:Hid (∀ D,Bw w D->CR 171 #[.agg #[.slice a len cap]] D (.bool (jaJ l))):=fun D hb=>jbv l a len cap D ((F.below hb).mono hb.size)
 have E:=Lib.hid F.1;have J:=Lib.hid I;obtain⟨rb,C⟩:∃ rb,jaJ l=rb:=⟨_,rfl⟩;rw[C] at H ⊢;clear C F I;go_enter Tryz.func253,Tryz.ntmps253;go_wp2_with fail;have B:Bw w (w.alloc (.cells #[.slice a len cap] 35)):=(Below.refl _ w).alloc (Nat.le_refl _) _;have G:=World.alloc_heap_new w (.cells #[.slice a len cap] 35);refine (H.out _ B).mono ?_;rintro e D ⟨rfl,A⟩;have c1:=cCc (known A (Nat.le_refl _) G) 0;have A:=B.trans (A.mono B.size)
 cases rb with
 | true =>
  go_wp2_with fail;go_ret;refine⟨?_,A⟩;have L:=E.out;have M:=J.out;show Ending.returned (.int .u64 (IntKind.u64.wrap (len:Int)))=Ending.returned (.int .u64 (l.length:Int));rw[<- L,jl6 len (by omega)]
 | false =>
  go_wp2_with fail;go_ret;exact⟨rfl,A⟩
end
end Go.Proofs.YtnegciklhanmbaaGreatDoor
