/- Package ladder: work.sketch. Package ladder: work.sketch, the other bodies. Package ladder: open. Package ladder: open at a kind that is none. Cells of a row that a call owns. -/
import Derived.Deep.RegionHeld3
import Derived.Deep.Cut
import Derived.Deep.CutRange
import Derived.Deep.DeepCutAuto
import Derived.Test.YtieknocphiceoaaGreatDoorZC0
namespace Go.Proofs.YtieknocphiceoaaGreatDoor
open Go Go.RowKit
theorem jsq (v:Value) (w:World) (a:Option Addr) (l c:Nat) (hv:v=.agg #[.slice a l c]):(Instr.typeAssert (.iface 239 v) 120 239 true).run Tryz.prog w=.ok (.tuple #[v,.bool true]) w:=by subst hv;kernel_rfl
theorem jrf {W:World} {B:Nat} {x0 x1 x2 x3 x4 x5 x6 x7 x8 x9 v0 v1 v2 v3 v4 v5 v6 v7 v8 v9:Value} {t:TypeId} (h:W.heap[B]? = some (.cells #[x0,x1,x2,x3,x4,x5,x6,x7,x8,x9] t (0,0))) :
  ((((((((((W.setCell ⟨B,0,none⟩ v0).setCell ⟨B,1,none⟩ v1).setCell ⟨B,2,none⟩ v2).setCell ⟨B,3,none⟩ v3).setCell ⟨B,4,none⟩ v4).setCell ⟨B,5,none⟩ v5).setCell ⟨B,6,none⟩ v6).setCell ⟨B,7,none⟩ v7).setCell ⟨B,8,none⟩ v8).setCell ⟨B,9,none⟩ v9).heap[B]? = some (.cells #[v0,v1,v2,v3,v4,v5,v6,v7,v8,v9] t (0,0)):=by
 replace h:(W.setCell ⟨B,0,none⟩ v0).heap[B]? = some (.cells #[v0,x1,x2,x3,x4,x5,x6,x7,x8,x9] t (0,0)):=hSk h v0;generalize W.setCell ⟨B,0,none⟩ v0=W at h ⊢;replace h:(W.setCell ⟨B,1,none⟩ v1).heap[B]? = some (.cells #[v0,v1,x2,x3,x4,x5,x6,x7,x8,x9] t (0,0)):=hSk h v1;generalize W.setCell ⟨B,1,none⟩ v1=W at h ⊢;replace h:(W.setCell ⟨B,2,none⟩ v2).heap[B]? = some (.cells #[v0,v1,v2,x3,x4,x5,x6,x7,x8,x9] t (0,0)):=hSk h v2;generalize W.setCell ⟨B,2,none⟩ v2=W at h ⊢;replace h:(W.setCell ⟨B,3,none⟩ v3).heap[B]? = some (.cells #[v0,v1,v2,v3,x4,x5,x6,x7,x8,x9] t (0,0)):=hSk h v3;generalize W.setCell ⟨B,3,none⟩ v3=W at h ⊢;replace h:(W.setCell ⟨B,4,none⟩ v4).heap[B]? = some (.cells #[v0,v1,v2,v3,v4,x5,x6,x7,x8,x9] t (0,0)):=hSk h v4;generalize W.setCell ⟨B,4,none⟩ v4=W at h ⊢;replace h:(W.setCell ⟨B,5,none⟩ v5).heap[B]? = some (.cells #[v0,v1,v2,v3,v4,v5,x6,x7,x8,x9] t (0,0)):=hSk h v5;generalize W.setCell ⟨B,5,none⟩ v5=W at h ⊢;replace h:(W.setCell ⟨B,6,none⟩ v6).heap[B]? = some (.cells #[v0,v1,v2,v3,v4,v5,v6,x7,x8,x9] t (0,0)):=hSk h v6;generalize W.setCell ⟨B,6,none⟩ v6=W at h ⊢;replace h:(W.setCell ⟨B,7,none⟩ v7).heap[B]? = some (.cells #[v0,v1,v2,v3,v4,v5,v6,v7,x8,x9] t (0,0)):=hSk h v7;generalize W.setCell ⟨B,7,none⟩ v7=W at h ⊢;replace h:(W.setCell ⟨B,8,none⟩ v8).heap[B]? = some (.cells #[v0,v1,v2,v3,v4,v5,v6,v7,v8,x9] t (0,0)):=hSk h v8;generalize W.setCell ⟨B,8,none⟩ v8=W at h ⊢
 replace h:(W.setCell ⟨B,9,none⟩ v9).heap[B]? = some (.cells #[v0,v1,v2,v3,v4,v5,v6,v7,v8,v9] t (0,0)):=hSk h v9;generalize W.setCell ⟨B,9,none⟩ v9=W at h ⊢;exact h
def jeA (y:Sk) (w:World) (e:Ending) (w':World):Prop:=∃ s:SS,e=.returned (.agg #[.int .i64 y.kind,.int .i64 y.level,.slice s.ea s.el s.ec,.int .i64 y.hb,.string y.hr,.int .i64 y.cr,.int .i64 y.cc,.slice s.ca s.cl s.cc,.int .i64 y.gf,.slice s.ga s.gl s.gc])/\s.At w'.heap.size w' y/\(∀ z,s.ea=some z->w.heap.size<=z.block)/\(∀ z,s.ca=some z->w.heap.size<=z.block)/\(∀ z,s.ga=some z->w.heap.size<=z.block)/\Below w.heap.size w w'
def jcD (kind level:Int) (l:List Int):Sk:=⟨kind,level,l,0,⟨#[]⟩,0,0,[],0,[]⟩
def SS.Far (s:SS) (b:Nat):Prop:=(∀ z,s.ea=some z->b≠z.block)/\(∀ z,s.ca=some z->b≠z.block)/\(∀ z,s.ga=some z->b≠z.block)
theorem SS.At.set {s:SS} {n:Nat} {W:World} {x:Sk} (h:s.At n W x) {b o:Nat} (hf:s.Far b) (v:Value):s.At n (W.setCell ⟨b,o,none⟩ v) x :=
 ⟨h.e.set_far (p:=⟨b,o,none⟩) hf.1 v,h.c.set_far (p:=⟨b,o,none⟩) hf.2.1 v,h.g.set_far (p:=⟨b,o,none⟩) hf.2.2 v⟩
theorem jam {W:World} {p:Addr} {b:Nat} (h:p.block≠b) (v:Value):(W.setCell p v).heap[b]? = W.heap[b]? := by
 show (W.heap.modify p.block _)[b]? = _;rw[Array.getElem?_modify];simp[h]
theorem jdA (W:World) (p:Addr) (v:Value):(W.setCell p v).heap.size=W.heap.size:=by simp[World.setCell]
theorem jnR {w W:World} {y:Sk} {s:SS} {tm:Array Value} {x0 x1 x2 x3 x4 x5 x6 x7 x8 x9:Value} (hY:W.heap[w.heap.size+1]? = some (.cells #[x0,x1,x2,x3,x4,x5,x6,x7,x8,x9] 50 (0,0))) (hB:Below w.heap.size w W) (hA:s.At W.heap.size W y)
  (h1:∀ z,s.ea=some z->w.heap.size+2<=z.block) (h2:∀ z,s.ca=some z->w.heap.size+2<=z.block) (h3:∀ z,s.ga=some z->w.heap.size+2<=z.block)
  (t2:tm[2]?.getD undef=.pointer (some ⟨w.heap.size+1,0,none⟩)) :
  bodyPost Tryz.prog Tryz.f136 (jeA y w) Exit.ret { tmps:=tm,defers:=[] }
   ((((((((((W.setCell ⟨w.heap.size+1,0,none⟩ (.int .i64 y.kind)).setCell ⟨w.heap.size+1,1,none⟩ (.int .i64 y.level)).setCell ⟨w.heap.size+1,2,none⟩ (.slice s.ea s.el s.ec)).setCell ⟨w.heap.size+1,3,none⟩ (.int .i64 y.hb)).setCell ⟨w.heap.size+1,4,none⟩ (.string y.hr)).setCell ⟨w.heap.size+1,5,none⟩ (.int .i64 y.cr)).setCell ⟨w.heap.size+1,6,none⟩ (.int .i64 y.cc)).setCell ⟨w.heap.size+1,7,none⟩ (.slice s.ca s.cl s.cc)).setCell ⟨w.heap.size+1,8,none⟩ (.int .i64 y.gf)).setCell ⟨w.heap.size+1,9,none⟩ (.slice s.ga s.gl s.gc)):=by
 have hf:s.Far (w.heap.size+1):=⟨fun z hz=>by have:=h1 z hz;omega,fun z hz=>by have:=h2 z hz;omega,fun z hz=>by have:=h3 z hz;omega⟩;have hX:=jrf (v0:=.int .i64 y.kind) (v1:=.int .i64 y.level) (v2:=.slice s.ea s.el s.ec) (v3:=.int .i64 y.hb) (v4:=.string y.hr) (v5:=.int .i64 y.cr) (v6:=.int .i64 y.cc) (v7:=.slice s.ca s.cl s.cc) (v8:=.int .i64 y.gf) (v9:=.slice s.ga s.gl s.gc) hY;have hA':=(((((((((hA.set (o:=0) hf (.int .i64 y.kind)).set (o:=1) hf (.int .i64 y.level)).set (o:=2) hf (.slice s.ea s.el s.ec)).set (o:=3) hf (.int .i64 y.hb)).set (o:=4) hf (.string y.hr)).set (o:=5) hf (.int .i64 y.cr)).set (o:=6) hf (.int .i64 y.cc)).set (o:=7) hf (.slice s.ca s.cl s.cc)).set (o:=8) hf (.int .i64 y.gf)).set (o:=9) hf (.slice s.ga s.gl s.gc);have hB':=(((((((((hB.setCell (p:=⟨w.heap.size+1,0,none⟩) (Nat.le_succ _) (.int .i64 y.kind)).setCell (p:=⟨w.heap.size+1,1,none⟩) (Nat.le_succ _) (.int .i64 y.level)).setCell (p:=⟨w.heap.size+1,2,none⟩) (Nat.le_succ _) (.slice s.ea s.el s.ec)).setCell (p:=⟨w.heap.size+1,3,none⟩) (Nat.le_succ _) (.int .i64 y.hb)).setCell (p:=⟨w.heap.size+1,4,none⟩) (Nat.le_succ _) (.string y.hr)).setCell (p:=⟨w.heap.size+1,5,none⟩) (Nat.le_succ _) (.int .i64 y.cr)).setCell (p:=⟨w.heap.size+1,6,none⟩) (Nat.le_succ _) (.int .i64 y.cc)).setCell (p:=⟨w.heap.size+1,7,none⟩) (Nat.le_succ _) (.slice s.ca s.cl s.cc)).setCell (p:=⟨w.heap.size+1,8,none⟩) (Nat.le_succ _) (.int .i64 y.gf)).setCell (p:=⟨w.heap.size+1,9,none⟩) (Nat.le_succ _) (.slice s.ga s.gl s.gc)
 rw[show W.heap.size=_ from (by simp only[jdA]:W.heap.size=((((((((((W.setCell ⟨w.heap.size+1,0,none⟩ (.int .i64 y.kind)).setCell ⟨w.heap.size+1,1,none⟩ (.int .i64 y.level)).setCell ⟨w.heap.size+1,2,none⟩ (.slice s.ea s.el s.ec)).setCell ⟨w.heap.size+1,3,none⟩ (.int .i64 y.hb)).setCell ⟨w.heap.size+1,4,none⟩ (.string y.hr)).setCell ⟨w.heap.size+1,5,none⟩ (.int .i64 y.cr)).setCell ⟨w.heap.size+1,6,none⟩ (.int .i64 y.cc)).setCell ⟨w.heap.size+1,7,none⟩ (.slice s.ca s.cl s.cc)).setCell ⟨w.heap.size+1,8,none⟩ (.int .i64 y.gf)).setCell ⟨w.heap.size+1,9,none⟩ (.slice s.ga s.gl s.gc)).heap.size)] at hA';generalize ((((((((((W.setCell ⟨w.heap.size+1,0,none⟩ (.int .i64 y.kind)).setCell ⟨w.heap.size+1,1,none⟩ (.int .i64 y.level)).setCell ⟨w.heap.size+1,2,none⟩ (.slice s.ea s.el s.ec)).setCell ⟨w.heap.size+1,3,none⟩ (.int .i64 y.hb)).setCell ⟨w.heap.size+1,4,none⟩ (.string y.hr)).setCell ⟨w.heap.size+1,5,none⟩ (.int .i64 y.cr)).setCell ⟨w.heap.size+1,6,none⟩ (.int .i64 y.cc)).setCell ⟨w.heap.size+1,7,none⟩ (.slice s.ca s.cl s.cc)).setCell ⟨w.heap.size+1,8,none⟩ (.int .i64 y.gf)).setCell ⟨w.heap.size+1,9,none⟩ (.slice s.ga s.gl s.gc))=Z at hX hA' hB' ⊢;obtain⟨k0,k1,k2,k3,k4,k5,k6,k7,k8,k9⟩:=jaL hX
 refine bodyPost_ret (v:=.agg #[.int .i64 y.kind,.int .i64 y.level,.slice s.ea s.el s.ec,.int .i64 y.hb,.string y.hr,.int .i64 y.cr,.int .i64 y.cc,.slice s.ca s.cl s.cc,.int .i64 y.gf,.slice s.ga s.gl s.gc]) (by simp[results,Tryz.f136,go_sem,t2,k0,k1,k2,k3,k4,k5,k6,k7,k8,k9]) rfl ⟨s,rfl,hA',fun z hz=>by have:=h1 z hz;omega,fun z hz=>by have:=h2 z hz;omega,fun z hz=>by have:=h3 z hz;omega,hB'⟩
set_option maxRecDepth 100000 in
set_option maxHeartbeats 4000000 in
theorem jhF (kind level:Int) (l:List Int) (a:Option Addr) (len cap:Nat) (w:World) (hL:SlE jbH 1 w.heap.size w a len l) (hll:len<2147483648) :
  Calls Tryz.prog 136 #[.agg #[.iface 239 (.agg #[.slice a len cap]),.int .i64 kind,.int .i64 level]] w (jeA (jcD kind level l) w):=by
 obtain⟨W0,hW0,hX0,hX1,hX2,hB0,hs0⟩:=jiQ w #[.iface 239 (.agg #[.slice a len cap]),.int .i64 kind,.int .i64 level] 122 #[.int .i64 0,.int .i64 0,.slice none 0 0,.int .i64 0,.string ⟨#[]⟩,.int .i64 0,.int .i64 0,.slice none 0 0,.int .i64 0,.slice none 0 0] 50 #[.int .i64 kind,.int .i64 level,.slice none 0 0,.int .i64 0,.string ⟨#[]⟩,.int .i64 0,.int .i64 0,.slice none 0 0,.int .i64 0,.slice none 0 0] 50;have ht:=fun w=>jsq (.agg #[.slice a len cap]) w a len cap rfl
 obtain⟨W1,hW1,hX3,hB1,hs1⟩:=jah W0 #[.slice a len cap] 239;have hB01:=hB0.trans (hB1.mono hB0.size);have hC:=jde a len cap l W1 (hL.go hB01) hll;have HW0:=Lib.hid hW0;have HW1:=Lib.hid hW1;have HX1:=Lib.hid (jak hB1 (Nat.le_refl _) hX1);have HX2:=Lib.hid (jak hB1 (Nat.le_refl _) hX2);have hz:w.heap.size+3<W1.heap.size:=by omega
 clear hL hW0 hW1 hX0 hX1 hX2 hX3 hs1 hs0;go_enter Tryz.func136,Tryz.ntmps136;go_wp2_with fail;rw[HW0.out,HW1.out];refine hC.mono ?_;rintro e w2 ⟨a',cap',rfl,hs2,hlo,hb2⟩;have hY1:=jak hb2 (Nat.le_refl _) HX1.out;have hY2:=jak hb2 (Nat.le_refl _) HX2.out;obtain⟨p0,p1,p2,p3,p4,p5,p6,p7,p8,p9⟩:=jaL hY1;obtain⟨f0,f1,f2,f3,f4,f5,f6,f7,f8,f9⟩:=jdJ hY1;obtain⟨q0,q1,q2,q3,q4,q5,q6,q7,q8,q9⟩:=jaL hY2;have g2:w2.frozen? ⟨w.heap.size+1+1,2,none⟩=false:=cFz hY2 2;have hne:w.heap.size+1≠w.heap.size+1+1:=by omega
 clear hC ht HX1 HX2 HW0 HW1;go_wp2_with fail;have hBw2:Below w.heap.size w w2:=hB01.trans (hb2.mono hB01.size);have hA:SS.At ⟨a',len,cap',none,0,0,none,0,0⟩ w2.heap.size w2 (jcD kind level l):=⟨hs2,SlC.nil,SlC.nil⟩;have hfar:SS.Far ⟨a',len,cap',none,0,0,none,0,0⟩ (w.heap.size+1+1):=⟨(fun z hz=>by have:=hlo z hz;omega),(fun z hz=>by cases hz),(fun z hz=>by cases hz)⟩;have hA2:=hA.set (o:=2) hfar (.slice a' len cap');rw[<- jdA w2 ⟨w.heap.size+1+1,2,none⟩ (.slice a' len cap')] at hA2;have hY3:=(jam (W:=w2) (p:=⟨w.heap.size+1+1,2,none⟩) (b:=w.heap.size+1) (by show w.heap.size+1+1≠_;omega) (.slice a' len cap')).trans hY1;exact jnR (y:=jcD kind level l) (s:=⟨a',len,cap',none,0,0,none,0,0⟩) hY3 (hBw2.setCell (p:=⟨w.heap.size+1+1,2,none⟩) (by show w.heap.size<=w.heap.size+1+1;omega) _) hA2 (fun z hz=>by have:=hlo z hz;omega) (fun z hz=>by cases hz) (fun z hz=>by cases hz) rfl
theorem jrB (b:Int) (r:ByteArray) (w:World):(Instr.typeAssert (.iface 241 (.agg #[.int .i64 b,.string r])) 120 239 true).run Tryz.prog w=.ok (.tuple #[.agg #[.slice none 0 0],.bool false]) w /\
  (Instr.typeAssert (.iface 241 (.agg #[.int .i64 b,.string r])) 120 241 true).run Tryz.prog w=.ok (.tuple #[.agg #[.int .i64 b,.string r],.bool true]) w:=⟨by kernel_rfl,by kernel_rfl⟩
theorem jqy (r c:Int) (a:Option Addr) (n m:Nat) (w:World):(Instr.typeAssert (.iface 242 (.agg #[.int .i64 r,.int .i64 c,.slice a n m])) 120 239 true).run Tryz.prog w=.ok (.tuple #[.agg #[.slice none 0 0],.bool false]) w /\
  (Instr.typeAssert (.iface 242 (.agg #[.int .i64 r,.int .i64 c,.slice a n m])) 120 241 true).run Tryz.prog w=.ok (.tuple #[.agg #[.int .i64 0,.string ⟨#[]⟩],.bool false]) w /\
  (Instr.typeAssert (.iface 242 (.agg #[.int .i64 r,.int .i64 c,.slice a n m])) 120 242 true).run Tryz.prog w=.ok (.tuple #[.agg #[.int .i64 r,.int .i64 c,.slice a n m],.bool true]) w:=⟨by kernel_rfl,by kernel_rfl,by kernel_rfl⟩
theorem joo (f:Int) (a:Option Addr) (n m:Nat) (w:World):(Instr.typeAssert (.iface 244 (.agg #[.int .i64 f,.slice a n m])) 120 239 true).run Tryz.prog w=.ok (.tuple #[.agg #[.slice none 0 0],.bool false]) w /\
  (Instr.typeAssert (.iface 244 (.agg #[.int .i64 f,.slice a n m])) 120 241 true).run Tryz.prog w=.ok (.tuple #[.agg #[.int .i64 0,.string ⟨#[]⟩],.bool false]) w /\
  (Instr.typeAssert (.iface 244 (.agg #[.int .i64 f,.slice a n m])) 120 242 true).run Tryz.prog w=.ok (.tuple #[.agg #[.int .i64 0,.int .i64 0,.slice none 0 0],.bool false]) w /\
  (Instr.typeAssert (.iface 244 (.agg #[.int .i64 f,.slice a n m])) 120 244 true).run Tryz.prog w=.ok (.tuple #[.agg #[.int .i64 f,.slice a n m],.bool true]) w:=⟨by kernel_rfl,by kernel_rfl,by kernel_rfl,by kernel_rfl⟩
def jb4 (kind level:Int) (b:Int) (r:ByteArray):Sk:=⟨kind,level,[],b,r,0,0,[],0,[]⟩
def jbA (kind level:Int) (r c:Int) (l:List Int):Sk:=⟨kind,level,[],0,⟨#[]⟩,r,c,l,0,[]⟩
def jck (kind level:Int) (f:Int) (l:List (Int × Int)):Sk:=⟨kind,level,[],0,⟨#[]⟩,0,0,[],f,l⟩
set_option maxRecDepth 100000 in
set_option maxHeartbeats 4000000 in
theorem jhG (kind level b:Int) (r:ByteArray) (w:World) :
  Calls Tryz.prog 136 #[.agg #[.iface 241 (.agg #[.int .i64 b,.string r]),.int .i64 kind,.int .i64 level]] w (jeA (jb4 kind level b r) w):=by
 have h1:=fun w=>(jrB b r w).1
 have h2:=fun w=>(jrB b r w).2
 go_enter Tryz.func136,Tryz.ntmps136;go_wp2_with fail;refine bodyPost_ret (v:=.agg #[.int .i64 kind,.int .i64 level,.slice none 0 0,.int .i64 b,.string r,.int .i64 0,.int .i64 0,.slice none 0 0,.int .i64 0,.slice none 0 0]) (by simp[results,Tryz.f136,go_sem]) rfl ⟨⟨none,0,0,none,0,0,none,0,0⟩,rfl,⟨SlC.nil,SlC.nil,SlC.nil⟩,(fun z hz=>by cases hz),(fun z hz=>by cases hz),(fun z hz=>by cases hz),?_⟩;exact ((((Below.refl _ w).alloc (Nat.le_refl _) _).alloc (by simp) _).alloc (by simp;omega) _).alloc (by simp;omega) _
set_option maxRecDepth 100000 in
set_option maxHeartbeats 4000000 in
theorem jhE (kind level r c:Int) (l:List Int) (a:Option Addr) (len cap:Nat) (w:World) (hL:SlE jbH 1 w.heap.size w a len l) (hll:len<2147483648) :
  Calls Tryz.prog 136 #[.agg #[.iface 242 (.agg #[.int .i64 r,.int .i64 c,.slice a len cap]),.int .i64 kind,.int .i64 level]] w (jeA (jbA kind level r c l) w):=by
 obtain⟨W0,hW0,hX0,hX1,hX2,hB0,hs0⟩:=jiQ w #[.iface 242 (.agg #[.int .i64 r,.int .i64 c,.slice a len cap]),.int .i64 kind,.int .i64 level] 122 #[.int .i64 0,.int .i64 0,.slice none 0 0,.int .i64 0,.string ⟨#[]⟩,.int .i64 0,.int .i64 0,.slice none 0 0,.int .i64 0,.slice none 0 0] 50 #[.int .i64 kind,.int .i64 level,.slice none 0 0,.int .i64 0,.string ⟨#[]⟩,.int .i64 r,.int .i64 c,.slice a len cap,.int .i64 0,.slice none 0 0] 50;have h1:=fun w=>(jqy r c a len cap w).1
 have h2:=fun w=>(jqy r c a len cap w).2.1
 have h3:=fun w=>(jqy r c a len cap w).2.2
 obtain⟨W1,hW1,hX3,hB1,hs1⟩:=jah W0 #[.int .i64 r,.int .i64 c,.slice a len cap] 242;have hB01:=hB0.trans (hB1.mono hB0.size);have hC:=jde a len cap l W1 (hL.go hB01) hll;have HW0:=Lib.hid hW0;have HW1:=Lib.hid hW1;have HX1:=Lib.hid (jak hB1 (Nat.le_refl _) hX1);have HX2:=Lib.hid (jak hB1 (Nat.le_refl _) hX2);have hz:w.heap.size+3<W1.heap.size:=by omega
 clear hL hW0 hW1 hX0 hX1 hX2 hX3 hs1 hs0;go_enter Tryz.func136,Tryz.ntmps136;go_wp2_with fail;rw[HW0.out,HW1.out];refine hC.mono ?_;rintro e w2 ⟨a',cap',rfl,hs2,hlo,hb2⟩;have hY1:=jak hb2 (Nat.le_refl _) HX1.out;have hY2:=jak hb2 (Nat.le_refl _) HX2.out;obtain⟨p0,p1,p2,p3,p4,p5,p6,p7,p8,p9⟩:=jaL hY1;obtain⟨f0,f1,f2,f3,f4,f5,f6,f7,f8,f9⟩:=jdJ hY1;obtain⟨q0,q1,q2,q3,q4,q5,q6,q7,q8,q9⟩:=jaL hY2;have g2:w2.frozen? ⟨w.heap.size+1+1,7,none⟩=false:=cFz hY2 7;have hne:w.heap.size+1≠w.heap.size+1+1:=by omega
 clear hC h1 h2 h3 HX1 HX2 HW0 HW1;go_wp2_with fail;have hBw2:Below w.heap.size w w2:=hB01.trans (hb2.mono hB01.size);have hA:SS.At ⟨none,0,0,a',len,cap',none,0,0⟩ w2.heap.size w2 (jbA kind level r c l):=⟨SlC.nil,hs2,SlC.nil⟩;have hfar:SS.Far ⟨none,0,0,a',len,cap',none,0,0⟩ (w.heap.size+1+1):=⟨(fun z hz=>by cases hz),(fun z hz=>by have:=hlo z hz;omega),(fun z hz=>by cases hz)⟩;have hA2:=hA.set (o:=7) hfar (.slice a' len cap');rw[<- jdA w2 ⟨w.heap.size+1+1,7,none⟩ (.slice a' len cap')] at hA2;have hY3:=(jam (W:=w2) (p:=⟨w.heap.size+1+1,7,none⟩) (b:=w.heap.size+1) (by show w.heap.size+1+1≠_;omega) (.slice a' len cap')).trans hY1;exact jnR (y:=jbA kind level r c l) (s:=⟨none,0,0,a',len,cap',none,0,0⟩) hY3 (hBw2.setCell (p:=⟨w.heap.size+1+1,7,none⟩) (by show w.heap.size<=w.heap.size+1+1;omega) _) hA2 (fun z hz=>by cases hz) (fun z hz=>by have:=hlo z hz;omega) (fun z hz=>by cases hz) rfl
set_option maxRecDepth 100000 in
set_option maxHeartbeats 4000000 in
theorem jhD (kind level f:Int) (l:List (Int × Int)) (a:Option Addr) (len cap:Nat) (w:World) (hL:SlE jb5 2 w.heap.size w a len l) (hll:len<2147483648) :
  Calls Tryz.prog 136 #[.agg #[.iface 244 (.agg #[.int .i64 f,.slice a len cap]),.int .i64 kind,.int .i64 level]] w (jeA (jck kind level f l) w):=by
 obtain⟨W0,hW0,hX0,hX1,hX2,hB0,hs0⟩:=jiQ w #[.iface 244 (.agg #[.int .i64 f,.slice a len cap]),.int .i64 kind,.int .i64 level] 122 #[.int .i64 0,.int .i64 0,.slice none 0 0,.int .i64 0,.string ⟨#[]⟩,.int .i64 0,.int .i64 0,.slice none 0 0,.int .i64 0,.slice none 0 0] 50 #[.int .i64 kind,.int .i64 level,.slice none 0 0,.int .i64 0,.string ⟨#[]⟩,.int .i64 0,.int .i64 0,.slice none 0 0,.int .i64 f,.slice a len cap] 50;have h1:=fun w=>(joo f a len cap w).1
 have h2:=fun w=>(joo f a len cap w).2.1
 have h3:=fun w=>(joo f a len cap w).2.2.1
 have h4:=fun w=>(joo f a len cap w).2.2.2
 obtain⟨W1,hW1,hX3,hB1,hs1⟩:=jah W0 #[.int .i64 f,.slice a len cap] 244;have hB01:=hB0.trans (hB1.mono hB0.size);have hC:=jf2 a len cap l W1 (hL.go hB01) hll;have HW0:=Lib.hid hW0;have HW1:=Lib.hid hW1;have HX1:=Lib.hid (jak hB1 (Nat.le_refl _) hX1);have HX2:=Lib.hid (jak hB1 (Nat.le_refl _) hX2);have hz:w.heap.size+3<W1.heap.size:=by omega
 clear hL hW0 hW1 hX0 hX1 hX2 hX3 hs1 hs0;go_enter Tryz.func136,Tryz.ntmps136;go_wp2_with fail;rw[HW0.out,HW1.out];refine hC.mono ?_;rintro e w2 ⟨a',cap',rfl,hs2,hlo,hb2⟩;have hY1:=jak hb2 (Nat.le_refl _) HX1.out;have hY2:=jak hb2 (Nat.le_refl _) HX2.out;obtain⟨p0,p1,p2,p3,p4,p5,p6,p7,p8,p9⟩:=jaL hY1;obtain⟨f0,f1,f2,f3,f4,f5,f6,f7,f8,f9⟩:=jdJ hY1;obtain⟨q0,q1,q2,q3,q4,q5,q6,q7,q8,q9⟩:=jaL hY2;have g2:w2.frozen? ⟨w.heap.size+1+1,9,none⟩=false:=cFz hY2 9;have hne:w.heap.size+1≠w.heap.size+1+1:=by omega
 clear hC h1 h2 h3 h4 HX1 HX2 HW0 HW1;go_wp2_with fail;have hBw2:Below w.heap.size w w2:=hB01.trans (hb2.mono hB01.size);have hA:SS.At ⟨none,0,0,none,0,0,a',len,cap'⟩ w2.heap.size w2 (jck kind level f l):=⟨SlC.nil,SlC.nil,hs2⟩;have hfar:SS.Far ⟨none,0,0,none,0,0,a',len,cap'⟩ (w.heap.size+1+1):=⟨(fun z hz=>by cases hz),(fun z hz=>by cases hz),(fun z hz=>by have:=hlo z hz;omega)⟩;have hA2:=hA.set (o:=9) hfar (.slice a' len cap');rw[<- jdA w2 ⟨w.heap.size+1+1,9,none⟩ (.slice a' len cap')] at hA2;have hY3:=(jam (W:=w2) (p:=⟨w.heap.size+1+1,9,none⟩) (b:=w.heap.size+1) (by show w.heap.size+1+1≠_;omega) (.slice a' len cap')).trans hY1;exact jnR (y:=jck kind level f l) (s:=⟨none,0,0,none,0,0,a',len,cap'⟩) hY3 (hBw2.setCell (p:=⟨w.heap.size+1+1,9,none⟩) (by show w.heap.size<=w.heap.size+1+1;omega) _) hA2 (fun z hz=>by cases hz) (fun z hz=>by cases hz) (fun z hz=>by have:=hlo z hz;omega) rfl
structure OpenIn (x:Sk) (s:SS) (w W:World):Prop where
 box:W.heap[w.heap.size]? = some (.cells #[.int .i64 x.kind,.int .i64 x.level,.slice s.ea s.el s.ec,.int .i64 x.hb,.string x.hr,.int .i64 x.cr,.int .i64 x.cc,.slice s.ca s.cl s.cc,.int .i64 x.gf,.slice s.ga s.gl s.gc] 50 (0,0))
 res:W.heap[w.heap.size+1]? = some (.cells #[.nilIface,.int .i64 0,.int .i64 0] 122 (0,0))
 flt:W.heap[w.heap.size+1+1]? = some (.cells #[.int .i64 100] 176 (0,0))
 lists:s.At W.heap.size W x
 below:Below w.heap.size w W
theorem OpenIn.go {x:Sk} {s:SS} {w W W':World} (h:OpenIn x s w W) (hb:Below W.heap.size W W'):OpenIn x s w W':=⟨jak hb (Nat.le_refl _) h.box,jak hb (Nat.le_refl _) h.res,jak hb (Nat.le_refl _) h.flt,h.lists.go hb,h.below.trans (hb.mono h.below.size)⟩
def jbz (ok:Bool) (body:Value) (x:Sk) (w:World) (e:Ending) (w':World):Prop :=
 (if ok then e=.returned (.tuple #[.agg #[body,.int .i64 x.kind,.int .i64 x.level],.nilIface])
  else ∃ b,e=.returned (.tuple #[.agg #[.nilIface,.int .i64 0,.int .i64 0],.iface 174 (.pointer (some ⟨b,0,none⟩))])/\w'.heap[b]? = some (.cells #[.int .i64 100] 176 (0,0))/\w.heap.size<=b)/\Below w.heap.size w w'
theorem jaU {x:Sk} {s:SS} {w W:World} {body:Value} {tm:Array Value} (h:OpenIn x s w W) (t2:tm[2]?.getD undef=.pointer (some ⟨w.heap.size+1,0,none⟩)) (t3:tm[3]?.getD undef=.iface 174 (.pointer (some ⟨w.heap.size+1+1,0,none⟩))) :
  bodyPost Tryz.prog Tryz.f88 (jbz false body x w) Exit.ret { tmps:=tm,defers:=[] } (((W.setCell ⟨w.heap.size+1,0,none⟩ .nilIface).setCell ⟨w.heap.size+1,1,none⟩ (.int .i64 0)).setCell ⟨w.heap.size+1,2,none⟩ (.int .i64 0)):=by
 have h1:(W.setCell ⟨w.heap.size+1,0,none⟩ .nilIface).heap[w.heap.size+1]? = some (.cells #[.nilIface,.int .i64 0,.int .i64 0] 122 (0,0)):=hSk h.res .nilIface;have g1:=(jam (W:=W) (p:=⟨w.heap.size+1,0,none⟩) (b:=w.heap.size+1+1) (by show w.heap.size+1≠_;omega) .nilIface).trans h.flt;have b1:=h.below.setCell (p:=⟨w.heap.size+1,0,none⟩) (Nat.le_succ _) .nilIface;generalize W.setCell ⟨w.heap.size+1,0,none⟩ .nilIface=W at h1 g1 b1 ⊢;have h2:(W.setCell ⟨w.heap.size+1,1,none⟩ (.int .i64 0)).heap[w.heap.size+1]? = some (.cells #[.nilIface,.int .i64 0,.int .i64 0] 122 (0,0)):=hSk h1 (.int .i64 0);have g2:=(jam (W:=W) (p:=⟨w.heap.size+1,1,none⟩) (b:=w.heap.size+1+1) (by show w.heap.size+1≠_;omega) (.int .i64 0)).trans g1;have b2:=b1.setCell (p:=⟨w.heap.size+1,1,none⟩) (Nat.le_succ _) (.int .i64 0);generalize W.setCell ⟨w.heap.size+1,1,none⟩ (.int .i64 0)=W at h2 g2 b2 ⊢;have h3:(W.setCell ⟨w.heap.size+1,2,none⟩ (.int .i64 0)).heap[w.heap.size+1]? = some (.cells #[.nilIface,.int .i64 0,.int .i64 0] 122 (0,0)):=hSk h2 (.int .i64 0);have g3:=(jam (W:=W) (p:=⟨w.heap.size+1,2,none⟩) (b:=w.heap.size+1+1) (by show w.heap.size+1≠_;omega) (.int .i64 0)).trans g2;have b3:=b2.setCell (p:=⟨w.heap.size+1,2,none⟩) (Nat.le_succ _) (.int .i64 0);generalize W.setCell ⟨w.heap.size+1,2,none⟩ (.int .i64 0)=W at h3 g3 b3 ⊢;obtain⟨k0,k1,k2⟩:=cl3 h3
 refine bodyPost_ret (v:=.tuple #[.agg #[.nilIface,.int .i64 0,.int .i64 0],.iface 174 (.pointer (some ⟨w.heap.size+1+1,0,none⟩))]) (by simp[results,Tryz.f88,go_sem,t2,t3,k0,k1,k2]) rfl ⟨?_,b3⟩;exact⟨_,rfl,g3,by omega⟩
theorem jb9 (w:World):Calls Tryz.prog 135 #[] w fun e w'=>∃ r,e=.returned (.map (some r))/\w'.heap[r]? = some (.map jdu 3)/\Below w.heap.size w w' :=
 (jnc w).mono fun e w' ⟨h1,h2⟩=>⟨_,h1,by rw[h2];exact World.alloc_heap_new _ _,by rw[h2];exact (Below.refl _ w).alloc (Nat.le_refl _) _⟩
theorem jrw (w:World):(zeroValue 177).run Tryz.prog w=.ok .nilFunc w:=by kernel_rfl
theorem jpv {w:World} {r:Nat} (k:Int) (h:w.heap[r]? = some (.map jdu 3)) (h1:(k==1)=false) (h2:(k==2)=false) (h3:(k==3)=false):(Instr.lookup 179 (.map (some r)) (.int .i64 k) true).run Tryz.prog w=.ok (.tuple #[.nilFunc,.bool false]) w :=
 jid jcU Tryz.underlying3 h (jrw w) (by simp[jdu,Instr.findNow,Instr.sameNow,h1,h2,h3])
theorem jk0 {w:World} {r:Nat} (h:w.heap[r]? = some (.map jdu 3)):(Instr.lookup 179 (.map (some r)) (.int .i64 1) true).run Tryz.prog w=.ok (.tuple #[.func (.func 174) #[] #[],.bool true]) w:=(jic jcU Tryz.underlying3 h rfl).1
theorem jnk {w:World} {r:Nat} (h:w.heap[r]? = some (.map jdu 3)):(Instr.lookup 179 (.map (some r)) (.int .i64 2) true).run Tryz.prog w=.ok (.tuple #[.func (.func 175) #[] #[],.bool true]) w:=(jic jcU Tryz.underlying3 h rfl).1
theorem jnl {w:World} {r:Nat} (h:w.heap[r]? = some (.map jdu 3)):(Instr.lookup 179 (.map (some r)) (.int .i64 3) true).run Tryz.prog w=.ok (.tuple #[.func (.func 176) #[] #[],.bool true]) w:=(jic jcU Tryz.underlying3 h rfl).1
theorem jcO {x:Sk} {s:SS} {w:World} (hx:s.At w.heap.size w x):∃ W0,((w.alloc (.cells #[.int .i64 x.kind,.int .i64 x.level,.slice s.ea s.el s.ec,.int .i64 x.hb,.string x.hr,.int .i64 x.cr,.int .i64 x.cc,.slice s.ca s.cl s.cc,.int .i64 x.gf,.slice s.ga s.gl s.gc] 50)).alloc (.cells #[.nilIface,.int .i64 0,.int .i64 0] 122)).alloc (.cells #[.int .i64 100] 176)=W0/\OpenIn x s w W0:=by
 obtain⟨W0,hW0,hX0,hX1,hX2,hB0,hs0⟩:=jiQ w #[.int .i64 x.kind,.int .i64 x.level,.slice s.ea s.el s.ec,.int .i64 x.hb,.string x.hr,.int .i64 x.cr,.int .i64 x.cc,.slice s.ca s.cl s.cc,.int .i64 x.gf,.slice s.ga s.gl s.gc] 50 #[.nilIface,.int .i64 0,.int .i64 0] 122 #[.int .i64 100] 176;exact⟨W0,hW0,hX0,hX1,hX2,hx.go hB0,hB0⟩
set_option maxRecDepth 100000 in
set_option maxHeartbeats 4000000 in
theorem jnB (x:Sk) (s:SS) (body:Value) (w:World) (hx:s.At w.heap.size w x) (h1:(x.kind==1)=false) (h2:(x.kind==2)=false) (h3:(x.kind==3)=false) :
  Calls Tryz.prog 88 #[.agg #[.int .i64 x.kind,.int .i64 x.level,.slice s.ea s.el s.ec,.int .i64 x.hb,.string x.hr,.int .i64 x.cr,.int .i64 x.cc,.slice s.ca s.cl s.cc,.int .i64 x.gf,.slice s.ga s.gl s.gc]] w (jbz false body x w):=by
 obtain⟨W0,hW0,hO⟩:=jcO hx;have HO:=Lib.hid hO;have HH:Hid ((x.kind==1)=false/\(x.kind==2)=false/\(x.kind==3)=false):=⟨h1,h2,h3⟩;clear hx h1 h2 h3 hO;go_enter Tryz.func88,Tryz.ntmps88;go_wp2_with fail;clear hW0;have c0:W0.cell? ⟨w.heap.size,0,none⟩=some (.int .i64 x.kind):=cCc HO.out.box 0;have q0:∀ W,Below W0.heap.size W0 W->W.cell? ⟨w.heap.size,0,none⟩=some (.int .i64 x.kind)/\Below W0.heap.size W0 W:=fun W h=>⟨cCc (HO.out.go h).box 0,h⟩
 have HQ:=Lib.hid q0;clear q0
 go_region_held3 (fun w'=>w'.cell? ⟨w.heap.size,0,none⟩=some (.int .i64 x.kind)/\Below W0.heap.size W0 w')
  (first
   | exact HQ.out _ (Below.refl _ _).drew
   | (go_split_ands;refine HQ.out _ ?_;first | assumption | exact Below.trans (by assumption) (Below.mono (by assumption) (Below.size (by assumption)))))
  (first
   | (go_at_call 135;refine (jb9 _).mono ?_;rintro e w1 ⟨r,rfl,hr,hb1⟩;have hlk:=jpv x.kind hr HH.out.1 HH.out.2.1 HH.out.2.2;have hq1:Below W0.heap.size W0 w1:=(by go_split_ands;exact Below.trans (by assumption) (Below.mono hb1 (Below.size (by assumption))))))
 have hO1:=HO.out.go hq1;clear hlk hr hb1;go_wp2_with fail;go_quiet (fail);obtain⟨p0,p1,p2⟩:=cl3 hO1.res;obtain⟨f0,f1,f2⟩:=cz3 hO1.res;go_wp2_with fail;exact jaU (hO1.go (bDr (Below.refl _ _) _)) rfl rfl
theorem jeV {x:Sk} {s:SS} {w W:World} {body:Value} {tm:Array Value} (h:OpenIn x s w W) (t2:tm[2]?.getD undef=.pointer (some ⟨w.heap.size+1,0,none⟩)) (t3:tm[3]?.getD undef=.nilIface) :
  bodyPost Tryz.prog Tryz.f88 (jbz true body x w) Exit.ret { tmps:=tm,defers:=[] } (((W.setCell ⟨w.heap.size+1,0,none⟩ body).setCell ⟨w.heap.size+1,1,none⟩ (.int .i64 x.kind)).setCell ⟨w.heap.size+1,2,none⟩ (.int .i64 x.level)):=by
 have h1:(W.setCell ⟨w.heap.size+1,0,none⟩ body).heap[w.heap.size+1]? = some (.cells #[body,.int .i64 0,.int .i64 0] 122 (0,0)):=hSk h.res body;have b1:=h.below.setCell (p:=⟨w.heap.size+1,0,none⟩) (Nat.le_succ _) body;generalize W.setCell ⟨w.heap.size+1,0,none⟩ body=W at h1 b1 ⊢;have h2:(W.setCell ⟨w.heap.size+1,1,none⟩ (.int .i64 x.kind)).heap[w.heap.size+1]? = some (.cells #[body,.int .i64 x.kind,.int .i64 0] 122 (0,0)):=hSk h1 (.int .i64 x.kind);have b2:=b1.setCell (p:=⟨w.heap.size+1,1,none⟩) (Nat.le_succ _) (.int .i64 x.kind);generalize W.setCell ⟨w.heap.size+1,1,none⟩ (.int .i64 x.kind)=W at h2 b2 ⊢;have h3:(W.setCell ⟨w.heap.size+1,2,none⟩ (.int .i64 x.level)).heap[w.heap.size+1]? = some (.cells #[body,.int .i64 x.kind,.int .i64 x.level] 122 (0,0)):=hSk h2 (.int .i64 x.level);have b3:=b2.setCell (p:=⟨w.heap.size+1,2,none⟩) (Nat.le_succ _) (.int .i64 x.level);generalize W.setCell ⟨w.heap.size+1,2,none⟩ (.int .i64 x.level)=W at h3 b3 ⊢;obtain⟨k0,k1,k2⟩:=cl3 h3;exact bodyPost_ret (v:=.tuple #[.agg #[body,.int .i64 x.kind,.int .i64 x.level],.nilIface]) (by simp[results,Tryz.f88,go_sem,t2,t3,k0,k1,k2]) rfl ⟨rfl,b3⟩
set_option maxRecDepth 100000 in
set_option maxHeartbeats 8000000 in
theorem jpD (x:Sk) (s:SS) (w:World) (hx:s.At w.heap.size w x) (hk:x.kind=1) (h0:(x.level==0)=true) (hll:s.el<2147483648) :
  Calls Tryz.prog 88 #[.agg #[.int .i64 x.kind,.int .i64 x.level,.slice s.ea s.el s.ec,.int .i64 x.hb,.string x.hr,.int .i64 x.cr,.int .i64 x.cc,.slice s.ca s.cl s.cc,.int .i64 x.gf,.slice s.ga s.gl s.gc]] w (jbz (ja9 x.e&&jay x (jcD 1 x.level x.e)) (.iface 239 (.agg #[.slice s.ea s.el s.ec])) x w):=by
 obtain⟨W0,hW0,hO⟩:=jcO hx;have HO:=Lib.hid hO;have HK:=Lib.hid hk;rw[hk] at hW0 ⊢;have t1:decide (x.level<0)=false:=by have:=beq_iff_eq.1 h0;simp[this]
 have t2:decide ((4:Int)<x.level)=false:=by have:=beq_iff_eq.1 h0;simp[this]
 have hbt:∀ w,Calls Tryz.prog 48 #[.int .i64 1] w fun e w'=>e=.returned (.int .i64 4)/\w'=w:=fun w=>(jbi 1 w).mono fun e w' ⟨h1,h2⟩=>⟨h1,h2.symm⟩
 have HBT:=Lib.hid hbt;clear hx hO hbt hk;go_enter Tryz.func88,Tryz.ntmps88;go_wp2_with fail;clear hW0;have c0:W0.cell? ⟨w.heap.size,0,none⟩=some (.int .i64 1):=by rw[<- HK.out];exact cCc HO.out.box 0
 have q0:∀ W,Below W0.heap.size W0 W->W.cell? ⟨w.heap.size,0,none⟩=some (.int .i64 1)/\Below W0.heap.size W0 W:=fun W h=>⟨by rw[<- HK.out];exact cCc (HO.out.go h).box 0,h⟩
 have HQ:=Lib.hid q0;clear q0
 go_region_held3 (fun w'=>w'.cell? ⟨w.heap.size,0,none⟩=some (.int .i64 1)/\Below W0.heap.size W0 w')
  (first
   | exact HQ.out _ (Below.refl _ _).drew
   | (go_split_ands;refine HQ.out _ ?_;first | assumption | exact Below.trans (by assumption) (Below.mono (by assumption) (Below.size (by assumption)))))
  (first
   | (go_at_call 135;refine (jb9 _).mono ?_;rintro e w1 ⟨r,rfl,hr,hb1⟩;have hlk:=jk0 hr;have hq1:Below W0.heap.size W0 w1:=(by go_split_ands;exact Below.trans (by assumption) (Below.mono hb1 (Below.size (by assumption))))))
 have hO1:=HO.out.go hq1;have hbx:=hO1.box;rw[HK.out] at hbx;obtain⟨d0,d1,d2,d3,d4,d5,d6,d7,d8,d9⟩:=jaL hbx;clear hlk hr hb1 c0;go_wp2_with fail;go_quiet ((go_at_call 48;exact Calls.quiet_of_same (HBT.out _)));go_wp2_with fail;have hO2:=hO1.go (bDr (Below.refl _ _) nq);have hD:=jhV x s (w1.drewN nq) hO2.lists h0;rw[HK.out] at hD;generalize hbr:ja9 x.e=br at hD;have HBR:=Lib.hid hbr;clear hbr;refine hD.mono ?_;rintro e w3 ⟨rfl,hb3⟩;have hO3:=hO2.go hb3;have hbx3:=hO3.box;rw[HK.out] at hbx3;clear hD hO2 hb3 hO1 hbx d0 d1 d2 d3 d4 d5 d6 d7 d8 d9 HQ HBT HO hq1;obtain⟨d0,d1,d2,d3,d4,d5,d6,d7,d8,d9⟩:=jaL hbx3;obtain⟨p0,p1,p2⟩:=cl3 hO3.res;obtain⟨f0,f1,f2⟩:=cz3 hO3.res
 cases br with
 | false =>
  go_wp2_with fail;rw[HBR.out,Bool.false_and];exact jaU hO3 rfl rfl
 | true =>
  obtain⟨W4,hW4,hX4,hB4,hs4⟩:=jah w3 #[.iface 239 (.agg #[.slice s.ea s.el s.ec]),.int .i64 1,.int .i64 x.level] 122;have HW4:=Lib.hid hW4;have HO4:=Lib.hid (hO3.go hB4);have HX4:=Lib.hid hX4;clear hW4 hX4 hB4 hs4 hO3 p0 p1 p2 f0 f1 f2 hbx3;go_wp2_with fail;rw[HW4.out];clear HW4 d0 d1 d2 d3 d4 d5 d6 d7 d8 d9
  have q4:∀ w',Below W4.heap.size W4 w'->w'.cell? ⟨w.heap.size,0,none⟩=some (.int .i64 1)/\w'.cell? ⟨w.heap.size,1,none⟩=some (.int .i64 x.level)/\w'.cell? ⟨w.heap.size,2,none⟩=some (.slice s.ea s.el s.ec)/\w'.cell? ⟨w.heap.size,3,none⟩=some (.int .i64 x.hb)/\w'.cell? ⟨w.heap.size,4,none⟩=some (.string x.hr)/\w'.cell? ⟨w.heap.size,5,none⟩=some (.int .i64 x.cr)/\w'.cell? ⟨w.heap.size,6,none⟩=some (.int .i64 x.cc)/\w'.cell? ⟨w.heap.size,7,none⟩=some (.slice s.ca s.cl s.cc)/\w'.cell? ⟨w.heap.size,8,none⟩=some (.int .i64 x.gf)/\w'.cell? ⟨w.heap.size,9,none⟩=some (.slice s.ga s.gl s.gc)/\w'.cell? ⟨w3.heap.size,0,none⟩=some (.iface 239 (.agg #[.slice s.ea s.el s.ec]))/\w'.cell? ⟨w3.heap.size,1,none⟩=some (.int .i64 1)/\w'.cell? ⟨w3.heap.size,2,none⟩=some (.int .i64 x.level)/\Below W4.heap.size W4 w':=fun w' h=>by
   have hb:=(HO4.out.go h).box;rw[HK.out] at hb;have hc:=jak h (Nat.le_refl _) HX4.out;exact⟨cCc hb 0,cCc hb 1,cCc hb 2,cCc hb 3,cCc hb 4,cCc hb 5,cCc hb 6,cCc hb 7,cCc hb 8,cCc hb 9,cCc hc 0,cCc hc 1,cCc hc 2,h⟩
  have HQ4:=Lib.hid q4;clear q4;obtain⟨sm,hsm⟩:∃ sm,jay x (jcD 1 x.level x.e)=sm:=⟨_,rfl⟩;have HSM:=Lib.hid hsm;clear hsm;have HSK:Hid (∀ W,Below W4.heap.size W4 W->Calls Tryz.prog 136 #[.agg #[.iface 239 (.agg #[.slice s.ea s.el s.ec]),.int .i64 1,.int .i64 x.level]] W (jeA (jcD 1 x.level x.e) W)):=fun W h=>jhF 1 x.level x.e s.ea s.el s.ec W (HO4.out.go h).lists.e.1 hll
  have HSA:Hid (∀ W (s':SS),Below W4.heap.size W4 W->s'.At W.heap.size W (jcD 1 x.level x.e)->Calls Tryz.prog 67 #[.agg #[.int .i64 1,.int .i64 x.level,.slice s.ea s.el s.ec,.int .i64 x.hb,.string x.hr,.int .i64 x.cr,.int .i64 x.cc,.slice s.ca s.cl s.cc,.int .i64 x.gf,.slice s.ga s.gl s.gc],.agg #[.int .i64 (jcD 1 x.level x.e).kind,.int .i64 (jcD 1 x.level x.e).level,.slice s'.ea s'.el s'.ec,.int .i64 (jcD 1 x.level x.e).hb,.string (jcD 1 x.level x.e).hr,.int .i64 (jcD 1 x.level x.e).cr,.int .i64 (jcD 1 x.level x.e).cc,.slice s'.ca s'.cl s'.cc,.int .i64 (jcD 1 x.level x.e).gf,.slice s'.ga s'.gl s'.gc]] W fun e w'=>e=.returned (.bool sm)/\Below W.heap.size W w'):=fun W s' h hs'=>by
   have:=jca x (jcD 1 x.level x.e) s s' W (HO4.out.go h).lists hs';rw[HSM.out,HK.out] at this;exact this
  go_region_held3 (fun w'=>w'.cell? ⟨w.heap.size,0,none⟩=some (.int .i64 1)/\w'.cell? ⟨w.heap.size,1,none⟩=some (.int .i64 x.level)/\w'.cell? ⟨w.heap.size,2,none⟩=some (.slice s.ea s.el s.ec)/\w'.cell? ⟨w.heap.size,3,none⟩=some (.int .i64 x.hb)/\w'.cell? ⟨w.heap.size,4,none⟩=some (.string x.hr)/\w'.cell? ⟨w.heap.size,5,none⟩=some (.int .i64 x.cr)/\w'.cell? ⟨w.heap.size,6,none⟩=some (.int .i64 x.cc)/\w'.cell? ⟨w.heap.size,7,none⟩=some (.slice s.ca s.cl s.cc)/\w'.cell? ⟨w.heap.size,8,none⟩=some (.int .i64 x.gf)/\w'.cell? ⟨w.heap.size,9,none⟩=some (.slice s.ga s.gl s.gc)/\w'.cell? ⟨w3.heap.size,0,none⟩=some (.iface 239 (.agg #[.slice s.ea s.el s.ec]))/\w'.cell? ⟨w3.heap.size,1,none⟩=some (.int .i64 1)/\w'.cell? ⟨w3.heap.size,2,none⟩=some (.int .i64 x.level)/\Below W4.heap.size W4 w')
   (first
    | exact HQ4.out _ (Below.refl _ _).drew
    | (go_split_ands;refine HQ4.out _ ?_;first | assumption | exact Below.trans (by assumption) (Below.mono (by assumption) (Below.size (by assumption)))))
   (first
    | (go_at_call 136;refine (HSK.out _ (by go_split_ands;assumption)).mono ?_;rintro e w5 ⟨s5,rfl,hA5,-,-,-,hb5⟩;have hq5:Below W4.heap.size W4 w5:=(by go_split_ands;exact Below.trans (by assumption) (Below.mono hb5 (Below.size (by assumption)))))
    | (go_at_call 67;refine (HSA.out _ s5 hq5 hA5).mono ?_;rintro e w6 ⟨rfl,hb6⟩;have hq6:Below W4.heap.size W4 w6:=hq5.trans (hb6.mono hq5.size)))
  have hO6:=HO4.out.go hq6;have hX6:=jak hq6 (Nat.le_refl _) HX4.out;obtain⟨u0,u1,u2⟩:=cl3 hX6;obtain⟨p0,p1,p2⟩:=cl3 hO6.res;obtain⟨f0,f1,f2⟩:=cz3 hO6.res;clear HQ4 HSK HSA hX6 hb6 hb5 hA5 hq5 hq6 HO4 HX4
  cases sm with
  | false =>
   go_wp2_with fail;rw[HBR.out,HSM.out,Bool.true_and];exact jaU hO6 rfl rfl
  | true =>
   go_wp2_with fail;have h9:=fun tm=>jeV (body:=.iface 239 (.agg #[.slice s.ea s.el s.ec])) (tm:=tm) hO6
   rw[HK.out] at h9;rw[HBR.out,HSM.out,Bool.true_and];exact h9 _ rfl rfl
end Go.Proofs.YtieknocphiceoaaGreatDoor
namespace Go.Proofs.YtieknocphiceoaaGreatDoor
open Go Go.RowKit Go.Shelf
section
variable {w:World} {base e size n c g:Nat} {xs:List Value}
theorem jaf (h:w.ownsRow base e size (.slice (some ⟨g,0,none⟩) n c) n xs) {j:Nat} {u:Value} (hj:xs[j]? = some u):w.cell? ⟨g,j,none⟩=some u:=by
 have h1:=h.cells (g:=g) rfl j u hj;have ea:(⟨g,0,none⟩:Addr).add j=⟨g,j,none⟩:=by unfold Addr.add;split<;>simp_all
 rw[ea] at h1;exact h1
theorem jdU (h:w.ownsRow base e size (.slice (some ⟨g,0,none⟩) n c) n xs):base<=g/\∃ cur,w.heap[g]? = some (.cells cur e (0,0))/\n<=c/\c<=maxLen/\cur.size=c*size/\cur.toList.take (n*size)=xs:=by
 rcases h.2 with⟨h1,_⟩ | ⟨g',cap,cur,h1,h2,h3,h4,h5,h6,h7⟩
 ·cases h1
 ·injection h1 with e1 e2 e3
  injection e1 with e1
  injection e1 with e1
  subst e1;subst e3;exact⟨h2,cur,h3,h4,h5,h6,h7⟩
theorem jao (h:w.ownsRow base e size (.slice (some ⟨g,0,none⟩) n c) n xs) (j:Nat):w.frozen? ⟨g,j,none⟩=false:=by
 obtain⟨-,cur,h1,-⟩:=jdU h;exact cFz h1 j
theorem jft (h:w.ownsRow base e size (.slice (some ⟨g,0,none⟩) n c) n xs):g<w.heap.size:=by
 obtain⟨-,cur,h1,-⟩:=jdU h;exact (Array.getElem?_eq_some_iff.1 h1).1
theorem jq6 (h:w.ownsRow base e size (.slice (some ⟨g,0,none⟩) n c) n xs) (i:Nat) (v:Value):(w.setCell ⟨g,i,none⟩ v).ownsRow base e size (.slice (some ⟨g,0,none⟩) n c) n (xs.set i v):=by
 obtain⟨h0,cur,h1,h2,h3,h4,h5⟩:=jdU h;refine⟨by rw[List.length_set];exact h.1,.inr ⟨g,c,cur.setIfInBounds i v,rfl,h0,hSk h1 v,h2,h3,by rw[Array.size_setIfInBounds];exact h4,?_⟩⟩;rw[Array.toList_setIfInBounds,List.take_set,h5]
end
end Go.Proofs.YtieknocphiceoaaGreatDoor
