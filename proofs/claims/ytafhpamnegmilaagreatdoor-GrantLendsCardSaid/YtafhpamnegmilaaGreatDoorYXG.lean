/- Package ladder: Same. Package ladder: the bodies of sketches: held.distinct, held.count, held.lie; kinds. Package ladder: held.count, held.lie; kinds. Package ladder: work.sketch. Package ladder: work.sketch, the other bodies. -/
import Derived.Test.YtafhpamnegmilaaGreatDoorYXB
set_option maxHeartbeats 4000000
set_option maxRecDepth 100000
namespace Go.Proofs.YtafhpamnegmilaaGreatDoor
open Go Go.RowKit
theorem jqM (A B:Int) (C D:ByteArray) (w:World):(binOp .eql 34 (.agg #[.int .i64 A,.string C]) (.agg #[.int .i64 B,.string D])).run Tryz.prog w=.ok (.bool (A==B&&C.toList==D.toList)) w:=by
 have E:Tryz.prog.underlying 34=some (.struct (Tryz.prog.fieldsOf 34)):=by kernel_rfl
 have F:Tryz.prog.stoodInHeld 34=false:=by kernel_rfl
 have G : (Tryz.prog.fieldsOf 34).toList = [{ name := "Bits", type := 3, offset := 0, embedded := false, tag := "", pkgPath := "", byteOffset := 0 }, { name := "Regs", type := 9, offset := 1, embedded := false, tag := "", pkgPath := "", byteOffset := 8 }] := by kernel_rfl
 rw[run_eql_struct,run_equalIn_agg w 9999 _ _ _ E F,G]
 cases ha:(A==B)<;>cases H:(C.toList==D.toList)<;>simp[go_sem,ha,H,Tryz.underlying3,Tryz.underlying9]
theorem juW:Tryz.prog.eqGuardType Tryz.prog.depth 34=false:=by kernel_rfl
theorem jbV (x y:Sk) (s t:SS) (w:World) (d:s.At w.heap.size w x) (f:t.At w.heap.size w y) :
  CR 43 #[.agg #[.int .i64 x.kind,.int .i64 x.level,.slice s.ea s.el s.ec,.int .i64 x.hb,.string x.hr,.int .i64 x.cr,.int .i64 x.cc,.slice s.ca s.cl s.cc,.int .i64 x.gf,.slice s.ga s.gl s.gc],.agg #[.int .i64 y.kind,.int .i64 y.level,.slice t.ea t.el t.ec,.int .i64 y.hb,.string y.hr,.int .i64 y.cr,.int .i64 y.cc,.slice t.ca t.cl t.cc,.int .i64 y.gf,.slice t.ga t.gl t.gc]] w (.bool (jaw x y)):=by
 obtain⟨i,Y,B,C,A,aa⟩:=jaI w #[.int .i64 x.kind,.int .i64 x.level,.slice s.ea s.el s.ec,.int .i64 x.hb,.string x.hr,.int .i64 x.cr,.int .i64 x.cc,.slice s.ca s.cl s.cc,.int .i64 x.gf,.slice s.ga s.gl s.gc] 41 #[.int .i64 y.kind,.int .i64 y.level,.slice t.ea t.el t.ec,.int .i64 y.hb,.string y.hr,.int .i64 y.cr,.int .i64 y.cc,.slice t.ca t.cl t.cc,.int .i64 y.gf,.slice t.ga t.gl t.gc] 41;obtain⟨j,k,l,m,n,o,p,q,r,u⟩:=jam B;obtain⟨v,z,d2,d3,d4,d5,d6,d7,d8,d9⟩:=jam C;have h:=jqM x.hb y.hb x.hr y.hr;have n2:=juW;have M:=d.go A;have Q:=f.go A;clear d f;have T:=ji7 s.ea s.el s.ec x.e t.ea t.el t.ec y.e i M.e.1 Q.e.1 (Nat.le_trans M.e.2.1 M.e.2.2.1)
 cases a:(x.kind==y.kind) with
 | false =>
  have F:Hid (jaw x y=false):=by simp[Hid,jaw,a]
  clear T M Q;go_enter Tryz.func43,Tryz.ntmps43;go_wp2_with fail;go_ret;exact⟨by rw[F.out];rfl,A⟩
 | true =>
  cases b:(x.level==y.level) with
  | false =>
   have F:Hid (jaw x y=false):=by simp[Hid,jaw,b]
   clear T M Q;go_enter Tryz.func43,Tryz.ntmps43;go_wp2_with fail;go_ret;exact⟨by rw[F.out];rfl,A⟩
  | true =>
   cases R:(x.hb==y.hb&&x.hr.toList==y.hr.toList) with
   | false =>
    have F:Hid (jaw x y=false):=by simp only[Hid,jaw,R,Bool.and_false,Bool.false_and]
    rw[R] at h;clear T M Q R;go_enter Tryz.func43,Tryz.ntmps43;go_wp2_with fail;go_ret;exact⟨by rw[F.out];rfl,A⟩
   | true =>
    have F:Hid (jaw x y=(x.e==y.e&&(x.cr==y.cr&&x.cc==y.cc&&x.cl==y.cl)&&(x.gf==y.gf&&x.gl==y.gl))):=by simp only[Hid,jaw,a,b,R,Bool.true_and]
    rw[R] at h;have G:=Lib.hid (And.intro M Q);clear R M Q;go_enter Tryz.func43,Tryz.ntmps43;go_wp2_with fail;refine T.mono ?_;rintro e w1 ⟨rfl,D⟩;have I:=jab D (Nat.le_refl _) B;have J:=jab D (Nat.le_refl _) C;obtain⟨p0,p1,p2,p3,p4,p5,p6,p7,p8,p9⟩:=jam I;obtain⟨q0,q1,q2,q3,q4,q5,q6,q7,q8,q9⟩:=jam J;have H:=G.out.1.go D;have N:=G.out.2.go D;have V:=jlt x.cr x.cc s.ca s.cl s.cc x.cl y.cr y.cc t.ca t.cl t.cc y.cl w1 H.c.1 N.c.1 (Nat.le_trans H.c.2.1 H.c.2.2.1);have U:=Lib.hid (And.intro H N);have O:=A.trans (D.mono A.size);clear Y T j k l m n o p q r u v z d2 d3 d4 d5 d6 d7 d8 d9 H N G B C D;generalize he:(x.e==y.e)=be at F;clear he
    cases be with
    | false =>
     clear V;go_wp2_with fail;go_ret;exact⟨by rw[F.out];rfl,O⟩
    | true =>
     go_wp2_with fail;refine V.mono ?_;rintro e w2 ⟨rfl,E⟩;have B:=jab E (Nat.le_refl _) I;have C:=jab E (Nat.le_refl _) J;obtain⟨r0,r1,r2,r3,r4,r5,r6,r7,r8,r9⟩:=jam B;obtain⟨u0,u1,u2,u3,u4,u5,u6,u7,u8,u9⟩:=jam C;have L:=U.out.1.go E;have S:=U.out.2.go E;have X:=jkl x.gf s.ga s.gl s.gc x.gl y.gf t.ga t.gl t.gc y.gl w2 L.g.1 S.g.1 (Nat.le_trans L.g.2.1 L.g.2.2.1);have P:=O.trans (E.mono O.size);clear V p0 p1 p2 p3 p4 p5 p6 p7 p8 p9 q0 q1 q2 q3 q4 q5 q6 q7 q8 q9 L S U B C I J E;generalize hc:(x.cr==y.cr&&x.cc==y.cc&&x.cl==y.cl)=bc at F;clear hc
     cases bc with
     | false =>
      clear X;go_wp2_with fail;go_ret;exact⟨by rw[F.out];rfl,P⟩
     | true =>
      go_wp2_with fail;refine X.mono ?_;rintro e w3 ⟨rfl,Z⟩;clear X;go_wp2_with fail;go_ret;exact⟨by rw[F.out];simp,P.trans (Z.mono P.size)⟩
structure HeldIn (x:Sk) (s:SS) (w W:World):Prop where
 box:W.heap[w.heap.size]? = some (.cells #[.int .i64 x.kind,.int .i64 x.level,.slice s.ea s.el s.ec,.int .i64 x.hb,.string x.hr,.int .i64 x.cr,.int .i64 x.cc,.slice s.ca s.cl s.cc,.int .i64 x.gf,.slice s.ga s.gl s.gc] 187 (0,0))
 lists:s.At W.heap.size W x
 below:Bw w W
theorem HeldIn.go {x:Sk} {s:SS} {w W B:World} (h:HeldIn x s w W) (A:Bw W B):HeldIn x s w B:=⟨jab A (Nat.le_refl _) h.box,h.lists.go A,h.below.trans (A.mono h.below.size)⟩
theorem jkk (x:Sk) (s:SS) (w:World) (B:s.At w.heap.size w x):HeldIn x s w (w.alloc (.cells #[.int .i64 x.kind,.int .i64 x.level,.slice s.ea s.el s.ec,.int .i64 x.hb,.string x.hr,.int .i64 x.cr,.int .i64 x.cc,.slice s.ca s.cl s.cc,.int .i64 x.gf,.slice s.ga s.gl s.gc] 187)) :=
 have A:Bw w (w.alloc (.cells #[.int .i64 x.kind,.int .i64 x.level,.slice s.ea s.el s.ec,.int .i64 x.hb,.string x.hr,.int .i64 x.cr,.int .i64 x.cc,.slice s.ca s.cl s.cc,.int .i64 x.gf,.slice s.ga s.gl s.gc] 187)):=(Below.refl _ w).alloc (Nat.le_refl _) _;⟨World.alloc_heap_new _ _,B.go A,A⟩
theorem jkb (x:Sk) (s:SS) (w:World) (I:s.At w.heap.size w x) (Z:(x.level==0)=true) :
  Calls Tryz.prog 159 #[.agg #[.int .i64 x.kind,.int .i64 x.level,.slice s.ea s.el s.ec,.int .i64 x.hb,.string x.hr,.int .i64 x.cr,.int .i64 x.cc,.slice s.ca s.cl s.cc,.int .i64 x.gf,.slice s.ga s.gl s.gc]] w fun e w'=>e=.returned (.tuple #[.iface 234 (.agg #[.slice s.ea s.el s.ec]),.bool (jaH x.e)])/\Bw w w':=by
 have D:=jkk x s w I;obtain⟨F,G⟩:∃ F,w.alloc (.cells #[.int .i64 x.kind,.int .i64 x.level,.slice s.ea s.el s.ec,.int .i64 x.hb,.string x.hr,.int .i64 x.cr,.int .i64 x.cc,.slice s.ca s.cl s.cc,.int .i64 x.gf,.slice s.ga s.gl s.gc] 187)=F:=⟨_,rfl⟩;rw[G] at D;obtain⟨M,N,O,P,Q,R,S,T,U,V⟩:=jam D.box;let Inv:World->Prop:=HeldIn x s w;have C:∀ W E,Inv W->Bw W E->Inv E:=fun W E h J=>HeldIn.go h J
 have a:∀ X:WIn Inv,X.world.cell? ⟨w.heap.size,0,none⟩=some (.int .i64 x.kind):=fun X=>cCc X.ok.box 0
 have b:∀ X:WIn Inv,X.world.cell? ⟨w.heap.size,1,none⟩=some (.int .i64 x.level):=fun X=>cCc X.ok.box 1
 have c:∀ X:WIn Inv,X.world.cell? ⟨w.heap.size,2,none⟩=some (.slice s.ea s.el s.ec):=fun X=>cCc X.ok.box 2
 have d:∀ X:WIn Inv,X.world.cell? ⟨w.heap.size,3,none⟩=some (.int .i64 x.hb):=fun X=>cCc X.ok.box 3
 have f:∀ X:WIn Inv,X.world.cell? ⟨w.heap.size,4,none⟩=some (.string x.hr):=fun X=>cCc X.ok.box 4
 have g:∀ X:WIn Inv,X.world.cell? ⟨w.heap.size,5,none⟩=some (.int .i64 x.cr):=fun X=>cCc X.ok.box 5
 have i:∀ X:WIn Inv,X.world.cell? ⟨w.heap.size,6,none⟩=some (.int .i64 x.cc):=fun X=>cCc X.ok.box 6
 have j:∀ X:WIn Inv,X.world.cell? ⟨w.heap.size,7,none⟩=some (.slice s.ca s.cl s.cc):=fun X=>cCc X.ok.box 7
 have k:∀ X:WIn Inv,X.world.cell? ⟨w.heap.size,8,none⟩=some (.int .i64 x.gf):=fun X=>cCc X.ok.box 8
 have l:∀ X:WIn Inv,X.world.cell? ⟨w.heap.size,9,none⟩=some (.slice s.ga s.gl s.gc):=fun X=>cCc X.ok.box 9
 have H:Hid (∀ X:WIn Inv,Calls Tryz.prog 176 #[.agg #[.slice s.ea s.el s.ec]] X.world fun e w'=>e=.returned (.bool (jaH x.e))/\∃ Y:WIn Inv,w'=Y.world):=fun X=>jac C (jdn x.e s.ea s.el s.ec X.world (HeldIn.lists X.ok).e.1)
 have B:Hid (∀ X:WIn Inv,Bw w X.world):=fun X=>HeldIn.below X.ok
 have A:Hid (Inv F.drew):=D.go (Below.refl _ _).drew;have L:Nonempty (WIn Inv):=⟨⟨_,A.out⟩⟩;clear I D C;clear_value Inv;go_enter Tryz.func159,Tryz.ntmps159;go_wp2_with fail;refine jad Inv (by kernel_rfl) (by kernel_rfl) A.out ?_
 repeat (first | go_big_quiet_step ((go_at_call 176;with_reducible exact H.out _)) | quiet_step ((go_at_call 176;with_reducible exact H.out _)))
 refine wpQuiet_nil ?_;rintro _ ⟨X,rfl⟩;go_wp2_with fail;go_ret2;exact⟨rfl,B.out X⟩
theorem jkc (x:Sk) (s:SS) (w:World) (J:s.At w.heap.size w x) (a:(x.level==0)=false) (b:0<=x.level) (c:x.level<=4) :
  CR 159 #[.agg #[.int .i64 x.kind,.int .i64 x.level,.slice s.ea s.el s.ec,.int .i64 x.hb,.string x.hr,.int .i64 x.cr,.int .i64 x.cc,.slice s.ca s.cl s.cc,.int .i64 x.gf,.slice s.ga s.gl s.gc]] w (.tuple #[.iface 236 (.agg #[.int .i64 x.hb,.string x.hr]),.bool (jaT x.hb x.hr&&(x.hb==8-x.level))]):=by
 have F:=jkk x s w J;obtain⟨H,I⟩:∃ H,w.alloc (.cells #[.int .i64 x.kind,.int .i64 x.level,.slice s.ea s.el s.ec,.int .i64 x.hb,.string x.hr,.int .i64 x.cr,.int .i64 x.cc,.slice s.ca s.cl s.cc,.int .i64 x.gf,.slice s.ga s.gl s.gc] 187)=H:=⟨_,rfl⟩;rw[I] at F;obtain⟨N,O,P,Q,R,S,T,U,V,Z⟩:=jam F.box;let Inv:World->Prop:=HeldIn x s w;have E:∀ W G,Inv W->Bw W G->Inv G:=fun W G h L=>HeldIn.go h L
 have f:∀ X:WIn Inv,X.world.cell? ⟨w.heap.size,0,none⟩=some (.int .i64 x.kind):=fun X=>cCc X.ok.box 0
 have g:∀ X:WIn Inv,X.world.cell? ⟨w.heap.size,1,none⟩=some (.int .i64 x.level):=fun X=>cCc X.ok.box 1
 have i:∀ X:WIn Inv,X.world.cell? ⟨w.heap.size,2,none⟩=some (.slice s.ea s.el s.ec):=fun X=>cCc X.ok.box 2
 have j:∀ X:WIn Inv,X.world.cell? ⟨w.heap.size,3,none⟩=some (.int .i64 x.hb):=fun X=>cCc X.ok.box 3
 have k:∀ X:WIn Inv,X.world.cell? ⟨w.heap.size,4,none⟩=some (.string x.hr):=fun X=>cCc X.ok.box 4
 have l:∀ X:WIn Inv,X.world.cell? ⟨w.heap.size,5,none⟩=some (.int .i64 x.cr):=fun X=>cCc X.ok.box 5
 have m:∀ X:WIn Inv,X.world.cell? ⟨w.heap.size,6,none⟩=some (.int .i64 x.cc):=fun X=>cCc X.ok.box 6
 have n:∀ X:WIn Inv,X.world.cell? ⟨w.heap.size,7,none⟩=some (.slice s.ca s.cl s.cc):=fun X=>cCc X.ok.box 7
 have o:∀ X:WIn Inv,X.world.cell? ⟨w.heap.size,8,none⟩=some (.int .i64 x.gf):=fun X=>cCc X.ok.box 8
 have p:∀ X:WIn Inv,X.world.cell? ⟨w.heap.size,9,none⟩=some (.slice s.ga s.gl s.gc):=fun X=>cCc X.ok.box 9
 have C:Hid (∀ X:WIn Inv,Calls Tryz.prog 177 #[.agg #[.int .i64 x.hb,.string x.hr]] X.world fun e w'=>e=.returned (.bool (jaT x.hb x.hr))/\∃ Y:WIn Inv,w'=Y.world):=fun X=>jac E (jdd x.hb x.hr X.world)
 have A:Hid (∀ X:WIn Inv,Bw w X.world):=fun X=>HeldIn.below X.ok
 have B:Hid (Inv H.drew):=F.go (Below.refl _ _).drew;have M:Nonempty (WIn Inv):=⟨⟨_,B.out⟩⟩;have d:IntKind.i64.wrap (8-x.level)=8-x.level:=IntWalk.i64_in _ (by omega);clear J F E;clear_value Inv;generalize jaT x.hb x.hr=b1 at C ⊢
 cases b1
 ·have D:=Lib.hid C.out
  clear C;go_enter Tryz.func159,Tryz.ntmps159;go_wp2_with fail;refine jad Inv (by kernel_rfl) (by kernel_rfl) B.out ?_
  repeat (first | go_big_quiet_step ((go_at_call 177;with_reducible exact D.out _)) | quiet_step ((go_at_call 177;with_reducible exact D.out _)))
  refine wpQuiet_nil ?_;rintro _ ⟨X,rfl⟩;go_wp2_with fail;go_ret2;exact⟨rfl,A.out X⟩
 ·have D:=Lib.hid C.out
  clear C;go_enter Tryz.func159,Tryz.ntmps159;go_wp2_with fail;refine jad Inv (by kernel_rfl) (by kernel_rfl) B.out ?_
  repeat (first | go_big_quiet_step ((go_at_call 177;with_reducible exact D.out _)) | quiet_step ((go_at_call 177;with_reducible exact D.out _)))
  refine wpQuiet_nil ?_;rintro _ ⟨X,rfl⟩;go_wp2_with fail;go_ret2;exact⟨by simp,A.out X⟩
theorem jqE (x:Sk) (s:SS) (w:World) (M:s.At w.heap.size w x) (d:0<=x.level) (f:x.level<=3) :
  CR 160 #[.agg #[.int .i64 x.kind,.int .i64 x.level,.slice s.ea s.el s.ec,.int .i64 x.hb,.string x.hr,.int .i64 x.cr,.int .i64 x.cc,.slice s.ca s.cl s.cc,.int .i64 x.gf,.slice s.ga s.gl s.gc]] w (.tuple #[.iface 237 (.agg #[.int .i64 x.cr,.int .i64 x.cc,.slice s.ca s.cl s.cc]),.bool (jaN x.cr x.cc x.cl&&(x.cr==2)&&(x.cc==32 / 2^x.level.toNat))]):=by
 have E:=jkk x s w M;obtain⟨H,I⟩:∃ H,w.alloc (.cells #[.int .i64 x.kind,.int .i64 x.level,.slice s.ea s.el s.ec,.int .i64 x.hb,.string x.hr,.int .i64 x.cr,.int .i64 x.cc,.slice s.ca s.cl s.cc,.int .i64 x.gf,.slice s.ga s.gl s.gc] 187)=H:=⟨_,rfl⟩;rw[I] at E;obtain⟨P,Q,R,S,T,U,V,Z,a,b⟩:=jam E.box;let Inv:World->Prop:=HeldIn x s w;have D:∀ W G,Inv W->Bw W G->Inv G:=fun W G h N=>HeldIn.go h N
 have g:∀ X:WIn Inv,X.world.cell? ⟨w.heap.size,0,none⟩=some (.int .i64 x.kind):=fun X=>cCc X.ok.box 0
 have i:∀ X:WIn Inv,X.world.cell? ⟨w.heap.size,1,none⟩=some (.int .i64 x.level):=fun X=>cCc X.ok.box 1
 have j:∀ X:WIn Inv,X.world.cell? ⟨w.heap.size,2,none⟩=some (.slice s.ea s.el s.ec):=fun X=>cCc X.ok.box 2
 have k:∀ X:WIn Inv,X.world.cell? ⟨w.heap.size,3,none⟩=some (.int .i64 x.hb):=fun X=>cCc X.ok.box 3
 have l:∀ X:WIn Inv,X.world.cell? ⟨w.heap.size,4,none⟩=some (.string x.hr):=fun X=>cCc X.ok.box 4
 have m:∀ X:WIn Inv,X.world.cell? ⟨w.heap.size,5,none⟩=some (.int .i64 x.cr):=fun X=>cCc X.ok.box 5
 have n:∀ X:WIn Inv,X.world.cell? ⟨w.heap.size,6,none⟩=some (.int .i64 x.cc):=fun X=>cCc X.ok.box 6
 have o:∀ X:WIn Inv,X.world.cell? ⟨w.heap.size,7,none⟩=some (.slice s.ca s.cl s.cc):=fun X=>cCc X.ok.box 7
 have p:∀ X:WIn Inv,X.world.cell? ⟨w.heap.size,8,none⟩=some (.int .i64 x.gf):=fun X=>cCc X.ok.box 8
 have q:∀ X:WIn Inv,X.world.cell? ⟨w.heap.size,9,none⟩=some (.slice s.ga s.gl s.gc):=fun X=>cCc X.ok.box 9
 have F:Hid (∀ X:WIn Inv,Calls Tryz.prog 178 #[.agg #[.int .i64 x.cr,.int .i64 x.cc,.slice s.ca s.cl s.cc]] X.world fun e w'=>e=.returned (.bool (jaN x.cr x.cc x.cl))/\∃ Y:WIn Inv,w'=Y.world):=fun X=>jac D (jdc x.cr x.cc x.cl s.ca s.cl s.cc X.world (HeldIn.lists X.ok).c.1.1)
 have A:Hid (∀ X:WIn Inv,Bw w X.world):=fun X=>HeldIn.below X.ok
 have B:Hid (Inv H.drew):=E.go (Below.refl _ _).drew;have O:Nonempty (WIn Inv):=⟨⟨_,B.out⟩⟩;clear M E D;clear_value Inv;generalize jaN x.cr x.cc x.cl=b1 at F ⊢;have J:b1=false\/(b1=true/\(x.cr==2)=false)\/(b1=true/\(x.cr==2)=true):=by cases b1<;>cases h:(x.cr==2)<;>simp_all
 have C:=Lib.hid F.out;clear F;rcases J with rfl | ⟨rfl,L⟩ | ⟨rfl,L⟩
 ·go_enter Tryz.func160,Tryz.ntmps160
  go_wp2_with fail;refine jad Inv (by kernel_rfl) (by kernel_rfl) B.out ?_
  repeat (first | go_big_quiet_step ((go_at_call 178;with_reducible exact C.out _)) | quiet_step ((go_at_call 178;with_reducible exact C.out _)))
  refine wpQuiet_nil ?_;rintro _ ⟨X,rfl⟩;go_wp2_with fail;go_ret2;exact⟨rfl,A.out X⟩
 ·go_enter Tryz.func160,Tryz.ntmps160
  go_wp2_with fail;refine jad Inv (by kernel_rfl) (by kernel_rfl) B.out ?_
  repeat (first | go_big_quiet_step ((go_at_call 178;with_reducible exact C.out _)) | quiet_step ((go_at_call 178;with_reducible exact C.out _)))
  refine wpQuiet_nil ?_;rintro _ ⟨X,rfl⟩;go_wp2_with fail;go_ret2;exact⟨by simp[L],A.out X⟩
 ·go_enter Tryz.func160,Tryz.ntmps160
  go_wp2_with fail;refine jad Inv (by kernel_rfl) (by kernel_rfl) B.out ?_
  repeat (first | go_big_quiet_step ((go_at_call 178;with_reducible exact C.out _)) | quiet_step ((go_at_call 178;with_reducible exact C.out _)))
  refine wpQuiet_nil ?_;rintro _ ⟨X,rfl⟩;go_wp2_with fail;go_ret2;exact⟨by simp[L],A.out X⟩
theorem jvM (x:Sk) (s:SS) (w:World) (L:s.At w.heap.size w x) (a:0<=x.level) (c:x.level<=3) (F:∀ b∈x.gl,b.1<=9223372036854775807) :
  CR 161 #[.agg #[.int .i64 x.kind,.int .i64 x.level,.slice s.ea s.el s.ec,.int .i64 x.hb,.string x.hr,.int .i64 x.cr,.int .i64 x.cc,.slice s.ca s.cl s.cc,.int .i64 x.gf,.slice s.ga s.gl s.gc]] w (.tuple #[.iface 239 (.agg #[.int .i64 x.gf,.slice s.ga s.gl s.gc]),.bool (jaP x.gf x.gl&&(x.gf==3-x.level))]):=by
 have E:=jkk x s w L;obtain⟨I,J⟩:∃ I,w.alloc (.cells #[.int .i64 x.kind,.int .i64 x.level,.slice s.ea s.el s.ec,.int .i64 x.hb,.string x.hr,.int .i64 x.cr,.int .i64 x.cc,.slice s.ca s.cl s.cc,.int .i64 x.gf,.slice s.ga s.gl s.gc] 187)=I:=⟨_,rfl⟩;rw[J] at E;obtain⟨N,O,P,Q,R,S,T,U,V,Z⟩:=jam E.box;let Inv:World->Prop:=HeldIn x s w;have C:∀ W H,Inv W->Bw W H->Inv H:=fun W H h F=>HeldIn.go h F
 have f:∀ X:WIn Inv,X.world.cell? ⟨w.heap.size,0,none⟩=some (.int .i64 x.kind):=fun X=>cCc X.ok.box 0
 have i:∀ X:WIn Inv,X.world.cell? ⟨w.heap.size,1,none⟩=some (.int .i64 x.level):=fun X=>cCc X.ok.box 1
 have j:∀ X:WIn Inv,X.world.cell? ⟨w.heap.size,2,none⟩=some (.slice s.ea s.el s.ec):=fun X=>cCc X.ok.box 2
 have k:∀ X:WIn Inv,X.world.cell? ⟨w.heap.size,3,none⟩=some (.int .i64 x.hb):=fun X=>cCc X.ok.box 3
 have l:∀ X:WIn Inv,X.world.cell? ⟨w.heap.size,4,none⟩=some (.string x.hr):=fun X=>cCc X.ok.box 4
 have m:∀ X:WIn Inv,X.world.cell? ⟨w.heap.size,5,none⟩=some (.int .i64 x.cr):=fun X=>cCc X.ok.box 5
 have n:∀ X:WIn Inv,X.world.cell? ⟨w.heap.size,6,none⟩=some (.int .i64 x.cc):=fun X=>cCc X.ok.box 6
 have o:∀ X:WIn Inv,X.world.cell? ⟨w.heap.size,7,none⟩=some (.slice s.ca s.cl s.cc):=fun X=>cCc X.ok.box 7
 have p:∀ X:WIn Inv,X.world.cell? ⟨w.heap.size,8,none⟩=some (.int .i64 x.gf):=fun X=>cCc X.ok.box 8
 have q:∀ X:WIn Inv,X.world.cell? ⟨w.heap.size,9,none⟩=some (.slice s.ga s.gl s.gc):=fun X=>cCc X.ok.box 9
 have G:Hid (∀ X:WIn Inv,Calls Tryz.prog 179 #[.agg #[.int .i64 x.gf,.slice s.ga s.gl s.gc]] X.world fun e w'=>e=.returned (.bool (jaP x.gf x.gl))/\∃ Y:WIn Inv,w'=Y.world):=fun X=>jac C (jcN x.gf x.gl s.ga s.gl s.gc X.world (HeldIn.lists X.ok).g.1 (Nat.le_trans (HeldIn.lists X.ok).g.2.1 (HeldIn.lists X.ok).g.2.2.1) F)
 have A:Hid (∀ X:WIn Inv,Bw w X.world):=fun X=>HeldIn.below X.ok
 have B:Hid (Inv I.drew):=E.go (Below.refl _ _).drew;have M:Nonempty (WIn Inv):=⟨⟨_,B.out⟩⟩;have d:IntKind.i64.wrap (3-x.level)=3-x.level:=IntWalk.i64_in _ (by omega);clear L E C F;clear_value Inv;generalize jaP x.gf x.gl=b1 at G ⊢;have D:=Lib.hid G.out;clear G
 cases b1
 ·go_enter Tryz.func161,Tryz.ntmps161
  go_wp2_with fail;refine jad Inv (by kernel_rfl) (by kernel_rfl) B.out ?_
  repeat (first | go_big_quiet_step ((go_at_call 179;with_reducible exact D.out _)) | quiet_step ((go_at_call 179;with_reducible exact D.out _)))
  refine wpQuiet_nil ?_;rintro _ ⟨X,rfl⟩;go_wp2_with fail;go_ret2;exact⟨rfl,A.out X⟩
 ·go_enter Tryz.func161,Tryz.ntmps161
  go_wp2_with fail;refine jad Inv (by kernel_rfl) (by kernel_rfl) B.out ?_
  repeat (first | go_big_quiet_step ((go_at_call 179;with_reducible exact D.out _)) | quiet_step ((go_at_call 179;with_reducible exact D.out _)))
  refine wpQuiet_nil ?_;rintro _ ⟨X,rfl⟩;go_wp2_with fail;go_ret2;exact⟨by simp,A.out X⟩
def jel:Array MapEntry:=#[{ key:=.int .i64 1,val:=.func (.func 159) #[] #[],born:=0 },{ key:=.int .i64 2,val:=.func (.func 160) #[] #[],born:=1 },{ key:=.int .i64 3,val:=.func (.func 161) #[] #[],born:=2 }]
theorem jdC:Tryz.prog.underlying 183=some (.map 3 181):=by kernel_rfl
theorem jrf (w:World):Calls Tryz.prog 125 #[] w fun e w'=>e=.returned (.map (some w.heap.size))/\w'=w.alloc (.map jel 3):=by
 have A:=@run_makeMap Tryz.prog;have B:=jeJ (P:=Tryz.prog) w (clock:=0) (es:=#[]) (n:=1) (.func (.func 159) #[] #[]) jdC Tryz.underlying3 rfl;have C:=jeJ (P:=Tryz.prog) w (clock:=1) (es:=#[{ key:=.int .i64 1,val:=.func (.func 159) #[] #[],born:=0 }]) (n:=2) (.func (.func 160) #[] #[]) jdC Tryz.underlying3 rfl;have D:=jeJ (P:=Tryz.prog) w (clock:=2) (es:=#[{ key:=.int .i64 1,val:=.func (.func 159) #[] #[],born:=0 },{ key:=.int .i64 2,val:=.func (.func 160) #[] #[],born:=1 }]) (n:=3) (.func (.func 161) #[] #[]) jdC Tryz.underlying3 rfl;simp only[List.push_toArray,List.nil_append,List.cons_append,Nat.zero_add,Nat.reduceAdd] at B C D;go_enter Tryz.func125,Tryz.ntmps125;go_wp2_with fail;go_ret;exact⟨rfl,rfl⟩
theorem jxl (v:Value) (w:World) (a:Option Addr) (l c:Nat) (A:v=.agg #[.slice a l c]):(Instr.typeAssert (.iface 234 v) 114 234 true).run Tryz.prog w=.ok (.tuple #[v,.bool true]) w:=by subst A;kernel_rfl
theorem jv8 {W:World} {B:Nat} {L J I H G F E D C A v0 v1 v2 v3 v4 v5 v6 v7 v8 v9:Value} {t:TypeId} (h:W.heap[B]? = some (.cells #[L,J,I,H,G,F,E,D,C,A] t (0,0))) :
  ((((((((((W.setCell ⟨B,0,none⟩ v0).setCell ⟨B,1,none⟩ v1).setCell ⟨B,2,none⟩ v2).setCell ⟨B,3,none⟩ v3).setCell ⟨B,4,none⟩ v4).setCell ⟨B,5,none⟩ v5).setCell ⟨B,6,none⟩ v6).setCell ⟨B,7,none⟩ v7).setCell ⟨B,8,none⟩ v8).setCell ⟨B,9,none⟩ v9).heap[B]? = some (.cells #[v0,v1,v2,v3,v4,v5,v6,v7,v8,v9] t (0,0)):=by
 replace h:(W.setCell ⟨B,0,none⟩ v0).heap[B]? = some (.cells #[v0,J,I,H,G,F,E,D,C,A] t (0,0)):=hSk h v0;generalize W.setCell ⟨B,0,none⟩ v0=W at h ⊢;replace h:(W.setCell ⟨B,1,none⟩ v1).heap[B]? = some (.cells #[v0,v1,I,H,G,F,E,D,C,A] t (0,0)):=hSk h v1;generalize W.setCell ⟨B,1,none⟩ v1=W at h ⊢;replace h:(W.setCell ⟨B,2,none⟩ v2).heap[B]? = some (.cells #[v0,v1,v2,H,G,F,E,D,C,A] t (0,0)):=hSk h v2;generalize W.setCell ⟨B,2,none⟩ v2=W at h ⊢;replace h:(W.setCell ⟨B,3,none⟩ v3).heap[B]? = some (.cells #[v0,v1,v2,v3,G,F,E,D,C,A] t (0,0)):=hSk h v3;generalize W.setCell ⟨B,3,none⟩ v3=W at h ⊢;replace h:(W.setCell ⟨B,4,none⟩ v4).heap[B]? = some (.cells #[v0,v1,v2,v3,v4,F,E,D,C,A] t (0,0)):=hSk h v4;generalize W.setCell ⟨B,4,none⟩ v4=W at h ⊢;replace h:(W.setCell ⟨B,5,none⟩ v5).heap[B]? = some (.cells #[v0,v1,v2,v3,v4,v5,E,D,C,A] t (0,0)):=hSk h v5;generalize W.setCell ⟨B,5,none⟩ v5=W at h ⊢;replace h:(W.setCell ⟨B,6,none⟩ v6).heap[B]? = some (.cells #[v0,v1,v2,v3,v4,v5,v6,D,C,A] t (0,0)):=hSk h v6;generalize W.setCell ⟨B,6,none⟩ v6=W at h ⊢;replace h:(W.setCell ⟨B,7,none⟩ v7).heap[B]? = some (.cells #[v0,v1,v2,v3,v4,v5,v6,v7,C,A] t (0,0)):=hSk h v7;generalize W.setCell ⟨B,7,none⟩ v7=W at h ⊢;replace h:(W.setCell ⟨B,8,none⟩ v8).heap[B]? = some (.cells #[v0,v1,v2,v3,v4,v5,v6,v7,v8,A] t (0,0)):=hSk h v8;generalize W.setCell ⟨B,8,none⟩ v8=W at h ⊢;replace h:(W.setCell ⟨B,9,none⟩ v9).heap[B]? = some (.cells #[v0,v1,v2,v3,v4,v5,v6,v7,v8,v9] t (0,0)):=hSk h v9
 generalize W.setCell ⟨B,9,none⟩ v9=W at h ⊢;exact h
def jfU (y:Sk) (w:World) (e:Ending) (w':World):Prop:=∃ s:SS,e=.returned (.agg #[.int .i64 y.kind,.int .i64 y.level,.slice s.ea s.el s.ec,.int .i64 y.hb,.string y.hr,.int .i64 y.cr,.int .i64 y.cc,.slice s.ca s.cl s.cc,.int .i64 y.gf,.slice s.ga s.gl s.gc])/\s.At w'.heap.size w' y/\(∀ z,s.ea=some z->w.heap.size<=z.block)/\(∀ z,s.ca=some z->w.heap.size<=z.block)/\(∀ z,s.ga=some z->w.heap.size<=z.block)/\Bw w w'
def jaQ (kind level:Int) (l:List Int):Sk:=⟨kind,level,l,0,⟨#[]⟩,0,0,[],0,[]⟩
def SS.Far (s:SS) (b:Nat):Prop:=(∀ z,s.ea=some z->b≠z.block)/\(∀ z,s.ca=some z->b≠z.block)/\(∀ z,s.ga=some z->b≠z.block)
theorem SS.At.set {s:SS} {n:Nat} {W:World} {x:Sk} (h:s.At n W x) {b o:Nat} (A:s.Far b) (v:Value):s.At n (W.setCell ⟨b,o,none⟩ v) x :=
 ⟨h.e.set_far (p:=⟨b,o,none⟩) A.1 v,h.c.set_far (p:=⟨b,o,none⟩) A.2.1 v,h.g.set_far (p:=⟨b,o,none⟩) A.2.2 v⟩
theorem jae {W:World} {p:Addr} {b:Nat} (h:p.block≠b) (v:Value):(W.setCell p v).heap[b]? = W.heap[b]? := by
 show (W.heap.modify p.block _)[b]? = _;rw[Array.getElem?_modify];simp[h]
theorem jdg (W:World) (p:Addr) (v:Value):(W.setCell p v).heap.size=W.heap.size:=by simp[World.setCell]
theorem jr7 {w W:World} {y:Sk} {s:SS} {tm:Array Value} {Y a b c d e f g h i:Value} (L:W.heap[w.heap.size+1]? = some (.cells #[Y,a,b,c,d,e,f,g,h,i] 41 (0,0))) (J:Bw w W) (I:s.At W.heap.size W y)
  (E:∀ z,s.ea=some z->w.heap.size+2<=z.block) (F:∀ z,s.ca=some z->w.heap.size+2<=z.block) (G:∀ z,s.ga=some z->w.heap.size+2<=z.block)
  (X:tm[2]?.getD undef=.pointer (some ⟨w.heap.size+1,0,none⟩)) :
  bodyPost Tryz.prog Tryz.f127 (jfU y w) Exit.ret { tmps:=tm,defers:=[] }
   ((((((((((W.setCell ⟨w.heap.size+1,0,none⟩ (.int .i64 y.kind)).setCell ⟨w.heap.size+1,1,none⟩ (.int .i64 y.level)).setCell ⟨w.heap.size+1,2,none⟩ (.slice s.ea s.el s.ec)).setCell ⟨w.heap.size+1,3,none⟩ (.int .i64 y.hb)).setCell ⟨w.heap.size+1,4,none⟩ (.string y.hr)).setCell ⟨w.heap.size+1,5,none⟩ (.int .i64 y.cr)).setCell ⟨w.heap.size+1,6,none⟩ (.int .i64 y.cc)).setCell ⟨w.heap.size+1,7,none⟩ (.slice s.ca s.cl s.cc)).setCell ⟨w.heap.size+1,8,none⟩ (.int .i64 y.gf)).setCell ⟨w.heap.size+1,9,none⟩ (.slice s.ga s.gl s.gc)):=by
 have B:s.Far (w.heap.size+1):=⟨fun z A=>by have:=E z A;omega,fun z A=>by have:=F z A;omega,fun z A=>by have:=G z A;omega⟩;have H:=jv8 (v0:=.int .i64 y.kind) (v1:=.int .i64 y.level) (v2:=.slice s.ea s.el s.ec) (v3:=.int .i64 y.hb) (v4:=.string y.hr) (v5:=.int .i64 y.cr) (v6:=.int .i64 y.cc) (v7:=.slice s.ca s.cl s.cc) (v8:=.int .i64 y.gf) (v9:=.slice s.ga s.gl s.gc) L;have C:=(((((((((I.set (o:=0) B (.int .i64 y.kind)).set (o:=1) B (.int .i64 y.level)).set (o:=2) B (.slice s.ea s.el s.ec)).set (o:=3) B (.int .i64 y.hb)).set (o:=4) B (.string y.hr)).set (o:=5) B (.int .i64 y.cr)).set (o:=6) B (.int .i64 y.cc)).set (o:=7) B (.slice s.ca s.cl s.cc)).set (o:=8) B (.int .i64 y.gf)).set (o:=9) B (.slice s.ga s.gl s.gc);have D:=(((((((((J.setCell (p:=⟨w.heap.size+1,0,none⟩) (Nat.le_succ _) (.int .i64 y.kind)).setCell (p:=⟨w.heap.size+1,1,none⟩) (Nat.le_succ _) (.int .i64 y.level)).setCell (p:=⟨w.heap.size+1,2,none⟩) (Nat.le_succ _) (.slice s.ea s.el s.ec)).setCell (p:=⟨w.heap.size+1,3,none⟩) (Nat.le_succ _) (.int .i64 y.hb)).setCell (p:=⟨w.heap.size+1,4,none⟩) (Nat.le_succ _) (.string y.hr)).setCell (p:=⟨w.heap.size+1,5,none⟩) (Nat.le_succ _) (.int .i64 y.cr)).setCell (p:=⟨w.heap.size+1,6,none⟩) (Nat.le_succ _) (.int .i64 y.cc)).setCell (p:=⟨w.heap.size+1,7,none⟩) (Nat.le_succ _) (.slice s.ca s.cl s.cc)).setCell (p:=⟨w.heap.size+1,8,none⟩) (Nat.le_succ _) (.int .i64 y.gf)).setCell (p:=⟨w.heap.size+1,9,none⟩) (Nat.le_succ _) (.slice s.ga s.gl s.gc)
 rw[show W.heap.size=_ from (by simp only[jdg]:W.heap.size=((((((((((W.setCell ⟨w.heap.size+1,0,none⟩ (.int .i64 y.kind)).setCell ⟨w.heap.size+1,1,none⟩ (.int .i64 y.level)).setCell ⟨w.heap.size+1,2,none⟩ (.slice s.ea s.el s.ec)).setCell ⟨w.heap.size+1,3,none⟩ (.int .i64 y.hb)).setCell ⟨w.heap.size+1,4,none⟩ (.string y.hr)).setCell ⟨w.heap.size+1,5,none⟩ (.int .i64 y.cr)).setCell ⟨w.heap.size+1,6,none⟩ (.int .i64 y.cc)).setCell ⟨w.heap.size+1,7,none⟩ (.slice s.ca s.cl s.cc)).setCell ⟨w.heap.size+1,8,none⟩ (.int .i64 y.gf)).setCell ⟨w.heap.size+1,9,none⟩ (.slice s.ga s.gl s.gc)).heap.size)] at C;generalize ((((((((((W.setCell ⟨w.heap.size+1,0,none⟩ (.int .i64 y.kind)).setCell ⟨w.heap.size+1,1,none⟩ (.int .i64 y.level)).setCell ⟨w.heap.size+1,2,none⟩ (.slice s.ea s.el s.ec)).setCell ⟨w.heap.size+1,3,none⟩ (.int .i64 y.hb)).setCell ⟨w.heap.size+1,4,none⟩ (.string y.hr)).setCell ⟨w.heap.size+1,5,none⟩ (.int .i64 y.cr)).setCell ⟨w.heap.size+1,6,none⟩ (.int .i64 y.cc)).setCell ⟨w.heap.size+1,7,none⟩ (.slice s.ca s.cl s.cc)).setCell ⟨w.heap.size+1,8,none⟩ (.int .i64 y.gf)).setCell ⟨w.heap.size+1,9,none⟩ (.slice s.ga s.gl s.gc))=Z at H C D ⊢;obtain⟨M,N,O,P,Q,R,S,T,U,V⟩:=jam H
 refine bodyPost_ret (v:=.agg #[.int .i64 y.kind,.int .i64 y.level,.slice s.ea s.el s.ec,.int .i64 y.hb,.string y.hr,.int .i64 y.cr,.int .i64 y.cc,.slice s.ca s.cl s.cc,.int .i64 y.gf,.slice s.ga s.gl s.gc]) (by simp[results,Tryz.f127,go_sem,X,M,N,O,P,Q,R,S,T,U,V]) rfl ⟨s,rfl,C,fun z A=>by have:=E z A;omega,fun z A=>by have:=F z A;omega,fun z A=>by have:=G z A;omega,D⟩
theorem jjR (C A:Int) (l:List Int) (a:Option Addr) (len cap:Nat) (w:World) (n:SlE jaG 1 w.heap.size w a len l) (g:len<2147483648) :
  Calls Tryz.prog 127 #[.agg #[.iface 234 (.agg #[.slice a len cap]),.int .i64 C,.int .i64 A]] w (jfU (jaQ C A l) w):=by
 obtain⟨q,S,c,U,V,Q,h⟩:=jbJ w #[.iface 234 (.agg #[.slice a len cap]),.int .i64 C,.int .i64 A] 116 #[.int .i64 0,.int .i64 0,.slice none 0 0,.int .i64 0,.string ⟨#[]⟩,.int .i64 0,.int .i64 0,.slice none 0 0,.int .i64 0,.slice none 0 0] 41 #[.int .i64 C,.int .i64 A,.slice none 0 0,.int .i64 0,.string ⟨#[]⟩,.int .i64 0,.int .i64 0,.slice none 0 0,.int .i64 0,.slice none 0 0] 41;have ht:=fun w=>jxl (.agg #[.slice a len cap]) w a len cap rfl
 obtain⟨k,T,d,F,i⟩:=jaf q #[.slice a len cap] 234;have E:=Q.trans (F.mono Q.size);have m:=jfZ a len cap l k (n.go E) g;have L:=Lib.hid S;have M:=Lib.hid T;have N:=Lib.hid (jab F (Nat.le_refl _) U);have O:=Lib.hid (jab F (Nat.le_refl _) V);have D:w.heap.size+3<k.heap.size:=by omega
 clear n S T c U V d i h;go_enter Tryz.func127,Tryz.ntmps127;go_wp2_with fail;rw[L.out,M.out];refine m.mono ?_;rintro e J ⟨I,B,rfl,j,Z,H⟩;have G:=jab H (Nat.le_refl _) N.out;have X:=jab H (Nat.le_refl _) O.out;obtain⟨p0,p1,p2,p3,p4,p5,p6,p7,p8,p9⟩:=jam G;obtain⟨u,v,x,f3,f4,f5,f6,f7,f8,f9⟩:=jbL G;obtain⟨q0,q1,q2,q3,q4,q5,q6,q7,q8,q9⟩:=jam X;have g2:J.frozen? ⟨w.heap.size+1+1,2,none⟩=false:=cFz X 2;have t:w.heap.size+1≠w.heap.size+1+1:=by omega
 clear m ht N O L M;go_wp2_with fail;have R:Bw w J:=E.trans (H.mono E.size);have r:SS.At ⟨I,len,B,none,0,0,none,0,0⟩ J.heap.size J (jaQ C A l):=⟨j,SlC.nil,SlC.nil⟩;have Y:SS.Far ⟨I,len,B,none,0,0,none,0,0⟩ (w.heap.size+1+1):=⟨(fun z D=>by have:=Z z D;omega),(fun z D=>by cases D),(fun z D=>by cases D)⟩;have P:=r.set (o:=2) Y (.slice I len B);rw[<- jdg J ⟨w.heap.size+1+1,2,none⟩ (.slice I len B)] at P;have f:=(jae (W:=J) (p:=⟨w.heap.size+1+1,2,none⟩) (b:=w.heap.size+1) (by show w.heap.size+1+1≠_;omega) (.slice I len B)).trans G;exact jr7 (y:=jaQ C A l) (s:=⟨I,len,B,none,0,0,none,0,0⟩) f (R.setCell (p:=⟨w.heap.size+1+1,2,none⟩) (by show w.heap.size<=w.heap.size+1+1;omega) _) P (fun z D=>by have:=Z z D;omega) (fun z D=>by cases D) (fun z D=>by cases D) rfl
theorem jwx (b:Int) (r:ByteArray) (w:World):(Instr.typeAssert (.iface 236 (.agg #[.int .i64 b,.string r])) 114 234 true).run Tryz.prog w=.ok (.tuple #[.agg #[.slice none 0 0],.bool false]) w /\
  (Instr.typeAssert (.iface 236 (.agg #[.int .i64 b,.string r])) 114 236 true).run Tryz.prog w=.ok (.tuple #[.agg #[.int .i64 b,.string r],.bool true]) w:=⟨by kernel_rfl,by kernel_rfl⟩
theorem jvo (r c:Int) (a:Option Addr) (n m:Nat) (w:World):(Instr.typeAssert (.iface 237 (.agg #[.int .i64 r,.int .i64 c,.slice a n m])) 114 234 true).run Tryz.prog w=.ok (.tuple #[.agg #[.slice none 0 0],.bool false]) w /\
  (Instr.typeAssert (.iface 237 (.agg #[.int .i64 r,.int .i64 c,.slice a n m])) 114 236 true).run Tryz.prog w=.ok (.tuple #[.agg #[.int .i64 0,.string ⟨#[]⟩],.bool false]) w /\
  (Instr.typeAssert (.iface 237 (.agg #[.int .i64 r,.int .i64 c,.slice a n m])) 114 237 true).run Tryz.prog w=.ok (.tuple #[.agg #[.int .i64 r,.int .i64 c,.slice a n m],.bool true]) w:=⟨by kernel_rfl,by kernel_rfl,by kernel_rfl⟩
theorem jsS (f:Int) (a:Option Addr) (n m:Nat) (w:World):(Instr.typeAssert (.iface 239 (.agg #[.int .i64 f,.slice a n m])) 114 234 true).run Tryz.prog w=.ok (.tuple #[.agg #[.slice none 0 0],.bool false]) w /\
  (Instr.typeAssert (.iface 239 (.agg #[.int .i64 f,.slice a n m])) 114 236 true).run Tryz.prog w=.ok (.tuple #[.agg #[.int .i64 0,.string ⟨#[]⟩],.bool false]) w /\
  (Instr.typeAssert (.iface 239 (.agg #[.int .i64 f,.slice a n m])) 114 237 true).run Tryz.prog w=.ok (.tuple #[.agg #[.int .i64 0,.int .i64 0,.slice none 0 0],.bool false]) w /\
  (Instr.typeAssert (.iface 239 (.agg #[.int .i64 f,.slice a n m])) 114 239 true).run Tryz.prog w=.ok (.tuple #[.agg #[.int .i64 f,.slice a n m],.bool true]) w:=⟨by kernel_rfl,by kernel_rfl,by kernel_rfl,by kernel_rfl⟩
def jbl (kind level:Int) (b:Int) (r:ByteArray):Sk:=⟨kind,level,[],b,r,0,0,[],0,[]⟩
def jba (kind level:Int) (r c:Int) (l:List Int):Sk:=⟨kind,level,[],0,⟨#[]⟩,r,c,l,0,[]⟩
def jbv (kind level:Int) (f:Int) (l:List (Int × Int)):Sk:=⟨kind,level,[],0,⟨#[]⟩,0,0,[],f,l⟩
theorem jjS (B A b:Int) (r:ByteArray) (w:World) :
  Calls Tryz.prog 127 #[.agg #[.iface 236 (.agg #[.int .i64 b,.string r]),.int .i64 B,.int .i64 A]] w (jfU (jbl B A b r) w):=by
 have D:=fun w=>(jwx b r w).1
 have E:=fun w=>(jwx b r w).2
 go_enter Tryz.func127,Tryz.ntmps127;go_wp2_with fail;refine bodyPost_ret (v:=.agg #[.int .i64 B,.int .i64 A,.slice none 0 0,.int .i64 b,.string r,.int .i64 0,.int .i64 0,.slice none 0 0,.int .i64 0,.slice none 0 0]) (by simp[results,Tryz.f127,go_sem]) rfl ⟨⟨none,0,0,none,0,0,none,0,0⟩,rfl,⟨SlC.nil,SlC.nil,SlC.nil⟩,(fun z C=>by cases C),(fun z C=>by cases C),(fun z C=>by cases C),?_⟩;exact ((((Below.refl _ w).alloc (Nat.le_refl _) _).alloc (by simp) _).alloc (by simp;omega) _).alloc (by simp;omega) _
theorem jjQ (C A r c:Int) (l:List Int) (a:Option Addr) (len cap:Nat) (w:World) (q:SlE jaG 1 w.heap.size w a len l) (h:len<2147483648) :
  Calls Tryz.prog 127 #[.agg #[.iface 237 (.agg #[.int .i64 r,.int .i64 c,.slice a len cap]),.int .i64 C,.int .i64 A]] w (jfU (jba C A r c l) w):=by
 obtain⟨t,S,d,U,V,Q,i⟩:=jbJ w #[.iface 237 (.agg #[.int .i64 r,.int .i64 c,.slice a len cap]),.int .i64 C,.int .i64 A] 116 #[.int .i64 0,.int .i64 0,.slice none 0 0,.int .i64 0,.string ⟨#[]⟩,.int .i64 0,.int .i64 0,.slice none 0 0,.int .i64 0,.slice none 0 0] 41 #[.int .i64 C,.int .i64 A,.slice none 0 0,.int .i64 0,.string ⟨#[]⟩,.int .i64 r,.int .i64 c,.slice a len cap,.int .i64 0,.slice none 0 0] 41;have u:=fun w=>(jvo r c a len cap w).1
 have v:=fun w=>(jvo r c a len cap w).2.1
 have x:=fun w=>(jvo r c a len cap w).2.2
 obtain⟨m,T,f,F,j⟩:=jaf t #[.int .i64 r,.int .i64 c,.slice a len cap] 237;have E:=Q.trans (F.mono Q.size);have n:=jfZ a len cap l m (q.go E) h;have L:=Lib.hid S;have M:=Lib.hid T;have N:=Lib.hid (jab F (Nat.le_refl _) U);have O:=Lib.hid (jab F (Nat.le_refl _) V);have D:w.heap.size+3<m.heap.size:=by omega
 clear q S T d U V f j i;go_enter Tryz.func127,Tryz.ntmps127;go_wp2_with fail;rw[L.out,M.out];refine n.mono ?_;rintro e J ⟨I,B,rfl,k,Z,H⟩;have G:=jab H (Nat.le_refl _) N.out;have X:=jab H (Nat.le_refl _) O.out;obtain⟨p0,p1,p2,p3,p4,p5,p6,p7,p8,p9⟩:=jam G;obtain⟨f0,f1,f2,f3,f4,f5,f6,f7,f8,f9⟩:=jbL G;obtain⟨q0,q1,q2,q3,q4,q5,q6,q7,q8,q9⟩:=jam X;have g2:J.frozen? ⟨w.heap.size+1+1,7,none⟩=false:=cFz X 7;have aa:w.heap.size+1≠w.heap.size+1+1:=by omega
 clear n u v x N O L M;go_wp2_with fail;have R:Bw w J:=E.trans (H.mono E.size);have hA:SS.At ⟨none,0,0,I,len,B,none,0,0⟩ J.heap.size J (jba C A r c l):=⟨SlC.nil,k,SlC.nil⟩;have Y:SS.Far ⟨none,0,0,I,len,B,none,0,0⟩ (w.heap.size+1+1):=⟨(fun z D=>by cases D),(fun z D=>by have:=Z z D;omega),(fun z D=>by cases D)⟩;have P:=hA.set (o:=7) Y (.slice I len B);rw[<- jdg J ⟨w.heap.size+1+1,7,none⟩ (.slice I len B)] at P;have g:=(jae (W:=J) (p:=⟨w.heap.size+1+1,7,none⟩) (b:=w.heap.size+1) (by show w.heap.size+1+1≠_;omega) (.slice I len B)).trans G;exact jr7 (y:=jba C A r c l) (s:=⟨none,0,0,I,len,B,none,0,0⟩) g (R.setCell (p:=⟨w.heap.size+1+1,7,none⟩) (by show w.heap.size<=w.heap.size+1+1;omega) _) P (fun z D=>by cases D) (fun z D=>by have:=Z z D;omega) (fun z D=>by cases D) rfl
theorem jjP (C A f:Int) (l:List (Int × Int)) (a:Option Addr) (len cap:Nat) (w:World) (q:SlE jbO 2 w.heap.size w a len l) (h:len<2147483648) :
  Calls Tryz.prog 127 #[.agg #[.iface 239 (.agg #[.int .i64 f,.slice a len cap]),.int .i64 C,.int .i64 A]] w (jfU (jbv C A f l) w):=by
 obtain⟨r,S,c,U,V,Q,i⟩:=jbJ w #[.iface 239 (.agg #[.int .i64 f,.slice a len cap]),.int .i64 C,.int .i64 A] 116 #[.int .i64 0,.int .i64 0,.slice none 0 0,.int .i64 0,.string ⟨#[]⟩,.int .i64 0,.int .i64 0,.slice none 0 0,.int .i64 0,.slice none 0 0] 41 #[.int .i64 C,.int .i64 A,.slice none 0 0,.int .i64 0,.string ⟨#[]⟩,.int .i64 0,.int .i64 0,.slice none 0 0,.int .i64 f,.slice a len cap] 41;have t:=fun w=>(jsS f a len cap w).1
 have u:=fun w=>(jsS f a len cap w).2.1
 have v:=fun w=>(jsS f a len cap w).2.2.1
 have x:=fun w=>(jsS f a len cap w).2.2.2
 obtain⟨m,T,d,F,j⟩:=jaf r #[.int .i64 f,.slice a len cap] 239;have E:=Q.trans (F.mono Q.size);have n:=jls a len cap l m (q.go E) h;have L:=Lib.hid S;have M:=Lib.hid T;have N:=Lib.hid (jab F (Nat.le_refl _) U);have O:=Lib.hid (jab F (Nat.le_refl _) V);have D:w.heap.size+3<m.heap.size:=by omega
 clear q S T c U V d j i;go_enter Tryz.func127,Tryz.ntmps127;go_wp2_with fail;rw[L.out,M.out];refine n.mono ?_;rintro e J ⟨I,B,rfl,k,Z,H⟩;have G:=jab H (Nat.le_refl _) N.out;have X:=jab H (Nat.le_refl _) O.out;obtain⟨p0,p1,p2,p3,p4,p5,p6,p7,p8,p9⟩:=jam G;obtain⟨f0,f1,f2,f3,f4,f5,f6,f7,f8,f9⟩:=jbL G;obtain⟨q0,q1,q2,q3,q4,q5,q6,q7,q8,q9⟩:=jam X;have g2:J.frozen? ⟨w.heap.size+1+1,9,none⟩=false:=cFz X 9;have aa:w.heap.size+1≠w.heap.size+1+1:=by omega
 clear n t u v x N O L M;go_wp2_with fail;have R:Bw w J:=E.trans (H.mono E.size);have hA:SS.At ⟨none,0,0,none,0,0,I,len,B⟩ J.heap.size J (jbv C A f l):=⟨SlC.nil,SlC.nil,k⟩;have Y:SS.Far ⟨none,0,0,none,0,0,I,len,B⟩ (w.heap.size+1+1):=⟨(fun z D=>by cases D),(fun z D=>by cases D),(fun z D=>by have:=Z z D;omega)⟩;have P:=hA.set (o:=9) Y (.slice I len B);rw[<- jdg J ⟨w.heap.size+1+1,9,none⟩ (.slice I len B)] at P;have g:=(jae (W:=J) (p:=⟨w.heap.size+1+1,9,none⟩) (b:=w.heap.size+1) (by show w.heap.size+1+1≠_;omega) (.slice I len B)).trans G;exact jr7 (y:=jbv C A f l) (s:=⟨none,0,0,none,0,0,I,len,B⟩) g (R.setCell (p:=⟨w.heap.size+1+1,9,none⟩) (by show w.heap.size<=w.heap.size+1+1;omega) _) P (fun z D=>by cases D) (fun z D=>by cases D) (fun z D=>by have:=Z z D;omega) rfl
end Go.Proofs.YtafhpamnegmilaaGreatDoor
