/- Package ladder: open whole; Right, Cost. Package ladder: Cost. aviarylaw06 .. 09: Few. A region that draws its order and whose last operation stands behind all others. Of no program. aviarylaw10.Few. Package hll: tell, done, blank, begin. Package hll: done, blank, begin. -/
import Derived.StillTactics
import Derived.Laws.Rows
import Derived.Test.YtafhpamnegmilaaGreatDoorYL4
import Derived.Test.YtafhpamnegmilaaGreatDoorYXJ
set_option maxHeartbeats 4000000
set_option maxRecDepth 100000
namespace Go.Proofs.YtafhpamnegmilaaGreatDoor
open Go Go.RowKit
theorem jpC (x:Sk) (s:SS) (body:Value) (w:World) (N:s.At w.heap.size w x) (G:x.kind=1) (Q:x.level<0) :
  Calls Tryz.prog 74 #[.agg #[.int .i64 x.kind,.int .i64 x.level,.slice s.ea s.el s.ec,.int .i64 x.hb,.string x.hr,.int .i64 x.cr,.int .i64 x.cc,.slice s.ca s.cl s.cc,.int .i64 x.gf,.slice s.ga s.gl s.gc]] w (jbS false body x w):=by
 obtain⟨B,C,M⟩:=jdp N;have F:=Lib.hid M;have E:=Lib.hid G;rw[G] at C ⊢;have a:decide (x.level<0)=true:=by simpa using Q
 clear N M G;go_enter Tryz.func74,Tryz.ntmps74;go_wp2_with fail;clear C;have P:B.cell? ⟨w.heap.size,0,none⟩=some (.int .i64 1):=by rw[<- E.out];exact cCc F.out.box 0
 have O:∀ W,Bw B W->W.cell? ⟨w.heap.size,0,none⟩=some (.int .i64 1)/\Bw B W:=fun W h=>⟨by rw[<- E.out];exact cCc (F.out.go h).box 0,h⟩
 have L:=Lib.hid O;clear O
 go_region_held3 (fun w'=>w'.cell? ⟨w.heap.size,0,none⟩=some (.int .i64 1)/\Bw B w')
  (first
   | exact L.out _ (Below.refl _ _).drew
   | (go_split_ands;refine L.out _ ?_;first | assumption | exact Below.trans (by assumption) (Below.mono (by assumption) (Below.size (by assumption)))))
  (first
   | (go_at_call 125;refine (jct _).mono ?_;rintro e J ⟨r,rfl,hr,D⟩;have H:=jop hr;have I:Bw B J:=(by go_split_ands;exact Below.trans (by assumption) (Below.mono D (Below.size (by assumption))))))
 have A:=F.out.go I;have R:J.cell? ⟨w.heap.size,0,none⟩=some (.int .i64 1):=by rw[<- E.out];exact cCc A.box 0
 have S:J.cell? ⟨w.heap.size,1,none⟩=some (.int .i64 x.level):=cCc A.box 1;clear H hr D P;go_wp2_with fail;go_quiet (fail);obtain⟨X,Y,Z⟩:=cl3 A.res;obtain⟨T,U,V⟩:=cz3 A.res;go_wp2_with fail;exact ja1 (A.go (bDr (Below.refl _ _) _)) rfl rfl
theorem jpD (x:Sk) (s:SS) (body:Value) (w:World) (P:s.At w.heap.size w x) (I:x.kind=1) (U:4<x.level) :
  Calls Tryz.prog 74 #[.agg #[.int .i64 x.kind,.int .i64 x.level,.slice s.ea s.el s.ec,.int .i64 x.hb,.string x.hr,.int .i64 x.cr,.int .i64 x.cc,.slice s.ca s.cl s.cc,.int .i64 x.gf,.slice s.ga s.gl s.gc]] w (jbS false body x w):=by
 obtain⟨B,C,O⟩:=jdp P;have H:=Lib.hid O;have G:=Lib.hid I;rw[I] at C ⊢;have f:decide (x.level<0)=false:=by simp;omega
 have g:decide ((4:Int)<x.level)=true:=by simpa using U
 have E:∀ w,Calls Tryz.prog 126 #[.int .i64 1] w fun e w'=>e=.returned (.int .i64 4)/\w'=w:=fun w=>(jb1 1 w).mono fun e w' ⟨S,T⟩=>⟨S,T.symm⟩
 have F:=Lib.hid E;clear E;clear P O I;go_enter Tryz.func74,Tryz.ntmps74;go_wp2_with fail;clear C;have R:B.cell? ⟨w.heap.size,0,none⟩=some (.int .i64 1):=by rw[<- G.out];exact cCc H.out.box 0
 have Q:∀ W,Bw B W->W.cell? ⟨w.heap.size,0,none⟩=some (.int .i64 1)/\Bw B W:=fun W h=>⟨by rw[<- G.out];exact cCc (H.out.go h).box 0,h⟩
 have N:=Lib.hid Q;clear Q
 go_region_held3 (fun w'=>w'.cell? ⟨w.heap.size,0,none⟩=some (.int .i64 1)/\Bw B w')
  (first
   | exact N.out _ (Below.refl _ _).drew
   | (go_split_ands;refine N.out _ ?_;first | assumption | exact Below.trans (by assumption) (Below.mono (by assumption) (Below.size (by assumption)))))
  (first
   | (go_at_call 125;refine (jct _).mono ?_;rintro e M ⟨r,rfl,hr,D⟩;have J:=jop hr;have L:Bw B M:=(by go_split_ands;exact Below.trans (by assumption) (Below.mono D (Below.size (by assumption))))))
 have A:=H.out.go L;have V:M.cell? ⟨w.heap.size,0,none⟩=some (.int .i64 1):=by rw[<- G.out];exact cCc A.box 0
 have X:M.cell? ⟨w.heap.size,1,none⟩=some (.int .i64 x.level):=cCc A.box 1;clear J hr D R;go_wp2_with fail;go_quiet ((go_at_call 126;exact Calls.quiet_of_same (F.out _)));obtain⟨b,c,d⟩:=cl3 A.res;obtain⟨Y,Z,a⟩:=cz3 A.res;go_wp2_with fail;exact ja1 (A.go (bDr (Below.refl _ _) _)) rfl rfl
theorem jpE (x:Sk) (s:SS) (body:Value) (w:World) (N:s.At w.heap.size w x) (G:x.kind=2) (Q:x.level<0) :
  Calls Tryz.prog 74 #[.agg #[.int .i64 x.kind,.int .i64 x.level,.slice s.ea s.el s.ec,.int .i64 x.hb,.string x.hr,.int .i64 x.cr,.int .i64 x.cc,.slice s.ca s.cl s.cc,.int .i64 x.gf,.slice s.ga s.gl s.gc]] w (jbS false body x w):=by
 obtain⟨B,C,M⟩:=jdp N;have F:=Lib.hid M;have E:=Lib.hid G;rw[G] at C ⊢;have a:decide (x.level<0)=true:=by simpa using Q
 clear N M G;go_enter Tryz.func74,Tryz.ntmps74;go_wp2_with fail;clear C;have P:B.cell? ⟨w.heap.size,0,none⟩=some (.int .i64 2):=by rw[<- E.out];exact cCc F.out.box 0
 have O:∀ W,Bw B W->W.cell? ⟨w.heap.size,0,none⟩=some (.int .i64 2)/\Bw B W:=fun W h=>⟨by rw[<- E.out];exact cCc (F.out.go h).box 0,h⟩
 have L:=Lib.hid O;clear O
 go_region_held3 (fun w'=>w'.cell? ⟨w.heap.size,0,none⟩=some (.int .i64 2)/\Bw B w')
  (first
   | exact L.out _ (Below.refl _ _).drew
   | (go_split_ands;refine L.out _ ?_;first | assumption | exact Below.trans (by assumption) (Below.mono (by assumption) (Below.size (by assumption)))))
  (first
   | (go_at_call 125;refine (jct _).mono ?_;rintro e J ⟨r,rfl,hr,D⟩;have H:=jrn hr;have I:Bw B J:=(by go_split_ands;exact Below.trans (by assumption) (Below.mono D (Below.size (by assumption))))))
 have A:=F.out.go I;have R:J.cell? ⟨w.heap.size,0,none⟩=some (.int .i64 2):=by rw[<- E.out];exact cCc A.box 0
 have S:J.cell? ⟨w.heap.size,1,none⟩=some (.int .i64 x.level):=cCc A.box 1;clear H hr D P;go_wp2_with fail;go_quiet (fail);obtain⟨X,Y,Z⟩:=cl3 A.res;obtain⟨T,U,V⟩:=cz3 A.res;go_wp2_with fail;exact ja1 (A.go (bDr (Below.refl _ _) _)) rfl rfl
theorem jpF (x:Sk) (s:SS) (body:Value) (w:World) (P:s.At w.heap.size w x) (I:x.kind=2) (U:3<x.level) :
  Calls Tryz.prog 74 #[.agg #[.int .i64 x.kind,.int .i64 x.level,.slice s.ea s.el s.ec,.int .i64 x.hb,.string x.hr,.int .i64 x.cr,.int .i64 x.cc,.slice s.ca s.cl s.cc,.int .i64 x.gf,.slice s.ga s.gl s.gc]] w (jbS false body x w):=by
 obtain⟨B,C,O⟩:=jdp P;have H:=Lib.hid O;have G:=Lib.hid I;rw[I] at C ⊢;have f:decide (x.level<0)=false:=by simp;omega
 have g:decide ((3:Int)<x.level)=true:=by simpa using U
 have E:∀ w,Calls Tryz.prog 126 #[.int .i64 2] w fun e w'=>e=.returned (.int .i64 3)/\w'=w:=fun w=>(jb1 2 w).mono fun e w' ⟨S,T⟩=>⟨S,T.symm⟩
 have F:=Lib.hid E;clear E;clear P O I;go_enter Tryz.func74,Tryz.ntmps74;go_wp2_with fail;clear C;have R:B.cell? ⟨w.heap.size,0,none⟩=some (.int .i64 2):=by rw[<- G.out];exact cCc H.out.box 0
 have Q:∀ W,Bw B W->W.cell? ⟨w.heap.size,0,none⟩=some (.int .i64 2)/\Bw B W:=fun W h=>⟨by rw[<- G.out];exact cCc (H.out.go h).box 0,h⟩
 have N:=Lib.hid Q;clear Q
 go_region_held3 (fun w'=>w'.cell? ⟨w.heap.size,0,none⟩=some (.int .i64 2)/\Bw B w')
  (first
   | exact N.out _ (Below.refl _ _).drew
   | (go_split_ands;refine N.out _ ?_;first | assumption | exact Below.trans (by assumption) (Below.mono (by assumption) (Below.size (by assumption)))))
  (first
   | (go_at_call 125;refine (jct _).mono ?_;rintro e M ⟨r,rfl,hr,D⟩;have J:=jrn hr;have L:Bw B M:=(by go_split_ands;exact Below.trans (by assumption) (Below.mono D (Below.size (by assumption))))))
 have A:=H.out.go L;have V:M.cell? ⟨w.heap.size,0,none⟩=some (.int .i64 2):=by rw[<- G.out];exact cCc A.box 0
 have X:M.cell? ⟨w.heap.size,1,none⟩=some (.int .i64 x.level):=cCc A.box 1;clear J hr D R;go_wp2_with fail;go_quiet ((go_at_call 126;exact Calls.quiet_of_same (F.out _)));obtain⟨b,c,d⟩:=cl3 A.res;obtain⟨Y,Z,a⟩:=cz3 A.res;go_wp2_with fail;exact ja1 (A.go (bDr (Below.refl _ _) _)) rfl rfl
theorem jpG (x:Sk) (s:SS) (body:Value) (w:World) (N:s.At w.heap.size w x) (G:x.kind=3) (Q:x.level<0) :
  Calls Tryz.prog 74 #[.agg #[.int .i64 x.kind,.int .i64 x.level,.slice s.ea s.el s.ec,.int .i64 x.hb,.string x.hr,.int .i64 x.cr,.int .i64 x.cc,.slice s.ca s.cl s.cc,.int .i64 x.gf,.slice s.ga s.gl s.gc]] w (jbS false body x w):=by
 obtain⟨B,C,M⟩:=jdp N;have F:=Lib.hid M;have E:=Lib.hid G;rw[G] at C ⊢;have a:decide (x.level<0)=true:=by simpa using Q
 clear N M G;go_enter Tryz.func74,Tryz.ntmps74;go_wp2_with fail;clear C;have P:B.cell? ⟨w.heap.size,0,none⟩=some (.int .i64 3):=by rw[<- E.out];exact cCc F.out.box 0
 have O:∀ W,Bw B W->W.cell? ⟨w.heap.size,0,none⟩=some (.int .i64 3)/\Bw B W:=fun W h=>⟨by rw[<- E.out];exact cCc (F.out.go h).box 0,h⟩
 have L:=Lib.hid O;clear O
 go_region_held3 (fun w'=>w'.cell? ⟨w.heap.size,0,none⟩=some (.int .i64 3)/\Bw B w')
  (first
   | exact L.out _ (Below.refl _ _).drew
   | (go_split_ands;refine L.out _ ?_;first | assumption | exact Below.trans (by assumption) (Below.mono (by assumption) (Below.size (by assumption)))))
  (first
   | (go_at_call 125;refine (jct _).mono ?_;rintro e J ⟨r,rfl,hr,D⟩;have H:=jro hr;have I:Bw B J:=(by go_split_ands;exact Below.trans (by assumption) (Below.mono D (Below.size (by assumption))))))
 have A:=F.out.go I;have R:J.cell? ⟨w.heap.size,0,none⟩=some (.int .i64 3):=by rw[<- E.out];exact cCc A.box 0
 have S:J.cell? ⟨w.heap.size,1,none⟩=some (.int .i64 x.level):=cCc A.box 1;clear H hr D P;go_wp2_with fail;go_quiet (fail);obtain⟨X,Y,Z⟩:=cl3 A.res;obtain⟨T,U,V⟩:=cz3 A.res;go_wp2_with fail;exact ja1 (A.go (bDr (Below.refl _ _) _)) rfl rfl
theorem jpH (x:Sk) (s:SS) (body:Value) (w:World) (P:s.At w.heap.size w x) (I:x.kind=3) (U:3<x.level) :
  Calls Tryz.prog 74 #[.agg #[.int .i64 x.kind,.int .i64 x.level,.slice s.ea s.el s.ec,.int .i64 x.hb,.string x.hr,.int .i64 x.cr,.int .i64 x.cc,.slice s.ca s.cl s.cc,.int .i64 x.gf,.slice s.ga s.gl s.gc]] w (jbS false body x w):=by
 obtain⟨B,C,O⟩:=jdp P;have H:=Lib.hid O;have G:=Lib.hid I;rw[I] at C ⊢;have f:decide (x.level<0)=false:=by simp;omega
 have g:decide ((3:Int)<x.level)=true:=by simpa using U
 have E:∀ w,Calls Tryz.prog 126 #[.int .i64 3] w fun e w'=>e=.returned (.int .i64 3)/\w'=w:=fun w=>(jb1 3 w).mono fun e w' ⟨S,T⟩=>⟨S,T.symm⟩
 have F:=Lib.hid E;clear E;clear P O I;go_enter Tryz.func74,Tryz.ntmps74;go_wp2_with fail;clear C;have R:B.cell? ⟨w.heap.size,0,none⟩=some (.int .i64 3):=by rw[<- G.out];exact cCc H.out.box 0
 have Q:∀ W,Bw B W->W.cell? ⟨w.heap.size,0,none⟩=some (.int .i64 3)/\Bw B W:=fun W h=>⟨by rw[<- G.out];exact cCc (H.out.go h).box 0,h⟩
 have N:=Lib.hid Q;clear Q
 go_region_held3 (fun w'=>w'.cell? ⟨w.heap.size,0,none⟩=some (.int .i64 3)/\Bw B w')
  (first
   | exact N.out _ (Below.refl _ _).drew
   | (go_split_ands;refine N.out _ ?_;first | assumption | exact Below.trans (by assumption) (Below.mono (by assumption) (Below.size (by assumption)))))
  (first
   | (go_at_call 125;refine (jct _).mono ?_;rintro e M ⟨r,rfl,hr,D⟩;have J:=jro hr;have L:Bw B M:=(by go_split_ands;exact Below.trans (by assumption) (Below.mono D (Below.size (by assumption))))))
 have A:=H.out.go L;have V:M.cell? ⟨w.heap.size,0,none⟩=some (.int .i64 3):=by rw[<- G.out];exact cCc A.box 0
 have X:M.cell? ⟨w.heap.size,1,none⟩=some (.int .i64 x.level):=cCc A.box 1;clear J hr D R;go_wp2_with fail;go_quiet ((go_at_call 126;exact Calls.quiet_of_same (F.out _)));obtain⟨b,c,d⟩:=cl3 A.res;obtain⟨Y,Z,a⟩:=cz3 A.res;go_wp2_with fail;exact ja1 (A.go (bDr (Below.refl _ _) _)) rfl rfl
def ja9 (x:Sk):Sk:=if x.kind==1 then (if x.level==0 then jaQ 1 x.level x.e else jbl 1 x.level x.hb x.hr) else if x.kind==2 then jba 2 x.level x.cr x.cc x.cl else jbv 3 x.level x.gf x.gl
def jcc (x:Sk):Bool:=decide (1<=x.kind)&&decide (x.kind<=3)&&(decide (0<=x.level)&&decide (x.level<=jaF x.kind))&&(jaM x&&jaw x (ja9 x))
def jcl (x:Sk) (s:SS):Value :=
 if x.kind==1 then (if x.level==0 then .iface 234 (.agg #[.slice s.ea s.el s.ec]) else .iface 236 (.agg #[.int .i64 x.hb,.string x.hr]))
 else if x.kind==2 then .iface 237 (.agg #[.int .i64 x.cr,.int .i64 x.cc,.slice s.ca s.cl s.cc]) else .iface 239 (.agg #[.int .i64 x.gf,.slice s.ga s.gl s.gc])
theorem jmr (x:Sk) (s:SS):∃ T v,jcl x s=.iface T v:=by
 unfold jcl;split
 ·split<;>exact⟨_,_,rfl⟩
 ·split<;>exact⟨_,_,rfl⟩
def SS.Short (s:SS):Prop:=s.el<2147483648/\s.cl<2147483648/\s.gl<2147483648
def Sk.fit (x:Sk):Prop:=∀ b∈x.gl,b.1<=9223372036854775807
theorem jeo (x:Sk) (s:SS) (w:World) (D:s.At w.heap.size w x) (T:s.Short) (S:x.fit) :
  Calls Tryz.prog 74 #[.agg #[.int .i64 x.kind,.int .i64 x.level,.slice s.ea s.el s.ec,.int .i64 x.hb,.string x.hr,.int .i64 x.cr,.int .i64 x.cc,.slice s.ca s.cl s.cc,.int .i64 x.gf,.slice s.ga s.gl s.gc]] w (jbS (jcc x) (jcl x s) x w):=by
 obtain⟨P,Q,R⟩:=T;by_cases E:x.kind=1
 ·have G:jaF x.kind=4:=by rw[E];rfl
  by_cases N:x.level<0
  ·have:jcc x=false:=by unfold jcc;rw[decide_eq_false (show ¬ 0<=x.level by omega)];simp
   rw[this];exact jpC x s _ w D E N
  by_cases O:4<x.level
  ·have:jcc x=false:=by unfold jcc;rw[G,decide_eq_false (show ¬ x.level<=4 by omega)];simp
   rw[this];exact jpD x s _ w D E O
  have B:(x.kind==1)=true:=beq_iff_eq.2 E;have C:jcc x=(jaM x&&jaw x (ja9 x)):=by unfold jcc;rw[G,E,decide_eq_true (show 0<=x.level by omega),decide_eq_true (show x.level<=4 by omega)];simp
  cases F:(x.level==0) with
  | true =>
   have I:jaM x=jaH x.e:=by unfold jaM;rw[B,F];rfl
   have J:ja9 x=jaQ 1 x.level x.e:=by unfold ja9;rw[B,F];rfl
   have L:jcl x s=.iface 234 (.agg #[.slice s.ea s.el s.ec]):=by unfold jcl;rw[B,F];rfl
   rw[C,I,J,L];exact jul x s w D E F P
  | false =>
   have I:jaM x=(jaT x.hb x.hr&&(x.hb==8-x.level)):=by unfold jaM;rw[B,F];rfl
   have J:ja9 x=jbl 1 x.level x.hb x.hr:=by unfold ja9;rw[B,F];rfl
   have L:jcl x s=.iface 236 (.agg #[.int .i64 x.hb,.string x.hr]):=by unfold jcl;rw[B,F];rfl
   rw[C,I,J,L];exact jum x s w D E F (by omega) (by omega)
 by_cases H:x.kind=2
 ·have G:jaF x.kind=3:=by rw[H];rfl
  by_cases N:x.level<0
  ·have:jcc x=false:=by unfold jcc;rw[decide_eq_false (show ¬ 0<=x.level by omega)];simp
   rw[this];exact jpE x s _ w D H N
  by_cases O:3<x.level
  ·have:jcc x=false:=by unfold jcc;rw[G,decide_eq_false (show ¬ x.level<=3 by omega)];simp
   rw[this];exact jpF x s _ w D H O
  have A:(x.kind==1)=false:=beq_eq_false_iff_ne.2 E;have B:(x.kind==2)=true:=beq_iff_eq.2 H;have C:jcc x=(jaM x&&jaw x (ja9 x)):=by unfold jcc;rw[G,H,decide_eq_true (show 0<=x.level by omega),decide_eq_true (show x.level<=3 by omega)];simp
  have I:jaM x=(jaN x.cr x.cc x.cl&&(x.cr==2)&&(x.cc==32 / 2^x.level.toNat)):=by unfold jaM;rw[A,B];rfl
  have J:ja9 x=jba 2 x.level x.cr x.cc x.cl:=by unfold ja9;rw[A,B];rfl
  have L:jcl x s=.iface 237 (.agg #[.int .i64 x.cr,.int .i64 x.cc,.slice s.ca s.cl s.cc]):=by unfold jcl;rw[A,B];rfl
  rw[C,I,J,L];exact juk x s w D H (by omega) (by omega) Q
 by_cases M:x.kind=3
 ·have G:jaF x.kind=3:=by rw[M];rfl
  by_cases N:x.level<0
  ·have:jcc x=false:=by unfold jcc;rw[decide_eq_false (show ¬ 0<=x.level by omega)];simp
   rw[this];exact jpG x s _ w D M N
  by_cases O:3<x.level
  ·have:jcc x=false:=by unfold jcc;rw[G,decide_eq_false (show ¬ x.level<=3 by omega)];simp
   rw[this];exact jpH x s _ w D M O
  have A:(x.kind==1)=false:=beq_eq_false_iff_ne.2 E;have B:(x.kind==2)=false:=beq_eq_false_iff_ne.2 H;have C:jcc x=(jaM x&&jaw x (ja9 x)):=by unfold jcc;rw[G,M,decide_eq_true (show 0<=x.level by omega),decide_eq_true (show x.level<=3 by omega)];simp
  have I:jaM x=(jaP x.gf x.gl&&(x.gf==3-x.level)):=by unfold jaM;rw[A,B];rfl
  have J:ja9 x=jbv 3 x.level x.gf x.gl:=by unfold ja9;rw[A,B];rfl
  have L:jcl x s=.iface 239 (.agg #[.int .i64 x.gf,.slice s.ga s.gl s.gc]):=by unfold jcl;rw[A,B];rfl
  rw[C,I,J,L];exact juj x s w D M (by omega) (by omega) R S
 ·have:jcc x=false:=by
   unfold jcc;have:(decide (1<=x.kind)&&decide (x.kind<=3))=false:=by rw[Bool.and_eq_false_iff,decide_eq_false_iff_not,decide_eq_false_iff_not];omega
   rw[this];rfl
  rw[this];exact jrJ x s _ w D (beq_eq_false_iff_ne.2 E) (beq_eq_false_iff_ne.2 H) (beq_eq_false_iff_ne.2 M)
theorem jhl (x:Sk) (s:SS) (w:World) (L:s.At w.heap.size w x) (a:s.Short) (Z:x.fit) :
  CR 94 #[.agg #[.int .i64 x.kind,.int .i64 x.level,.slice s.ea s.el s.ec,.int .i64 x.hb,.string x.hr,.int .i64 x.cr,.int .i64 x.cc,.slice s.ca s.cl s.cc,.int .i64 x.gf,.slice s.ga s.gl s.gc]] w (.bool (jcc x)):=by
 obtain⟨M,G,D,B,I⟩:=jaf w #[.int .i64 x.kind,.int .i64 x.level,.slice s.ea s.el s.ec,.int .i64 x.hb,.string x.hr,.int .i64 x.cr,.int .i64 x.cc,.slice s.ca s.cl s.cc,.int .i64 x.gf,.slice s.ga s.gl s.gc] 41;obtain⟨N,O,P,Q,R,S,U,V,X,Y⟩:=jam D;have J:=jeo x s M (L.go B) a Z;clear L D I;go_enter Tryz.func94,Tryz.ntmps94;go_wp2_with fail;refine J.mono ?_;rintro e c ⟨F,H⟩;clear G J N O P Q R S U V X Y;have A:=B.trans (H.mono B.size);generalize hok:jcc x=ok at F;have C:=Lib.hid hok;clear hok
 cases ok with
 | true =>
  obtain⟨T,v,E⟩:=jmr x s;rw[E] at F;clear E;obtain rfl:=(show e=_ from F);clear F;go_wp2_with fail;go_ret;exact⟨by rw[C.out];rfl,A.alloc A.size _⟩
 | false =>
  obtain⟨b,rfl,-,-⟩:=(show ∃ b,_ from F);go_wp2_with fail;go_ret;exact⟨by rw[C.out];rfl,A.alloc A.size _⟩
def jcy (x:Sk):Int:=if jcc x then (if x.kind==1 then (if x.level==0 then 8*(x.e.length:Int) else (x.hr.size:Int)) else if x.kind==2 then 8*(x.cl.length:Int) else 16*(x.gl.length:Int))+16 else 0
theorem jsr:Tryz.prog.underlying 32=some (.struct (Tryz.prog.fieldsOf 32)):=by kernel_rfl
theorem jpQ:(Tryz.prog.info? 32).map (·.size)=some 1:=by kernel_rfl
theorem jwj:Tryz.prog.underlying 34=some (.struct (Tryz.prog.fieldsOf 34)):=by kernel_rfl
theorem juC:(Tryz.prog.info? 34).map (·.size)=some 2:=by kernel_rfl
theorem jwi:Tryz.prog.underlying 36=some (.struct (Tryz.prog.fieldsOf 36)):=by kernel_rfl
theorem juB:(Tryz.prog.info? 36).map (·.size)=some 3:=by kernel_rfl
theorem juL:Tryz.prog.underlying 39=some (.struct (Tryz.prog.fieldsOf 39)):=by kernel_rfl
theorem jr0:(Tryz.prog.info? 39).map (·.size)=some 2:=by kernel_rfl
theorem jcI {W:World} {B:Nat} {x y z u v q:Value} {t:TypeId} (h:W.heap[B]? = some (.cells #[x,y,z] t (0,0))):(((W.setCell ⟨B,0,none⟩ u).setCell ⟨B,1,none⟩ v).setCell ⟨B,2,none⟩ q).heap[B]? = some (.cells #[u,v,q] t (0,0)):=hSk (hSk (hSk h u) v) q
theorem jnn (len n:Nat):(min (len:Int) n).toNat=min len n:=by omega
theorem jqQ (a:Option Addr) (len cap:Nat) (w:World) (H:len<=cap) :
  CR 101 #[.agg #[.slice a len cap]] w (.agg #[.slice a (min len 70) cap]):=by
 obtain⟨E,F,B,A,C⟩:=jaf w #[.slice a len cap] 32;have G:E.cell? ⟨w.heap.size,0,none⟩=some (.slice a len cap):=cCc B 0;have D:=Lib.hid (jnn len 70);go_enter Tryz.func101,Tryz.ntmps101;go_wp2_with fail;refine bodyPost_ret (results_cell_row rfl _ _ (w.heap.size+1) 32 #[.slice a (min (len:Int) 70).toNat cap] (0,0) _ rfl (by rw[<- C];exact World.alloc_heap_new _ _) jsr rfl jpQ) rfl ⟨by rw[<- D.out];rfl,A.alloc A.size _⟩
theorem jqR (b:Int) (s:ByteArray) (w:World) :
  CR 102 #[.agg #[.int .i64 b,.string s]] w (.agg #[.int .i64 b,.string (jmX 260 s)]):=by
 obtain⟨B,E,D,A,C,F⟩:=jaI w #[.int .i64 b,.string s] 34 #[.int .i64 0,.string ⟨#[]⟩] 34;obtain⟨G,H⟩:=cl2 D;have I:B.cell? ⟨w.heap.size+1,0,none⟩=some (.int .i64 0):=cCc A 0;have L:B.frozen? ⟨w.heap.size+1,0,none⟩=false:=Lib.frozen_of_heap A 0;have J:B.cell? ⟨w.heap.size+1,1,none⟩=some (.string ⟨#[]⟩):=cCc A 1;have M:B.frozen? ⟨w.heap.size+1,1,none⟩=false:=Lib.frozen_of_heap A 1;have N:0<=min (s.size:Int) 260:=by omega
 have O:min (s.size:Int) 260<=s.size:=by omega
 go_enter Tryz.func102,Tryz.ntmps102;go_wp2_with fail;go_region;go_wp2_with fail;refine bodyPost_ret (results_cell_row rfl _ _ (w.heap.size+1) 34 #[.int .i64 b,.string (s.extract 0 (min (s.size:Int) 260).toNat)] (0,0) _ rfl (jbB A) jwj rfl juC) rfl ⟨rfl,Below.drew (((C.setCell (p:=⟨w.heap.size+1,0,none⟩) (Nat.le_succ _) _).setCell (p:=⟨w.heap.size+1,1,none⟩) (Nat.le_succ _) _))⟩
theorem jqS (r c:Int) (a:Option Addr) (len cap:Nat) (w:World) (R:len<=cap) :
  CR 103 #[.agg #[.int .i64 r,.int .i64 c,.slice a len cap]] w (.agg #[.int .i64 r,.int .i64 c,.slice a (min len 200) cap]):=by
 obtain⟨B,F,D,A,C,G⟩:=jaI w #[.int .i64 r,.int .i64 c,.slice a len cap] 36 #[.int .i64 0,.int .i64 0,.slice none 0 0] 36;obtain⟨H,I,J⟩:=cl3 D;have L:B.cell? ⟨w.heap.size+1,0,none⟩=some (.int .i64 0):=cCc A 0;have O:B.frozen? ⟨w.heap.size+1,0,none⟩=false:=Lib.frozen_of_heap A 0;have M:B.cell? ⟨w.heap.size+1,1,none⟩=some (.int .i64 0):=cCc A 1;have P:B.frozen? ⟨w.heap.size+1,1,none⟩=false:=Lib.frozen_of_heap A 1;have N:B.cell? ⟨w.heap.size+1,2,none⟩=some (.slice none 0 0):=cCc A 2;have Q:B.frozen? ⟨w.heap.size+1,2,none⟩=false:=Lib.frozen_of_heap A 2;have S:0<=min (len:Int) 200:=by omega
 have T:min (len:Int) 200<=cap:=by omega
 have E:=Lib.hid (jnn len 200);go_enter Tryz.func103,Tryz.ntmps103;go_wp2_with fail;go_region;go_wp2_with fail;refine bodyPost_ret (results_cell_row rfl _ _ (w.heap.size+1) 36 #[.int .i64 r,.int .i64 c,.slice a (min (len:Int) 200).toNat cap] (0,0) _ rfl (jcI A) jwi rfl juB) rfl ⟨by rw[<- E.out];rfl,Below.drew ((((C.setCell (p:=⟨w.heap.size+1,0,none⟩) (Nat.le_succ _) _).setCell (p:=⟨w.heap.size+1,1,none⟩) (Nat.le_succ _) _).setCell (p:=⟨w.heap.size+1,2,none⟩) (Nat.le_succ _) _))⟩
theorem jqT (f:Int) (a:Option Addr) (len cap:Nat) (w:World) (O:len<=cap) :
  CR 104 #[.agg #[.int .i64 f,.slice a len cap]] w (.agg #[.int .i64 f,.slice a (min len 300) cap]):=by
 obtain⟨B,F,D,A,C,G⟩:=jaI w #[.int .i64 f,.slice a len cap] 39 #[.int .i64 0,.slice none 0 0] 39;obtain⟨H,I⟩:=cl2 D;have J:B.cell? ⟨w.heap.size+1,0,none⟩=some (.int .i64 0):=cCc A 0;have M:B.frozen? ⟨w.heap.size+1,0,none⟩=false:=Lib.frozen_of_heap A 0;have L:B.cell? ⟨w.heap.size+1,1,none⟩=some (.slice none 0 0):=cCc A 1;have N:B.frozen? ⟨w.heap.size+1,1,none⟩=false:=Lib.frozen_of_heap A 1;have P:0<=min (len:Int) 300:=by omega
 have Q:min (len:Int) 300<=cap:=by omega
 have E:=Lib.hid (jnn len 300);go_enter Tryz.func104,Tryz.ntmps104;go_wp2_with fail;go_region;go_wp2_with fail;refine bodyPost_ret (results_cell_row rfl _ _ (w.heap.size+1) 39 #[.int .i64 f,.slice a (min (len:Int) 300).toNat cap] (0,0) _ rfl (jbB A) juL rfl jr0) rfl ⟨by rw[<- E.out];rfl,Below.drew (((C.setCell (p:=⟨w.heap.size+1,0,none⟩) (Nat.le_succ _) _).setCell (p:=⟨w.heap.size+1,1,none⟩) (Nat.le_succ _) _))⟩
section
section
variable {P:Program} {pre:Array Oper} {o:Oper} {Q:Exit->Act->World->Prop} {md:Region.Mode}
def jt0 (md:Region.Mode) (pre:Array Oper) (o:Oper):Bool :=
 o.guard.isNone&&pre.toList.all (·.guard.isNone) &&
 (List.range pre.size).all (fun j=>o.after.toList.any fun e=>Region.binds md e&&e.on==j) &&
 o.after.toList.all (fun e => !Region.binds md e||decide (e.on<pre.size)) &&
 (List.range pre.size).all (fun i=>((pre[i]?).map fun p=>p.after.toList.all fun e => !Region.binds md e||decide (e.on<i)).getD true)
def jt2 (P:Program) (o:Oper) (Q:Exit->Act->World->Prop):Exit->Act->World->Prop
 | .normal,a,w=>o.wp P a w (fun a' w'=>Q .normal a' w') Q
 | e,a,w=>Q e a w
theorem juO {A:Oper} {a:Act} {w:World} {K:Act->World->Prop} (h:A.wp P a w K (jt2 P o Q)):A.wp P a w K Q:=by
 unfold Oper.wp at *;generalize (execOp a.eval A).run P w=r at *
 cases r with
 | ok n w' =>
  cases n<;>simp only[Oper.upon] at h ⊢ <;>
   first
    | exact h
    | exact Calls.mono h (fun e C B=>by cases e<;>first | exact B | exact (let ⟨a,w,hq⟩:=B;⟨a,w,hq⟩))
 | halt x w'=>cases x<;>simp only[Oper.upon] at h ⊢<;>exact h
theorem jcV {A:Array Oper} {L:Array Bool} {i:Nat}:i∈Region.ready md A L↔i<A.size/\L.getD i true=false/\∃ p,A[i]? = some p/\∀ e∈p.after,Region.binds md e=true->L.getD e.on false=true:=by
 unfold Region.ready;rw[List.mem_filter,List.mem_range];constructor
 ·rintro⟨C,D⟩
  rw[Bool.and_eq_true] at D;refine⟨C,by simpa using D.1,A[i],Array.getElem?_eq_getElem C,?_⟩;have B:=D.2;rw[Array.getElem?_eq_getElem C] at B;simp only[Option.map_some,Option.getD_some] at B;rw[Array.all_eq_true_iff_forall_mem] at B;intro e F E;have:=B e F;simpa [E] using this
 ·rintro⟨C,D,p,G,B⟩
  refine⟨C,?_⟩;rw[Bool.and_eq_true];refine⟨by simp[D],?_⟩;rw[G];simp only[Option.map_some,Option.getD_some];rw[Array.all_eq_true_iff_forall_mem];intro e F
  cases E:Region.binds md e
  ·rfl
  ·simpa using B e F E
structure jk9 (md:Region.Mode) (pre:Array Oper) (o:Oper):Prop where
 go:o.guard=none
 gp:∀ (i:Nat) p,pre[i]? = some p->p.guard=none
 last:∀ j,j<pre.size->∃ e∈o.after,Region.binds md e=true/\e.on=j
 lt:∀ e∈o.after,Region.binds md e=true->e.on<pre.size
 lex:∀ (i:Nat) p,pre[i]? = some p->∀ e∈p.after,Region.binds md e=true->e.on<i
theorem jt1 (h:jt0 md pre o=true):jk9 md pre o:=by
 simp only[jt0,Bool.and_eq_true,List.all_eq_true,List.any_eq_true,List.mem_range] at h;obtain⟨⟨⟨⟨D,E⟩,F⟩,G⟩,H⟩:=h;refine⟨by simpa using D,fun i p C=>?_,fun j J=>?_,fun e B A=>?_,fun i p C e B A=>?_⟩
 ·have:=E p (by rw[<- Array.getElem?_toList] at C;exact List.mem_of_getElem? C)
  simpa using this
 ·obtain⟨e,B,A,L⟩:=F j J
  exact⟨e,by simpa using B,A,by simpa using L⟩
 ·have:=G e (by simpa using B)
  simpa [A] using this
 ·have I:=(Array.getElem?_eq_some_iff.1 C).1
  have:=H i I;rw[C] at this;simp only[Option.map_some,Option.getD_some,List.all_eq_true] at this;have:=this e (by simpa using B);simpa [A] using this
theorem jeD (L:Array Bool) (n:Nat):(L.push false).getD n false=L.getD n false:=by
 simp only[Array.getD_eq_getD_getElem?,Array.getElem?_push];split
 ·rename_i h;subst h;simp
 ·rfl
theorem jrU {L:Array Bool} (E:jk9 md pre o) (H:L.size=pre.size) (h:Region.ready md pre L=[]):∀ j,j<pre.size->L.getD j false=true:=by
 intro j
 induction j using Nat.strongRecOn with
 | ind j ih =>
  intro A
  cases G:L.getD j false with
  | true=>rfl
  | false =>
   exfalso
   have F:j∈Region.ready md pre L:=jcV.2 ⟨A,by
    have B:j<L.size:=by omega
    simp only[Array.getD_eq_getD_getElem?,Array.getElem?_eq_getElem B,Option.getD_some] at G ⊢;exact G,pre[j],Array.getElem?_eq_getElem A,fun e D C=>ih e.on (E.lex j _ (Array.getElem?_eq_getElem A) e D C) (by have:=E.lex j _ (Array.getElem?_eq_getElem A) e D C;omega)⟩
   rw[h] at F
   cases F
theorem jrV {L:Array Bool} (G:L.size=pre.size) {i:Nat} (h:i∈Region.ready md pre L):i∈Region.ready md (pre.push o) (L.push false):=by
 obtain⟨F,A,p,E,B⟩:=jcV.1 h;refine jcV.2 ⟨by simp;omega,?_,p,?_,fun e D C=>by rw[jeD];exact B e D C⟩
 ·have:i≠L.size:=by omega
  simpa [Array.getD_eq_getD_getElem?,Array.getElem?_push,this] using A
 ·rw[Array.getElem?_push,if_neg (by omega)];exact E
theorem joy {L:Array Bool} (I:jk9 md pre o) (M:L.size=pre.size) {i:Nat} (h:i∈Region.ready md (pre.push o) (L.push false)) :
  i∈Region.ready md pre L\/(i=pre.size/\∀ j,j<pre.size->L.getD j false=true):=by
 obtain⟨F,G,p,A,D⟩:=jcV.1 h;by_cases E:i=pre.size
 ·subst E
  rw[Array.getElem?_push_size] at A
  cases A
  refine .inr ⟨rfl,fun j H=>?_⟩;obtain⟨e,C,B,rfl⟩:=I.last j H;rw[<- jeD];exact D e C B
 ·have J:i<pre.size:=by simp at F;omega
  rw[Array.getElem?_push,if_neg E] at A;refine .inl (jcV.2 ⟨J,?_,p,A,fun e C B=>by rw[<- jeD];exact D e C B⟩);have:i≠L.size:=by omega
  simpa [Array.getD_eq_getD_getElem?,Array.getElem?_push,this] using G
theorem jmf {A:Array Oper} {L:Array Bool} (G:L.size=A.size) (h:∀ j,j<A.size->L.getD j false=true):Region.ready md A L=[]:=by
 rw[List.eq_nil_iff_forall_not_mem];intro i F;obtain⟨E,D,_⟩:=jcV.1 F;have B:=h i E;have C:i<L.size:=by omega
 simp only[Array.getD_eq_getD_getElem?,Array.getElem?_eq_getElem C,Option.getD_some] at D B;rw[D] at B
 cases B
theorem jhe {B:Array Oper} {L:Array Bool} {a:Act} {w:World} (h:Region.ready md B L=[]) (D:Q .normal a w):∀ A,wpAny P md B Q A L a w
 | 0=>⟨h,D⟩
 | _+1=>⟨fun _=>D,fun i C=>by rw[h] at C;cases C⟩
theorem jmE {K:Act->World->Prop} {a:Act} {w:World} (A:jk9 md pre o) (hK:∀ a w,Q .normal a w->K a w) (h:jt2 P o Q .normal a w):wpOp P (pre.push o) Q pre.size K a w:=by
 unfold wpOp;rw[Array.getElem?_push_size];simp only[Region.wanted,A.go,if_true];exact .inl (Oper.wp_mono hK h)
theorem jp4 (F:jk9 md pre o) (C:Nat):∀ (L:Array Bool) (a:Act) (w:World),L.size=pre.size->wpAny P md pre (jt2 P o Q) C L a w->wpAny P md (pre.push o) Q (C+1) (L.push false) a w:=by
 have M:∀ L:Array Bool,L.size=pre.size->Region.ready md (pre.push o) (L.push false)≠[]:=fun L B G=>by
  cases hr:Region.ready md pre L with
  | nil =>
   have A:=jrU F B hr;have J:pre.size∈Region.ready md (pre.push o) (L.push false):=jcV.2 ⟨by simp,by simp[Array.getD_eq_getD_getElem?,<- B],o,Array.getElem?_push_size,fun e c Z=>by rw[jeD];exact A _ (F.lt e c Z)⟩;rw[G] at J;cases J
  | cons i r =>
   have J:=jrV (o:=o) B (show i∈Region.ready md pre L by rw[hr];exact List.mem_cons_self ..);rw[G] at J;cases J
 have E:∀ (L:Array Bool),L.size=pre.size->(∀ j,j<pre.size->L.getD j false=true)->Region.ready md (pre.push o) ((L.push false).setIfInBounds pre.size true)=[]:=fun L B A=>by
  refine jmf (by simp[B]) (fun j d=>?_);simp only[Array.getD_eq_getD_getElem?,Array.getElem?_setIfInBounds,Array.size_push];by_cases I:pre.size=j
  ·rw[if_pos I,if_pos (by omega)];rfl
  ·rw[if_neg I]
   have:=A j (by simp at d;omega);rw[<- jeD,Array.getD_eq_getD_getElem?] at this;exact this
 induction C with
 | zero =>
  intro L a w B h;refine⟨fun G=>absurd G (M L B),fun i N=>?_⟩;rcases joy F B N with H | ⟨rfl,A⟩
  ·rw[h.1] at H;cases H
  ·exact jmE F (fun a w S=>jhe (E L B A) S _) h.2
 | succ k ih =>
  intro L a w B h;refine⟨fun G=>absurd G (M L B),fun i N=>?_⟩;rcases joy F B N with H | ⟨rfl,A⟩
  ·have D:=h.2 i H
   obtain⟨f,_,p,O,_⟩:=jcV.1 H;have R:(pre.push o)[i]? = some p:=by rw[Array.getElem?_push,if_neg (by omega)];exact O
   unfold wpOp at D ⊢;rw[O] at D;rw[R];simp only[Region.wanted,F.gp i p O,if_true] at D ⊢;rcases D with D | ⟨D,b,v,X⟩
   ·refine .inl (Oper.wp_mono (fun U w' V=>?_) (juO D))
    have Y:=ih (L.setIfInBounds i true) U w' (by simp[B]) V
    have e:(L.push false).setIfInBounds i true=(L.setIfInBounds i true).push false:=by
     apply Array.ext_getElem?;intro n;simp only[Array.getElem?_setIfInBounds,Array.getElem?_push,Array.size_push,Array.size_setIfInBounds];by_cases T:i=n
     ·subst T
      rw[if_pos rfl,if_pos (by omega),if_neg (by omega),if_pos rfl,if_pos (by omega)]
     ·simp[T]
    rw[e];exact Y
   ·exact .inr ⟨D,b,v,X⟩
  ·refine jmE F (fun a w S=>jhe (E L B A) S _) (h.1 (jmf B A))
end
theorem jfr {P:Program} (A:World->Prop) {U:Nat} {Q:Exit->Act->World->Prop} {a:Act} {w:World} {l:List Oper} {o:Oper} (T:P.follows .mixedOrders=true) (N:Region.lexB .any l.toArray=true) (R:jt0 .any l.toArray o=true) (O:A w.drew)
  (h:wpQuiet P l.toArray (fun w'=>∃ X:WIn A,w'=X.world) (fun G=>∀ w',(∃ X:WIn A,w'=X.world)->o.wp P G w' (fun D F=>Q .normal D F) Q) l a):(Code.region U (l++[o]).toArray true).wp P Q a w:=by
 refine wp_region_any T ?_;have B:=N;simp only[Region.lexB,Bool.and_eq_true] at B;have J:=wpAnyQ_lex (C:=fun w'=>∃ X:WIn A,w'=X.world) (md:=.any) B.1 l 0 (Array.replicate l.toArray.size false) a (by simp) (by simpa using B.2) h;have L:=wpAny_of_quiet (Q':=jt2 P o Q) (fun G w' E S=>S w' E) _ _ _ w.drew ⟨⟨_,O⟩,rfl⟩ J;have M:=jp4 (jt1 R) _ _ _ _ (by simp) L;have H:(l++[o]).toArray=l.toArray.push o:=by simp
 rw[H];have I:Array.replicate (l.toArray.push o).size false=(Array.replicate l.toArray.size false).push false:=by simp[Array.replicate_succ]
 rw[I];simpa using M
end
def Sk.cut (x:Sk):Sk:={ x with e:=x.e.take 70,hr:=jmX 260 x.hr,cl:=x.cl.take 200,gl:=x.gl.take 300 }
def SS.cut (s:SS):SS:={ s with el:=min s.el 70,cl:=min s.cl 200,gl:=min s.gl 300 }
theorem SlC.take_min {α:Type} {enc:α->List Value} {k A:Nat} {w:World} {a:Option Addr} {len cap:Nat} {l:List α} (h:SlC enc k A w a len cap l) (m:Nat):SlC enc k A w a (min len m) cap (l.take m):=by
 have B:=h.take (min len m) (Nat.min_le_left _ _);have C:l.take (min len m)=l.take m:=by rw[h.1.1,Nat.min_comm];exact List.take_eq_take_min.symm
 rwa [C] at B
theorem SS.At.cut {s:SS} {n:Nat} {w:World} {x:Sk} (h:s.At n w x):s.cut.At n w x.cut:=⟨h.e.take_min 70,h.c.take_min 200,h.g.take_min 300⟩
theorem jdD {P:Program} (A:World->Prop) {J:Nat} {Q:Exit->Act->World->Prop} {a:Act} {w:World} {L l:List Oper} {o:Oper} (H:L=l++[o]) (I:P.follows .mixedOrders=true) (E:Region.lexB .any l.toArray=true) (G:jt0 .any l.toArray o=true) (F:A w.drew)
  (h:wpQuiet P l.toArray (fun w'=>∃ X:WIn A,w'=X.world) (fun D=>∀ w',(∃ X:WIn A,w'=X.world)->o.wp P D w' (fun B C=>Q .normal B C) Q) l a):(Code.region J L.toArray true).wp P Q a w:=by
 subst H;exact jfr A I E G F h
theorem jp1:Tryz.prog.underlying 41=some (.struct (Tryz.prog.fieldsOf 41)):=by kernel_rfl
theorem jnM:(Tryz.prog.info? 41).map (·.size)=some 10:=by kernel_rfl
structure FewIn (x:Sk) (s:SS) (w W:World):Prop where
 box:W.heap[w.heap.size]? = some (.cells #[.int .i64 x.kind,.int .i64 x.level,.slice s.ea s.el s.ec,.int .i64 x.hb,.string x.hr,.int .i64 x.cr,.int .i64 x.cc,.slice s.ca s.cl s.cc,.int .i64 x.gf,.slice s.ga s.gl s.gc] 41 (0,0))
 res:W.heap[w.heap.size+1]? = some (.cells #[.int .i64 0,.int .i64 0,.slice none 0 0,.int .i64 0,.string ⟨#[]⟩,.int .i64 0,.int .i64 0,.slice none 0 0,.int .i64 0,.slice none 0 0] 41 (0,0))
 below:Bw w W
theorem FewIn.go {x:Sk} {s:SS} {w W B:World} (h:FewIn x s w W) (A:Bw W B):FewIn x s w B:=⟨jab A (Nat.le_refl _) h.box,jab A (Nat.le_refl _) h.res,h.below.trans (A.mono h.below.size)⟩
theorem jly (x:Sk) (s:SS) (w:World) (h:s.At w.heap.size w x) :
  CR 59 #[jr6 x s] w (jr6 x.cut s.cut):=by
 have Z:=h.e.2.1;have V:=h.c.2.1;have a:=h.g.2.1;unfold jr6;obtain⟨S,P,G,H,F,R⟩:=jaI w #[.int .i64 x.kind,.int .i64 x.level,.slice s.ea s.el s.ec,.int .i64 x.hb,.string x.hr,.int .i64 x.cr,.int .i64 x.cc,.slice s.ca s.cl s.cc,.int .i64 x.gf,.slice s.ga s.gl s.gc] 41 #[.int .i64 0,.int .i64 0,.slice none 0 0,.int .i64 0,.string ⟨#[]⟩,.int .i64 0,.int .i64 0,.slice none 0 0,.int .i64 0,.slice none 0 0] 41;have T:FewIn x s w S:=⟨G,H,F⟩;let Inv:World->Prop:=FewIn x s w;have B:∀ W N,Inv W->Bw W N->Inv N:=fun W N h U=>FewIn.go h U
 have b:∀ X:WIn Inv,X.world.cell? ⟨w.heap.size,0,none⟩=some (.int .i64 x.kind):=fun X=>cCc X.ok.box 0
 have d:∀ X:WIn Inv,X.world.cell? ⟨w.heap.size,1,none⟩=some (.int .i64 x.level):=fun X=>cCc X.ok.box 1
 have f:∀ X:WIn Inv,X.world.cell? ⟨w.heap.size,2,none⟩=some (.slice s.ea s.el s.ec):=fun X=>cCc X.ok.box 2
 have i:∀ X:WIn Inv,X.world.cell? ⟨w.heap.size,3,none⟩=some (.int .i64 x.hb):=fun X=>cCc X.ok.box 3
 have j:∀ X:WIn Inv,X.world.cell? ⟨w.heap.size,4,none⟩=some (.string x.hr):=fun X=>cCc X.ok.box 4
 have k:∀ X:WIn Inv,X.world.cell? ⟨w.heap.size,5,none⟩=some (.int .i64 x.cr):=fun X=>cCc X.ok.box 5
 have m:∀ X:WIn Inv,X.world.cell? ⟨w.heap.size,6,none⟩=some (.int .i64 x.cc):=fun X=>cCc X.ok.box 6
 have n:∀ X:WIn Inv,X.world.cell? ⟨w.heap.size,7,none⟩=some (.slice s.ca s.cl s.cc):=fun X=>cCc X.ok.box 7
 have q:∀ X:WIn Inv,X.world.cell? ⟨w.heap.size,8,none⟩=some (.int .i64 x.gf):=fun X=>cCc X.ok.box 8
 have r:∀ X:WIn Inv,X.world.cell? ⟨w.heap.size,9,none⟩=some (.slice s.ga s.gl s.gc):=fun X=>cCc X.ok.box 9
 have I:Hid (∀ X:WIn Inv,Calls Tryz.prog 101 #[.agg #[.slice s.ea s.el s.ec]] X.world fun e w'=>e=.returned (.agg #[.slice s.ea (min s.el 70) s.ec])/\∃ Y:WIn Inv,w'=Y.world):=fun X=>jac B (jqQ _ _ _ X.world Z)
 have J:Hid (∀ X:WIn Inv,Calls Tryz.prog 102 #[.agg #[.int .i64 x.hb,.string x.hr]] X.world fun e w'=>e=.returned (.agg #[.int .i64 x.hb,.string (jmX 260 x.hr)])/\∃ Y:WIn Inv,w'=Y.world):=fun X=>jac B (jqR _ _ X.world)
 have L:Hid (∀ X:WIn Inv,Calls Tryz.prog 103 #[.agg #[.int .i64 x.cr,.int .i64 x.cc,.slice s.ca s.cl s.cc]] X.world fun e w'=>e=.returned (.agg #[.int .i64 x.cr,.int .i64 x.cc,.slice s.ca (min s.cl 200) s.cc])/\∃ Y:WIn Inv,w'=Y.world):=fun X=>jac B (jqS _ _ _ _ _ X.world V)
 have M:Hid (∀ X:WIn Inv,Calls Tryz.prog 104 #[.agg #[.int .i64 x.gf,.slice s.ga s.gl s.gc]] X.world fun e w'=>e=.returned (.agg #[.int .i64 x.gf,.slice s.ga (min s.gl 300) s.gc])/\∃ Y:WIn Inv,w'=Y.world):=fun X=>jac B (jqT _ _ _ _ X.world a)
 have D:Hid (∀ X:WIn Inv,FewIn x s w X.world):=fun X=>X.ok
 have E:Hid (Inv S.drew):=T.go (Below.refl _ _).drew;have Q:Nonempty (WIn Inv):=⟨⟨_,E.out⟩⟩;clear h T B G H F R;clear_value Inv;go_enter Tryz.func59,Tryz.ntmps59;go_wp2_with fail;refine jdD Inv (l:=[_,_,_,_,_,_,_,_,_,_,_,_,_,_,_,_,_]) (o:=_) rfl (by kernel_rfl) (by kernel_rfl) (by kernel_rfl) E.out ?_
 repeat (first | go_big_quiet_step ((first | (go_at_call 101;with_reducible exact I.out _) | (go_at_call 102;with_reducible exact J.out _) | (go_at_call 103;with_reducible exact L.out _) | (go_at_call 104;with_reducible exact M.out _))) | quiet_step ((first | (go_at_call 101;with_reducible exact I.out _) | (go_at_call 102;with_reducible exact J.out _) | (go_at_call 103;with_reducible exact L.out _) | (go_at_call 104;with_reducible exact M.out _))))
 refine wpQuiet_nil ?_;rintro _ ⟨X,rfl⟩;have O:=D.out X;have A:=O.res;have C:=O.below;generalize X.world=W at A C;clear O D E Q I J L M b d f i j k m n q r P;obtain⟨t,u,v,y,z,d5,d6,d7,d8,d9⟩:=jam A;obtain⟨f0,f1,f2,f3,f4,f5,f6,f7,f8,f9⟩:=jbL A;go_wp2_with fail;refine bodyPost_ret (results_cell_row rfl _ _ (w.heap.size+1) 41 #[.int .i64 x.kind,.int .i64 x.level,.slice s.ea (min s.el 70) s.ec,.int .i64 x.hb,.string (jmX 260 x.hr),.int .i64 x.cr,.int .i64 x.cc,.slice s.ca (min s.cl 200) s.cc,.int .i64 x.gf,.slice s.ga (min s.gl 300) s.gc] (0,0) _ rfl (jv8 A) jp1 rfl jnM) rfl ⟨rfl,((((((((((C.setCell (p:=⟨w.heap.size+1,0,none⟩) (Nat.le_succ _) _).setCell (p:=⟨w.heap.size+1,1,none⟩) (Nat.le_succ _) _).setCell (p:=⟨w.heap.size+1,2,none⟩) (Nat.le_succ _) _).setCell (p:=⟨w.heap.size+1,3,none⟩) (Nat.le_succ _) _).setCell (p:=⟨w.heap.size+1,4,none⟩) (Nat.le_succ _) _).setCell (p:=⟨w.heap.size+1,5,none⟩) (Nat.le_succ _) _).setCell (p:=⟨w.heap.size+1,6,none⟩) (Nat.le_succ _) _).setCell (p:=⟨w.heap.size+1,7,none⟩) (Nat.le_succ _) _).setCell (p:=⟨w.heap.size+1,8,none⟩) (Nat.le_succ _) _).setCell (p:=⟨w.heap.size+1,9,none⟩) (Nat.le_succ _) _)⟩
section
open Go.Shelf
theorem jeC (W:World) (b o:Nat) (v:Value):W.grownBy (W.setCell ⟨b,o,none⟩ v) (some b) :=
 ⟨rfl,rfl,rfl,(KeepsWalks.setCell W _ v).size,fun k _ A=>Below.heap_setCell _ _ _ k (fun e=>A (by rw[e]))⟩
theorem jei {W V:World} {row:Option Nat} (h:W.grownBy V row):W.grownBy V.drew row:=⟨h.os,h.tape,h.output,h.size,h.block⟩
theorem jk1 (N:Int) (s:ByteArray) (g len cap p k:Nat) (r:List Nat) (w:World) (hr:RegsAt w g r) (P:p<r.length) (b:r.length=len) :
  Calls Tryz.prog 247 #[.agg #[.int .i64 N,.string s,.slice (some ⟨g,0,none⟩) len cap,.func (.func 244) #[] #[]],.int .i64 p,.int .u8 k] w fun e w'=>e=.returned (.tuple #[])/\RegsAt w' g (jbg r p k)/\w.grownBy w' (some g):=by
 obtain⟨x,M⟩:∃ x,r[p]? = some x:=⟨_,List.getElem?_eq_getElem P⟩;obtain⟨A,F,C,J,R⟩:=jaf w #[.int .i64 N,.string s,.slice (some ⟨g,0,none⟩) len cap,.func (.func 244) #[] #[]] 317;have D:RegsAt A.drew g r:=(hr.go J).block rfl;have Q:(p:Int)<len:=by omega
 let Inv:World->Prop:=fun W=>W=A.drew
 have S:∀ X:WIn Inv,X.world.cell? ⟨w.heap.size,1,none⟩=some (.string s):=fun X=>by rw[X.ok];exact cCc C 1
 have T:∀ X:WIn Inv,X.world.cell? ⟨w.heap.size,2,none⟩=some (.slice (some ⟨g,0,none⟩) len cap):=fun X=>by rw[X.ok];exact cCc C 2
 have U:∀ X:WIn Inv,X.world.cell? ⟨w.heap.size,3,none⟩=some (.func (.func 244) #[] #[]):=fun X=>by rw[X.ok];exact cCc C 3
 have V:∀ X:WIn Inv,X.world.cell? ⟨g,p,none⟩=some (.int .u8 x):=fun X=>by rw[X.ok];exact D.cell M
 have I:Hid (∀ X:WIn Inv,Calls Tryz.prog 244 #[.int .u8 x,.int .u8 k] X.world fun e w'=>e=.returned (.int .u8 (max (x:Int) k))/\∃ Y:WIn Inv,w'=Y.world):=fun X=>(jm5 x k X.world).mono fun e w' h=>⟨h.1,X,h.2⟩
 have L:Nonempty (WIn Inv):=⟨⟨A.drew,rfl⟩⟩;have E:Hid (Inv A.drew):=rfl;have B:Hid (∀ X:WIn Inv,X.world=A.drew):=fun X=>X.ok
 have G:=Lib.hid D;have H:=Lib.hid M;have O:Hid (w.grownBy A none):=by rw[<- F];exact World.grownBy_alloc w _ none
 clear_value Inv;clear hr D M;go_enter Tryz.func247,Tryz.ntmps247;go_wp2_with fail;refine jdD Inv (l:=[_,_,_,_,_,_,_,_,_,_,_,_,_]) (o:=_) rfl (by kernel_rfl) (by kernel_rfl) (by kernel_rfl) E.out ?_
 repeat (first | go_big_quiet_step ((go_at_call 244;with_reducible exact I.out _)) | quiet_step ((go_at_call 244;with_reducible exact I.out _)))
 refine wpQuiet_nil ?_;rintro _ ⟨X,rfl⟩;rw[B.out X];clear B E L I S T U V F;have Z:=G.out.cell H.out;have a:=G.out.frozen H.out;go_wp2_with fail;go_end0;have e:(max (x:Int) (k:Int))=((max (r.getD p 0) k:Nat):Int):=by rw[List.getD_eq_getElem?_getD,H.out];simp only[Option.getD_some];omega
 rw[e];exact⟨rfl,(RegsAt.set (W:=A.drew) G.out p _).block rfl,jei ((O.out.but (some g)).trans (jeC A g p _))⟩
theorem jgW:Tryz.prog.underlying 200=some (.slice 5):=by kernel_rfl
theorem jvG:(Tryz.prog.info? 5).map (fun i=>(i.zero,i.size,i.bytes))=some (some (.int .u8 0),1,1):=by kernel_rfl
def jap (r:List Nat):ByteArray:=strOfNums (r.map fun (n:Nat)=>(n:Int))
theorem jnj (w:World) (len:Nat) (h:len<=1000):∃ C,(Instr.makeSlice 200 (.int .i64 (len:Int)) (.int .i64 (len:Int))).run Tryz.prog w=.ok (.slice (some ⟨w.heap.size,0,none⟩) len len) C/\RegsAt C w.heap.size (List.replicate len 0)/\Bw w C/\C.heap.size=w.heap.size+1:=by
 obtain⟨i,E,G,A,D⟩:=info_parts jvG;have hr:=run_makeSlice (P:=Tryz.prog) (w:=w) 200 5 i _ jgW E G .i64 .i64 (len:Int) (len:Int) (by omega) (Int.le_refl _) (by rw[A];omega) (by rw[D];omega) (by omega);rw[Int.toNat_natCast] at hr;refine⟨_,hr,⟨_,(0,0),World.alloc_heap_new _ _,fun j x B=>?_,.inl rfl⟩,(Below.refl _ w).alloc (Nat.le_refl _) _,by simp⟩;rw[List.getElem?_replicate] at B;split at B
 ·cases B
  rename_i F
  rw[A,Nat.mul_one];simp[madeCells,Value.cells,F,Nat.mod_one]
 ·cases B
theorem je5 {W:World} {g len cap:Nat} {r:List Nat} (hr:RegsAt W g r) (B:r.length=len):(convert 200 9 (.slice (some ⟨g,0,none⟩) len cap)).run Tryz.prog W=.ok (.string (jap r)) W :=
 run_convert_bytes_arg W 200 5 jgW Tryz.underlying5 g 0 len cap (r.map fun (n:Nat)=>(n:Int)) (by rw[List.length_map,B]) (fun i C=>by
  have A:=List.getElem?_eq_getElem (show i<r.length by omega);rw[Nat.zero_add,hr.cell A];simp[List.getD_eq_getElem?_getD,A]) 9 Tryz.underlying9
theorem jh8 (B:Int) (s:ByteArray) (g len cap:Nat) (I:Value) (r:List Nat) (w:World) (hr:RegsAt w g r) (H:r.length=len) :
  CR 241 #[.agg #[.int .i64 B,.string s,.slice (some ⟨g,0,none⟩) len cap,I]] w (.agg #[.int .i64 B,.string (jap r)]):=by
 obtain⟨L,M,E,A,C,N⟩:=jaI w #[.int .i64 B,.string s,.slice (some ⟨g,0,none⟩) len cap,I] 317 #[.int .i64 0,.string ⟨#[]⟩] 34;have G:=je5 (cap:=cap) (hr.go C) H;obtain⟨Q,R,S,T⟩:=cl4 E;obtain⟨U,X⟩:=cl2 A;obtain⟨Y,Z⟩:=cz2 A;generalize jap r=out at G ⊢;have J:=Lib.hid A;clear hr H E A;go_enter Tryz.func241,Tryz.ntmps241;go_wp2_with fail;have F:=jbB (u:=.int .i64 B) (v:=.string out) J.out;have D:=(C.setCell (p:=⟨w.heap.size+1,0,none⟩) (Nat.le_succ _) (.int .i64 B)).setCell (p:=⟨w.heap.size+1,1,none⟩) (Nat.le_succ _) (.string out);generalize (L.setCell ⟨w.heap.size+1,0,none⟩ (.int .i64 B)).setCell ⟨w.heap.size+1,1,none⟩ (.string out)=V at F D ⊢;obtain⟨O,P⟩:=cl2 F;exact bodyPost_ret (v:=.agg #[.int .i64 B,.string out]) (by simp[results,Tryz.f241,go_sem,O,P]) rfl ⟨rfl,D⟩
theorem jr9 {W:World} {B off:Nat} {cs:Array Value} {t:TypeId} {A:Value} (h:W.heap[B]? = some (.cells cs t (0,0))) (C:cs[off]? = some A) (f:Fn):(store ⟨B,off,none⟩ (.func f #[] #[])).run Tryz.prog W=.ok () (W.setCell ⟨B,off,none⟩ (.func f #[] #[])):=by
 rw[run_store Tryz.prog W ⟨B,off,none⟩ _ _ (by rfl)];simp[World.cell?,World.frozen?,h,C]
theorem jlo (b:Nat) (w:World) (h1:3<=b) (X:b<=8) :
  Calls Tryz.prog 238 #[.int .i64 b] w fun e w'=>∃ g,e=.returned (.tuple #[.agg #[.int .i64 b,.string ⟨#[]⟩,.slice (some ⟨g,0,none⟩) (2^b) (2^b),.func (.func 244) #[] #[]],.nilIface])/\RegsAt w' g (jaY b)/\w.heap.size<=g/\Bw w w':=by
 have N:∀ w,Calls Tryz.prog 195 #[.int .i64 b] w fun e w'=>e=.returned (.bool true)/\w'=w:=fun w=>(jd3 b w).mono fun e w' ⟨Y,Z⟩=>⟨by rw[Y];simp[jbP];omega,Z.symm⟩
 have P:2^b<=2^8:=Nat.pow_le_pow_right (by omega) X
 have f:IntKind.i64.wrap (2^b)=((2^b:Nat):Int):=by
  have a:∀ n:Nat,n<=256->IntKind.i64.wrap (n:Int)=n:=fun n h=>IntWalk.i64_in _ (by omega)
  simpa using a (2^b) P
 unfold jaY;generalize 2^b=len at P f ⊢;obtain⟨T,c,H,A,R⟩:=jaf w #[.int .i64 0,.string ⟨#[]⟩,.slice none 0 0,.nilFunc] 317;obtain⟨U,O,D,B,S⟩:=jnj T len (by omega);have C:=(B.block _ (by omega)).trans H;rw[R] at O D;obtain⟨r,s,t,u⟩:=cl4 C;obtain⟨x,y,z,f3⟩:=cz4 C;have q:=Lib.hid D;have m:=Lib.hid (A.trans (B.mono A.size));obtain⟨E,F⟩:∃ E,((U.setCell ⟨w.heap.size,0,none⟩ (.int .i64 b)).setCell ⟨w.heap.size,1,none⟩ (.string ⟨#[]⟩)).setCell ⟨w.heap.size,2,none⟩ (.slice (some ⟨w.heap.size+1,0,none⟩) len len)=E:=⟨_,rfl⟩;have I:E.heap[w.heap.size]? = some (.cells #[.int .i64 b,.string ⟨#[]⟩,.slice (some ⟨w.heap.size+1,0,none⟩) len len,.nilFunc] 317 (0,0)):=by rw[<- F];exact hSk (hSk (hSk C _) _) _
 have M:Bw w E:=by rw[<- F];exact (((A.trans (B.mono A.size)).setCell (p:=⟨w.heap.size,0,none⟩) (Nat.le_refl _) _).setCell (p:=⟨w.heap.size,1,none⟩) (Nat.le_refl _) _).setCell (p:=⟨w.heap.size,2,none⟩) (Nat.le_refl _) _
 have Q:RegsAt E (w.heap.size+1) (List.replicate len 0):=by rw[<- F];exact ((D.other (by omega) _).other (by omega) _).other (by omega) _
 have d:=jr9 (off:=3) I rfl (.func 244);clear P H C D A B S;go_enter Tryz.func238,Tryz.ntmps238;go_wp2_with (first | (go_at_call 195;refine (N _).mono ?_;rintro e w' ⟨rfl,rfl⟩) | fail);have J:(E.setCell ⟨w.heap.size,3,none⟩ (.func (.func 244) #[] #[])).heap[w.heap.size]? = some (.cells #[.int .i64 b,.string ⟨#[]⟩,.slice (some ⟨w.heap.size+1,0,none⟩) len len,.func (.func 244) #[] #[]] 317 (0,0)):=hSk I _;have G:=M.setCell (p:=⟨w.heap.size,3,none⟩) (Nat.le_refl _) (.func (.func 244) #[] #[]);have L:=Q.other (b:=w.heap.size) (o:=3) (by omega) (.func (.func 244) #[] #[]);generalize E.setCell ⟨w.heap.size,3,none⟩ (.func (.func 244) #[] #[])=V at J G L ⊢;obtain⟨i,j,k,l⟩:=cl4 J;exact bodyPost_ret (v:=.tuple #[.agg #[.int .i64 b,.string ⟨#[]⟩,.slice (some ⟨w.heap.size+1,0,none⟩) len len,.func (.func 244) #[] #[]],.nilIface]) (by simp[results,Tryz.f238,go_sem,i,j,k,l]) rfl ⟨_,rfl,L,Nat.le_succ _,G⟩
theorem jeY (W:World) (s:ByteArray):∃ B cap,(convert 9 200 (.string s)).run Tryz.prog W=.ok (.slice (some ⟨W.heap.size,0,none⟩) s.size cap) B/\RegsAt B W.heap.size (s.data.toList.map (·.toNat))/\Below W.heap.size W B/\B.heap.size=W.heap.size+1:=by
 refine⟨_,_,Lib.run_convert_string_bytes W 9 200 5 s Tryz.underlying9 jgW Tryz.underlying5,⟨_,_,Lib.bytesWorld_at_new W 5 s,fun j x A=>?_,.inr ?_⟩,?_,Lib.bytesWorld_size W _ s⟩
 ·rw[List.getElem?_map] at A
  cases C:s.data.toList[j]? with
  | none=>rw[C] at A;cases A
  | some y =>
   rw[C] at A
   cases A
   have D:=(List.getElem?_eq_some_iff.1 C).1;rw[Array.length_toList] at D;unfold Lib.bytesCells;rw[Array.getElem?_append_left (by simpa using D),Array.getElem?_map,<- Array.getElem?_toList,C];rfl
 ·simp[Lib.bytesCells]
 ·exact (Below.refl _ W).grown (row:=none) ⟨rfl,rfl,rfl,by rw[Lib.bytesWorld_size];omega,fun k E _=>Lib.bytesWorld_at_old W _ s k E⟩ (Nat.le_refl _) (fun k e=>by cases e)
end
end Go.Proofs.YtafhpamnegmilaaGreatDoor
