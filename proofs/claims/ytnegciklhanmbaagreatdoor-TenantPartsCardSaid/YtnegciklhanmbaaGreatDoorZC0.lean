/- Sketches as plain data; which are right (layers 6 to 10). No program in sight. Exact sets as plain data: insertion into rising numbers. No program in sight. slices.Clone at []uint64, []api.Bin, []api.Label: printed by wip/tools/gen_x5.py. Package exact: Right, Same; slices.Equal and slices.Clone at []uint64. slices.Equal at []uint64; exact.Same, cms.Same, hist.Same: printed by wip/tools/gen_x7.py. Package exact: place, isAt, with. Package exact: with. slices.Values at uint64; package exact: each; a copy of numbers. Package hist: Same. Registers as plain data: what a number tells, and the registers of one digit less. No program in sight. Counters as plain data: a number added, half as many columns. No program in sight. -/
import Derived.Lib.SliceRun
import Derived.Shelf.SlSorted.Search
import Derived.ArgAppend
import Derived.Laws.CopyRow
import Derived.Laws.CopyOwn
import Derived.Laws.Tables
import Derived.Lib.BitFns
import Derived.Lib.ItoaNum
import Derived.Test.YtnegciklhanmbaaGreatDoorZMP
set_option maxHeartbeats 2000000
set_option maxRecDepth 100000
namespace Go.Proofs.YtnegciklhanmbaaGreatDoor
open Go Go.RowKit
structure Sk where
 kind:Int
 level:Int
 e:List Int
 hb:Int
 hr:ByteArray
 cr:Int
 cc:Int
 cl:List Int
 gf:Int
 gl:List (Int × Int)
def jaF (n:Int):List Value:=[.int .u64 n]
def jb4 (b:Int × Int):List Value:=[.int .i64 b.1,.int .u64 b.2]
def jdh (l:List Int):Prop:=∀ n∈l,U64 n
def I64 (n:Int):Prop := -9223372036854775808<=n/\n<=9223372036854775807
def jx7 (l:List (Int × Int)):Prop:=∀ b∈l,I64 b.1/\U64 b.2
def jcN (st:Option Int) (n:Int):Option (Option Int):=if (match st with | none=>false | some m=>decide (n<=m)) then none else some (some n)
def jaJ (l:List Int):Bool:=decide (l.length<=64)&&(jck jcN none l).isSome
theorem jmw (l:List Int):∀ B r,jck jcN B l=some r->r=l.getLast?.or B:=by
 induction l with
 | nil=>intro B r h;simpa [jhw] using h.symm
 | cons x xs ih =>
  intro B r h;rw[jdD] at h
  cases A:jcN B x with
  | none=>rw[A] at h;cases h
  | some y =>
   rw[A] at h
   have C:y=some x:=by
    unfold jcN at A;generalize (match B with | none=>false | some m=>decide (x<=m))=c at A
    cases c
    ·simpa using A.symm
    ·simp at A
   have:=ih y r h;rw[this,C,List.getLast?_cons]
   cases xs.getLast?<;>rfl
def jc5 (n:Int):Bool:=decide (3<=n)&&decide (n<=8)
def jfW (b:Int) (r:ByteArray):Bool:=r.data.toList.all fun c => !decide (65-b<(c.toNat:Int))
def jbw (b:Int) (r:ByteArray):Bool:=jc5 b&&((r.size:Int)==2^b.toNat)&&jfW b r
def ja3 (rows cols:Int):Bool:=decide (1<=rows)&&decide (rows<=4)&&decide (4<=cols)&&decide (cols<=32)&&(bits .and .i64 cols (cols-1)==0)
def jbJ (rows cols:Int) (l:List Int):Bool:=ja3 rows cols&&((l.length:Int)==rows*cols)
def jar (n:Int):Bool:=decide (0<=n)&&decide (n<=3)
def jaz (fine n:Int):Bool :=
 if jar fine&&decide (0<=n) then
  (if n==0 then true else if 64<=(n-1) / 2^fine.toNat then false else if fine<=(n-1) / 2^fine.toNat then true
   else bits .and .i64 (bits .and .i64 (n-1) (2^fine.toNat-1)) (2^(fine-(n-1) / 2^fine.toNat).toNat-1)==0)
 else false
def jcw (fine:Int) (before:Int) (b:Int × Int):Option Int:=if b.2==0 || !jaz fine b.1||decide (b.1<=before) then none else some b.1
def jaR (fine:Int) (l:List (Int × Int)):Bool:=jar fine&&(jck (jcw fine) (-1) l).isSome
def jaH (kind:Int):Int:=if kind==1 then 4 else if kind==2||kind==3 then 3 else -1
def jaQ (x:Sk):Bool :=
 if x.kind==1 then (if x.level==0 then jaJ x.e else jbw x.hb x.hr&&(x.hb==8-x.level))
 else if x.kind==2 then jbJ x.cr x.cc x.cl&&(x.cr==2)&&(x.cc==32 / 2^x.level.toNat)
 else jaR x.gf x.gl&&(x.gf==3-x.level)
def jbc (x y:Sk):Bool:=x.kind==y.kind&&x.level==y.level&&(x.hb==y.hb&&x.hr.toList==y.hr.toList)&&x.e==y.e&&(x.cr==y.cr&&x.cc==y.cc&&x.cl==y.cl)&&(x.gf==y.gf&&x.gl==y.gl)
structure SS where
 ea:Option Addr
 el:Nat
 ec:Nat
 ca:Option Addr
 cl:Nat
 cc:Nat
 ga:Option Addr
 gl:Nat
 gc:Nat
abbrev skv (X:Sk) (S:SS):Array Value:=#[.int .i64 X.kind,.int .i64 X.level,.slice S.ea S.el S.ec,.int .i64 X.hb,.string X.hr,.int .i64 X.cr,.int .i64 X.cc,.slice S.ca S.cl S.cc,.int .i64 X.gf,.slice S.ga S.gl S.gc]
abbrev zsV:Array Value:=#[.int .i64 0,.int .i64 0,.slice none 0 0,.int .i64 0,.string ⟨#[]⟩,.int .i64 0,.int .i64 0,.slice none 0 0,.int .i64 0,.slice none 0 0]
structure SS.At (s:SS) (n₀:Nat) (w:World) (x:Sk):Prop where
 e:SlC jaF 1 n₀ w s.ea s.el s.ec x.e
 c:SlC jaF 1 n₀ w s.ca s.cl s.cc x.cl
 g:SlC jb4 2 n₀ w s.ga s.gl s.gc x.gl
theorem SS.At.go {s:SS} {A B:World} {x:Sk} (h:s.At A.heap.size A x) (hb:Bw A B):s.At B.heap.size B x:=⟨h.e.go hb,h.c.go hb,h.g.go hb⟩
theorem SS.At.below {s:SS} {n:Nat} {A B:World} {x:Sk} (h:s.At n A x) (hb:Below n A B):s.At n B x:=⟨h.e.below hb,h.c.below hb,h.g.below hb⟩
theorem SS.At.mono {s:SS} {n m:Nat} {A:World} {x:Sk} (h:s.At n A x) (B:n<=m):s.At m A x:=⟨h.e.mono B,h.c.mono B,h.g.mono B⟩
def Sk.ok (x:Sk):Prop:=I64 x.kind/\I64 x.level/\jdh x.e/\I64 x.hb/\I64 x.cr/\I64 x.cc/\jdh x.cl/\I64 x.gf/\jx7 x.gl
end Go.Proofs.YtnegciklhanmbaaGreatDoor
namespace Go.Proofs.YtnegciklhanmbaaGreatDoor
open Go Go.RowKit
abbrev Up (l:List Int):Prop:=l.Pairwise (· < ·)
def jb8 (l:List Int) (n:Int):Nat:=l.countP (fun x=>decide (x<n))
def jcB (l:List Int) (n:Int):List Int:=if l[jb8 l n]? = some n then l else l.take (jb8 l n)++n::l.drop (jb8 l n)
def jsU:List Int->Int->List Int
 | [],n=>[n]
 | x::xs,n=>if x<n then x::jsU xs n else if x=n then x::xs else n::x::xs
theorem joS (l:List Int) (n:Int):jb8 l n<=l.length:=List.countP_le_length
theorem jnk {x:Int} {xs:List Int} (h:Up (x::xs)):Up xs/\∀ y∈xs,x<y:=⟨(List.pairwise_cons.1 h).2,(List.pairwise_cons.1 h).1⟩
theorem jfI:∀ (l:List Int) (n:Int),Up l->jcB l n=jsU l n
 | [],n,_=>by simp[jcB,jsU,jb8]
 | x::xs,n,h=>by
  obtain⟨D,E⟩:=jnk h;have F:=jfI xs n D;unfold jcB jsU;by_cases A:x<n
  ·have B:jb8 (x::xs) n=jb8 xs n+1:=by simp[jb8,A]
   rw[B,if_pos A,<- F];unfold jcB;simp only[List.getElem?_cons_succ,List.take_succ_cons,List.drop_succ_cons];split
   ·rfl
   ·rfl
  ·have B:jb8 (x::xs) n=0:=by
    unfold jb8;rw[List.countP_eq_zero];intro y C;rcases List.mem_cons.1 C with rfl | C
    ·simpa using A
    ·have:=E y C
     simp;omega
   rw[B,if_neg A];simp only[List.getElem?_cons_zero,Option.some.injEq,List.take_zero,List.drop_zero,List.nil_append]
theorem jg2:∀ (l:List Int) (n y:Int),y∈jsU l n↔y=n\/y∈l
 | [],n,y=>by simp[jsU]
 | x::xs,n,y=>by
  unfold jsU;split
  ·rw[List.mem_cons,jg2 xs n y,List.mem_cons]
   constructor
   ·rintro (h | h | h)<;>simp[h]
   ·rintro (h | h | h)<;>simp[h]
  ·split
   ·rename_i B A
    subst A;simp
   ·simp
theorem jjN:∀ (l:List Int) (n:Int),Up l->Up (jsU l n)
 | [],n,_=>by simp[jsU]
 | x::xs,n,h=>by
  obtain⟨C,B⟩:=jnk h;unfold jsU;split
  ·rename_i D
   refine List.pairwise_cons.2 ⟨fun y A=>?_,jjN xs n C⟩;rcases (jg2 xs n y).1 A with rfl | A
   ·exact D
   ·exact B y A
  ·split
   ·exact h
   ·rename_i E F
    refine List.pairwise_cons.2 ⟨fun y A=>?_,h⟩;rcases List.mem_cons.1 A with rfl | A
    ·omega
    ·have:=B y A;omega
def jan:List Int->List Int->Option (List Int)
 | l,[]=>some l
 | l,n::r=>if 64<(jcB l n).length then none else jan (jcB l n) r
theorem jfH:∀ (r:List Int) (l:List Int) (n:Int),jan l (r++[n])=(jan l r).bind fun m=>if 64<(jcB m n).length then none else some (jcB m n)
 | [],l,n=>by simp[jan]
 | x::r,l,n=>by
  simp only[List.cons_append,jan];split
  ·rfl
  ·exact jfH r _ n
theorem jeQ (l:List Int) (h:jaJ l=true):Up l/\l.length<=64:=by
 simp only[jaJ,Bool.and_eq_true,decide_eq_true_eq] at h;obtain⟨I,J⟩:=h;refine⟨?_,I⟩
 have:∀ (l:List Int) (C:Option Int),(jck jcN C l).isSome=true->Up l/\∀ m,C=some m->∀ y∈l,m<y:=by
  intro l
  induction l with
  | nil=>intro C _;exact⟨List.Pairwise.nil,fun _ _ _ h=>by cases h⟩
  | cons x xs ih =>
   intro C D;rw[jdD] at D
   cases A:jcN C x with
   | none=>rw[A] at D;cases D
   | some s2 =>
    rw[A] at D;obtain⟨L,M⟩:=ih s2 D
    have B:s2=some x/\∀ m,C=some m->m<x:=by
     unfold jcN at A
     cases C with
     | none=>simp at A;exact⟨A.symm,fun m h=>by cases h⟩
     | some m =>
      by_cases F:x<=m
      ·simp[F] at A
      ·simp[F] at A
       refine⟨A.symm,fun N h=>?_⟩
       cases h
       omega
    have H:=M x B.1;refine⟨List.pairwise_cons.2 ⟨H,L⟩,fun m G y E=>?_⟩;rcases List.mem_cons.1 E with rfl | E
    ·exact B.2 m G
    ·have:=H y E;have:=B.2 m G;omega
 exact (this l none J).1
theorem jd7:∀ (l:List Int),Up l->l.length<=64->jaJ l=true:=by
 intro l h C;simp only[jaJ,Bool.and_eq_true,decide_eq_true_eq];refine⟨C,?_⟩
 have:∀ (l:List Int) (A:Option Int),Up l->(∀ m,A=some m->∀ y∈l,m<y)->(jck jcN A l).isSome=true:=by
  intro l
  induction l with
  | nil=>intro A _ _;rfl
  | cons x xs ih =>
   intro A E D;obtain⟨H,I⟩:=jnk E
   have F:jcN A x=some (some x):=by
    unfold jcN
    cases A with
    | none=>simp
    | some m =>
     have:=D m rfl x List.mem_cons_self;simp;omega
   rw[jdD,F];exact ih (some x) H (fun m B y G=>by cases B;exact I y G)
 exact this l none h (fun m B=>by cases B)
end Go.Proofs.YtnegciklhanmbaaGreatDoor
namespace Go.Proofs.YtnegciklhanmbaaGreatDoor
open Go Go.RowKit
theorem jdg:Tryz.prog.underlying 33=some (.slice 22):=by kernel_rfl
theorem jeV:(Tryz.prog.info? 22).map (fun i=>(i.zero,i.size,i.bytes))=some (some (.int .u64 0),1,8):=by kernel_rfl
theorem joO (a:Option Addr) (n c:Nat) (w:World):(binOp .eql 33 (.slice a n c) (.slice none 0 0)).run Tryz.prog w=.ok (.bool a.isNone) w:=Lib.run_eql_slice_nil w _ _ a n c 0 0 jdg
theorem jmP (x:Int):∀ u∈jaF x,u.oneCell'=true:=by
 intro u A;simp only[jaF,List.mem_cons,List.not_mem_nil,or_false] at A;rcases A with rfl<;>rfl
theorem jbM (a:Option Addr) (len cap:Nat) (l:List Int) (w:World) (F:SlE jaF 1 w.heap.size w a len l) (P:len<2147483648) :
  Calls Tryz.prog 34 #[.slice a len cap] w fun e w'=>∃ L C,e=.returned (.slice L len C)/\SlC jaF 1 w'.heap.size w' L len C l/\(∀ x,L=some x->w.heap.size<=x.block)/\Bw w w':=by
 have U:=joO a len cap;have A:=F.1
 cases a with
 | none =>
  have O:l=[]:=by
   cases l with
   | nil=>rfl
   | cons y ys=>obtain⟨b,off,e,_⟩:=F.2 0 y rfl;cases e
  subst O;obtain rfl:len=0:=A;clear F;go_enter Tryz.func34,Tryz.ntmps34;go_wp2_with fail;go_ret;exact⟨none,0,rfl,SlC.nil,(fun x h=>by cases h),Below.refl _ _⟩
 | some a =>
  have E:Bw w (w.alloc (.cells #[] 22)):=(Below.refl _ w).alloc (Nat.le_refl _) _;have D:(w.alloc (.cells #[] 22)).ownsRow w.heap.size 22 1 (.slice (some ⟨w.heap.size,0,none⟩) 0 0) 0 []:=⟨rfl,.inr ⟨w.heap.size,0,#[],rfl,Nat.le_refl _,World.alloc_heap_new _ _,Nat.le_refl _,by unfold maxLen;omega,rfl,rfl⟩⟩;have G:=F.go E;obtain⟨v4,Q,H,B,M,T,-,-⟩:=jbu Tryz.prog (cap:=cap) 33 jdg jeV rfl (by decide) D E (Nat.le_refl _) (by simp) (fun _=>rfl) G jmP (by omega) P (by decide);rw[Nat.zero_add,List.nil_append,A] at B;obtain⟨S,c4,J,I,N⟩:=jaM (enc:=jaF) (fun _=>rfl) B;have R:Hid (SlC jaF 1 Q.heap.size Q S len c4 l):=by rw[Hid,A];exact I
  rw[<- A] at J;subst J;clear F G D I B A;go_enter Tryz.func34,Tryz.ntmps34;go_wp2_with (at_builtin;refine ja6 rfl _ _ _ rfl rfl rfl H ?_);go_ret;exact⟨_,_,rfl,R.out,N,M⟩
theorem jnj:Tryz.prog.underlying 40=some (.slice 97):=by kernel_rfl
theorem jnJ:(Tryz.prog.info? 97).map (fun i=>(i.zero,i.size,i.bytes))=some (some (.agg #[.int .i64 0,.int .u64 0]),2,16):=by kernel_rfl
theorem joM (a:Option Addr) (n c:Nat) (w:World):(binOp .eql 40 (.slice a n c) (.slice none 0 0)).run Tryz.prog w=.ok (.bool a.isNone) w:=Lib.run_eql_slice_nil w _ _ a n c 0 0 jnj
theorem jrC (x:(Int × Int)):∀ u∈jb4 x,u.oneCell'=true:=by
 intro u A;simp only[jb4,List.mem_cons,List.not_mem_nil,or_false] at A;rcases A with rfl | rfl<;>rfl
theorem jeq (a:Option Addr) (len cap:Nat) (l:List (Int × Int)) (w:World) (F:SlE jb4 2 w.heap.size w a len l) (P:len<2147483648) :
  Calls Tryz.prog 35 #[.slice a len cap] w fun e w'=>∃ L C,e=.returned (.slice L len C)/\SlC jb4 2 w'.heap.size w' L len C l/\(∀ x,L=some x->w.heap.size<=x.block)/\Bw w w':=by
 have U:=joM a len cap;have A:=F.1
 cases a with
 | none =>
  have O:l=[]:=by
   cases l with
   | nil=>rfl
   | cons y ys=>obtain⟨b,off,e,_⟩:=F.2 0 y rfl;cases e
  subst O;obtain rfl:len=0:=A;clear F;go_enter Tryz.func35,Tryz.ntmps35;go_wp2_with fail;go_ret;exact⟨none,0,rfl,SlC.nil,(fun x h=>by cases h),Below.refl _ _⟩
 | some a =>
  have E:Bw w (w.alloc (.cells #[] 97)):=(Below.refl _ w).alloc (Nat.le_refl _) _;have D:(w.alloc (.cells #[] 97)).ownsRow w.heap.size 97 2 (.slice (some ⟨w.heap.size,0,none⟩) 0 0) 0 []:=⟨rfl,.inr ⟨w.heap.size,0,#[],rfl,Nat.le_refl _,World.alloc_heap_new _ _,Nat.le_refl _,by unfold maxLen;omega,rfl,rfl⟩⟩;have G:=F.go E;obtain⟨v4,Q,H,B,M,T,-,-⟩:=jbu Tryz.prog (cap:=cap) 40 jnj jnJ rfl (by decide) D E (Nat.le_refl _) (by simp) (fun _=>rfl) G jrC (by omega) P (by decide);rw[Nat.zero_add,List.nil_append,A] at B;obtain⟨S,c4,J,I,N⟩:=jaM (enc:=jb4) (fun _=>rfl) B;have R:Hid (SlC jb4 2 Q.heap.size Q S len c4 l):=by rw[Hid,A];exact I
  rw[<- A] at J;subst J;clear F G D I B A;go_enter Tryz.func35,Tryz.ntmps35;go_wp2_with (at_builtin;refine ja6 rfl _ _ _ rfl rfl rfl H ?_);go_ret;exact⟨_,_,rfl,R.out,N,M⟩
end Go.Proofs.YtnegciklhanmbaaGreatDoor
namespace Go.Proofs.YtnegciklhanmbaaGreatDoor
open Go Go.RowKit
theorem joe {A:Nat} {w:World} {a:Option Addr} {len:Nat} {l:List Int} (h:SlE jaF 1 A w a len l) {j:Nat} (C:j<len):∃ x b off,l[j]? = some x/\a=some ⟨b,off,none⟩/\b<A/\w.cell? ⟨b,off+j,none⟩=some (.int .u64 x):=by
 obtain⟨x,b,off,D,e,hb,B⟩:=h.at C;have:=B 0 (by omega);rw[Nat.mul_one,Nat.add_zero] at this;exact⟨x,b,off,D,e,hb,this⟩
theorem jbv (l:List Int) (a:Option Addr) (len cap:Nat) (w:World) (M:SlE jaF 1 w.heap.size w a len l) :
  CR 171 #[.agg #[.slice a len cap]] w (.bool (jaJ l)):=by
 have H:=Lib.hid M.1;have A:Bw w (w.alloc (.cells #[.slice a len cap] 35)):=(Below.refl _ w).alloc (Nat.le_refl _) _;by_cases D:len<=64
 ·have e:decide ((64:Int)<len)=false:=by simp;omega
  have I:Hid (jaJ l=(jck jcN none l).isSome):=by simp only[Hid,jaJ];rw[decide_eq_true (by rw[<- H.out];exact D)];simp
  have B:=M.below A;have V:(w.alloc (.cells #[.slice a len cap] 35)).cell? ⟨w.heap.size,0,none⟩=some (.slice a len cap):=cCc (World.alloc_heap_new w (.cells #[.slice a len cap] 35)) 0;go_enter Tryz.func171,Tryz.ntmps171;go_wp2_with fail;generalize hW:w.alloc (.cells #[.slice a len cap] 35)=W0 at A B V ⊢;clear hW M;go_loop [12] (fun i=>∃ (k:Nat) (R:Option Int),i=.int .i64 k/\k<=len/\Hid (jck jcN none (l.take k)=some R)) (fun i=>len-(intOf i).toNat)
  case atStart=>exact⟨0,none,rfl,Nat.zero_le _,rfl⟩
  case round =>
   obtain⟨k,R,rfl,h,G⟩:=hrel;by_cases Q:k<len
   ·obtain⟨x,b,off,N,X,hb,c⟩:=joe B Q
    subst X;have O:=Lib.hid (jiO N G.out);have f:=Lib.hid N;rcases Nat.eq_zero_or_pos k with Y | S
    ·subst Y
     rw[Nat.add_zero] at c;clear N;go_wp2_with fail;go_round
     case rel=>exact⟨1,some x,rfl,by omega,by have C:=O.out;have J:=G.out;simp[jhw] at J;subst J;exact Lib.hid (by simpa [jcN] using C)⟩
     case measure=>simp[intOf];omega
    ·obtain⟨y,g,U,T,P,Z,d⟩:=joe B (show k-1<len by omega)
     injection P with e1
     injection e1 with e1 e2
     subst e1;subst e2
     have F:Hid (R=some y):=by
      have C:=jmw _ _ _ G.out;rw[List.getLast?_eq_getElem?] at C;have J:(l.take k).length=k:=by rw[List.length_take,<- H.out];omega
      rw[J,List.getElem?_take_of_lt (by omega),T] at C;exact C
     have m:decide ((0:Int)<(k:Int))=true:=by simp;omega
     have j:(1:Int)<=(k:Int):=by omega
     clear N T;by_cases E:x<=y
     ·go_wp2_with fail
      go_ret;have L:jck jcN none l=none:=jiN (k:=k+1) (by rw[O.out,F.out];simp[jcN,E]);exact⟨by rw[I.out,L];rfl,A⟩
     ·go_wp2_with fail
      go_round
      case rel=>exact⟨k+1,some x,by go_num,by omega,by rw[Hid,O.out,F.out];simp[jcN,E]⟩
      case measure=>simp[intOf];omega
   ·obtain rfl:k=len:=by omega
    go_wp2_with fail;go_ret;have L:=G.out;rw[List.take_of_length_le (by rw[<- H.out];omega)] at L;exact⟨by rw[I.out,L];rfl,A⟩
 ·have e:decide ((64:Int)<len)=true:=by simp;omega
  have I:Hid (jaJ l=false):=by simp only[Hid,jaJ];rw[decide_eq_false (by rw[<- H.out];exact D)];simp
  clear M;go_enter Tryz.func171,Tryz.ntmps171;go_wp2_with fail;go_ret;exact⟨by rw[I.out];rfl,A⟩
end Go.Proofs.YtnegciklhanmbaaGreatDoor
namespace Go.Proofs.YtnegciklhanmbaaGreatDoor
open Go Go.RowKit
theorem bDr {B:Nat} {w w':World} (h:Below B w w'):∀ n,Below B w (w'.drewN n)
 | 0=>h
 | n+1=>(bDr h n).drew
theorem jla (a:Option Addr) (A F:Nat) (Q:List Int) (b:Option Addr) (B G:Nat) (R:List Int) (w:World) (I:SlE jaF 1 w.heap.size w a A Q) (J:SlE jaF 1 w.heap.size w b B R) (n:A<=maxLen) :
  CR 175 #[.slice a A F,.slice b B G] w (.bool (Q==R)):=by
 have H:=I.1;have S:=J.1;unfold maxLen at n;by_cases V:A=B
 ·subst V
  have q:((A:Int) != (A:Int))=false:=by simp
  have f:=Lib.hid H;have g:=Lib.hid S;clear H S;go_enter Tryz.func175,Tryz.ntmps175;go_wp2_with fail;go_loopw [5,13] (fun _ i wr=>∃ (k:Nat),i=.int .i64 k/\k<=A/\Bw w wr/\Hid (Q.take k=R.take k)) (fun _ i _=>A-(intOf i).toNat)
  case atStart=>exact⟨0,rfl,Nat.zero_le _,Below.refl _ _,rfl⟩
  case round =>
   obtain⟨k,rfl,s,L,X⟩:=hrel;by_cases O:k<A
   ·obtain⟨x,h,o,P,T,l,M⟩:=(I.below L).at O
    obtain⟨y,j,p,d,U,m,N⟩:=(J.below L).at O;subst T;subst U;have c1:wr.cell? ⟨h,o+k,none⟩=some (.int .u64 x):=by have:=M 0 (by omega);rwa [Nat.mul_one,Nat.add_zero] at this
    have c2:wr.cell? ⟨j,p+k,none⟩=some (.int .u64 y):=by have:=N 0 (by omega);rwa [Nat.mul_one,Nat.add_zero] at this
    have i0:(0:Int)<=(k:Int):=by omega
    have t:(k:Int)<(A:Int):=by omega
    have Y:=Lib.hid P;have Z:=Lib.hid d;clear M N P d I J;by_cases C:x=y
    ·have r:(x != y)=false:=by simp[C]
     have D:Hid (x=y):=C;clear C;go_wp2_with fail;go_quiet (fail);go_wp2_with fail;go_roundw
     case rel=>exact⟨k+1,by go_num,by omega,bDr L _,by rw[Hid,jaf Y.out,jaf Z.out,X.out,D.out]⟩
     case measure=>simp[intOf];omega
    ·have r:(x != y)=true:=by simp[C]
     have D:Hid (¬ x=y):=C;clear C;go_wp2_with fail;go_quiet (fail);go_wp2_with fail;go_ret
     have E:(Q==R)=false:=by
      rw[beq_eq_false_iff_ne];intro e;have P:=Y.out;rw[e,Z.out] at P;exact D.out (Option.some.inj P).symm
     exact⟨by rw[E];rfl,bDr L _⟩
   ·obtain rfl:k=A:=by omega
    clear I J;go_wp2_with fail;go_ret;have c:=X.out;rw[List.take_of_length_le (by rw[<- f.out];omega),List.take_of_length_le (by rw[<- g.out];omega)] at c;exact⟨by rw[c];simp,L⟩
 ·have q:((A:Int) != (B:Int))=true:=by rw[bne_iff_ne];omega
  have E:Hid ((Q==R)=false):=by
   rw[Hid,beq_eq_false_iff_ne];intro e;rw[e,<- S] at H;exact V H
  clear I J H S V;go_enter Tryz.func175,Tryz.ntmps175;go_wp2_with fail;go_ret;exact⟨by rw[E.out];rfl,Below.refl _ _⟩
theorem jim (F:Option Addr) (A C:Nat) (O:List Int) (G:Option Addr) (B D:Nat) (P:List Int) (w:World) (Q:SlE jaF 1 w.heap.size w F A O) (R:SlE jaF 1 w.heap.size w G B P) (T:A<=maxLen) :
  CR 128 #[.agg #[.slice F A C],.agg #[.slice G B D]] w (.bool (O==P)):=by
 obtain⟨J,L,H,I,E,N⟩:=jas w #[.slice F A C] 35 #[.slice G B D] 35;have U:J.cell? ⟨w.heap.size,0,none⟩=some (.slice F A C):=cCc H 0;have c1:J.cell? ⟨w.heap.size+1,0,none⟩=some (.slice G B D):=cCc I 0;have S:=jla F A C O G B D P J (Q.go E) (R.go E) T;clear Q R H I N;go_enter Tryz.func128,Tryz.ntmps128;go_wp2_with fail;refine S.mono ?_;rintro e V ⟨rfl,M⟩;clear L S;go_wp2_with fail;go_ret;exact⟨rfl,E.trans (M.mono E.size)⟩
theorem jk2 (M J:Int) (H:Option Addr) (A D:Nat) (R:List Int) (N L:Int) (I:Option Addr) (B E:Nat) (S:List Int) (w:World) (T:SlE jaF 1 w.heap.size w H A R) (U:SlE jaF 1 w.heap.size w I B S) (Y:A<=maxLen) :
  CR 129 #[.agg #[.int .i64 M,.int .i64 J,.slice H A D],.agg #[.int .i64 N,.int .i64 L,.slice I B E]] w (.bool (M==N&&J==L&&R==S)):=by
 obtain⟨X,O,F,G,C,Q⟩:=jas w #[.int .i64 M,.int .i64 J,.slice H A D] 39 #[.int .i64 N,.int .i64 L,.slice I B E] 39;obtain⟨Z,c1,c2⟩:=cl3 F;obtain⟨a,b,c⟩:=cl3 G;have V:=jla H A D R I B E S X (T.go C) (U.go C) Y;clear T U F G Q
 cases d:(M==N) with
 | false =>
  go_enter Tryz.func129,Tryz.ntmps129;go_wp2_with fail;go_ret;exact⟨rfl,C⟩
 | true =>
  cases f:(J==L) with
  | false =>
   go_enter Tryz.func129,Tryz.ntmps129;go_wp2_with fail;go_ret;exact⟨rfl,C⟩
  | true =>
   go_enter Tryz.func129,Tryz.ntmps129;go_wp2_with fail;refine V.mono ?_;rintro e g ⟨rfl,P⟩;clear O V;go_wp2_with fail;go_ret;exact⟨by simp,C.trans (P.mono C.size)⟩
end Go.Proofs.YtnegciklhanmbaaGreatDoor
namespace Go.Proofs
open Go.Shelf
def Tryz.laysO16_ren:Go.Shelf.Ren:=⟨fun | 16=>272 | n=>n,fun | 3=>3 | 4=>4 | 35=>161 | 38=>225 | n=>n,fun | n=>n⟩
theorem Tryz.laysO16:Go.Proofs.SlLaysO.n16 Tryz.prog Tryz.laysO16_ren:={
 mixed:=by kernel_rfl
 f16:=Tryz.func272.trans (congrArg some (by kernel_rfl))
 t3:=by kernel_rfl
 a3:=fun w=>by kernel_rfl
 z3:=fun w=>by kernel_rfl
 v3:=fun w=>by kernel_rfl
 t4:=by kernel_rfl
 a4:=fun w=>by kernel_rfl
 z4:=fun w=>by kernel_rfl
 v4:=fun w=>by kernel_rfl
 t35:=by kernel_rfl
 a35:=fun w=>by kernel_rfl
 z35:=fun w=>by kernel_rfl
 v35:=fun w=>by kernel_rfl
 t38:=by kernel_rfl
 a38:=fun w=>by kernel_rfl
 z38:=fun w=>by kernel_rfl
 v38:=fun w=>by kernel_rfl }
end Go.Proofs
namespace Go.Proofs.YtnegciklhanmbaaGreatDoor
open Go Go.RowKit Go.Shelf Go.Lib Go.Sort
theorem jpi (A B b off len cap i:Nat) (n x:Int) (w:World) (C:w.cell? ⟨A,0,none⟩=some (.slice (some ⟨b,off,none⟩) len cap)) (D:w.cell? ⟨B,0,none⟩=some (.int .u64 n)) (F:w.cell? ⟨b,off+i,none⟩=some (.int .u64 x)) (E:(i:Int)<len) :
  Calls Tryz.prog 273 #[.int .i64 i,.pointer (some ⟨A,0,none⟩),.pointer (some ⟨B,0,none⟩)] w fun e w'=>e=.returned (.bool (decide (n<=x)))/\∃ q,w'=w.drewN q:=by
 go_enter Tryz.func273,Tryz.ntmps273;go_wp2_with fail;go_quiet (fail);go_wp2_with fail;go_ret;exact⟨rfl,_,rfl⟩
theorem jqO (w:World):grow w #[]=w:=by
 cases w
 simp[grow]
theorem jmT (l:List Int) (n:Int):(List.range l.length).countP (fun i => !decide (n<=l.getD i 0))=jb8 l n:=by
 have h:l=(List.range l.length).map (fun i=>l.getD i 0):=by
  apply List.ext_getElem?;intro i;by_cases A:i<l.length
  ·simp[A]
  ·simp[A]
 unfold jb8
 conv=>rhs;rw[h]
 rw[List.countP_map];congr 1;funext i;simp only[Function.comp];rw[Bool.eq_iff_iff];simp
theorem jrM (l:List Int) (a:Option Addr) (len cap:Nat) (n:Int) (w:World) (H:SlE jaF 1 w.heap.size w a len l) (Q:Up l) (P:len<=1000) :
  CR 268 #[.slice a len cap,.int .u64 n] w (.int .i64 (jb8 l n:Nat)):=by
 have E:=H.1;obtain⟨A,I,B,C,G,X⟩:=jas w #[.slice a len cap] 33 #[.int .u64 n] 22
 have N:=Any.sort_Search Tryz.laysO16 273 #[.pointer (some ⟨w.heap.size,0,none⟩),.pointer (some ⟨w.heap.size+1,0,none⟩)] len (fun i=>decide (n<=l.getD i 0)) A (enters_of Tryz.func273 (by kernel_rfl) rfl) (by omega)
  (fun m M i O=>by
   obtain⟨x,R⟩:∃ x,l[i]? = some x:=⟨_,List.getElem?_eq_getElem (by omega)⟩;obtain⟨b,off,rfl,hb,T⟩:=H.2 i x R
   have J:A.cell? ⟨b,off+i,none⟩=some (.int .u64 x):=by
    have F:=T 0 (by omega);rw[Nat.mul_one] at F;exact (G.cell (p:=⟨b,off+i,none⟩) hb).trans F
   have U:l.getD i 0=x:=by simp[List.getD_eq_getElem?_getD,R]
   have D:∀ k (o:Nat) v,k<A.heap.size->A.cell? ⟨k,o,none⟩=some v->(grow (A.drewN m) M).cell? ⟨k,o,none⟩=some v:=fun k o v V Y=>cell_grown (a:=⟨k,o,none⟩) V Y m M
   refine (jpi w.heap.size (w.heap.size+1) b off len cap i n x _ (D _ _ _ (by omega) (cCc B 0)) (D _ _ _ (by omega) (cCc C 0)) (D _ _ _ (by omega) J) (by omega)).mono fun e w' h=>?_
   obtain⟨F,q,S⟩:=h;exact⟨by rw[F,U],q,#[],by rw[S,jqO]⟩)
  (fun i j L Z O=>by
   have F:l.getD i 0<=l.getD j 0:=by
    rcases Nat.lt_or_eq_of_le L with h | rfl
    ·have:=List.pairwise_iff_getElem.1 Q i j (by omega) (by omega) h
     rw[List.getD_eq_getElem?_getD,List.getD_eq_getElem?_getD,List.getElem?_eq_getElem (by omega),List.getElem?_eq_getElem (by omega)];simp only[Option.getD_some];omega
    ·exact Int.le_refl _
   simp only[decide_eq_true_eq] at O ⊢;omega)
 rw[E,jmT] at N;rw[E] at I ⊢;have c:A.cell? ⟨w.heap.size,0,none⟩=some (.slice a l.length cap):=by rw[<- E];exact cCc B 0
 have d:A.cell? ⟨w.heap.size+1,0,none⟩=some (.int .u64 n):=cCc C 0;clear H Q B C;go_enter Tryz.func268,Tryz.ntmps268;go_wp2_with (go_at_call 272;refine N.mono ?_;rintro e f ⟨rfl,q,M,rfl⟩);go_ret;exact⟨rfl,G.trans (below_grown_sl _ _ _ _ (by omega))⟩
theorem jud (l:List Int) (a:Option Addr) (len cap k:Nat) (n:Int) (w:World) (D:SlE jaF 1 w.heap.size w a len l) (H:k<=len) :
  CR 269 #[.slice a len cap,.int .i64 k,.int .u64 n] w (.bool (decide (l[k]? = some n))):=by
 have B:=D.1;by_cases I:k<len
 ·obtain⟨x,E⟩:∃ x,l[k]? = some x:=⟨_,List.getElem?_eq_getElem (by omega)⟩
  obtain⟨b,off,rfl,hb,F⟩:=D.2 k x E;have J:w.cell? ⟨b,off+k,none⟩=some (.int .u64 x):=by have G:=F 0 (by omega);rwa [Nat.mul_one] at G
  have A:decide (l[k]? = some n)=(x==n):=by rw[E,Bool.eq_iff_iff];simp
  have C:(k:Int)<len:=by omega
  rw[A];clear D E A F B;go_enter Tryz.func269,Tryz.ntmps269;go_wp2_with fail;go_ret;exact⟨rfl,RowKit.Below.refl _ _⟩
 ·have A:decide (l[k]? = some n)=false:=by rw[List.getElem?_eq_none (by omega)];simp
  have C:decide ((k:Int)<len)=false:=by simp;omega
  rw[A];clear D A B H;go_enter Tryz.func269,Tryz.ntmps269;go_wp2_with fail;go_ret;exact⟨rfl,RowKit.Below.refl _ _⟩
end Go.Proofs.YtnegciklhanmbaaGreatDoor
namespace Go.Proofs.YtnegciklhanmbaaGreatDoor
open Go Go.RowKit Go.Shelf
theorem jlC {w:World} {b B e size n:Nat} {v:Value} {xs:List Value} (h:w.ownsRow b e size v n xs) (hb:B<=b):w.ownsRow B e size v n xs :=
 ⟨h.1,h.2.imp id (fun ⟨g,cap,A,C,D,E⟩=>⟨g,cap,A,C,Nat.le_trans hb D,E⟩)⟩
theorem jv5 {w:World} {a:Option Addr} {len k:Nat} {l:List Int} (Q:SlE jaF 1 w.heap.size w a len l) (Z:k<=len) (Y:a=none->k=0) (R:len<=100000) (n:Int) :
  ∃ g cap A,(Builtin.append_ #[33,33] 33 #[.slice a k k,.slice (some ⟨w.heap.size,0,none⟩) 1 1]).run Tryz.prog (w.alloc (.cells #[.int .u64 n] 22))=.ok (.slice (some ⟨g,0,none⟩) (k+1) cap) A /\
   A.ownsRow w.heap.size 22 1 (.slice (some ⟨g,0,none⟩) (k+1) cap) (k+1) ((l.take k++[n]).flatMap jaF)/\Bw w A/\w.heap.size<A.heap.size:=by
 have X:=Q.1;obtain⟨i0,V,I,J,L⟩:=info_parts jeV;have O:Bw w (w.alloc (.cells #[.int .u64 n] 22)):=(Below.refl _ w).alloc (Nat.le_refl _) _;have c:(w.alloc (.cells #[.int .u64 n] 22)).heap.size=w.heap.size+1:=by simp
 have C:∀ (m:List Int),(m.flatMap jaF).length=m.length:=fun m=>by rw[jfJ jaF 1 (fun _=>rfl),Nat.mul_one]
 cases a with
 | none =>
  obtain rfl:=Y rfl;obtain⟨g,cap,A,F,D,E,T,-,-⟩:=jap Tryz.prog 33 jdg jeV rfl (by decide) (W:=w) (World.ownsRow_nil w w.heap.size 22 1) (Below.refl w.heap.size w) (Nat.le_refl _) (Nat.le_refl _) [.int .u64 n] rfl (by simp[Value.oneCell']) (by omega) (by decide);exact⟨g,cap,A,F,D,E,T⟩
 | some p =>
  obtain⟨v',A,F,D,E⟩:=run_append_arg_grows (P:=Tryz.prog) (w:=w.alloc (.cells #[.int .u64 n] 22)) 33 33 22 i0 (.int .u64 0) 1 8 jdg V I J L rfl (by decide)
   p k k ((l.take k).flatMap jaF) (by rw[C,List.length_take];omega) (fun j u B=>by
    have H:j<k:=by have h:=(List.getElem?_eq_some_iff.1 B).1;rw[C,List.length_take] at h;omega
    obtain⟨x,S⟩:∃ x,l[j]? = some x:=⟨_,List.getElem?_eq_getElem (by omega)⟩;obtain⟨b,off,e,hb,U⟩:=Q.2 j x S
    cases e
    have M:=jcC jaF 1 (fun _=>rfl) (l.take k) j 0 x (by rw[List.getElem?_take_of_lt H];exact S) (by omega);rw[Nat.mul_one,Nat.add_zero] at M;rw[M] at B;have N:=U 0 (by omega);rw[Nat.mul_one,Nat.add_zero] at N;rw[show (⟨b,off,none⟩:Addr).add j=⟨b,off+j,none⟩ by unfold Addr.add;split<;>simp_all];exact ((O.cell (p:=⟨b,off+j,none⟩) hb).trans N).trans B)
   ⟨w.heap.size,0,none⟩ 1 1 [.int .u64 n] rfl (fun j u B=>by
    have G:j=0:=by have h:=(List.getElem?_eq_some_iff.1 B).1;simp at h;exact h
    subst G;rw[show (⟨w.heap.size,0,none⟩:Addr).add 0=⟨w.heap.size,0,none⟩ by unfold Addr.add;split<;>simp_all,cCc (World.alloc_heap_new w _)];simpa using B) (by omega) (by unfold maxLen;omega) (by omega)
  obtain⟨g,cap,rfl⟩:=ownsRow_succ D;refine⟨g,cap,A,F,?_,O.grown E (by omega) (fun k e=>by cases e),by have:=E.size;omega⟩;rw[List.flatMap_append];exact jlC D (by omega)
theorem jwh (a:Option Addr) (len cap k:Nat) (w:World) (h:k<=cap):(Instr.slice 33 (.slice a len cap) none (some (.int .i64 (k:Int))) (some (.int .i64 (k:Int)))).run Tryz.prog w=.ok (.slice a k k) w:=by
 have B:=jf9 a k 1;unfold jcH at B;have C:(sizeOf 22).run Tryz.prog w=.ok 1 w:=by kernel_rfl
 have A:Tryz.prog.elem 33=22:=by kernel_rfl
 rw[run_slice_hm (t:=33) (a:=a) (len:=len) (cap:=cap) (w:=w) (ht:=by rw[A];exact jdg) (kh:=.i64) (km:=.i64) (h:=(k:Int)) (m:=(k:Int)) (by omega) (by omega) (by omega),A,C];simp only[Result.andThen,sliced,Int.toNat_natCast,Nat.sub_zero,B]
theorem jt5 (a:Option Addr) (len cap k:Nat) (w:World) (h:k<=len):(Instr.slice 33 (.slice a len cap) (some (.int .i64 (k:Int))) none none).run Tryz.prog w=.ok (.slice (jcH a cap k 1) (len-k) (cap-k)) w:=by
 have B:(sizeOf 22).run Tryz.prog w=.ok 1 w:=by kernel_rfl
 have A:Tryz.prog.elem 33=22:=by kernel_rfl
 rw[run_slice_l (t:=33) (a:=a) (len:=len) (cap:=cap) (w:=w) (ht:=by rw[A];exact jdg) (kl:=.i64) (l:=(k:Int)) (by omega) (by omega),A,B];simp only[Result.andThen,sliced,Int.toNat_natCast,jcH]
def jjn (l:List Int) (n:Int) (a:Option Addr) (w:World) (e:Ending) (w':World):Prop :=
 ∃ a' cap',e=.returned (.slice a' (jcB l n).length cap')/\SlC jaF 1 w'.heap.size w' a' (jcB l n).length cap' (jcB l n)/\(a'=a\/∀ x,a'=some x->w.heap.size<=x.block)/\Bw w w'
attribute [-go_sem] Builtin.append_ run_slice_any run_slice_hm run_slice_l
theorem ju3 (l:List Int) (a:Option Addr) (len cap:Nat) (n:Int) (w:World) (H:SlC jaF 1 w.heap.size w a len cap l) (f:Up l) (J:len<=1000) :
  Calls Tryz.prog 263 #[.slice a len cap,.int .u64 n] w (jjn l n a w):=by
 have G:=H.1.1;have I:=joS l n;have b:=jrM l a len cap n w H.1 f J;obtain⟨k,R⟩:∃ k,jb8 l n=k:=⟨_,rfl⟩;rw[R] at I b;have S:Hid (∀ C,Bw w C->CR 269 #[.slice a len cap,.int .i64 k,.int .u64 n] C (.bool (decide (l[k]? = some n)))):=fun C hb=>jud l a len cap k n C ((H.1.below hb).mono hb.size) (by omega)
 by_cases B:l[k]? = some n
 ·have F:jcB l n=l:=by unfold jcB;rw[R,if_pos B]
  unfold jjn;rw[F,<- G];rw[decide_eq_true B] at S;have U:=Lib.hid H;clear H f B F G I R;go_enter Tryz.func263,Tryz.ntmps263;go_wp2_with fail;refine b.mono ?_;rintro e C ⟨rfl,A⟩;go_wp2_with fail;refine (S.out C A).mono ?_;rintro e q ⟨rfl,M⟩;go_wp2_with fail;go_ret;have hb:=A.trans (M.mono A.size);exact⟨a,cap,rfl,(U.out.below hb).mono hb.size,.inl rfl,hb⟩
 ·have F:jcB l n=l.take k++n::l.drop k:=by unfold jcB;rw[R,if_neg B]
  unfold jjn;rw[F];rw[decide_eq_false B] at S;have U:=Lib.hid H;have hcut:=fun C=>jwh a len cap k C (by have:=H.2.1;omega)
  have d:=fun C=>jt5 a len cap k C (by omega)
  have r:Hid (a=none->k=0):=fun h=>by have:=H.2.2.2.1 h;have:=H.2.1;omega
  have T:Hid (k<=len):=by rw[G];exact I
  have Y:=Lib.hid J;have V:=Lib.hid G;clear H f B F G I R;go_enter Tryz.func263,Tryz.ntmps263;go_wp2_with fail;refine b.mono ?_;rintro e C ⟨rfl,A⟩;go_wp2_with fail;refine (S.out C A).mono ?_;rintro e q ⟨rfl,M⟩;have E:=A.trans (M.mono A.size);have N:=Lib.hid ((U.out.below E).mono E.size);obtain⟨g,c3,w3,o,P,L,i⟩:=jv5 N.out.1 T.out r.out (by have:=Y.out;omega) n;have j:=Lib.hid (((N.out.below L).mono L.size).drop k T.out);obtain⟨v4,w4,p,Q,Z,aa,-,-⟩:=jbu Tryz.prog (cap:=cap-k) 33 jdg jeV rfl (by decide) P L (Nat.le_refl _) (Nat.le_of_lt i) (fun _=>rfl) j.out.1 jmP (by have:=T.out;have:=Y.out;omega) (by have:=Y.out;omega) (by decide);have X:=Lib.hid Q;have D:=Lib.hid E;clear j P Q;go_wp2_with fail;go_ret
  have u:w4.ownsRow q.heap.size 22 1 v4 (l.take k++n::l.drop k).length ((l.take k++n::l.drop k).flatMap jaF):=by
   have m:=X.out;rw[<- List.flatMap_append,List.append_assoc,List.singleton_append] at m
   have t:(l.take k++n::l.drop k).length=k+1+(len-k):=by
    have:=T.out;have:=V.out;rw[List.length_append,List.length_take,List.length_cons,List.length_drop];omega
   rw[t];exact m
  obtain⟨s,O,y,v,c⟩:=jaM (enc:=jaF) (fun _=>rfl) u;exact⟨s,O,by rw[<- y];rfl,v,.inr (fun x z=>Nat.le_trans D.out.size (c x z)),D.out.trans (Z.mono D.out.size)⟩
end Go.Proofs.YtnegciklhanmbaaGreatDoor
namespace Go.Proofs.YtnegciklhanmbaaGreatDoor
open Go Go.RowKit Go.Shelf
attribute [local go_sem] Oper.semAt_some
theorem jnv {W:World} {g len cap Z:Nat} {A:Array Value} {a:Option Addr} {l:List Int} (L:W.heap[g]? = some (.cells A 22 (0,0))) (B:A.size=len) (I:SlE jaF 1 Z W a len l) (d:a=none->len=0) :
  ∃ D,(Builtin.copy_ #[33,33] 3 #[.slice (some ⟨g,0,none⟩) len len,.slice a len cap]).run Tryz.prog W=.ok (.int .i64 len) D/\D.heap[g]? = some (.cells (l.flatMap jaF).toArray 22 (0,0))/\Below g W D/\D.heap.size=W.heap.size/\∀ k,k≠g->D.heap[k]? = W.heap[k]? := by
 have E:=I.1;have C:(l.flatMap jaF).length=len:=by rw[jfJ jaF 1 (fun _=>rfl),Nat.mul_one,E]
 have R:(Tryz.prog.info? 22).map (·.size)=some 1:=by kernel_rfl
 rcases Nat.eq_zero_or_pos len with T | F
 ·subst T
  have X:l=[]:=List.eq_nil_of_length_eq_zero E.symm;subst X;have J:A=#[]:=Array.eq_empty_of_size_eq_zero B;subst J;exact⟨W,by rw[run_copy_none W _ _ _ 22 _ _ _ _ _ _ jdg R (by simp)];rfl,L,Below.refl _ _,rfl,fun _ _=>rfl⟩
 ·obtain⟨x,b,off,f,rfl,hb,-⟩:=I.at F
  have hr:=run_copy_row (P:=Tryz.prog) W 33 33 3 22 g 0 len len ⟨b,off,none⟩ len cap A 22 (l.flatMap jaF) jdg R L (by rw[C];simp)
   (fun j v M=>by
    have N:j<l.length:=by have h:=(List.getElem?_eq_some_iff.1 M).1;rw[C] at h;omega
    obtain⟨y,H⟩:∃ y,l[j]? = some y:=⟨_,List.getElem?_eq_getElem N⟩;obtain⟨c,S,e,U,J⟩:=I.2 j y H
    cases e
    have O:=jcC jaF 1 (fun _=>rfl) l j 0 y H (by omega);rw[Nat.mul_one,Nat.add_zero] at O;rw[O] at M;have Q:=J 0 (by omega);rw[Nat.mul_one,Nat.add_zero] at Q;rw[show (⟨b,off,none⟩:Addr).add j=⟨b,off+j,none⟩ by unfold Addr.add;split<;>simp_all];exact Q.trans M) (by rw[C,B];omega) (fun v Y=>by
    obtain⟨y,-,H⟩:=List.mem_flatMap.1 Y;exact jmP y v H)
  have G:(A.toList.take 0++l.flatMap jaF++A.toList.drop (0+(l.flatMap jaF).length)).toArray=(l.flatMap jaF).toArray:=by
   rw[List.take_zero,List.nil_append,Nat.zero_add,C,List.drop_eq_nil_of_le (by rw[Array.length_toList,B];exact Nat.le_refl _),List.append_nil]
  rw[G] at hr;exact⟨_,by rw[hr,C];rfl,setRow_heap W g A _ _ _ L,below_setRow (Below.refl _ _) (Nat.le_refl _) _,size_setRow _ _ _,fun k V=>setRow_other W g k _ V⟩
theorem jec (a:Option Addr) (len cap:Nat) (w:World) :
  Calls Tryz.prog 265 #[.slice a len cap] w fun e w'=>e=.returned (.func (.func 270) #[] #[.pointer (some ⟨w.heap.size,0,none⟩)])/\w'=w.alloc (.cells #[.slice a len cap] 33):=by
 go_enter Tryz.func265,Tryz.ntmps265;go_wp2;go_ret;exact⟨rfl,rfl⟩
theorem joR (a:Option Addr) (len cap:Nat) (w:World) :
  Calls Tryz.prog 262 #[.slice a len cap] w fun e w'=>e=.returned (.func (.func 270) #[] #[.pointer (some ⟨w.heap.size,0,none⟩)])/\w'=w.alloc (.cells #[.slice a len cap] 33):=by
 go_enter Tryz.func262,Tryz.ntmps262;go_wp2_with (go_at_call 265;refine (jec a len cap w).mono ?_;rintro e w' ⟨rfl,rfl⟩);go_ret;exact⟨rfl,rfl⟩
theorem jnm (l P O b off cap:Nat) (B:List Int) (H:B.length<4294967281) (J R:List Int->World->Prop)
  (a:∀ A x W,J A W->A.length<B.length->YieldAt Fence.wide 7 Tryz.prog l #[.int .u64 x] W fun e C =>
   (e=.returned (.bool true)/\J (A++[x]) C/\Below O W C)\/(e=.returned (.bool false)/\R (A++[x]) C))
  (W:World) (Y:W.cell? ⟨P,0,none⟩=some (.slice (some ⟨b,off,none⟩) B.length cap)) (c:SlE jaF 1 O W (some ⟨b,off,none⟩) B.length B) (V:J [] W) :
  CallsIn Fence.wide 8 Tryz.prog 270 #[.func (.yield l) #[] #[],.pointer (some ⟨P,0,none⟩)] W fun e C=>(∃ v,e=.returned v) /\
   ((∃ T,T=B/\J T C)\/(∃ A,A <+: B/\R A C)):=by
 refine callsIn_of_wp Tryz.func270 rfl trivial ?_ rfl;simp only[Tryz.ntmps270,List.size_toArray,List.length_cons,List.length_nil,Nat.reduceAdd,Nat.reduceSub,Array.replicate_succ,Array.replicate_zero,List.push_toArray,List.append_toArray,List.nil_append,List.cons_append];gi_wp2;gi_loopw [7] (fun i wr=>∃ k:Nat,k<=B.length/\i=.int .i64 k/\J (B.take k) wr/\Below O W wr) (fun i _=>B.length-(intOf i).toNat)
 case atStart=>exact⟨0,Nat.zero_le _,rfl,V,Below.refl _ _⟩
 case round =>
  obtain⟨k,m,rfl,D,G⟩:=hrel;by_cases M:k<B.length
  ·obtain⟨x,N⟩:∃ x,B[k]? = some x:=⟨_,List.getElem?_eq_getElem M⟩
   obtain⟨f,S,U,hb,F⟩:=(SlE.below G c).2 k x N
   cases U
   have g:wr.cell? ⟨b,off+k,none⟩=some (.int .u64 x):=by have X:=F 0 (by omega);rwa [Nat.mul_one] at X
   obtain⟨j,tmps,assign,body,n,Z⟩:=a _ x _ D (by simp;omega);clear F;have Q:=Lib.hid N;clear N;gi_wp2;refine Z.mono ?_;rintro e d (⟨rfl,I,L⟩ | ⟨rfl,E⟩)
   ·gi_wp2
    go_roundw
    case rel=>exact⟨k+1,by omega,by simp,by rw[List.take_add_one,Q.out];exact I,G.trans L⟩
    case measure=>simp[intOf];omega
   ·gi_wp2
    refine bodyPost_ret (results_none rfl _ _ _) rfl ?_;exact⟨⟨_,rfl⟩,.inr ⟨_,by have h:=List.take_prefix (k+1) B;rwa [List.take_add_one,Q.out] at h,E⟩⟩
  ·obtain rfl:k=B.length:=by omega
   gi_wp2
   go_end0;exact⟨⟨_,rfl⟩,.inl ⟨_,List.take_length,D⟩⟩
theorem jeH (l B:Nat) (a:Option Addr) (cap:Nat) (J:List Int->World->Prop) (W:World) (E:W.cell? ⟨B,0,none⟩=some (.slice a 0 cap)) (D:J [] W) :
  CallsIn Fence.wide 8 Tryz.prog 270 #[.func (.yield l) #[] #[],.pointer (some ⟨B,0,none⟩)] W fun e C=>(∃ v,e=.returned v)/\J [] C:=by
 refine callsIn_of_wp Tryz.func270 rfl trivial ?_ rfl;simp only[Tryz.ntmps270,List.size_toArray,List.length_cons,List.length_nil,Nat.reduceAdd,Nat.reduceSub,Array.replicate_succ,Array.replicate_zero,List.push_toArray,List.append_toArray,List.nil_append,List.cons_append];gi_wp2;gi_loopw [7] (fun i wr=>i=.int .i64 0/\J [] wr) (fun _ _=>0)
 case atStart=>exact⟨rfl,D⟩
 case round =>
  obtain⟨rfl,A⟩:=hrel;gi_wp2;go_end0;exact⟨⟨_,rfl⟩,A⟩
theorem jpF (D E:Nat) (a:Option Addr) (len cap:Nat) (C:List Int) (F:len<4294967281) (w:World) (G:D<w.heap.size) (I:E<=w.heap.size)
  (R:w.cell? ⟨D,0,none⟩=some (.slice a len cap)) (P:SlE jaF 1 E w a len C) :
  SeqStopsK Fence.wide 8 Tryz.prog 270 #[.pointer (some ⟨D,0,none⟩)] (fun x:Int=>#[.int .u64 x]) (Below E) (fun U=>U=C) (fun L=>L <+: C) C.length w:=fun l J O W N _ _ Q M=>by
 have B:=(N.cell (p:=⟨D,0,none⟩) G).trans R;have A:SlE jaF 1 E W a len C:=P.below (N.mono I);have H:=A.1;rcases Nat.eq_zero_or_pos len with h | h
 ·obtain rfl:C=[]:=List.eq_nil_of_length_eq_zero (by omega)
  rw[h] at B;exact (jeH l D a cap J W B M).mono fun e V ⟨S,T⟩=>⟨S,.inl ⟨_,rfl,T⟩⟩
 ·obtain⟨x,b,off,-,rfl,-,-⟩:=A.at h
  rw[H] at B A;exact jnm l D E b off cap C (by omega) J O Q W B A M
end Go.Proofs.YtnegciklhanmbaaGreatDoor
namespace Go.Proofs.YtnegciklhanmbaaGreatDoor
open Go Go.RowKit
theorem jc1 {B:Nat} {w:World} {a:Option Addr} {len:Nat} {l:List (Int × Int)} (h:SlE jb4 2 B w a len l) {j:Nat} (C:j<len) :
  ∃ x b off,l[j]? = some x/\a=some ⟨b,off,none⟩/\b<B/\w.cell? ⟨b,off+j*2,none⟩=some (.int .i64 x.1)/\w.cell? ⟨b,off+j*2+1,none⟩=some (.int .u64 x.2):=by
 obtain⟨x,b,off,D,e,hb,A⟩:=h.at C;exact⟨x,b,off,D,e,hb,A 0 (by omega),A 1 (by omega)⟩
theorem jxc:Tryz.prog.eqGuardType Tryz.prog.depth 97=false:=by kernel_rfl
theorem jrz (A B C D:Int) (w:World):(binOp .neq 97 (.agg #[.int .i64 A,.int .u64 B]) (.agg #[.int .i64 C,.int .u64 D])).run Tryz.prog w=.ok (.bool (!(A==C&&B==D))) w:=by
 have E:Tryz.prog.underlying 97=some (.struct (Tryz.prog.fieldsOf 97)):=by kernel_rfl
 have F:Tryz.prog.stoodInHeld 97=false:=by kernel_rfl
 have G : (Tryz.prog.fieldsOf 97).toList = [{ name := "At", type := 3, offset := 0, embedded := false, tag := "", pkgPath := "", byteOffset := 0 }, { name := "N", type := 22, offset := 1, embedded := false, tag := "", pkgPath := "", byteOffset := 8 }] := by kernel_rfl
 rw[run_neq_struct,run_equalIn_agg w 9999 _ _ _ E F,G]
 cases ha:(A==C)<;>cases hb:(B==D)<;>simp[go_sem,ha,hb,Tryz.underlying3,Tryz.underlying22]
theorem jjH (J:Int) (o:Option Addr) (A I:Nat) (b:List (Int × Int)) (L:Int) (q:Option Addr) (C E:Nat) (c:List (Int × Int)) (w:World) (P:SlE jb4 2 w.heap.size w o A b) (Q:SlE jb4 2 w.heap.size w q C c) (hm:A<=maxLen) :
  CR 130 #[.agg #[.int .i64 J,.slice o A I],.agg #[.int .i64 L,.slice q C E]] w (.bool (J==L&&b==c)):=by
 unfold maxLen at hm;obtain⟨n,v,V,X,B,O⟩:=jas w #[.int .i64 J,.slice o A I] 42 #[.int .i64 L,.slice q C E] 42;obtain⟨c0,c1⟩:=cl2 V;obtain⟨d0,d1⟩:=cl2 X;have aa:w.heap.size+1<n.heap.size:=by omega
 by_cases S:J=L
 ·have t1:(J != L)=false:=by simp[S]
  have M:Hid ((J==L)=true):=by simp[Hid,S]
  clear S;by_cases z:A=C
  ·subst z
   have t0:((A:Int) != (A:Int))=false:=by simp
   have E1:=Lib.hid P.1;have E2:=Lib.hid Q.1;have t:=P.below B;have u:=Q.below B;clear P Q O;go_enter Tryz.func130,Tryz.ntmps130;go_wp2_with fail;clear v;go_loopw [5,6,24] (fun _ _ i wr=>∃ (k:Nat),i=.int .i64 k/\k<=A/\Bw n wr/\Hid (b.take k=c.take k)) (fun _ _ i _=>A-(intOf i).toNat)
   case atStart=>exact⟨0,rfl,Nat.zero_le _,Below.refl _ _,rfl⟩
   case round =>
    obtain⟨k,rfl,hk,R,HF⟩:=hrel;have ab:=R.size;by_cases Z:k<A
    ·obtain⟨x,b1,o1,a,r,ad,p0,p1⟩:=jc1 (t.below (R.mono B.size)) Z
     obtain⟨y,H,T,hy,s,ae,q0,q1⟩:=jc1 (u.below (R.mono B.size)) Z;subst r;subst s;obtain⟨d,f⟩:=x;obtain⟨g,j⟩:=y;dsimp only at p0 p1 q0 q1;have i0:(0:Int)<=(k:Int):=by omega
     have i1:(k:Int)<(A:Int):=by omega
     have m:wr.cell? ⟨w.heap.size+1,1,none⟩=some (.slice (some ⟨H,T,none⟩) A E):=(R.cell (p:=⟨w.heap.size+1,1,none⟩) aa).trans d1;have HX:=Lib.hid a;have HY:=Lib.hid hy;obtain⟨l,ac,Y,G,af⟩:=jab wr #[.int .i64 d,.int .u64 f] 97;obtain⟨r0,r1⟩:=cl2 Y;have u0:l.cell? ⟨H,T+k*2,none⟩=some (.int .i64 g):=(G.cell (p:=⟨H,T+k*2,none⟩) (by show H<_;omega)).trans q0;have u1:l.cell? ⟨H,T+k*2+1,none⟩=some (.int .u64 j):=(G.cell (p:=⟨H,T+k*2+1,none⟩) (by show H<_;omega)).trans q1;have u2:l.cell? ⟨w.heap.size+1,1,none⟩=some (.slice (some ⟨H,T,none⟩) A E):=(G.cell (p:=⟨w.heap.size+1,1,none⟩) (by show w.heap.size+1<_;omega)).trans m;have U:Bw n l:=R.trans (G.mono ab);have n2:=jxc;clear a hy t u Y q0 q1 c0 c1 d0 d1 V X;by_cases D:d=g/\f=j
     ·have n1:∀ w,(binOp .neq 97 (.agg #[.int .i64 d,.int .u64 f]) (.agg #[.int .i64 g,.int .u64 j])).run Tryz.prog w=.ok (.bool false) w:=fun w=>by rw[jrz];simp[D.1,D.2]
      have F:=Lib.hid D;clear D;go_wp2_with fail;go_quiet (fail);go_wp2_with fail;go_roundw
      case rel=>exact⟨k+1,by go_num,by omega,bDr U _,by rw[Hid,jaf HX.out,jaf HY.out,HF.out,F.out.1,F.out.2]⟩
      case measure=>simp[intOf];omega
     ·have n1:∀ w,(binOp .neq 97 (.agg #[.int .i64 d,.int .u64 f]) (.agg #[.int .i64 g,.int .u64 j])).run Tryz.prog w=.ok (.bool true) w:=fun w=>by
       rw[jrz];have:(d==g&&f==j)=false:=by rw[Bool.eq_false_iff];intro h;simp at h;exact D h
       rw[this];rfl
      have F:=Lib.hid D;clear D;go_wp2_with fail;go_quiet (fail);go_wp2_with fail;go_ret
      have N:(b==c)=false:=by
       rw[beq_eq_false_iff_ne];intro e;have a:=HX.out;rw[e,HY.out] at a;have:=Option.some.inj a;simp only[Prod.mk.injEq] at this;exact F.out ⟨this.1.symm,this.2.symm⟩
      exact⟨by rw[N];simp,B.trans ((bDr U _).mono B.size)⟩
    ·obtain rfl:k=A:=by omega
     clear t u;go_wp2_with fail;go_ret;have h9:=HF.out;rw[List.take_of_length_le (by rw[<- E1.out];omega),List.take_of_length_le (by rw[<- E2.out];omega)] at h9;exact⟨by rw[h9,M.out];simp,B.trans (R.mono B.size)⟩
  ·have t0:((A:Int) != (C:Int))=true:=by rw[bne_iff_ne];omega
   have N:Hid ((b==c)=false):=by
    rw[Hid,beq_eq_false_iff_ne];intro e;have m:=P.1;rw[e,<- Q.1] at m;exact z m
   clear P Q z O;go_enter Tryz.func130,Tryz.ntmps130;go_wp2_with fail;go_ret;exact⟨by rw[N.out];simp,B⟩
 ·have t1:(J != L)=true:=by simp[S]
  have M:Hid ((J==L)=false):=by simp[Hid,S]
  clear S P Q O;go_enter Tryz.func130,Tryz.ntmps130;go_wp2_with fail;go_ret;exact⟨by rw[M.out];rfl,B⟩
end Go.Proofs.YtnegciklhanmbaaGreatDoor
namespace Go.Proofs.YtnegciklhanmbaaGreatDoor
open Go Go.RowKit
def jsT (b n:Nat):Nat:=n / 2^(64-b)
def jgB (b n:Nat):Nat:=if n*2^b % 2^64=0 then 65-b else 65-Lib.bitLen (n*2^b % 2^64)
def jbx (r:List Nat) (p k:Nat):List Nat:=r.set p (max (r.getD p 0) k)
def jlg (b:Nat) (r:List Nat) (n:Nat):List Nat:=jbx r (jsT b n) (jgB b n)
def jgf (b:Nat) (r:List Nat) (l:List Nat):List Nat:=l.foldl (jlg b) r
def upR (x:Nat):Nat:=if x=0 then 0 else x+1
def jsW (x:Nat):Nat:=if x=0 then 0 else 1
def jio (b:Nat) (r:List Nat):List Nat:=(List.range (2^(b-1))).map fun i=>max (upR (r.getD (2*i) 0)) (jsW (r.getD (2*i+1) 0))
def jcl (b:Nat):List Nat:=List.replicate (2^b) 0
theorem jfD (x:Nat) (h:x<2^64) (A:x≠0):1<=Lib.bitLen x/\2^(Lib.bitLen x-1)<=x/\x<2^Lib.bitLen x:=Lib.bitLenAux_bounds 64 x h A
theorem jhl (x:Nat) (h:x<2^64) (A:x≠0):Lib.bitLen x<=64:=by
 obtain⟨B,C,D⟩:=jfD x h A;apply Classical.byContradiction;intro E;have:2^64<=2^(Lib.bitLen x-1):=Nat.pow_le_pow_right (by omega) (by omega);omega
theorem jhG (b n:Nat) (hb:b<=8):jgB b n<=65-b:=by
 unfold jgB;split
 ·omega
 ·rename_i h
  obtain⟨C,D,E⟩:=jfD _ (Nat.mod_lt (n*2^b) (by decide:0<2^64)) h
  have A:2^b ∣ n*2^b % 2^64:=by
   have B:2^b ∣ 2^64:=Nat.pow_dvd_pow 2 (by omega);exact (Nat.dvd_mod_iff B).2 (Nat.dvd_mul_left _ _)
  have F:2^b<=n*2^b % 2^64:=Nat.le_of_dvd (by omega) A;have G:b<Lib.bitLen (n*2^b % 2^64):=(Nat.pow_lt_pow_iff_right (by omega:1<2)).1 (by omega);omega
theorem jqW (b n:Nat) (hb:b<=8) (A:n<2^64):jsT b n<2^b:=by
 unfold jsT;rw[Nat.div_lt_iff_lt_mul (Nat.two_pow_pos _),<- Nat.pow_add,show b+(64-b)=64 by omega];exact A
theorem jcr (r:List Nat) (p k:Nat):(jbx r p k).length=r.length:=by simp[jbx]
theorem jhE (b:Nat) (r:List Nat) (n:Nat):(jlg b r n).length=r.length:=jcr _ _ _
theorem jfO (b:Nat):∀ (l r:List Nat),(jgf b r l).length=r.length
 | [],_=>rfl
 | x::l,r=>by
  show (jgf b (jlg b r x) l).length=_;rw[jfO b l,jhE]
theorem jhF (b:Nat) (r:List Nat):(jio b r).length=2^(b-1):=by simp[jio]
theorem jt6 (r:List Nat) (p i v:Nat):(r.set p v).getD i 0=if p=i/\i<r.length then v else r.getD i 0:=by
 simp only[List.getD_eq_getElem?_getD,List.getElem?_set];by_cases h:p=i
 ·subst h
  by_cases A:p<r.length
  ·simp[A]
  ·simp[A]
 ·simp[h]
theorem jh7 (r:List Nat) (p i k:Nat):(jbx r p k).getD i 0=if p=i/\i<r.length then max (r.getD i 0) k else r.getD i 0:=by
 unfold jbx;rw[jt6];split
 ·rename_i h;rw[h.1]
 ·rfl
theorem jfK (r s:List Nat) (C:r.length=s.length) (h:∀ i,i<r.length->r.getD i 0=s.getD i 0):r=s:=by
 apply List.ext_getElem C;intro i A B;have:=h i A;simpa [List.getD_eq_getElem?_getD,List.getElem?_eq_getElem A,List.getElem?_eq_getElem B] using this
theorem jvo (b:Nat) (r:List Nat) (i:Nat) (A:i<2^(b-1)):(jio b r).getD i 0=max (upR (r.getD (2*i) 0)) (jsW (r.getD (2*i+1) 0)):=by
 simp[jio,List.getD_eq_getElem?_getD,A]
theorem jwG (x:Nat):jsW x<=1:=by unfold jsW;split<;>omega
theorem jlh (r:List Nat) (p k m:Nat) (hr:∀ i,r.getD i 0<=m) (A:k<=m):∀ i,(jbx r p k).getD i 0<=m:=fun i=>by
 rw[jh7];have:=hr i;split<;>omega
end Go.Proofs.YtnegciklhanmbaaGreatDoor
namespace Go.Proofs.YtnegciklhanmbaaGreatDoor
open Go Go.RowKit
def jeb (a b:Int):Int:=if 18446744073709551615-a<b then 18446744073709551615 else a+b
def jjv (c row h:Nat):Nat:=row*c+(h / 4294967296+row*(h % 4294967296)) % c
def jqv (l:List Int) (p:Nat) (n:Int):List Int:=l.set p (jeb (l.getD p 0) n)
def jju (c:Nat) (l:List Int) (h:Nat) (n:Int):List Int:=jqv (jqv l (jjv c 0 h) n) (jjv c 1 h) n
def jf7 (c:Nat) (l:List Int):List Int:=(List.range (c / 2+c / 2)).map fun p=>jeb (l.getD (p / (c / 2)*c+p % (c / 2)) 0) (l.getD (p / (c / 2)*c+p % (c / 2)+c / 2) 0)
def jvc (c:Nat):List Int:=List.replicate (c+c) 0
theorem jcT (a b:Int) (ha:U64 a) (hb:U64 b):U64 (jeb a b):=by
 unfold U64 jeb at *;split<;>omega
theorem jsD:U64 0:=by unfold U64;omega
theorem jbe (l:List Int) (h:jdh l) (i:Nat):U64 (l.getD i 0):=by
 by_cases A:i<l.length
 ·rw[List.getD_eq_getElem?_getD,List.getElem?_eq_getElem A]
  exact h _ (List.getElem_mem _)
 ·rw[List.getD_eq_getElem?_getD,List.getElem?_eq_none (by omega)]
  exact jsD
theorem jld (r:List Int) (p i:Nat) (v:Int):(r.set p v).getD i 0=if p=i/\i<r.length then v else r.getD i 0:=by
 simp only[List.getD_eq_getElem?_getD,List.getElem?_set];by_cases h:p=i
 ·subst h
  by_cases A:p<r.length
  ·simp[A]
  ·simp[A]
 ·simp[h]
theorem jlc (r s:List Int) (C:r.length=s.length) (h:∀ i,i<r.length->r.getD i 0=s.getD i 0):r=s:=by
 apply List.ext_getElem C;intro i A B;have:=h i A;simpa [List.getD_eq_getElem?_getD,List.getElem?_eq_getElem A,List.getElem?_eq_getElem B] using this
theorem jk0 (l:List Int) (p:Nat) (n:Int):(jqv l p n).length=l.length:=by simp[jqv]
theorem jkY (c:Nat) (l:List Int) (h:Nat) (n:Int):(jju c l h n).length=l.length:=by rw[jju,jk0,jk0]
theorem jk1 (l:List Int) (p:Nat) (n:Int) (A:jdh l) (B:U64 n):jdh (jqv l p n):=by
 intro x C;rcases List.mem_or_eq_of_mem_set C with h | rfl
 ·exact A x h
 ·exact jcT _ _ (jbe l A p) B
theorem jqs (c:Nat) (l:List Int) (h:Nat) (n:Int) (B:jdh l) (A:U64 n):jdh (jju c l h n):=jk1 _ _ _ (jk1 _ _ _ B A) A
theorem jhn (c:Nat) (l:List Int):(jf7 c l).length=c / 2+c / 2:=by simp[jf7]
theorem jtO (c:Nat) (l:List Int) (p:Nat) (A:p<c / 2+c / 2):(jf7 c l).getD p 0=jeb (l.getD (p / (c / 2)*c+p % (c / 2)) 0) (l.getD (p / (c / 2)*c+p % (c / 2)+c / 2) 0):=by
 simp[jf7,List.getD_eq_getElem?_getD,A]
theorem jqt (c:Nat) (l:List Int) (A:jdh l):jdh (jf7 c l):=by
 intro x B;obtain⟨p,-,rfl⟩:=List.mem_map.1 B;exact jcT _ _ (jbe l A _) (jbe l A _)
end Go.Proofs.YtnegciklhanmbaaGreatDoor
