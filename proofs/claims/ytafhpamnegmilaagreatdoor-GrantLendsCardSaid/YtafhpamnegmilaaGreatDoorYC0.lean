/- Slices by their elements: whatever address an empty one has. Of no program. Sketches as plain data; which are right (layers 6 to 10). No program in sight. A sketch as an argument has it. Exact sets as plain data: insertion into rising numbers. No program in sight. slices.Clone at []uint64, []api.Bin, []api.Label: printed by wip/tools/gen_x5.py. Package exact: Right, Same; slices.Equal and slices.Clone at []uint64. slices.Equal at []uint64; exact.Same, cms.Same, hist.Same: printed by wip/tools/gen_x7.py. Package exact: place, isAt, with. An address moved on, as a slice expression moves it. Of no program. Package exact: with. Registers as plain data: what a number tells, and the registers of one digit less. No program in sight. Counters as plain data: a number added, half as many columns. No program in sight. -/
import Derived.Lib.SliceRun
import Derived.Shelf.SlSorted.Search
import Derived.ArgAppend
import Derived.Lib.BitFns
import Derived.Lib.ItoaNum
import Derived.Test.YtafhpamnegmilaaGreatDoorYM2
set_option maxHeartbeats 2000000
set_option maxRecDepth 100000
namespace Go.Proofs.YtafhpamnegmilaaGreatDoor
open Go Go.RowKit Go.ChangeShapes Go.WideShapes Go.Deep
def U64 (n:Int):Prop:=0<=n/\n<=18446744073709551615
def SlE {α:Type} (enc:α->List Value) (k:Nat) (n₀:Nat) (w:World) (a:Option Addr) (len:Nat) (l:List α):Prop :=
 len=l.length/\∀ j x,l[j]? = some x->∃ b off,a=some ⟨b,off,none⟩/\b<n₀/\∀ i,i<k->w.cell? ⟨b,off+j*k+i,none⟩=(enc x)[i]?
section
variable {α:Type} {enc:α->List Value} {k n₀ n₁:Nat} {w A B:World} {a:Option Addr} {len cap:Nat} {l:List α}
theorem SlE.below (h:Below n₀ A B) (C:SlE enc k n₀ A a len l):SlE enc k n₀ B a len l :=
 ⟨C.1,fun j x E=>let ⟨b,off,e,hb,hc⟩:=C.2 j x E;⟨b,off,e,hb,fun i D=>(h.cell (p:=⟨b,off+j*k+i,none⟩) hb).trans (hc i D)⟩⟩
theorem SlE.mono (B:n₀<=n₁) (A:SlE enc k n₀ w a len l):SlE enc k n₁ w a len l :=
 ⟨A.1,fun j x C=>let ⟨b,off,e,hb,hc⟩:=A.2 j x C;⟨b,off,e,Nat.lt_of_lt_of_le hb B,hc⟩⟩
theorem SlE.go (C:SlE enc k A.heap.size A a len l) (h:Bw A B):SlE enc k B.heap.size B a len l:=(C.below h).mono h.size
theorem SlE.of_at (A:∀ x,(enc x).length=k) (h:SlAt n₀ w (.slice a len cap) l.length (l.flatMap enc)):SlE enc k n₀ w a len l:=SlAt.elems A h
theorem SlE.nil:SlE enc k n₀ w a 0 []:=⟨rfl,fun j x h=>by simp at h⟩
theorem SlE.drew (A:SlE enc k n₀ w a len l):SlE enc k n₀ w.drew a len l:=A
theorem SlE.take (B:SlE enc k n₀ w a len l) (m:Nat) (C:m<=len):SlE enc k n₀ w a m (l.take m) :=
 ⟨by have:=B.1;simp;omega,fun j x A=>B.2 j x (by rw[List.getElem?_take] at A;split at A;exact A;cases A)⟩
theorem SlE.drop {b off:Nat} (A:SlE enc k n₀ w (some ⟨b,off,none⟩) len l) (m:Nat):SlE enc k n₀ w (some ⟨b,off+m*k,none⟩) (len-m) (l.drop m) :=
 ⟨by have:=A.1;simp;omega,fun j x B=>by
  rw[List.getElem?_drop] at B;obtain⟨G,C,e,D,E⟩:=A.2 (m+j) x B;injection e with e1
  injection e1 with e1 e2
  subst e1;subst e2;refine⟨b,off+m*k,rfl,D,fun i F=>?_⟩;rw[<- E i F];congr 2;rw[Nat.add_mul];omega⟩
theorem SlE.at (A:SlE enc k n₀ w a len l) {j:Nat} (E:j<len):∃ x b off,l[j]? = some x/\a=some ⟨b,off,none⟩/\b<n₀/\∀ i,i<k->w.cell? ⟨b,off+j*k+i,none⟩=(enc x)[i]? := by
 have F:=A.1;obtain⟨x,B⟩:∃ x,l[j]? = some x:=⟨_,List.getElem?_eq_getElem (by omega)⟩;obtain⟨b,off,e,C,D⟩:=A.2 j x B;exact⟨x,b,off,B,e,C,D⟩
theorem SlE.set_far {p:Addr} (C:∀ x,a=some x->p.block≠x.block) (v:Value) (A:SlE enc k n₀ w a len l):SlE enc k n₀ (w.setCell p v) a len l :=
 ⟨A.1,fun j x D=>let ⟨b,off,e,hb,hc⟩:=A.2 j x D;⟨b,off,e,hb,fun i B=>by rw[World.cell?_setCell_other (h:=fun h=>C _ e (by rw[h]))];exact hc i B⟩⟩
end
def SlC {α:Type} (enc:α->List Value) (k:Nat) (n₀:Nat) (w:World) (a:Option Addr) (len cap:Nat) (l:List α):Prop :=
 SlE enc k n₀ w a len l/\len<=cap/\cap<=maxLen/\(a=none->cap=0)/\∀ x,a=some x->0<cap->x.spot=none/\x.block<n₀
section
variable {α:Type} {enc:α->List Value} {k n₀ n₁:Nat} {w A B:World} {a:Option Addr} {len cap:Nat} {l:List α}
theorem SlC.below (h:Below n₀ A B) (C:SlC enc k n₀ A a len cap l):SlC enc k n₀ B a len cap l:=⟨C.1.below h,C.2⟩
theorem SlC.mono (B:n₀<=n₁) (A:SlC enc k n₀ w a len cap l):SlC enc k n₁ w a len cap l :=
 ⟨A.1.mono B,A.2.1,A.2.2.1,A.2.2.2.1,fun x e C=>let ⟨h1,h2⟩:=A.2.2.2.2 x e C;⟨h1,Nat.lt_of_lt_of_le h2 B⟩⟩
theorem SlC.go (C:SlC enc k A.heap.size A a len cap l) (h:Bw A B):SlC enc k B.heap.size B a len cap l:=(C.below h).mono h.size
theorem SlC.take (A:SlC enc k n₀ w a len cap l) (m:Nat) (B:m<=len):SlC enc k n₀ w a m cap (l.take m):=⟨A.1.take m B,Nat.le_trans B A.2.1,A.2.2⟩
theorem SlC.nil:SlC enc k n₀ w none 0 0 ([]:List α):=⟨SlE.nil,Nat.le_refl _,Nat.zero_le _,fun _=>rfl,fun x h=>by cases h⟩
theorem SlC.set_far {p:Addr} (B:∀ x,a=some x->p.block≠x.block) (v:Value) (A:SlC enc k n₀ w a len cap l):SlC enc k n₀ (w.setCell p v) a len cap l:=⟨A.1.set_far B v,A.2⟩
end
section
variable {α:Type} {enc:α->List Value} {k n₀:Nat} {w:World} {a:Option Addr} {len cap:Nat} {l:List α}
theorem SlE.to_at (L:∀ x,(enc x).length=k) (D:0<len) (h:SlE enc k n₀ w a len l):SlAt n₀ w (.slice a len cap) l.length (l.flatMap enc):=by
 obtain⟨S,b,off,-,H,O,-⟩:=h.at D;refine .inr ⟨b,off,cap,by rw[H,h.1],O,fun i A=>?_⟩;rw[jgb enc k L] at A
 have G:0<k:=by
  rcases Nat.eq_zero_or_pos k with E | E
  ·subst E;simp at A
  ·exact E
 have F:=Nat.div_add_mod i k;have Q:i / k<l.length:=Nat.div_lt_of_lt_mul (by rw[Nat.mul_comm];exact A);have hr:i % k<k:=Nat.mod_lt _ G;obtain⟨y,M⟩:∃ y,l[i / k]? = some y:=⟨_,List.getElem?_eq_getElem Q⟩;obtain⟨R,N,C,_,P⟩:=h.2 _ y M;rw[H] at C;injection C with B
 injection B with B e2
 subst B;subst e2;have I:=P _ hr;have J:=jeB enc k L l (i / k) (i % k) y M hr;have B:i / k*k+i % k=i:=by rw[Nat.mul_comm];exact F
 rw[Nat.add_assoc,B] at I;rw[B] at J;rw[I,J]
end
theorem jaE (P:Program) {α:Type} {enc:α->List Value} {t e:TypeId} {z:Value} {A F:Nat} (d:TypeId) (ht:P.underlying t=some (.slice e)) (G:(P.info? e).map (fun i=>(i.zero,i.size,i.bytes))=some (some z,A,F)) (V:z.cells.size=A) (U:0<A)
  {W f:World} {B C:Nat} {v:Value} {a:Option Addr} {n m cap:Nat} {xs:List Value} {l:List α} (D:W.ownsRow C e A v n xs) (Y:Below B f W) (N:B<=C) (H:C<=W.heap.size) (b:∀ x,(enc x).length=A) (E:SlE enc A W.heap.size W a m l) (j:∀ x,∀ u∈enc x,u.oneCell'=true)
  (q:n<2147483648) (p:m<2147483648) (O:F<=4096) :
  ∃ v' I,(Builtin.append_ #[t,t] d #[v,.slice a m cap]).run P W=.ok v' I/\I.ownsRow C e A v' (n+m) (xs++l.flatMap enc)/\Below B f I/\W.heap.size<=I.heap.size/\(∀ k,k<C->I.heap[k]? = W.heap[k]?)/\(∀ k,k<W.heap.size->some k≠v.ownBlock->I.heap[k]? = W.heap[k]?):=by
 rcases Nat.eq_zero_or_pos m with h | L
 ·subst h
  obtain rfl:l=[]:=List.eq_nil_of_length_eq_zero E.1.symm;obtain⟨i0,Z,w,y,aa⟩:=info_parts G;refine⟨v,W,?_,by simpa using D,Y,Nat.le_refl _,fun _ _=>rfl,fun _ _ _=>rfl⟩
  obtain⟨X,c,rfl⟩:∃ a c,v=.slice a n c:=by
   rcases D.2 with⟨rfl,rfl⟩ | ⟨g,cap,M,rfl,_⟩
   ·exact⟨none,0,rfl⟩
   ·exact⟨_,cap,rfl⟩
  cases a <;>
  ·rcases D.2 with⟨Q,S⟩ | ⟨g,cap,M,Q,hg,o,T,_⟩
   ·obtain⟨rfl,_,rfl⟩:X=none/\n=0/\c=0:=by simpa using Q
    subst S;simp[Builtin.append_,run_underlying ht,sizeOf,typeInfo,Z,Builtin.lenOf,Builtin.firstCells,loadCells,loadCellsFrom]
   ·obtain⟨rfl,rfl⟩:X=some ⟨g,0,none⟩/\c=cap:=by simpa using Q
    simp[Builtin.append_,run_underlying ht,sizeOf,typeInfo,Z,Builtin.lenOf,Builtin.firstCells,T,storeCells,loadCells,loadCellsFrom]
 ·have J:=E.to_at (cap:=cap) b L
  rw[<- E.1] at J;have R:(l.flatMap enc).length=m*A:=by rw[jgb enc A b,E.1]
  exact jmJ P d ht G V U D Y N H J R (fun u r=>by obtain⟨x,_,s⟩:=List.mem_flatMap.1 r;exact j x u s) q p O
theorem jaz {α:Type} {enc:α->List Value} {w:World} {B e A:Nat} {v:Value} {l:List α} (L:∀ x,(enc x).length=A) (h:w.ownsRow B e A v l.length (l.flatMap enc)) :
  ∃ a cap,v=.slice a l.length cap/\SlC enc A w.heap.size w a l.length cap l/\∀ x,a=some x->B<=x.block:=by
 have E:=je4 h;rcases h.2 with⟨rfl,N⟩ | ⟨g,cap,G,rfl,I,J,D,C,H,ht⟩
 ·have M:l=[]:=List.eq_nil_of_length_eq_zero N
  subst M;exact⟨none,0,rfl,SlC.nil,fun x h=>by cases h⟩
 ·refine⟨_,cap,rfl,⟨SlE.of_at L E,D,C,(fun h=>by cases h),fun x F _=>?_⟩,fun x F=>?_⟩
  ·cases F;exact⟨rfl,(Array.getElem?_eq_some_iff.1 J).1⟩
  ·cases F;exact I
section
variable {H:Type} {enc:TypeId × Value->H} {P:Program} {w:World} {base:Nat} {held:Bool}
theorem jnN {α:Type} {t e:TypeId} {k:Nat} {encA:α->List Value} (hk:0<k) (ht:P.underlying t=some (.slice e)) (p:P.cellsOf e=k)
  (V:∀ n cs x,DataW.trod enc P w base (fun _=>true) held n e cs=some x->∃ y,cs=encA y) {M:Nat} {a:Option Addr} {len cap:Nat} {x:DataW H × List MemPlace}
  (h:DataW.trod enc P w base (fun _=>true) held M t [.slice a len cap]=some x) :
  ∃ l:List α,SlC encA k w.heap.size w a len cap l:=by
 rcases open_slice ht h with⟨o,_⟩ | ⟨A,u,g,m,n,D,Pl,Q,-,q,f,s,-,R⟩
 ·simp only[List.cons.injEq,and_true,Value.slice.injEq] at o
  obtain⟨rfl,rfl,rfl⟩:=o;exact⟨[],SlC.nil⟩
 ·simp only[List.cons.injEq,and_true,Value.slice.injEq] at Q
  obtain⟨rfl,rfl,rfl⟩:=Q;rw[if_pos rfl] at s;subst s
  have B:∀ i,i<m->∃ y,A.spot=none/\A.block<w.heap.size/\∀ j,j<k->w.cell? ⟨A.block,A.off+i*k+j,none⟩=(encA y)[j]? := fun i b=>by
   obtain⟨v,E,F⟩:=R i b;obtain⟨y,rfl⟩:=V _ _ _ F;rw[p] at E;obtain⟨_,r,U⟩:=World.cells?_some E
   have I:A.spot=none/\A.block<w.heap.size:=by
    obtain⟨aa,N,ab⟩:=R 0 (by omega);rw[p,Nat.zero_mul] at N;obtain⟨_,c,O⟩:=World.cells?_some N;have J:=O 0 hk;have ea:(A.add 0).add 0=A:=by simp[Addr.add]
    rw[ea,List.getElem?_eq_getElem (by omega)] at J;refine⟨?_,World.block_lt_of_cell? w _ J⟩;unfold World.cell? at J
    cases hs:A.spot with
    | none=>rfl
    | some z =>
     rw[hs] at J;split at J<;>simp at J
   refine⟨y,I.1,I.2,fun j hj=>?_⟩;have:=U j hj;rw[jhy I.1,jhy rfl] at this;exact this
  have X:∃ l:List α,l.length=len/\∀ i y,l[i]? = some y->A.spot=none/\A.block<w.heap.size/\∀ j,j<k->w.cell? ⟨A.block,A.off+i*k+j,none⟩=(encA y)[j]? := by
   have C:∀ i,i<len->∃ y,A.spot=none/\A.block<w.heap.size/\∀ j,j<k->w.cell? ⟨A.block,A.off+i*k+j,none⟩=(encA y)[j]? := fun i R=>B i (by omega)
   clear R q h B
   induction len with
   | zero=>exact⟨[],rfl,fun i y h=>by simp at h⟩
   | succ n ih =>
    obtain⟨l,E,F⟩:=ih (fun i R=>C i (by omega));obtain⟨y,T⟩:=C n (by omega);refine⟨l++[y],by simp[E],fun i z L=>?_⟩;by_cases Z:i<l.length
    ·rw[List.getElem?_append_left Z] at L
     exact F i z L
    ·have Y:=(List.getElem?_eq_some_iff.1 L).1
     have:i=n:=by simp at Y;omega
     subst this;rw[List.getElem?_append_right (by omega),E] at L;simp at L;subst L;exact T
  obtain⟨l,d,G⟩:=X;refine⟨l,⟨d.symm,fun j y T=>?_⟩,q,f,fun h=>by (cases h),fun y T S=>?_⟩
  ·obtain⟨E,F,h3⟩:=G j y T
   exact⟨A.block,A.off,by congr 1;cases A;simp_all,F,h3⟩
  ·cases T
   obtain⟨_,E,F,_⟩:=B 0 S;exact⟨E,F⟩
end
def jmX (n:Int) (s:ByteArray):ByteArray:=s.extract 0 (min (s.size:Int) n).toNat
theorem jlv (n:Nat) (s:ByteArray):(jmX n s).size=min s.size n:=by simp[jmX];omega
theorem jmY (n:Nat) (A:n<4294967281) (s:ByteArray):(jmX n s).size<4294967281:=by rw[jlv];omega
end Go.Proofs.YtafhpamnegmilaaGreatDoor
namespace Go.Proofs.YtafhpamnegmilaaGreatDoor
open Go Go.RowKit
structure Sk where
 kind:Int
 level:Int
 e:List Int
 hb:Int
 hr:ByteArray
 cr:Int
 cc:Int
 cl:List Int
 gf:Int
 gl:List (Int × Int)
def jaG (n:Int):List Value:=[.int .u64 n]
def jbO (b:Int × Int):List Value:=[.int .i64 b.1,.int .u64 b.2]
def jc8 (l:List Int):Prop:=∀ n∈l,U64 n
def I64 (n:Int):Prop := -9223372036854775808<=n/\n<=9223372036854775807
def jsG (l:List (Int × Int)):Prop:=∀ b∈l,I64 b.1/\U64 b.2
def jda (st:Option Int) (n:Int):Option (Option Int):=if (match st with | none=>false | some m=>decide (n<=m)) then none else some (some n)
def jaH (l:List Int):Bool:=decide (l.length<=64)&&(jb7 jda none l).isSome
theorem jm1 (l:List Int):∀ B r,jb7 jda B l=some r->r=l.getLast?.or B:=by
 induction l with
 | nil=>intro B r h;simpa [jgc] using h.symm
 | cons x xs ih =>
  intro B r h;rw[jdj] at h
  cases A:jda B x with
  | none=>rw[A] at h;cases h
  | some y =>
   rw[A] at h
   have C:y=some x:=by
    unfold jda at A;generalize (match B with | none=>false | some m=>decide (x<=m))=c at A
    cases c
    ·simpa using A.symm
    ·simp at A
   have:=ih y r h;rw[this,C,List.getLast?_cons]
   cases xs.getLast?<;>rfl
def jbP (n:Int):Bool:=decide (3<=n)&&decide (n<=8)
def jcC (b:Int) (r:ByteArray):Bool:=r.data.toList.all fun c => !decide (65-b<(c.toNat:Int))
def jaT (b:Int) (r:ByteArray):Bool:=jbP b&&((r.size:Int)==2^b.toNat)&&jcC b r
def jbn (rows cols:Int):Bool:=decide (1<=rows)&&decide (rows<=4)&&decide (4<=cols)&&decide (cols<=32)&&(bits .and .i64 cols (cols-1)==0)
def jaN (rows cols:Int) (l:List Int):Bool:=jbn rows cols&&((l.length:Int)==rows*cols)
def jaq (n:Int):Bool:=decide (0<=n)&&decide (n<=3)
def jao (fine n:Int):Bool :=
 if jaq fine&&decide (0<=n) then
  (if n==0 then true else if 64<=(n-1) / 2^fine.toNat then false else if fine<=(n-1) / 2^fine.toNat then true
   else bits .and .i64 (bits .and .i64 (n-1) (2^fine.toNat-1)) (2^(fine-(n-1) / 2^fine.toNat).toNat-1)==0)
 else false
def jbw (fine:Int) (before:Int) (b:Int × Int):Option Int:=if b.2==0 || !jao fine b.1||decide (b.1<=before) then none else some b.1
def jaP (fine:Int) (l:List (Int × Int)):Bool:=jaq fine&&(jb7 (jbw fine) (-1) l).isSome
def jaF (kind:Int):Int:=if kind==1 then 4 else if kind==2||kind==3 then 3 else -1
def jaM (x:Sk):Bool :=
 if x.kind==1 then (if x.level==0 then jaH x.e else jaT x.hb x.hr&&(x.hb==8-x.level))
 else if x.kind==2 then jaN x.cr x.cc x.cl&&(x.cr==2)&&(x.cc==32 / 2^x.level.toNat)
 else jaP x.gf x.gl&&(x.gf==3-x.level)
def jaw (x y:Sk):Bool:=x.kind==y.kind&&x.level==y.level&&(x.hb==y.hb&&x.hr.toList==y.hr.toList)&&x.e==y.e&&(x.cr==y.cr&&x.cc==y.cc&&x.cl==y.cl)&&(x.gf==y.gf&&x.gl==y.gl)
structure SS where
 ea:Option Addr
 el:Nat
 ec:Nat
 ca:Option Addr
 cl:Nat
 cc:Nat
 ga:Option Addr
 gl:Nat
 gc:Nat
structure SS.At (s:SS) (n₀:Nat) (w:World) (x:Sk):Prop where
 e:SlC jaG 1 n₀ w s.ea s.el s.ec x.e
 c:SlC jaG 1 n₀ w s.ca s.cl s.cc x.cl
 g:SlC jbO 2 n₀ w s.ga s.gl s.gc x.gl
theorem SS.At.go {s:SS} {A B:World} {x:Sk} (h:s.At A.heap.size A x) (C:Bw A B):s.At B.heap.size B x:=⟨h.e.go C,h.c.go C,h.g.go C⟩
theorem SS.At.below {s:SS} {n:Nat} {A B:World} {x:Sk} (h:s.At n A x) (C:Below n A B):s.At n B x:=⟨h.e.below C,h.c.below C,h.g.below C⟩
theorem SS.At.mono {s:SS} {n m:Nat} {A:World} {x:Sk} (h:s.At n A x) (B:n<=m):s.At m A x:=⟨h.e.mono B,h.c.mono B,h.g.mono B⟩
def jr6 (x:Sk) (s:SS):Value:=.agg #[.int .i64 x.kind,.int .i64 x.level,.slice s.ea s.el s.ec,.int .i64 x.hb,.string x.hr,.int .i64 x.cr,.int .i64 x.cc,.slice s.ca s.cl s.cc,.int .i64 x.gf,.slice s.ga s.gl s.gc]
def Sk.ok (x:Sk):Prop:=I64 x.kind/\I64 x.level/\jc8 x.e/\I64 x.hb/\I64 x.cr/\I64 x.cc/\jc8 x.cl/\I64 x.gf/\jsG x.gl
end Go.Proofs.YtafhpamnegmilaaGreatDoor
namespace Go.Proofs.YtafhpamnegmilaaGreatDoor
open Go Go.RowKit
structure Sk.arg (x:Sk):Prop where
 e:jc8 x.e
 c:jc8 x.cl
 g:∀ z∈x.gl,I64 z.1/\U64 z.2
end Go.Proofs.YtafhpamnegmilaaGreatDoor
namespace Go.Proofs.YtafhpamnegmilaaGreatDoor
open Go Go.RowKit
abbrev Up (l:List Int):Prop:=l.Pairwise (· < ·)
def jcq (l:List Int) (n:Int):Nat:=l.countP (fun x=>decide (x<n))
def jc2 (l:List Int) (n:Int):List Int:=if l[jcq l n]? = some n then l else l.take (jcq l n)++n::l.drop (jcq l n)
def jff:List Int->Int->List Int
 | [],n=>[n]
 | x::xs,n=>if x<n then x::jff xs n else if x=n then x::xs else n::x::xs
theorem jpb (l:List Int) (n:Int):jcq l n<=l.length:=List.countP_le_length
theorem jfR {x:Int} {xs:List Int} (h:Up (x::xs)):Up xs/\∀ y∈xs,x<y:=⟨(List.pairwise_cons.1 h).2,(List.pairwise_cons.1 h).1⟩
theorem jga:∀ (l:List Int) (n:Int),Up l->jc2 l n=jff l n
 | [],n,_=>by simp[jc2,jff,jcq]
 | x::xs,n,h=>by
  obtain⟨D,E⟩:=jfR h;have F:=jga xs n D;unfold jc2 jff;by_cases A:x<n
  ·have B:jcq (x::xs) n=jcq xs n+1:=by simp[jcq,A]
   rw[B,if_pos A,<- F];unfold jc2;simp only[List.getElem?_cons_succ,List.take_succ_cons,List.drop_succ_cons];split
   ·rfl
   ·rfl
  ·have B:jcq (x::xs) n=0:=by
    unfold jcq;rw[List.countP_eq_zero];intro y C;rcases List.mem_cons.1 C with rfl | C
    ·simpa using A
    ·have:=E y C
     simp;omega
   rw[B,if_neg A];simp only[List.getElem?_cons_zero,Option.some.injEq,List.take_zero,List.drop_zero,List.nil_append]
theorem jfg:∀ (l:List Int) (n y:Int),y∈jff l n↔y=n\/y∈l
 | [],n,y=>by simp[jff]
 | x::xs,n,y=>by
  unfold jff;split
  ·rw[List.mem_cons,jfg xs n y,List.mem_cons]
   constructor
   ·rintro (h | h | h)<;>simp[h]
   ·rintro (h | h | h)<;>simp[h]
  ·split
   ·rename_i B A
    subst A;simp
   ·simp
theorem jgF:∀ (l:List Int) (n:Int),Up l->Up (jff l n)
 | [],n,_=>by simp[jff]
 | x::xs,n,h=>by
  obtain⟨C,B⟩:=jfR h;unfold jff;split
  ·rename_i D
   refine List.pairwise_cons.2 ⟨fun y A=>?_,jgF xs n C⟩;rcases (jfg xs n y).1 A with rfl | A
   ·exact D
   ·exact B y A
  ·split
   ·exact h
   ·rename_i E F
    refine List.pairwise_cons.2 ⟨fun y A=>?_,h⟩;rcases List.mem_cons.1 A with rfl | A
    ·omega
    ·have:=B y A;omega
theorem jom:∀ (l:List Int) (n:Int),(jff l n).length<=l.length+1/\l.length<=(jff l n).length
 | [],n=>by simp[jff]
 | x::xs,n=>by
  have A:=jom xs n;unfold jff;split
  ·simp only[List.length_cons];omega
  ·split
   ·simp
   ·simp
theorem jvc:∀ (l m:List Int),Up l->Up m->(∀ y,y∈l↔y∈m)->l=m
 | [],[],_,_,_=>rfl
 | [],b::m,_,_,h=>by have:=(h b).2 List.mem_cons_self;cases this
 | a::l,[],_,_,h=>by have:=(h a).1 List.mem_cons_self;cases this
 | a::l,b::m,hl,hm,h=>by
  obtain⟨F,D⟩:=jfR hl;obtain⟨G,E⟩:=jfR hm
  have C:a=b:=by
   rcases List.mem_cons.1 ((h a).1 List.mem_cons_self) with e | e
   ·exact e
   ·rcases List.mem_cons.1 ((h b).2 List.mem_cons_self) with B | B
    ·exact B.symm
    ·have:=E a e;have:=D b B;omega
  subst C;congr 1;refine jvc l m F G (fun y=>⟨fun A=>?_,fun A=>?_⟩)
  ·rcases List.mem_cons.1 ((h y).1 (List.mem_cons_of_mem _ A)) with e | e
   ·subst e;have:=D y A;omega
   ·exact e
  ·rcases List.mem_cons.1 ((h y).2 (List.mem_cons_of_mem _ A)) with e | e
   ·subst e;have:=E y A;omega
   ·exact e
def jan:List Int->List Int->Option (List Int)
 | l,[]=>some l
 | l,n::r=>if 64<(jc2 l n).length then none else jan (jc2 l n) r
theorem jf9:∀ (r:List Int) (l:List Int) (n:Int),jan l (r++[n])=(jan l r).bind fun m=>if 64<(jc2 m n).length then none else some (jc2 m n)
 | [],l,n=>by simp[jan]
 | x::r,l,n=>by
  simp only[List.cons_append,jan];split
  ·rfl
  ·exact jf9 r _ n
theorem jcE (l:List Int) (h:jaH l=true):Up l/\l.length<=64:=by
 simp only[jaH,Bool.and_eq_true,decide_eq_true_eq] at h;obtain⟨I,J⟩:=h;refine⟨?_,I⟩
 have:∀ (l:List Int) (C:Option Int),(jb7 jda C l).isSome=true->Up l/\∀ m,C=some m->∀ y∈l,m<y:=by
  intro l
  induction l with
  | nil=>intro C _;exact⟨List.Pairwise.nil,fun _ _ _ h=>by cases h⟩
  | cons x xs ih =>
   intro C D;rw[jdj] at D
   cases A:jda C x with
   | none=>rw[A] at D;cases D
   | some s2 =>
    rw[A] at D;obtain⟨L,M⟩:=ih s2 D
    have B:s2=some x/\∀ m,C=some m->m<x:=by
     unfold jda at A
     cases C with
     | none=>simp at A;exact⟨A.symm,fun m h=>by cases h⟩
     | some m =>
      by_cases F:x<=m
      ·simp[F] at A
      ·simp[F] at A
       refine⟨A.symm,fun N h=>?_⟩
       cases h
       omega
    have H:=M x B.1;refine⟨List.pairwise_cons.2 ⟨H,L⟩,fun m G y E=>?_⟩;rcases List.mem_cons.1 E with rfl | E
    ·exact B.2 m G
    ·have:=H y E;have:=B.2 m G;omega
 exact (this l none J).1
theorem jcS:∀ (l:List Int),Up l->l.length<=64->jaH l=true:=by
 intro l h C;simp only[jaH,Bool.and_eq_true,decide_eq_true_eq];refine⟨C,?_⟩
 have:∀ (l:List Int) (A:Option Int),Up l->(∀ m,A=some m->∀ y∈l,m<y)->(jb7 jda A l).isSome=true:=by
  intro l
  induction l with
  | nil=>intro A _ _;rfl
  | cons x xs ih =>
   intro A E D;obtain⟨H,I⟩:=jfR E
   have F:jda A x=some (some x):=by
    unfold jda
    cases A with
    | none=>simp
    | some m =>
     have:=D m rfl x List.mem_cons_self;simp;omega
   rw[jdj,F];exact ih (some x) H (fun m B y G=>by cases B;exact I y G)
 exact this l none h (fun m B=>by cases B)
end Go.Proofs.YtafhpamnegmilaaGreatDoor
namespace Go.Proofs.YtafhpamnegmilaaGreatDoor
open Go Go.RowKit
theorem jbs:Tryz.prog.underlying 30=some (.slice 48):=by kernel_rfl
theorem jbF:(Tryz.prog.info? 48).map (fun i=>(i.zero,i.size,i.bytes))=some (some (.int .u64 0),1,8):=by kernel_rfl
theorem jo9 (a:Option Addr) (n c:Nat) (w:World):(binOp .eql 30 (.slice a n c) (.slice none 0 0)).run Tryz.prog w=.ok (.bool a.isNone) w:=Lib.run_eql_slice_nil w _ _ a n c 0 0 jbs
theorem jen (x:Int):∀ u∈jaG x,u.oneCell'=true:=by
 intro u A;simp only[jaG,List.mem_cons,List.not_mem_nil,or_false] at A;rcases A with rfl<;>rfl
theorem jfZ (a:Option Addr) (len cap:Nat) (l:List Int) (w:World) (F:SlE jaG 1 w.heap.size w a len l) (P:len<2147483648) :
  Calls Tryz.prog 96 #[.slice a len cap] w fun e w'=>∃ L C,e=.returned (.slice L len C)/\SlC jaG 1 w'.heap.size w' L len C l/\(∀ x,L=some x->w.heap.size<=x.block)/\Bw w w':=by
 have V:=jo9 a len cap;have A:=F.1
 cases a with
 | none =>
  have O:l=[]:=by
   cases l with
   | nil=>rfl
   | cons y ys=>obtain⟨b,off,e,_⟩:=F.2 0 y rfl;cases e
  subst O;obtain rfl:len=0:=A;clear F;go_enter Tryz.func96,Tryz.ntmps96;go_wp2_with fail;go_ret;exact⟨none,0,rfl,SlC.nil,(fun x h=>by cases h),Below.refl _ _⟩
 | some a =>
  have E:Bw w (w.alloc (.cells #[] 48)):=(Below.refl _ w).alloc (Nat.le_refl _) _;have D:(w.alloc (.cells #[] 48)).ownsRow w.heap.size 48 1 (.slice (some ⟨w.heap.size,0,none⟩) 0 0) 0 []:=⟨rfl,.inr ⟨w.heap.size,0,#[],rfl,Nat.le_refl _,World.alloc_heap_new _ _,Nat.le_refl _,by unfold maxLen;omega,rfl,rfl⟩⟩;have G:=F.go E;obtain⟨v4,Q,H,B,M,U,-,-⟩:=jaE Tryz.prog (cap:=cap) 30 jbs jbF rfl (by decide) D E (Nat.le_refl _) (by simp) (fun _=>rfl) G jen (by omega) P (by decide);rw[Nat.zero_add,List.nil_append,A] at B;obtain⟨S,T,J,I,N⟩:=jaz (enc:=jaG) (fun _=>rfl) B;have R:Hid (SlC jaG 1 Q.heap.size Q S len T l):=by rw[Hid,A];exact I
  rw[<- A] at J;subst J;clear F G D I B A;go_enter Tryz.func96,Tryz.ntmps96;go_wp2_with (at_builtin;refine jb0 rfl _ _ _ rfl rfl rfl H ?_);go_ret;exact⟨_,_,rfl,R.out,N,M⟩
theorem jcL:Tryz.prog.underlying 37=some (.slice 132):=by kernel_rfl
theorem jcO:(Tryz.prog.info? 132).map (fun i=>(i.zero,i.size,i.bytes))=some (some (.agg #[.int .i64 0,.int .u64 0]),2,16):=by kernel_rfl
theorem jo7 (a:Option Addr) (n c:Nat) (w:World):(binOp .eql 37 (.slice a n c) (.slice none 0 0)).run Tryz.prog w=.ok (.bool a.isNone) w:=Lib.run_eql_slice_nil w _ _ a n c 0 0 jcL
theorem jdO (x:(Int × Int)):∀ u∈jbO x,u.oneCell'=true:=by
 intro u A;simp only[jbO,List.mem_cons,List.not_mem_nil,or_false] at A;rcases A with rfl | rfl<;>rfl
theorem jls (a:Option Addr) (len cap:Nat) (l:List (Int × Int)) (w:World) (F:SlE jbO 2 w.heap.size w a len l) (P:len<2147483648) :
  Calls Tryz.prog 97 #[.slice a len cap] w fun e w'=>∃ L C,e=.returned (.slice L len C)/\SlC jbO 2 w'.heap.size w' L len C l/\(∀ x,L=some x->w.heap.size<=x.block)/\Bw w w':=by
 have V:=jo7 a len cap;have A:=F.1
 cases a with
 | none =>
  have O:l=[]:=by
   cases l with
   | nil=>rfl
   | cons y ys=>obtain⟨b,off,e,_⟩:=F.2 0 y rfl;cases e
  subst O;obtain rfl:len=0:=A;clear F;go_enter Tryz.func97,Tryz.ntmps97;go_wp2_with fail;go_ret;exact⟨none,0,rfl,SlC.nil,(fun x h=>by cases h),Below.refl _ _⟩
 | some a =>
  have E:Bw w (w.alloc (.cells #[] 132)):=(Below.refl _ w).alloc (Nat.le_refl _) _;have D:(w.alloc (.cells #[] 132)).ownsRow w.heap.size 132 2 (.slice (some ⟨w.heap.size,0,none⟩) 0 0) 0 []:=⟨rfl,.inr ⟨w.heap.size,0,#[],rfl,Nat.le_refl _,World.alloc_heap_new _ _,Nat.le_refl _,by unfold maxLen;omega,rfl,rfl⟩⟩;have G:=F.go E;obtain⟨v4,Q,H,B,M,U,-,-⟩:=jaE Tryz.prog (cap:=cap) 37 jcL jcO rfl (by decide) D E (Nat.le_refl _) (by simp) (fun _=>rfl) G jdO (by omega) P (by decide);rw[Nat.zero_add,List.nil_append,A] at B;obtain⟨S,T,J,I,N⟩:=jaz (enc:=jbO) (fun _=>rfl) B;have R:Hid (SlC jbO 2 Q.heap.size Q S len T l):=by rw[Hid,A];exact I
  rw[<- A] at J;subst J;clear F G D I B A;go_enter Tryz.func97,Tryz.ntmps97;go_wp2_with (at_builtin;refine jb0 rfl _ _ _ rfl rfl rfl H ?_);go_ret;exact⟨_,_,rfl,R.out,N,M⟩
end Go.Proofs.YtafhpamnegmilaaGreatDoor
namespace Go.Proofs.YtafhpamnegmilaaGreatDoor
open Go Go.RowKit
theorem joI {A:Nat} {w:World} {a:Option Addr} {len:Nat} {l:List Int} (h:SlE jaG 1 A w a len l) {j:Nat} (D:j<len):∃ x b off,l[j]? = some x/\a=some ⟨b,off,none⟩/\b<A/\w.cell? ⟨b,off+j,none⟩=some (.int .u64 x):=by
 obtain⟨x,b,off,E,e,B,C⟩:=h.at D;have:=C 0 (by omega);rw[Nat.mul_one,Nat.add_zero] at this;exact⟨x,b,off,E,e,B,this⟩
theorem jdn (l:List Int) (a:Option Addr) (len cap:Nat) (w:World) (M:SlE jaG 1 w.heap.size w a len l) :
  CR 176 #[.agg #[.slice a len cap]] w (.bool (jaH l)):=by
 have H:=Lib.hid M.1;have A:Bw w (w.alloc (.cells #[.slice a len cap] 32)):=(Below.refl _ w).alloc (Nat.le_refl _) _;by_cases D:len<=64
 ·have e:decide ((64:Int)<len)=false:=by simp;omega
  have I:Hid (jaH l=(jb7 jda none l).isSome):=by simp only[Hid,jaH];rw[decide_eq_true (by rw[<- H.out];exact D)];simp
  have B:=M.below A;have V:(w.alloc (.cells #[.slice a len cap] 32)).cell? ⟨w.heap.size,0,none⟩=some (.slice a len cap):=cCc (World.alloc_heap_new w (.cells #[.slice a len cap] 32)) 0;go_enter Tryz.func176,Tryz.ntmps176;go_wp2_with fail;generalize hW:w.alloc (.cells #[.slice a len cap] 32)=W0 at A B V ⊢;clear hW M;go_loop [12] (fun i=>∃ (k:Nat) (R:Option Int),i=.int .i64 k/\k<=len/\Hid (jb7 jda none (l.take k)=some R)) (fun i=>len-(intOf i).toNat)
  case atStart=>exact⟨0,none,rfl,Nat.zero_le _,rfl⟩
  case round =>
   obtain⟨k,R,rfl,j,G⟩:=hrel;by_cases Q:k<len
   ·obtain⟨x,b,off,N,X,h,c⟩:=joI B Q
    subst X;have O:=Lib.hid (jjx N G.out);have f:=Lib.hid N;rcases Nat.eq_zero_or_pos k with Y | S
    ·subst Y
     rw[Nat.add_zero] at c;clear N;go_wp2_with fail;go_round
     case rel=>exact⟨1,some x,rfl,by omega,by have C:=O.out;have J:=G.out;simp[jgc] at J;subst J;exact Lib.hid (by simpa [jda] using C)⟩
     case measure=>simp[intOf];omega
    ·obtain⟨y,g,U,T,P,Z,d⟩:=joI B (show k-1<len by omega)
     injection P with e1
     injection e1 with e1 e2
     subst e1;subst e2
     have F:Hid (R=some y):=by
      have C:=jm1 _ _ _ G.out;rw[List.getLast?_eq_getElem?] at C;have J:(l.take k).length=k:=by rw[List.length_take,<- H.out];omega
      rw[J,List.getElem?_take_of_lt (by omega),T] at C;exact C
     have n:decide ((0:Int)<(k:Int))=true:=by simp;omega
     have m:(1:Int)<=(k:Int):=by omega
     clear N T;by_cases E:x<=y
     ·go_wp2_with fail
      go_ret;have L:jb7 jda none l=none:=jjw (k:=k+1) (by rw[O.out,F.out];simp[jda,E]);exact⟨by rw[I.out,L];rfl,A⟩
     ·go_wp2_with fail
      go_round
      case rel=>exact⟨k+1,some x,by go_num,by omega,by rw[Hid,O.out,F.out];simp[jda,E]⟩
      case measure=>simp[intOf];omega
   ·obtain rfl:k=len:=by omega
    go_wp2_with fail;go_ret;have L:=G.out;rw[List.take_of_length_le (by rw[<- H.out];omega)] at L;exact⟨by rw[I.out,L];rfl,A⟩
 ·have e:decide ((64:Int)<len)=true:=by simp;omega
  have I:Hid (jaH l=false):=by simp only[Hid,jaH];rw[decide_eq_false (by rw[<- H.out];exact D)];simp
  clear M;go_enter Tryz.func176,Tryz.ntmps176;go_wp2_with fail;go_ret;exact⟨by rw[I.out];rfl,A⟩
end Go.Proofs.YtafhpamnegmilaaGreatDoor
namespace Go.Proofs.YtafhpamnegmilaaGreatDoor
open Go Go.RowKit
theorem bDr {B:Nat} {w w':World} (h:Below B w w'):∀ n,Below B w (w'.drewN n)
 | 0=>h
 | n+1=>(bDr h n).drew
theorem jlx (a:Option Addr) (A F:Nat) (Q:List Int) (b:Option Addr) (B G:Nat) (R:List Int) (w:World) (I:SlE jaG 1 w.heap.size w a A Q) (J:SlE jaG 1 w.heap.size w b B R) (n:A<=maxLen) :
  CR 139 #[.slice a A F,.slice b B G] w (.bool (Q==R)):=by
 have H:=I.1;have S:=J.1;unfold maxLen at n;by_cases V:A=B
 ·subst V
  have q:((A:Int) != (A:Int))=false:=by simp
  have f:=Lib.hid H;have g:=Lib.hid S;clear H S;go_enter Tryz.func139,Tryz.ntmps139;go_wp2_with fail;go_loopw [5,13] (fun _ i wr=>∃ (k:Nat),i=.int .i64 k/\k<=A/\Bw w wr/\Hid (Q.take k=R.take k)) (fun _ i _=>A-(intOf i).toNat)
  case atStart=>exact⟨0,rfl,Nat.zero_le _,Below.refl _ _,rfl⟩
  case round =>
   obtain⟨k,rfl,u,L,X⟩:=hrel;by_cases O:k<A
   ·obtain⟨x,h,o,P,T,l,M⟩:=(I.below L).at O
    obtain⟨y,j,p,d,U,m,N⟩:=(J.below L).at O;subst T;subst U;have s:wr.cell? ⟨h,o+k,none⟩=some (.int .u64 x):=by have:=M 0 (by omega);rwa [Nat.mul_one,Nat.add_zero] at this
    have t:wr.cell? ⟨j,p+k,none⟩=some (.int .u64 y):=by have:=N 0 (by omega);rwa [Nat.mul_one,Nat.add_zero] at this
    have i0:(0:Int)<=(k:Int):=by omega
    have v:(k:Int)<(A:Int):=by omega
    have Y:=Lib.hid P;have Z:=Lib.hid d;clear M N P d I J;by_cases C:x=y
    ·have r:(x != y)=false:=by simp[C]
     have D:Hid (x=y):=C;clear C;go_wp2_with fail;go_quiet (fail);go_wp2_with fail;go_roundw
     case rel=>exact⟨k+1,by go_num,by omega,bDr L _,by rw[Hid,jai Y.out,jai Z.out,X.out,D.out]⟩
     case measure=>simp[intOf];omega
    ·have r:(x != y)=true:=by simp[C]
     have D:Hid (¬ x=y):=C;clear C;go_wp2_with fail;go_quiet (fail);go_wp2_with fail;go_ret
     have E:(Q==R)=false:=by
      rw[beq_eq_false_iff_ne];intro e;have P:=Y.out;rw[e,Z.out] at P;exact D.out (Option.some.inj P).symm
     exact⟨by rw[E];rfl,bDr L _⟩
   ·obtain rfl:k=A:=by omega
    clear I J;go_wp2_with fail;go_ret;have c:=X.out;rw[List.take_of_length_le (by rw[<- f.out];omega),List.take_of_length_le (by rw[<- g.out];omega)] at c;exact⟨by rw[c];simp,L⟩
 ·have q:((A:Int) != (B:Int))=true:=by rw[bne_iff_ne];omega
  have E:Hid ((Q==R)=false):=by
   rw[Hid,beq_eq_false_iff_ne];intro e;rw[e,<- S] at H;exact V H
  clear I J H S V;go_enter Tryz.func139,Tryz.ntmps139;go_wp2_with fail;go_ret;exact⟨by rw[E.out];rfl,Below.refl _ _⟩
theorem ji7 (F:Option Addr) (A C:Nat) (O:List Int) (G:Option Addr) (B D:Nat) (P:List Int) (w:World) (Q:SlE jaG 1 w.heap.size w F A O) (R:SlE jaG 1 w.heap.size w G B P) (T:A<=maxLen) :
  CR 84 #[.agg #[.slice F A C],.agg #[.slice G B D]] w (.bool (O==P)):=by
 obtain⟨J,L,H,I,E,N⟩:=jaI w #[.slice F A C] 32 #[.slice G B D] 32;have U:J.cell? ⟨w.heap.size,0,none⟩=some (.slice F A C):=cCc H 0;have V:J.cell? ⟨w.heap.size+1,0,none⟩=some (.slice G B D):=cCc I 0;have S:=jlx F A C O G B D P J (Q.go E) (R.go E) T;clear Q R H I N;go_enter Tryz.func84,Tryz.ntmps84;go_wp2_with fail;refine S.mono ?_;rintro e X ⟨rfl,M⟩;clear L S;go_wp2_with fail;go_ret;exact⟨rfl,E.trans (M.mono E.size)⟩
theorem jlt (M J:Int) (H:Option Addr) (A D:Nat) (R:List Int) (N L:Int) (I:Option Addr) (B E:Nat) (S:List Int) (w:World) (T:SlE jaG 1 w.heap.size w H A R) (U:SlE jaG 1 w.heap.size w I B S) (Y:A<=maxLen) :
  CR 85 #[.agg #[.int .i64 M,.int .i64 J,.slice H A D],.agg #[.int .i64 N,.int .i64 L,.slice I B E]] w (.bool (M==N&&J==L&&R==S)):=by
 obtain⟨X,O,F,G,C,Q⟩:=jaI w #[.int .i64 M,.int .i64 J,.slice H A D] 36 #[.int .i64 N,.int .i64 L,.slice I B E] 36;obtain⟨Z,a,b⟩:=cl3 F;obtain⟨c,d,f⟩:=cl3 G;have V:=jlx H A D R I B E S X (T.go C) (U.go C) Y;clear T U F G Q
 cases g:(M==N) with
 | false =>
  go_enter Tryz.func85,Tryz.ntmps85;go_wp2_with fail;go_ret;exact⟨rfl,C⟩
 | true =>
  cases h:(J==L) with
  | false =>
   go_enter Tryz.func85,Tryz.ntmps85;go_wp2_with fail;go_ret;exact⟨rfl,C⟩
  | true =>
   go_enter Tryz.func85,Tryz.ntmps85;go_wp2_with fail;refine V.mono ?_;rintro e i ⟨rfl,P⟩;clear O V;go_wp2_with fail;go_ret;exact⟨by simp,C.trans (P.mono C.size)⟩
end Go.Proofs.YtafhpamnegmilaaGreatDoor
namespace Go.Proofs
open Go.Shelf
def Tryz.laysO16_ren:Go.Shelf.Ren:=⟨fun | 16=>255 | n=>n,fun | 3=>3 | 4=>4 | 35=>225 | 38=>274 | n=>n,fun | n=>n⟩
theorem Tryz.laysO16:Go.Proofs.SlLaysO.n16 Tryz.prog Tryz.laysO16_ren:={
 mixed:=by kernel_rfl
 f16:=Tryz.func255.trans (congrArg some (by kernel_rfl))
 t3:=by kernel_rfl
 a3:=fun w=>by kernel_rfl
 z3:=fun w=>by kernel_rfl
 v3:=fun w=>by kernel_rfl
 t4:=by kernel_rfl
 a4:=fun w=>by kernel_rfl
 z4:=fun w=>by kernel_rfl
 v4:=fun w=>by kernel_rfl
 t35:=by kernel_rfl
 a35:=fun w=>by kernel_rfl
 z35:=fun w=>by kernel_rfl
 v35:=fun w=>by kernel_rfl
 t38:=by kernel_rfl
 a38:=fun w=>by kernel_rfl
 z38:=fun w=>by kernel_rfl
 v38:=fun w=>by kernel_rfl }
end Go.Proofs
namespace Go.Proofs.YtafhpamnegmilaaGreatDoor
open Go Go.RowKit Go.Shelf Go.Lib Go.Sort
theorem jpK (A B b off len cap i:Nat) (n x:Int) (w:World) (C:w.cell? ⟨A,0,none⟩=some (.slice (some ⟨b,off,none⟩) len cap)) (D:w.cell? ⟨B,0,none⟩=some (.int .u64 n)) (F:w.cell? ⟨b,off+i,none⟩=some (.int .u64 x)) (E:(i:Int)<len) :
  Calls Tryz.prog 256 #[.int .i64 i,.pointer (some ⟨A,0,none⟩),.pointer (some ⟨B,0,none⟩)] w fun e w'=>e=.returned (.bool (decide (n<=x)))/\∃ q,w'=w.drewN q:=by
 go_enter Tryz.func256,Tryz.ntmps256;go_wp2_with fail;go_quiet (fail);go_wp2_with fail;go_ret;exact⟨rfl,_,rfl⟩
theorem jq1 (w:World):grow w #[]=w:=by
 cases w
 simp[grow]
theorem jnr (l:List Int) (n:Int):(List.range l.length).countP (fun i => !decide (n<=l.getD i 0))=jcq l n:=by
 have h:l=(List.range l.length).map (fun i=>l.getD i 0):=by
  apply List.ext_getElem?;intro i;by_cases A:i<l.length
  ·simp[A]
  ·simp[A]
 unfold jcq
 conv=>rhs;rw[h]
 rw[List.countP_map];congr 1;funext i;simp only[Function.comp];rw[Bool.eq_iff_iff];simp
theorem jrL (l:List Int) (a:Option Addr) (len cap:Nat) (n:Int) (w:World) (H:SlE jaG 1 w.heap.size w a len l) (Q:Up l) (P:len<=1000) :
  CR 252 #[.slice a len cap,.int .u64 n] w (.int .i64 (jcq l n:Nat)):=by
 have E:=H.1;obtain⟨A,I,B,C,G,Y⟩:=jaI w #[.slice a len cap] 30 #[.int .u64 n] 48
 have N:=Any.sort_Search Tryz.laysO16 256 #[.pointer (some ⟨w.heap.size,0,none⟩),.pointer (some ⟨w.heap.size+1,0,none⟩)] len (fun i=>decide (n<=l.getD i 0)) A (enters_of Tryz.func256 (by kernel_rfl) rfl) (by omega)
  (fun m M i O=>by
   obtain⟨x,R⟩:∃ x,l[i]? = some x:=⟨_,List.getElem?_eq_getElem (by omega)⟩;obtain⟨b,off,rfl,T,U⟩:=H.2 i x R
   have J:A.cell? ⟨b,off+i,none⟩=some (.int .u64 x):=by
    have F:=U 0 (by omega);rw[Nat.mul_one] at F;exact (G.cell (p:=⟨b,off+i,none⟩) T).trans F
   have V:l.getD i 0=x:=by simp[List.getD_eq_getElem?_getD,R]
   have D:∀ k (o:Nat) v,k<A.heap.size->A.cell? ⟨k,o,none⟩=some v->(grow (A.drewN m) M).cell? ⟨k,o,none⟩=some v:=fun k o v X Z=>cell_grown (a:=⟨k,o,none⟩) X Z m M
   refine (jpK w.heap.size (w.heap.size+1) b off len cap i n x _ (D _ _ _ (by omega) (cCc B 0)) (D _ _ _ (by omega) (cCc C 0)) (D _ _ _ (by omega) J) (by omega)).mono fun e w' h=>?_
   obtain⟨F,q,S⟩:=h;exact⟨by rw[F,V],q,#[],by rw[S,jq1]⟩)
  (fun i j L c O=>by
   have F:l.getD i 0<=l.getD j 0:=by
    rcases Nat.lt_or_eq_of_le L with h | rfl
    ·have:=List.pairwise_iff_getElem.1 Q i j (by omega) (by omega) h
     rw[List.getD_eq_getElem?_getD,List.getD_eq_getElem?_getD,List.getElem?_eq_getElem (by omega),List.getElem?_eq_getElem (by omega)];simp only[Option.getD_some];omega
    ·exact Int.le_refl _
   simp only[decide_eq_true_eq] at O ⊢;omega)
 rw[E,jnr] at N;rw[E] at I ⊢;have d:A.cell? ⟨w.heap.size,0,none⟩=some (.slice a l.length cap):=by rw[<- E];exact cCc B 0
 have f:A.cell? ⟨w.heap.size+1,0,none⟩=some (.int .u64 n):=cCc C 0;clear H Q B C;go_enter Tryz.func252,Tryz.ntmps252;go_wp2_with (go_at_call 255;refine N.mono ?_;rintro e g ⟨rfl,q,M,rfl⟩);go_ret;exact⟨rfl,G.trans (below_grown_sl _ _ _ _ (by omega))⟩
theorem jtV (l:List Int) (a:Option Addr) (len cap k:Nat) (n:Int) (w:World) (D:SlE jaG 1 w.heap.size w a len l) (H:k<=len) :
  CR 253 #[.slice a len cap,.int .i64 k,.int .u64 n] w (.bool (decide (l[k]? = some n))):=by
 have B:=D.1;by_cases I:k<len
 ·obtain⟨x,E⟩:∃ x,l[k]? = some x:=⟨_,List.getElem?_eq_getElem (by omega)⟩
  obtain⟨b,off,rfl,L,F⟩:=D.2 k x E;have J:w.cell? ⟨b,off+k,none⟩=some (.int .u64 x):=by have G:=F 0 (by omega);rwa [Nat.mul_one] at G
  have A:decide (l[k]? = some n)=(x==n):=by rw[E,Bool.eq_iff_iff];simp
  have C:(k:Int)<len:=by omega
  rw[A];clear D E A F B;go_enter Tryz.func253,Tryz.ntmps253;go_wp2_with fail;go_ret;exact⟨rfl,RowKit.Below.refl _ _⟩
 ·have A:decide (l[k]? = some n)=false:=by rw[List.getElem?_eq_none (by omega)];simp
  have C:decide ((k:Int)<len)=false:=by simp;omega
  rw[A];clear D A B H;go_enter Tryz.func253,Tryz.ntmps253;go_wp2_with fail;go_ret;exact⟨rfl,RowKit.Below.refl _ _⟩
end Go.Proofs.YtafhpamnegmilaaGreatDoor
namespace Go.Proofs.YtafhpamnegmilaaGreatDoor
open Go Go.RowKit Go.Shelf
def jef (a:Option Addr) (cap m k:Nat):Option Addr:=if cap=m then a else a.map (·.add (m*k))
theorem SlC.drop {α:Type} {enc:α->List Value} {k E:Nat} {w:World} {a:Option Addr} {len cap:Nat} {l:List α} (C:SlC enc k E w a len cap l) (m:Nat) (P:m<=len):SlC enc k E w (jef a cap m k) (len-m) (cap-m) (l.drop m):=by
 have O:=C.1.1;have N:=C.2.1;have M:=C.2.2.1;refine⟨⟨by rw[List.length_drop];omega,fun j x A=>?_⟩,by omega,by omega,fun h=>?_,fun x A D=>?_⟩
 ·rw[List.getElem?_drop] at A
  obtain⟨b,off,e,I,B⟩:=C.1.2 (m+j) x A;have L:=(List.getElem?_eq_some_iff.1 A).1;refine⟨b,off+m*k,?_,I,fun i J=>?_⟩
  ·rw[jef,if_neg (by omega),e,Option.map_some,jhy rfl]
  ·rw[<- B i J];congr 2;rw[Nat.add_mul];omega
 ·by_cases F:cap=m
  ·omega
  ·rw[jef,if_neg F] at h
   have:=C.2.2.2.1 (by simpa using h);omega
 ·rw[jef,if_neg (by omega)] at A
  cases a with
  | none=>cases A
  | some z =>
   obtain⟨G,H⟩:=C.2.2.2.2 z rfl (by omega);rw[Option.map_some] at A;injection A with A
   rw[<- A,jhy G];exact⟨rfl,H⟩
theorem jfd (a:Option Addr) (cap k:Nat):jef a cap 0 k=a:=by
 unfold jef;split
 ·rfl
 ·cases a<;>simp[Addr.add]
end Go.Proofs.YtafhpamnegmilaaGreatDoor
namespace Go.Proofs.YtafhpamnegmilaaGreatDoor
open Go Go.RowKit Go.Shelf
theorem jl6 {w:World} {b C e A n:Nat} {v:Value} {xs:List Value} (h:w.ownsRow b e A v n xs) (G:C<=b):w.ownsRow C e A v n xs :=
 ⟨h.1,h.2.imp id (fun ⟨g,cap,B,D,E,F⟩=>⟨g,cap,B,D,Nat.le_trans G E,F⟩)⟩
theorem jvn {w:World} {a:Option Addr} {len k:Nat} {l:List Int} (Q:SlE jaG 1 w.heap.size w a len l) (c:k<=len) (Z:a=none->k=0) (R:len<=100000) (n:Int) :
  ∃ g cap A,(Builtin.append_ #[30,30] 30 #[.slice a k k,.slice (some ⟨w.heap.size,0,none⟩) 1 1]).run Tryz.prog (w.alloc (.cells #[.int .u64 n] 48))=.ok (.slice (some ⟨g,0,none⟩) (k+1) cap) A /\
   A.ownsRow w.heap.size 48 1 (.slice (some ⟨g,0,none⟩) (k+1) cap) (k+1) ((l.take k++[n]).flatMap jaG)/\Bw w A/\w.heap.size<A.heap.size:=by
 have Y:=Q.1;obtain⟨i0,X,I,J,L⟩:=info_parts jbF;have O:Bw w (w.alloc (.cells #[.int .u64 n] 48)):=(Below.refl _ w).alloc (Nat.le_refl _) _;have d:(w.alloc (.cells #[.int .u64 n] 48)).heap.size=w.heap.size+1:=by simp
 have C:∀ (m:List Int),(m.flatMap jaG).length=m.length:=fun m=>by rw[jgb jaG 1 (fun _=>rfl),Nat.mul_one]
 cases a with
 | none =>
  obtain rfl:=Z rfl;obtain⟨g,cap,A,F,D,E,T,-,-⟩:=jaL Tryz.prog 30 jbs jbF rfl (by decide) (W:=w) (World.ownsRow_nil w w.heap.size 48 1) (Below.refl w.heap.size w) (Nat.le_refl _) (Nat.le_refl _) [.int .u64 n] rfl (by simp[Value.oneCell']) (by omega) (by decide);exact⟨g,cap,A,F,D,E,T⟩
 | some p =>
  obtain⟨v',A,F,D,E⟩:=run_append_arg_grows (P:=Tryz.prog) (w:=w.alloc (.cells #[.int .u64 n] 48)) 30 30 48 i0 (.int .u64 0) 1 8 jbs X I J L rfl (by decide)
   p k k ((l.take k).flatMap jaG) (by rw[C,List.length_take];omega) (fun j u B=>by
    have H:j<k:=by have h:=(List.getElem?_eq_some_iff.1 B).1;rw[C,List.length_take] at h;omega
    obtain⟨x,S⟩:∃ x,l[j]? = some x:=⟨_,List.getElem?_eq_getElem (by omega)⟩;obtain⟨b,off,e,U,V⟩:=Q.2 j x S
    cases e
    have M:=jeB jaG 1 (fun _=>rfl) (l.take k) j 0 x (by rw[List.getElem?_take_of_lt H];exact S) (by omega);rw[Nat.mul_one,Nat.add_zero] at M;rw[M] at B;have N:=V 0 (by omega);rw[Nat.mul_one,Nat.add_zero] at N;rw[show (⟨b,off,none⟩:Addr).add j=⟨b,off+j,none⟩ by unfold Addr.add;split<;>simp_all];exact ((O.cell (p:=⟨b,off+j,none⟩) U).trans N).trans B)
   ⟨w.heap.size,0,none⟩ 1 1 [.int .u64 n] rfl (fun j u B=>by
    have G:j=0:=by have h:=(List.getElem?_eq_some_iff.1 B).1;simp at h;exact h
    subst G;rw[show (⟨w.heap.size,0,none⟩:Addr).add 0=⟨w.heap.size,0,none⟩ by unfold Addr.add;split<;>simp_all,cCc (World.alloc_heap_new w _)];simpa using B) (by omega) (by unfold maxLen;omega) (by omega)
  obtain⟨g,cap,rfl⟩:=ownsRow_succ D;refine⟨g,cap,A,F,?_,O.grown E (by omega) (fun k e=>by cases e),by have:=E.size;omega⟩;rw[List.flatMap_append];exact jl6 D (by omega)
theorem jvy (a:Option Addr) (len cap k:Nat) (w:World) (h:k<=cap):(Instr.slice 30 (.slice a len cap) none (some (.int .i64 (k:Int))) (some (.int .i64 (k:Int)))).run Tryz.prog w=.ok (.slice a k k) w:=by
 have B:=jfd a k 1;unfold jef at B;have C:(sizeOf 48).run Tryz.prog w=.ok 1 w:=by kernel_rfl
 have A:Tryz.prog.elem 30=48:=by kernel_rfl
 rw[run_slice_hm (t:=30) (a:=a) (len:=len) (cap:=cap) (w:=w) (ht:=by rw[A];exact jbs) (kh:=.i64) (km:=.i64) (h:=(k:Int)) (m:=(k:Int)) (by omega) (by omega) (by omega),A,C];simp only[Result.andThen,sliced,Int.toNat_natCast,Nat.sub_zero,B]
theorem joh (a:Option Addr) (len cap k:Nat) (w:World) (h:k<=len):(Instr.slice 30 (.slice a len cap) (some (.int .i64 (k:Int))) none none).run Tryz.prog w=.ok (.slice (jef a cap k 1) (len-k) (cap-k)) w:=by
 have B:(sizeOf 48).run Tryz.prog w=.ok 1 w:=by kernel_rfl
 have A:Tryz.prog.elem 30=48:=by kernel_rfl
 rw[run_slice_l (t:=30) (a:=a) (len:=len) (cap:=cap) (w:=w) (ht:=by rw[A];exact jbs) (kl:=.i64) (l:=(k:Int)) (by omega) (by omega),A,B];simp only[Result.andThen,sliced,Int.toNat_natCast,jef]
def jj2 (l:List Int) (n:Int) (a:Option Addr) (w:World) (e:Ending) (w':World):Prop :=
 ∃ a' cap',e=.returned (.slice a' (jc2 l n).length cap')/\SlC jaG 1 w'.heap.size w' a' (jc2 l n).length cap' (jc2 l n)/\(a'=a\/∀ x,a'=some x->w.heap.size<=x.block)/\Bw w w'
attribute [-go_sem] Builtin.append_ run_slice_any run_slice_hm run_slice_l
theorem juM (l:List Int) (a:Option Addr) (len cap:Nat) (n:Int) (w:World) (H:SlC jaG 1 w.heap.size w a len cap l) (i:Up l) (J:len<=1000) :
  Calls Tryz.prog 249 #[.slice a len cap,.int .u64 n] w (jj2 l n a w):=by
 have G:=H.1.1;have I:=jpb l n;have c:=jrL l a len cap n w H.1 i J;obtain⟨k,S⟩:∃ k,jcq l n=k:=⟨_,rfl⟩;rw[S] at I c;have T:Hid (∀ C,Bw w C->CR 253 #[.slice a len cap,.int .i64 k,.int .u64 n] C (.bool (decide (l[k]? = some n)))):=fun C N=>jtV l a len cap k n C ((H.1.below N).mono N.size) (by omega)
 by_cases B:l[k]? = some n
 ·have F:jc2 l n=l:=by unfold jc2;rw[S,if_pos B]
  unfold jj2;rw[F,<- G];rw[decide_eq_true B] at T;have V:=Lib.hid H;clear H i B F G I S;go_enter Tryz.func249,Tryz.ntmps249;go_wp2_with fail;refine c.mono ?_;rintro e C ⟨rfl,A⟩;go_wp2_with fail;refine (T.out C A).mono ?_;rintro e r ⟨rfl,M⟩;go_wp2_with fail;go_ret;have N:=A.trans (M.mono A.size);exact⟨a,cap,rfl,(V.out.below N).mono N.size,.inl rfl,N⟩
 ·have F:jc2 l n=l.take k++n::l.drop k:=by unfold jc2;rw[S,if_neg B]
  unfold jj2;rw[F];rw[decide_eq_false B] at T;have V:=Lib.hid H;have hcut:=fun C=>jvy a len cap k C (by have:=H.2.1;omega)
  have f:=fun C=>joh a len cap k C (by omega)
  have s:Hid (a=none->k=0):=fun h=>by have:=H.2.2.2.1 h;have:=H.2.1;omega
  have U:Hid (k<=len):=by rw[G];exact I
  have Z:=Lib.hid J;have X:=Lib.hid G;clear H i B F G I S;go_enter Tryz.func249,Tryz.ntmps249;go_wp2_with fail;refine c.mono ?_;rintro e C ⟨rfl,A⟩;go_wp2_with fail;refine (T.out C A).mono ?_;rintro e r ⟨rfl,M⟩;have E:=A.trans (M.mono A.size);have O:=Lib.hid ((V.out.below E).mono E.size);obtain⟨g,c3,w3,p,Q,L,j⟩:=jvn O.out.1 U.out s.out (by have:=Z.out;omega) n;have m:=Lib.hid (((O.out.below L).mono L.size).drop k U.out);obtain⟨v4,w4,q,R,b,aa,-,-⟩:=jaE Tryz.prog (cap:=cap-k) 30 jbs jbF rfl (by decide) Q L (Nat.le_refl _) (Nat.le_of_lt j) (fun _=>rfl) m.out.1 jen (by have:=U.out;have:=Z.out;omega) (by have:=Z.out;omega) (by decide);have Y:=Lib.hid R;have D:=Lib.hid E;clear m Q R;go_wp2_with fail;go_ret
  have v:w4.ownsRow r.heap.size 48 1 v4 (l.take k++n::l.drop k).length ((l.take k++n::l.drop k).flatMap jaG):=by
   have o:=Y.out;rw[<- List.flatMap_append,List.append_assoc,List.singleton_append] at o
   have u:(l.take k++n::l.drop k).length=k+1+(len-k):=by
    have:=U.out;have:=X.out;rw[List.length_append,List.length_take,List.length_cons,List.length_drop];omega
   rw[u];exact o
  obtain⟨t,P,z,y,d⟩:=jaz (enc:=jaG) (fun _=>rfl) v;exact⟨t,P,by rw[<- z];rfl,y,.inr (fun x hx=>Nat.le_trans D.out.size (d x hx)),D.out.trans (b.mono D.out.size)⟩
end Go.Proofs.YtafhpamnegmilaaGreatDoor
namespace Go.Proofs.YtafhpamnegmilaaGreatDoor
open Go Go.RowKit
def jna (b n:Nat):Nat:=n / 2^(64-b)
def jcU (b n:Nat):Nat:=if n*2^b % 2^64=0 then 65-b else 65-Lib.bitLen (n*2^b % 2^64)
def jbg (r:List Nat) (p k:Nat):List Nat:=r.set p (max (r.getD p 0) k)
def jib (b:Nat) (r:List Nat) (n:Nat):List Nat:=jbg r (jna b n) (jcU b n)
def jcn (b:Nat) (r:List Nat) (l:List Nat):List Nat:=l.foldl (jib b) r
def upR (x:Nat):Nat:=if x=0 then 0 else x+1
def jp6 (x:Nat):Nat:=if x=0 then 0 else 1
def jfC (b:Nat) (r:List Nat):List Nat:=(List.range (2^(b-1))).map fun i=>max (upR (r.getD (2*i) 0)) (jp6 (r.getD (2*i+1) 0))
def jaY (b:Nat):List Nat:=List.replicate (2^b) 0
theorem jdm (x:Nat) (h:x<2^64) (A:x≠0):1<=Lib.bitLen x/\2^(Lib.bitLen x-1)<=x/\x<2^Lib.bitLen x:=Lib.bitLenAux_bounds 64 x h A
theorem jfW (x:Nat) (h:x<2^64) (A:x≠0):Lib.bitLen x<=64:=by
 obtain⟨B,C,D⟩:=jdm x h A;apply Classical.byContradiction;intro E;have:2^64<=2^(Lib.bitLen x-1):=Nat.pow_le_pow_right (by omega) (by omega);omega
theorem jlJ (b n:Nat) (H:b<=8):jcU b n<=65-b:=by
 unfold jcU;split
 ·omega
 ·rename_i h
  obtain⟨C,D,E⟩:=jdm _ (Nat.mod_lt (n*2^b) (by decide:0<2^64)) h
  have A:2^b ∣ n*2^b % 2^64:=by
   have B:2^b ∣ 2^64:=Nat.pow_dvd_pow 2 (by omega);exact (Nat.dvd_mod_iff B).2 (Nat.dvd_mul_left _ _)
  have F:2^b<=n*2^b % 2^64:=Nat.le_of_dvd (by omega) A;have G:b<Lib.bitLen (n*2^b % 2^64):=(Nat.pow_lt_pow_iff_right (by omega:1<2)).1 (by omega);omega
theorem jkm (b n:Nat) (B:b<=8) (A:n<2^64):jna b n<2^b:=by
 unfold jna;rw[Nat.div_lt_iff_lt_mul (Nat.two_pow_pos _),<- Nat.pow_add,show b+(64-b)=64 by omega];exact A
theorem jcG (r:List Nat) (p k:Nat):(jbg r p k).length=r.length:=by simp[jbg]
theorem jq7 (b:Nat) (r:List Nat) (n:Nat):(jib b r n).length=r.length:=jcG _ _ _
theorem jeE (b:Nat):∀ (l r:List Nat),(jcn b r l).length=r.length
 | [],_=>rfl
 | x::l,r=>by
  show (jcn b (jib b r x) l).length=_;rw[jeE b l,jq7]
theorem jic (b:Nat) (r:List Nat):(jfC b r).length=2^(b-1):=by simp[jfC]
theorem jtJ (r:List Nat) (p i v:Nat):(r.set p v).getD i 0=if p=i/\i<r.length then v else r.getD i 0:=by
 simp only[List.getD_eq_getElem?_getD,List.getElem?_set];by_cases h:p=i
 ·subst h
  by_cases A:p<r.length
  ·simp[A]
  ·simp[A]
 ·simp[h]
theorem jiY (r:List Nat) (p i k:Nat):(jbg r p k).getD i 0=if p=i/\i<r.length then max (r.getD i 0) k else r.getD i 0:=by
 unfold jbg;rw[jtJ];split
 ·rename_i h;rw[h.1]
 ·rfl
theorem jgd (r s:List Nat) (C:r.length=s.length) (h:∀ i,i<r.length->r.getD i 0=s.getD i 0):r=s:=by
 apply List.ext_getElem C;intro i A B;have:=h i A;simpa [List.getD_eq_getElem?_getD,List.getElem?_eq_getElem A,List.getElem?_eq_getElem B] using this
theorem ju1 (b:Nat) (r:List Nat) (i:Nat) (A:i<2^(b-1)):(jfC b r).getD i 0=max (upR (r.getD (2*i) 0)) (jp6 (r.getD (2*i+1) 0)):=by
 simp[jfC,List.getD_eq_getElem?_getD,A]
theorem jv1 (x:Nat):jp6 x<=1:=by unfold jp6;split<;>omega
theorem jq8 (r:List Nat) (p k m:Nat) (hr:∀ i,r.getD i 0<=m) (A:k<=m):∀ i,(jbg r p k).getD i 0<=m:=fun i=>by
 rw[jiY];have:=hr i;split<;>omega
end Go.Proofs.YtafhpamnegmilaaGreatDoor
namespace Go.Proofs.YtafhpamnegmilaaGreatDoor
open Go Go.RowKit
def jdf (a b:Int):Int:=if 18446744073709551615-a<b then 18446744073709551615 else a+b
def jxw (c row h:Nat):Nat:=row*c+(h / 4294967296+row*(h % 4294967296)) % c
def jwE (l:List Int) (p:Nat) (n:Int):List Int:=l.set p (jdf (l.getD p 0) n)
def jxh (c:Nat) (l:List Int) (h:Nat) (n:Int):List Int:=jwE (jwE l (jxw c 0 h) n) (jxw c 1 h) n
def jdW (c:Nat) (l:List Int):List Int:=(List.range (c / 2+c / 2)).map fun p=>jdf (l.getD (p / (c / 2)*c+p % (c / 2)) 0) (l.getD (p / (c / 2)*c+p % (c / 2)+c / 2) 0)
def jqC (c:Nat):List Int:=List.replicate (c+c) 0
theorem jfj (a b:Int) (ha:U64 a) (A:U64 b):U64 (jdf a b):=by
 unfold U64 jdf at *;split<;>omega
theorem jsj:U64 0:=by unfold U64;omega
theorem jbT (l:List Int) (h:jc8 l) (i:Nat):U64 (l.getD i 0):=by
 by_cases A:i<l.length
 ·rw[List.getD_eq_getElem?_getD,List.getElem?_eq_getElem A]
  exact h _ (List.getElem_mem _)
 ·rw[List.getD_eq_getElem?_getD,List.getElem?_eq_none (by omega)]
  exact jsj
theorem jlE (r:List Int) (p i:Nat) (v:Int):(r.set p v).getD i 0=if p=i/\i<r.length then v else r.getD i 0:=by
 simp only[List.getD_eq_getElem?_getD,List.getElem?_set];by_cases h:p=i
 ·subst h
  by_cases A:p<r.length
  ·simp[A]
  ·simp[A]
 ·simp[h]
theorem jlD (r s:List Int) (C:r.length=s.length) (h:∀ i,i<r.length->r.getD i 0=s.getD i 0):r=s:=by
 apply List.ext_getElem C;intro i A B;have:=h i A;simpa [List.getD_eq_getElem?_getD,List.getElem?_eq_getElem A,List.getElem?_eq_getElem B] using this
theorem jf0 (c:Nat) (l:List Int):(jdW c l).length=c / 2+c / 2:=by simp[jdW]
theorem jtu (c:Nat) (l:List Int) (p:Nat) (A:p<c / 2+c / 2):(jdW c l).getD p 0=jdf (l.getD (p / (c / 2)*c+p % (c / 2)) 0) (l.getD (p / (c / 2)*c+p % (c / 2)+c / 2) 0):=by
 simp[jdW,List.getD_eq_getElem?_getD,A]
theorem jqz (c:Nat) (l:List Int) (A:jc8 l):jc8 (jdW c l):=by
 intro x B;obtain⟨p,-,rfl⟩:=List.mem_map.1 B;exact jfj _ _ (jbT l A _) (jbT l A _)
end Go.Proofs.YtafhpamnegmilaaGreatDoor
