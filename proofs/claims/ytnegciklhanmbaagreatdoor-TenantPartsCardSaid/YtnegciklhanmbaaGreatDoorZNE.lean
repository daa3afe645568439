/- Package hll: Count. Package cms: Count (how often a number came at most). Package hist: sums (how many values are in the bins up to each), saturated. Package hist: Rank (how many values are in the buckets up to that of a number). Package ladder: what a sketch tells of a number (the bodies' methods ask; Ask). -/
import Derived.RegionIn
import Derived.Test.YtnegciklhanmbaaGreatDoorZQC
import Derived.Test.YtnegciklhanmbaaGreatDoorZMB
set_option maxHeartbeats 2000000
set_option maxRecDepth 100000
namespace Go.Proofs.YtnegciklhanmbaaGreatDoor
open Go Go.RowKit Go.Shelf
section
attribute [local go_sem] Oper.semAt_some
def jdE (r:Nat):Nat:=2^(32-min r 32)
def je8 (l:List (Nat × UInt8)):Nat:=l.foldl (fun a p=>a+jdE p.2.toNat) 0
def jfd (l:List (Nat × UInt8)):Bool:=l.any fun p=>p.2.toNat != 0
theorem jiS (l:List (Nat × UInt8)) (x:Nat × UInt8):je8 (l++[x])=je8 l+jdE x.2.toNat:=by unfold je8;rw[List.foldl_append];rfl
theorem jmB (l:List (Nat × UInt8)) (x:Nat × UInt8):jfd (l++[x])=(jfd l||(x.2.toNat != 0)):=by simp[jfd]
theorem jle (r:Nat):1<=jdE r/\jdE r<=4294967296:=by
 unfold jdE;have A:2^(32-min r 32)<=2^32:=Nat.pow_le_pow_right (by omega) (by omega);exact⟨Nat.one_le_two_pow,A⟩
theorem jnD (l:List (Nat × UInt8)):l.length<=je8 l/\je8 l<=l.length*4294967296:=by
 have key:∀ (m:List (Nat × UInt8)),m.length<=je8 m.reverse/\je8 m.reverse<=m.length*4294967296:=by
  intro m
  induction m with
  | nil=>exact⟨Nat.le_refl _,Nat.le_refl _⟩
  | cons x m ih =>
   rw[List.reverse_cons,jiS,List.length_cons];have:=jle x.2.toNat;omega
 have h:=key l.reverse;rw[List.reverse_reverse,List.length_reverse] at h;exact h
def NI (m n:Nat) (w w1:World) (pre:List (Nat × UInt8)) (W:World):Prop:=Boxed W m 4 (.bool (jfd pre))/\Boxed W (m+1) 22 (.int .u64 (je8 pre:Nat))/\(∀ k,k<w1.heap.size->k≠m->k≠m+1->W.heap[k]? = w1.heap[k]?)/\Below n w W
theorem jxq (m n:Nat) (w F:World) (Q:n<=w.heap.size) (C:Nat) (T:F.heap.size<=C) (E:n<=C):OwnFrom C (NI m n w F):=fun S X Y row R D hr=>by
 obtain⟨M,N,O,P⟩:=R;have A:∀ r,row=some r->∃ o:Obj,X.heap[r]? = some o/\o.isCells=false:=fun r e=>(hr r e).2
 refine⟨jfU M D A,jfU N D A,fun k I J L=>?_,ownFrom_below (β:=Unit) (B:=C) Q E () X Y row P D hr⟩;have G:=O k I J L;refine (D.block k ?_ (fun e=>?_)).trans G
 ·have H:F.heap[k]? ≠ none:=by rw[Array.getElem?_eq_getElem I];simp
  rw[<- G] at H;rcases Nat.lt_or_ge k X.heap.size with h | h
  ·exact h
  ·exact absurd (Array.getElem?_eq_none h) H
 ·have:=(hr k e.symm).1
  omega
theorem jqR (A:List (Nat × UInt8)) (x:Nat × UInt8) (h:A.length<256):IntKind.u64.wrap ((je8 A:Nat)+IntKind.u64.wrap (2^(32-min (x.2.toNat:Int) 32).toNat))=((je8 A+jdE x.2.toNat:Nat):Int):=by
 have C:=jnD A;have D:=jle x.2.toNat;have B:(32-min (x.2.toNat:Int) 32).toNat=32-min x.2.toNat 32:=by omega
 rw[B,show (2:Int)^(32-min x.2.toNat 32)=((jdE x.2.toNat:Nat):Int) from by unfold jdE;rw[Int.natCast_pow];rfl];rw[show IntKind.u64.wrap ((jdE x.2.toNat:Nat):Int)=((jdE x.2.toNat:Nat):Int) from jch _ (by omega) (by omega)];rw[show ((je8 A:Nat):Int)+((jdE x.2.toNat:Nat):Int)=((je8 A+jdE x.2.toNat:Nat):Int) from (Int.natCast_add _ _).symm];exact jch _ (by omega) (by omega)
theorem jxj (m S:Nat) (B:m<=256) :
  IntKind.u64.wrap ((IntKind.u64.wrap (IntKind.u64.wrap (IntKind.u64.wrap (7*IntKind.u64.wrap (m:Int))*IntKind.u64.wrap (m:Int))*4294967296)).tdiv (10*(S:Int)))=((7*m*m*4294967296 / (10*S):Nat):Int):=by
 have D:m*m<=256*256:=Nat.mul_le_mul B B;have C:7*m*m=7*(m*m):=Nat.mul_assoc _ _ _;rw[show IntKind.u64.wrap (m:Int)=(m:Int) from jch _ (by omega) (by omega)];rw[show IntKind.u64.wrap (7*(m:Int))=((7*m:Nat):Int) from jch _ (by omega) (by omega)];rw[show ((7*m:Nat):Int)*(m:Int)=((7*m*m:Nat):Int) from (Int.natCast_mul _ _).symm];rw[show IntKind.u64.wrap ((7*m*m:Nat):Int)=((7*m*m:Nat):Int) from jch _ (by omega) (by omega)];rw[show ((7*m*m:Nat):Int)*4294967296=((7*m*m*4294967296:Nat):Int) from (Int.natCast_mul _ _).symm];rw[show IntKind.u64.wrap ((7*m*m*4294967296:Nat):Int)=((7*m*m*4294967296:Nat):Int) from jch _ (by omega) (by omega)];rw[show 10*(S:Int)=((10*S:Nat):Int) from (Int.natCast_mul _ _).symm];rw[show ((7*m*m*4294967296:Nat):Int).tdiv ((10*S:Nat):Int)=((7*m*m*4294967296 / (10*S):Nat):Int) from (Int.ofNat_tdiv _ _).symm▸rfl];have A:7*m*m*4294967296 / (10*S)<=7*m*m*4294967296:=Nat.div_le_self _ _;generalize 7*m*m*4294967296 / (10*S)=q at A ⊢;exact jch _ (by omega) (by omega)
theorem jmM {m n:Nat} {w E W:World} {A:List (Nat × UInt8)} {x:Nat × UInt8} (O:n<=m) (h:NI m n w E A W) (v u:Value) (N:v=.bool (jfd A||(x.2.toNat != 0))) (M:u=.int .u64 ((je8 A+jdE x.2.toNat:Nat):Int)) :
  KeepsFrom E.heap.size W ((W.setCell ⟨m,0,none⟩ v).setCell ⟨m+1,0,none⟩ u)/\KL [m+2] W ((W.setCell ⟨m,0,none⟩ v).setCell ⟨m+1,0,none⟩ u)/\NI m n w E (A++[x]) ((W.setCell ⟨m,0,none⟩ v).setCell ⟨m+1,0,none⟩ u):=by
 obtain⟨G,H,I,J⟩:=h
 have F:∀ k,k≠m->k≠m+1->((W.setCell ⟨m,0,none⟩ v).setCell ⟨m+1,0,none⟩ u).heap[k]? = W.heap[k]? := fun k B C =>
  (jaa (p:=⟨m+1,0,none⟩) (fun e=>C e.symm) u).trans (jaa (p:=⟨m,0,none⟩) (fun e=>B e.symm) v)
 refine⟨((KeepsOthers.setCell W _ v).from _).trans ((KeepsOthers.setCell _ _ u).from _),fun k D o L=>?_,?_,?_,fun k D B C=>(F k B C).trans (I k D B C),?_⟩
 ·have:k=m+2:=by simpa using D
  exact (F k (by omega) (by omega)).trans L
 ·rw[jmB,<- N]
  exact (jaa (p:=⟨m+1,0,none⟩) (by show m+1≠m;omega) u).trans (hSk G _)
 ·rw[jiS,<- M]
  exact hSk ((jaa (p:=⟨m,0,none⟩) (by show m≠m+1;omega) v).trans H) _
 ·exact (J.setCell (p:=⟨m,0,none⟩) (by show n<=m;omega) v).setCell (p:=⟨m+1,0,none⟩) (by show n<=m+1;omega) u
def jev (b:Nat) (s:ByteArray):Nat:=if jfd (jfR s) then 7*2^b*2^b*4294967296 / (10*je8 (jfR s)) else 0
theorem joY (b:Nat) (r:List Nat) (w:World) (h1:3<=b) (h2:b<=8) (hl:r.length=2^b) (hr:∀ i,r.getD i 0<=65-b) :
  CR 281 #[.agg #[.int .i64 b,.string (jat r)]] w (.int .u64 (jev b (jat r):Nat)):=by
 have hR:Hid (∀ A,CR 172 #[.agg #[.int .i64 b,.string (jat r)]] A (.bool true)):=fun A=>(jb9 b (jat r) A).mono fun e w' h=>⟨by rw[h.1,jc3 b r h1 h2 hl hr],h.2⟩
 have Y:(jat r).size=2^b:=by rw[jbC,hl]
 generalize jat r=s at hR Y ⊢;have R:2^b<=256:=Nat.pow_le_pow_right (by omega) h2;have h8:8<=2^b:=show 2^3<=2^b from Nat.pow_le_pow_right (by omega) h1
 have N:=Lib.hid Y;have E:=Lib.hid (And.intro h8 R);clear hl hr h1 h2 Y R h8;obtain⟨W0,ae,I,d,ah⟩:=jab w #[.int .i64 b,.string s] 37;have z:=Lib.hid I;have Z:=Lib.hid d;obtain⟨c0,c1⟩:=cl2 I;clear I d;refine jaq Tryz.func281 rfl ?_;simp only[Tryz.ntmps281,List.size_toArray,List.length_cons,List.length_nil,Nat.reduceAdd,Nat.reduceSub,Array.replicate_succ,Array.replicate_zero,List.push_toArray,List.append_toArray,List.nil_append,List.cons_append];go_wp2_with fail;refine (hR.out _).mono ?_;rintro e A ⟨rfl,J⟩;have V:=known J (Nat.le_refl _) z.out;obtain⟨d0,d1⟩:=cl2 V;obtain⟨F,af,L,M,P,p⟩:=jas A #[.bool false] 4 #[.int .u64 0] 22;have X:=known P (Nat.le_refl _) V;obtain⟨e0,e1⟩:=cl2 X;have z1:F.setCell ⟨A.heap.size,0,none⟩ (.bool false)=F:=jag L rfl;have z2:F.setCell ⟨A.heap.size+1,0,none⟩ (.int .u64 0)=F:=jag M rfl;have y0:F.cell? ⟨A.heap.size,0,none⟩=some (.bool false):=cCc L 0;have z0:F.cell? ⟨A.heap.size+1,0,none⟩=some (.int .u64 0):=cCc M 0;have y9:F.frozen? ⟨A.heap.size,0,none⟩=false:=cFz L 0;have z9:F.frozen? ⟨A.heap.size+1,0,none⟩=false:=cFz M 0;obtain⟨O,j,m,G,q⟩:=jab F #[.string s] 9;have y:=Lib.hid j;have aj:w.heap.size+1<=A.heap.size:=by have:=J.size;omega
 have S:Bw w O:=Z.out.trans ((J.trans ((P.trans (G.mono P.size)).mono J.size)).mono Z.out.size);have h0:NI A.heap.size w.heap.size w O [] O:=⟨known G (Nat.le_refl _) L,known G (Nat.le_refl _) M,fun _ _ _ _=>rfl,S⟩;have H0:=Lib.hid h0;have aa:=Lib.hid (known G (Nat.le_refl _) X);have ab:=Lib.hid (show O.heap[A.heap.size+2]? = _ from p▸m);have a:Hid (F.heap.size=A.heap.size+2/\O.heap.size=F.heap.size+1):=⟨p,q⟩;clear j V X m L M P G J S h0 d0 d1 q;go_wp2_with (go_at_call 200;refine (jhU _ _).mono ?_;rintro e w' ⟨rfl,rfl⟩;rw[y.out]);have ak:A.heap.size+2<O.heap.size:=by have:=a.out;omega
 refine jcj [A.heap.size+2] 6 (fun x:Nat × UInt8=>.int .u8 x.2.toNat) (gf:=217) (lb:=#[.pointer (some ⟨A.heap.size+2,0,none⟩)]) rfl (enters_of Tryz.func217 (by kernel_rfl) rfl)
  (jnW (fun x:Nat × UInt8=>x) (A.heap.size+2) s (by have:=N.out;have:=E.out.2;omega) (jfR s) (List.map_id' _) O ab.out) (by intro k hk;simp at hk;omega) (Below.refl _ _) (fun _=>rfl) (NI A.heap.size w.heap.size w O) (jxq A.heap.size w.heap.size w O (Nat.le_refl _) _ (Nat.le_refl _) (by omega)) H0.out ?assign ?body ?fin
 case assign =>
  rintro l C x W K hI hK;simp only[List.zip_toArray,List.zip_cons_cons,List.zip_nil_right,List.size_toArray,List.foldl_toArray',List.foldl_cons,List.foldl_nil,List.setIfInBounds_toArray,List.set_cons_succ,List.set_cons_zero] at hK ⊢;gi_wp2;exact hI
 case body =>
  rintro lo C x W u ag;obtain⟨H,T,g,U⟩:=id u;simp only[List.zip_toArray,List.zip_cons_cons,List.zip_nil_right,List.size_toArray,List.foldl_toArray',List.foldl_cons,List.foldl_nil,List.setIfInBounds_toArray,List.set_cons_succ,List.set_cons_zero];have q1:=H.cell;have q2:=H.frozen;obtain⟨c,B⟩:∃ c,W.setCell ⟨A.heap.size,0,none⟩ (.bool (jfd C||(x.2.toNat != 0)))=c:=⟨_,rfl⟩;have ac:OnlyAt A.heap.size W c:=by rw[<- B];exact (OnlyAt.refl _ _).set _ _
  have Q:c.heap[A.heap.size]? = some (.cells #[.bool (jfd C||(x.2.toNat != 0))] 4 (0,0)):=by rw[<- B];exact hSk H _
  have f:Boxed c (A.heap.size+1) 22 (.int .u64 (je8 C:Nat)):=(ac.2 _ (by omega)).trans T;have q3:=f.cell;have q4:=f.frozen;have ai:=UInt8.toNat_lt x.2;generalize hsm:jfd C=sm at q1 B Q;have n:C.length<256:=by have:=N.out;have:=E.out.2;have:=jg5 s;omega
  cases sm with
  | true =>
   simp only[Bool.true_or] at B Q;gi_wp2_with fail;rw[<- B];exact jmM (by omega) u _ _ (by rw[hsm];rfl) (by rw[jqR C x n])
  | false =>
   have o:=jqR C x n;rcases Nat.eq_zero_or_pos x.2.toNat with e | e
   ·have t:(false||(x.2.toNat != 0))=false:=by simp[e]
    rw[t] at B Q;gi_wp2_with fail;rw[<- B];refine jmM (by omega) u _ _ (by rw[hsm,t]) ?_;rw[e] at o ⊢;rw[<- o];rfl
   ·have t:(false||(x.2.toNat != 0))=true:=by simp;omega
    rw[t] at B Q;have e1:((x.2.toNat:Int) != 0)=true:=by simp;omega
    gi_wp2_with fail
    rw[<- B];exact jmM (by omega) u _ _ (by rw[hsm,t]) (by rw[Int.natCast_add])
 case fin =>
  rintro D W hD ⟨H,T,g,U⟩ hK;have q1:=H.cell;have q2:=T.cell;have I:=(g w.heap.size (by omega) (by omega) (by omega)).trans aa.out;obtain⟨k0,k1⟩:=cl2 I;have ad:=jnD (jfR s);rw[jg5,N.out] at ad;have H6:=E.out;generalize hsm:jfd (jfR s)=sm at q1
  cases sm with
  | false =>
   go_wp2_with fail;refine jau (v:=.int .u64 0) hK (by simp[results,Tryz.f281,go_sem]) ⟨?_,jee U (by omega) hK⟩;rw[jev,hsm];rfl
  | true =>
   have hq:IntKind.u64.wrap ((IntKind.u64.wrap (IntKind.u64.wrap (IntKind.u64.wrap (7*IntKind.u64.wrap (s.size:Nat))*IntKind.u64.wrap (s.size:Nat))*4294967296)).tdiv (10*((je8 (jfR s):Nat):Int)))=((jev b s:Nat):Int):=by
    rw[jev,hsm,N.out];exact jxj _ _ H6.2
   go_wp2_with fail;refine jau (v:=.int .u64 (jev b s:Nat)) hK (by simp[results,Tryz.f281,go_sem]) ⟨rfl,jee U (by omega) hK⟩
end
section
attribute [local go_sem] Oper.semAt_some
theorem jkA {α:Type} {P:Program} {g:Operand} {J:Array Tmp} {assign body:Code} {Q:Exit->Act->World->Prop} {a:Act} {w:World} {H:Nat} (L:List Nat) (Z:Nat) (v1:α->Value)
  {gf:Nat} {lb:Array Value} (r:a.eval g=.func (.func gf) #[] lb) (i:∀ args w,(callFunc gf args).run P w=.ok (.enter gf args) w)
  {B:α->Array Value} {xs:List α} {N:Nat} {w0:World} (M:SeqStopsK Fence.wide 8 P gf lb B (KL L) (fun f=>f=xs) (fun A=>A <+: xs) N w0)
  (q:∀ b∈L,b<w.heap.size) (U:Bw w0 w) (Y:∀ x,(B x).size=J.size)
  (I O:List α->World->Prop) (m:OwnFrom w.heap.size I) (S:OwnFrom w.heap.size O) (j:I [] w)
  (C:∀ (l:Nat) (A:List α) (x:α) (W:World) (K:Act->World->Prop),I A W->(I A W->K { tmps:=((J.zip (B x)).foldl (fun t (p,v)=>t.setIfInBounds p v) a.tmps).setIfInBounds Z (v1 x),defers:=[] } W) ->
   assign.wpIn (Fence.wide.inRound l) 7 P (Exit.then K (fun _ _ _=>False)) { tmps:=(J.zip (B x)).foldl (fun t (p,v)=>t.setIfInBounds p v) a.tmps,defers:=[] } W)
  (G:∀ (l:Nat) (A:List α) (x:α) (W:World),I A W->A.length<N->body.wpIn (Fence.wide.inRound l) 7 P (ownPostG w.heap.size (KL L) I (fun c A W=>c=.exit H/\O A W) (A++[x]) W) { tmps:=((J.zip (B x)).foldl (fun t (p,v)=>t.setIfInBounds p v) a.tmps).setIfInBounds Z (v1 x),defers:=[] } W)
  (F:∀ (D:Nat) (W:World),w.heap.size<=D->(I xs W\/∃ A,A <+: xs/\O A W)->W.heap[D]? = some (.deferred (some []))->Q .normal { a with defers:={ target:=.collected D,args:=#[] }::a.defers } W) :
  (Code.rangeFunc g J assign body).wp P (Exit.inBlock H Q) a w :=
 (wpIn_wide (n:=9)).1 (wpIn_rangeFunc_ownH rfl (by omega) r trivial i M (fun h k=>h.trans k)
  (fun W l o y z h _ _=>KL.grown (grownBy_putObj' W l y) (fun k s e=>by cases e;have:=q _ s;omega)) U Y I (fun c A W=>c=.exit H/\O A W) m (fun _=>(ownFrom_pure _ _).and S) j
  (fun x d _=>d = { tmps:=((J.zip (B x)).foldl (fun t (p,v)=>t.setIfInBounds p v) a.tmps).setIfInBounds Z (v1 x),defers:=[] }) (fun _ _=>ownFrom_pure _ _)
  (fun l A x W K E hK=>C l A x W K E (fun V=>hK _ _ (KeepsFrom.refl _ _) (KL.refl _ _) V rfl))
  (fun l A x d W _ _ E T X=>by subst T;exact G l A x W E X) (fun D f W R e E hK=>by subst e;exact F D W R (.inl E) hK)
  (fun D c A W R u E hK=>by obtain⟨rfl,E⟩:=E;exact wpIn_wide.2 (wp_exit (by show (if H=H then Q .normal _ _ else Q (.exit H) _ _);rw[if_pos rfl];exact F D W R (.inr ⟨A,u,E⟩) hK))))
def jco {n:Nat} (l:List Int) (pre:List { k:Nat // k<n }):Int:=pre.foldl (fun m x=>min m (l.getD x.1 0)) 18446744073709551615
theorem jer {n:Nat} (l:List Int) (A:List { k:Nat // k<n }) (x : { k:Nat // k<n }):jco l (A++[x])=min (jco l A) (l.getD x.1 0):=by unfold jco;rw[List.foldl_append];rfl
theorem jmp {n:Nat} (l:List Int) (B:jdh l) (A:List { k:Nat // k<n }):U64 (jco l A):=by
 have key:∀ (m:List { k:Nat // k<n }),U64 (jco l m.reverse):=by
  intro m
  induction m with
  | nil=>exact⟨by show (0:Int)<=18446744073709551615;omega,by show (18446744073709551615:Int)<=18446744073709551615;omega⟩
  | cons x m ih =>
   rw[List.reverse_cons,jer];have:=jbe l B x.1;unfold U64 at *;omega
 have h:=key A.reverse;rwa [List.reverse_reverse] at h
theorem jkZ {n:Nat} (l:List Int) (B:jdh l) (A r:List { k:Nat // k<n }) (h:jco l A=0):jco l (A++r)=0:=by
 have key:∀ (m:List { k:Nat // k<n }),jco l (A++m.reverse)=0:=by
  intro m
  induction m with
  | nil=>rw[List.reverse_nil,List.append_nil];exact h
  | cons x m ih =>
   rw[List.reverse_cons,<- List.append_assoc,jer,ih];have:=jbe l B x.1;unfold U64 at this;omega
 have h:=key r.reverse;rwa [List.reverse_reverse] at h
def KI {n:Nat} (l:List Int) (m N:Nat) (w w1:World) (pre:List { k:Nat // k<n }) (W:World):Prop:=Boxed W m 22 (.int .u64 (jco l pre))/\(∀ k,k<w1.heap.size->k≠m->W.heap[k]? = w1.heap[k]?)/\Below N w W
theorem jvi {n:Nat} (l:List Int) (m N:Nat) (w F:World) (P:N<=w.heap.size) (C:Nat) (S:F.heap.size<=C) (A:N<=C):OwnFrom C (KI (n:=n) l m N w F):=fun R X Y row Q D hr=>by
 obtain⟨L,M,O⟩:=Q;have E:∀ r,row=some r->∃ o:Obj,X.heap[r]? = some o/\o.isCells=false:=fun r e=>(hr r e).2
 refine⟨jfU L D E,fun k I J=>?_,ownFrom_below (β:=Unit) (B:=C) P A () X Y row O D hr⟩;have G:=M k I J;refine (D.block k ?_ (fun e=>?_)).trans G
 ·have H:F.heap[k]? ≠ none:=by rw[Array.getElem?_eq_getElem I];simp
  rw[<- G] at H;rcases Nat.lt_or_ge k X.heap.size with h | h
  ·exact h
  ·exact absurd (Array.getElem?_eq_none h) H
 ·have:=(hr k e.symm).1
  omega
def KIb {n:Nat} (l:List Int) (m N:Nat) (w w1:World) (pre:List { k:Nat // k<n }) (W:World):Prop:=jco l pre=0/\KI l m N w w1 pre W
def jfj (c:Nat) (l:List Int) (h:Nat):Int:=min (l.getD (jjv c 0 h) 0) (l.getD (jjv c 1 h) 0)
theorem jow (c h:Nat) (l:List Int) (a:Option Addr) (len cap:Nat) (w:World) (hs:ja3 2 c=true) (hc:0<c) (h2:c<=32) (hh:h<2^64) (hL:SlE jaF 1 w.heap.size w a len l) (hl:l.length=2*c) (C:jdh l) :
  CR 291 #[.agg #[.int .i64 2,.int .i64 c,.slice a len cap],.int .u64 h] w (.int .u64 (jfj c l h)):=by
 have Q:Hid (∀ A,CR 173 #[.agg #[.int .i64 2,.int .i64 c,.slice a len cap]] A (.bool true)):=fun A=>(jb7 2 c l a len cap A hL.1).mono fun e w' h=>⟨by rw[h.1];simp[jbJ,hs,hl],h.2⟩
 have HF:Hid (jco l (jdr c h hc)=jfj c l h):=by
  have R:=jbe l C (jjv c 0 h);show min (min 18446744073709551615 (l.getD (jjv c 0 h) 0)) (l.getD (jjv c 1 h) 0)=min (l.getD (jjv c 0 h) 0) (l.getD (jjv c 1 h) 0);unfold U64 at R;omega
 have aj:Hid (∀ x : { k:Nat // k<2*c },∃ b off,a=some ⟨b,off,none⟩/\b<w.heap.size/\w.cell? ⟨b,off+x.1,none⟩=some (.int .u64 (l.getD x.1 0))):=fun x=>by
  obtain⟨y,hy⟩:∃ y,l[x.1]? = some y:=⟨_,List.getElem?_eq_getElem (by have:=x.2;omega)⟩;obtain⟨b,off,e,hb,an⟩:=hL.2 x.1 y hy;have R:=an 0 (by omega);rw[Nat.mul_one] at R;refine⟨b,off,e,hb,?_⟩;rw[List.getD_eq_getElem?_getD,hy];exact R
 have ai:Hid (len=2*c):=hL.1.trans hl;have HU:=Lib.hid C;obtain⟨W0,au,Z,s,ax⟩:=jab w #[.int .i64 2,.int .i64 c,.slice a len cap] 39;have al:=Lib.hid Z;have n:=Lib.hid s;obtain⟨k0,k1,k2⟩:=cl3 Z;clear Z s hL hl C;refine jaq Tryz.func291 rfl ?_;simp only[Tryz.ntmps291,List.size_toArray,List.length_cons,List.length_nil,Nat.reduceAdd,Nat.reduceSub,Array.replicate_succ,Array.replicate_zero,List.push_toArray,List.append_toArray,List.nil_append,List.cons_append];go_wp2_with fail;go_step3;go_wp2_with fail;refine (Q.out _).mono ?_;rintro e A ⟨rfl,F⟩;have d:=known F (Nat.le_refl _) al.out;obtain⟨d0,d1,d2⟩:=cl3 d;obtain⟨W2,av,M,t,af⟩:=jab A #[.int .u64 0] 22;obtain⟨O,Y⟩:∃ O,W2.setCell ⟨A.heap.size,0,none⟩ (.int .u64 18446744073709551615)=O:=⟨_,rfl⟩;have y9:W2.frozen? ⟨A.heap.size,0,none⟩=false:=cFz M 0;have y0:W2.cell? ⟨A.heap.size,0,none⟩=some (.int .u64 0):=cCc M 0;have N:Bw A O:=by rw[<- Y];exact t.setCell (p:=⟨A.heap.size,0,none⟩) (Nat.le_refl _) _
 have ah:O.heap.size=A.heap.size+1:=by rw[<- Y,jbR];exact af
 have ac:Boxed O A.heap.size 22 (.int .u64 18446744073709551615):=by rw[<- Y];exact hSk M _
 have f:=known N (Nat.le_refl _) d;obtain⟨e0,q,e2⟩:=cl3 f;go_wp2_with fail;obtain⟨E,aa,U,X,I,ag⟩:=jas O #[.int .i64 2,.int .i64 c,.slice a len cap] 227 #[.int .u64 h] 22;have ak:=Lib.hid aa;have P:Bw w E:=n.out.trans ((F.trans ((N.trans (I.mono N.size)).mono F.size)).mono n.out.size);have u:KI l A.heap.size w.heap.size w E ([]:List { k:Nat // k<2*c }) E:=⟨known I (Nat.le_refl _) ac,fun _ _ _=>rfl,P⟩;have H0:=Lib.hid u;have am:=Lib.hid (known I (Nat.le_refl _) f);rw[ah] at U X;have HP:=Lib.hid U;have HQ:=Lib.hid X;have HS:Hid (w.heap.size<A.heap.size/\O.heap.size=A.heap.size+1/\E.heap.size=O.heap.size+2):=⟨by have:=F.size;omega,ah,ag⟩;apply wp_label;clear aa d f M t I F P u N ac U X ag af;go_wp2_with (go_at_call 296;refine (jko _ _ _ _ _).mono ?_;rintro e w' ⟨rfl,rfl⟩;rw[ak.out]);have aB:E.heap.size=A.heap.size+3:=by have:=HS.out;omega
 have aC:w.heap.size<A.heap.size:=HS.out.1
 refine jkA [A.heap.size+1,A.heap.size+1+1] 6 (fun x : { k:Nat // k<2*c }=>.int .i64 (x.1:Nat)) (gf:=302) (lb:=#[.pointer (some ⟨A.heap.size+1,0,none⟩),.pointer (some ⟨A.heap.size+1+1,0,none⟩)]) rfl (enters_of Tryz.func302 (by kernel_rfl) rfl)
  (jod (A.heap.size+1) (A.heap.size+1+1) c h (.slice a len cap) hc h2 hh E HP.out HQ.out) (by intro k i;simp at i;omega) (Below.refl _ _) (fun _=>rfl) (KI l A.heap.size w.heap.size w E) (KIb l A.heap.size w.heap.size w E) (jvi l A.heap.size w.heap.size w E (Nat.le_refl _) _ (Nat.le_refl _) (by omega)) ((ownFrom_pure _ _).and (jvi l A.heap.size w.heap.size w E (Nat.le_refl _) _ (Nat.le_refl _) (by omega))) H0.out ?assign ?body ?fin
 case assign =>
  rintro lo B x W K J hK;simp only[List.zip_toArray,List.zip_cons_cons,List.zip_nil_right,List.size_toArray,List.foldl_toArray',List.foldl_cons,List.foldl_nil,List.setIfInBounds_toArray,List.set_cons_succ,List.set_cons_zero] at hK ⊢;gi_wp2;exact J
 case body =>
  rintro lo B x W hN aw;obtain⟨L,S,T⟩:=id hN;simp only[List.zip_toArray,List.zip_cons_cons,List.zip_nil_right,List.size_toArray,List.foldl_toArray',List.foldl_cons,List.foldl_nil,List.setIfInBounds_toArray,List.set_cons_succ,List.set_cons_zero];obtain⟨sb,off,rfl,ao,G⟩:=aj.out x;have q0:=L.cell;have q1:=L.frozen;have ab:=(S w.heap.size (by omega) (by omega)).trans am.out;obtain⟨u0,u1,u2⟩:=cl3 ab;have q2:W.cell? ⟨sb,off+x.1,none⟩=some (.int .u64 (l.getD x.1 0)):=(T.cell (p:=⟨sb,off+x.1,none⟩) ao).trans G;have ay:=x.2;have az:(x.1:Int)<(len:Int):=by have:=ai.out;omega
  have aA:(0:Int)<=(x.1:Int):=by omega
  have C:=HU.out;have ap:=jmp l C B;have aq:=jbe l C x.1;have H:=jer l B x;generalize l.getD x.1 0=v at q2 aq H;generalize hm0:jco l B=m0 at q0 ap H;obtain⟨V,j⟩:∃ V,(W.setCell ⟨A.heap.size,0,none⟩ (.int .u64 (min m0 v))).drew=V:=⟨_,rfl⟩
  have ho:∀ k,k≠A.heap.size->V.heap[k]? = W.heap[k]? := fun k q=>by
   rw[<- j];exact jaa (p:=⟨A.heap.size,0,none⟩) (fun e=>q e.symm) _
  have g:Boxed V A.heap.size 22 (.int .u64 (min m0 v)):=by rw[<- j];exact hSk L _
  have ad:KeepsFrom E.heap.size W V:=by rw[<- j];exact ((KeepsOthers.setCell W _ _).from _).trans ((KeepsOthers.drew _).from _)
  have z:KI l A.heap.size w.heap.size w E (B++[x]) V:=⟨by rw[H];exact g,fun k i q=>(ho k q).trans (S k i q),by rw[<- j];exact (T.setCell (p:=⟨A.heap.size,0,none⟩) (by show w.heap.size<=A.heap.size;omega) _).drew⟩
  have ae:KL [A.heap.size+1,A.heap.size+1+1] W V:=fun k i o hO=>by
   have:k=A.heap.size+1\/k=A.heap.size+1+1:=by simpa using i
   exact (ho k (by omega)).trans hO
  have r0:=g.cell;have Q:Hid (KeepsFrom E.heap.size W V/\KL [A.heap.size+1,A.heap.size+1+1] W V/\KI l A.heap.size w.heap.size w E (B++[x]) V/\jco l (B++[x])=min m0 v):=⟨ad,ae,z,H⟩;have HV:=Lib.hid j;clear hN L S T ab G C H j ho g ad ae z hm0;gi_wp2_with fail;gi_region
  all_goals
   rw[HV.out];by_cases m:min m0 v=0
   ·have ar:(min m0 v==0)=true:=by simp[m]
    gi_wp2_with fail
    exact⟨Q.out.1,rfl,Q.out.2.2.2.trans m,Q.out.2.2.1⟩
   ·have ar:(min m0 v==0)=false:=by simp[m]
    gi_wp2_with fail
    exact⟨Q.out.1,Q.out.2.1,Q.out.2.2.1⟩
 case fin =>
  rintro D W hD J hK
  obtain⟨hv,i⟩:Boxed W A.heap.size 22 (.int .u64 (jfj c l h))/\Bw w W:=by
   rcases J with J | ⟨B,hp,m,J⟩
   ·rw[<- HF.out]
    exact⟨J.1,J.2.2⟩
   ·obtain⟨r,hr⟩:=hp
    have R:=jkZ l HU.out B r m;rw[hr,HF.out] at R;rw[R,<- m];exact⟨J.1,J.2.2⟩
  have q0:=hv.cell;go_wp2_with fail;rw[Exit.noGoto_ret];exact jau (v:=.int .u64 (jfj c l h)) hK (by simp[results,Tryz.f291,go_sem]) ⟨rfl,jee i (by omega) hK⟩
end
section
attribute [local go_sem] Oper.semAt_some
def jdH:Int->List (Int × Int)->List ((Int × Int) × Int)
 | _,[]=>[]
 | s,b::l=>(b,jeb s b.2)::jdH (jeb s b.2) l
def jvg (s:Int) (l:List (Int × Int)):Int:=l.foldl (fun t b=>jeb t b.2) s
theorem jnI:∀ (l:List (Int × Int)) (s:Int),jbl l->U64 s->U64 (jvg s l)
 | [],_,_,hs=>hs
 | b::l,_,h,hs=>jnI l _ (fun x A=>h x (List.mem_cons_of_mem _ A)) (jcT _ _ hs (h b (List.mem_cons_self ..)))
theorem jqY (s:Int) (l:List (Int × Int)) (b:Int × Int):jvg s (l++[b])=jeb (jvg s l) b.2:=by unfold jvg;rw[List.foldl_append];rfl
theorem jgg:∀ (l:List (Int × Int)) (s:Int),(jdH s l).length=l.length
 | [],_=>rfl
 | _::l,_=>by simp only[jdH,List.length_cons,jgg l]
theorem jli:∀ (l:List (Int × Int)) (s:Int) (k:Nat) (b:Int × Int),l[k]? = some b->(jdH s l)[k]? = some (b,jvg s (l.take (k+1)))
 | [],_,k,b,h=>by simp at h
 | x::l,_,0,b,h=>by simp at h;subst h;rfl
 | x::l,s,k+1,b,h=>by
  have A:l[k]? = some b:=by simpa using h
  have B:=jli l (jeb s x.2) k b A;simp only[jdH,List.getElem?_cons_succ,List.take_succ_cons];rw[B];rfl
theorem juV (a:Option Addr) (len cap:Nat) (w:World):Calls Tryz.prog 318 #[.slice a len cap] w fun e w'=>e=.returned (.func (.func 323) #[] #[.pointer (some ⟨w.heap.size,0,none⟩)])/\w'=w.alloc (.cells #[.slice a len cap] 40):=by
 go_enter Tryz.func318,Tryz.ntmps318;go_wp2;go_ret;exact⟨rfl,rfl⟩
theorem jx1 (l q V:Nat) (a:Option Addr) (cap:Nat) (A:List (Int × Int)) (Y:A.length<4294967281) (hu:jbl A) (J t:List ((Int × Int) × Int)->World->Prop)
  (hY:∀ C x W,J C W->C.length<A.length->YieldAt Fence.wide 7 Tryz.prog l #[.agg #[.int .i64 x.1.1,.int .u64 x.1.2],.int .u64 x.2] W fun e O =>
   (e=.returned (.bool true)/\J (C++[x]) O/\Below V W O)\/(e=.returned (.bool false)/\t (C++[x]) O))
  (W:World) (ac:V<=W.heap.size) (hJ:AbidesFrom W.heap.size J) (aa:W.cell? ⟨q,0,none⟩=some (.slice a A.length cap)) (hc:SlE jb4 2 V W a A.length A) (h0:J [] W) :
  CallsIn Fence.wide 8 Tryz.prog 323 #[.func (.yield l) #[] #[],.pointer (some ⟨q,0,none⟩)] W fun e O=>(∃ v,e=.returned v) /\
   ((∃ z,z=jdH 0 A/\J z O)\/(∃ C,C <+: jdH 0 A/\t C O)):=by
 refine callsIn_of_wp Tryz.func323 rfl trivial ?_ rfl;simp only[Tryz.ntmps323,List.size_toArray,List.length_cons,List.length_nil,Nat.reduceAdd,Nat.reduceSub,Array.replicate_succ,Array.replicate_zero,List.push_toArray,List.append_toArray,List.nil_append,List.cons_append];have s:=Lib.hid hu;gi_wp2;gi_loopw [3,8] (fun su i wr=>∃ k:Nat,k<=A.length/\i=.int .i64 k/\su=.int .u64 (jvg 0 (A.take k))/\J ((jdH 0 A).take k) wr/\Below V W wr) (fun _ i _=>A.length-(intOf i).toNat)
 case atStart=>exact⟨0,Nat.zero_le _,rfl,rfl,h0,Below.refl _ _⟩
 case round =>
  obtain⟨k,hk,rfl,rfl,G,D⟩:=hrel;by_cases n:k<A.length
  ·obtain⟨x,b1,o1,Z,ea,ab,p0,p1⟩:=jc1 (SlE.below D hc) n
   subst ea;have ae:=D.size;obtain⟨d,g,H,P,o⟩:=jab wr #[.int .i64 x.1,.int .u64 x.2] 97;obtain⟨N,M⟩:∃ N,jvg 0 (A.take k)=N:=⟨_,rfl⟩;have U:U64 N:=by rw[<- M];exact jnI _ _ (fun y w=>s.out y (List.mem_of_mem_take w)) (by unfold U64;omega)
   have p:U64 x.2:=s.out x (List.mem_of_getElem? Z);have B:jvg 0 (A.take (k+1))=jeb N x.2:=by rw[List.take_add_one,Z,<- M];exact jqY _ _ _
   have L:=jli A 0 k x Z;rw[B] at L;obtain⟨X,j,I,F,ad⟩:=jab d #[.int .u64 N,.int .u64 x.2] 22;have R:wr.grownBy X none:=by rw[<- j,<- g];exact (World.grownBy_alloc _ _ _).trans (World.grownBy_alloc _ _ _)
   have S:=hJ _ _ _ none G R (fun r e=>by cases e);have Q:Below V W X:=D.trans ((P.trans (F.mono (by omega))).mono (by omega));have u:=jfP d.heap.size N x.2 X (cCc I 0) (cCc I 1) U p;obtain⟨fn,tmps,assign,body,w,hR⟩:=hY _ (x,jeb N x.2) X S (by rw[List.length_take,jgg];omega);have E:=known F (Nat.le_refl _) H;obtain⟨q0,q1⟩:=cl2 E;have r1:d.cell? ⟨wr.heap.size,1,none⟩=some (.int .u64 x.2):=cCc H 1;rw[o] at u;have b:=Lib.hid (And.intro L Q);have c:=Lib.hid B;rw[M];clear Z H I E R S L Q B G D P F;gi_wp2_with fail;refine⟨trivial,(callsIn_wide.2 u).mono ?_⟩;rintro e w' ⟨rfl,rfl⟩;gi_wp2_with fail;refine hR.mono ?_;rintro e W4 (⟨rfl,f,m⟩ | ⟨rfl,T⟩)
   ·gi_wp2
    go_roundw
    case rel=>exact⟨k+1,by omega,by simp,by rw[c.out],by rw[List.take_add_one,b.out.1];exact f,b.out.2.trans m⟩
    case measure=>simp[intOf];omega
   ·gi_wp2
    refine bodyPost_ret (results_none rfl _ _ _) rfl ?_;exact⟨⟨_,rfl⟩,.inr ⟨_,by have h:=List.take_prefix (k+1) (jdH 0 A);rwa [List.take_add_one,b.out.1] at h,T⟩⟩
  ·obtain rfl:k=A.length:=by omega
   gi_wp2
   go_end0;exact⟨⟨_,rfl⟩,.inl ⟨_,by rw[<- jgg A 0,List.take_length],G⟩⟩
theorem juW (C F:Nat) (a:Option Addr) (len cap:Nat) (B:List (Int × Int)) (G:len<4294967281) (T:jbl B) (w:World) (H:C<w.heap.size) (E:F<=w.heap.size)
  (S:w.cell? ⟨C,0,none⟩=some (.slice a len cap)) (P:SlE jb4 2 F w a len B) :
  SeqStopsK Fence.wide 8 Tryz.prog 323 #[.pointer (some ⟨C,0,none⟩)] (fun x:(Int × Int) × Int=>#[.agg #[.int .i64 x.1.1,.int .u64 x.1.2],.int .u64 x.2]) (Below F) (fun U=>U=jdH 0 B) (fun M=>M <+: jdH 0 B) B.length w:=fun l J N W I Q _ R O=>by
 have D:=(I.cell (p:=⟨C,0,none⟩) H).trans S;have A:SlE jb4 2 F W a len B:=P.below (I.mono E);have L:=A.1;rw[L] at D A;exact jx1 l C F a cap B (by omega) T J N R W (Nat.le_trans E I.size) Q D A O
theorem jkx {α:Type} {P:Program} {g:Operand} {o:Array Tmp} {assign body:Code} {Q:Exit->Act->World->Prop} {a:Act} {w:World} {L:Nat} (t:TypeId) (M:α->Array Value) (T:α->Nat->Array Value)
  {gf:Nat} {lb:Array Value} (i:a.eval g=.func (.func gf) #[] lb) (q:∀ args w,(callFunc gf args).run P w=.ok (.enter gf args) w)
  {E:α->Array Value} {n:Nat} {xs:List α} {N:Nat} {w0:World} (R:SeqStopsK Fence.wide 8 P gf lb E (Below n) (fun ys=>ys=xs) (fun A=>A <+: xs) N w0)
  (O:n<=w.heap.size) (h:Bw w0 w) (m:∀ x,(E x).size=o.size)
  (I S:List α->World->Prop) (y:OwnFrom w.heap.size I) (d:OwnFrom w.heap.size S) (r:I [] w)
  (F:∀ (l:Nat) (A:List α) (x:α) (W:World) (K:Act->World->Prop),I A W->w.heap.size<=W.heap.size ->
   (I A (W.alloc (.cells (M x) t))->K { tmps:=T x W.heap.size,defers:=[] } (W.alloc (.cells (M x) t))) ->
   assign.wpIn (Fence.wide.inRound l) 7 P (Exit.then K (fun _ _ _=>False)) { tmps:=(o.zip (E x)).foldl (fun t (p,v)=>t.setIfInBounds p v) a.tmps,defers:=[] } W)
  (H:∀ (l:Nat) (A:List α) (x:α) (W:World) (B:Nat),I A W->w.heap.size<=B->B<W.heap.size->W.heap[B]? = some (.cells (M x) t (0,0))->A.length<N ->
   body.wpIn (Fence.wide.inRound l) 7 P (ownPostG w.heap.size (Below n) I (fun c A W=>c=.exit L/\S A W) (A++[x]) W) { tmps:=T x B,defers:=[] } W)
  (G:∀ (D:Nat) (W:World),w.heap.size<=D->(I xs W\/∃ A,A <+: xs/\S A W)->W.heap[D]? = some (.deferred (some []))->Q .normal { a with defers:={ target:=.collected D,args:=#[] }::a.defers } W) :
  (Code.rangeFunc g o assign body).wp P (Exit.inBlock L Q) a w :=
 jku i q R O h m (fun A W=>I A W/\w.heap.size<=W.heap.size) (fun c A W=>c=.exit L/\S A W) (y.and (jgH _ _)) (fun _=>(ownFrom_pure _ _).and d) ⟨r,Nat.le_refl _⟩
  (fun x V W=>∃ B,w.heap.size<=B/\W.heap[B]? = some (.cells (M x) t (0,0))/\V = { tmps:=T x B,defers:=[] })
  (fun x V u X Y row z i hr=>by
   obtain⟨B,Z,U,s⟩:=z;exact⟨B,Z,jg6 w.heap.size B (fun _=>M x) t u X Y row U i hr,s⟩)
  (fun l A x W K C hK=>F l A x W K C.1 C.2 (fun j=>hK _ _ ((KeepsOthers.alloc _ _).from _) ((Below.refl _ W).alloc (Nat.le_trans O C.2) _) ⟨j,by simp;omega⟩ ⟨W.heap.size,C.2,World.alloc_heap_new _ _,rfl⟩))
  (fun l A x V W C f k=>by
   obtain⟨B,Z,U,rfl⟩:=f;refine wpIn_mono (H l A x W B C.1 Z (Array.getElem?_eq_some_iff.1 U).1 U k) ?_;rintro e a3 W3 J
   cases e with
   | normal=>exact⟨J.1,J.2.1,J.2.2,Nat.le_trans C.2 J.1.size⟩
   | _=>exact J)
  (fun D W b C hK=>by exact G D W b (.inl C.1) hK)
  (fun D c A W b J C hK=>by obtain⟨rfl,C⟩:=C;exact wp_exit (by show (if L=L then Q .normal _ _ else Q (.exit L) _ _);rw[if_pos rfl];exact G D W b (.inr ⟨A,J,C⟩) hK))
def jwY (last:Int):Int->List ((Int × Int) × Int)->Int
 | r,[]=>r
 | r,x::l=>if last<x.1.1 then r else jwY last x.2 l
def jr6 (r:Int) (pre:List ((Int × Int) × Int)):Int:=pre.foldl (fun _ x=>x.2) r
theorem jpn (r:Int) (A:List ((Int × Int) × Int)) (x:(Int × Int) × Int):jr6 r (A++[x])=x.2:=by unfold jr6;rw[List.foldl_append];rfl
theorem jkd (A:Int):∀ (p:List ((Int × Int) × Int)) (r:Int) (q:List ((Int × Int) × Int)),(∀ x∈p,x.1.1<=A)->jwY A r (p++q)=jwY A (jr6 r p) q
 | [],_,_,_=>rfl
 | x::p,r,q,h=>by
  have C:=h x (List.mem_cons_self ..);rw[List.cons_append,jwY,if_neg (by omega)];exact jkd A p x.2 q (fun y B=>h y (List.mem_cons_of_mem _ B))
def jhD (f:Nat) (l:List (Int × Int)) (v:Nat):Int:=jwY (jhB f v) 0 (jdH 0 l)
end
section
attribute [local go_sem] Oper.semAt_some
theorem jkw {α:Type} {P:Program} {g:Operand} {G:Array Tmp} {assign body:Code} {Q:Exit->Act->World->Prop} {a:Act} {w:World} {Z:Nat} (t:TypeId) (M:α->Array Value) (X Y:Nat) (v2:α->Value)
  {gf:Nat} {lb:Array Value} (h:a.eval g=.func (.func gf) #[] lb) (b:∀ args w,(callFunc gf args).run P w=.ok (.enter gf args) w)
  {B:α->Array Value} {V:Nat} {xs:List α} {N:Nat} {w0:World} (J:SeqStopsK Fence.wide 8 P gf lb B (Below V) (fun i=>i=xs) (fun A=>A <+: xs) N w0)
  (S:V<=w.heap.size) (R:Bw w0 w) (U:∀ x,(B x).size=G.size)
  (I L:List α->World->Prop) (e:OwnFrom w.heap.size I) (O:OwnFrom w.heap.size L) (d:I [] w)
  (C:∀ (l:Nat) (A:List α) (x:α) (W:World) (K:Act->World->Prop),I A W->w.heap.size<=W.heap.size ->
   (I A (W.alloc (.cells (M x) t))->K { tmps:=jrV X Y (.pointer (some ⟨W.heap.size,0,none⟩)) (v2 x) ((G.zip (B x)).foldl (fun t (p,v)=>t.setIfInBounds p v) a.tmps),defers:=[] } (W.alloc (.cells (M x) t))) ->
   assign.wpIn (Fence.wide.inRound l) 7 P (Exit.then K (fun _ _ _=>False)) { tmps:=(G.zip (B x)).foldl (fun t (p,v)=>t.setIfInBounds p v) a.tmps,defers:=[] } W)
  (E:∀ (l:Nat) (A:List α) (x:α) (W:World) (F:Nat),I A W->w.heap.size<=F->F<W.heap.size->W.heap[F]? = some (.cells (M x) t (0,0))->A.length<N ->
   body.wpIn (Fence.wide.inRound l) 7 P (ownPostG w.heap.size (Below V) I (fun c A W=>c=.exit Z/\L A W) (A++[x]) W) { tmps:=jrV X Y (.pointer (some ⟨F,0,none⟩)) (v2 x) ((G.zip (B x)).foldl (fun t (p,v)=>t.setIfInBounds p v) a.tmps),defers:=[] } W)
  (H:∀ (D:Nat) (W:World),w.heap.size<=D->(I xs W\/∃ A,A <+: xs/\L A W)->W.heap[D]? = some (.deferred (some []))->Q .normal { a with defers:={ target:=.collected D,args:=#[] }::a.defers } W) :
  (Code.rangeFunc g G assign body).wp P (Exit.inBlock Z Q) a w:=by
 obtain⟨T,f⟩:∃ T:α->Nat->Array Value,∀ x F,T x F=jrV X Y (.pointer (some ⟨F,0,none⟩)) (v2 x) ((G.zip (B x)).foldl (fun t (p,v)=>t.setIfInBounds p v) a.tmps):=⟨_,fun _ _=>rfl⟩;simp only[<- f] at C E;exact jkx t M T h b J S R U I L e O d C E H
def RI (n L:Nat) (last:Int) (w:World) (pre:List ((Int × Int) × Int)) (W:World):Prop:=Boxed W (n+1) 22 (.int .u64 (jr6 0 pre))/\Boxed W L 3 (.int .i64 last)/\Below n w W/\∀ x∈pre,x.1.1<=last
theorem jvy (n L:Nat) (D:Int) (w:World) (M:n<=w.heap.size) (C:Nat) (E:n<=C):OwnFrom C (RI n L D w):=fun O X Y row N F hr=>by
 obtain⟨G,H,I,J⟩:=N;have A:∀ r,row=some r->∃ o:Obj,X.heap[r]? = some o/\o.isCells=false:=fun r e=>(hr r e).2
 exact⟨jfU G F A,jfU H F A,ownFrom_below (β:=Unit) (B:=C) M E () X Y row I F hr,J⟩
def RIb (n L:Nat) (last:Int) (w:World) (pre:List ((Int × Int) × Int)) (W:World):Prop:=∃ p x,pre=p++[x]/\last<x.1.1/\RI n L last w p W
theorem jwL (n L:Nat) (A:Int) (w:World) (H:n<=w.heap.size) (C:Nat) (B:n<=C):OwnFrom C (RIb n L A w):=fun J X Y row I G hr=>by
 obtain⟨p,x,D,E,F⟩:=I;exact⟨p,x,D,E,jvy n L A w H C B p X Y row F G hr⟩
theorem jqP (f:Nat) (l:List (Int × Int)) (v:Nat) (a:Option Addr) (len cap:Nat) (w:World) (hf:f<=3) (hL:SlE jb4 2 w.heap.size w a len l) (hr:jaR f l=true) (t:jbl l) (S:len<=1000) (hp:∀ b∈l,I64 b.1) (hv:v<2^64) :
  CR 310 #[.agg #[.int .i64 f,.slice a len cap],.int .u64 v] w (.int .u64 (jhD f l v)):=by
 have hR:Hid (∀ E,Bw w E->CR 174 #[.agg #[.int .i64 f,.slice a len cap]] E (.bool true)):=fun E hb=>(jbN f l a len cap E ((hL.below hb).mono hb.size) (by unfold maxLen;omega) (fun b hb=>(hp b hb).2)).mono fun e w' h=>⟨by rw[h.1,hr],h.2⟩
 have k:Hid (∀ E,CR 316 #[.int .i64 f,.int .u64 v] E (.int .i64 (jhB f v))):=fun E=>jf4 f v E hf hv
 have HL:Hid (SlE jb4 2 w.heap.size w a len l/\len<=1000/\jbl l/\len=l.length):=⟨hL,S,t,hL.1⟩;have c:∃ A,jhB f v=A:=⟨_,rfl⟩;obtain⟨A,Z⟩:=c;rw[Z] at k;have ab:=Lib.hid Z;clear hL S t hp hr hf hv Z;obtain⟨i,ag,X,L,j,aj⟩:=jas w #[.int .i64 f,.slice a len cap] 42 #[.int .u64 0] 22;have z1:i.setCell ⟨w.heap.size+1,0,none⟩ (.int .u64 0)=i:=jag L rfl;have y0:i.cell? ⟨w.heap.size+1,0,none⟩=some (.int .u64 0):=cCc L 0;have y9:i.frozen? ⟨w.heap.size+1,0,none⟩=false:=cFz L 0;have ad:=Lib.hid X;have ae:=Lib.hid L;have T:=Lib.hid j;obtain⟨k0,k1⟩:=cl2 X;clear X j L;refine jaq Tryz.func310 rfl ?_;simp only[Tryz.ntmps310,List.size_toArray,List.length_cons,List.length_nil,Nat.reduceAdd,Nat.reduceSub,Array.replicate_succ,Array.replicate_zero,List.push_toArray,List.append_toArray,List.nil_append,List.cons_append];go_wp2_with fail;go_step3;go_wp2_with fail;refine (hR.out _ T.out).mono ?_;rintro e E ⟨rfl,M⟩;have Y:=known M (Nat.le_refl _) ad.out;obtain⟨d0,d1⟩:=cl2 Y;go_wp2_with fail;refine (k.out _).mono ?_;rintro e F ⟨rfl,N⟩;have o:=known N (Nat.le_refl _) Y;obtain⟨W3,ah,r,U,u⟩:=jab F #[.int .i64 A] 3;have R:=known U (Nat.le_refl _) o;obtain⟨e0,e1⟩:=cl2 R;go_wp2_with fail;apply wp_label;obtain⟨g,n,s,V,z⟩:=jab W3 #[.slice a len cap] 40;have ac:=Lib.hid n;have aa:w.heap.size+2<=E.heap.size:=by have:=M.size;omega
 have d:E.heap.size<=F.heap.size:=N.size;have Q:Bw F g:=U.trans (V.mono (by omega));have H:Bw i g:=M.trans ((N.trans (Q.mono d)).mono (by omega));have G:Bw w g:=T.out.trans (H.mono T.out.size);have H0:Hid (RI w.heap.size F.heap.size A w [] g):=⟨known H (Nat.le_refl _) ae.out,known V (Nat.le_refl _) r,G,fun x hx=>by cases hx⟩;have HS:=Lib.hid (juW W3.heap.size w.heap.size a len cap l (by have:=HL.out.2.1;omega) HL.out.2.2.1 g (by omega) (by omega) (cCc s 0) (HL.out.1.below G));have HZ:Hid (w.heap.size+2<=E.heap.size/\E.heap.size<=F.heap.size/\W3.heap.size=F.heap.size+1/\g.heap.size=W3.heap.size+1):=⟨aa,d,u,z⟩;rw[u] at HS;clear n s V Q H G Y o r R U M N aa d z;go_wp2_with (go_at_call 318;refine (juV _ _ _ _).mono ?_;rintro e w' ⟨rfl,rfl⟩;rw[ac.out]);have ak:=HZ.out
 refine jkw 97 (fun x:(Int × Int) × Int=>#[.int .i64 x.1.1,.int .u64 x.1.2]) 7 8 (fun x=>.int .u64 x.2) (gf:=323) (lb:=#[.pointer (some ⟨F.heap.size+1,0,none⟩)]) rfl (enters_of Tryz.func323 (by kernel_rfl) rfl)
  HS.out (by omega) (Below.refl _ _) (fun _=>rfl) (RI w.heap.size F.heap.size A w) (RIb w.heap.size F.heap.size A w) (jvy w.heap.size F.heap.size A w (Nat.le_refl _) _ (by omega)) (jwL w.heap.size F.heap.size A w (Nat.le_refl _) _ (by omega)) H0.out ?assign ?body ?fin
 case assign =>
  rintro lo P x W K B hz hK;simp only[jrV,List.zip_toArray,List.zip_cons_cons,List.zip_nil_right,List.size_toArray,List.foldl_toArray',List.foldl_cons,List.foldl_nil,List.setIfInBounds_toArray,List.set_cons_succ,List.set_cons_zero] at hK ⊢;gi_wp2;refine⟨?_,?_,?_,B.2.2.2⟩
  ·exact (((Below.refl _ W).alloc (Nat.le_refl _) _).block _ B.1.lt).trans B.1
  ·exact (((Below.refl _ W).alloc (Nat.le_refl _) _).block _ B.2.1.lt).trans B.2.1
  ·exact B.2.2.1.alloc (by omega) _
 case body =>
  rintro lo P x W Bx ⟨C,I,J,O⟩ M N hX ai;simp only[jrV,List.zip_toArray,List.zip_cons_cons,List.zip_nil_right,List.size_toArray,List.foldl_toArray',List.foldl_cons,List.foldl_nil,List.setIfInBounds_toArray,List.set_cons_succ,List.set_cons_zero];have q0:=C.cell;have q1:=C.frozen;have q2:=I.cell;obtain⟨k0,k1⟩:=cl2 hX;have HI:Hid (RI w.heap.size F.heap.size A w P W):=⟨C,I,J,O⟩;clear C I J O hX;by_cases af:A<x.1.1
  ·gi_wp2_with fail
   exact⟨KeepsFrom.refl _ _,rfl,P,x,rfl,af,HI.out⟩
  ·gi_wp2_with fail
   obtain⟨C,I,J,O⟩:=HI.out;have hB:Below w.heap.size W (W.setCell ⟨w.heap.size+1,0,none⟩ (.int .u64 x.2)):=(Below.refl _ W |>.mono J.size).setCell (p:=⟨w.heap.size+1,0,none⟩) (by show _<=_+1;omega) _;refine⟨(KeepsOthers.setCell W _ _).from _,hB,?_,?_,J.trans hB,?_⟩
   ·rw[jpn]
    exact hSk C _
   ·exact (jaa (p:=⟨w.heap.size+1,0,none⟩) (by show w.heap.size+1≠F.heap.size;omega) _).trans I
   ·intro y hy
    rcases List.mem_append.1 hy with h | h
    ·exact O y h
    ·obtain rfl:y=x:=by simpa using h
     omega
 case fin =>
  rintro D W hD B m
  obtain⟨hv,hk⟩:Boxed W (w.heap.size+1) 22 (.int .u64 (jhD f l v))/\Bw w W:=by
   unfold jhD;rw[ab.out];rcases B with B | ⟨P,⟨q,hq⟩,p,x,rfl,hx,B⟩
   ·have h1:=jkd A (jdH 0 l) 0 [] B.2.2.2
    rw[List.append_nil] at h1;rw[h1];exact⟨B.1,B.2.2.1⟩
   ·rw[<- hq,List.append_assoc,jkd A p 0 _ B.2.2.2]
    show Boxed W (w.heap.size+1) 22 (.int .u64 (if A<x.1.1 then jr6 0 p else jwY A x.2 q))/\_;rw[if_pos hx];exact⟨B.1,B.2.2.1⟩
  have q0:=hv.cell;go_wp2_with fail;rw[Exit.noGoto_ret];exact jau (v:=.int .u64 (jhD f l v)) m (by simp[results,Tryz.f310,go_sem]) ⟨rfl,jee hk (by omega) m⟩
end
def Bd.ask:Bd->Nat->Int
 | .num l,_=>l.length
 | .reg b r,_=>(jev b (jat r):Nat)
 | .cnt c l,h=>jfj c l h
 | .bkt f l,h=>jhD f l h
def jeh (v:Int) (w:World) (e:Ending) (w':World):Prop:=e=.returned (.int .u64 v)/\Bw w w'
theorem jwb (l:List Int) (a:Option Addr) (len cap:Nat) (h:Int) (w:World) (F:SlC jaF 1 w.heap.size w a len cap l) (hr:jaJ l=true) (D:l.length<=1000) :
  Calls Tryz.prog 247 #[.agg #[.slice a len cap],.int .u64 h] w (jeh l.length w):=by
 obtain⟨H,I,C,A,J⟩:=jab w #[.slice a len cap] 240;have L:H.cell? ⟨w.heap.size,0,none⟩=some (.slice a len cap):=cCc C 0;have E:=jmv l a len cap H ((F.1.below A).mono A.size) (by have:=F.1.1;omega);rw[hr,if_pos rfl] at E;have E:=Lib.hid E;have B:=Lib.hid A;clear C A F hr D;go_enter Tryz.func247,Tryz.ntmps247;go_wp2_with fail;refine E.out.mono ?_;rintro e M ⟨rfl,G⟩;go_wp2_with fail;go_ret;exact⟨rfl,B.out.trans (G.mono B.out.size)⟩
theorem jwc (b:Nat) (r:List Nat) (h:Int) (w:World) (F:3<=b) (G:b<=8) (H:r.length=2^b) (hr:∀ i,r.getD i 0<=65-b) :
  Calls Tryz.prog 276 #[.agg #[.int .i64 b,.string (jat r)],.int .u64 h] w (jeh (jev b (jat r):Nat) w):=by
 obtain⟨I,J,C,B,L⟩:=jab w #[.int .i64 b,.string (jat r)] 242;obtain⟨M,c1⟩:=cl2 C;have E:=Lib.hid (joY b r I F G H hr);have A:=Lib.hid B;generalize jev b (jat r)=n at E ⊢;clear C B F G H hr;go_enter Tryz.func276,Tryz.ntmps276;go_wp2_with fail;refine E.out.mono ?_;rintro e N ⟨rfl,D⟩;go_wp2_with fail;go_ret;exact⟨rfl,A.out.trans (D.mono A.out.size)⟩
theorem jwa (c:Nat) (l:List Int) (a:Option Addr) (len cap:Nat) (h:Nat) (w:World) (H:c=4\/c=8\/c=16\/c=32) (G:SlC jaF 1 w.heap.size w a len cap l) (M:l.length=c+c) (D:jdh l) (I:h<2^64) :
  Calls Tryz.prog 286 #[.agg #[.int .i64 2,.int .i64 c,.slice a len cap],.int .u64 h] w (jeh (jfj c l h) w):=by
 obtain⟨J,L,C,A,N⟩:=jab w #[.int .i64 2,.int .i64 c,.slice a len cap] 243;obtain⟨O,c1,c2⟩:=cl3 C;have F:=Lib.hid (jow c h l a len cap J (jdK c H) (by omega) (by omega) I ((G.1.below A).mono A.size) (by omega) D);have B:=Lib.hid A;generalize jfj c l h=n at F ⊢;clear C A G M D I H;go_enter Tryz.func286,Tryz.ntmps286;go_wp2_with fail;refine F.out.mono ?_;rintro e P ⟨rfl,E⟩;go_wp2_with fail;go_ret;exact⟨rfl,B.out.trans (E.mono B.out.size)⟩
theorem jv9 (f:Nat) (l:List (Int × Int)) (a:Option Addr) (len cap:Nat) (h:Nat) (w:World) (I:f<=3) (F:SlC jb4 2 w.heap.size w a len cap l) (hr:jaR f l=true) (D:jbl l) (E:l.length<=1000) (L:∀ b∈l,I64 b.1) (J:h<2^64) :
  Calls Tryz.prog 305 #[.agg #[.int .i64 f,.slice a len cap],.int .u64 h] w (jeh (jhD f l h) w):=by
 obtain⟨M,N,C,A,O⟩:=jab w #[.int .i64 f,.slice a len cap] 245;obtain⟨P,c1⟩:=cl2 C;have H:=Lib.hid (jqP f l h a len cap M I ((F.1.below A).mono A.size) hr D (by have:=F.1.1;omega) L J);have B:=Lib.hid A;generalize jhD f l h=n at H ⊢;clear C A F hr D E L J I;go_enter Tryz.func305,Tryz.ntmps305;go_wp2_with fail;refine H.out.mono ?_;rintro e Q ⟨rfl,G⟩;go_wp2_with fail;go_ret;exact⟨rfl,B.out.trans (G.mono B.out.size)⟩
theorem jrk (x : Value) (w : World) : (method 590 240 (.agg #[x]) "aviary/ladder.ask").run Tryz.prog w = .ok (247, .agg #[x]) w := by kernel_rfl
theorem jrl (x y : Value) (w : World) : (method 590 242 (.agg #[x, y]) "aviary/ladder.ask").run Tryz.prog w = .ok (276, .agg #[x, y]) w := by kernel_rfl
theorem jrj (x y z : Value) (w : World) : (method 590 243 (.agg #[x, y, z]) "aviary/ladder.ask").run Tryz.prog w = .ok (286, .agg #[x, y, z]) w := by kernel_rfl
theorem jri (x y : Value) (w : World) : (method 590 245 (.agg #[x, y]) "aviary/ladder.ask").run Tryz.prog w = .ok (305, .agg #[x, y]) w := by kernel_rfl
theorem jw7 {w : World} {v : Value} {B : Bd} {kind level : Nat} (hb : BdAt w v B) (A : B.Ok kind level) : ∃ T M f, v = .iface T M /\ (∀ W, (method 590 T M "aviary/ladder.ask").run Tryz.prog W = .ok (f, M) W) /\ (∀ args W, (callFunc f args).run Tryz.prog W = .ok (.enter f args) W) /\
  ∀ W (h:Nat),BdAt W v B->h<2^64->Calls Tryz.prog f #[M,.int .u64 h] W (jeh (B.ask h) W):=by
 cases B with
 | num l =>
  obtain⟨a,len,cap,rfl,-⟩:=hb;obtain⟨-,-,I,E,-⟩:=A;refine⟨_,_,_,rfl,fun W=>jrk _ W,enters_of Tryz.func247 (by kernel_rfl) rfl,fun W h F H=>?_⟩;obtain⟨Q,D,C,e,G⟩:=F
  cases e
  exact jwb l a len cap h W G (jd7 l I E) (by omega)
 | reg b r =>
  obtain rfl:v=_:=hb;obtain⟨-,N,I,E,J,O⟩:=A;refine⟨_,_,_,rfl,fun W=>jrl _ _ W,enters_of Tryz.func276 (by kernel_rfl) rfl,fun W h F H=>?_⟩;exact jwc b r h W (by omega) (by omega) J O
 | cnt c l =>
  obtain⟨a,len,cap,rfl,-⟩:=hb;obtain⟨-,N,I,E,J⟩:=A;refine⟨_,_,_,rfl,fun W=>jrj _ _ _ W,enters_of Tryz.func286 (by kernel_rfl) rfl,fun W h F H=>?_⟩;obtain⟨Q,D,C,e,G⟩:=F
  cases e
  exact jwa c l a len cap h W (jdR I N) G E J H
 | bkt f l =>
  obtain⟨a,len,cap,rfl,-⟩:=hb;obtain⟨-,N,I,E,J,O,P⟩:=A;refine⟨_,_,_,rfl,fun W=>jri _ _ W,enters_of Tryz.func305 (by kernel_rfl) rfl,fun W h F H=>?_⟩;obtain⟨Q,D,C,e,G⟩:=F
  cases e
  have L:f<=3:=by omega
  exact jv9 f l a len cap h W L G (jcX f l L E J P) O (by have:=jdn f l L E P;omega) (jfC f l L P) H
theorem jvK {k L:Nat} {h:Nat} {B:Bd} {v:Value} {w:World} (E:B.Ok k L) (R:h<2^64) (i:SkB w v k L B) :
  Calls Tryz.prog 23 #[v,.int .u64 h] w (jeh (B.ask h) w):=by
 obtain⟨y,s,S,rfl,P⟩:=i;obtain⟨Z,a,I,A,d⟩:=jab w (skv y s) 44;have X:=Lib.hid (jc8 (w:=Z) E ⟨y,s,S,rfl,(P.go A)⟩)
 have Y : Hid (∀ b W, BdAt W b B -> ∃ T F f, b = .iface T F /\ (∀ W, (method 590 T F "aviary/ladder.ask").run Tryz.prog W = .ok (f, F) W) /\ (∀ args W, (callFunc f args).run Tryz.prog W = .ok (.enter f args) W) /\
  ∀ W (h:Nat),BdAt W b B->h<2^64->Calls Tryz.prog f #[F,.int .u64 h] W (jeh (B.ask h) W)):=fun b W hb=>jw7 hb E
 obtain⟨j,c1,c2,c3,c4,c5,l,m,n,o⟩:=jbg I;have G:=Lib.hid A;have V:=Lib.hid R;clear I A P S E R;go_enter Tryz.func23,Tryz.ntmps23;go_wp2_with fail;refine X.out.mono ?_;rintro e U ⟨b,rfl,hb,D⟩;obtain⟨T,F,f,rfl,u,t,Q⟩:=Y.out b U hb;obtain⟨O,c,H,C,g⟩:=jab U #[.iface T F,.int .i64 k,.int .i64 L] 117;obtain⟨p,q,r⟩:=cl3 H;have J:=Lib.hid (Q O h (hb.go C) V.out);have N:Hid (Bw w O):=G.out.trans ((D.trans (C.mono D.size)).mono G.out.size);clear H C D hb Q;go_wp2_with fail;refine J.out.mono ?_;rintro e x ⟨rfl,M⟩;go_wp2_with fail;go_ret;exact⟨rfl,N.out.trans (M.mono N.out.size)⟩
end Go.Proofs.YtnegciklhanmbaaGreatDoor
