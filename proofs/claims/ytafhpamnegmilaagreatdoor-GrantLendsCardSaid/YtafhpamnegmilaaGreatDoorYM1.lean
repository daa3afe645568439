/- Package hist: done. Package hist: Add. Package hist: Lower. Sets of ints as map[int]struct{}: run equations, of no program. -/
import Derived.Test.YtafhpamnegmilaaGreatDoorYL6
set_option maxHeartbeats 4000000
set_option maxRecDepth 100000
namespace Go.Proofs.YtafhpamnegmilaaGreatDoor
open Go Go.Maps Go.RowKit Go.Shelf
section
open Go.Sort
theorem jjq:∀ (l:List (Int × Int)) (p:Int),jb5 l->jb6 (ja7 l) p=match jb6 l p with
  | some x=>if x=0 then none else some x
  | none=>none
 | [],p,_=>rfl
 | (q,m)::t,p,h=>by
  obtain⟨E,F⟩:=jdh h;have D:=jjq t p E;have C:q=p->jb6 (ja7 t) p=none:=fun e=>jjr (fun c G=>by have:=F c (List.mem_filter.1 G).1;rw[<- e];exact this)
  rw[jbf];unfold ja7;rw[List.filter_cons];by_cases B:m=0
  ·subst B
   rw[if_neg (by simp)];by_cases A:q=p
   ·rw[if_pos A];exact C A
   ·rw[if_neg A];exact D
  ·rw[if_pos (by simpa using B),jbf]
   by_cases A:q=p
   ·rw[if_pos A,if_pos A];simp[B]
   ·rw[if_neg A,if_neg A];exact D
theorem joa:∀ {l:List (Int × Int)} {p x:Int},jb6 l p=some x->p∈l.map Prod.fst
 | b::t,p,x,h=>by
  rw[jbf] at h;split at h
  ·rename_i e;simp[e]
  ·exact List.mem_cons_of_mem _ (joa h)
theorem jlj:∀ {l:List (Int × Int)} {p:Int},p∈l.map Prod.fst->jb6 l p≠none
 | b::t,p,h=>by
  rw[jbf];split
  ·simp
  ·rename_i A
   rcases List.mem_cons.1 h with e | h
   ·exact absurd e.symm A
   ·exact jlj h
theorem jli:∀ {l:List (Int × Int)},jb5 l->∀ {b:Int × Int},b∈l->jb6 l b.1=some b.2
 | c::t,hu,b,h=>by
  obtain⟨A,B⟩:=jdh hu;rw[jbf];rcases List.mem_cons.1 h with rfl | h
  ·simp
  ·have:=B b h
   rw[if_neg (by omega)];exact jli A h
def jlc (l:List (Int × Int)) (left:Lit->Bool) (D:DataW Unit):Prop:=∀ p z,D.atKey (.int .i64 p) z=match jb6 l p with
 | some x=>if x=0/\left (.int .i64 p)=false then z else .lit (.int .u64 x)
 | none=>z
theorem jnV {l:List (Int × Int)} {D:DataW Unit} (h:∀ p z,D.atKey (.int .i64 p) z=match jb6 l p with
 | some x=>.lit (.int .u64 x)
 | none=>z):jlc l (Maps.has D) D:=fun p z=>by
 have A:=h p;rw[A z]
 cases B:jb6 l p with
 | none=>rfl
 | some x =>
  rw[B] at A;have:=has_true_of_atKey (k:=.int .i64 p) A;simp[this]
theorem jmw {l:List (Int × Int)} {B:Lit->Bool} {D:DataW Unit} {x c:Int} (h:jlc l B D) (C:∀ F,D.atKey (.int .i64 x) F=.lit (.int .u64 c)):jb6 l x=some c:=by
 have A:=(h x (.lit (.bool true))).symm.trans (C _)
 cases E:jb6 l x with
 | none=>rw[E] at A;simp at A
 | some v =>
  rw[E] at A;simp only at A;split at A
  ·simp at A
  ·simp at A;rw[A]
theorem jfK (q x:Int):(Lit.int .i64 q).sameKey (.int .i64 x)=decide (q=x):=by
 by_cases h:q=x
 ·subst h;rw[WideAt.sameKey_self (a:=.int .i64 q) trivial];simp
 ·rw[sameKey_ne (by simpa using h)];simp[h]
theorem jmv {l:List (Int × Int)} {A:Lit->Bool} {D:DataW Unit} {x:Int} (h:jlc l A D) (B:∀ F,D.atKey (.int .i64 x) F=.lit (.int .u64 0)):jlc l (fun z=>A z && !z.sameKey (.int .i64 x)) (D.del (.int .i64 x)):=fun q z=>by
 have E:=jmw h B;by_cases C:q=x
 ·subst C
  rw[atKey_del_same,E];simp[jfK]
 ·rw[atKey_del_other (by simpa using C),h q z]
  simp[jfK,C]
theorem jnW {l:List (Int × Int)} {A:Lit->Bool} {D:DataW Unit} {x c:Int} (h:jlc l A D) (E:c≠0) (B:∀ G,D.atKey (.int .i64 x) G=.lit (.int .u64 c)):jlc l (fun z=>A z && !z.sameKey (.int .i64 x)) D:=fun q z=>by
 have F:=jmw h B;rw[h q z];by_cases C:q=x
 ·subst C
  rw[F];simp[E]
 ·simp[jfK,C]
theorem jsb {l:List (Int × Int)} {A:Lit->Bool} {D:DataW Unit} (E:jb5 l) (h:jlc l A D) (C:∀ k,A k=false):∀ p z,D.atKey (.int .i64 p) z=match jb6 (ja7 l) p with
 | some x=>.lit (.int .u64 x)
 | none=>z:=fun p z=>by
 rw[h p z,jjq l p E]
 cases jb6 l p with
 | none=>rfl
 | some x =>
  by_cases B:x=0
  ·simp[B,C]
  ·simp[B]
theorem jqH {w:World} {b Q:Nat} {D:DataW Unit} {l:List (Int × Int)} (A:w.ownsMap Tryz.prog 3 (plainElem Tryz.prog 48) b Q D) (O:jb5 l) (N:∀ p z,D.atKey (.int .i64 p) z=match jb6 l p with
  | some x=>.lit (.int .u64 x)
  | none=>z) {ss:List Int} (h:ss.Perm (intKeys D)):ss.mergeSort (fun x y=>decide (x<=y))=l.map Prod.fst:=by
 obtain⟨es,M,J,_⟩:=A.entries jvL;obtain⟨F,B,H⟩:=A.keysOf;obtain rfl:es=F:=by rw[M] at B;simpa using B
 subst M;have C:(l.map Prod.fst).Pairwise (· < ·):=List.pairwise_map.2 O
 have I:=perm_intKeys J (fun p I=>by obtain⟨v,P⟩:=H p I;obtain⟨x,_,L,_⟩:=Maps.keyOf_i64 Tryz.underlying3 P;exact⟨x,L⟩) (ss:=l.map Prod.fst) (C.imp (fun {a b} h=>by omega)) (fun x=>by
  cases E:jb6 l x with
  | none =>
   have G:∀ z,(DataW.map es).atKey (.int .i64 x) z=z:=fun z=>by rw[N x z,E]
   rw[has_false_of_atKey G];refine⟨fun L=>?_,fun h=>by simp at h⟩;exact absurd E (jlj L)
  | some y =>
   have G:∀ z,(DataW.map es).atKey (.int .i64 x) z=.lit (.int .u64 y):=fun z=>by rw[N x z,E]
   rw[has_true_of_atKey G];exact⟨fun _=>rfl,fun _=>joa E⟩)
 rw[show (fun x y:Int=>decide (x<=y))=leI from rfl,mergeSort_of_perm_i (h.trans I.symm)];exact List.mergeSort_of_pairwise (C.imp (fun {a b} h=>by simp;omega))
theorem jkj {A B C:World} {row:Option Nat} (h:A.grownBy B row) (D:Below A.heap.size B C):A.grownBy C row:=⟨D.os.trans h.os,D.tape.trans h.tape,D.output.trans h.output,Nat.le_trans h.size D.size,fun k F E=>(D.block k F).trans (h.block k F E)⟩
theorem jl1 {k n:Nat} (h:k<n):n-(k+1)<n-k:=by omega
theorem jiT {α:Type} {enc:α->List Value} {w:World} {A e B:Nat} {v:Value} {l:List α} (D:∀ x,(enc x).length=B) (h:w.ownsRow A e B v l.length (l.flatMap enc)) {b:Nat} (C:b<A) (u z:Value) :
  ∃ a cap,v=.slice a l.length cap/\SlC enc B ((w.setCell ⟨b,0,none⟩ u).setCell ⟨b,1,none⟩ z).heap.size ((w.setCell ⟨b,0,none⟩ u).setCell ⟨b,1,none⟩ z) a l.length cap l/\∀ x,a=some x->A<=x.block :=
 jaz D (ownsRow_setCell_below (ownsRow_setCell_below h (a:=⟨b,0,none⟩) C u) (a:=⟨b,1,none⟩) C z)
abbrev jxa:Int->List Value:=fun x=>[encZ x]
theorem jlB:∀ l:List Int,l.flatMap jxa=l.map encZ
 | []=>rfl
 | x::t=>by rw[List.flatMap_cons,jlB t];rfl
theorem jtU {A:Nat} {w:World} {a:Option Addr} {len:Nat} {l:List Int} (h:SlE jxa 1 A w a len l) {j:Nat} (D:j<len):∃ x b off,l[j]? = some x/\a=some ⟨b,off,none⟩/\b<A/\w.cell? ⟨b,off+j,none⟩=some (.int .i64 x):=by
 obtain⟨x,b,off,E,e,B,C⟩:=h.at D;have:=C 0 (by omega);rw[Nat.mul_one,Nat.add_zero] at this;exact⟨x,b,off,E,e,B,this⟩
attribute [-go_sem] Builtin.append_
theorem jnP (b N:Nat) (D:DataW Unit) (w:World) (l:List (Int × Int)) (A:w.ownsMap Tryz.prog 3 (plainElem Tryz.prog 48) b N D) (P:Maps.size D<=100000) (Q:jb5 l) (O:∀ p z,D.atKey (.int .i64 p) z=match jb6 l p with
  | some x=>.lit (.int .u64 x)
  | none=>z) :
  Calls Tryz.prog 294 #[.func (.func 298) #[] #[.pointer (some ⟨w.heap.size,0,none⟩)]] (w.alloc (.cells #[.map (some b)] 346)) fun e w'=>∃ E I,e=.returned (.slice E l.length I) /\
   SlC jxa 1 w'.heap.size w' E l.length I (l.map Prod.fst)/\(∀ x,E=some x->w.heap.size<=x.block)/\Bw w w':=by
 refine (jpT b N D w A P).mono ?_;rintro e R ⟨v5,ss,rfl,C,B,M,J⟩;have L:=jqH A Q O C;have G:ss.length=l.length:=by have:=congrArg List.length L;simpa using this
 rw[L,G] at B;obtain⟨E,I,rfl,H,F⟩:=jaz (enc:=jxa) (l:=l.map Prod.fst) (fun _=>rfl) (by rw[List.length_map];rw[jlB];exact B);rw[List.length_map] at H ⊢;exact⟨E,I,rfl,H,F,J⟩
theorem jjz (b K:Nat) (f:Int) (l:List (Int × Int)) (w:World) (hm:MapIs w b K l) (hu:jb5 l) (hb:jbj l) (hi:∀ c∈l,I64 c.1) (aP:l.length<=5000) (hK:K<=5000) :
  Calls Tryz.prog 291 #[.agg #[.map (some b),.int .i64 f]] w fun e w'=>∃ a len cap,e=.returned (.agg #[.int .i64 f,.slice a len cap])/\SlC jbO 2 w'.heap.size w' a len cap (ja7 l)/\(∀ x,a=some x->w.heap.size<=x.block)/\w.grownBy w' (some b):=by
 obtain⟨W1,bs,ao,aC,I,Z⟩:=jaI w #[.map (some b),.int .i64 f] 348 #[.int .i64 0,.slice none 0 0] 39;obtain⟨h,D0,Q,bA,a9⟩:=hm;have bu:=Q.lt;have aQ:W1.ownsMap Tryz.prog 3 (plainElem Tryz.prog 48) b h D0:=Q.kept (jaK I none) (by simp);obtain⟨c0,c1⟩:=cl2 ao;go_enter Tryz.func291,Tryz.ntmps291
 go_wp2_with (first
  | (at_range;refine wpList_range_own _ rfl _ 346 rfl 3 48 jvL jfn _ b h _ rfl aQ ?_;intro w0 ae bi aR)
  | go_in)
 go_frame;have aX:w0.heap.size=w.heap.size+3:=by rw[aR,Z]
 rw[Z] at ae ⊢;have bp:Hid (w0.heap.size=w.heap.size+3):=aX;have ai:Hid (W1.heap.size=w.heap.size+2):=Z;have a7:=Lib.hid ao;have a3:=Lib.hid aC;have aZ:=Lib.hid I;clear aR Z aX ao aC I
 go_loopw [3,4] (fun _ _ wr=>∃ (d:Lit->Bool) (cnt:Nat) (D:DataW Unit),wr.ranges Tryz.prog 3 (plainElem Tryz.prog 48) b (w.heap.size+2) h D d cnt/\jlc l d D/\W1.grownBy wr (some b))
  (fun _ _ wr=>wr.rangeLeft b (w.heap.size+2))
 case atStart=>exact⟨_,_,_,ae,jnV a9,bi.but _⟩
 case round =>
  obtain⟨d,cnt,D,S,hS,r⟩:=hrel;have aJ:=(r.block w.heap.size (by have:=ai.out;omega) (fun e=>by have:=Option.some.inj e;omega)).trans a7.out;have aD:=(r.block (w.heap.size+1) (by have:=ai.out;omega) (fun e=>by have:=Option.some.inj e;omega)).trans a3.out;have ah:=Lib.hid aD;have H:=Lib.hid aJ;have HS:=Lib.hid hS;have M:=Lib.hid r;clear aJ aD hS r
  go_wp2_with (first
   | (at_next;refine wpList_next_ranges_ii _ rfl _ rfl 3 48 .i64 .u64 jvL Tryz.underlying3 Tryz.underlying48 b (w.heap.size+2) h _ _ _ rfl S ?_ ?_)
   | go_in)
  ·intro _ aO
   have hE:=jsb hu HS.out aO;have E:=S.owns;obtain⟨u0,u1⟩:=cl2 H.out;obtain⟨W2,bc,q,o,aS⟩:=jaf wr #[.int .i64 f,.slice none 0 0] 39;have R:W2.ownsMap Tryz.prog 3 (plainElem Tryz.prog 48) b h D:=E.kept (jaK o none) (by simp);have P:=jab o (Nat.le_refl _) H.out;have ap:(W2.setCell ⟨wr.heap.size,1,none⟩ (.slice none 0 0)).heap[wr.heap.size]? = some (.cells #[.int .i64 f,.slice none 0 0] 39 (0,0)):=hSk q (.slice none 0 0);have G:=(Below.heap_setCell W2 ⟨wr.heap.size,1,none⟩ (.slice none 0 0) w.heap.size (by have:=(Array.getElem?_eq_some_iff.1 H.out).1;simp;omega)).trans P;have A:=R.kept (jeC W2 wr.heap.size 1 (.slice none 0 0)) (by have:=E.lt;simp;omega);have al:=o.setCell (p:=⟨wr.heap.size,1,none⟩) (Nat.le_refl _) (.slice none 0 0);obtain⟨v0,v1⟩:=cl2 P;obtain⟨x0,x1⟩:=cl2 q;obtain⟨y0,y1⟩:=cz2 q;obtain⟨W3,an⟩:∃ W3,W2.setCell ⟨wr.heap.size,1,none⟩ (.slice none 0 0)=W3:=⟨_,rfl⟩;rw[an] at ap G A al;have aT:W3.heap.size=wr.heap.size+1:=by rw[<- an];simpa using aS
   have ak:=Lib.hid (jnP b h D W3 (ja7 l) A (by have:=A.size_le;omega) (jgf hu) hE);have ay:=Lib.hid ap;have z:=Lib.hid G;have n:=Lib.hid al;have aj:=Lib.hid aT;have af:Hid (MapIs W3 b h (ja7 l)):=⟨h,D,A,Nat.le_refl _,hE⟩;have HL:Hid (jb5 (ja7 l)/\jbj (ja7 l)/\(∀ c∈ja7 l,I64 c.1)/\(ja7 l).length<=5000):=⟨jgf hu,jgD hb,fun c hc=>hi c (List.mem_filter.1 hc).1,Nat.le_trans (jjA l) aP⟩;obtain⟨L,am⟩:∃ L,ja7 l=L:=⟨_,rfl⟩;have a1:=Lib.hid am;rw[am] at af ak HL hE;clear am;obtain⟨z0,z1⟩:=cl2 G;clear S P q u0 ap G al aT A R E o;go_wp2_with (first | (go_at_call 295;refine (jtX _ _).mono ?_;rintro e w' ⟨rfl,rfl⟩) | (go_at_call 294;refine ak.out.mono ?_;rintro e m ⟨a5,c5,rfl,aU,ab,B⟩) | fail);obtain⟨X,hX⟩:∃ X,wr.heap.size=X:=⟨_,rfl⟩;have HX:=Lib.hid hX;rw[hX] at ay aj n ⊢;have a4:=Lib.hid aU;have bo:=Lib.hid B;have ax:=Lib.hid ab;have aV:=jab B (Nat.le_refl _) ay.out;have aW:=jab B (Nat.le_refl _) z.out;have N:=Lib.hid aW;have a2:Hid (MapIs m b h L):=af.out.kept (jaK B none) (by simp);have aY:W3.heap.size<=m.heap.size:=B.size;have ag:Hid (m.heap[w.heap.size+1]? = some (.cells #[.int .i64 0,.slice none 0 0] 39 (0,0))):=jab B (Nat.le_refl _) (jab n.out (by omega) ah.out);have a0:Hid (w.grownBy m (some b)):=((jaK aZ.out (some b)).trans (jkj (jkj M.out (n.out.mono (by rw[<- hX];exact M.out.size))) (B.mono (by have:=M.out.size;have:=aj.out;omega))));have bq:=Lib.hid aY;clear aW aU B ab H HS M ak z af hX u1 v0 v1 x0 x1 y0 y1 z0 z1 hE aO aS bc an aY
   go_loopw [7,29] (fun _ i wk=>∃ (k:Nat) (v:Value),k<=L.length/\i=.int .i64 k/\wk.heap[X]? = some (.cells #[.int .i64 f,v] 39 (0,0))/\wk.ownsRow m.heap.size 132 2 v k ((L.take k).flatMap jbO)/\m.grownBy wk (some X)) (fun _ i _=>L.length-(intOf i).toNat)
   case atStart=>exact⟨0,_,Nat.zero_le _,rfl,aV,⟨rfl,Or.inl ⟨rfl,rfl⟩⟩,World.grownBy.refl _ _⟩
   case round =>
    obtain⟨k,v,hk,rfl,O,C,hG⟩:=hrel;have aI:X<m.heap.size:=(Array.getElem?_eq_some_iff.1 aV).1;have bB:w.heap.size<X:=by have:=HX.out;have:=(Array.getElem?_eq_some_iff.1 N.out).1;have:=n.out.size;have:=(Array.getElem?_eq_some_iff.1 ah.out).1;omega
    have be:=(hG.block _ (Array.getElem?_eq_some_iff.1 N.out).1 (fun e=>by have:=Option.some.inj e;omega)).trans N.out;have bb:=hG.size;by_cases J:k<L.length
    ·obtain⟨y,hy⟩:∃ y,L[k]? = some y:=⟨_,List.getElem?_eq_getElem J⟩
     obtain⟨x,b5,o5,hx,rfl,B,bh⟩:=jtU a4.out.1 J;obtain rfl:x=y.1:=by rw[List.getElem?_map,hy] at hx;simpa using hx.symm
     have bt:W3.heap.size<=b5:=ax.out _ rfl;have bg:b5≠X:=by have:=aj.out;omega
     have bv:wr.cell? ⟨b5,o5+k,none⟩=some (.int .i64 y.1):=by rw[<- bh];exact World.cell?_of_block (hG.block _ B (fun e=>bg (Option.some.inj e)))
     have bk:MapIs wr b h L:=a2.out.kept hG (by simp;omega);have aN:jc9 L y.1=y.2:=by unfold jc9;rw[jli HL.out.1 (List.mem_of_getElem? hy)];rfl
     have bm:I64 y.1:=HL.out.2.2.1 y (List.mem_of_getElem? hy);have bj:=bk.look bm;rw[aN] at bj;obtain⟨g,cap,w1,bf,Y,I,bD,ac,au⟩:=jaL Tryz.prog 37 jcL jcO rfl (by decide) C (Below.refl m.heap.size wr) (Nat.le_refl _) bb (jbO y) rfl (jdO y) (by have:=HL.out.2.2.2;omega) (by decide);obtain⟨p0,p1⟩:=cl2 be;obtain⟨q0,q1⟩:=cl2 O;obtain⟨r0,r1⟩:=cz2 O;rw[show (jbO y).toArray=#[.int .i64 y.1,.int .u64 y.2] from rfl] at bf;have F:=(ac X aI).trans O;obtain⟨s0,s1⟩:=cl2 F;obtain⟨t0,t1⟩:=cz2 F;have aG:(w1.setCell ⟨X,1,none⟩ (.slice (some ⟨g,0,none⟩) (k+1) cap)).heap[X]? = some (.cells #[.int .i64 f,.slice (some ⟨g,0,none⟩) (k+1) cap] 39 (0,0)):=hSk F _;have av:=ownsRow_setCell_below Y (a:=⟨X,1,none⟩) aI (.slice (some ⟨g,0,none⟩) (k+1) cap);have ba:m.grownBy (w1.setCell ⟨X,1,none⟩ (.slice (some ⟨g,0,none⟩) (k+1) cap)) (some X):=(jkj hG I).trans (jeC _ _ _ _);clear ac au Y C O F I;have br:L.length<=5000:=HL.out.2.2.2;go_wp2_with fail;go_roundw
     case rel=>exact⟨k+1,_,J,by simp,aG,by rw[jai hy,List.flatMap_append];simpa using av,ba⟩
     case measure=>simp[intOf];exact jl1 J
    ·obtain rfl:k=L.length:=by omega
     rw[List.take_length] at C;have aq:w.heap.size+1<m.heap.size:=(Array.getElem?_eq_some_iff.1 ag.out).1
     obtain⟨a,cap,rfl,aK⟩:∃ a cap,v=.slice a L.length cap/\∀ x,a=some x->m.heap.size<=x.block:=by
      obtain⟨a,cap,h1,h2,h3⟩:=jaz (enc:=jbO) (fun _=>rfl) C;exact⟨a,cap,h1,h3⟩
     have aF:SlC jbO 2 ((wr.setCell ⟨w.heap.size+1,0,none⟩ (.int .i64 f)).setCell ⟨w.heap.size+1,1,none⟩ (.slice a L.length cap)).heap.size ((wr.setCell ⟨w.heap.size+1,0,none⟩ (.int .i64 f)).setCell ⟨w.heap.size+1,1,none⟩ (.slice a L.length cap)) a L.length cap L:=by
      obtain⟨a',bn,h1,h2,h3⟩:=jiT (enc:=jbO) (fun _=>rfl) C aq (.int .i64 f) (.slice a L.length cap)
      cases h1
      exact h2
     have hR:=(hG.block _ (Array.getElem?_eq_some_iff.1 ag.out).1 (fun e=>by have:=Option.some.inj e;have:=HX.out;have:=(Array.getElem?_eq_some_iff.1 ah.out).1;omega)).trans ag.out;obtain⟨s0,s1⟩:=cl2 O;obtain⟨o0,o1⟩:=cl2 hR;obtain⟨m0,m1⟩:=cz2 hR;have aH:=jbB (u:=.int .i64 f) (v:=.slice a L.length cap) hR;have a6:=Lib.hid aF;have a8:=Lib.hid aK;clear C aF aK hR;go_wp2_with fail;have aB:w.grownBy ((wr.setCell ⟨w.heap.size+1,0,none⟩ (.int .i64 f)).setCell ⟨w.heap.size+1,1,none⟩ (.slice a L.length cap)) (some b):=((a0.out.andThen hG (fun j s=>Or.inl (by have:=Option.some.inj s;omega))).andThen (jeC _ _ _ _) (fun j s=>Or.inl (by have:=Option.some.inj s;omega))).andThen (jeC _ _ _ _) (fun j s=>Or.inl (by have:=Option.some.inj s;omega));have aE:=a6.out;generalize (wr.setCell ⟨w.heap.size+1,0,none⟩ (.int .i64 f)).setCell ⟨w.heap.size+1,1,none⟩ (.slice a L.length cap)=V at aH aB aE ⊢;obtain⟨j0,j1⟩:=cl2 aH;exact bodyPost_ret (v:=.agg #[.int .i64 f,.slice a L.length cap]) (by simp[results,Tryz.f291,go_sem,j0,j1]) rfl ⟨a,L.length,cap,rfl,by rw[a1.out];exact aE,(fun x hx=>by have:=a8.out x hx;omega),aB⟩
  ·intro x c w1 az bl bC bz aL T J aM Z bw
   have ad:W1.grownBy w1 (some b):=M.out.andThen aM (fun j s=>by obtain rfl:=Option.some.inj s;exact Or.inl (by have:=ai.out;omega));have aa:=(aM.block _ (Array.getElem?_eq_some_iff.1 H.out).1 (fun e=>by have:=Option.some.inj e;omega)).trans H.out;have q0:w1.cell? ⟨w.heap.size,0,none⟩=some (.map (some b)):=cCc aa 0;have t:=Lib.hid ad;clear ad aa
   go_wp2_with (first
    | (at_delete;refine wpList_delete_ranges _ rfl _ _ 346 3 rfl 48 jvL jfn _ b (w.heap.size+2) h _ _ _ rfl T _ _ rfl (keyOf_int_mk Tryz.underlying3 bl) ?_;intro w2 aA U bx aw;go_frame)
    | go_in)
   ·have ar:c=0:=by simpa using (by assumption:(c==0)=true)
    subst ar;rw[strike_twice] at U;go_roundw
    case rel=>exact⟨_,aA,_,U,jmv HS.out aL,t.out.andThen aw.grown (fun j s=>by cases s;exact Or.inr rfl)⟩
    case measure=>rw[U.left_eq,S.left_eq];omega
   ·have ar:c≠0:=by simpa using (by assumption:(c==0)=false)
    go_roundw
    case rel=>exact⟨_,az,_,T,jnW HS.out ar aL,t.out⟩
    case measure=>rw[T.left_eq,S.left_eq];exact J
end
section
open Go.Sort
theorem jms {α:Type} {enc:α->List Value} {k n:Nat} {w V:World} {a:Option Addr} {len cap:Nat} {l:List α} (h:SlC enc k n w a len cap l) (D:∀ x,a=some x->V.heap[x.block]? = w.heap[x.block]?):SlC enc k n V a len cap l :=
 ⟨⟨h.1.1,fun j x E=>by
  obtain⟨b,off,e,A,B⟩:=h.1.2 j x E;exact⟨b,off,e,A,fun i C=>(World.cell?_of_block (show V.heap[b]? = w.heap[b]? from D _ e)).trans (B i C)⟩⟩,h.2⟩
def jvh (n:Nat) (w w7:World) (a:Option Addr) (len cap:Nat) (f:Int) (l:List (Int × Int)):Prop :=
 ((w7.setCell ⟨n+1,0,none⟩ (.int .i64 f)).setCell ⟨n+1,1,none⟩ (.slice a len cap)).heap[n+1]? = some (.cells #[.int .i64 f,.slice a len cap] 39 (0,0)) /\
 SlC jbO 2 ((w7.setCell ⟨n+1,0,none⟩ (.int .i64 f)).setCell ⟨n+1,1,none⟩ (.slice a len cap)).heap.size ((w7.setCell ⟨n+1,0,none⟩ (.int .i64 f)).setCell ⟨n+1,1,none⟩ (.slice a len cap)) a len cap l /\
 Below n w ((w7.setCell ⟨n+1,0,none⟩ (.int .i64 f)).setCell ⟨n+1,1,none⟩ (.slice a len cap))
theorem jtR {w w6 w7:World} {b:Nat} {a:Option Addr} {len cap:Nat} {f:Int} {l:List (Int × Int)} (I:w.heap.size+1<b) (B:w6.heap[w.heap.size+1]? = some (.cells #[.int .i64 0,.slice none 0 0] 39 (0,0))) (A:Bw w w6) (F:SlC jbO 2 w7.heap.size w7 a len cap l) (G:∀ x,a=some x->w6.heap.size<=x.block) (D:w6.grownBy w7 (some b)) :
  w7.heap[w.heap.size+1]? = some (.cells #[.int .i64 0,.slice none 0 0] 39 (0,0))/\jvh w.heap.size w w7 a len cap f l:=by
 have J:=(Array.getElem?_eq_some_iff.1 B).1;have C:=(D.block _ J (fun e=>by cases e;omega)).trans B;refine⟨C,jbB C,?_,?_⟩
 ·have H:((w7.setCell ⟨w.heap.size+1,0,none⟩ (.int .i64 f)).setCell ⟨w.heap.size+1,1,none⟩ (.slice a len cap)).heap.size=w7.heap.size:=by simp
  rw[H];refine jms F fun x L=>?_
  have:=G x L;exact (Below.heap_setCell _ _ _ _ (fun e=>by simp at e;omega)).trans (Below.heap_setCell _ _ _ _ (fun e=>by simp at e;omega))
 ·have E:Bw w w7:=A.grown D A.size (fun k e=>by cases e;omega)
  exact (E.setCell (p:=⟨w.heap.size+1,0,none⟩) (Nat.le_succ _) _).setCell (p:=⟨w.heap.size+1,1,none⟩) (Nat.le_succ _) _
theorem jrO (l:List (Int × Int)) (a:List (Int × Int)) (c:Int × Int):jaB a (l++[c])=jaC (jaB a l) c.1 c.2:=by simp[jaB]
theorem joD (l:List (Int × Int)) (k:Nat):jb5 (jaB [] ((l.take k).map fun b=>(jaR b.1,b.2))):=jd0 _ [] List.Pairwise.nil
theorem jtP (l:List (Int × Int)) (f:Nat) (F:f<=3) (B:∀ b∈l,jao f b.1=true) (C:jbj l):jbj (jaB [] (l.map fun b=>(jaR b.1,b.2)))/\∀ c∈jaB [] (l.map fun b=>(jaR b.1,b.2)),I64 c.1:=by
 refine⟨jcF _ [] (fun b E=>by cases E) (fun c D=>by obtain⟨d,A,rfl⟩:=List.mem_map.1 D;exact C d A),fun c D=>?_⟩;rcases jdZ _ [] c D with A | ⟨d,A,e⟩ | ⟨d,A,e⟩
 ·cases A
 ·cases A
 ·obtain⟨x,G,rfl⟩:=List.mem_map.1 A
  rw[e];have:=jcp f F x.1 (B x G);unfold jaR I64;show _/\_;split<;>omega
theorem jm8 (f:Nat) (l:List (Int × Int)) (a:Option Addr) (len cap:Nat) (w:World) (h1:1<=f) (hf:f<=3) (hL:SlE jbO 2 w.heap.size w a len l) (hr:jaP f l=true) (ae:∀ b∈l,jao f b.1=true) (af:jbj l) (aX:len<=1000) :
  Calls Tryz.prog 285 #[.agg #[.int .i64 f,.slice a len cap]] w fun e w'=>∃ Q C B,e=.returned (.tuple #[.agg #[.int .i64 ((f:Int)-1),.slice Q C B],.int .i64 0])/\SlC jbO 2 w'.heap.size w' Q C B (jgg l)/\Bw w w':=by
 have x:=Lib.hid hL.1;have hp:∀ b∈l,I64 b.1:=fun b hb=>by have:=jcp f hf b.1 (ae b hb);unfold I64;omega
 obtain⟨W0,aZ,ab,aB,R,a4⟩:=jaI w #[.int .i64 f,.slice a len cap] 39 #[.int .i64 0,.slice none 0 0] 39;have ap:=Lib.hid (jcN f l a len cap W0 ((hL.below R).mono R.size) (by unfold maxLen;omega) (fun b hb=>(hp b hb).2));rw[hr] at ap;obtain⟨z0,z1⟩:=cl2 ab;have aO:=Lib.hid aB;have aR:=Lib.hid ab;have al:=Lib.hid R;have HL:=Lib.hid hL;have a7:wrap64 ((f:Int)-1)=(f:Int)-1:=by unfold wrap64;omega
 have a8:IntKind.i64.wrap ((f:Int)-1)=(f:Int)-1:=IntWalk.i64_in _ (by omega)
 have aI:Hid (∀ w1,Calls Tryz.prog 287 #[.int .i64 ((f:Int)-1)] w1 fun e w'=>∃ b,e=.returned (.tuple #[.agg #[.map (some b),.int .i64 ((f:Int)-1)],.nilIface])/\MapIs w' b 0 []/\w1.heap.size<=b/\Bw w1 w'):=fun w1=>by
  have:=jjy (f-1) w1 (by omega);rwa [show ((f-1:Nat):Int)=(f:Int)-1 by omega] at this
 clear hL hr aB R ab;go_enter Tryz.func285,Tryz.ntmps285;go_wp2_with fail;refine ap.out.mono ?_;rintro e w1 ⟨rfl,E⟩;have J:=jab E (Nat.le_refl _) aR.out;obtain⟨y0,y1⟩:=cl2 J;have ar:=Lib.hid J;clear J;go_wp2_with fail;refine (aI.out _).mono ?_;rintro e w2 ⟨b,rfl,ai,a2,G⟩;obtain⟨W3,a0,z,H,a5⟩:=jaf w2 #[.map (some b),.int .i64 ((f:Int)-1)] 348;have n:=G.size;have L:=jab (G.trans (H.mono n)) (Nat.le_refl _) ar.out;have p:=jab (G.trans (H.mono n)) (Nat.le_refl _) (jab E (Nat.le_refl _) aO.out);have aT:MapIs W3 b 0 []:=ai.kept (jaK H none) (by simp);have aW:=E.size;have m:Bw w W3:=(al.out.trans (E.mono al.out.size)).trans ((G.mono (by omega)).trans (H.mono (by omega)));have aq:=Lib.hid z;have au:=Lib.hid p;have h:=Lib.hid L;have g:=Lib.hid m;have a3:=ai.lt;obtain⟨x0,P⟩:=cl2 z;obtain⟨q0,q1⟩:=cl2 L;clear z p L ai G H E m;go_wp2_with fail;go_loopw [7,8,9,10,30] (fun _ _ _ _ i wr=>∃ k:Nat,k<=len/\i=.int .i64 k/\MapIs wr b k (jaB [] ((l.take k).map fun b=>(jaR b.1,b.2)))/\W3.grownBy wr (some b)) (fun _ _ _ _ i _=>len-(intOf i).toNat)
 case atStart=>exact⟨0,Nat.zero_le _,rfl,aT,World.grownBy.refl _ _⟩
 case round =>
  obtain⟨k,hk,rfl,hM,o⟩:=hrel;have ad:=(o.block _ (Array.getElem?_eq_some_iff.1 h.out).1 (fun e=>by cases e;omega)).trans h.out;have ac:=(o.block _ (Array.getElem?_eq_some_iff.1 au.out).1 (fun e=>by cases e;omega)).trans au.out;have T:=(o.block _ (Array.getElem?_eq_some_iff.1 aq.out).1 (fun e=>by cases e;omega)).trans aq.out;have S:Bw w wr:=g.out.grown o g.out.size (fun j e=>by cases e;omega);have aY:=o.size;by_cases ah:k<len
  ·obtain⟨c,b1,o1,hx,ea,E,p0,p1⟩:=jdU (HL.out.below S) ah
   subst ea;have HX:=Lib.hid hx;have U:=List.mem_of_getElem? hx;have aH:I64 c.1:=hp c U;have ak:U64 c.2:=af c U;have N:=ae c U;obtain⟨Y,O⟩:=jjE f h1 hf c.1 N;have ag:I64 (jaR c.1):=by have:=jcp f hf c.1 N;unfold jaR I64;split<;>omega
   obtain⟨P,x2⟩:=c;dsimp only at p0 p1 aH ak N Y O ag;obtain⟨W4,a1,aa,I,a6⟩:=jaf wr #[.int .i64 P,.int .u64 x2] 132;have am:=Lib.hid (jk8 f h1 hf P W4 N);obtain⟨lo,aG⟩:∃ lo,jcf f P=lo:=⟨_,rfl⟩;rw[aG] at am O Y;have q:=jab I (Nat.le_refl _) ad;have r:=jab I (Nat.le_refl _) T;obtain⟨u0,u1⟩:=cl2 aa;obtain⟨v0,v1⟩:=cl2 q;have aL:Hid (MapIs W4 b k (jaB [] ((l.take k).map fun b=>(jaR b.1,b.2)))):=hM.kept (jaK I none) (by simp);have aP:=Lib.hid aa;have av:=Lib.hid r;have aJ:=Lib.hid (o.trans (jaK I (some b)));clear ad ac T aa q r hM I o hx S;go_wp2_with fail;refine am.out.mono ?_;rintro e F ⟨hi,rfl,M⟩;have aw:Hid (F.drew.heap[w2.heap.size]? = some (.cells #[.map (some b),.int .i64 ((f:Int)-1)] 348 (0,0))):=jab M.drew (Nat.le_refl _) av.out;have aQ:Hid (F.drew.heap[wr.heap.size]? = some (.cells #[.int .i64 P,.int .u64 x2] 132 (0,0))):=jab M.drew (Nat.le_refl _) aP.out;have aM:Hid (MapIs F.drew b k (jaB [] ((l.take k).map fun b=>(jaR b.1,b.2)))):=aL.out.kept (jei (jaK M none)) (by simp);have aK:Hid (W3.grownBy F.drew (some b)):=aJ.out.trans (jei (jaK M (some b)))
   have u:Hid (CR 290 #[.int .i64 ((f:Int)-1),.int .u64 lo] F.drew (.int .i64 (jaR P))):=by
    have:=joR (f-1) lo.toNat F.drew (by omega) (by unfold U64 at O;omega);rwa [show ((f-1:Nat):Int)=(f:Int)-1 by omega,show ((lo.toNat:Nat):Int)=lo by unfold U64 at O;omega,Y] at this
   have aN:=joD l k
   have HP:Hid (∀ D,Below F.drew.heap.size F.drew D->Calls Tryz.prog 289 #[.agg #[.map (some b),.int .i64 ((f:Int)-1)],.int .i64 (jaR P),.int .u64 x2] D fun e w'=>e=.returned (.tuple #[])/\MapIs w' b (k+1) (jaC (jaB [] ((l.take k).map fun b=>(jaR b.1,b.2))) (jaR P) x2)/\D.grownBy w' (some b)):=fun D A =>
    jns b k ((f:Int)-1) (jaR P) x2 _ D (aM.out.kept (jaK A none) (by simp)) ag ak (by omega) aN (jcF _ [] (fun b hb=>by cases hb) (fun c hc=>by obtain⟨d,hd,rfl⟩:=List.mem_map.1 hc;exact af d (List.mem_of_mem_take hd)))
   have HC:Hid (∀ D,Below F.drew.heap.size F.drew D->D.cell? ⟨w2.heap.size,0,none⟩=some (.map (some b))/\D.cell? ⟨w2.heap.size,1,none⟩=some (.int .i64 ((f:Int)-1))/\D.cell? ⟨wr.heap.size,1,none⟩=some (.int .u64 x2)):=fun D A=>by
    have h1:=jab A (Nat.le_refl _) aw.out;exact⟨cCc h1 0,cCc h1 1,cCc (jab A (Nat.le_refl _) aQ.out) 1⟩
   have ao:Hid (∀ D w6,Below F.drew.heap.size F.drew D->MapIs w6 b (k+1) (jaC (jaB [] ((l.take k).map fun b=>(jaR b.1,b.2))) (jaR P) x2)->D.grownBy w6 (some b)->MapIs w6 b (k+1) (jaB [] ((l.take (k+1)).map fun b=>(jaR b.1,b.2)))/\W3.grownBy w6 (some b)):=fun D w6 A Z X=>by
    rw[jai HX.out,List.map_append];exact⟨by rw[List.map_singleton,jrO];exact Z,(aK.out.trans (jaK A _)).trans X⟩
   obtain⟨y0,y1,y2⟩:=HC.out _ (Below.refl _ _);clear M ak aH ag N Y O aG u0 u1 v0 v1 p0 p1 q0 q1 x0 U;go_wp2_with fail
   -- REGION
   refine wp_region_any (by kernel_rfl) ?_;change wpAny _ _ _ _ _ _ _ (World.drew _)
   ·
    refine ta 1 ?_;refine ta 3 ?_;refine ta 5 ?_;refine rd [0,2,6] (.cons rfl (fun K hK=>?_) (.cons rfl (fun K hK=>?_) (.cons rfl (fun K hK=>?_) .nil)))
    all_goals go_simp
    all_goals (refine hK _ _ ?_;clear hK K)
    all_goals first
     | (refine rq [2,6] (.cons rfl (fun K hK=>?_) (.cons rfl (fun K hK=>?_) .nil)))
     | (refine rq [0,4,6] (.cons rfl (fun K hK=>?_) (.cons rfl (fun K hK=>?_) (.cons rfl (fun K hK=>?_) .nil))))
     | (refine rq [0,2] (.cons rfl (fun K hK=>?_) (.cons rfl (fun K hK=>?_) .nil)))
    all_goals go_simp
    all_goals first
     |
      refine u.out.mono ?_;rintro e D ⟨rfl,A⟩;have hP:=HP.out D A;obtain⟨u0,u1,v1⟩:=HC.out D A;refine hK _ _ ?_;clear hK K
     | (refine hK _ _ ?_;clear hK K)
    all_goals first
     | (refine rq [4,6] (.cons rfl (fun K hK=>?_) (.cons rfl (fun K hK=>?_) .nil)))
     | (refine rq [2] (.cons rfl (fun K hK=>?_) .nil))
     | (refine rq [0,6] (.cons rfl (fun K hK=>?_) (.cons rfl (fun K hK=>?_) .nil)))
     | (refine rq [0,4] (.cons rfl (fun K hK=>?_) (.cons rfl (fun K hK=>?_) .nil)))
    all_goals go_simp
    all_goals first
     |
      refine u.out.mono ?_;rintro e D ⟨rfl,A⟩;have hP:=HP.out D A;obtain⟨u0,u1,v1⟩:=HC.out D A;refine hK _ _ ?_;clear hK K
     | (refine hK _ _ ?_;clear hK K)
    all_goals first
     | (refine rq [6] (.cons rfl (fun K hK=>?_) .nil))
     | (refine rq [4] (.cons rfl (fun K hK=>?_) .nil))
     | (refine rq [0] (.cons rfl (fun K hK=>?_) .nil))
    all_goals go_simp
    all_goals first
     |
      refine u.out.mono ?_;rintro e D ⟨rfl,A⟩;have hP:=HP.out D A;obtain⟨u0,u1,v1⟩:=HC.out D A;refine hK _ _ ?_;clear hK K
     | (refine hK _ _ ?_;clear hK K)
    all_goals (refine rd [7] (.cons rfl (fun K hK=>?_) .nil))
    all_goals go_simp
    all_goals
     refine hP.mono ?_;rintro e w6 ⟨rfl,Z,X⟩;refine hK _ _ ?_;clear hK K
    all_goals (refine wpAny_done (by kernel_rfl) ?_ _)
    all_goals
     obtain⟨aU,aV⟩:=ao.out D w6 A Z X;clear Z X hP A u0 u1 v1;go_wp2_with fail;go_roundw
     case rel=>exact⟨k+1,ah,by simp,aU,aV⟩
     case measure=>simp[intOf];exact jl1 ah
   -- END
  ·obtain rfl:k=len:=by omega
   have ay:MapIs wr b k (jaB [] (l.map fun b=>(jaR b.1,b.2))):=by have:=hM;rwa [List.take_of_length_le (by rw[<- x.out];exact Nat.le_refl _)] at this
   have aj:=joD l k;rw[List.take_of_length_le (by rw[<- x.out];exact Nat.le_refl _)] at aj;obtain⟨s,t⟩:=jtP l f hf ae af;have an:=Lib.hid (jjz b k ((f:Int)-1) _ wr ay aj s t (by have:=jfe (l.map fun b=>(jaR b.1,b.2)) [];simp at this;have:=x.out;omega) (by omega));rw[show ja7 (jaB [] (l.map fun b=>(jaR b.1,b.2)))=jgg l from rfl] at an;have HE:=Lib.hid (fun w7 Q C B=>jtR (w:=w) (w6:=wr) (w7:=w7) (b:=b) (a:=Q) (len:=C) (cap:=B) (f:=(f:Int)-1) (l:=jgg l) (by omega) ac S);obtain⟨u0,u1⟩:=cl2 T;clear ad ac T hM ay o S aj s t;go_wp2_with fail;refine an.out.mono ?_;rintro e w7 ⟨Q,C,B,rfl,az,aE,aF⟩;obtain⟨y,aD⟩:=HE.out w7 Q C B az aE aF;obtain⟨m0,m1⟩:=cl2 y;obtain⟨n0,n1⟩:=cz2 y;have aS:=Lib.hid aD;clear y aD az aE aF;go_wp2_with fail;obtain⟨aC,aA,ax⟩:=aS.out;generalize (w7.setCell ⟨w.heap.size+1,0,none⟩ (.int .i64 ((f:Int)-1))).setCell ⟨w.heap.size+1,1,none⟩ (.slice Q C B)=V at aC aA ax ⊢;obtain⟨q0,q1⟩:=cl2 aC;exact bodyPost_ret (v:=.tuple #[.agg #[.int .i64 ((f:Int)-1),.slice Q C B],.int .i64 0]) (by simp[results,Tryz.f285,go_sem,q0,q1]) rfl ⟨Q,C,B,rfl,aA,ax⟩
end
section
def wfI (i:Int):Prop:=(Lit.int .i64 i).wf=true
theorem ji1 {i:Int} (A : -9223372036854775808<=i) (B:i<=9223372036854775807):wfI i:=WalkArith.wf_i64 ⟨A,B⟩
def SetAt (P:Program) (kt:TypeId) (w:World) (b n:Nat) (S:Int->Bool):Prop :=
 ∃ D:DataW Unit,w.ownsMap P kt unitElem b n D/\∀ i,wfI i->Maps.has D (.int .i64 i)=S i
section
variable {P:Program} {kt mt et:TypeId} (hk:P.underlying kt=some (.int .i64)) (hm:P.underlying mt=some (.map kt et)) (hz:∀ w,(zeroValue et).run P w=.ok (.agg #[]) w)
theorem jmo (w:World):SetAt P kt (w.alloc (.map #[] 0)) w.heap.size 0 (fun _=>false) :=
 ⟨_,World.ownsMap_made w P kt unitElem,fun _ _=>rfl⟩
theorem SetAt.kept {w w':World} {b n:Nat} {S:Int->Bool} {row:Option Nat} (h:SetAt P kt w b n S) (B:w.grownBy w' row) (A:some b≠row):SetAt P kt w' b n S :=
 let ⟨D,h1,h2⟩:=h;⟨D,h1.kept B A,h2⟩
theorem SetAt.lt {w:World} {b n:Nat} {S:Int->Bool} (h:SetAt P kt w b n S):b<w.heap.size:=let ⟨_,h1,_⟩:=h;h1.lt
theorem SetAt.below {w w':World} {B b n:Nat} {S:Int->Bool} (h:SetAt P kt w b n S) (I:Below B w w') (H:b<B):SetAt P kt w' b n S:=by
 obtain⟨D,⟨es,clock,A,C,E,F⟩,G⟩:=h;exact⟨D,⟨es,clock,(I.block b H).trans A,C,E,F⟩,G⟩
theorem SetAt.mono {w:World} {b n m:Nat} {S:Int->Bool} (h:SetAt P kt w b n S) (A:n<=m):SetAt P kt w b m S :=
 let ⟨D,h1,h2⟩:=h;⟨D,h1.mono A,h2⟩
theorem SetAt.congr {w:World} {b n:Nat} {S T:Int->Bool} (h:SetAt P kt w b n S) (B:∀ i,wfI i->S i=T i):SetAt P kt w b n T :=
 let ⟨D,h1,h2⟩:=h;⟨D,h1,fun i A=>(h2 i A).trans (B i A)⟩
include hk hm in
theorem SetAt.add {w:World} {b n:Nat} {S:Int->Bool} (h:SetAt P kt w b n S) (H:n<maxLen) {i:Int} (B:wfI i) :
  ∃ w',(Instr.mapUpdate mt (.map (some b)) (.int .i64 i) (.agg #[])).run P w=.ok () w'/\SetAt P kt w' b (n+1) (fun j=>S j||j==i)/\w.grownBy w' (some b):=by
 obtain⟨D,A,C⟩:=h;obtain⟨w',hr,E,F⟩:=A.update (int_keyed hk) hm H (keyOf_int_mk hk B) unitElem_mk;refine⟨w',hr,⟨_,E,fun j G=>?_⟩,F⟩;by_cases e:j=i
 ·subst e
  rw[Maps.has_put_same A.isMap ((int_keyed hk).key (keyOf_int_mk hk B))];simp
 ·rw[Maps.has_put_other (by simpa using e),C j G];simp[e]
include hk hm hz in
theorem SetAt.look {w:World} {b n:Nat} {S:Int->Bool} (h:SetAt P kt w b n S) {i:Int} (A:wfI i):(Instr.lookup mt (.map (some b)) (.int .i64 i) true).run P w=.ok (.tuple #[.agg #[],.bool (S i)]) w:=by
 obtain⟨D,B,C⟩:=h;obtain⟨v,F,hr,E⟩:=B.look_ok (int_keyed hk) hm (hz w) unitElem_mk (keyOf_int_mk hk A);obtain⟨rfl,_⟩:=unitElem_inv E;rw[hr,C i A]
include hk hm in
theorem SetAt.len {w:World} {b n:Nat} {S:Int->Bool} (h:SetAt P kt w b n S):∃ k:Nat,(∀ H,(Builtin.len_ #[mt] H #[.map (some b)]).run P w=.ok (.int .i64 k) w)/\(k=0↔∀ i,wfI i->S i=false):=by
 obtain⟨D,I,J⟩:=h;refine⟨Maps.size D,fun H=>I.len hm H,?_⟩;obtain⟨es,clock,T,F,U,M⟩:=I;constructor
 ·intro A i Q
  rw[<- J i Q];subst M;have:((es.toList.map (WideElems.rg P kt unitElem)).foldr DataW.insert []:List (Lit × DataW Unit))=[]:=List.eq_nil_of_length_eq_zero A;rw[this];rfl
 ·intro B
  subst M;rcases Nat.eq_zero_or_pos es.size with A | A
  ·simp[Maps.size,length_sorted,A]
  ·exfalso
   have N:es[0]'A∈es.toList:=by simp
   obtain⟨y,O⟩:=F.reads _ N;have E:=WideElems.rd_key O;obtain⟨x,R,G,C⟩:=Maps.keyOf_int_inv hk E
   have L:Maps.has (DataW.map ((es.toList.map (WideElems.rg P kt unitElem)).foldr DataW.insert [])) (.int .i64 x)=true :=
    List.any_eq_true.2 ⟨WideElems.rg P kt unitElem (es[0]'A),mem_sorted.2 (List.mem_map.2 ⟨_,N,rfl⟩),by rw[WideElems.rg_of O,G];exact WideAt.sameKey_self trivial⟩
   rw[J x C,B x C] at L
   cases L
theorem jou:∀ (n:Nat) (l:List Nat),l.Nodup->(∀ x∈l,x<n)->l.length<=n
 | 0,l,_,h=>by
  cases l with
  | nil=>simp
  | cons x xs=>exact absurd (h x (by simp)) (by omega)
 | n+1,l,hd,h=>by
  have A:=jou n (l.erase n) (hd.erase n) (fun x B=>by
   have C:=h x (List.mem_of_mem_erase B);have D:x≠n:=fun e=>by subst e;exact (List.Nodup.not_mem_erase hd) B
   omega)
  rw[List.length_erase] at A;split at A<;>omega
include hk in
theorem SetAt.tight {w:World} {b n m:Nat} {S:Int->Bool} (h:SetAt P kt w b n S) (d:∀ i,wfI i->S i=true->0<=i/\i<m):SetAt P kt w b m S:=by
 obtain⟨D,T,U⟩:=h;obtain⟨B,X,Q,_⟩:=T.entries (int_keyed hk);obtain⟨es,clock,g,F,t,G⟩:=T;refine⟨D,⟨es,clock,g,F,?_,G⟩,U⟩;have C:B=(es.toList.map (WideElems.rg P kt unitElem)).foldr DataW.insert []:=by rw[X] at G;exact DataW.map.inj G
 have A:∀ p∈B,∃ x:Int,p.1=.int .i64 x/\0<=x/\x<m:=by
  intro p I;have L:=I;rw[C] at L;obtain⟨e,j,rfl⟩:=List.mem_map.1 (mem_sorted.1 L);obtain⟨y,Y⟩:=F.reads e j;obtain⟨x,k,N,M⟩:=Maps.keyOf_int_inv hk (WideElems.rd_key Y);have E:(WideElems.rg P kt (unitElem (H:=Unit)) e).1=.int .i64 x:=by rw[WideElems.rg_of Y,N]
  have V:Maps.has D (.int .i64 x)=true:=by
   rw[X];exact List.any_eq_true.2 ⟨_,I,by rw[E];exact WideAt.sameKey_self trivial⟩
  rw[U x M] at V;exact⟨x,E,d x M V⟩
 have J:B.length=es.size:=by rw[C,length_sorted];simp
 rw[<- J];let f:Lit × DataW Unit->Nat:=fun p=>match p.1 with | .int _ x=>x.toNat | _=>0
 have Z:=jou m (B.map f) (List.pairwise_map.2 (Q.imp_of_mem (fun {p q} I l O=>by
  obtain⟨x,E,a,c⟩:=A p I;obtain⟨y,R,r,s⟩:=A q l;intro e;simp only[f,E,R] at e
  exact O (by rw[E,R];congr 1;omega)))) (fun z o=>by
   obtain⟨p,I,rfl⟩:=List.mem_map.1 o;obtain⟨x,E,a,c⟩:=A p I;simp only[f,E];omega)
 simpa using Z
def RangeAt (P:Program) (kt:TypeId) (w:World) (b r n:Nat) (S L:Int->Bool) (cnt:Nat):Prop :=
 ∃ (D:DataW Unit) (left:Lit->Bool),w.ranges P kt unitElem b r n D left cnt/\(∀ i,wfI i->Maps.has D (.int .i64 i)=S i)/\(∀ i,wfI i->left (.int .i64 i)=L i)
theorem RangeAt.left_eq {w:World} {b r n:Nat} {S L:Int->Bool} {cnt:Nat} (h:RangeAt P kt w b r n S L cnt):w.rangeLeft b r=cnt:=let ⟨_,_,h1,_⟩:=h;h1.left_eq
theorem RangeAt.kept {w w':World} {b r n:Nat} {S L:Int->Bool} {cnt:Nat} {row:Option Nat} (h:RangeAt P kt w b r n S L cnt) (C:w.grownBy w' row) (A:some b≠row) (B:some r≠row):RangeAt P kt w' b r n S L cnt :=
 let ⟨D,left,h3,h4,h5⟩:=h;⟨D,left,h3.kept C A B,h4,h5⟩
theorem RangeAt.below {w w':World} {B b r n:Nat} {S L:Int->Bool} {cnt:Nat} (h:RangeAt P kt w b r n S L cnt) (F:Below B w w') (Q:b<B) (R:r<B):RangeAt P kt w' b r n S L cnt:=by
 obtain⟨D,C,⟨es,clock,A,E,G,H,I,J,M,N,O⟩,T,U⟩:=h;exact⟨D,C,⟨es,clock,A,E,G,(F.block b Q).trans H,I,J,M,(F.block r R).trans N,O⟩,T,U⟩
theorem RangeAt.ne {w:World} {b r n:Nat} {S L:Int->Bool} {cnt:Nat} (h:RangeAt P kt w b r n S L cnt):r≠b:=let ⟨_,_,h1,_⟩:=h;h1.ne
theorem RangeAt.lt {w:World} {b r n:Nat} {S L:Int->Bool} {cnt:Nat} (h:RangeAt P kt w b r n S L cnt):r<w.heap.size:=let ⟨_,_,h1,_⟩:=h;h1.lt
include hk hm in
theorem SetAt.range {w:World} {b n:Nat} {S:Int->Bool} (h:SetAt P kt w b n S) :
  ∃ w' cnt,(Instr.range mt (.map (some b))).run P w=.ok (.pointer (some ⟨w.heap.size,0,none⟩)) w'/\RangeAt P kt w' b w.heap.size n S S cnt/\w.grownBy w' none/\w'.heap.size=w.heap.size+1:=by
 obtain⟨D,B,A⟩:=h;obtain⟨w',hr,C,E,F⟩:=B.range (int_keyed hk) hm;exact⟨w',_,hr,⟨D,_,C,A,A⟩,E,F⟩
include hk in
theorem RangeAt.next {w:World} {b r n:Nat} {S L:Int->Bool} {cnt:Nat} (h:RangeAt P kt w b r n S L cnt) (O:TypeId) :
  ((∀ i,wfI i->L i=false)/\(Instr.next (.pointer (some ⟨r,0,none⟩)) false O).run P w=.ok (.tuple #[.bool false]) w) \/
  ∃ i w' A,wfI i/\L i=true/\S i=true/\(Instr.next (.pointer (some ⟨r,0,none⟩)) false O).run P w=.ok (.tuple #[.bool true,.int .i64 i,.agg #[]]) w' /\
   RangeAt P kt w' b r n S (fun j=>L j && !(j==i)) A/\A<cnt/\w.grownBy w' (some r)/\w'.heap.size=w.heap.size/\(Instr.entry (.pointer (some ⟨r,0,none⟩))).run P w'=.ok (.tuple #[.int .i64 i,.agg #[]]) w':=by
 obtain⟨D,R,T,Q,E⟩:=h;rcases T.next (int_keyed hk) O with⟨_,X,hr⟩ | ⟨key,v,kl,y,w',A,C,I,Y,F,hr,M,J,H,N,G⟩
 ·exact .inl ⟨fun i U=>by rw[<- E i U];exact X _,hr⟩
 ·obtain⟨x,rfl,rfl,B⟩:=Maps.keyOf_int_inv hk C
  obtain⟨rfl,_⟩:=unitElem_inv Y;refine .inr ⟨x,w',A,B,by rw[<- E x B];exact I,by rw[<- Q x B];exact Maps.has_true_of_atKey F,hr,⟨D,_,M,Q,fun j V=>?_⟩,J,H,N,G⟩;rw[E j V];exact Bool.eq_iff_iff.2 (by simp[Lit.sameKey])
end
end
end Go.Proofs.YtafhpamnegmilaaGreatDoor
