/- Package hist: done. Package hist: Add. Package hist: Lower. Package hist: Merge. -/
import Derived.Test.YtnegciklhanmbaaGreatDoorZGE
set_option maxHeartbeats 4000000
set_option maxRecDepth 100000
namespace Go.Proofs.YtnegciklhanmbaaGreatDoor
open Go Go.Maps Go.RowKit Go.Shelf
section
open Go.Sort
theorem jiH:∀ (l:List (Int × Int)) (p:Int),jbA l->jbI (jbi l) p=match jbI l p with
  | some x=>if x=0 then none else some x
  | none=>none
 | [],p,_=>rfl
 | (q,m)::t,p,h=>by
  obtain⟨E,F⟩:=jcV h;have D:=jiH t p E;have C:q=p->jbI (jbi t) p=none:=fun e=>jiI (fun c G=>by have:=F c (List.mem_filter.1 G).1;rw[<- e];exact this)
  rw[jaW];unfold jbi;rw[List.filter_cons];by_cases B:m=0
  ·subst B
   rw[if_neg (by simp)];by_cases A:q=p
   ·rw[if_pos A];exact C A
   ·rw[if_neg A];exact D
  ·rw[if_pos (by simpa using B),jaW]
   by_cases A:q=p
   ·rw[if_pos A,if_pos A];simp[B]
   ·rw[if_neg A,if_neg A];exact D
theorem jnr:∀ {l:List (Int × Int)} {p x:Int},jbI l p=some x->p∈l.map Prod.fst
 | b::t,p,x,h=>by
  rw[jaW] at h;split at h
  ·rename_i e;simp[e]
  ·exact List.mem_cons_of_mem _ (jnr h)
theorem jkO:∀ {l:List (Int × Int)} {p:Int},p∈l.map Prod.fst->jbI l p≠none
 | b::t,p,h=>by
  rw[jaW];split
  ·simp
  ·rename_i A
   rcases List.mem_cons.1 h with e | h
   ·exact absurd e.symm A
   ·exact jkO h
theorem jkN:∀ {l:List (Int × Int)},jbA l->∀ {b:Int × Int},b∈l->jbI l b.1=some b.2
 | c::t,hu,b,h=>by
  obtain⟨A,B⟩:=jcV hu;rw[jaW];rcases List.mem_cons.1 h with rfl | h
  ·simp
  ·have:=B b h
   rw[if_neg (by omega)];exact jkN A h
def jkF (l:List (Int × Int)) (left:Lit->Bool) (D:DataW Unit):Prop:=∀ p z,D.atKey (.int .i64 p) z=match jbI l p with
 | some x=>if x=0/\left (.int .i64 p)=false then z else .lit (.int .u64 x)
 | none=>z
theorem jnf {l:List (Int × Int)} {D:DataW Unit} (h:∀ p z,D.atKey (.int .i64 p) z=match jbI l p with
 | some x=>.lit (.int .u64 x)
 | none=>z):jkF l (Maps.has D) D:=fun p z=>by
 have A:=h p;rw[A z]
 cases hb:jbI l p with
 | none=>rfl
 | some x =>
  rw[hb] at A;have:=has_true_of_atKey (k:=.int .i64 p) A;simp[this]
theorem jlX {l:List (Int × Int)} {B:Lit->Bool} {D:DataW Unit} {x c:Int} (h:jkF l B D) (C:∀ E,D.atKey (.int .i64 x) E=.lit (.int .u64 c)):jbI l x=some c:=by
 have A:=(h x (.lit (.bool true))).symm.trans (C _)
 cases hb:jbI l x with
 | none=>rw[hb] at A;simp at A
 | some v =>
  rw[hb] at A;simp only at A;split at A
  ·simp at A
  ·simp at A;rw[A]
theorem jfn (q x:Int):(Lit.int .i64 q).sameKey (.int .i64 x)=decide (q=x):=by
 by_cases h:q=x
 ·subst h;rw[WideAt.sameKey_self (a:=.int .i64 q) trivial];simp
 ·rw[sameKey_ne (by simpa using h)];simp[h]
theorem jlW {l:List (Int × Int)} {A:Lit->Bool} {D:DataW Unit} {x:Int} (h:jkF l A D) (B:∀ F,D.atKey (.int .i64 x) F=.lit (.int .u64 0)):jkF l (fun z=>A z && !z.sameKey (.int .i64 x)) (D.del (.int .i64 x)):=fun q z=>by
 have E:=jlX h B;by_cases C:q=x
 ·subst C
  rw[atKey_del_same,E];simp[jfn]
 ·rw[atKey_del_other (by simpa using C),h q z]
  simp[jfn,C]
theorem jng {l:List (Int × Int)} {A:Lit->Bool} {D:DataW Unit} {x c:Int} (h:jkF l A D) (E:c≠0) (B:∀ G,D.atKey (.int .i64 x) G=.lit (.int .u64 c)):jkF l (fun z=>A z && !z.sameKey (.int .i64 x)) D:=fun q z=>by
 have F:=jlX h B;rw[h q z];by_cases C:q=x
 ·subst C
  rw[F];simp[E]
 ·simp[jfn,C]
theorem jso {l:List (Int × Int)} {A:Lit->Bool} {D:DataW Unit} (E:jbA l) (h:jkF l A D) (C:∀ k,A k=false):∀ p z,D.atKey (.int .i64 p) z=match jbI (jbi l) p with
 | some x=>.lit (.int .u64 x)
 | none=>z:=fun p z=>by
 rw[h p z,jiH l p E]
 cases jbI l p with
 | none=>rfl
 | some x =>
  by_cases B:x=0
  ·simp[B,C]
  ·simp[B]
theorem jqB {w:World} {b P:Nat} {D:DataW Unit} {l:List (Int × Int)} (A:w.ownsMap Tryz.prog 3 (plainElem Tryz.prog 22) b P D) (N:jbA l) (M:∀ p z,D.atKey (.int .i64 p) z=match jbI l p with
  | some x=>.lit (.int .u64 x)
  | none=>z) {ss:List Int} (h:ss.Perm (intKeys D)):ss.mergeSort (fun x y=>decide (x<=y))=l.map Prod.fst:=by
 obtain⟨es,L,I,_⟩:=A.entries jwq;obtain⟨E,B,G⟩:=A.keysOf;obtain rfl:es=E:=by rw[L] at B;simpa using B
 subst L;have C:(l.map Prod.fst).Pairwise (· < ·):=List.pairwise_map.2 N
 have H:=perm_intKeys I (fun p H=>by obtain⟨v,O⟩:=G p H;obtain⟨x,_,J,_⟩:=Maps.keyOf_i64 Tryz.underlying3 O;exact⟨x,J⟩) (ss:=l.map Prod.fst) (C.imp (fun {a b} h=>by omega)) (fun x=>by
  cases hb:jbI l x with
  | none =>
   have F:∀ z,(DataW.map es).atKey (.int .i64 x) z=z:=fun z=>by rw[M x z,hb]
   rw[has_false_of_atKey F];refine⟨fun J=>?_,fun h=>by simp at h⟩;exact absurd hb (jkO J)
  | some y =>
   have F:∀ z,(DataW.map es).atKey (.int .i64 x) z=.lit (.int .u64 y):=fun z=>by rw[M x z,hb]
   rw[has_true_of_atKey F];exact⟨fun _=>rfl,fun _=>jnr hb⟩)
 rw[show (fun x y:Int=>decide (x<=y))=leI from rfl,mergeSort_of_perm_i (h.trans H.symm)];exact List.mergeSort_of_pairwise (C.imp (fun {a b} h=>by simp;omega))
theorem jjE {A B C:World} {row:Option Nat} (h:A.grownBy B row) (hb:Below A.heap.size B C):A.grownBy C row:=⟨hb.os.trans h.os,hb.tape.trans h.tape,hb.output.trans h.output,Nat.le_trans h.size hb.size,fun k E D=>(hb.block k E).trans (h.block k E D)⟩
theorem jlx {k n:Nat} (h:k<n):n-(k+1)<n-k:=by omega
theorem jh1 {α:Type} {enc:α->List Value} {w:World} {A e size:Nat} {v:Value} {l:List α} (B:∀ x,(enc x).length=size) (h:w.ownsRow A e size v l.length (l.flatMap enc)) {b:Nat} (hb:b<A) (u z:Value) :
  ∃ a cap,v=.slice a l.length cap/\SlC enc size ((w.setCell ⟨b,0,none⟩ u).setCell ⟨b,1,none⟩ z).heap.size ((w.setCell ⟨b,0,none⟩ u).setCell ⟨b,1,none⟩ z) a l.length cap l/\∀ x,a=some x->A<=x.block :=
 jaM B (ownsRow_setCell_below (ownsRow_setCell_below h (a:=⟨b,0,none⟩) hb u) (a:=⟨b,1,none⟩) hb z)
abbrev jxH:Int->List Value:=fun x=>[encZ x]
theorem jlb:∀ l:List Int,l.flatMap jxH=l.map encZ
 | []=>rfl
 | x::t=>by rw[List.flatMap_cons,jlb t];rfl
theorem juc {A:Nat} {w:World} {a:Option Addr} {len:Nat} {l:List Int} (h:SlE jxH 1 A w a len l) {j:Nat} (C:j<len):∃ x b off,l[j]? = some x/\a=some ⟨b,off,none⟩/\b<A/\w.cell? ⟨b,off+j,none⟩=some (.int .i64 x):=by
 obtain⟨x,b,off,D,e,hb,B⟩:=h.at C;have:=B 0 (by omega);rw[Nat.mul_one,Nat.add_zero] at this;exact⟨x,b,off,D,e,hb,this⟩
attribute [-go_sem] Builtin.append_
theorem jm7 (b M:Nat) (D:DataW Unit) (w:World) (l:List (Int × Int)) (A:w.ownsMap Tryz.prog 3 (plainElem Tryz.prog 22) b M D) (O:Maps.size D<=100000) (P:jbA l) (N:∀ p z,D.atKey (.int .i64 p) z=match jbI l p with
  | some x=>.lit (.int .u64 x)
  | none=>z) :
  Calls Tryz.prog 321 #[.func (.func 326) #[] #[.pointer (some ⟨w.heap.size,0,none⟩)]] (w.alloc (.cells #[.map (some b)] 448)) fun e w'=>∃ E c5,e=.returned (.slice E l.length c5) /\
   SlC jxH 1 w'.heap.size w' E l.length c5 (l.map Prod.fst)/\(∀ x,E=some x->w.heap.size<=x.block)/\Bw w w':=by
 refine (jpv b M D w A O).mono ?_;rintro e Q ⟨v5,ss,rfl,C,B,L,I⟩;have J:=jqB A P N C;have G:ss.length=l.length:=by have:=congrArg List.length J;simpa using this
 rw[J,G] at B;obtain⟨E,c5,rfl,H,F⟩:=jaM (enc:=jxH) (l:=l.map Prod.fst) (fun _=>rfl) (by rw[List.length_map];rw[jlb];exact B);rw[List.length_map] at H ⊢;exact⟨E,c5,rfl,H,F,I⟩
theorem jgc (b K:Nat) (f:Int) (l:List (Int × Int)) (w:World) (hm:MapIs w b K l) (hu:jbA l) (hb:jbl l) (hi:∀ c∈l,I64 c.1) (aP:l.length<=5000) (hK:K<=5000) :
  Calls Tryz.prog 317 #[.agg #[.map (some b),.int .i64 f]] w fun e w'=>∃ a len cap,e=.returned (.agg #[.int .i64 f,.slice a len cap])/\SlC jb4 2 w'.heap.size w' a len cap (jbi l)/\(∀ x,a=some x->w.heap.size<=x.block)/\w.grownBy w' (some b):=by
 obtain⟨W1,br,ao,aC,I,Z⟩:=jas w #[.map (some b),.int .i64 f] 450 #[.int .i64 0,.slice none 0 0] 42;obtain⟨h,D0,Q,bz,a9⟩:=hm;have bt:=Q.lt;have aQ:W1.ownsMap Tryz.prog 3 (plainElem Tryz.prog 22) b h D0:=Q.kept (jav I none) (by simp);obtain⟨c0,c1⟩:=cl2 ao;go_enter Tryz.func317,Tryz.ntmps317
 go_wp2_with (first
  | (at_range;refine wpList_range_own _ rfl _ 448 rfl 3 22 jwq je6 _ b h _ rfl aQ ?_;intro w0 ae bh aR)
  | go_in)
 go_frame;have aX:w0.heap.size=w.heap.size+3:=by rw[aR,Z]
 rw[Z] at ae ⊢;have bo:Hid (w0.heap.size=w.heap.size+3):=aX;have ai:Hid (W1.heap.size=w.heap.size+2):=Z;have a7:=Lib.hid ao;have a3:=Lib.hid aC;have aZ:=Lib.hid I;clear aR Z aX ao aC I
 go_loopw [3,4] (fun _ _ wr=>∃ (d:Lit->Bool) (cnt:Nat) (D:DataW Unit),wr.ranges Tryz.prog 3 (plainElem Tryz.prog 22) b (w.heap.size+2) h D d cnt/\jkF l d D/\W1.grownBy wr (some b))
  (fun _ _ wr=>wr.rangeLeft b (w.heap.size+2))
 case atStart=>exact⟨_,_,_,ae,jnf a9,bh.but _⟩
 case round =>
  obtain⟨d,cnt,D,S,hS,r⟩:=hrel;have aJ:=(r.block w.heap.size (by have:=ai.out;omega) (fun e=>by have:=Option.some.inj e;omega)).trans a7.out;have aD:=(r.block (w.heap.size+1) (by have:=ai.out;omega) (fun e=>by have:=Option.some.inj e;omega)).trans a3.out;have ah:=Lib.hid aD;have H:=Lib.hid aJ;have HS:=Lib.hid hS;have M:=Lib.hid r;clear aJ aD hS r
  go_wp2_with (first
   | (at_next;refine wpList_next_ranges_ii _ rfl _ rfl 3 22 .i64 .u64 jwq Tryz.underlying3 Tryz.underlying22 b (w.heap.size+2) h _ _ _ rfl S ?_ ?_)
   | go_in)
  ·intro _ aO
   have hE:=jso hu HS.out aO;have E:=S.owns;obtain⟨u0,u1⟩:=cl2 H.out;obtain⟨W2,bc,q,o,aS⟩:=jab wr #[.int .i64 f,.slice none 0 0] 42;have R:W2.ownsMap Tryz.prog 3 (plainElem Tryz.prog 22) b h D:=E.kept (jav o none) (by simp);have P:=known o (Nat.le_refl _) H.out;have ap:(W2.setCell ⟨wr.heap.size,1,none⟩ (.slice none 0 0)).heap[wr.heap.size]? = some (.cells #[.int .i64 f,.slice none 0 0] 42 (0,0)):=hSk q (.slice none 0 0);have G:=(Below.heap_setCell W2 ⟨wr.heap.size,1,none⟩ (.slice none 0 0) w.heap.size (by have:=(Array.getElem?_eq_some_iff.1 H.out).1;simp;omega)).trans P;have A:=R.kept (jd9 W2 wr.heap.size 1 (.slice none 0 0)) (by have:=E.lt;simp;omega);have al:=o.setCell (p:=⟨wr.heap.size,1,none⟩) (Nat.le_refl _) (.slice none 0 0);obtain⟨v0,v1⟩:=cl2 P;obtain⟨x0,x1⟩:=cl2 q;obtain⟨y0,y1⟩:=cz2 q;obtain⟨W3,an⟩:∃ W3,W2.setCell ⟨wr.heap.size,1,none⟩ (.slice none 0 0)=W3:=⟨_,rfl⟩;rw[an] at ap G A al;have aT:W3.heap.size=wr.heap.size+1:=by rw[<- an];simpa using aS
   have ak:=Lib.hid (jm7 b h D W3 (jbi l) A (by have:=A.size_le;omega) (jet hu) hE);have ay:=Lib.hid ap;have z:=Lib.hid G;have n:=Lib.hid al;have aj:=Lib.hid aT;have af:Hid (MapIs W3 b h (jbi l)):=⟨h,D,A,Nat.le_refl _,hE⟩;have HL:Hid (jbA (jbi l)/\jbl (jbi l)/\(∀ c∈jbi l,I64 c.1)/\(jbi l).length<=5000):=⟨jet hu,jeS hb,fun c hc=>hi c (List.mem_filter.1 hc).1,Nat.le_trans (jgd l) aP⟩;obtain⟨L,am⟩:∃ L,jbi l=L:=⟨_,rfl⟩;have a1:=Lib.hid am;rw[am] at af ak HL hE;clear am;obtain⟨z0,z1⟩:=cl2 G;clear S P q u0 ap G al aT A R E o;go_wp2_with (first | (go_at_call 322;refine (jug _ _).mono ?_;rintro e w' ⟨rfl,rfl⟩) | (go_at_call 321;refine ak.out.mono ?_;rintro e m ⟨a5,c5,rfl,aU,ab,B⟩) | fail);obtain⟨X,hX⟩:∃ X,wr.heap.size=X:=⟨_,rfl⟩;have HX:=Lib.hid hX;rw[hX] at ay aj n ⊢;have a4:=Lib.hid aU;have bn:=Lib.hid B;have ax:=Lib.hid ab;have aV:=known B (Nat.le_refl _) ay.out;have aW:=known B (Nat.le_refl _) z.out;have N:=Lib.hid aW;have a2:Hid (MapIs m b h L):=af.out.kept (jav B none) (by simp);have aY:W3.heap.size<=m.heap.size:=B.size;have ag:Hid (m.heap[w.heap.size+1]? = some (.cells #[.int .i64 0,.slice none 0 0] 42 (0,0))):=known B (Nat.le_refl _) (known n.out (by omega) ah.out);have a0:Hid (w.grownBy m (some b)):=((jav aZ.out (some b)).trans (jjE (jjE M.out (n.out.mono (by rw[<- hX];exact M.out.size))) (B.mono (by have:=M.out.size;have:=aj.out;omega))));have bp:=Lib.hid aY;clear aW aU B ab H HS M ak z af hX u1 v0 v1 x0 x1 y0 y1 z0 z1 hE aO aS bc an aY
   go_loopw [7,29] (fun _ i wk=>∃ (k:Nat) (v:Value),k<=L.length/\i=.int .i64 k/\wk.heap[X]? = some (.cells #[.int .i64 f,v] 42 (0,0))/\wk.ownsRow m.heap.size 97 2 v k ((L.take k).flatMap jb4)/\m.grownBy wk (some X)) (fun _ i _=>L.length-(intOf i).toNat)
   case atStart=>exact⟨0,_,Nat.zero_le _,rfl,aV,⟨rfl,Or.inl ⟨rfl,rfl⟩⟩,World.grownBy.refl _ _⟩
   case round =>
    obtain⟨k,v,hk,rfl,O,C,hG⟩:=hrel;have aI:X<m.heap.size:=(Array.getElem?_eq_some_iff.1 aV).1;have bA:w.heap.size<X:=by have:=HX.out;have:=(Array.getElem?_eq_some_iff.1 N.out).1;have:=n.out.size;have:=(Array.getElem?_eq_some_iff.1 ah.out).1;omega
    have bd:=(hG.block _ (Array.getElem?_eq_some_iff.1 N.out).1 (fun e=>by have:=Option.some.inj e;omega)).trans N.out;have bb:=hG.size;by_cases J:k<L.length
    ·obtain⟨y,hy⟩:∃ y,L[k]? = some y:=⟨_,List.getElem?_eq_getElem J⟩
     obtain⟨x,b5,o5,hx,rfl,B,bg⟩:=juc a4.out.1 J;obtain rfl:x=y.1:=by rw[List.getElem?_map,hy] at hx;simpa using hx.symm
     have bs:W3.heap.size<=b5:=ax.out _ rfl;have bf:b5≠X:=by have:=aj.out;omega
     have bu:wr.cell? ⟨b5,o5+k,none⟩=some (.int .i64 y.1):=by rw[<- bg];exact World.cell?_of_block (hG.block _ B (fun e=>bf (Option.some.inj e)))
     have bj:MapIs wr b h L:=a2.out.kept hG (by simp;omega);have aN:jcM L y.1=y.2:=by unfold jcM;rw[jkN HL.out.1 (List.mem_of_getElem? hy)];rfl
     have bl:I64 y.1:=HL.out.2.2.1 y (List.mem_of_getElem? hy);have bi:=bj.look bl;rw[aN] at bi;obtain⟨g,cap,w1,be,Y,I,bC,ac,au⟩:=jap Tryz.prog 40 jnj jnJ rfl (by decide) C (Below.refl m.heap.size wr) (Nat.le_refl _) bb (jb4 y) rfl (jrC y) (by have:=HL.out.2.2.2;omega) (by decide);obtain⟨p0,p1⟩:=cl2 bd;obtain⟨q0,q1⟩:=cl2 O;obtain⟨r0,r1⟩:=cz2 O;rw[show (jb4 y).toArray=#[.int .i64 y.1,.int .u64 y.2] from rfl] at be;have F:=(ac X aI).trans O;obtain⟨s0,s1⟩:=cl2 F;obtain⟨t0,t1⟩:=cz2 F;have aG:(w1.setCell ⟨X,1,none⟩ (.slice (some ⟨g,0,none⟩) (k+1) cap)).heap[X]? = some (.cells #[.int .i64 f,.slice (some ⟨g,0,none⟩) (k+1) cap] 42 (0,0)):=hSk F _;have av:=ownsRow_setCell_below Y (a:=⟨X,1,none⟩) aI (.slice (some ⟨g,0,none⟩) (k+1) cap);have ba:m.grownBy (w1.setCell ⟨X,1,none⟩ (.slice (some ⟨g,0,none⟩) (k+1) cap)) (some X):=(jjE hG I).trans (jd9 _ _ _ _);clear ac au Y C O F I;have bq:L.length<=5000:=HL.out.2.2.2;go_wp2_with fail;go_roundw
     case rel=>exact⟨k+1,_,J,by simp,aG,by rw[jaf hy,List.flatMap_append];simpa using av,ba⟩
     case measure=>simp[intOf];exact jlx J
    ·obtain rfl:k=L.length:=by omega
     rw[List.take_length] at C;have aq:w.heap.size+1<m.heap.size:=(Array.getElem?_eq_some_iff.1 ag.out).1
     obtain⟨a,cap,rfl,aK⟩:∃ a cap,v=.slice a L.length cap/\∀ x,a=some x->m.heap.size<=x.block:=by
      obtain⟨a,cap,h1,h2,h3⟩:=jaM (enc:=jb4) (fun _=>rfl) C;exact⟨a,cap,h1,h3⟩
     have aF:SlC jb4 2 ((wr.setCell ⟨w.heap.size+1,0,none⟩ (.int .i64 f)).setCell ⟨w.heap.size+1,1,none⟩ (.slice a L.length cap)).heap.size ((wr.setCell ⟨w.heap.size+1,0,none⟩ (.int .i64 f)).setCell ⟨w.heap.size+1,1,none⟩ (.slice a L.length cap)) a L.length cap L:=by
      obtain⟨a',bm,h1,h2,h3⟩:=jh1 (enc:=jb4) (fun _=>rfl) C aq (.int .i64 f) (.slice a L.length cap)
      cases h1
      exact h2
     have hR:=(hG.block _ (Array.getElem?_eq_some_iff.1 ag.out).1 (fun e=>by have:=Option.some.inj e;have:=HX.out;have:=(Array.getElem?_eq_some_iff.1 ah.out).1;omega)).trans ag.out;obtain⟨s0,s1⟩:=cl2 O;obtain⟨o0,o1⟩:=cl2 hR;obtain⟨m0,m1⟩:=cz2 hR;have aH:=jbq (u:=.int .i64 f) (v:=.slice a L.length cap) hR;have a6:=Lib.hid aF;have a8:=Lib.hid aK;clear C aF aK hR;go_wp2_with fail;have aB:w.grownBy ((wr.setCell ⟨w.heap.size+1,0,none⟩ (.int .i64 f)).setCell ⟨w.heap.size+1,1,none⟩ (.slice a L.length cap)) (some b):=((a0.out.andThen hG (fun j s=>Or.inl (by have:=Option.some.inj s;omega))).andThen (jd9 _ _ _ _) (fun j s=>Or.inl (by have:=Option.some.inj s;omega))).andThen (jd9 _ _ _ _) (fun j s=>Or.inl (by have:=Option.some.inj s;omega));have aE:=a6.out;generalize (wr.setCell ⟨w.heap.size+1,0,none⟩ (.int .i64 f)).setCell ⟨w.heap.size+1,1,none⟩ (.slice a L.length cap)=V at aH aB aE ⊢;obtain⟨j0,j1⟩:=cl2 aH;exact bodyPost_ret (v:=.agg #[.int .i64 f,.slice a L.length cap]) (by simp[results,Tryz.f317,go_sem,j0,j1]) rfl ⟨a,L.length,cap,rfl,by rw[a1.out];exact aE,(fun x hx=>by have:=a8.out x hx;omega),aB⟩
  ·intro x c w1 az bk bB bx aL T J aM Z bv
   have ad:W1.grownBy w1 (some b):=M.out.andThen aM (fun j s=>by obtain rfl:=Option.some.inj s;exact Or.inl (by have:=ai.out;omega));have aa:=(aM.block _ (Array.getElem?_eq_some_iff.1 H.out).1 (fun e=>by have:=Option.some.inj e;omega)).trans H.out;have q0:w1.cell? ⟨w.heap.size,0,none⟩=some (.map (some b)):=cCc aa 0;have t:=Lib.hid ad;clear ad aa
   go_wp2_with (first
    | (at_delete;refine wpList_delete_ranges _ rfl _ _ 448 3 rfl 22 jwq je6 _ b (w.heap.size+2) h _ _ _ rfl T _ _ rfl (keyOf_int_mk Tryz.underlying3 bk) ?_;intro w2 aA U bw aw;go_frame)
    | go_in)
   ·have ar:c=0:=by simpa using (by assumption:(c==0)=true)
    subst ar;rw[strike_twice] at U;go_roundw
    case rel=>exact⟨_,aA,_,U,jlW HS.out aL,t.out.andThen aw.grown (fun j s=>by cases s;exact Or.inr rfl)⟩
    case measure=>rw[U.left_eq,S.left_eq];omega
   ·have ar:c≠0:=by simpa using (by assumption:(c==0)=false)
    go_roundw
    case rel=>exact⟨_,az,_,T,jng HS.out ar aL,t.out⟩
    case measure=>rw[T.left_eq,S.left_eq];exact J
end
section
open Go.Sort
theorem jt9 (f:Nat) (v:Nat) (E:f<=3) (F:v<2^64):0<=jhB f v/\jhB f v<=512:=by
 unfold jhB;split
 ·omega
 ·have hb:Lib.bitLen v<=64:=Lib.bitLen_le v 64 (Nat.le_refl _) F
  rw[Int.toNat_natCast];have B:v*2^(64-(Lib.bitLen v-1)) % 2^64<2^64:=Nat.mod_lt _ (Nat.two_pow_pos 64);generalize v*2^(64-(Lib.bitLen v-1)) % 2^64=O at B ⊢
  have C:O / 2^(64-f)<2^f:=by
   rw[Nat.div_lt_iff_lt_mul (Nat.two_pow_pos _),<- Nat.pow_add,show f+(64-f)=64 by omega];exact B
  have A:2^f<=2^3:=Nat.pow_le_pow_right (by omega) E;have D:(Lib.bitLen v-1)*2^f<=63*2^3:=Nat.mul_le_mul (by omega) A;generalize O / 2^(64-f)=q at C ⊢;generalize (Lib.bitLen v-1)*2^f=m at D ⊢;generalize 2^f=z at C A;omega
theorem jua (f:Nat) (v:Nat) (A:f<=3) (B:v<2^64):I64 (jhB f v):=by
 have:=jt9 f v A B;unfold I64;omega
theorem jlU {α:Type} {enc:α->List Value} {k n:Nat} {w V:World} {a:Option Addr} {len cap:Nat} {l:List α} (h:SlC enc k n w a len cap l) (C:∀ x,a=some x->V.heap[x.block]? = w.heap[x.block]?):SlC enc k n V a len cap l :=
 ⟨⟨h.1.1,fun j x D=>by
  obtain⟨b,off,e,hb,A⟩:=h.1.2 j x D;exact⟨b,off,e,hb,fun i B=>(World.cell?_of_block (show V.heap[b]? = w.heap[b]? from C _ e)).trans (A i B)⟩⟩,h.2⟩
def jpQ (n:Nat) (w w7:World) (a:Option Addr) (len cap:Nat) (f:Int) (l:List (Int × Int)):Prop :=
 ((w7.setCell ⟨n+1,0,none⟩ (.int .i64 f)).setCell ⟨n+1,1,none⟩ (.slice a len cap)).heap[n+1]? = some (.cells #[.int .i64 f,.slice a len cap] 42 (0,0)) /\
 SlC jb4 2 ((w7.setCell ⟨n+1,0,none⟩ (.int .i64 f)).setCell ⟨n+1,1,none⟩ (.slice a len cap)).heap.size ((w7.setCell ⟨n+1,0,none⟩ (.int .i64 f)).setCell ⟨n+1,1,none⟩ (.slice a len cap)) a len cap l /\
 Below n w ((w7.setCell ⟨n+1,0,none⟩ (.int .i64 f)).setCell ⟨n+1,1,none⟩ (.slice a len cap))
theorem jnE {w w6 w7:World} {b:Nat} {a:Option Addr} {len cap:Nat} {f:Int} {l:List (Int × Int)} (I:w.heap.size+1<b) (B:w6.heap[w.heap.size+1]? = some (.cells #[.int .i64 0,.slice none 0 0] 42 (0,0))) (A:Bw w w6) (F:SlC jb4 2 w7.heap.size w7 a len cap l) (G:∀ x,a=some x->w6.heap.size<=x.block) (D:w6.grownBy w7 (some b)) :
  w7.heap[w.heap.size+1]? = some (.cells #[.int .i64 0,.slice none 0 0] 42 (0,0))/\jpQ w.heap.size w w7 a len cap f l:=by
 have J:=(Array.getElem?_eq_some_iff.1 B).1;have C:=(D.block _ J (fun e=>by cases e;omega)).trans B;refine⟨C,jbq C,?_,?_⟩
 ·have H:((w7.setCell ⟨w.heap.size+1,0,none⟩ (.int .i64 f)).setCell ⟨w.heap.size+1,1,none⟩ (.slice a len cap)).heap.size=w7.heap.size:=by simp
  rw[H];refine jlU F fun x L=>?_
  have:=G x L;exact (Below.heap_setCell _ _ _ _ (fun e=>by simp at e;omega)).trans (Below.heap_setCell _ _ _ _ (fun e=>by simp at e;omega))
 ·have E:Bw w w7:=A.grown D A.size (fun k e=>by cases e;omega)
  exact (E.setCell (p:=⟨w.heap.size+1,0,none⟩) (Nat.le_succ _) _).setCell (p:=⟨w.heap.size+1,1,none⟩) (Nat.le_succ _) _
theorem jqS (f:Nat) (l:List (Int × Int)) (v:Nat) (n:Int) (a:Option Addr) (len cap:Nat) (w:World) (hf:f<=3) (hL:SlE jb4 2 w.heap.size w a len l) (hr:jaR f l=true) (hu:jbA l) (d:jbl l) (z:len<=1000) (hp:∀ b∈l,I64 b.1) (hv:v<2^64) (hn:U64 n) :
  Calls Tryz.prog 309 #[.agg #[.int .i64 f,.slice a len cap],.int .u64 v,.int .u64 n] w fun e w'=>∃ G B A,e=.returned (.tuple #[.agg #[.int .i64 f,.slice G B A],.int .i64 0])/\SlC jb4 2 w'.heap.size w' G B A (jo2 f l v n)/\Bw w w':=by
 have Y:=Lib.hid hL.1;obtain⟨W0,al,u,q,M,ao⟩:=jas w #[.int .i64 f,.slice a len cap] 42 #[.int .i64 0,.slice none 0 0] 42;obtain⟨z0,z1⟩:=cl2 u;have ai:=jhz f l a len cap W0 hf ((hL.below M).mono M.size) hr hu d z hp (by unfold maxLen;omega);have ag:=Lib.hid q;have X:=Lib.hid M;clear hL hr q M u;go_enter Tryz.func309,Tryz.ntmps309;go_wp2_with fail;refine ai.mono ?_;rintro e w1 ⟨b,rfl,g,an,E⟩;obtain⟨L,am,r,N,aq⟩:=jab w1 #[.map (some b),.int .i64 f] 450;have aa:MapIs L.drew b l.length l:=g.kept (jcp (jav N none)) (by simp);have ak:=g.lt;have J:Hid (L.drew.heap[w1.heap.size]? = some (.cells #[.map (some b),.int .i64 f] 450 (0,0))):=r;obtain⟨y0,y1⟩:=cl2 J.out;have j:=Lib.hid (jf4 f v L.drew hf hv);have U:=known (E.trans (N.mono E.size)) (Nat.le_refl _) ag.out;have ae:Hid (L.drew.heap[w.heap.size+1]? = some (.cells #[.int .i64 0,.slice none 0 0] 42 (0,0))):=U;have H:Bw w L.drew:=((X.out.trans (E.mono X.out.size)).trans (N.mono (by have:=E.size;have:=X.out.size;omega))).drew;have ap:W0.heap.size<=w1.heap.size:=E.size;have hi:=jua f v hf hv
 have HP:Hid (∀ D,Below L.drew.heap.size L.drew D->Calls Tryz.prog 315 #[.agg #[.map (some b),.int .i64 f],.int .i64 (jhB f v),.int .u64 n] D fun e w'=>e=.returned (.tuple #[])/\MapIs w' b (l.length+1) (jaP l (jhB f v) n)/\D.grownBy w' (some b)):=fun D C =>
  jj9 b l.length f (jhB f v) n l D (aa.kept (jav C none) (by simp)) hi hn (by have:=Y.out;omega) hu d
 have HF:Hid (∀ D w6,Below L.drew.heap.size L.drew D->MapIs w6 b (l.length+1) (jaP l (jhB f v) n)->D.grownBy w6 (some b) ->
   w6.heap[w1.heap.size]? = some (.cells #[.map (some b),.int .i64 f] 450 (0,0))/\w6.heap[w.heap.size+1]? = some (.cells #[.int .i64 0,.slice none 0 0] 42 (0,0)) /\
   (Calls Tryz.prog 317 #[.agg #[.map (some b),.int .i64 f]] w6 fun e w'=>∃ a len cap,e=.returned (.agg #[.int .i64 f,.slice a len cap])/\SlC jb4 2 w'.heap.size w' a len cap (jo2 f l v n)/\(∀ x,a=some x->w6.heap.size<=x.block)/\w6.grownBy w' (some b))/\Bw w w6):=fun D w6 C T F=>by
  have ac:=known C (Nat.le_refl _) J.out;have ab:=known C (Nat.le_refl _) ae.out;have m:Bw w D:=H.trans (C.mono H.size);refine⟨(F.block _ (Array.getElem?_eq_some_iff.1 ac).1 (fun e=>by cases e;omega)).trans ac,(F.block _ (Array.getElem?_eq_some_iff.1 ab).1 (fun e=>by cases e;omega)).trans ab,?_,m.grown F m.size (fun k e=>by cases e;omega)⟩;exact jgc b (l.length+1) f _ w6 T (jfB _ _ _ hu) (jeN _ _ _ d hn) (fun c hc=>by rcases jcU _ _ _ _ hc with e | h;rw[e];exact hi;exact hp c h) (by have:=jeM l (jhB f v) n;have:=Y.out;omega) (by have:=Y.out;omega)
 have HE:Hid (∀ w6 w7 G B A,w6.heap[w.heap.size+1]? = some (.cells #[.int .i64 0,.slice none 0 0] 42 (0,0))->Bw w w6->SlC jb4 2 w7.heap.size w7 G B A (jo2 f l v n)->(∀ x,G=some x->w6.heap.size<=x.block)->w6.grownBy w7 (some b) ->
   w7.heap[w.heap.size+1]? = some (.cells #[.int .i64 0,.slice none 0 0] 42 (0,0))/\jpQ w.heap.size w w7 G B A f (jo2 f l v n)):=fun w6 w7 G B A P O Q R S=>jnE (by omega) P O Q R S
 clear r U g aa E N H hi;go_wp2_with fail
 -- REGION
 refine wp_region_any (by kernel_rfl) ?_;change wpAny _ _ _ _ _ _ _ (World.drew _)
 ·
  refine ta 1 ?_;refine ta 3 ?_;refine ta 5 ?_;refine rd [0,2] (.cons rfl (fun K hK=>?_) (.cons rfl (fun K hK=>?_) .nil))
  all_goals go_simp
  all_goals (refine hK _ _ ?_;clear hK K)
  all_goals first
   | (refine rq [2] (.cons rfl (fun K hK=>?_) .nil))
   | (refine rq [0,4] (.cons rfl (fun K hK=>?_) (.cons rfl (fun K hK=>?_) .nil)))
  all_goals go_simp
  all_goals first
   |
    refine j.out.mono ?_;rintro e D ⟨rfl,C⟩;have I:=known C (Nat.le_refl _) J.out;obtain⟨x0,x1⟩:=cl2 I;have hP:=HP.out D C;have i:=Lib.hid C;clear I C;refine hK _ _ ?_;clear hK K
   | (refine hK _ _ ?_;clear hK K)
  all_goals first
   | (refine rq [4] (.cons rfl (fun K hK=>?_) .nil))
   | (refine rq [0] (.cons rfl (fun K hK=>?_) .nil))
  all_goals go_simp
  all_goals first
   |
    refine j.out.mono ?_;rintro e D ⟨rfl,C⟩;have I:=known C (Nat.le_refl _) J.out;obtain⟨x0,x1⟩:=cl2 I;have hP:=HP.out D C;have i:=Lib.hid C;clear I C;refine hK _ _ ?_;clear hK K
   | (refine hK _ _ ?_;clear hK K)
  all_goals (refine rd [6] (.cons rfl (fun K hK=>?_) .nil))
  all_goals go_simp
  all_goals
   refine hP.mono ?_;rintro e w6 ⟨rfl,T,F⟩;refine hK _ _ ?_;clear hK K
  all_goals (refine wpAny_done (by kernel_rfl) ?_ _)
  all_goals
   obtain⟨s,P,aj,O⟩:=HF.out D w6 i.out T F;clear T F hP;obtain⟨j0,j1⟩:=cl2 s;have af:=Lib.hid P;have ad:=Lib.hid O;clear s P O;go_wp2_with fail;refine aj.mono ?_;rintro e w7 ⟨G,B,A,rfl,Q,R,S⟩;obtain⟨Z,y⟩:=HE.out w6 w7 G B A af.out ad.out Q R S;obtain⟨m0,m1⟩:=cl2 Z;obtain⟨n0,n1⟩:=cz2 Z;have ah:=Lib.hid y;clear Z y Q R S;go_wp2_with fail;obtain⟨t,p,o⟩:=ah.out;generalize (w7.setCell ⟨w.heap.size+1,0,none⟩ (.int .i64 f)).setCell ⟨w.heap.size+1,1,none⟩ (.slice G B A)=V at t p o ⊢;obtain⟨q0,q1⟩:=cl2 t;exact bodyPost_ret (v:=.tuple #[.agg #[.int .i64 f,.slice G B A],.int .i64 0]) (by simp[results,Tryz.f309,go_sem,q0,q1]) rfl ⟨G,B,A,rfl,p,o⟩
theorem jrY (l:List (Int × Int)) (a:List (Int × Int)) (c:Int × Int):jaK a (l++[c])=jaP (jaK a l) c.1 c.2:=by simp[jaK]
theorem jn8 (l:List (Int × Int)) (k:Nat):jbA (jaK [] ((l.take k).map fun b=>(jaY b.1,b.2))):=jdG _ [] List.Pairwise.nil
theorem jt8 (l:List (Int × Int)) (f:Nat) (E:f<=3) (B:∀ b∈l,jaz f b.1=true) (C:jbl l):jbl (jaK [] (l.map fun b=>(jaY b.1,b.2)))/\∀ c∈jaK [] (l.map fun b=>(jaY b.1,b.2)),I64 c.1:=by
 refine⟨jcq _ [] (fun b hb=>by cases hb) (fun c D=>by obtain⟨d,A,rfl⟩:=List.mem_map.1 D;exact C d A),fun c D=>?_⟩;rcases jdF _ [] c D with A | ⟨d,A,e⟩ | ⟨d,A,e⟩
 ·cases A
 ·cases A
 ·obtain⟨x,F,rfl⟩:=List.mem_map.1 A
  rw[e];have:=jb6 f E x.1 (B x F);unfold jaY I64;show _/\_;split<;>omega
theorem jmC (f:Nat) (l:List (Int × Int)) (a:Option Addr) (len cap:Nat) (w:World) (h1:1<=f) (hf:f<=3) (hL:SlE jb4 2 w.heap.size w a len l) (hr:jaR f l=true) (ae:∀ b∈l,jaz f b.1=true) (af:jbl l) (aX:len<=1000) :
  Calls Tryz.prog 311 #[.agg #[.int .i64 f,.slice a len cap]] w fun e w'=>∃ Q C B,e=.returned (.tuple #[.agg #[.int .i64 ((f:Int)-1),.slice Q C B],.int .i64 0])/\SlC jb4 2 w'.heap.size w' Q C B (jo3 l)/\Bw w w':=by
 have x:=Lib.hid hL.1;have hp:∀ b∈l,I64 b.1:=fun b hb=>by have:=jb6 f hf b.1 (ae b hb);unfold I64;omega
 obtain⟨W0,aZ,ab,aB,R,a4⟩:=jas w #[.int .i64 f,.slice a len cap] 42 #[.int .i64 0,.slice none 0 0] 42;have ap:=Lib.hid (jbN f l a len cap W0 ((hL.below R).mono R.size) (by unfold maxLen;omega) (fun b hb=>(hp b hb).2));rw[hr] at ap;obtain⟨z0,z1⟩:=cl2 ab;have aO:=Lib.hid aB;have aR:=Lib.hid ab;have al:=Lib.hid R;have HL:=Lib.hid hL;have a7:wrap64 ((f:Int)-1)=(f:Int)-1:=by unfold wrap64;omega
 have a8:IntKind.i64.wrap ((f:Int)-1)=(f:Int)-1:=IntWalk.i64_in _ (by omega)
 have aI:Hid (∀ w1,Calls Tryz.prog 319 #[.int .i64 ((f:Int)-1)] w1 fun e w'=>∃ b,e=.returned (.tuple #[.agg #[.map (some b),.int .i64 ((f:Int)-1)],.nilIface])/\MapIs w' b 0 []/\w1.heap.size<=b/\Bw w1 w'):=fun w1=>by
  have:=jiR (f-1) w1 (by omega);rwa [show ((f-1:Nat):Int)=(f:Int)-1 by omega] at this
 clear hL hr aB R ab;go_enter Tryz.func311,Tryz.ntmps311;go_wp2_with fail;refine ap.out.mono ?_;rintro e w1 ⟨rfl,E⟩;have J:=known E (Nat.le_refl _) aR.out;obtain⟨y0,y1⟩:=cl2 J;have ar:=Lib.hid J;clear J;go_wp2_with fail;refine (aI.out _).mono ?_;rintro e w2 ⟨b,rfl,ai,a2,G⟩;obtain⟨W3,a0,z,H,a5⟩:=jab w2 #[.map (some b),.int .i64 ((f:Int)-1)] 450;have n:=G.size;have L:=known (G.trans (H.mono n)) (Nat.le_refl _) ar.out;have p:=known (G.trans (H.mono n)) (Nat.le_refl _) (known E (Nat.le_refl _) aO.out);have aT:MapIs W3 b 0 []:=ai.kept (jav H none) (by simp);have aW:=E.size;have m:Bw w W3:=(al.out.trans (E.mono al.out.size)).trans ((G.mono (by omega)).trans (H.mono (by omega)));have aq:=Lib.hid z;have au:=Lib.hid p;have h:=Lib.hid L;have g:=Lib.hid m;have a3:=ai.lt;obtain⟨x0,P⟩:=cl2 z;obtain⟨q0,q1⟩:=cl2 L;clear z p L ai G H E m;go_wp2_with fail;go_loopw [7,8,9,10,30] (fun _ _ _ _ i wr=>∃ k:Nat,k<=len/\i=.int .i64 k/\MapIs wr b k (jaK [] ((l.take k).map fun b=>(jaY b.1,b.2)))/\W3.grownBy wr (some b)) (fun _ _ _ _ i _=>len-(intOf i).toNat)
 case atStart=>exact⟨0,Nat.zero_le _,rfl,aT,World.grownBy.refl _ _⟩
 case round =>
  obtain⟨k,hk,rfl,hM,o⟩:=hrel;have ad:=(o.block _ (Array.getElem?_eq_some_iff.1 h.out).1 (fun e=>by cases e;omega)).trans h.out;have ac:=(o.block _ (Array.getElem?_eq_some_iff.1 au.out).1 (fun e=>by cases e;omega)).trans au.out;have T:=(o.block _ (Array.getElem?_eq_some_iff.1 aq.out).1 (fun e=>by cases e;omega)).trans aq.out;have S:Bw w wr:=g.out.grown o g.out.size (fun j e=>by cases e;omega);have aY:=o.size;by_cases ah:k<len
  ·obtain⟨c,b1,o1,hx,ea,E,p0,p1⟩:=jc1 (HL.out.below S) ah
   subst ea;have HX:=Lib.hid hx;have U:=List.mem_of_getElem? hx;have aH:I64 c.1:=hp c U;have ak:U64 c.2:=af c U;have N:=ae c U;obtain⟨Y,O⟩:=jo8 f h1 hf c.1 N;have ag:I64 (jaY c.1):=by have:=jb6 f hf c.1 N;unfold jaY I64;split<;>omega
   obtain⟨P,x2⟩:=c;dsimp only at p0 p1 aH ak N Y O ag;obtain⟨W4,a1,aa,I,a6⟩:=jab wr #[.int .i64 P,.int .u64 x2] 97;have am:=Lib.hid (jkC f h1 hf P W4 N);obtain⟨lo,aG⟩:∃ lo,jeu f P=lo:=⟨_,rfl⟩;rw[aG] at am O Y;have q:=known I (Nat.le_refl _) ad;have r:=known I (Nat.le_refl _) T;obtain⟨u0,u1⟩:=cl2 aa;obtain⟨v0,v1⟩:=cl2 q;have aL:Hid (MapIs W4 b k (jaK [] ((l.take k).map fun b=>(jaY b.1,b.2)))):=hM.kept (jav I none) (by simp);have aP:=Lib.hid aa;have av:=Lib.hid r;have aJ:=Lib.hid (o.trans (jav I (some b)));clear ad ac T aa q r hM I o hx S;go_wp2_with fail;refine am.out.mono ?_;rintro e F ⟨hi,rfl,M⟩;have aw:Hid (F.drew.heap[w2.heap.size]? = some (.cells #[.map (some b),.int .i64 ((f:Int)-1)] 450 (0,0))):=known M.drew (Nat.le_refl _) av.out;have aQ:Hid (F.drew.heap[wr.heap.size]? = some (.cells #[.int .i64 P,.int .u64 x2] 97 (0,0))):=known M.drew (Nat.le_refl _) aP.out;have aM:Hid (MapIs F.drew b k (jaK [] ((l.take k).map fun b=>(jaY b.1,b.2)))):=aL.out.kept (jcp (jav M none)) (by simp);have aK:Hid (W3.grownBy F.drew (some b)):=aJ.out.trans (jcp (jav M (some b)))
   have u:Hid (CR 316 #[.int .i64 ((f:Int)-1),.int .u64 lo] F.drew (.int .i64 (jaY P))):=by
    have:=jf4 (f-1) lo.toNat F.drew (by omega) (by unfold U64 at O;omega);rwa [show ((f-1:Nat):Int)=(f:Int)-1 by omega,show ((lo.toNat:Nat):Int)=lo by unfold U64 at O;omega,Y] at this
   have aN:=jn8 l k
   have HP:Hid (∀ D,Below F.drew.heap.size F.drew D->Calls Tryz.prog 315 #[.agg #[.map (some b),.int .i64 ((f:Int)-1)],.int .i64 (jaY P),.int .u64 x2] D fun e w'=>e=.returned (.tuple #[])/\MapIs w' b (k+1) (jaP (jaK [] ((l.take k).map fun b=>(jaY b.1,b.2))) (jaY P) x2)/\D.grownBy w' (some b)):=fun D A =>
    jj9 b k ((f:Int)-1) (jaY P) x2 _ D (aM.out.kept (jav A none) (by simp)) ag ak (by omega) aN (jcq _ [] (fun b hb=>by cases hb) (fun c hc=>by obtain⟨d,hd,rfl⟩:=List.mem_map.1 hc;exact af d (List.mem_of_mem_take hd)))
   have HC:Hid (∀ D,Below F.drew.heap.size F.drew D->D.cell? ⟨w2.heap.size,0,none⟩=some (.map (some b))/\D.cell? ⟨w2.heap.size,1,none⟩=some (.int .i64 ((f:Int)-1))/\D.cell? ⟨wr.heap.size,1,none⟩=some (.int .u64 x2)):=fun D A=>by
    have h1:=known A (Nat.le_refl _) aw.out;exact⟨cCc h1 0,cCc h1 1,cCc (known A (Nat.le_refl _) aQ.out) 1⟩
   have ao:Hid (∀ D w6,Below F.drew.heap.size F.drew D->MapIs w6 b (k+1) (jaP (jaK [] ((l.take k).map fun b=>(jaY b.1,b.2))) (jaY P) x2)->D.grownBy w6 (some b)->MapIs w6 b (k+1) (jaK [] ((l.take (k+1)).map fun b=>(jaY b.1,b.2)))/\W3.grownBy w6 (some b)):=fun D w6 A Z X=>by
    rw[jaf HX.out,List.map_append];exact⟨by rw[List.map_singleton,jrY];exact Z,(aK.out.trans (jav A _)).trans X⟩
   obtain⟨y0,y1,y2⟩:=HC.out _ (Below.refl _ _);clear M ak aH ag N Y O aG u0 u1 v0 v1 p0 p1 q0 q1 x0 U;go_wp2_with fail
   -- REGION
   refine wp_region_any (by kernel_rfl) ?_;change wpAny _ _ _ _ _ _ _ (World.drew _)
   ·
    refine ta 1 ?_;refine ta 3 ?_;refine ta 5 ?_;refine rd [0,2,6] (.cons rfl (fun K hK=>?_) (.cons rfl (fun K hK=>?_) (.cons rfl (fun K hK=>?_) .nil)))
    all_goals go_simp
    all_goals (refine hK _ _ ?_;clear hK K)
    all_goals first
     | (refine rq [2,6] (.cons rfl (fun K hK=>?_) (.cons rfl (fun K hK=>?_) .nil)))
     | (refine rq [0,4,6] (.cons rfl (fun K hK=>?_) (.cons rfl (fun K hK=>?_) (.cons rfl (fun K hK=>?_) .nil))))
     | (refine rq [0,2] (.cons rfl (fun K hK=>?_) (.cons rfl (fun K hK=>?_) .nil)))
    all_goals go_simp
    all_goals first
     |
      refine u.out.mono ?_;rintro e D ⟨rfl,A⟩;have hP:=HP.out D A;obtain⟨u0,u1,v1⟩:=HC.out D A;refine hK _ _ ?_;clear hK K
     | (refine hK _ _ ?_;clear hK K)
    all_goals first
     | (refine rq [4,6] (.cons rfl (fun K hK=>?_) (.cons rfl (fun K hK=>?_) .nil)))
     | (refine rq [2] (.cons rfl (fun K hK=>?_) .nil))
     | (refine rq [0,6] (.cons rfl (fun K hK=>?_) (.cons rfl (fun K hK=>?_) .nil)))
     | (refine rq [0,4] (.cons rfl (fun K hK=>?_) (.cons rfl (fun K hK=>?_) .nil)))
    all_goals go_simp
    all_goals first
     |
      refine u.out.mono ?_;rintro e D ⟨rfl,A⟩;have hP:=HP.out D A;obtain⟨u0,u1,v1⟩:=HC.out D A;refine hK _ _ ?_;clear hK K
     | (refine hK _ _ ?_;clear hK K)
    all_goals first
     | (refine rq [6] (.cons rfl (fun K hK=>?_) .nil))
     | (refine rq [4] (.cons rfl (fun K hK=>?_) .nil))
     | (refine rq [0] (.cons rfl (fun K hK=>?_) .nil))
    all_goals go_simp
    all_goals first
     |
      refine u.out.mono ?_;rintro e D ⟨rfl,A⟩;have hP:=HP.out D A;obtain⟨u0,u1,v1⟩:=HC.out D A;refine hK _ _ ?_;clear hK K
     | (refine hK _ _ ?_;clear hK K)
    all_goals (refine rd [7] (.cons rfl (fun K hK=>?_) .nil))
    all_goals go_simp
    all_goals
     refine hP.mono ?_;rintro e w6 ⟨rfl,Z,X⟩;refine hK _ _ ?_;clear hK K
    all_goals (refine wpAny_done (by kernel_rfl) ?_ _)
    all_goals
     obtain⟨aU,aV⟩:=ao.out D w6 A Z X;clear Z X hP A u0 u1 v1;go_wp2_with fail;go_roundw
     case rel=>exact⟨k+1,ah,by simp,aU,aV⟩
     case measure=>simp[intOf];exact jlx ah
   -- END
  ·obtain rfl:k=len:=by omega
   have ay:MapIs wr b k (jaK [] (l.map fun b=>(jaY b.1,b.2))):=by have:=hM;rwa [List.take_of_length_le (by rw[<- x.out];exact Nat.le_refl _)] at this
   have aj:=jn8 l k;rw[List.take_of_length_le (by rw[<- x.out];exact Nat.le_refl _)] at aj;obtain⟨s,t⟩:=jt8 l f hf ae af;have an:=Lib.hid (jgc b k ((f:Int)-1) _ wr ay aj s t (by have:=jeT (l.map fun b=>(jaY b.1,b.2)) [];simp at this;have:=x.out;omega) (by omega));rw[show jbi (jaK [] (l.map fun b=>(jaY b.1,b.2)))=jo3 l from rfl] at an;have HE:=Lib.hid (fun w7 Q C B=>jnE (w:=w) (w6:=wr) (w7:=w7) (b:=b) (a:=Q) (len:=C) (cap:=B) (f:=(f:Int)-1) (l:=jo3 l) (by omega) ac S);obtain⟨u0,u1⟩:=cl2 T;clear ad ac T hM ay o S aj s t;go_wp2_with fail;refine an.out.mono ?_;rintro e w7 ⟨Q,C,B,rfl,az,aE,aF⟩;obtain⟨y,aD⟩:=HE.out w7 Q C B az aE aF;obtain⟨m0,m1⟩:=cl2 y;obtain⟨n0,n1⟩:=cz2 y;have aS:=Lib.hid aD;clear y aD az aE aF;go_wp2_with fail;obtain⟨aC,aA,ax⟩:=aS.out;generalize (w7.setCell ⟨w.heap.size+1,0,none⟩ (.int .i64 ((f:Int)-1))).setCell ⟨w.heap.size+1,1,none⟩ (.slice Q C B)=V at aC aA ax ⊢;obtain⟨q0,q1⟩:=cl2 aC;exact bodyPost_ret (v:=.tuple #[.agg #[.int .i64 ((f:Int)-1),.slice Q C B],.int .i64 0]) (by simp[results,Tryz.f311,go_sem,q0,q1]) rfl ⟨Q,C,B,rfl,aA,ax⟩
end
theorem jqV {w w6 w7:World} {b rb:Nat} {a:Option Addr} {len cap:Nat} {l:List (Int × Int)} (f:Int) (E:w.heap.size<=rb) (J:rb<b) (B:w6.heap[rb]? = some (.cells #[.int .i64 0,.slice none 0 0] 42 (0,0))) (A:Bw w w6) (G:SlC jb4 2 w7.heap.size w7 a len cap l) (H:∀ x,a=some x->w6.heap.size<=x.block) (D:w6.grownBy w7 (some b)) :
  w7.heap[rb]? = some (.cells #[.int .i64 0,.slice none 0 0] 42 (0,0))/\∃ V,(w7.setCell ⟨rb,0,none⟩ (.int .i64 f)).setCell ⟨rb,1,none⟩ (.slice a len cap)=V/\V.heap[rb]? = some (.cells #[.int .i64 f,.slice a len cap] 42 (0,0))/\SlC jb4 2 V.heap.size V a len cap l/\Bw w V:=by
 have L:=(Array.getElem?_eq_some_iff.1 B).1;have C:=(D.block _ L (fun e=>by cases e;omega)).trans B;refine⟨C,_,rfl,jbq C,?_,?_⟩
 ·have I:((w7.setCell ⟨rb,0,none⟩ (.int .i64 f)).setCell ⟨rb,1,none⟩ (.slice a len cap)).heap.size=w7.heap.size:=by simp
  rw[I];refine jlU G fun x M=>?_
  have:=H x M;exact (Below.heap_setCell _ _ _ _ (fun e=>by simp at e;omega)).trans (Below.heap_setCell _ _ _ _ (fun e=>by simp at e;omega))
 ·have F:Bw w w7:=A.grown D A.size (fun k e=>by cases e;omega)
  exact (F.setCell (p:=⟨rb,0,none⟩) E _).setCell (p:=⟨rb,1,none⟩) E _
theorem jrX (l m:List (Int × Int)) (x:Int × Int):jaK l (m++[x])=jaP (jaK l m) x.1 x.2:=by
 unfold jaK;rw[List.foldl_append];rfl
theorem jmD (f:Nat) (l m:List (Int × Int)) (a:Option Addr) (len cap:Nat) (a2:Option Addr) (A F:Nat) (w:World) (hf:f<=3) (hL:SlE jb4 2 w.heap.size w a len l) (hr:jaR f l=true) (hu:jbA l) (g:jbl l) (T:len<=1000) (hp:∀ b∈l,I64 b.1)
  (hM:SlE jb4 2 w.heap.size w a2 A m) (au:jaR f m=true) (ar:jbl m) (L:A<=1000) (o:∀ b∈m,I64 b.1) :
  Calls Tryz.prog 312 #[.agg #[.int .i64 f,.slice a len cap],.agg #[.int .i64 f,.slice a2 A F]] w fun e w'=>∃ p C B,e=.returned (.tuple #[.agg #[.int .i64 f,.slice p C B],.int .i64 0])/\SlC jb4 2 w'.heap.size w' p C B (jbi (jaK l m))/\Bw w w':=by
 obtain⟨z,aN,Z,al,ag,H,aQ⟩:=jbF w #[.int .i64 f,.slice a len cap] 42 #[.int .i64 f,.slice a2 A F] 42 #[.int .i64 0,.slice none 0 0] 42;obtain⟨z0,z1⟩:=cl2 Z;have aE:=jhz f l a len cap z hf ((hL.below H).mono H.size) hr hu g T hp (by unfold maxLen;omega);have HR:Hid (∀ W,Bw z W->CR 174 #[.agg #[.int .i64 f,.slice a2 A F]] W (.bool true)):=fun W hB=>(jbN f m a2 A F W (((hM.below H).mono H.size).go hB) (by unfold maxLen;omega) (fun b hb=>(o b hb).2)).mono fun e w' h=>⟨by rw[h.1,au],h.2⟩
 have aA:=Lib.hid ag;have u:=Lib.hid al;have aC:=Lib.hid Z;have r:=Lib.hid H;have HM:=Lib.hid hM;have E:Hid (jbA l/\jbl l/\(∀ b∈l,I64 b.1)/\jbl m/\(∀ b∈m,I64 b.1)/\l.length<=1000/\A<=1000/\A=m.length):=⟨hu,g,hp,ar,o,by have:=hL.1;omega,L,hM.1⟩;have aI:=L;clear hL hr hu g hp ag al Z H hM au ar o T hf;go_enter Tryz.func312,Tryz.ntmps312;go_wp2_with fail;refine aE.mono ?_;rintro e w1 ⟨b,rfl,n,aH,M⟩;obtain⟨W2,aO,ah,U,aS⟩:=jab w1 #[.map (some b),.int .i64 f] 450;have aq:MapIs W2 b l.length l:=n.kept (jav U none) (by simp);have aL:=n.lt;have G:Bw z W2:=M.trans (U.mono M.size);have am:=known G (Nat.le_refl _) u.out;have az:=Lib.hid (HR.out W2 G);obtain⟨y0,y1⟩:=cl2 am;have aR:z.heap.size<=w1.heap.size:=M.size;have Q:=Lib.hid G;have aB:=Lib.hid ah;have ay:=Lib.hid aq;clear am M U n aq ah G;go_wp2_with fail;refine az.out.mono ?_;rintro e w3 ⟨rfl,J⟩;have D:Bw z w3:=Q.out.trans (J.mono Q.out.size);have ac:=known D (Nat.le_refl _) aC.out;have an:=known D (Nat.le_refl _) u.out;have ad:=known D (Nat.le_refl _) aA.out;have ai:=known J (Nat.le_refl _) aB.out;have aK:MapIs w3 b l.length l:=ay.out.kept (jav J none) (by simp);have aM:=J.size;have R:Bw w w3:=r.out.trans (D.mono r.out.size);obtain⟨p0,p1⟩:=cl2 ac;obtain⟨q0,q1⟩:=cl2 an;have s:=Lib.hid ad;have t:=Lib.hid ai;have P:=Lib.hid R;clear D ac an ad ai J R;go_wp2_with fail;go_loopw [9,39] (fun _ i wr=>∃ k:Nat,k<=A/\i=.int .i64 k/\MapIs wr b (l.length+k) (jaK l (m.take k))/\w3.grownBy wr (some b)) (fun _ i _=>A-(intOf i).toNat)
 case atStart=>exact⟨0,Nat.zero_le _,rfl,aK,World.grownBy.refl _ _⟩
 case round =>
  obtain⟨k,hk,rfl,I,q⟩:=hrel;have O:=(q.block _ (Array.getElem?_eq_some_iff.1 t.out).1 (fun e=>by cases e;omega)).trans t.out;have d:=(q.block _ (Array.getElem?_eq_some_iff.1 s.out).1 (fun e=>by cases e;omega)).trans s.out;have X:Bw w wr:=P.out.grown q P.out.size (fun j e=>by cases e;omega);by_cases aJ:k<A
  ·obtain⟨x,b1,o1,hx,ea,aH,p0,p1⟩:=jc1 (HM.out.below X) aJ
   subst ea;have HX:=Lib.hid hx;have av:I64 x.1:=E.out.2.2.2.2.1 x (List.mem_of_getElem? hx);have aw:U64 x.2:=E.out.2.2.2.1 x (List.mem_of_getElem? hx);obtain⟨x1,x2⟩:=x;dsimp only at p0 p1 av aw;obtain⟨W4,aP,aj,N,aT⟩:=jab wr #[.int .i64 x1,.int .u64 x2] 97;have ab:MapIs W4 b (l.length+k) (jaK l (m.take k)):=I.kept (jav N none) (by simp);have S:=known N (Nat.le_refl _) O;have hP:=jj9 b (l.length+k) f x1 x2 (jaK l (m.take k)) W4 ab av aw (by have:=E.out.2.2.2.2.2.1;omega) (jdG _ _ E.out.1) (jcq _ _ E.out.2.1 (fun c hc=>E.out.2.2.2.1 c (List.mem_of_mem_take hc)));obtain⟨u0,u1⟩:=cl2 aj;obtain⟨v0,v1⟩:=cl2 S;have HG:=Lib.hid (q.trans (jav N (some b)));have HP:=Lib.hid hP;clear hx O d aj S ab I N q hP;go_wp2_with fail;refine HP.out.mono ?_;rintro e w6 ⟨rfl,aG,aF⟩;go_wp2_with fail;go_roundw
   case rel=>exact⟨k+1,by omega,by simp,by rw[jaf HX.out,jrX];exact aG,HG.out.trans aF⟩
   case measure=>simp[intOf];omega
  ·obtain rfl:k=A:=by omega
   rw[List.take_of_length_le (by rw[E.out.2.2.2.2.2.2.2];exact Nat.le_refl _)] at I
   have hD:=jgc b (l.length+k) f (jaK l m) wr I (jdG _ _ E.out.1) (jcq _ _ E.out.2.1 E.out.2.2.2.1) (fun c hc=>by
     rcases jdF m l c hc with h | ⟨y,hy,e⟩ | ⟨y,hy,e⟩
     ·exact E.out.2.2.1 c h
     ·rw[e];exact E.out.2.2.1 y hy
     ·rw[e];exact E.out.2.2.2.2.1 y hy) (by have:=jeT m l;have:=E.out.2.2.2.2.2.1;have:=E.out.2.2.2.2.2.2.2;omega) (by have:=E.out.2.2.2.2.2.1;omega)
   obtain⟨u0,u1⟩:=cl2 O;have HD:=Lib.hid hD;have aD:=Lib.hid d;have ax:=Lib.hid X;clear O d I q X hD;go_wp2_with fail;refine HD.out.mono ?_;rintro e w7 ⟨p,C,B,rfl,ae,ao,ap⟩;obtain⟨Y,V,hV,ak,af,aa⟩:=jqV (rb:=w.heap.size+1+1) f (by omega) (by omega) aD.out ax.out ae ao ap;obtain⟨o0,o1⟩:=cl2 Y;obtain⟨g0,g1⟩:=cz2 Y;obtain⟨j0,j1⟩:=cl2 ak;have HE:Hid (SlC jb4 2 V.heap.size V p C B (jbi (jaK l m))/\Bw w V):=⟨af,aa⟩;clear Y ak af aa ae ao ap;go_wp2_with fail;exact bodyPost_ret (v:=.tuple #[.agg #[.int .i64 f,.slice p C B],.int .i64 0]) (by simp[results,Tryz.f312,go_sem,j0,j1]) rfl ⟨p,C,B,rfl,HE.out.1,HE.out.2⟩
end Go.Proofs.YtnegciklhanmbaaGreatDoor
