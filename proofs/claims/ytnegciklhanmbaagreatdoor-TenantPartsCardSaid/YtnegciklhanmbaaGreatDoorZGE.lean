/- Package cms: change, by told and Add's function. Package cms: change, by all and Lower's function. Package cms: Lower's function. Package hist: put. Package hist: blank, begin. slices.Sorted(maps.Keys(..)) at the keys of a histogram's counts: the kit's contracts, laid at this program by hand. -/
import Derived.Maps.OwnOps
import Derived.Maps.OwnSet
import Derived.Maps.RangeWalk
import Derived.Maps.Ext
import Derived.Shelf.SlIterI.Nil
import Derived.Ground.GgzProg
import Derived.Test.YtnegciklhanmbaaGreatDoorZA7
set_option maxHeartbeats 8000000
set_option maxRecDepth 100000
namespace Go.Proofs.YtnegciklhanmbaaGreatDoor
open Go Go.RowKit Go.Shelf
attribute [local go_sem] Oper.semAt_some
def NumsAt (W:World) (g:Nat) (l:List Int):Prop:=W.heap[g]? = some (.cells (l.map (Value.int .u64)).toArray 22 (0,0))
theorem NumsAt.lt {W:World} {g:Nat} {l:List Int} (h:NumsAt W g l):g<W.heap.size:=(Array.getElem?_eq_some_iff.1 h).1
theorem NumsAt.cell {W:World} {g:Nat} {l:List Int} (h:NumsAt W g l) {j:Nat} (A:j<l.length):W.cell? ⟨g,j,none⟩=some (.int .u64 (l.getD j 0)):=by
 rw[cCc h j];simp[List.getD_eq_getElem?_getD,A]
theorem NumsAt.frozen {W:World} {g:Nat} {l:List Int} (h:NumsAt W g l) (j:Nat):W.frozen? ⟨g,j,none⟩=false:=cFz h j
theorem NumsAt.block {W A:World} {g:Nat} {l:List Int} (h:NumsAt W g l) (hb:A.heap[g]? = W.heap[g]?):NumsAt A g l:=hb.trans h
theorem NumsAt.set {W:World} {g:Nat} {l:List Int} (h:NumsAt W g l) (p:Nat) (x:Int):NumsAt (W.setCell ⟨g,p,none⟩ (.int .u64 x)) g (l.set p x):=by
 have:=hSk (i:=p) h (.int .u64 x);unfold NumsAt;rw[this];congr 2;simp[List.map_set]
theorem jav {W A:World} (h:Bw W A) (row:Option Nat):W.grownBy A row:=⟨h.os,h.tape,h.output,h.size,fun k B _=>h.block k B⟩
def jaX {α:Type} (pl:α->Nat) (F:Nat->Int->Int) (l:List Int) (ps:List α):List Int:=ps.foldl (fun l p=>l.set (pl p) (F (pl p) (l.getD (pl p) 0))) l
theorem jbX {α:Type} (A:α->Nat) (F:Nat->Int->Int):∀ (B:List α) (l:List Int),(jaX A F l B).length=l.length
 | [],_=>rfl
 | p::B,l=>by
  show (jaX A F (l.set (A p) _) B).length=_;rw[jbX A F B,List.length_set]
theorem jeO {α:Type} (D:α->Nat) (F:Nat->Int->Int) (C:∀ p x,U64 x->U64 (F p x)):∀ (B:List α) (l:List Int),jdh l->jdh (jaX D F l B)
 | [],_,h=>h
 | p::B,l,h=>by
  refine jeO D F C B _ (fun x A=>?_);rcases List.mem_or_eq_of_mem_set A with A | rfl
  ·exact h x A
  ·exact C _ _ (jbe l h _)
def CI {α:Type} (pl:α->Nat) (F:Nat->Int->Int) (l:List Int) (g B:Nat) (wv tv:Array Value) (w:World) (pre:List α) (W:World):Prop :=
 NumsAt W g (jaX pl F l pre)/\W.heap[B]? = some (.cells wv 227 (0,0))/\W.heap[B+1]? = some (.cells tv 440 (0,0))/\w.grownBy W (some g)
theorem jqp {α:Type} (Q:α->Nat) (F:Nat->Int->Int) (l:List Int) (g B:Nat) (T S:Array Value) (w:World) (C:Nat) (N:w.heap.size<=C):OwnFrom C (CI Q F l g B T S w):=fun R X Y row P H hr=>by
 obtain⟨I,J,L,M⟩:=P
 have A:∀ (k:Nat) (o:Obj),X.heap[k]? = some o->o.isCells=true->Y.heap[k]? = some o:=fun k o G O=>by
  refine (H.block k (Array.getElem?_eq_some_iff.1 G).1 (fun e=>?_)).trans G;obtain⟨-,U,E,D⟩:=hr k e.symm;rw[G] at E
  cases E
  rw[O] at D
  cases D
 exact⟨A _ _ I rfl,A _ _ J rfl,A _ _ L rfl,M.andThen H (fun j e=>.inl (Nat.le_trans N (hr j e).1))⟩
theorem jta (C:Nat) (p:Nat) (x n:Int) (w:World) (J:w.cell? ⟨C,0,none⟩=some (.int .u64 n)) (I:U64 x) (H:U64 n) :
  CR 297 #[.int .i64 p,.int .u64 x,.pointer (some ⟨C,0,none⟩)] w (.int .u64 (jeb x n)):=by
 obtain⟨D,F,A,B,G⟩:=jab w #[.int .u64 x,.int .u64 n] 22;have E:=jdT w.heap.size x n D (cCc A 0) (cCc A 1) I H;clear A;go_enter Tryz.func297,Tryz.ntmps297;go_wp2_with (go_at_call 298;refine E.mono ?_;rintro e w' ⟨rfl,rfl⟩);go_ret;exact⟨rfl,B⟩
theorem joB (F:Nat->Int->Int) (c h N O E g len cap:Nat) (r:Int) (v:Value) (l:List Int) (w:World)
  (hc:0<c) (af:c<=32) (hh:h<2^64) (hb:w.heap[O]? = some (.cells #[.int .i64 2,.int .i64 c,v] 227 (0,0))) (o:w.heap[E]? = some (.cells #[.int .u64 h] 22 (0,0))) (hg:NumsAt w g l) (hl:l.length=len) (q:jdh l) (M:∀ b∈[O,E],b<w.heap.size/\b≠g)
  (hF:∀ W (p : { n:Nat // n<2*c }) x,w.grownBy W (some g)->U64 x->CR 297 #[.int .i64 (p.1:Nat),.int .u64 x,.pointer (some ⟨N,0,none⟩)] W (.int .u64 (F p.1 x))) (Z:∀ p x,U64 x->U64 (F p x)) (s:∀ p : { n:Nat // n<2*c },p.1<len) :
  Calls Tryz.prog 295 #[.agg #[.int .i64 r,.int .i64 c,.slice (some ⟨g,0,none⟩) len cap],.func (.func 302) #[] #[.pointer (some ⟨O,0,none⟩),.pointer (some ⟨E,0,none⟩)],.func (.func 297) #[] #[.pointer (some ⟨N,0,none⟩)]] w fun e w'=>e=.returned (.tuple #[])/\NumsAt w' g (jaX (fun x : { n:Nat // n<2*c }=>x.1) F l (jdr c h hc))/\w.grownBy w' (some g):=by
 obtain⟨W1,ak,m,f,L,an⟩:=jas w #[.int .i64 r,.int .i64 c,.slice (some ⟨g,0,none⟩) len cap] 227 #[.func (.func 297) #[] #[.pointer (some ⟨N,0,none⟩)]] 440;have ag:=hg.lt;have ah:w.grownBy W1 (some g):=jav L _;have t:=jod O E c h v hc af hh W1 ((L.block _ (M O (by simp)).1).trans hb) ((L.block _ (M E (by simp)).1).trans o);have ae:CI (fun x : { n:Nat // n<2*c }=>x.1) F l g w.heap.size #[.int .i64 r,.int .i64 c,.slice (some ⟨g,0,none⟩) len cap] #[.func (.func 297) #[] #[.pointer (some ⟨N,0,none⟩)]] w [] W1:=⟨hg.block (L.block _ ag),m,f,ah⟩;have V:=Lib.hid hF;have HL:=Lib.hid hl;have ab:=Lib.hid q;have aa:=Lib.hid Z;have ac:=Lib.hid s;clear hF hl q Z s m f hg hb o;refine jaq Tryz.func295 rfl ?_;simp only[Tryz.ntmps295,List.size_toArray,List.length_cons,List.length_nil,Nat.reduceAdd,Nat.reduceSub,Array.replicate_succ,Array.replicate_zero,List.push_toArray,List.append_toArray,List.nil_append,List.cons_append];go_wp2_with fail
 refine jcj [O,E] 6 (fun x : { n:Nat // n<2*c }=>.int .i64 (x.1:Nat)) (gf:=302) (lb:=#[.pointer (some ⟨O,0,none⟩),.pointer (some ⟨E,0,none⟩)]) rfl (enters_of Tryz.func302 (by kernel_rfl) rfl)
  t (fun k hk=>Nat.lt_of_lt_of_le (M k hk).1 (by omega)) (Below.refl _ _) (fun _=>rfl) (CI (fun x : { n:Nat // n<2*c }=>x.1) F l g w.heap.size #[.int .i64 r,.int .i64 c,.slice (some ⟨g,0,none⟩) len cap] #[.func (.func 297) #[] #[.pointer (some ⟨N,0,none⟩)]] w) (jqp _ F l g w.heap.size _ _ w _ (by omega)) ae ?assign ?body ?fin
 case assign =>
  rintro l G x W K hI hK;simp only[List.zip_toArray,List.zip_cons_cons,List.zip_nil_right,List.size_toArray,List.foldl_toArray',List.foldl_cons,List.foldl_nil,List.setIfInBounds_toArray,List.set_cons_succ,List.set_cons_zero] at hK ⊢;gi_wp2;exact hI
 case body =>
  rintro lo G x W ⟨U,hX,hT,d⟩ al;simp only[List.zip_toArray,List.zip_cons_cons,List.zip_nil_right,List.size_toArray,List.foldl_toArray',List.foldl_cons,List.foldl_nil,List.setIfInBounds_toArray,List.set_cons_succ,List.set_cons_zero];have hp:=ac.out x;have J:=jbX (fun x : { n:Nat // n<2*c }=>x.1) F G l;rw[HL.out] at J
  have HS:Hid (jaX (fun x : { n:Nat // n<2*c }=>x.1) F l (G++[x])=(jaX (fun x : { n:Nat // n<2*c }=>x.1) F l G).set x.1 (F x.1 ((jaX (fun x : { n:Nat // n<2*c }=>x.1) F l G).getD x.1 0))):=by
   unfold Hid jaX;rw[List.foldl_append];rfl
  have R:=jeO (fun x : { n:Nat // n<2*c }=>x.1) F aa.out G l ab.out;generalize jaX (fun x : { n:Nat // n<2*c }=>x.1) F l G=r1 at U J HS R;have Q:NumsAt W.drew g r1:=U.block rfl;have S:W.drew.heap[w.heap.size]? = some (.cells #[.int .i64 r,.int .i64 c,.slice (some ⟨g,0,none⟩) len cap] 227 (0,0)):=hX;have i:W.drew.heap[w.heap.size+1]? = some (.cells #[.func (.func 297) #[] #[.pointer (some ⟨N,0,none⟩)]] 440 (0,0)):=hT;have HP:Hid (x.1<r1.length):=by show x.1<r1.length;omega
  have T:=jbe r1 R x.1;have y2:W.drew.cell? ⟨w.heap.size,2,none⟩=some (.slice (some ⟨g,0,none⟩) len cap):=cCc S 2;have y4:W.drew.cell? ⟨w.heap.size+1,0,none⟩=some (.func (.func 297) #[] #[.pointer (some ⟨N,0,none⟩)]):=cCc i 0;have aj:=Q.cell HP.out;have P:Hid (∀ A,NumsAt A g r1->A.cell? ⟨g,x.1,none⟩=some (.int .u64 (r1.getD x.1 0))):=fun A h=>h.cell HP.out
  generalize r1.getD x.1 0=y at aj T HS P;have HF:=Lib.hid (V.out W.drew x _ (jcp d) T);have u:=Lib.hid Q;have z:=Lib.hid S;have HG:=Lib.hid d;have Y:=Lib.hid hX;have X:=Lib.hid hT
  have fin:∀ (a:Act) A,Below W.drew.heap.size W.drew A->NumsAt A g r1->ownPostG W1.heap.size (KL [O,E]) (CI (fun x : { n:Nat // n<2*c }=>x.1) F l g w.heap.size #[.int .i64 r,.int .i64 c,.slice (some ⟨g,0,none⟩) len cap] #[.func (.func 297) #[] #[.pointer (some ⟨N,0,none⟩)]] w) (fun _ _ _=>False) (G++[x]) W   .normal a (A.setCell ⟨g,x.1,none⟩ (.int .u64 (F x.1 y))):=fun _ A C B=>by
   have ad:W.grownBy A (some g):=(jcp (World.grownBy.refl W (some g))).trans (jav C _);have H:=ad.trans (jd9 A g x.1 (.int .u64 (F x.1 y)));refine⟨KeepsFrom.of_grownBy H (fun j e=>by cases e;omega),KL.grown H (fun k hk e=>by cases e;exact (M _ hk).2 rfl),?_,(H.block _ (Array.getElem?_eq_some_iff.1 Y.out).1 (fun e=>by cases e;omega)).trans Y.out,(H.block _ (Array.getElem?_eq_some_iff.1 X.out).1 (fun e=>by cases e;omega)).trans X.out,HG.out.trans H⟩;rw[HS.out];exact B.set _ _
  have am:((x.1:Nat):Int)<len:=by omega
  clear d hX hT U Q S i R T V;gi_wp2_with fail;refine jbE (F:=Fence.wide) rfl (by kernel_rfl) (by kernel_rfl) ?_;change wpAnyIn _ _ _ _ _ _ _ _ _ (World.drew _)
  ·
   refine tai 0 ?_;refine tai 1 ?_;refine tai 3 ?_;refine tai 5 ?_;refine tai 6 ?_;refine tai 7 ?_;refine tai 9 ?_;refine rdi [2,4,8] (.cons rfl (fun K hK=>?_) (.cons rfl (fun K hK=>?_) (.cons rfl (fun K hK=>?_) .nil)))
   all_goals go_simp
   all_goals (refine hK _ _ ?_;clear hK K)
   all_goals first
    | (refine rqi [4,8] (.cons rfl (fun K hK=>?_) (.cons rfl (fun K hK=>?_) .nil)))
    | (refine rqi [2,8] (.cons rfl (fun K hK=>?_) (.cons rfl (fun K hK=>?_) .nil)))
    | (refine tqi 10 (v:=?_) rfl ?_ ?_;rotate_left;(intro w;go_simp;first | done | with_reducible rfl | rw[if_neg (by omega)]);refine rqi [2,4,11] (.cons rfl (fun K hK=>?_) (.cons rfl (fun K hK=>?_) (.cons rfl (fun K hK=>?_) .nil))))
   all_goals go_simp
   all_goals (refine hK _ _ ?_;clear hK K)
   all_goals first
    | (refine rqi [8] (.cons rfl (fun K hK=>?_) .nil))
    | (refine tqi 10 (v:=?_) rfl ?_ ?_;rotate_left;(intro w;go_simp;first | done | with_reducible rfl | rw[if_neg (by omega)]);refine rqi [4,11] (.cons rfl (fun K hK=>?_) (.cons rfl (fun K hK=>?_) .nil)))
    | (refine tqi 10 (v:=?_) rfl ?_ ?_;rotate_left;(intro w;go_simp;first | done | with_reducible rfl | rw[if_neg (by omega)]);refine rqi [2,11] (.cons rfl (fun K hK=>?_) (.cons rfl (fun K hK=>?_) .nil)))
    | (refine rqi [4,11] (.cons rfl (fun K hK=>?_) (.cons rfl (fun K hK=>?_) .nil)))
    | (refine rqi [2,11] (.cons rfl (fun K hK=>?_) (.cons rfl (fun K hK=>?_) .nil)))
    | (refine rqi [2,4] (.cons rfl (fun K hK=>?_) (.cons rfl (fun K hK=>?_) .nil)))
   all_goals go_simp
   all_goals (refine hK _ _ ?_;clear hK K)
   all_goals first
    | (refine tqi 10 (v:=?_) rfl ?_ ?_;rotate_left;(intro w;go_simp;first | done | with_reducible rfl | rw[if_neg (by omega)]);refine rqi [11] (.cons rfl (fun K hK=>?_) .nil))
    | (refine rqi [11] (.cons rfl (fun K hK=>?_) .nil))
    | (refine rqi [4] (.cons rfl (fun K hK=>?_) .nil))
    | (refine rqi [2,12] (.cons rfl (fun K hK=>?_) (.cons rfl (fun K hK=>?_) .nil)))
   all_goals go_simp
   all_goals first
    |
     refine⟨trivial,(callsIn_wide.2 HF.out).mono ?_⟩;rintro e A ⟨rfl,C⟩;have I:=(C.block _ (Array.getElem?_eq_some_iff.1 z.out).1).trans z.out;have B:NumsAt A g r1:=u.out.block (C.block _ u.out.lt);have z2:A.cell? ⟨w.heap.size,2,none⟩=some (.slice (some ⟨g,0,none⟩) len cap):=cCc I 2;have z3:=P.out A B;have z4:=B.frozen x.1;refine hK _ _ ?_;clear hK K I
    | (refine hK _ _ ?_;clear hK K)
   all_goals first
    | (refine rqi [12] (.cons rfl (fun K hK=>?_) .nil))
    | (refine rqi [2] (.cons rfl (fun K hK=>?_) .nil))
   all_goals go_simp
   all_goals first
    |
     refine⟨trivial,(callsIn_wide.2 HF.out).mono ?_⟩;rintro e A ⟨rfl,C⟩;have I:=(C.block _ (Array.getElem?_eq_some_iff.1 z.out).1).trans z.out;have B:NumsAt A g r1:=u.out.block (C.block _ u.out.lt);have z2:A.cell? ⟨w.heap.size,2,none⟩=some (.slice (some ⟨g,0,none⟩) len cap):=cCc I 2;have z3:=P.out A B;have z4:=B.frozen x.1;refine hK _ _ ?_;clear hK K I
    | (refine hK _ _ ?_;clear hK K)
   all_goals (refine tki 13 (v:=?_) rfl ?_ ?_;rotate_left;(intro w;go_simp;first | done | with_reducible rfl | rw[if_neg (by omega)]);refine rdi [14] (.cons rfl (fun K hK=>?_) .nil))
   all_goals go_simp
   all_goals (refine hK _ _ ?_;clear hK K)
   all_goals (refine wpAnyIn_done (by kernel_rfl) ?_ _)
   all_goals
    exact fin { tmps:=#[],defers:=[] } A C B
 case fin =>
  rintro D W hD ⟨U,hX,hT,d⟩ hK;have ai:some g≠some D:=fun e=>by cases e;omega
  refine jau (v:=.tuple #[]) hK (results_none rfl _ _ _) ⟨rfl,?_,?_⟩
  ·exact U.block ((grownBy_putObj' _ D _).block _ U.lt ai)
  ·exact d.andThen (grownBy_putObj' _ D _) (fun j e=>by cases e;exact .inl (by omega))
end Go.Proofs.YtnegciklhanmbaaGreatDoor
namespace Go.Proofs.YtnegciklhanmbaaGreatDoor
open Go Go.RowKit Go.Shelf
attribute [local go_sem] Oper.semAt_some
theorem joC (F:Nat->Int->Int) (O M P g len cap N L:Nat) (r c r2 c2:Int) (sa:Option Addr) (l:List Int) (w:World)
  (H:N<=1000) (hb:w.heap[O]? = some (.cells #[.int .i64 r2,.int .i64 c2,.slice sa N L] 227 (0,0))) (hg:NumsAt w g l) (hl:l.length=len) (q:jdh l) (S:∀ b∈[O],b<w.heap.size/\b≠g)
  (hF:∀ W (p:Fin N) x,w.grownBy W (some g)->U64 x->CR 300 #[.int .i64 (p.1:Nat),.int .u64 x,.pointer (some ⟨M,0,none⟩),.pointer (some ⟨P,0,none⟩)] W (.int .u64 (F p.1 x))) (f:∀ p x,U64 x->U64 (F p x)) (s:∀ p:Fin N,p.1<len) :
  Calls Tryz.prog 295 #[.agg #[.int .i64 r,.int .i64 c,.slice (some ⟨g,0,none⟩) len cap],.func (.func 303) #[] #[.pointer (some ⟨O,0,none⟩)],.func (.func 300) #[] #[.pointer (some ⟨M,0,none⟩),.pointer (some ⟨P,0,none⟩)]] w fun e w'=>e=.returned (.tuple #[])/\NumsAt w' g (jaX (fun x:Fin N=>x.1) F l (List.finRange N))/\w.grownBy w' (some g):=by
 obtain⟨W1,aj,o,m,R,am⟩:=jas w #[.int .i64 r,.int .i64 c,.slice (some ⟨g,0,none⟩) len cap] 227 #[.func (.func 300) #[] #[.pointer (some ⟨M,0,none⟩),.pointer (some ⟨P,0,none⟩)]] 440;have af:=hg.lt;have ag:w.grownBy W1 (some g):=jav R _;have t:=jp3 O r2 c2 sa N L H W1 ((R.block _ (S O (by simp)).1).trans hb);have ae:CI (fun x:Fin N=>x.1) F l g w.heap.size #[.int .i64 r,.int .i64 c,.slice (some ⟨g,0,none⟩) len cap] #[.func (.func 300) #[] #[.pointer (some ⟨M,0,none⟩),.pointer (some ⟨P,0,none⟩)]] w [] W1:=⟨hg.block (R.block _ af),o,m,ag⟩;have Y:=Lib.hid hF;have HL:=Lib.hid hl;have ab:=Lib.hid q;have aa:=Lib.hid f;have ac:=Lib.hid s;clear hF hl q f s o m hg hb;refine jaq Tryz.func295 rfl ?_;simp only[Tryz.ntmps295,List.size_toArray,List.length_cons,List.length_nil,Nat.reduceAdd,Nat.reduceSub,Array.replicate_succ,Array.replicate_zero,List.push_toArray,List.append_toArray,List.nil_append,List.cons_append];go_wp2_with fail
 refine jcj [O] 6 (fun x:Fin N=>.int .i64 (x.1:Nat)) (gf:=303) (lb:=#[.pointer (some ⟨O,0,none⟩)]) rfl (enters_of Tryz.func303 (by kernel_rfl) rfl)
  t (fun k hk=>Nat.lt_of_lt_of_le (S k hk).1 (by omega)) (Below.refl _ _) (fun _=>rfl) (CI (fun x:Fin N=>x.1) F l g w.heap.size #[.int .i64 r,.int .i64 c,.slice (some ⟨g,0,none⟩) len cap] #[.func (.func 300) #[] #[.pointer (some ⟨M,0,none⟩),.pointer (some ⟨P,0,none⟩)]] w) (jqp _ F l g w.heap.size _ _ w _ (by omega)) ae ?assign ?body ?fin
 case assign =>
  rintro l E x W K hI hK;simp only[List.zip_toArray,List.zip_cons_cons,List.zip_nil_right,List.size_toArray,List.foldl_toArray',List.foldl_cons,List.foldl_nil,List.setIfInBounds_toArray,List.set_cons_succ,List.set_cons_zero] at hK ⊢;gi_wp2;exact hI
 case body =>
  rintro lo E x W ⟨X,hX,hT,i⟩ ak;simp only[List.zip_toArray,List.zip_cons_cons,List.zip_nil_right,List.size_toArray,List.foldl_toArray',List.foldl_cons,List.foldl_nil,List.setIfInBounds_toArray,List.set_cons_succ,List.set_cons_zero];have hp:=ac.out x;have J:=jbX (fun x:Fin N=>x.1) F E l;rw[HL.out] at J
  have HS:Hid (jaX (fun x:Fin N=>x.1) F l (E++[x])=(jaX (fun x:Fin N=>x.1) F l E).set x.1 (F x.1 ((jaX (fun x:Fin N=>x.1) F l E).getD x.1 0))):=by
   unfold Hid jaX;rw[List.foldl_append];rfl
  have T:=jeO (fun x:Fin N=>x.1) F aa.out E l ab.out;generalize jaX (fun x:Fin N=>x.1) F l E=r1 at X J HS T;have H:NumsAt W.drew g r1:=X.block rfl;have U:W.drew.heap[w.heap.size]? = some (.cells #[.int .i64 r,.int .i64 c,.slice (some ⟨g,0,none⟩) len cap] 227 (0,0)):=hX;have n:W.drew.heap[w.heap.size+1]? = some (.cells #[.func (.func 300) #[] #[.pointer (some ⟨M,0,none⟩),.pointer (some ⟨P,0,none⟩)]] 440 (0,0)):=hT;have HP:Hid (x.1<r1.length):=by show x.1<r1.length;omega
  have V:=jbe r1 T x.1;have y2:W.drew.cell? ⟨w.heap.size,2,none⟩=some (.slice (some ⟨g,0,none⟩) len cap):=cCc U 2;have y4:W.drew.cell? ⟨w.heap.size+1,0,none⟩=some (.func (.func 300) #[] #[.pointer (some ⟨M,0,none⟩),.pointer (some ⟨P,0,none⟩)]):=cCc n 0;have ai:=H.cell HP.out;have Q:Hid (∀ A,NumsAt A g r1->A.cell? ⟨g,x.1,none⟩=some (.int .u64 (r1.getD x.1 0))):=fun A h=>h.cell HP.out
  generalize r1.getD x.1 0=y at ai V HS Q;have HF:=Lib.hid (Y.out W.drew x _ (jcp i) V);have u:=Lib.hid H;have z:=Lib.hid U;have HG:=Lib.hid i;have d:=Lib.hid hX;have Z:=Lib.hid hT
  have fin:∀ (a:Act) A,Below W.drew.heap.size W.drew A->NumsAt A g r1->ownPostG W1.heap.size (KL [O]) (CI (fun x:Fin N=>x.1) F l g w.heap.size #[.int .i64 r,.int .i64 c,.slice (some ⟨g,0,none⟩) len cap] #[.func (.func 300) #[] #[.pointer (some ⟨M,0,none⟩),.pointer (some ⟨P,0,none⟩)]] w) (fun _ _ _=>False) (E++[x]) W   .normal a (A.setCell ⟨g,x.1,none⟩ (.int .u64 (F x.1 y))):=fun _ A C B=>by
   have ad:W.grownBy A (some g):=(jcp (World.grownBy.refl W (some g))).trans (jav C _);have G:=ad.trans (jd9 A g x.1 (.int .u64 (F x.1 y)));refine⟨KeepsFrom.of_grownBy G (fun j e=>by cases e;omega),KL.grown G (fun k hk e=>by cases e;exact (S _ hk).2 rfl),?_,(G.block _ (Array.getElem?_eq_some_iff.1 d.out).1 (fun e=>by cases e;omega)).trans d.out,(G.block _ (Array.getElem?_eq_some_iff.1 Z.out).1 (fun e=>by cases e;omega)).trans Z.out,HG.out.trans G⟩;rw[HS.out];exact B.set _ _
  have al:((x.1:Nat):Int)<len:=by omega
  clear i hX hT X H U n T V Y;gi_wp2_with fail;refine jbE (F:=Fence.wide) rfl (by kernel_rfl) (by kernel_rfl) ?_;change wpAnyIn _ _ _ _ _ _ _ _ _ (World.drew _)
  ·
   refine tai 0 ?_;refine tai 1 ?_;refine tai 3 ?_;refine tai 5 ?_;refine tai 6 ?_;refine tai 7 ?_;refine tai 9 ?_;refine rdi [2,4,8] (.cons rfl (fun K hK=>?_) (.cons rfl (fun K hK=>?_) (.cons rfl (fun K hK=>?_) .nil)))
   all_goals go_simp
   all_goals (refine hK _ _ ?_;clear hK K)
   all_goals first
    | (refine rqi [4,8] (.cons rfl (fun K hK=>?_) (.cons rfl (fun K hK=>?_) .nil)))
    | (refine rqi [2,8] (.cons rfl (fun K hK=>?_) (.cons rfl (fun K hK=>?_) .nil)))
    | (refine tqi 10 (v:=?_) rfl ?_ ?_;rotate_left;(intro w;go_simp;first | done | with_reducible rfl | rw[if_neg (by omega)]);refine rqi [2,4,11] (.cons rfl (fun K hK=>?_) (.cons rfl (fun K hK=>?_) (.cons rfl (fun K hK=>?_) .nil))))
   all_goals go_simp
   all_goals (refine hK _ _ ?_;clear hK K)
   all_goals first
    | (refine rqi [8] (.cons rfl (fun K hK=>?_) .nil))
    | (refine tqi 10 (v:=?_) rfl ?_ ?_;rotate_left;(intro w;go_simp;first | done | with_reducible rfl | rw[if_neg (by omega)]);refine rqi [4,11] (.cons rfl (fun K hK=>?_) (.cons rfl (fun K hK=>?_) .nil)))
    | (refine tqi 10 (v:=?_) rfl ?_ ?_;rotate_left;(intro w;go_simp;first | done | with_reducible rfl | rw[if_neg (by omega)]);refine rqi [2,11] (.cons rfl (fun K hK=>?_) (.cons rfl (fun K hK=>?_) .nil)))
    | (refine rqi [4,11] (.cons rfl (fun K hK=>?_) (.cons rfl (fun K hK=>?_) .nil)))
    | (refine rqi [2,11] (.cons rfl (fun K hK=>?_) (.cons rfl (fun K hK=>?_) .nil)))
    | (refine rqi [2,4] (.cons rfl (fun K hK=>?_) (.cons rfl (fun K hK=>?_) .nil)))
   all_goals go_simp
   all_goals (refine hK _ _ ?_;clear hK K)
   all_goals first
    | (refine tqi 10 (v:=?_) rfl ?_ ?_;rotate_left;(intro w;go_simp;first | done | with_reducible rfl | rw[if_neg (by omega)]);refine rqi [11] (.cons rfl (fun K hK=>?_) .nil))
    | (refine rqi [11] (.cons rfl (fun K hK=>?_) .nil))
    | (refine rqi [4] (.cons rfl (fun K hK=>?_) .nil))
    | (refine rqi [2,12] (.cons rfl (fun K hK=>?_) (.cons rfl (fun K hK=>?_) .nil)))
   all_goals go_simp
   all_goals first
    |
     refine⟨trivial,(callsIn_wide.2 HF.out).mono ?_⟩;rintro e A ⟨rfl,C⟩;have I:=(C.block _ (Array.getElem?_eq_some_iff.1 z.out).1).trans z.out;have B:NumsAt A g r1:=u.out.block (C.block _ u.out.lt);have z2:A.cell? ⟨w.heap.size,2,none⟩=some (.slice (some ⟨g,0,none⟩) len cap):=cCc I 2;have z3:=Q.out A B;have z4:=B.frozen x.1;refine hK _ _ ?_;clear hK K I
    | (refine hK _ _ ?_;clear hK K)
   all_goals first
    | (refine rqi [12] (.cons rfl (fun K hK=>?_) .nil))
    | (refine rqi [2] (.cons rfl (fun K hK=>?_) .nil))
   all_goals go_simp
   all_goals first
    |
     refine⟨trivial,(callsIn_wide.2 HF.out).mono ?_⟩;rintro e A ⟨rfl,C⟩;have I:=(C.block _ (Array.getElem?_eq_some_iff.1 z.out).1).trans z.out;have B:NumsAt A g r1:=u.out.block (C.block _ u.out.lt);have z2:A.cell? ⟨w.heap.size,2,none⟩=some (.slice (some ⟨g,0,none⟩) len cap):=cCc I 2;have z3:=Q.out A B;have z4:=B.frozen x.1;refine hK _ _ ?_;clear hK K I
    | (refine hK _ _ ?_;clear hK K)
   all_goals (refine tki 13 (v:=?_) rfl ?_ ?_;rotate_left;(intro w;go_simp;first | done | with_reducible rfl | rw[if_neg (by omega)]);refine rdi [14] (.cons rfl (fun K hK=>?_) .nil))
   all_goals go_simp
   all_goals (refine hK _ _ ?_;clear hK K)
   all_goals (refine wpAnyIn_done (by kernel_rfl) ?_ _)
   all_goals
    exact fin { tmps:=#[],defers:=[] } A C B
 case fin =>
  rintro D W hD ⟨X,hX,hT,i⟩ hK;have ah:some g≠some D:=fun e=>by cases e;omega
  refine jau (v:=.tuple #[]) hK (results_none rfl _ _ _) ⟨rfl,?_,?_⟩
  ·exact X.block ((grownBy_putObj' _ D _).block _ X.lt ah)
  ·exact i.andThen (grownBy_putObj' _ D _) (fun j e=>by cases e;exact .inl (by omega))
end Go.Proofs.YtnegciklhanmbaaGreatDoor
namespace Go.Proofs.YtnegciklhanmbaaGreatDoor
open Go Go.RowKit Go.Shelf
theorem jiL {α:Type} (A:α->Nat) (F:Nat->Int->Int) (E:∀ p x y,F p x=F p y):∀ (C:List α) (l:List Int) (i:Nat),(jaX A F l C).getD i 0=if i∈C.map A/\i<l.length then F i 0 else l.getD i 0
 | [],l,i=>by simp[jaX]
 | p::C,l,i=>by
  show (jaX A F (l.set (A p) (F (A p) (l.getD (A p) 0))) C).getD i 0=_;rw[jiL A F E C,List.length_set,jld];by_cases D:i∈C.map A/\i<l.length
  ·rw[if_pos D,if_pos ⟨List.mem_cons_of_mem _ D.1,D.2⟩]
  ·rw[if_neg D]
   by_cases B:A p=i/\i<l.length
   ·rw[if_pos B,if_pos ⟨by rw[List.map_cons,B.1];exact List.mem_cons_self,B.2⟩,B.1]
    exact E _ _ _
   ·rw[if_neg B,if_neg (fun h=>?_)]
    rcases List.mem_cons.1 h.1 with e | e
    ·exact B ⟨e.symm,h.2⟩
    ·exact D ⟨e,h.2⟩
def jvn (c:Nat) (l:List Int) (p:Nat) (_:Int):Int:=jeb (l.getD (p / (c / 2)*c+p % (c / 2)) 0) (l.getD (p / (c / 2)*c+p % (c / 2)+c / 2) 0)
theorem joz (c:Nat) (l:List Int):jaX (fun x:Fin (2*(c / 2))=>x.1) (jvn c l) (List.replicate (2*(c / 2)) 0) (List.finRange (2*(c / 2)))=jf7 c l:=by
 refine jlc _ _ (by rw[jbX,jhn];simp;omega) (fun i A=>?_);rw[jbX,List.length_replicate] at A;have B:i∈(List.finRange (2*(c / 2))).map (fun x:Fin (2*(c / 2))=>x.1):=List.mem_map.2 ⟨⟨i,A⟩,List.mem_finRange _,rfl⟩;rw[jiL _ _ (fun p x y=>rfl),jtO _ _ _ (by omega),if_pos ⟨B,by simpa using A⟩];rfl
theorem jun (c L U p:Nat) (I:Int) (l:List Int) (a:Option Addr) (len cap:Nat) (v:Value) (w:World) (X:c=8\/c=16\/c=32) (z:p<2*(c / 2)) (t:l.length=2*c) (E:jdh l) (M:SlE jaF 1 w.heap.size w a len l)
  (i:w.heap[L]? = some (.cells #[.int .i64 2,.int .i64 ((c / 2:Nat):Int),v] 227 (0,0))) (hx:w.heap[U]? = some (.cells #[.int .i64 2,.int .i64 c,.slice a len cap] 39 (0,0))) :
  CR 300 #[.int .i64 p,.int .u64 I,.pointer (some ⟨L,0,none⟩),.pointer (some ⟨U,0,none⟩)] w (.int .u64 (jvn c l p I)):=by
 obtain⟨q,F⟩:∃ q,p / (c / 2)*c+p % (c / 2)=q:=⟨_,rfl⟩;obtain⟨d,Q⟩:∃ d,c / 2=d:=⟨_,rfl⟩;have ai:q+d<len:=by rw[M.1,t,<- F,<- Q];rcases X with rfl | rfl | rfl<;>simp only[Nat.reduceDiv] at z ⊢<;>omega
 have j:=M.1;obtain⟨x,G⟩:∃ x,l[q]? = some x:=⟨_,List.getElem?_eq_getElem (by omega)⟩;obtain⟨y,H⟩:∃ y,l[q+d]? = some y:=⟨_,List.getElem?_eq_getElem (by omega)⟩;have r:jvn c l p I=jeb x y:=by unfold jvn;rw[F,Q,List.getD_eq_getElem?_getD,G,List.getD_eq_getElem?_getD,H];rfl
 rw[r];have k:U64 x:=E x (List.mem_of_getElem? G);have m:U64 y:=E y (List.mem_of_getElem? H);obtain⟨B,off,rfl,ad,O⟩:=M.2 q x G;obtain⟨ac,ab,e2,-,P⟩:=M.2 (q+d) y H
 cases e2
 have n:w.cell? ⟨B,off+q,none⟩=some (.int .u64 x):=by have g:=O 0 (by omega);rwa [Nat.mul_one] at g
 have T:w.cell? ⟨B,off+(q+d),none⟩=some (.int .u64 y):=by have g:=P 0 (by omega);rwa [Nat.mul_one] at g
 have R:(d=4/\c=8)\/(d=8/\c=16)\/(d=16/\c=32):=by omega
 have af:1<=d/\d<=16:=by clear F;omega
 have s:c<=32:=by clear F;omega
 have u:len<=64:=by clear F;omega
 have S:wrap64 (wrap64 (wrap64 ((p:Int) / (d:Int))*(c:Int))+(p:Int) % (d:Int))=(q:Int):=by
  have hb:p / d*c<=32/\p % d<=16/\p / d<=32:=by rcases R with⟨rfl,rfl⟩ | ⟨rfl,rfl⟩ | ⟨rfl,rfl⟩<;>omega
  rw[show (p:Int) / (d:Int)=((p / d:Nat):Int) by rw[Int.natCast_ediv],jbr (p / d) (by omega),<- Int.natCast_mul,jbr _ (by omega),show (p:Int) % (d:Int)=((p % d:Nat):Int) by rw[Int.natCast_emod],<- Int.natCast_add,jbr _ (by omega),<- F,Q]
 rw[Q] at i;clear F Q X R z t j;have ae:(0:Int)<d:=by omega
 have aj:(q:Int)<len:=by omega
 have aa:(q:Int)+d<len:=by omega
 obtain⟨f0,Z,f2⟩:=cl3 i;obtain⟨g0,g1,f⟩:=cl3 hx;clear O P i hx M r E;go_enter Tryz.func300,Tryz.ntmps300;go_wp2_with fail;go_quiet (fail);go_wp2_with fail;rw[S];have C:Bw w (w.drewN nq):=bDr (Below.refl _ _) nq;obtain⟨A,N⟩:∃ A,w.drewN nq=A:=⟨_,rfl⟩;rw[N] at C ⊢;have T:w.cell? ⟨B,off+((q:Int)+(d:Int)).toNat,none⟩=some (.int .u64 y):=by rw[show ((q:Int)+(d:Int)).toNat=q+d by omega];exact T
 have Y:Hid (∀ W,Bw A W->W.cell? ⟨L,1,none⟩=some (.int .i64 d)/\W.cell? ⟨U,2,none⟩=some (.slice (some ⟨B,off,none⟩) len cap)/\W.cell? ⟨B,off+q,none⟩=some (.int .u64 x)/\W.cell? ⟨B,off+((q:Int)+(d:Int)).toNat,none⟩=some (.int .u64 y)/\Bw A W):=fun W h=>by
  have V:=C.trans (h.mono C.size);have D:∀ b o v,w.cell? ⟨b,o,none⟩=some v->b<w.heap.size:=fun b o v X=>World.block_lt_of_cell? w _ X
  exact⟨(V.cell (p:=⟨L,1,none⟩) (D _ _ _ Z)).trans Z,(V.cell (p:=⟨U,2,none⟩) (D _ _ _ f)).trans f,(V.cell (p:=⟨B,off+q,none⟩) (D _ _ _ n)).trans n,(V.cell (p:=⟨B,off+((q:Int)+(d:Int)).toNat,none⟩) (D _ _ _ T)).trans T,h⟩
 obtain⟨m0,m1,m2,m3,mB⟩:=Y.out A (Below.refl _ _);have HT:Hid (Calls Tryz.prog 298 #[.slice (some ⟨A.heap.size,0,none⟩) 2 2] (A.alloc (.cells #[.int .u64 x,.int .u64 y] 22)).drew fun e w'=>e=.returned (.int .u64 (jeb x y))/\w'=(A.alloc (.cells #[.int .u64 x,.int .u64 y] 22)).drew):=jdT A.heap.size x y _ (cCc (W:=A.alloc _) (World.alloc_heap_new A _) 0) (cCc (W:=A.alloc _) (World.alloc_heap_new A _) 1) k m;have J:=Lib.hid C;have ak:IntKind.i64.wrap ((q:Int)+(d:Int))=(q:Int)+(d:Int):=IntWalk.i64_in _ (by omega);have ag:(0:Int)<=q:=by omega
 have ah:(0:Int)<=(q:Int)+d:=by omega
 clear N n T f0 Z f2 g0 g1 f S C
 go_region_held3 (fun w'=>w'.cell? ⟨L,1,none⟩=some (.int .i64 d)/\w'.cell? ⟨U,2,none⟩=some (.slice (some ⟨B,off,none⟩) len cap)/\w'.cell? ⟨B,off+q,none⟩=some (.int .u64 x)/\w'.cell? ⟨B,off+((q:Int)+(d:Int)).toNat,none⟩=some (.int .u64 y)/\Bw A w')
  (first
   | exact Y.out _ (Below.refl _ _).drew
   | (go_split_ands;refine Y.out _ ?_;first | assumption | exact Below.alloc (by assumption) (Below.size (by assumption)) _ | exact Below.drew (by assumption) | exact Below.trans (by assumption) (Below.mono (by assumption) (Below.size (by assumption)))))
  (first
   | (go_at_call 298;refine HT.out.mono ?_;rintro e w5 ⟨rfl,rfl⟩))
 go_wp2_with fail;go_ret;exact⟨rfl,J.out.trans (((Below.refl _ A).alloc (Nat.le_refl _) _).drew.mono J.out.size)⟩
end Go.Proofs.YtnegciklhanmbaaGreatDoor
namespace Go.Proofs.YtnegciklhanmbaaGreatDoor
open Go Go.RowKit Go.Shelf Go.Maps
theorem jwq:Keyed Tryz.prog 3:=int_keyed Tryz.underlying3
theorem je6:Tryz.prog.underlying 448=some (.map 3 22):=by kernel_rfl
theorem jx3 (w:World):(zeroValue 22).run Tryz.prog w=.ok (.int .u64 0) w:=by kernel_rfl
def MapIs (W:World) (b K:Nat) (l:List (Int × Int)):Prop:=∃ (nn:Nat) (D:DataW Unit),W.ownsMap Tryz.prog 3 (plainElem Tryz.prog 22) b nn D/\nn<=K/\∀ p z,D.atKey (.int .i64 p) z=match jbI l p with
 | some x=>.lit (.int .u64 x)
 | none=>z
theorem MapIs.kept {W B:World} {b K:Nat} {l:List (Int × Int)} {row:Option Nat} (h:MapIs W b K l) (F:W.grownBy B row) (A:some b≠row):MapIs B b K l:=by
 obtain⟨G,D,C,E⟩:=h;exact⟨G,D,C.kept F A,E⟩
theorem MapIs.lt {W:World} {b K:Nat} {l:List (Int × Int)} (h:MapIs W b K l):b<W.heap.size:=by
 obtain⟨C,D,A,B⟩:=h;exact A.lt
theorem jvh {p:Int} (h:I64 p):(Lit.int .i64 p).wf=true:=WalkArith.wf_i64 h
theorem jxE {p:Int} (h:U64 p):(Lit.int .u64 p).wf=true:=by unfold U64 at h;simp[Lit.wf,IntKind.min,IntKind.max,IntKind.signed,IntKind.bits];omega
def jcM (l:List (Int × Int)) (p:Int):Int:=(jbI l p).getD 0
theorem MapIs.look {W:World} {b K:Nat} {l:List (Int × Int)} (h:MapIs W b K l) {p:Int} (E:I64 p):(Instr.lookup 448 (.map (some b)) (.int .i64 p) false).run Tryz.prog W=.ok (.int .u64 (jcM l p)) W:=by
 obtain⟨G,D,B,F,C⟩:=h;obtain⟨c,hr,A,-⟩:=B.lookup_int (key:=.int .i64 p) jwq je6 Tryz.underlying22 (jx3 W) (keyOf_int_mk Tryz.underlying3 (jvh E));rw[C] at A
 have e:c=jcM l p:=by
  unfold jcM
  cases hb:jbI l p with
  | none=>rw[hb] at A;simpa using A.symm
  | some x=>rw[hb] at A;simpa using A.symm
 rw[<- e];exact hr
theorem MapIs.update {W:World} {b K:Nat} {l:List (Int × Int)} (h:MapIs W b K l) {p n:Int} (I:I64 p) (E:U64 n) (hK:K<=5000) (J:jbA l) (A:jbl l):∃ w',(Instr.mapUpdate 448 (.map (some b)) (.int .i64 p) (.int .u64 (jeb (jcM l p) n))).run Tryz.prog W=.ok () w'/\MapIs w' b (K+1) (jaP l p n)/\W.grownBy w' (some b):=by
 obtain⟨M,D,C,N,F⟩:=h
 have L:U64 (jeb (jcM l p) n):=by
  refine jcT _ _ ?_ E;unfold jcM
  cases hb:jbI l p with
  | none=>exact jsD
  | some x=>exact jkQ A hb
 obtain⟨w',hr,H,G⟩:=C.update (key:=.int .i64 p) jwq je6 (by unfold maxLen;omega) (keyOf_int_mk Tryz.underlying3 (jvh I)) (plainElem_int Tryz.underlying22 (jxE L));refine⟨w',hr,⟨M+1,_,H,by omega,fun q z=>?_⟩,G⟩;rw[jkP l p n q J];by_cases B:q=p
 ·subst B
  rw[if_pos rfl,atKey_put_same (k:=.int .i64 q) (C.tidy jwq).isMap trivial];unfold jw8 jcM
  cases jbI l q with
  | none=>simp only[Option.getD_none];rw[jxy n E]
  | some x=>rfl
 ·rw[if_neg B,atKey_put_other (by simpa using B)]
  exact F q z
theorem jj9 (b K:Nat) (f:Int) (p n:Int) (l:List (Int × Int)) (w:World) (S:MapIs w b K l) (U:I64 p) (T:U64 n) (hK:K<=5000) (a:jbA l) (hb:jbl l) :
  Calls Tryz.prog 315 #[.agg #[.map (some b),.int .i64 f],.int .i64 p,.int .u64 n] w fun e w'=>e=.returned (.tuple #[])/\MapIs w' b (K+1) (jaP l p n)/\w.grownBy w' (some b):=by
 obtain⟨C,c,N,D,V⟩:=jab w #[.map (some b),.int .i64 f] 450;have d:=S.lt
 have Y:U64 (jcM l p):=by
  unfold jcM
  cases h:jbI l p with
  | none=>exact jsD
  | some x=>exact jkQ hb h
 have E:MapIs C.drew b K l:=S.kept (jcp (jav D none)) (by simp);have R:=E.look U;obtain⟨P,M,F,A,g⟩:=jab C.drew #[.int .u64 (jcM l p),.int .u64 n] 22;have J:MapIs P b K l:=E.kept (jav A none) (by simp);obtain⟨Q,X,L,I⟩:=J.update U T hK a hb;have H:=Lib.hid (jfP C.drew.heap.size (jcM l p) n P (cCc F 0) (cCc F 1) Y T);rw[show C.drew.heap.size=w.heap.size+1 from V] at H;have B:Hid ((C.alloc (.cells #[.int .u64 (jcM l p),.int .u64 n] 22)).drew=P):=by rw[Hid,<- M];rfl
 have G:C.drew.heap[w.heap.size]? = some (.cells #[.map (some b),.int .i64 f] 450 (0,0)):=N;have O:=known A (Nat.le_refl _) G;have j:C.drew.cell? ⟨w.heap.size,0,none⟩=some (.map (some b)):=cCc G 0;have k:P.cell? ⟨w.heap.size,0,none⟩=some (.map (some b)):=cCc O 0;have Z:w.grownBy Q (some b):=((jcp (jav D (some b))).trans (jav A (some b))).trans I;have fin:Ending.returned (.tuple #[])=Ending.returned (.tuple #[])/\MapIs Q b (K+1) (jaP l p n)/\w.grownBy Q (some b):=⟨rfl,L,Z⟩;generalize jeb (jcM l p) n=s at X H;generalize jcM l p=x at R H B Y;clear S E J L I Z G O N F D A M U T a hb Y;go_enter Tryz.func315,Tryz.ntmps315;go_wp2_with fail;refine wp_region_any (by kernel_rfl) ?_;change wpAny _ _ _ _ _ _ _ (World.drew _)
 ·
  refine ta 0 ?_;refine ta 2 ?_;refine ta 3 ?_;refine ta 5 ?_;refine ta 7 ?_;refine rd [1,4] (.cons rfl (fun K hK=>?_) (.cons rfl (fun K hK=>?_) .nil))
  all_goals go_simp
  all_goals (refine hK _ _ ?_;clear hK K)
  all_goals first
   | (refine rq [4] (.cons rfl (fun K hK=>?_) .nil))
   | (refine rq [1,6] (.cons rfl (fun K hK=>?_) (.cons rfl (fun K hK=>?_) .nil)))
  all_goals go_simp
  all_goals (refine hK _ _ ?_;clear hK K)
  all_goals first
   | (refine rq [6] (.cons rfl (fun K hK=>?_) .nil))
   | (refine rq [1,8] (.cons rfl (fun K hK=>?_) (.cons rfl (fun K hK=>?_) .nil)))
  all_goals go_simp
  all_goals first
   |
    rw[B.out];refine hK _ _ ?_;clear hK K
   | (refine hK _ _ ?_;clear hK K)
  all_goals first
   | (refine rq [8] (.cons rfl (fun K hK=>?_) .nil))
   | (refine rq [1,9] (.cons rfl (fun K hK=>?_) (.cons rfl (fun K hK=>?_) .nil)))
  all_goals go_simp
  all_goals first
   |
    rw[B.out];refine hK _ _ ?_;clear hK K
   |
    refine H.out.mono ?_;rintro e i ⟨rfl,rfl⟩;refine hK _ _ ?_;clear hK K
   | (refine hK _ _ ?_;clear hK K)
  all_goals first
   | (refine rq [9] (.cons rfl (fun K hK=>?_) .nil))
   | (refine rq [1] (.cons rfl (fun K hK=>?_) .nil))
  all_goals go_simp
  all_goals first
   |
    refine H.out.mono ?_;rintro e i ⟨rfl,rfl⟩;refine hK _ _ ?_;clear hK K
   | (refine hK _ _ ?_;clear hK K)
  all_goals (refine rd [10] (.cons rfl (fun K hK=>?_) .nil))
  all_goals go_simp
  all_goals (refine hK _ _ ?_;clear hK K)
  all_goals (refine wpAny_done (by kernel_rfl) ?_ _)
  all_goals
   go_end0;exact⟨rfl,fin.2⟩
end Go.Proofs.YtnegciklhanmbaaGreatDoor
namespace Go.Proofs.YtnegciklhanmbaaGreatDoor
open Go Go.RowKit Go.Shelf Go.Maps
theorem jmm (a:List (Int × Int)) (b:Int × Int) (h:jbA (a++[b])):jaP a b.1 b.2=a++[b]:=jhC [b] a h
theorem jrw (w:World):MapIs (w.alloc (.map #[] 0)) w.heap.size 0 []:=⟨0,_,World.ownsMap_made _ _ _ _,Nat.le_refl _,fun _ _=>rfl⟩
theorem jiR (f:Nat) (w:World) (P:f<=3) :
  Calls Tryz.prog 319 #[.int .i64 f] w fun e w'=>∃ b,e=.returned (.tuple #[.agg #[.map (some b),.int .i64 f],.nilIface])/\MapIs w' b 0 []/\w.heap.size<=b/\Bw w w':=by
 have L:=jlm f P;have Q:=@run_makeMap Tryz.prog;obtain⟨N,O,I,C,M⟩:=jab w #[.map none,.int .i64 0] 450;obtain⟨B,D⟩:∃ B,N.alloc (.map #[] 0)=B:=⟨_,rfl⟩;have G:MapIs B (w.heap.size+1) 0 []:=by rw[<- D,<- M];exact jrw N
 have A:B.heap[w.heap.size]? = some (.cells #[.map none,.int .i64 0] 450 (0,0)):=by rw[<- D];exact (Below.heap_alloc _ _ _ (by omega)).trans I
 have E:Bw w B:=by rw[<- D];exact C.alloc C.size _
 obtain⟨T,U⟩:=cl2 A;obtain⟨X,Y⟩:=cz2 A;have J:=jbq (u:=.map (some (w.heap.size+1))) (v:=.int .i64 f) A;have F:=(E.setCell (p:=⟨w.heap.size,0,none⟩) (Nat.le_refl _) (.map (some (w.heap.size+1)))).setCell (p:=⟨w.heap.size,1,none⟩) (Nat.le_refl _) (.int .i64 f);have H:=(G.kept (jd9 B w.heap.size 0 (.map (some (w.heap.size+1)))) (by simp)).kept (jd9 _ w.heap.size 1 (.int .i64 f)) (by simp);clear I A C E G;go_enter Tryz.func319,Tryz.ntmps319;go_wp2_with (first | (go_at_call 201;refine (L _).mono ?_;rintro e w' ⟨rfl,rfl⟩) | fail);generalize (B.setCell ⟨w.heap.size,0,none⟩ (.map (some (w.heap.size+1)))).setCell ⟨w.heap.size,1,none⟩ (.int .i64 f)=V at J F H ⊢;obtain⟨R,S⟩:=cl2 J;exact bodyPost_ret (v:=.tuple #[.agg #[.map (some (w.heap.size+1)),.int .i64 f],.nilIface]) (by simp[results,Tryz.f319,go_sem,R,S]) rfl ⟨_,rfl,H,Nat.le_succ _,F⟩
theorem jhz (f:Nat) (l:List (Int × Int)) (a:Option Addr) (len cap:Nat) (w:World) (hf:f<=3) (hL:SlE jb4 2 w.heap.size w a len l) (hr:jaR f l=true) (hu:jbA l) (s:jbl l) (O:len<=1000) (hp:∀ b∈l,I64 b.1) (hm:len<=maxLen) :
  Calls Tryz.prog 313 #[.agg #[.int .i64 f,.slice a len cap]] w fun e w'=>∃ b,e=.returned (.tuple #[.agg #[.map (some b),.int .i64 f],.nilIface])/\MapIs w' b l.length l/\w.heap.size<=b/\Bw w w':=by
 have hR:Hid (∀ z,Bw w z->CR 174 #[.agg #[.int .i64 f,.slice a len cap]] z (.bool true)):=fun z hb=>(jbN f l a len cap z ((hL.below hb).mono hb.size) hm (fun b hb=>(hp b hb).2)).mono fun e w' h=>⟨by rw[h.1,hr],h.2⟩
 have hB:=fun w=>jiR f w hf
 obtain⟨W0,ai,R,n,Y,an⟩:=jas w #[.int .i64 f,.slice a len cap] 42 #[.map none,.int .i64 0] 450;have aa:=Lib.hid n;have ab:=Lib.hid R;obtain⟨z0,z1⟩:=cl2 R;clear n R;go_enter Tryz.func313,Tryz.ntmps313;go_wp2_with fail;refine (hR.out _ Y).mono ?_;rintro e z ⟨rfl,A⟩;have D:=known A (Nat.le_refl _) ab.out;obtain⟨y0,y1⟩:=cl2 D;go_wp2_with fail;refine (hB _).mono ?_;rintro e w2 ⟨b,rfl,S,al,B⟩;obtain⟨W3,aj,o,C,ao⟩:=jab w2 #[.map (some b),.int .i64 f] 450;have am:=S.lt;have ah:=A.size;have J:=B.size;have L:=known (B.trans (C.mono J)) (Nat.le_refl _) D;have M:=known (B.trans (C.mono J)) (Nat.le_refl _) (known A (Nat.le_refl _) aa.out);have ad:MapIs W3 b 0 []:=S.kept (jav C none) (by simp);have I:Bw w W3:=(Y.trans (A.mono (by omega))).trans ((B.mono (by omega)).trans (C.mono (by omega)));have U:=Lib.hid o;have X:=Lib.hid M;obtain⟨q0,q1⟩:=cl2 L;have HL:=Lib.hid hL;have P:Hid (jbA l/\jbl l/\(∀ b∈l,I64 b.1)/\len<=1000/\len=l.length):=⟨hu,s,hp,O,hL.1⟩;have H:=Lib.hid I;clear D L M o C B A S hL hu s hp hr hm I;have af:=O;go_wp2_with fail;go_loopw [7,23] (fun _ i wr=>∃ k:Nat,k<=len/\i=.int .i64 k/\MapIs wr b k (l.take k)/\W3.grownBy wr (some b)) (fun _ i _=>len-(intOf i).toNat)
 case atStart=>exact⟨0,Nat.zero_le _,rfl,ad,World.grownBy.refl _ _⟩
 case round =>
  obtain⟨k,hk,rfl,hM,T⟩:=hrel;have G:=(T.block _ (Array.getElem?_eq_some_iff.1 U.out).1 (fun e=>by cases e;omega)).trans U.out;have E:=(T.block _ (Array.getElem?_eq_some_iff.1 X.out).1 (fun e=>by cases e;omega)).trans X.out;have Q:Bw w wr:=H.out.grown T H.out.size (fun j e=>by cases e;omega);by_cases ag:k<len
  ·obtain⟨x,b1,o1,hx,ea,A,p0,p1⟩:=jc1 (HL.out.below Q) ag
   subst ea;have HX:=Lib.hid hx;have t:I64 x.1:=P.out.2.2.1 x (List.mem_of_getElem? hx);have y:U64 x.2:=P.out.2.1 x (List.mem_of_getElem? hx);obtain⟨x1,x2⟩:=x;dsimp only at p0 p1 t y;obtain⟨W4,ak,q,F,ap⟩:=jab wr #[.int .i64 x1,.int .u64 x2] 97;have d:MapIs W4 b k (l.take k):=hM.kept (jav F none) (by simp);have N:=known F (Nat.le_refl _) G;have hP:=jj9 b k f x1 x2 (l.take k) W4 d t y (by omega) (P.out.1.sublist (List.take_sublist _ _)) (fun c hc=>P.out.2.1 c (List.mem_of_mem_take hc));obtain⟨u0,u1⟩:=cl2 q;obtain⟨v0,v1⟩:=cl2 N;have HG:=Lib.hid (T.trans (jav F (some b)));clear hx G E q N d hM F T;go_wp2_with fail;refine hP.mono ?_;rintro e w6 ⟨rfl,ae,ac⟩;go_wp2_with fail;go_roundw
   case rel=>exact⟨k+1,by omega,by simp,by rw[jaf HX.out,<- jmm _ _ (by rw[<- jaf HX.out];exact P.out.1.sublist (List.take_sublist _ _))];exact ae,HG.out.trans ac⟩
   case measure=>simp[intOf];omega
  ·obtain rfl:k=len:=by omega
   have m:MapIs wr b l.length l:=by have:=hM;rwa [List.take_of_length_le (by rw[P.out.2.2.2.2];exact Nat.le_refl _),P.out.2.2.2.2] at this
   obtain⟨u0,u1⟩:=cl2 G;obtain⟨o0,o1⟩:=cl2 E;obtain⟨g0,g1⟩:=cz2 E;have r:=jbq (u:=.map (some b)) (v:=.int .i64 f) E;have Z:=(Q.setCell (p:=⟨w.heap.size+1,0,none⟩) (Nat.le_succ _) (.map (some b))).setCell (p:=⟨w.heap.size+1,1,none⟩) (Nat.le_succ _) (.int .i64 f);have g:=(m.kept (jd9 wr (w.heap.size+1) 0 (.map (some b))) (by simp;omega)).kept (jd9 _ (w.heap.size+1) 1 (.int .i64 f)) (by simp;omega);clear G E hM m T Q;go_wp2_with fail;generalize (wr.setCell ⟨w.heap.size+1,0,none⟩ (.map (some b))).setCell ⟨w.heap.size+1,1,none⟩ (.int .i64 f)=V at r Z g ⊢;obtain⟨j0,j1⟩:=cl2 r;exact bodyPost_ret (v:=.tuple #[.agg #[.map (some b),.int .i64 f],.nilIface]) (by simp[results,Tryz.f313,go_sem,j0,j1]) rfl ⟨b,rfl,g,by omega,Z⟩
end Go.Proofs.YtnegciklhanmbaaGreatDoor
namespace Go.Proofs
open Go.RowKit Go.Maps Go.Sort Go.Shelf
def Tryz.keysA_ren:Go.Shelf.Ren:=⟨fun | 7=>322 | 10=>326 | n=>n,fun | 23=>448 | 26=>3 | 3=>22 | 28=>349 | 0=>0 | 27=>348 | 33=>161 | 4=>4 | n=>n,fun | n=>n⟩
theorem Tryz.keysA:Go.Proofs.SlLaysZI.n7 Tryz.prog Tryz.keysA_ren:={
 mixed:=by kernel_rfl
 f7:=⟨Tryz.f322.name,by decide,Tryz.func322.trans (congrArg some (by kernel_rfl))⟩
 f10:=⟨Tryz.f326.name,by decide,Tryz.func326.trans (congrArg some (by kernel_rfl))⟩
 t0:=by kernel_rfl
 a0:=fun w=>by kernel_rfl
 z0:=fun w=>by kernel_rfl
 v0:=fun w=>by kernel_rfl
 t4:=by kernel_rfl
 a4:=fun w=>by kernel_rfl
 z4:=fun w=>by kernel_rfl
 v4:=fun w=>by kernel_rfl
 t23:=by kernel_rfl
 a23:=fun w=>by kernel_rfl
 z23:=fun w=>by kernel_rfl
 v23:=fun w=>by kernel_rfl
 t26:=by kernel_rfl
 a26:=fun w=>by kernel_rfl
 z26:=fun w=>by kernel_rfl
 v26:=fun w=>by kernel_rfl
 t27:=by kernel_rfl
 a27:=fun w=>by kernel_rfl
 z27:=fun w=>by kernel_rfl
 v27:=fun w=>by kernel_rfl
 t28:=by kernel_rfl
 a28:=fun w=>by kernel_rfl
 z28:=fun w=>by kernel_rfl
 v28:=fun w=>by kernel_rfl
 t33:=by kernel_rfl
 a33:=fun w=>by kernel_rfl
 z33:=fun w=>by kernel_rfl
 v33:=fun w=>by kernel_rfl }
def Tryz.sortedA_ren:Go.Shelf.Ren:=⟨fun | 6=>321 | 8=>324 | 9=>325 | 11=>327 | n=>n,fun | 26=>3 | 28=>349 | 24=>25 | 0=>0 | 3=>3 | 33=>161 | n=>n,fun | n=>n⟩
theorem Tryz.sortedA:Go.Proofs.SlLaysZI.n6 Tryz.prog Tryz.sortedA_ren:={
 mixed:=by kernel_rfl
 f6:=⟨Tryz.f321.name,by decide,Tryz.func321.trans (congrArg some (by kernel_rfl))⟩
 f8:=⟨Tryz.f324.name,by decide,Tryz.func324.trans (congrArg some (by kernel_rfl))⟩
 f11:=⟨Tryz.f327.name,by decide,Tryz.func327.trans (congrArg some (by kernel_rfl))⟩
 t0:=by kernel_rfl
 a0:=fun w=>by kernel_rfl
 z0:=fun w=>by kernel_rfl
 v0:=fun w=>by kernel_rfl
 t24:=by kernel_rfl
 a24:=fun w=>by kernel_rfl
 z24:=fun w=>by kernel_rfl
 v24:=fun w=>by kernel_rfl
 t26:=by kernel_rfl
 a26:=fun w=>by kernel_rfl
 z26:=fun w=>by kernel_rfl
 v26:=fun w=>by kernel_rfl
 t28:=by kernel_rfl
 a28:=fun w=>by kernel_rfl
 z28:=fun w=>by kernel_rfl
 v28:=fun w=>by kernel_rfl
 i26:=by kernel_rfl }
end Go.Proofs
namespace Go.Proofs.YtnegciklhanmbaaGreatDoor
open Go Go.RowKit Go.Shelf Go.Maps Go.Sort
theorem jxA (m:Nat):AnyZI.SortsIn Tryz.prog Tryz.sortedA_ren Fence.wide m :=
 ⟨fun B off cap ss W D A C=>callsIn_wide.2 (Tryz.slices_Sort_int B off cap ss W D A C),fun p cap W=>callsIn_wide.2 (Tryz.slices_Sort_int_none p cap W)⟩
theorem jug (A:Option Nat) (W:World):Calls Tryz.prog 322 #[.map A] W fun e w'=>e=.returned (.func (.func 326) #[] #[.pointer (some ⟨W.heap.size,0,none⟩)])/\w'=W.alloc (.cells #[.map A] 448) :=
 (callsIn_wide (n:=5)).1 (AnyZI.keys_in Tryz.keysA Fence.wide 5 trivial rfl A W)
theorem jpv (b G:Nat) (D:DataW Unit) (w:World) (A:w.ownsMap Tryz.prog 3 (plainElem Tryz.prog 22) b G D) (F:Maps.size D<=100000) :
  Calls Tryz.prog 321 #[.func (.func 326) #[] #[.pointer (some ⟨w.heap.size,0,none⟩)]] (w.alloc (.cells #[.map (some b)] 448)) fun e w'=>∃ (v:Value) (ss:List Int),e=.returned v/\ss.Perm (intKeys D) /\
   w'.ownsRow w.heap.size 3 1 v ss.length ((ss.mergeSort (fun x y=>decide (x<=y))).map encZ)/\(v=.slice none 0 0↔ss=[])/\Bw w w':=by
 have C:=A.lt
 have B:SeqGives Fence.wide 2 Tryz.prog 326 #[.pointer (some ⟨w.heap.size,0,none⟩)] encZ (fun ss=>ss.Perm (intKeys D)) (Maps.size D) (w.alloc (.cells #[.map (some b)] 448)) :=
  AnyZI.keys_gives (ρ:=Tryz.keysA_ren) { Tryz.keysA with } Fence.wide _ trivial rfl (by omega) w.heap.size b G D _ (by simp) (by simp) (by
   obtain⟨es,clock,hb,H,F,O⟩:=A;exact⟨es,clock,(Below.heap_alloc _ _ b C).trans hb,H,F,O⟩)
 have E:=AnyZI.sorted_in Tryz.sortedA Fence.wide 5 trivial trivial trivial trivial rfl (by omega) (jxA _) (enters_of Tryz.func325 (by kernel_rfl) rfl) 326 #[.pointer (some ⟨w.heap.size,0,none⟩)] trivial (enters_of Tryz.func326 (by kernel_rfl) rfl) _ _ (by unfold maxLen;omega) (by omega) _ B;change CallsIn _ _ Tryz.prog 321 _ _ _ at E;refine (callsIn_wide (n:=5)).1 (E.mono ?_);rintro e w' ⟨v,ss,I,J,L,M,N⟩;exact⟨v,ss,I,J,jlC L (by simp),M,((Below.refl _ w).alloc (Nat.le_refl _) _).trans (N.mono (by simp))⟩
end Go.Proofs.YtnegciklhanmbaaGreatDoor
