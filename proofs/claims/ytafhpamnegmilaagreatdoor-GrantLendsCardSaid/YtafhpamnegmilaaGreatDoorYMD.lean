/- Package cms: change, by all and Merge's function. Printed by gen_mc.py. Package cms: Merge. Printed by gen_mc.py. -/
import Derived.Test.YtafhpamnegmilaaGreatDoorYLR
set_option maxHeartbeats 8000000
set_option maxRecDepth 100000
namespace Go.Proofs.YtafhpamnegmilaaGreatDoor
open Go Go.RowKit Go.Shelf
section
theorem jlr {α:Type} (A:α->Nat) (F:Nat->Int->Int):∀ (C:List α) (l:List Int) (i:Nat),(C.map A).Nodup->(jbK A F l C).getD i 0=if i∈C.map A/\i<l.length then F i (l.getD i 0) else l.getD i 0
 | [],l,i,_=>by simp[jbK]
 | p::C,l,i,h=>by
  obtain⟨G,H⟩:=List.nodup_cons.1 h;show (jbK A F (l.set (A p) (F (A p) (l.getD (A p) 0))) C).getD i 0=_;rw[jlr A F C _ i H,List.length_set,jlE];by_cases e:A p=i
  ·subst e
   rw[if_neg (fun h=>G h.1)];by_cases B:A p<l.length
   ·rw[if_pos ⟨rfl,B⟩,if_pos ⟨List.mem_cons_self,B⟩]
   ·rw[if_neg (fun h=>B h.2),if_neg (fun h=>B h.2)]
  ·have E:(if A p=i/\i<l.length then F (A p) (l.getD (A p) 0) else l.getD i 0)=l.getD i 0:=if_neg (fun h=>e h.1)
   rw[E];by_cases B:i∈C.map A/\i<l.length
   ·rw[if_pos B,if_pos ⟨List.mem_cons_of_mem _ B.1,B.2⟩]
   ·rw[if_neg B,if_neg (fun h=>?_)]
    rcases List.mem_cons.1 h.1 with D | D
    ·exact e D.symm
    ·exact B ⟨D,h.2⟩
def jwN (m:List Int) (p:Nat) (x:Int):Int:=jdf x (m.getD p 0)
theorem joe (N:Nat):(List.finRange N).map (fun x:Fin N=>x.1)=List.range N:=by
 apply List.ext_getElem (by simp);intro i A B;simp
theorem jo3 (N:Nat) (l m:List Int) (B:l.length=N):jbK (fun x:Fin N=>x.1) (jwN m) l (List.finRange N)=jdE l m:=by
 refine jlD _ _ (by rw[jcD,jf2]) (fun i A=>?_);rw[jcD] at A;rw[jlr _ _ _ _ _ (by rw[joe];exact List.nodup_range),joe,if_pos ⟨List.mem_range.2 (by omega),A⟩,jtv _ _ _ A];rfl
theorem juf (L p:Nat) (x c:Int) (m:List Int) (a:Option Addr) (len cap:Nat) (w:World) (I:w.heap[L]? = some (.cells #[.int .i64 2,.int .i64 c,.slice a len cap] 36 (0,0))) (E:SlE jaG 1 w.heap.size w a len m) (Z:p<len) (U:U64 x) (J:jc8 m) :
  CR 278 #[.int .i64 p,.int .u64 x,.pointer (some ⟨L,0,none⟩)] w (.int .u64 (jwN m p x)):=by
 have F:=E.1;obtain⟨y,C⟩:∃ y,m[p]? = some y:=⟨_,List.getElem?_eq_getElem (by omega)⟩;have H:jwN m p x=jdf x y:=by unfold jwN;rw[List.getD_eq_getElem?_getD,C];rfl
 rw[H];have G:U64 y:=J y (List.mem_of_getElem? C);obtain⟨N,off,rfl,R,B⟩:=E.2 p y C;have b:w.cell? ⟨N,off+p,none⟩=some (.int .u64 y):=by have O:=B 0 (by omega);rwa [Nat.mul_one] at O
 obtain⟨M,Q,A,D,T⟩:=jaf w #[.int .u64 x,.int .u64 y] 48;have P:=jf4 w.heap.size x y M (cCc A 0) (cCc A 1) U G;have S:(p:Int)<len:=by omega
 obtain⟨V,X,Y⟩:=cl3 I;clear A B I E H F J C;go_enter Tryz.func278,Tryz.ntmps278;go_wp2_with (go_at_call 276;refine P.mono ?_;rintro e w' ⟨rfl,rfl⟩);go_ret;exact⟨rfl,D⟩
section
attribute [local go_sem] Oper.semAt_some
theorem jo5 (F:Nat->Int->Int) (M O g len cap N L:Nat) (r c r2 c2:Int) (sa:Option Addr) (l:List Int) (w:World)
  (H:N<=1000) (hb:w.heap[M]? = some (.cells #[.int .i64 r2,.int .i64 c2,.slice sa N L] 174 (0,0))) (hg:NumsAt w g l) (hl:l.length=len) (o:jc8 l) (R:∀ b∈[M],b<w.heap.size/\b≠g)
  (hF:∀ W (p:Fin N) x,w.grownBy W (some g)->U64 x->CR 278 #[.int .i64 (p.1:Nat),.int .u64 x,.pointer (some ⟨O,0,none⟩)] W (.int .u64 (F p.1 x))) (d:∀ p x,U64 x->U64 (F p x)) (q:∀ p:Fin N,p.1<len) :
  Calls Tryz.prog 273 #[.agg #[.int .i64 r,.int .i64 c,.slice (some ⟨g,0,none⟩) len cap],.func (.func 279) #[] #[.pointer (some ⟨M,0,none⟩)],.func (.func 278) #[] #[.pointer (some ⟨O,0,none⟩)]] w fun e w'=>e=.returned (.tuple #[])/\NumsAt w' g (jbK (fun x:Fin N=>x.1) F l (List.finRange N))/\w.grownBy w' (some g):=by
 obtain⟨z,aj,n,i,Q,am⟩:=jaI w #[.int .i64 r,.int .i64 c,.slice (some ⟨g,0,none⟩) len cap] 174 #[.func (.func 278) #[] #[.pointer (some ⟨O,0,none⟩)]] 343;have af:=hg.lt;have ag:w.grownBy z (some g):=jaK Q _;have s:=jqi M r2 c2 sa N L H z ((Q.block _ (R M (by simp)).1).trans hb);have ae:CI (fun x:Fin N=>x.1) F l g w.heap.size #[.int .i64 r,.int .i64 c,.slice (some ⟨g,0,none⟩) len cap] #[.func (.func 278) #[] #[.pointer (some ⟨O,0,none⟩)]] w [] z:=⟨hg.block (Q.block _ af),n,i,ag⟩;have X:=Lib.hid hF;have HL:=Lib.hid hl;have ab:=Lib.hid o;have aa:=Lib.hid d;have ac:=Lib.hid q;clear hF hl o d q n i hg hb;refine jay Tryz.func273 rfl ?_;simp only[Tryz.ntmps273,List.size_toArray,List.length_cons,List.length_nil,Nat.reduceAdd,Nat.reduceSub,Array.replicate_succ,Array.replicate_zero,List.push_toArray,List.append_toArray,List.nil_append,List.cons_append];go_wp2_with fail
 refine jer [M] 6 (fun x:Fin N=>.int .i64 (x.1:Nat)) (gf:=279) (lb:=#[.pointer (some ⟨M,0,none⟩)]) rfl (enters_of Tryz.func279 (by kernel_rfl) rfl)
  s (fun k hk=>Nat.lt_of_lt_of_le (R k hk).1 (by omega)) (Below.refl _ _) (fun _=>rfl) (CI (fun x:Fin N=>x.1) F l g w.heap.size #[.int .i64 r,.int .i64 c,.slice (some ⟨g,0,none⟩) len cap] #[.func (.func 278) #[] #[.pointer (some ⟨O,0,none⟩)]] w) (juV _ F l g w.heap.size _ _ w _ (by omega)) ae ?assign ?body ?fin
 case assign =>
  rintro l E x W K hI hK;simp only[List.zip_toArray,List.zip_cons_cons,List.zip_nil_right,List.size_toArray,List.foldl_toArray',List.foldl_cons,List.foldl_nil,List.setIfInBounds_toArray,List.set_cons_succ,List.set_cons_zero] at hK ⊢;gi_wp2;exact hI
 case body =>
  rintro lo E x W ⟨V,hX,hT,f⟩ ak;simp only[List.zip_toArray,List.zip_cons_cons,List.zip_nil_right,List.size_toArray,List.foldl_toArray',List.foldl_cons,List.foldl_nil,List.setIfInBounds_toArray,List.set_cons_succ,List.set_cons_zero];have hp:=ac.out x;have J:=jcD (fun x:Fin N=>x.1) F E l;rw[HL.out] at J
  have HS:Hid (jbK (fun x:Fin N=>x.1) F l (E++[x])=(jbK (fun x:Fin N=>x.1) F l E).set x.1 (F x.1 ((jbK (fun x:Fin N=>x.1) F l E).getD x.1 0))):=by
   unfold Hid jbK;rw[List.foldl_append];rfl
  have S:=jgC (fun x:Fin N=>x.1) F aa.out E l ab.out;generalize jbK (fun x:Fin N=>x.1) F l E=r1 at V J HS S;have H:NumsAt W.drew g r1:=V.block rfl;have T:W.drew.heap[w.heap.size]? = some (.cells #[.int .i64 r,.int .i64 c,.slice (some ⟨g,0,none⟩) len cap] 174 (0,0)):=hX;have m:W.drew.heap[w.heap.size+1]? = some (.cells #[.func (.func 278) #[] #[.pointer (some ⟨O,0,none⟩)]] 343 (0,0)):=hT;have HP:Hid (x.1<r1.length):=by show x.1<r1.length;omega
  have U:=jbT r1 S x.1;have y2:W.drew.cell? ⟨w.heap.size,2,none⟩=some (.slice (some ⟨g,0,none⟩) len cap):=cCc T 2;have y4:W.drew.cell? ⟨w.heap.size+1,0,none⟩=some (.func (.func 278) #[] #[.pointer (some ⟨O,0,none⟩)]):=cCc m 0;have ai:=H.cell HP.out;have P:Hid (∀ A,NumsAt A g r1->A.cell? ⟨g,x.1,none⟩=some (.int .u64 (r1.getD x.1 0))):=fun A h=>h.cell HP.out
  generalize r1.getD x.1 0=y at ai U HS P;have HF:=Lib.hid (X.out W.drew x _ (jei f) U);have t:=Lib.hid H;have u:=Lib.hid T;have HG:=Lib.hid f;have Z:=Lib.hid hX;have Y:=Lib.hid hT
  have fin:∀ (a:Act) A,Below W.drew.heap.size W.drew A->NumsAt A g r1->ownPostG z.heap.size (KL [M]) (CI (fun x:Fin N=>x.1) F l g w.heap.size #[.int .i64 r,.int .i64 c,.slice (some ⟨g,0,none⟩) len cap] #[.func (.func 278) #[] #[.pointer (some ⟨O,0,none⟩)]] w) (fun _ _ _=>False) (E++[x]) W   .normal a (A.setCell ⟨g,x.1,none⟩ (.int .u64 (F x.1 y))):=fun _ A C B=>by
   have ad:W.grownBy A (some g):=(jei (World.grownBy.refl W (some g))).trans (jaK C _);have G:=ad.trans (jeC A g x.1 (.int .u64 (F x.1 y)));refine⟨KeepsFrom.of_grownBy G (fun j e=>by cases e;omega),KL.grown G (fun k hk e=>by cases e;exact (R _ hk).2 rfl),?_,(G.block _ (Array.getElem?_eq_some_iff.1 Z.out).1 (fun e=>by cases e;omega)).trans Z.out,(G.block _ (Array.getElem?_eq_some_iff.1 Y.out).1 (fun e=>by cases e;omega)).trans Y.out,HG.out.trans G⟩;rw[HS.out];exact B.set _ _
  have al:((x.1:Nat):Int)<len:=by omega
  clear f hX hT V H T m S U X;gi_wp2_with fail;refine jcM (F:=Fence.wide) rfl (by kernel_rfl) (by kernel_rfl) ?_;change wpAnyIn _ _ _ _ _ _ _ _ _ (World.drew _)
  ·
   refine tai 0 ?_;refine tai 1 ?_;refine tai 3 ?_;refine tai 5 ?_;refine tai 6 ?_;refine tai 7 ?_;refine tai 9 ?_;refine rdi [2,4,8] (.cons rfl (fun K hK=>?_) (.cons rfl (fun K hK=>?_) (.cons rfl (fun K hK=>?_) .nil)))
   all_goals go_simp
   all_goals (refine hK _ _ ?_;clear hK K)
   all_goals first
    | (refine rqi [4,8] (.cons rfl (fun K hK=>?_) (.cons rfl (fun K hK=>?_) .nil)))
    | (refine rqi [2,8] (.cons rfl (fun K hK=>?_) (.cons rfl (fun K hK=>?_) .nil)))
    | (refine tqi 10 (v:=?_) rfl ?_ ?_;rotate_left;(intro w;go_simp;first | done | with_reducible rfl | rw[if_neg (by omega)]);refine rqi [2,4,11] (.cons rfl (fun K hK=>?_) (.cons rfl (fun K hK=>?_) (.cons rfl (fun K hK=>?_) .nil))))
   all_goals go_simp
   all_goals (refine hK _ _ ?_;clear hK K)
   all_goals first
    | (refine rqi [8] (.cons rfl (fun K hK=>?_) .nil))
    | (refine tqi 10 (v:=?_) rfl ?_ ?_;rotate_left;(intro w;go_simp;first | done | with_reducible rfl | rw[if_neg (by omega)]);refine rqi [4,11] (.cons rfl (fun K hK=>?_) (.cons rfl (fun K hK=>?_) .nil)))
    | (refine tqi 10 (v:=?_) rfl ?_ ?_;rotate_left;(intro w;go_simp;first | done | with_reducible rfl | rw[if_neg (by omega)]);refine rqi [2,11] (.cons rfl (fun K hK=>?_) (.cons rfl (fun K hK=>?_) .nil)))
    | (refine rqi [4,11] (.cons rfl (fun K hK=>?_) (.cons rfl (fun K hK=>?_) .nil)))
    | (refine rqi [2,11] (.cons rfl (fun K hK=>?_) (.cons rfl (fun K hK=>?_) .nil)))
    | (refine rqi [2,4] (.cons rfl (fun K hK=>?_) (.cons rfl (fun K hK=>?_) .nil)))
   all_goals go_simp
   all_goals (refine hK _ _ ?_;clear hK K)
   all_goals first
    | (refine tqi 10 (v:=?_) rfl ?_ ?_;rotate_left;(intro w;go_simp;first | done | with_reducible rfl | rw[if_neg (by omega)]);refine rqi [11] (.cons rfl (fun K hK=>?_) .nil))
    | (refine rqi [11] (.cons rfl (fun K hK=>?_) .nil))
    | (refine rqi [4] (.cons rfl (fun K hK=>?_) .nil))
    | (refine rqi [2,12] (.cons rfl (fun K hK=>?_) (.cons rfl (fun K hK=>?_) .nil)))
   all_goals go_simp
   all_goals first
    |
     refine⟨trivial,(callsIn_wide.2 HF.out).mono ?_⟩;rintro e A ⟨rfl,C⟩;have I:=(C.block _ (Array.getElem?_eq_some_iff.1 u.out).1).trans u.out;have B:NumsAt A g r1:=t.out.block (C.block _ t.out.lt);have z2:A.cell? ⟨w.heap.size,2,none⟩=some (.slice (some ⟨g,0,none⟩) len cap):=cCc I 2;have z3:=P.out A B;have z4:=B.frozen x.1;refine hK _ _ ?_;clear hK K I
    | (refine hK _ _ ?_;clear hK K)
   all_goals first
    | (refine rqi [12] (.cons rfl (fun K hK=>?_) .nil))
    | (refine rqi [2] (.cons rfl (fun K hK=>?_) .nil))
   all_goals go_simp
   all_goals first
    |
     refine⟨trivial,(callsIn_wide.2 HF.out).mono ?_⟩;rintro e A ⟨rfl,C⟩;have I:=(C.block _ (Array.getElem?_eq_some_iff.1 u.out).1).trans u.out;have B:NumsAt A g r1:=t.out.block (C.block _ t.out.lt);have z2:A.cell? ⟨w.heap.size,2,none⟩=some (.slice (some ⟨g,0,none⟩) len cap):=cCc I 2;have z3:=P.out A B;have z4:=B.frozen x.1;refine hK _ _ ?_;clear hK K I
    | (refine hK _ _ ?_;clear hK K)
   all_goals (refine tki 13 (v:=?_) rfl ?_ ?_;rotate_left;(intro w;go_simp;first | done | with_reducible rfl | rw[if_neg (by omega)]);refine rdi [14] (.cons rfl (fun K hK=>?_) .nil))
   all_goals go_simp
   all_goals (refine hK _ _ ?_;clear hK K)
   all_goals (refine wpAnyIn_done (by kernel_rfl) ?_ _)
   all_goals
    exact fin { tmps:=#[],defers:=[] } A C B
 case fin =>
  rintro D W hD ⟨V,hX,hT,f⟩ hK;have ah:some g≠some D:=fun e=>by cases e;omega
  refine jaX (v:=.tuple #[]) hK (results_none rfl _ _ _) ⟨rfl,?_,?_⟩
  ·exact V.block ((grownBy_putObj' _ D _).block _ V.lt ah)
  ·exact f.andThen (grownBy_putObj' _ D _) (fun j e=>by cases e;exact .inl (by omega))
end
end
theorem jo0 (c:Nat) (l m:List Int) (a:Option Addr) (len cap:Nat) (S:Option Addr) (A B:Nat) (w:World) (hs:jbn 2 c=true) (h2:c<=32) (hL:SlE jaG 1 w.heap.size w a len l) (hl:l.length=2*c) (aj:jc8 l) (hn:a=none->len=0) (hM:SlE jaG 1 w.heap.size w S A m) (hm:m.length=2*c) (ak:jc8 m) :
  Calls Tryz.prog 272 #[.agg #[.int .i64 2,.int .i64 c,.slice a len cap],.agg #[.int .i64 2,.int .i64 c,.slice S A B]] w fun e w'=>∃ g,e=.returned (.tuple #[.agg #[.int .i64 2,.int .i64 c,.slice (some ⟨g,0,none⟩) (2*c) (2*c)],.int .i64 0])/\NumsAt w' g (jdE l m)/\w.heap.size<=g/\Bw w w':=by
 have hB:Hid (∀ G,Bw w G->Calls Tryz.prog 277 #[.agg #[.int .i64 2,.int .i64 c,.slice a len cap]] G fun e w'=>∃ g,e=.returned (.tuple #[.agg #[.int .i64 2,.int .i64 c,.slice (some ⟨g,0,none⟩) (2*c) (2*c)],.nilIface])/\NumsAt w' g l/\G.heap.size<=g/\Bw G w'):=fun G hb=>jo1 c l a len cap G hs h2 ((hL.below hb).mono hb.size) hl hn
 have hR:Hid (∀ G,Bw w G->CR 178 #[.agg #[.int .i64 2,.int .i64 c,.slice S A B]] G (.bool true)):=fun G hb=>(jdc 2 c m S A B G ((hM.below hb).mono hb.size).1).mono fun e w' h=>⟨by rw[h.1];simp[jaN,hs,hm],h.2⟩
 have I:Hid (c<=32/\l.length=2*c/\jc8 l/\m.length=2*c/\jc8 m):=⟨h2,hl,aj,hm,ak⟩;have HM:=Lib.hid hM;have HE:=Lib.hid (jo3 (2*c) l m hl);clear hL hl aj hs hn hM hm ak;obtain⟨W0,aA,d,af,ae,J,aE⟩:=jbJ w #[.int .i64 2,.int .i64 c,.slice a len cap] 36 #[.int .i64 2,.int .i64 c,.slice S A B] 36 #[.int .i64 0,.int .i64 0,.slice none 0 0] 36;have ao:=Lib.hid d;have s:=Lib.hid af;have ap:=Lib.hid ae;obtain⟨x0,x1,x2⟩:=cl3 d;clear d af ae;go_enter Tryz.func272,Tryz.ntmps272;go_wp2_with fail;refine (hB.out _ J).mono ?_;rintro e G ⟨g,rfl,o,aC,j⟩;obtain⟨W2,aB,ab,T,aF⟩:=jaf G #[.int .i64 2,.int .i64 c,.slice (some ⟨g,0,none⟩) (2*c) (2*c)] 174;have aw:=o.lt;have ah:=j.size;have E:Bw W0 W2:=j.trans (T.mono ah);have ag:=jab E (Nat.le_refl _) s.out;have av:=Lib.hid (hR.out W2 (J.trans (E.mono J.size)));obtain⟨y0,y1,y2⟩:=cl3 ag;have al:=o.block (T.block _ aw);clear ag;go_wp2_with fail;refine av.out.mono ?_;rintro e Q ⟨rfl,N⟩;have D:Bw W0 Q:=E.trans (N.mono E.size);have u:=jab D (Nat.le_refl _) ao.out;have f:=jab D (Nat.le_refl _) s.out;have y:=jab D (Nat.le_refl _) ap.out;have Y:=jab N (Nat.le_refl _) ab;have am:NumsAt Q g l:=al.block (N.block _ (by omega));have az:=N.size;obtain⟨p0,p1,p2⟩:=cl3 u;obtain⟨q0,q1,q2⟩:=cl3 f;obtain⟨O,aa,i,U,ax⟩:=jaf Q.drew #[.int .i64 2,.int .i64 c,.slice (some ⟨g,0,none⟩) (2*c) (2*c)] 174;have ay:Q.drew.heap.size=Q.heap.size:=rfl;rw[ay] at i U ax;have C:Bw Q O:=(Below.refl _ Q).drew.trans U;have an:NumsAt O g l:=am.block (C.block _ (by omega))
 have Z:O.heap[G.heap.size]? = some (.cells #[.int .i64 2,.int .i64 c,.slice (some ⟨g,0,none⟩) (2*c) (2*c)] 174 (0,0)):=jab C (Nat.le_refl _) Y;have X:O.heap[w.heap.size+1]? = some (.cells #[.int .i64 2,.int .i64 c,.slice S A B] 36 (0,0)):=jab C (Nat.le_refl _) f;have z:O.heap[w.heap.size+2]? = some (.cells #[.int .i64 0,.int .i64 0,.slice none 0 0] 36 (0,0)):=jab C (Nat.le_refl _) y;have H:Bw w O:=J.trans ((D.trans (C.mono D.size)).mono J.size)
 have t:=jo5 (jwN m) Q.heap.size (w.heap.size+1) g (2*c) (2*c) (2*c) (2*c) 2 c 2 c (some ⟨g,0,none⟩) l O (by have:=I.out.1;omega) i an I.out.2.1 I.out.2.2.1 (by intro k hk;simp at hk;omega)
  (fun W p x hG hx=>by
   have ar:Below w.heap.size O W:=(Below.refl _ O).grown hG H.size (fun k e=>by cases e;omega);have ai:=H.trans ar;exact juf (w.heap.size+1) p.1 x c m S A B W ((hG.block _ (Array.getElem?_eq_some_iff.1 X).1 (fun e=>by cases e;omega)).trans X) ((HM.out.below ai).mono ai.size) (by have:=p.2;have:=HM.out.1;have:=I.out.2.2.2.1;omega) hx I.out.2.2.2.2)
  (fun p x hx=>jfj x _ hx (jbT m I.out.2.2.2.2 p)) (fun p=>p.2)
 have q:=Lib.hid aa;have r:=Lib.hid Z;have P:=Lib.hid z;have R:=Lib.hid H;have ad:Q.drew.heap[G.heap.size]? = some (.cells #[.int .i64 2,.int .i64 c,.slice (some ⟨g,0,none⟩) (2*c) (2*c)] 174 (0,0)):=Y;obtain⟨d0,d1,d2⟩:=cl3 ad;obtain⟨b0,b1,b2⟩:=cl3 Z;have aD:w.heap.size+2<g:=by omega
 clear aa ab Y ad Z z X i T U C H o al am an j E D N u f y
 have fin:∀ w6,NumsAt w6 g (jdE l m)->O.grownBy w6 (some g)->∃ V,((w6.setCell ⟨w.heap.size+1+1,0,none⟩ (.int .i64 2)).setCell ⟨w.heap.size+1+1,1,none⟩ (.int .i64 c)).setCell ⟨w.heap.size+1+1,2,none⟩ (.slice (some ⟨g,0,none⟩) (2*c) (2*c))=V/\V.heap[w.heap.size+1+1]? = some (.cells #[.int .i64 2,.int .i64 c,.slice (some ⟨g,0,none⟩) (2*c) (2*c)] 36 (0,0))/\NumsAt V g (jdE l m)/\Bw w V:=fun w6 L F=>by
  have M:=(F.block _ (Array.getElem?_eq_some_iff.1 P.out).1 (fun e=>by cases e;omega)).trans P.out;have n:w.heap.size+1+1≠g:=by omega
  refine⟨_,rfl,jcI M,((L.block (jae (p:=⟨w.heap.size+1+1,0,none⟩) n _)).block (jae (p:=⟨w.heap.size+1+1,1,none⟩) n _)).block (jae (p:=⟨w.heap.size+1+1,2,none⟩) n _),?_⟩;exact (((R.out.grown F R.out.size (fun k e=>by cases e;omega)).setCell (p:=⟨w.heap.size+1+1,0,none⟩) (by show _<=_+1+1;omega) _).setCell (p:=⟨w.heap.size+1+1,1,none⟩) (by show _<=_+1+1;omega) _).setCell (p:=⟨w.heap.size+1+1,2,none⟩) (by show _<=_+1+1;omega) _
 go_wp2_with fail;refine wp_region_any (by kernel_rfl) ?_;change wpAny _ _ _ _ _ _ _ (World.drew _)
 ·
  refine ta 3 ?_;refine rd [0,1] (.cons rfl (fun K hK=>?_) (.cons rfl (fun K hK=>?_) .nil))
  all_goals go_simp
  all_goals (refine hK _ _ ?_;clear hK K)
  all_goals first
   | (refine rq [1] (.cons rfl (fun K hK=>?_) .nil))
   | (refine rq [0,2] (.cons rfl (fun K hK=>?_) (.cons rfl (fun K hK=>?_) .nil)))
  all_goals go_simp
  all_goals first
   |
    refine (jj4 2 c (.slice (some ⟨g,0,none⟩) (2*c) (2*c)) _).mono ?_;rintro e w5 ⟨rfl,rfl⟩;rw[q.out];refine hK _ _ ?_;clear hK K
   | (refine hK _ _ ?_;clear hK K)
  all_goals first
   | (refine rq [2] (.cons rfl (fun K hK=>?_) .nil))
   | (refine rq [0] (.cons rfl (fun K hK=>?_) .nil))
  all_goals go_simp
  all_goals first
   |
    refine (jj4 2 c (.slice (some ⟨g,0,none⟩) (2*c) (2*c)) _).mono ?_;rintro e w5 ⟨rfl,rfl⟩;rw[q.out];refine hK _ _ ?_;clear hK K
   | (refine hK _ _ ?_;clear hK K)
  all_goals (refine rd [4] (.cons rfl (fun K hK=>?_) .nil))
  all_goals go_simp
  all_goals
   refine t.mono ?_;rintro e w6 ⟨rfl,L,F⟩;rw[HE.out] at L;refine hK _ _ ?_;clear hK K
  all_goals (refine wpAny_done (by kernel_rfl) ?_ _)
  all_goals
   have ac:=(F.block _ (Array.getElem?_eq_some_iff.1 r.out).1 (fun e=>by cases e;omega)).trans r.out;have M:w6.heap[w.heap.size+1+1]? = _:=(F.block _ (Array.getElem?_eq_some_iff.1 P.out).1 (fun e=>by cases e;omega)).trans P.out;obtain⟨z0,z1,z2⟩:=cl3 ac;obtain⟨v0,v1,v2⟩:=cl3 M;obtain⟨f0,f1,f2⟩:=cz3 M;obtain⟨V,hV,b,au,aq⟩:=fin w6 L F;clear fin ac M L F t;go_wp2_with fail;have k0:=cCc b 0;have k1:=cCc b 1;have k2:=cCc b 2;simp at k0 k1 k2;exact bodyPost_ret (v:=.tuple #[.agg #[.int .i64 2,.int .i64 c,.slice (some ⟨g,0,none⟩) (2*c) (2*c)],.int .i64 0]) (by simp[results,Tryz.f272,go_sem,k0,k1,k2]) rfl ⟨g,rfl,au,by omega,aq⟩
end Go.Proofs.YtafhpamnegmilaaGreatDoor
