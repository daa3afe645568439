/- Package cms: change, by all and Merge's function. Printed by gen_mc.py. Package cms: Merge. Printed by gen_mc.py. Package ladder: Add on sketches at work. Printed by gen_ll.py. -/
import Derived.Test.YtnegciklhanmbaaGreatDoorZLK
set_option maxHeartbeats 8000000
set_option maxRecDepth 100000
namespace Go.Proofs.YtnegciklhanmbaaGreatDoor
open Go Go.RowKit Go.Shelf
section
theorem jkV {α:Type} (A:α->Nat) (F:Nat->Int->Int):∀ (C:List α) (l:List Int) (i:Nat),(C.map A).Nodup->(jaX A F l C).getD i 0=if i∈C.map A/\i<l.length then F i (l.getD i 0) else l.getD i 0
 | [],l,i,_=>by simp[jaX]
 | p::C,l,i,h=>by
  obtain⟨G,H⟩:=List.nodup_cons.1 h;show (jaX A F (l.set (A p) (F (A p) (l.getD (A p) 0))) C).getD i 0=_;rw[jkV A F C _ i H,List.length_set,jld];by_cases e:A p=i
  ·subst e
   rw[if_neg (fun h=>G h.1)];by_cases B:A p<l.length
   ·rw[if_pos ⟨rfl,B⟩,if_pos ⟨List.mem_cons_self,B⟩]
   ·rw[if_neg (fun h=>B h.2),if_neg (fun h=>B h.2)]
  ·have E:(if A p=i/\i<l.length then F (A p) (l.getD (A p) 0) else l.getD i 0)=l.getD i 0:=if_neg (fun h=>e h.1)
   rw[E];by_cases B:i∈C.map A/\i<l.length
   ·rw[if_pos B,if_pos ⟨List.mem_cons_of_mem _ B.1,B.2⟩]
   ·rw[if_neg B,if_neg (fun h=>?_)]
    rcases List.mem_cons.1 h.1 with D | D
    ·exact e D.symm
    ·exact B ⟨D,h.2⟩
def jxp (m:List Int) (p:Nat) (x:Int):Int:=jeb x (m.getD p 0)
theorem jny (N:Nat):(List.finRange N).map (fun x:Fin N=>x.1)=List.range N:=by
 apply List.ext_getElem (by simp);intro i A B;simp
theorem joA (N:Nat) (l m:List Int) (B:l.length=N):jaX (fun x:Fin N=>x.1) (jxp m) l (List.finRange N)=jfF l m:=by
 refine jlc _ _ (by rw[jbX,jho]) (fun i A=>?_);rw[jbX] at A;rw[jkV _ _ _ _ _ (by rw[jny];exact List.nodup_range),jny,if_pos ⟨List.mem_range.2 (by omega),A⟩,jtP _ _ _ A];rfl
theorem jus (L p:Nat) (x c:Int) (m:List Int) (a:Option Addr) (len cap:Nat) (w:World) (I:w.heap[L]? = some (.cells #[.int .i64 2,.int .i64 c,.slice a len cap] 39 (0,0))) (E:SlE jaF 1 w.heap.size w a len m) (X:p<len) (U:U64 x) (J:jdh m) :
  CR 301 #[.int .i64 p,.int .u64 x,.pointer (some ⟨L,0,none⟩)] w (.int .u64 (jxp m p x)):=by
 have F:=E.1;obtain⟨y,C⟩:∃ y,m[p]? = some y:=⟨_,List.getElem?_eq_getElem (by omega)⟩;have H:jxp m p x=jeb x y:=by unfold jxp;rw[List.getD_eq_getElem?_getD,C];rfl
 rw[H];have G:U64 y:=J y (List.mem_of_getElem? C);obtain⟨N,off,rfl,R,B⟩:=E.2 p y C;have Y:w.cell? ⟨N,off+p,none⟩=some (.int .u64 y):=by have O:=B 0 (by omega);rwa [Nat.mul_one] at O
 obtain⟨M,Q,A,D,T⟩:=jab w #[.int .u64 x,.int .u64 y] 22;have P:=jdT w.heap.size x y M (cCc A 0) (cCc A 1) U G;have S:(p:Int)<len:=by omega
 obtain⟨V,c1,c2⟩:=cl3 I;clear A B I E H F J C;go_enter Tryz.func301,Tryz.ntmps301;go_wp2_with (go_at_call 298;refine P.mono ?_;rintro e w' ⟨rfl,rfl⟩);go_ret;exact⟨rfl,D⟩
section
attribute [local go_sem] Oper.semAt_some
theorem joD (F:Nat->Int->Int) (M O g len cap N L:Nat) (r c r2 c2:Int) (sa:Option Addr) (l:List Int) (w:World)
  (H:N<=1000) (hb:w.heap[M]? = some (.cells #[.int .i64 r2,.int .i64 c2,.slice sa N L] 227 (0,0))) (hg:NumsAt w g l) (hl:l.length=len) (o:jdh l) (R:∀ b∈[M],b<w.heap.size/\b≠g)
  (hF:∀ W (p:Fin N) x,w.grownBy W (some g)->U64 x->CR 301 #[.int .i64 (p.1:Nat),.int .u64 x,.pointer (some ⟨O,0,none⟩)] W (.int .u64 (F p.1 x))) (d:∀ p x,U64 x->U64 (F p x)) (q:∀ p:Fin N,p.1<len) :
  Calls Tryz.prog 295 #[.agg #[.int .i64 r,.int .i64 c,.slice (some ⟨g,0,none⟩) len cap],.func (.func 303) #[] #[.pointer (some ⟨M,0,none⟩)],.func (.func 301) #[] #[.pointer (some ⟨O,0,none⟩)]] w fun e w'=>e=.returned (.tuple #[])/\NumsAt w' g (jaX (fun x:Fin N=>x.1) F l (List.finRange N))/\w.grownBy w' (some g):=by
 obtain⟨z,aj,n,i,Q,am⟩:=jas w #[.int .i64 r,.int .i64 c,.slice (some ⟨g,0,none⟩) len cap] 227 #[.func (.func 301) #[] #[.pointer (some ⟨O,0,none⟩)]] 440;have af:=hg.lt;have ag:w.grownBy z (some g):=jav Q _;have s:=jp3 M r2 c2 sa N L H z ((Q.block _ (R M (by simp)).1).trans hb);have ae:CI (fun x:Fin N=>x.1) F l g w.heap.size #[.int .i64 r,.int .i64 c,.slice (some ⟨g,0,none⟩) len cap] #[.func (.func 301) #[] #[.pointer (some ⟨O,0,none⟩)]] w [] z:=⟨hg.block (Q.block _ af),n,i,ag⟩;have X:=Lib.hid hF;have HL:=Lib.hid hl;have ab:=Lib.hid o;have aa:=Lib.hid d;have ac:=Lib.hid q;clear hF hl o d q n i hg hb;refine jaq Tryz.func295 rfl ?_;simp only[Tryz.ntmps295,List.size_toArray,List.length_cons,List.length_nil,Nat.reduceAdd,Nat.reduceSub,Array.replicate_succ,Array.replicate_zero,List.push_toArray,List.append_toArray,List.nil_append,List.cons_append];go_wp2_with fail
 refine jcj [M] 6 (fun x:Fin N=>.int .i64 (x.1:Nat)) (gf:=303) (lb:=#[.pointer (some ⟨M,0,none⟩)]) rfl (enters_of Tryz.func303 (by kernel_rfl) rfl)
  s (fun k hk=>Nat.lt_of_lt_of_le (R k hk).1 (by omega)) (Below.refl _ _) (fun _=>rfl) (CI (fun x:Fin N=>x.1) F l g w.heap.size #[.int .i64 r,.int .i64 c,.slice (some ⟨g,0,none⟩) len cap] #[.func (.func 301) #[] #[.pointer (some ⟨O,0,none⟩)]] w) (jqp _ F l g w.heap.size _ _ w _ (by omega)) ae ?assign ?body ?fin
 case assign =>
  rintro l E x W K hI hK;simp only[List.zip_toArray,List.zip_cons_cons,List.zip_nil_right,List.size_toArray,List.foldl_toArray',List.foldl_cons,List.foldl_nil,List.setIfInBounds_toArray,List.set_cons_succ,List.set_cons_zero] at hK ⊢;gi_wp2;exact hI
 case body =>
  rintro lo E x W ⟨V,hX,hT,f⟩ ak;simp only[List.zip_toArray,List.zip_cons_cons,List.zip_nil_right,List.size_toArray,List.foldl_toArray',List.foldl_cons,List.foldl_nil,List.setIfInBounds_toArray,List.set_cons_succ,List.set_cons_zero];have hp:=ac.out x;have J:=jbX (fun x:Fin N=>x.1) F E l;rw[HL.out] at J
  have HS:Hid (jaX (fun x:Fin N=>x.1) F l (E++[x])=(jaX (fun x:Fin N=>x.1) F l E).set x.1 (F x.1 ((jaX (fun x:Fin N=>x.1) F l E).getD x.1 0))):=by
   unfold Hid jaX;rw[List.foldl_append];rfl
  have S:=jeO (fun x:Fin N=>x.1) F aa.out E l ab.out;generalize jaX (fun x:Fin N=>x.1) F l E=r1 at V J HS S;have H:NumsAt W.drew g r1:=V.block rfl;have T:W.drew.heap[w.heap.size]? = some (.cells #[.int .i64 r,.int .i64 c,.slice (some ⟨g,0,none⟩) len cap] 227 (0,0)):=hX;have m:W.drew.heap[w.heap.size+1]? = some (.cells #[.func (.func 301) #[] #[.pointer (some ⟨O,0,none⟩)]] 440 (0,0)):=hT;have HP:Hid (x.1<r1.length):=by show x.1<r1.length;omega
  have U:=jbe r1 S x.1;have y2:W.drew.cell? ⟨w.heap.size,2,none⟩=some (.slice (some ⟨g,0,none⟩) len cap):=cCc T 2;have y4:W.drew.cell? ⟨w.heap.size+1,0,none⟩=some (.func (.func 301) #[] #[.pointer (some ⟨O,0,none⟩)]):=cCc m 0;have ai:=H.cell HP.out;have P:Hid (∀ A,NumsAt A g r1->A.cell? ⟨g,x.1,none⟩=some (.int .u64 (r1.getD x.1 0))):=fun A h=>h.cell HP.out
  generalize r1.getD x.1 0=y at ai U HS P;have HF:=Lib.hid (X.out W.drew x _ (jcp f) U);have t:=Lib.hid H;have u:=Lib.hid T;have HG:=Lib.hid f;have Z:=Lib.hid hX;have Y:=Lib.hid hT
  have fin:∀ (a:Act) A,Below W.drew.heap.size W.drew A->NumsAt A g r1->ownPostG z.heap.size (KL [M]) (CI (fun x:Fin N=>x.1) F l g w.heap.size #[.int .i64 r,.int .i64 c,.slice (some ⟨g,0,none⟩) len cap] #[.func (.func 301) #[] #[.pointer (some ⟨O,0,none⟩)]] w) (fun _ _ _=>False) (E++[x]) W   .normal a (A.setCell ⟨g,x.1,none⟩ (.int .u64 (F x.1 y))):=fun _ A C B=>by
   have ad:W.grownBy A (some g):=(jcp (World.grownBy.refl W (some g))).trans (jav C _);have G:=ad.trans (jd9 A g x.1 (.int .u64 (F x.1 y)));refine⟨KeepsFrom.of_grownBy G (fun j e=>by cases e;omega),KL.grown G (fun k hk e=>by cases e;exact (R _ hk).2 rfl),?_,(G.block _ (Array.getElem?_eq_some_iff.1 Z.out).1 (fun e=>by cases e;omega)).trans Z.out,(G.block _ (Array.getElem?_eq_some_iff.1 Y.out).1 (fun e=>by cases e;omega)).trans Y.out,HG.out.trans G⟩;rw[HS.out];exact B.set _ _
  have al:((x.1:Nat):Int)<len:=by omega
  clear f hX hT V H T m S U X;gi_wp2_with fail;refine jbE (F:=Fence.wide) rfl (by kernel_rfl) (by kernel_rfl) ?_;change wpAnyIn _ _ _ _ _ _ _ _ _ (World.drew _)
  ·
   refine tai 0 ?_;refine tai 1 ?_;refine tai 3 ?_;refine tai 5 ?_;refine tai 6 ?_;refine tai 7 ?_;refine tai 9 ?_;refine rdi [2,4,8] (.cons rfl (fun K hK=>?_) (.cons rfl (fun K hK=>?_) (.cons rfl (fun K hK=>?_) .nil)))
   all_goals go_simp
   all_goals (refine hK _ _ ?_;clear hK K)
   all_goals first
    | (refine rqi [4,8] (.cons rfl (fun K hK=>?_) (.cons rfl (fun K hK=>?_) .nil)))
    | (refine rqi [2,8] (.cons rfl (fun K hK=>?_) (.cons rfl (fun K hK=>?_) .nil)))
    | (refine tqi 10 (v:=?_) rfl ?_ ?_;rotate_left;(intro w;go_simp;first | done | with_reducible rfl | rw[if_neg (by omega)]);refine rqi [2,4,11] (.cons rfl (fun K hK=>?_) (.cons rfl (fun K hK=>?_) (.cons rfl (fun K hK=>?_) .nil))))
   all_goals go_simp
   all_goals (refine hK _ _ ?_;clear hK K)
   all_goals first
    | (refine rqi [8] (.cons rfl (fun K hK=>?_) .nil))
    | (refine tqi 10 (v:=?_) rfl ?_ ?_;rotate_left;(intro w;go_simp;first | done | with_reducible rfl | rw[if_neg (by omega)]);refine rqi [4,11] (.cons rfl (fun K hK=>?_) (.cons rfl (fun K hK=>?_) .nil)))
    | (refine tqi 10 (v:=?_) rfl ?_ ?_;rotate_left;(intro w;go_simp;first | done | with_reducible rfl | rw[if_neg (by omega)]);refine rqi [2,11] (.cons rfl (fun K hK=>?_) (.cons rfl (fun K hK=>?_) .nil)))
    | (refine rqi [4,11] (.cons rfl (fun K hK=>?_) (.cons rfl (fun K hK=>?_) .nil)))
    | (refine rqi [2,11] (.cons rfl (fun K hK=>?_) (.cons rfl (fun K hK=>?_) .nil)))
    | (refine rqi [2,4] (.cons rfl (fun K hK=>?_) (.cons rfl (fun K hK=>?_) .nil)))
   all_goals go_simp
   all_goals (refine hK _ _ ?_;clear hK K)
   all_goals first
    | (refine tqi 10 (v:=?_) rfl ?_ ?_;rotate_left;(intro w;go_simp;first | done | with_reducible rfl | rw[if_neg (by omega)]);refine rqi [11] (.cons rfl (fun K hK=>?_) .nil))
    | (refine rqi [11] (.cons rfl (fun K hK=>?_) .nil))
    | (refine rqi [4] (.cons rfl (fun K hK=>?_) .nil))
    | (refine rqi [2,12] (.cons rfl (fun K hK=>?_) (.cons rfl (fun K hK=>?_) .nil)))
   all_goals go_simp
   all_goals first
    |
     refine⟨trivial,(callsIn_wide.2 HF.out).mono ?_⟩;rintro e A ⟨rfl,C⟩;have I:=(C.block _ (Array.getElem?_eq_some_iff.1 u.out).1).trans u.out;have B:NumsAt A g r1:=t.out.block (C.block _ t.out.lt);have z2:A.cell? ⟨w.heap.size,2,none⟩=some (.slice (some ⟨g,0,none⟩) len cap):=cCc I 2;have z3:=P.out A B;have z4:=B.frozen x.1;refine hK _ _ ?_;clear hK K I
    | (refine hK _ _ ?_;clear hK K)
   all_goals first
    | (refine rqi [12] (.cons rfl (fun K hK=>?_) .nil))
    | (refine rqi [2] (.cons rfl (fun K hK=>?_) .nil))
   all_goals go_simp
   all_goals first
    |
     refine⟨trivial,(callsIn_wide.2 HF.out).mono ?_⟩;rintro e A ⟨rfl,C⟩;have I:=(C.block _ (Array.getElem?_eq_some_iff.1 u.out).1).trans u.out;have B:NumsAt A g r1:=t.out.block (C.block _ t.out.lt);have z2:A.cell? ⟨w.heap.size,2,none⟩=some (.slice (some ⟨g,0,none⟩) len cap):=cCc I 2;have z3:=P.out A B;have z4:=B.frozen x.1;refine hK _ _ ?_;clear hK K I
    | (refine hK _ _ ?_;clear hK K)
   all_goals (refine tki 13 (v:=?_) rfl ?_ ?_;rotate_left;(intro w;go_simp;first | done | with_reducible rfl | rw[if_neg (by omega)]);refine rdi [14] (.cons rfl (fun K hK=>?_) .nil))
   all_goals go_simp
   all_goals (refine hK _ _ ?_;clear hK K)
   all_goals (refine wpAnyIn_done (by kernel_rfl) ?_ _)
   all_goals
    exact fin { tmps:=#[],defers:=[] } A C B
 case fin =>
  rintro D W hD ⟨V,hX,hT,f⟩ hK;have ah:some g≠some D:=fun e=>by cases e;omega
  refine jau (v:=.tuple #[]) hK (results_none rfl _ _ _) ⟨rfl,?_,?_⟩
  ·exact V.block ((grownBy_putObj' _ D _).block _ V.lt ah)
  ·exact f.andThen (grownBy_putObj' _ D _) (fun j e=>by cases e;exact .inl (by omega))
end
end
theorem joy (c:Nat) (l m:List Int) (a:Option Addr) (len cap:Nat) (S:Option Addr) (A B:Nat) (w:World) (hs:ja3 2 c=true) (h2:c<=32) (hL:SlE jaF 1 w.heap.size w a len l) (hl:l.length=2*c) (aj:jdh l) (hn:a=none->len=0) (hM:SlE jaF 1 w.heap.size w S A m) (hm:m.length=2*c) (ak:jdh m) :
  Calls Tryz.prog 293 #[.agg #[.int .i64 2,.int .i64 c,.slice a len cap],.agg #[.int .i64 2,.int .i64 c,.slice S A B]] w fun e w'=>∃ g,e=.returned (.tuple #[.agg #[.int .i64 2,.int .i64 c,.slice (some ⟨g,0,none⟩) (2*c) (2*c)],.int .i64 0])/\NumsAt w' g (jfF l m)/\w.heap.size<=g/\Bw w w':=by
 have hB:Hid (∀ G,Bw w G->Calls Tryz.prog 294 #[.agg #[.int .i64 2,.int .i64 c,.slice a len cap]] G fun e w'=>∃ g,e=.returned (.tuple #[.agg #[.int .i64 2,.int .i64 c,.slice (some ⟨g,0,none⟩) (2*c) (2*c)],.nilIface])/\NumsAt w' g l/\G.heap.size<=g/\Bw G w'):=fun G hb=>jiJ c l a len cap G hs h2 ((hL.below hb).mono hb.size) hl hn
 have hR:Hid (∀ G,Bw w G->CR 173 #[.agg #[.int .i64 2,.int .i64 c,.slice S A B]] G (.bool true)):=fun G hb=>(jb7 2 c m S A B G ((hM.below hb).mono hb.size).1).mono fun e w' h=>⟨by rw[h.1];simp[jbJ,hs,hm],h.2⟩
 have I:Hid (c<=32/\l.length=2*c/\jdh l/\m.length=2*c/\jdh m):=⟨h2,hl,aj,hm,ak⟩;have HM:=Lib.hid hM;have HE:=Lib.hid (joA (2*c) l m hl);clear hL hl aj hs hn hM hm ak;obtain⟨W0,aA,d,af,ae,J,aE⟩:=jbF w #[.int .i64 2,.int .i64 c,.slice a len cap] 39 #[.int .i64 2,.int .i64 c,.slice S A B] 39 #[.int .i64 0,.int .i64 0,.slice none 0 0] 39;have ao:=Lib.hid d;have s:=Lib.hid af;have ap:=Lib.hid ae;obtain⟨x0,x1,x2⟩:=cl3 d;clear d af ae;go_enter Tryz.func293,Tryz.ntmps293;go_wp2_with fail;refine (hB.out _ J).mono ?_;rintro e G ⟨g,rfl,o,aC,j⟩;obtain⟨W2,aB,ab,T,aF⟩:=jab G #[.int .i64 2,.int .i64 c,.slice (some ⟨g,0,none⟩) (2*c) (2*c)] 227;have aw:=o.lt;have ah:=j.size;have E:Bw W0 W2:=j.trans (T.mono ah);have ag:=known E (Nat.le_refl _) s.out;have av:=Lib.hid (hR.out W2 (J.trans (E.mono J.size)));obtain⟨y0,y1,y2⟩:=cl3 ag;have al:=o.block (T.block _ aw);clear ag;go_wp2_with fail;refine av.out.mono ?_;rintro e Q ⟨rfl,N⟩;have D:Bw W0 Q:=E.trans (N.mono E.size);have u:=known D (Nat.le_refl _) ao.out;have f:=known D (Nat.le_refl _) s.out;have y:=known D (Nat.le_refl _) ap.out;have Y:=known N (Nat.le_refl _) ab;have am:NumsAt Q g l:=al.block (N.block _ (by omega));have az:=N.size;obtain⟨p0,p1,p2⟩:=cl3 u;obtain⟨q0,q1,q2⟩:=cl3 f;obtain⟨O,aa,i,U,ax⟩:=jab Q.drew #[.int .i64 2,.int .i64 c,.slice (some ⟨g,0,none⟩) (2*c) (2*c)] 227;have ay:Q.drew.heap.size=Q.heap.size:=rfl;rw[ay] at i U ax;have C:Bw Q O:=(Below.refl _ Q).drew.trans U;have an:NumsAt O g l:=am.block (C.block _ (by omega))
 have Z:O.heap[G.heap.size]? = some (.cells #[.int .i64 2,.int .i64 c,.slice (some ⟨g,0,none⟩) (2*c) (2*c)] 227 (0,0)):=known C (Nat.le_refl _) Y;have X:O.heap[w.heap.size+1]? = some (.cells #[.int .i64 2,.int .i64 c,.slice S A B] 39 (0,0)):=known C (Nat.le_refl _) f;have z:O.heap[w.heap.size+2]? = some (.cells #[.int .i64 0,.int .i64 0,.slice none 0 0] 39 (0,0)):=known C (Nat.le_refl _) y;have H:Bw w O:=J.trans ((D.trans (C.mono D.size)).mono J.size)
 have t:=joD (jxp m) Q.heap.size (w.heap.size+1) g (2*c) (2*c) (2*c) (2*c) 2 c 2 c (some ⟨g,0,none⟩) l O (by have:=I.out.1;omega) i an I.out.2.1 I.out.2.2.1 (by intro k hk;simp at hk;omega)
  (fun W p x hG hx=>by
   have ar:Below w.heap.size O W:=(Below.refl _ O).grown hG H.size (fun k e=>by cases e;omega);have ai:=H.trans ar;exact jus (w.heap.size+1) p.1 x c m S A B W ((hG.block _ (Array.getElem?_eq_some_iff.1 X).1 (fun e=>by cases e;omega)).trans X) ((HM.out.below ai).mono ai.size) (by have:=p.2;have:=HM.out.1;have:=I.out.2.2.2.1;omega) hx I.out.2.2.2.2)
  (fun p x hx=>jcT x _ hx (jbe m I.out.2.2.2.2 p)) (fun p=>p.2)
 have q:=Lib.hid aa;have r:=Lib.hid Z;have P:=Lib.hid z;have R:=Lib.hid H;have ad:Q.drew.heap[G.heap.size]? = some (.cells #[.int .i64 2,.int .i64 c,.slice (some ⟨g,0,none⟩) (2*c) (2*c)] 227 (0,0)):=Y;obtain⟨d0,d1,d2⟩:=cl3 ad;obtain⟨b0,b1,b2⟩:=cl3 Z;have aD:w.heap.size+2<g:=by omega
 clear aa ab Y ad Z z X i T U C H o al am an j E D N u f y
 have fin:∀ w6,NumsAt w6 g (jfF l m)->O.grownBy w6 (some g)->∃ V,((w6.setCell ⟨w.heap.size+1+1,0,none⟩ (.int .i64 2)).setCell ⟨w.heap.size+1+1,1,none⟩ (.int .i64 c)).setCell ⟨w.heap.size+1+1,2,none⟩ (.slice (some ⟨g,0,none⟩) (2*c) (2*c))=V/\V.heap[w.heap.size+1+1]? = some (.cells #[.int .i64 2,.int .i64 c,.slice (some ⟨g,0,none⟩) (2*c) (2*c)] 39 (0,0))/\NumsAt V g (jfF l m)/\Bw w V:=fun w6 L F=>by
  have M:=(F.block _ (Array.getElem?_eq_some_iff.1 P.out).1 (fun e=>by cases e;omega)).trans P.out;have n:w.heap.size+1+1≠g:=by omega
  refine⟨_,rfl,jcs M,((L.block (jaa (p:=⟨w.heap.size+1+1,0,none⟩) n _)).block (jaa (p:=⟨w.heap.size+1+1,1,none⟩) n _)).block (jaa (p:=⟨w.heap.size+1+1,2,none⟩) n _),?_⟩;exact (((R.out.grown F R.out.size (fun k e=>by cases e;omega)).setCell (p:=⟨w.heap.size+1+1,0,none⟩) (by show _<=_+1+1;omega) _).setCell (p:=⟨w.heap.size+1+1,1,none⟩) (by show _<=_+1+1;omega) _).setCell (p:=⟨w.heap.size+1+1,2,none⟩) (by show _<=_+1+1;omega) _
 go_wp2_with fail;refine wp_region_any (by kernel_rfl) ?_;change wpAny _ _ _ _ _ _ _ (World.drew _)
 ·
  refine ta 3 ?_;refine rd [0,1] (.cons rfl (fun K hK=>?_) (.cons rfl (fun K hK=>?_) .nil))
  all_goals go_simp
  all_goals (refine hK _ _ ?_;clear hK K)
  all_goals first
   | (refine rq [1] (.cons rfl (fun K hK=>?_) .nil))
   | (refine rq [0,2] (.cons rfl (fun K hK=>?_) (.cons rfl (fun K hK=>?_) .nil)))
  all_goals go_simp
  all_goals first
   |
    refine (jjp 2 c (.slice (some ⟨g,0,none⟩) (2*c) (2*c)) _).mono ?_;rintro e w5 ⟨rfl,rfl⟩;rw[q.out];refine hK _ _ ?_;clear hK K
   | (refine hK _ _ ?_;clear hK K)
  all_goals first
   | (refine rq [2] (.cons rfl (fun K hK=>?_) .nil))
   | (refine rq [0] (.cons rfl (fun K hK=>?_) .nil))
  all_goals go_simp
  all_goals first
   |
    refine (jjp 2 c (.slice (some ⟨g,0,none⟩) (2*c) (2*c)) _).mono ?_;rintro e w5 ⟨rfl,rfl⟩;rw[q.out];refine hK _ _ ?_;clear hK K
   | (refine hK _ _ ?_;clear hK K)
  all_goals (refine rd [4] (.cons rfl (fun K hK=>?_) .nil))
  all_goals go_simp
  all_goals
   refine t.mono ?_;rintro e w6 ⟨rfl,L,F⟩;rw[HE.out] at L;refine hK _ _ ?_;clear hK K
  all_goals (refine wpAny_done (by kernel_rfl) ?_ _)
  all_goals
   have ac:=(F.block _ (Array.getElem?_eq_some_iff.1 r.out).1 (fun e=>by cases e;omega)).trans r.out;have M:w6.heap[w.heap.size+1+1]? = _:=(F.block _ (Array.getElem?_eq_some_iff.1 P.out).1 (fun e=>by cases e;omega)).trans P.out;obtain⟨z0,z1,z2⟩:=cl3 ac;obtain⟨v0,v1,v2⟩:=cl3 M;obtain⟨f0,f1,f2⟩:=cz3 M;obtain⟨V,hV,b,au,aq⟩:=fin w6 L F;clear fin ac M L F t;go_wp2_with fail;have k0:=cCc b 0;have k1:=cCc b 1;have k2:=cCc b 2;simp at k0 k1 k2;exact bodyPost_ret (v:=.tuple #[.agg #[.int .i64 2,.int .i64 c,.slice (some ⟨g,0,none⟩) (2*c) (2*c)],.int .i64 0]) (by simp[results,Tryz.f293,go_sem,k0,k1,k2]) rfl ⟨g,rfl,au,by omega,aq⟩
theorem jvJ {k L:Nat} {h:Nat} {n:Int} {B:Bd} {v:Value} {w:World} (P:B.Ok k L) (hh:h<2^64) (hn:U64 n) (hg:GT w) (hv:SkB w v k L B) :
  Calls Tryz.prog 44 #[v,.agg #[.int .u64 h,.int .u64 n]] w fun e w'=>∃ x,e=.returned (.tuple #[x,.int .i64 0])/\SkB w' x k (jba (L,B) (h,n)).1 (jba (L,B) (h,n)).2/\Bw w w':=by
 have I:((jba (L,B) (h,n)).2).Ok k ((jba (L,B) (h,n)).1):=(jog (s:=(L,B)) (i:=(h,n)) P ⟨hh,hn⟩).1;obtain⟨y,s,hy,rfl,hA⟩:=hv;obtain⟨W0,am,t,r,z,N,ap⟩:=jbF w (skv y s) 44 #[.int .u64 h,.int .u64 n] 66 zsV 44;have ai:=Lib.hid r;have HO:=Lib.hid (jc8 (w:=W0) P ⟨y,s,hy,rfl,hA.go N⟩);obtain⟨Q,S⟩:∃ Q:Nat,(jba (L,B) (h,n)).1=Q:=⟨_,rfl⟩;obtain⟨R,A⟩:∃ R:Bd,(jba (L,B) (h,n)).2=R:=⟨_,rfl⟩;rw[S,A] at I ⊢
 have HT:Hid (∀ b g W,BdAt W b B->W.heap[g]? = some (.cells #[.int .u64 h,.int .u64 n] 66 (0,0))->GT W->Calls Tryz.prog 77 #[.agg #[b,.int .i64 k,.int .i64 L],.slice (some ⟨g,0,none⟩) 1 1] W fun e w'=>∃ v',e=.returned (.tuple #[.agg #[v',.int .i64 k,.int .i64 Q],.nilIface])/\BdAt w' v' R/\Bw W w'):=by
  rw[<- A,<- S];exact fun b g W h hI hg=>jsN b B k L _ g n W h P hI hh hn hg
 have HN:Hid (∀ b W,BdAt W b R->Calls Tryz.prog 78 #[.agg #[b,.int .i64 k,.int .i64 Q],.nilIface] W fun e w'=>∃ x,e=.returned (.tuple #[x,.int .i64 0])/\SkB w' x k Q R/\Bw W w'):=fun b W h=>joc b R k Q W h I
 obtain⟨c0,c1,c2,c3,c4,c5,c6,c7,c8,c9⟩:=jbg t;have ac:=Lib.hid (hg.go N);have aj:=Lib.hid z;have c:=Lib.hid N;clear t z N hA hy P I S A r hh hn hg;go_enter Tryz.func44,Tryz.ntmps44;go_wp2_with fail;refine HO.out.mono ?_;rintro e w1 ⟨b,rfl,hb,H⟩;obtain⟨T,rv,rfl⟩:=jaD hb;obtain⟨W2,an,Y,A,ak⟩:=jab w1 #[.iface T rv,.int .i64 k,.int .i64 L] 117;obtain⟨d0,d1,d2⟩:=cl3 Y;have j:=known (H.trans (A.mono H.size)) (Nat.le_refl _) ai.out;obtain⟨i0,i1⟩:=cl2 j;obtain⟨W3,ao,C,F,aq⟩:=jab W2 #[.int .u64 h,.int .u64 n] 66;rw[ak] at C;have ag:=Lib.hid (HT.out _ _ W3 ((hb.go A).go F) C ((ac.out.go H).go (A.trans (F.mono A.size))));have ah:=Lib.hid (known F (Nat.le_refl _) Y);have M:Hid (Bw w1 W3):=A.trans (F.mono A.size);have E:=Lib.hid H;clear Y A H hb j C F;go_wp2_with fail;refine ag.out.mono ?_;rintro e w3 ⟨b3,rfl,a,O⟩;obtain⟨T3,al,rfl⟩:=jaD a;have C:=known O (Nat.le_refl _) ah.out;obtain⟨p0,p1,p2⟩:=cl3 C;obtain⟨g0,g1,g2⟩:=cz3 C;obtain⟨V,hV,q,X,p⟩:=jb3 (.iface T3 al) (.int .i64 k) (.int .i64 Q) C;have ad:=Lib.hid (HN.out _ V (BdAt.set_work a C (by simp) (by simp) (by simp) X));have ar:=E.out.size;have d:Hid (Bw w V):=p _ _ (c.out.trans ((E.out.trans ((M.out.trans (O.mono M.out.size)).mono E.out.size)).mono c.out.size)) (by omega)
 have ae:Hid (V.heap[w.heap.size+2]? = some (.cells zsV 44 (0,0))):=by
  refine (X.2 _ (by omega)).trans ?_;exact known (E.out.trans ((M.out.trans (O.mono M.out.size)).mono E.out.size)) (Nat.le_refl _) aj.out
 obtain⟨q0,q1,q2⟩:=cl3 q;clear C q X p a O;go_wp2_with fail;refine ad.out.mono ?_;rintro e w5 ⟨x,rfl,⟨J,D,aa,rfl,f⟩,Z⟩;have G:=known Z (Nat.le_refl _) ae.out;obtain⟨r0,r1,r2,r3,r4,r5,r6,r7,r8,r9⟩:=jbg G;obtain⟨f0,f1,f2,f3,f4,f5,f6,f7,f8,f9⟩:=jft G;obtain⟨U,hU,o,m,l⟩:=ja9 (.int .i64 J.kind) (.int .i64 J.level) (.slice D.ea D.el D.ec) (.int .i64 J.hb) (.string J.hr) (.int .i64 J.cr) (.int .i64 J.cc) (.slice D.ca D.cl D.cc) (.int .i64 J.gf) (.slice D.ga D.gl D.gc) G;obtain⟨k0,k1,k2,k3,k4,k5,k6,k7,k8,k9⟩:=jbg o;have af:Hid (SkB U (.agg (skv J D)) k Q R):=SkB.apart ⟨J,D,aa,rfl,f⟩ G (fun i u=>jcd u) m;have ab:Hid (Bw w U):=l _ _ (d.out.trans (Z.mono d.out.size)) (by omega);clear G o m l aa f Z;go_wp2_with fail;exact bodyPost_ret (v:=.tuple #[.agg (skv J D),.int .i64 0]) (by simp[results,Tryz.f44,go_sem,k0,k1,k2,k3,k4,k5,k6,k7,k8,k9]) rfl ⟨_,rfl,af.out,ab.out⟩
end Go.Proofs.YtnegciklhanmbaaGreatDoor
