/- Package ladder: to. Package ladder: told, Lower, To: the lists of what is told lie in new memory. Printed by gen_lr.py. quota.isBudget; a notice is told. -/
import Derived.Test.YtnegciklhanmbaaGreatDoorZLK
set_option maxHeartbeats 2000000
set_option maxRecDepth 100000
namespace Go.Proofs.YtnegciklhanmbaaGreatDoor
open Go Go.RowKit Go.Shelf
section
attribute [local go_sem] Oper.semAt_some
theorem jie {P:Program} {g:Operand} {C:Array Tmp} {assign body:Code} {Q:Exit->Act->World->Prop} {a:Act} {w:World} {O:Nat} (L:List Nat) (N:Nat)
  {gf:Nat} {lb:Array Value} (X:a.eval g=.func (.func gf) #[] lb) (R:∀ args w,(callFunc gf args).run P w=.ok (.enter gf args) w)
  {enc:Nat->Value} {M:Nat} (F:jpO P gf lb enc L M w) (U:∀ b∈L,b<w.heap.size) (J:C.size=1)
  (I:Nat->World->Prop) (G:World->Prop) (T:OwnFrom w.heap.size I) (H:OwnFrom w.heap.size (fun (_:Unit) W=>G W)) (V:∀ k W,I k W->k<M) (S:I 0 w)
  (A:∀ (l k:Nat) (W:World) (K:Act->World->Prop),I k W->K { tmps:=((C.zip #[enc k]).foldl (fun t (p,v)=>t.setIfInBounds p v) a.tmps).setIfInBounds N (enc k),defers:=[] } W ->
   assign.wpIn (Fence.wide.inRound l) 7 P (Exit.then K (fun _ _ _=>False)) { tmps:=(C.zip #[enc k]).foldl (fun t (p,v)=>t.setIfInBounds p v) a.tmps,defers:=[] } W)
  (B:∀ (l k:Nat) (W:World),I k W->body.wpIn (Fence.wide.inRound l) 7 P (ownPostG w.heap.size (KL L) (fun (_:List Unit)=>I (k+1)) (fun c (_:List Unit) W=>c=.exit O/\G W) [] W) { tmps:=((C.zip #[enc k]).foldl (fun t (p,v)=>t.setIfInBounds p v) a.tmps).setIfInBounds N (enc k),defers:=[] } W)
  (E:∀ (D:Nat) (W:World),w.heap.size<=D->G W->W.heap[D]? = some (.deferred (some []))->Q .normal { a with defers:={ target:=.collected D,args:=#[] }::a.defers } W) :
  (Code.rangeFunc g C assign body).wp P (Exit.inBlock O Q) a w :=
 jiB L (fun k=>((C.zip #[enc k]).foldl (fun t (p,v)=>t.setIfInBounds p v) a.tmps).setIfInBounds N (enc k)) X R F U J I G T H V S A B E
theorem jmR {α:Type} {enc:α->List Value} {k C:Nat} (A:∀ x,(enc x).length=k) {X Y:World} {row:Option Nat} {a:Option Addr} {len cap:Nat} {l:List α} (B:SlC enc k X.heap.size X a len cap l) (E:X.grownBy Y row) (hr:∀ r,row=some r->C<=r/\∃ o:Obj,X.heap[r]? = some o/\o.isCells=false):SlC enc k Y.heap.size Y a len cap l:=by
 have G:SlC enc k X.heap.size Y a len cap l:=⟨⟨B.1.1,fun j x J=>by
  obtain⟨b,off,e,hb,I⟩:=B.1.2 j x J;refine⟨b,off,e,hb,fun i F=>?_⟩;have D:=I i F;have H:(enc x)[i]? = some ((enc x)[i]'(by rw[A];exact F)):=List.getElem?_eq_getElem _;rw[H] at D ⊢;exact jnu D E (fun r h=>(hr r h).2)⟩,B.2⟩
 exact G.mono E.size
theorem jxs {C:Nat} {X Y:World} {row:Option Nat} {v:Value} {B:Bd} (h:BdAt X v B) (E:X.grownBy Y row) (hr:∀ r,row=some r->C<=r/\∃ o:Obj,X.heap[r]? = some o/\o.isCells=false):BdAt Y v B:=by
 cases B with
 | num l=>obtain⟨a,len,cap,A,D⟩:=h;exact⟨a,len,cap,A,jmR (enc:=jaF) (fun _=>rfl) D E hr⟩
 | reg b r=>exact h
 | cnt c l=>obtain⟨a,len,cap,A,D⟩:=h;exact⟨a,len,cap,A,jmR (enc:=jaF) (fun _=>rfl) D E hr⟩
 | bkt f l=>obtain⟨a,len,cap,A,D⟩:=h;exact⟨a,len,cap,A,jmR (enc:=jb4) (fun _=>rfl) D E hr⟩
theorem jhq:∀ (k:Nat) (s:Nat × Bd),jfg (k+1) s=jsQ (jfg k s)
 | 0,_=>rfl
 | k+1,s=>jhq k (jsQ s)
theorem jjA:∀ (k:Nat) (s:Nat × Bd),(jfg k s).1=s.1+k
 | 0,_=>rfl
 | k+1,s=>by rw[jhq];show (jfg k s).1+1=_;rw[jjA k s];omega
theorem jwj {k L n:Nat} {B:Bd} (h:B.Ok k L) (C:L+n<=jdQ k):(jfg n (L,B)).2.Ok k (L+n):=by
 have A:=(jcv (L+n) C _ (L,B) rfl h).1;have e:jbL (L,B) (L+n)=jfg n (L,B):=by unfold jbL;rw[show L+n-(L,B).1=n by show L+n-L=n;omega]
 rw[e,jjA] at A;exact A
def jx4 (W:World) (b:Nat) (v:Value) (kind:Nat) (level:Int):Prop:=W.heap[b]? = some (.cells #[v,.int .i64 kind,.int .i64 level] 117 (0,0))
def TI (B:Bd) (kind level t:Nat) (ti:Int) (w:World) (k:Nat) (W:World):Prop :=
 k<=t-level/\(∃ T rv,jx4 W w.heap.size (.iface T rv) kind ((level:Int)+(k:Int))/\BdAt W (.iface T rv) (jfg k (level,B)).2)/\Boxed W (w.heap.size+1) 3 (.int .i64 ti) /\
 W.heap[w.heap.size+2]? = some (.cells #[.nilIface,.int .i64 0,.int .i64 0] 117 (0,0))/\Boxed W (w.heap.size+3) 119 .nilIface/\Bw w W
theorem jfU {X Y:World} {row:Option Nat} {b:Nat} {A:Array Value} {t:TypeId} {f:Nat × Nat} (h:X.heap[b]? = some (.cells A t f)) (D:X.grownBy Y row) (hr:∀ r,row=some r->∃ o:Obj,X.heap[r]? = some o/\o.isCells=false):Y.heap[b]? = some (.cells A t f):=by
 refine (D.block b (Array.getElem?_eq_some_iff.1 h).1 (fun e=>?_)).trans h;obtain⟨o,B,C⟩:=hr b e.symm;rw[h] at B
 cases B
 cases C
theorem jvC (B:Bd) (kind level t:Nat) (P:Int) (w:World) (C:Nat) (M:w.heap.size<=C):OwnFrom C (TI B kind level t P w):=fun k X Y row N D hr=>by
 obtain⟨E,⟨T,O,F,G⟩,H,I,J,L⟩:=N;have A:∀ r,row=some r->∃ o:Obj,X.heap[r]? = some o/\o.isCells=false:=fun r e=>(hr r e).2
 exact⟨E,⟨T,O,jfU F D A,jxs G D hr⟩,jfU H D A,jfU I D A,jfU J D A,ownFrom_below (β:=Unit) (B:=C) (Nat.le_refl _) M () X Y row L D hr⟩
theorem jwT (v:Value) (B:Bd) (kind level t:Nat) (J:Int) (w:World) (hb:BdAt w v B) (g:B.Ok kind level) (ht:t<=jdQ kind) (aJ:J=t\/(J<0/\t=0)) :
  Calls Tryz.prog 179 #[.agg #[v,.int .i64 kind,.int .i64 level],.int .i64 J] w fun e w'=>∃ v',e=.returned (.tuple #[.agg #[v',.int .i64 kind,.int .i64 ((jbL (level,B) t).1:Int)],.nilIface])/\BdAt w' v' (jbL (level,B) t).2/\Bw w w':=by
 obtain⟨T,rv,rfl⟩:=jaD hb;obtain⟨W0,aE,ab,aa,ak,q,aC⟩:=jbF w #[.iface T rv,.int .i64 kind,.int .i64 level] 117 #[.int .i64 J] 3 #[.nilIface,.int .i64 0,.int .i64 0] 117;have ap:Hid (∀ w,Calls Tryz.prog 87 #[.int .i64 kind] w fun e w'=>e=.returned (.int .i64 (jdQ kind:Nat))/\w'=w):=fun w=>(jdy kind w).mono fun e w' ⟨h1,h2⟩=>⟨by rw[h1,(jkS g).1],h2.symm⟩
 obtain⟨c0,c1,c2⟩:=cl3 ab;have d0:W0.cell? ⟨w.heap.size+1,0,none⟩=some (.int .i64 J):=cCc aa 0;have aF:jdQ kind<=4:=by unfold jdQ;split<;>omega
 have t1:decide ((jdQ kind:Int)<J)=false:=by rw[decide_eq_false_iff_not];omega
 have ay:=Lib.hid ab;have ax:=Lib.hid aa;have az:=Lib.hid ak;have ad:=Lib.hid q;have HB:=Lib.hid (hb.go q);have aH:=jlz g;clear ab aa ak q hb;refine jaq Tryz.func179 rfl ?_;simp only[Tryz.ntmps179,List.size_toArray,List.length_cons,List.length_nil,Nat.reduceAdd,Nat.reduceSub,Array.replicate_succ,Array.replicate_zero,List.push_toArray,List.append_toArray,List.nil_append,List.cons_append];go_wp2_with fail;go_step3;go_wp2_with fail;go_quiet ((go_at_call 87;exact Calls.quiet_of_same (ap.out _)));go_wp2_with fail;obtain⟨W3,aB,x,af,an⟩:=jab (W0.drewN nq) #[.nilIface] 119;rw[aB];have hz:(W0.drewN nq).heap.size=w.heap.size+3:=aC;rw[hz] at x an;have E:Bw W0 W3:=(jdV nq).trans af;have Z:=known E (Nat.le_refl _) ay.out;have m:=known E (Nat.le_refl _) ax.out;have n:=known E (Nat.le_refl _) az.out;obtain⟨p0,p1,p2⟩:=cl3 Z;obtain⟨W4,ai,y,M,aD⟩:=jab W3 #[.int .i64 level] 3;rw[an] at y aD;have av:=Lib.hid ai;have ae:=Lib.hid (E.trans (M.mono E.size))
 have h0:TI B kind level t J w 0 W4:=by
  refine⟨Nat.zero_le _,⟨T,rv,?_,HB.out.go ae.out⟩,known M (Nat.le_refl _) m,known M (Nat.le_refl _) n,known M (Nat.le_refl _) x,ad.out.trans (ae.out.mono ad.out.size)⟩;have h:=known M (Nat.le_refl _) Z;show W4.heap[w.heap.size]? = some (.cells #[.iface T rv,.int .i64 kind,.int .i64 ((level:Int)+((0:Nat):Int))] 117 (0,0));rw[show (level:Int)+((0:Nat):Int)=level by omega];exact h
 have H0:=Lib.hid h0;have aw:=Lib.hid y;have aK:w.heap.size+5<=W4.heap.size:=by omega
 have au:=Lib.hid g;clear ai x af E Z m n y M h0 g c0 c1 c2 d0;apply wp_label;go_wp2_with (go_at_call 207;refine (jo9 _ _).mono ?_;rintro e w' ⟨rfl,rfl⟩;rw[av.out])
 refine jie [] 7 (gf:=222) (lb:=#[.pointer (some ⟨w.heap.size+3+1,0,none⟩)]) rfl (enters_of Tryz.func222 (by kernel_rfl) rfl)
  (jjV (w.heap.size+3+1) level (t-level+1) W4 aw.out (by omega)) (by intro k hk;cases hk) rfl (TI B kind level t J w) (TI B kind level t J w (t-level)) (jvC B kind level t J w _ (by omega)) (fun _ X Y row h hg hr=>jvC B kind level t J w _ (by omega) _ X Y row h hg hr) (fun k W h=>Nat.lt_succ_of_le h.1) H0.out ?assign ?body ?fin
 case assign =>
  rintro l k W K hI hK;simp only[List.zip_toArray,List.zip_cons_cons,List.zip_nil_right,List.size_toArray,List.foldl_toArray',List.foldl_cons,List.foldl_nil,List.setIfInBounds_toArray,List.set_cons_succ,List.set_cons_zero] at hK ⊢;gi_wp2;exact hK
 case body =>
  rintro lo k W ⟨hk,⟨d,A,S,a⟩,P,H,N,L⟩;simp only[List.zip_toArray,List.zip_cons_cons,List.zip_nil_right,List.size_toArray,List.foldl_toArray',List.foldl_cons,List.foldl_nil,List.setIfInBounds_toArray,List.set_cons_succ,List.set_cons_zero];have c0:=P.cell;have e0:=N.cell;by_cases aG:level+k<t
  ·have g1:decide (J<=(level:Int)+(k:Int))=false:=by rw[decide_eq_false_iff_not];omega
   have am:=jwj au.out (show level+k<=jdQ kind by omega);have j:=jfm _ _ kind (level+k) W a am (by omega);rw[Int.natCast_add] at j;have F:W.heap[w.heap.size]? = some (.cells #[.iface d A,.int .i64 kind,.int .i64 ((level:Int)+(k:Int))] 117 (0,0)):=S;obtain⟨d0,d1,d2⟩:=cl3 F;gi_wp2_with fail;refine⟨trivial,(CallsIn.inRound lo (callsIn_wide.2 j)).mono ?_⟩;rintro e W5 ⟨v5,rfl,ac,I⟩;obtain⟨T5,i,rfl⟩:=jaD ac;have U:=known I (Nat.le_refl _) F;have ah:W5.heap[w.heap.size+3]? = some (.cells #[.nilIface] 119 (0,0)):=known I (Nat.le_refl _) N;obtain⟨q0,q1,q2⟩:=cl3 U;obtain⟨f0,f1,f2⟩:=cz3 U;obtain⟨V,hV,R,G,Q⟩:=jb3 (.iface T5 i) (.int .i64 kind) (.int .i64 ((level:Int)+(k:Int)+1)) U;have O:=(G.2 (w.heap.size+3) (by omega)).trans ah;have u0:V.cell? ⟨w.heap.size+3,0,none⟩=some (.nilIface):=cCc O 0;have v0:V.frozen? ⟨w.heap.size+3,0,none⟩=false:=cFz O 0;have aI:V.setCell ⟨w.heap.size+3,0,none⟩ .nilIface=V:=jag O rfl;have c:BdAt V (.iface T5 i) (jfg (k+1) (level,B)).2:=by rw[jhq];exact BdAt.set_work ac U (by simp) (by simp) (by simp) G
   have f:KeepsFrom W4.heap.size W V:=by
    rw[<- hV];exact (jgw I (Nat.le_refl _)).trans ((((KeepsOthers.setCell _ _ _).from _).trans ((KeepsOthers.setCell _ _ _).from _)).trans ((KeepsOthers.setCell _ _ _).from _))
   have aj:jx4 V w.heap.size (.iface T5 i) kind ((level:Int)+((k+1:Nat):Int)):=by
    rw[show (level:Int)+((k+1:Nat):Int)=(level:Int)+(k:Int)+1 by omega];exact R
   have HT:Hid (TI B kind level t J w (k+1) V):=⟨by omega,⟨T5,i,aj,c⟩,(G.2 _ (by omega)).trans (known I (Nat.le_refl _) P),(G.2 _ (by omega)).trans (known I (Nat.le_refl _) H),O,Q _ _ (L.trans (I.mono L.size)) (Nat.le_refl _)⟩;clear R G Q O c aj ah U ac I;gi_wp2_with fail;exact⟨f,(fun b hb=>by cases hb),HT.out⟩
  ·have g1:decide (J<=(level:Int)+(k:Int))=true:=by rw[decide_eq_true_iff];omega
   obtain rfl:k=t-level:=by omega
   have HT:Hid (TI B kind level t J w (t-level) W):=⟨hk,⟨d,A,S,a⟩,P,H,N,L⟩;clear S a P H N L;gi_wp2_with fail;exact⟨KeepsFrom.refl _ _,rfl,HT.out⟩
 case fin =>
  rintro D W hD ⟨hk,⟨d,A,S,a⟩,P,H,N,L⟩ hK;have F:W.heap[w.heap.size]? = some (.cells #[.iface d A,.int .i64 kind,.int .i64 ((level:Int)+((t-level:Nat):Int))] 117 (0,0)):=S
  have o:(level:Int)+((t-level:Nat):Int)=((jbL (level,B) t).1:Int):=by
   unfold jbL;rw[jjA];show _=((level+(t-level):Nat):Int);omega
  rw[o] at F;have al:BdAt W (.iface d A) (jbL (level,B) t).2:=a;obtain⟨L2,u⟩:∃ L2,(jbL (level,B) t).1=L2:=⟨_,rfl⟩;obtain⟨B2,s⟩:∃ B2,(jbL (level,B) t).2=B2:=⟨_,rfl⟩;rw[u] at F;rw[s] at al;have ar:=Lib.hid u;have ao:=Lib.hid s;clear u s o;have e0:=N.cell;obtain⟨d0,d1,d2⟩:=cl3 F;obtain⟨r0,r1,r2⟩:=cl3 H;obtain⟨f0,f1,f2⟩:=cz3 H;obtain⟨V,hV,R,G,Q⟩:=jb3 (b:=w.heap.size+1+1) (.iface d A) (.int .i64 kind) (.int .i64 L2) H;have c:BdAt V.drew (.iface d A) B2:=(BdAt.set_work al H (by simp) (by simp) (by simp) G).go (Below.refl _ _).drew;have f:V.drew.heap[D]? = some (.deferred (some [])):=(G.2 D (by omega)).trans hK;have ag:Bw w V.drew:=(Q _ _ L (by omega)).drew;have z:(V.drew.putObj D (.deferred none)).heap[w.heap.size+1+1]? = some (.cells #[.iface d A,.int .i64 kind,.int .i64 L2] 117 (0,0)):=(World.putObj_heap_other (by omega)).trans R;have aA:=Lib.hid c;have aq:=Lib.hid ag;have p:=Lib.hid f;have HV:=Lib.hid hV;clear c ag f hV R G Q;go_wp2_with fail;go_region;rw[HV.out];go_wp2_with fail;rw[Exit.noGoto_ret];have x0:(V.drew.putObj D (.deferred none)).cell? ⟨w.heap.size+1+1,0,none⟩=some (.iface d A):=cCc z 0;have x1:(V.drew.putObj D (.deferred none)).cell? ⟨w.heap.size+1+1,1,none⟩=some (.int .i64 kind):=cCc z 1;have x2:(V.drew.putObj D (.deferred none)).cell? ⟨w.heap.size+1+1,2,none⟩=some (.int .i64 L2):=cCc z 2;refine jau (v:=.tuple #[.agg #[.iface d A,.int .i64 kind,.int .i64 L2],.nilIface]) p.out ?_ ?_
  ·simp[results,Tryz.f179,go_sem,x0,x1,x2]
  ·rw[ar.out,ao.out]
   exact⟨_,rfl,jxs (C:=0) aA.out (grownBy_putObj' _ D _) (fun r e=>by cases e;exact⟨Nat.zero_le _,_,p.out,rfl⟩),jee aq.out (by omega) p.out⟩
theorem jvD (v:Value) (B:Bd) (kind level t:Nat) (w:World) (hb:BdAt w v B) (A:B.Ok kind level) (ht:t<=jdQ kind) :
  Calls Tryz.prog 179 #[.agg #[v,.int .i64 kind,.int .i64 level],.int .i64 t] w fun e w'=>∃ v',e=.returned (.tuple #[.agg #[v',.int .i64 kind,.int .i64 ((jbL (level,B) t).1:Int)],.nilIface])/\BdAt w' v' (jbL (level,B) t).2/\Bw w w' :=
 jwT v B kind level t t w hb A ht (.inl rfl)
end
def SS.From (s:SS) (n:Nat):Prop:=(∀ z,s.ea=some z->n<=z.block)/\(∀ z,s.ca=some z->n<=z.block)/\(∀ z,s.ga=some z->n<=z.block)
theorem SS.From.mono {s:SS} {n m:Nat} (h:s.From m) (B:n<=m):s.From n:=⟨fun z A=>Nat.le_trans B (h.1 z A),fun z A=>Nat.le_trans B (h.2.1 z A),fun z A=>Nat.le_trans B (h.2.2 z A)⟩
def SkN (n:Nat) (W:World) (v:Value) (k L:Nat) (B:Bd):Prop:=∃ (y:Sk) (s:SS),y=jcy k L B/\v=.agg (skv y s)/\s.At W.heap.size W y/\s.From n
theorem SkN.mono {n m:Nat} {W:World} {v:Value} {k L:Nat} {B:Bd} (h:SkN m W v k L B) (F:n<=m):SkN n W v k L B:=by
 obtain⟨y,s,A,C,D,E⟩:=h;exact⟨y,s,A,C,D,E.mono F⟩
theorem SkN.go {n:Nat} {W A:World} {v:Value} {k L:Nat} {B:Bd} (h:SkN n W v k L B) (hb:Bw W A):SkN n A v k L B:=by
 obtain⟨y,s,C,D,E,F⟩:=h;exact⟨y,s,C,D,E.go hb,F⟩
theorem SkN.apart {n:Nat} {W V:World} {v:Value} {k L:Nat} {B:Bd} (h:SkN n W v k L B) {b:Nat} {F:Array Value} {t:TypeId} (D:W.heap[b]? = some (.cells F t (0,0))) (E:∀ (i:Nat) (u:Int),F[i]? ≠ some (Value.int .u64 u)) (C:OnlyAt b W V):SkN n V v k L B:=by
 obtain⟨y,s,G,H,A,I⟩:=h;exact⟨y,s,G,H,⟨ja5 (i0:=0) (by decide) (fun x=>⟨x,rfl⟩) D E C A.e,ja5 (i0:=0) (by decide) (fun x=>⟨x,rfl⟩) D E C A.c,ja5 (i0:=1) (by decide) (fun x=>⟨x.2,rfl⟩) D E C A.g⟩,I⟩
theorem jpu {k L:Nat} {B:Bd} {v:Value} {w:World} (h:B.Ok k L) (G:BdAt w v B) :
  Calls Tryz.prog 89 #[.agg #[v,.int .i64 k,.int .i64 L]] w fun e w'=>∃ x,e=.returned x/\SkN w.heap.size w' x k L B/\Bw w w':=by
 cases B with
 | num l =>
  obtain⟨a,len,cap,rfl,A⟩:=G;refine (jgr k L l a len cap w A.1 (by have:=h.2.2.2.1;have:=A.1.1;omega)).mono ?_;rintro e w' ⟨s,rfl,F,C,D,E,hb⟩;exact⟨_,rfl,⟨_,s,rfl,rfl,F,C,D,E⟩,hb⟩
 | reg b r =>
  obtain rfl:v=_:=G;refine (jgs k L b (jat r) w).mono ?_;rintro e w' ⟨s,rfl,F,C,D,E,hb⟩;exact⟨_,rfl,⟨_,s,rfl,rfl,F,C,D,E⟩,hb⟩
 | cnt c l =>
  obtain⟨a,len,cap,rfl,A⟩:=G;refine (jgq k L 2 c l a len cap w A.1 (by have:=jdR h.2.2.1 h.2.1;have:=h.2.2.2.1;have:=A.1.1;omega)).mono ?_;rintro e w' ⟨s,rfl,F,C,D,E,hb⟩;exact⟨_,rfl,⟨_,s,rfl,rfl,F,C,D,E⟩,hb⟩
 | bkt f l =>
  obtain⟨a,len,cap,rfl,A⟩:=G;refine (jgp k L f l a len cap w A.1 (by have:=jdn f l (by have:=h.2.2.1;omega) h.2.2.2.1 h.2.2.2.2.2.2;have:=A.1.1;omega)).mono ?_;rintro e w' ⟨s,rfl,F,C,D,E,hb⟩;exact⟨_,rfl,⟨_,s,rfl,rfl,F,C,D,E⟩,hb⟩
theorem jsA (v:Value) (B:Bd) (kind level:Nat) (w:World) (hb:BdAt w v B) (M:B.Ok kind level) :
  Calls Tryz.prog 78 #[.agg #[v,.int .i64 kind,.int .i64 level],.nilIface] w fun e w'=>∃ x,e=.returned (.tuple #[x,.int .i64 0])/\SkN w.heap.size w' x kind level B/\Bw w w':=by
 obtain⟨T,r,rfl⟩:=jaD hb;obtain⟨b,c,J,L,E,d⟩:=jas w #[.iface T r,.int .i64 kind,.int .i64 level] 117 zsV 44;obtain⟨z,c1,c2⟩:=cl3 J;have Y:=Lib.hid (jpu (w:=b) M (hb.go E));have P:=Lib.hid L;have G:=Lib.hid E;clear J L E hb M;go_enter Tryz.func78,Tryz.ntmps78;go_wp2_with fail;refine Y.out.mono ?_;rintro e t ⟨x,rfl,⟨y,s,U,rfl,S,H⟩,F⟩;have A:=known F (Nat.le_refl _) P.out;have a:=Lib.hid U;have N:=Lib.hid (H.mono (n:=w.heap.size) (by omega));clear U H;obtain⟨r0,r1,r2,r3,r4,r5,r6,r7,r8,r9⟩:=jbg A;obtain⟨g0,g1,g2,g3,g4,g5,g6,g7,g8,g9⟩:=jft A;obtain⟨V,hV,I,D,C⟩:=ja9 (.int .i64 y.kind) (.int .i64 y.level) (.slice s.ea s.el s.ec) (.int .i64 y.hb) (.string y.hr) (.int .i64 y.cr) (.int .i64 y.cc) (.slice s.ca s.cl s.cc) (.int .i64 y.gf) (.slice s.ga s.gl s.gc) A;have O:=Lib.hid A;have Z:=Lib.hid (And.intro D C);have X:=Lib.hid S;have Q:=Lib.hid F;obtain⟨f,g,h,j,k,l,m,o,p,q⟩:=jbg I;clear A D C S F I;go_wp2_with fail;obtain⟨D,C⟩:=Z.out;have R:SkN w.heap.size t (.agg (skv y s)) kind level B:=⟨y,s,a.out,rfl,X.out,N.out⟩;exact bodyPost_ret (v:=.tuple #[.agg (skv y s),.int .i64 0]) (by simp[results,Tryz.f78,go_sem,f,g,h,j,k,l,m,o,p,q]) rfl ⟨_,rfl,R.apart O.out (fun i u=>jcd u) D,C _ _ (G.out.trans (Q.out.mono G.out.size)) (Nat.le_succ _)⟩
theorem jom {k L:Nat}  {B:Bd} {v:Value} {w:World} (M:B.Ok k L) (Z:L<jdQ k) (hv:SkB w v k L B) :
  Calls Tryz.prog 84 #[v] w fun e w'=>∃ x,e=.returned (.tuple #[x,.int .i64 0])/\SkN w.heap.size w' x k (L+1) B.low/\Bw w w':=by
 have G:(B.low).Ok k ((L+1)):=jb5 M Z;obtain⟨y,s,hy,rfl,hA⟩:=hv;obtain⟨W0,ag,o,p,Q,ai⟩:=jas w (skv y s) 44 zsV 44;have HO:=Lib.hid (jc8 (w:=W0) M ⟨y,s,hy,rfl,hA.go Q⟩);obtain⟨N,R⟩:∃ N:Nat,L+1=N:=⟨_,rfl⟩;obtain⟨O,A⟩:∃ O:Bd,B.low=O:=⟨_,rfl⟩;rw[R,A] at G ⊢
 have HT:Hid (∀ b W,BdAt W b B->Calls Tryz.prog 121 #[.agg #[b,.int .i64 k,.int .i64 L]] W fun e w'=>∃ v',e=.returned (.tuple #[.agg #[v',.int .i64 k,.int .i64 N],.nilIface])/\BdAt w' v' O/\Bw W w'):=by
  rw[<- A,<- R];rw[Int.natCast_add];exact fun b W h=>jfm b B k L W h M Z
 have HN:Hid (∀ b W,BdAt W b O->Calls Tryz.prog 78 #[.agg #[b,.int .i64 k,.int .i64 N],.nilIface] W fun e w'=>∃ x,e=.returned (.tuple #[x,.int .i64 0])/\SkN W.heap.size w' x k N O/\Bw W w'):=fun b W h=>jsA b O k N W h G
 obtain⟨c0,c1,c2,c3,c4,c5,c6,c7,c8,c9⟩:=jbg o;have ae:=Lib.hid p;have c:=Lib.hid Q;clear o p Q hA hy M G R A Z;go_enter Tryz.func84,Tryz.ntmps84;go_wp2_with fail;refine HO.out.mono ?_;rintro e w1 ⟨b,rfl,hb,q⟩;obtain⟨T,rv,rfl⟩:=jaD hb;obtain⟨W2,ah,X,A,aj⟩:=jab w1 #[.iface T rv,.int .i64 k,.int .i64 L] 117;obtain⟨d0,d1,d2⟩:=cl3 X;have ac:=Lib.hid (HT.out _ W2 (hb.go A));have ad:=Lib.hid X;have I:=Lib.hid A;have D:=Lib.hid q;clear X A q hb;go_wp2_with fail;refine ac.out.mono ?_;rintro e w3 ⟨b3,rfl,a,J⟩;obtain⟨T3,af,rfl⟩:=jaD a;have F:=known J (Nat.le_refl _) ad.out;obtain⟨p0,p1,p2⟩:=cl3 F;obtain⟨g0,g1,g2⟩:=cz3 F;obtain⟨V,hV,n,S,m⟩:=jb3 (.iface T3 af) (.int .i64 k) (.int .i64 N) F;have z:=Lib.hid (HN.out _ V (BdAt.set_work a F (by simp) (by simp) (by simp) S));have ak:=D.out.size;have P:Hid (Bw w V):=m _ _ (c.out.trans ((D.out.trans ((I.out.trans (J.mono I.out.size)).mono D.out.size)).mono c.out.size)) (by omega)
 have aa:Hid (V.heap[w.heap.size+1]? = some (.cells zsV 44 (0,0))):=by
  refine (S.2 _ (by omega)).trans ?_;exact known (D.out.trans ((I.out.trans (J.mono I.out.size)).mono D.out.size)) (Nat.le_refl _) ae.out
 obtain⟨q0,q1,q2⟩:=cl3 n;clear F n S m a J;go_wp2_with fail;refine z.out.mono ?_;rintro e w5 ⟨x,rfl,⟨H,C,r,rfl,d,f⟩,Y⟩;have E:=known Y (Nat.le_refl _) aa.out;obtain⟨r0,r1,r2,r3,r4,r5,r6,r7,r8,r9⟩:=jbg E;obtain⟨f0,f1,f2,f3,f4,f5,f6,f7,f8,f9⟩:=jft E;obtain⟨U,hU,l,j,g⟩:=ja9 (.int .i64 H.kind) (.int .i64 H.level) (.slice C.ea C.el C.ec) (.int .i64 H.hb) (.string H.hr) (.int .i64 H.cr) (.int .i64 H.cc) (.slice C.ca C.cl C.cc) (.int .i64 H.gf) (.slice C.ga C.gl C.gc) E;obtain⟨k0,k1,k2,k3,k4,k5,k6,k7,k8,k9⟩:=jbg l;have ab:Hid (SkN w.heap.size U (.agg (skv H C)) k N O):=SkN.apart ⟨H,C,r,rfl,d,f.mono (by have:=P.out.size;omega)⟩ E (fun i u=>jcd u) j;have t:Hid (Bw w U):=g _ _ (P.out.trans (Y.mono P.out.size)) (by omega);clear E l j g r d f Y;go_wp2_with fail;exact bodyPost_ret (v:=.tuple #[.agg (skv H C),.int .i64 0]) (by simp[results,Tryz.f84,go_sem,k0,k1,k2,k3,k4,k5,k6,k7,k8,k9]) rfl ⟨_,rfl,ab.out,t.out⟩
section
def jbO (b:Int):Bool:=decide (0<=b)&&decide (b<=1000000)
theorem jgD (n:Int) (w:World):Calls Tryz.prog 81 #[.int .i64 n] w fun e w'=>e=.returned (.bool (jbO n))/\w'=w:=by
 have B:Hid (jbO n=(decide (0<=n)&&decide (n<=1000000))):=rfl;generalize jbO n=b at B ⊢;by_cases C:0<=n
 ·by_cases D:n<=1000000
  ·have A:Hid (b=true):=by rw[Hid,B.out,decide_eq_true C,decide_eq_true D];rfl
   go_enter Tryz.func81,Tryz.ntmps81;go_wp2_with fail;go_ret;exact⟨by rw[A.out];rfl,rfl⟩
  ·have A:Hid (b=false):=by rw[Hid,B.out,decide_eq_false D,Bool.and_false]
   go_enter Tryz.func81,Tryz.ntmps81;go_wp2_with fail;go_ret;exact⟨by rw[A.out];rfl,rfl⟩
 ·have A:Hid (b=false):=by rw[Hid,B.out,decide_eq_false C,Bool.false_and]
  go_enter Tryz.func81,Tryz.ntmps81;go_wp2_with fail;go_ret;exact⟨by rw[A.out];rfl,rfl⟩
def jvU (F base:Nat) (T pv:Value) (ps:List Nat) (p:Nat) (w w':World):Prop:=∃ pv',w'.heap[F]? = some (.cells #[pv',T] 167 (0,0))/\w'.ownsRow base 3 1 pv' (ps++[p]).length ((ps++[p]).flatMap jhr)/\some F≠pv'.ownBlock /\
   (∀ k,k<w.heap.size->k≠F->some k≠pv.ownBlock->w'.heap[k]? = w.heap[k]?)/\(pv'.ownBlock=pv.ownBlock\/∃ g,pv'.ownBlock=some g/\w.heap.size<=g)/\Below base w w'
attribute [-go_sem] Builtin.append_
theorem jrT (F A:Nat) (T:Value) (c:Value) (B:List Nat) (p:Nat) (w:World) (a:w.heap[F]? = some (.cells #[c,T] 167 (0,0))) (hb:A<=F) (D:w.ownsRow A 3 1 c B.length (B.flatMap jhr)) (M:some F≠c.ownBlock) (hn:B.length<4294967) :
  Calls Tryz.prog 85 #[.pointer (some ⟨F,0,none⟩),.int .i64 p] w fun e w'=>e=.returned (.tuple #[])/\jvU F A T c B p w w':=by
 have l:=(Array.getElem?_eq_some_iff.1 a).1;obtain⟨X,Y,rfl⟩:=jbD D;obtain⟨g,cap,r,R,C,N,aa,-,L⟩:=jap Tryz.prog 25 jkq jjK rfl (by decide) (W:=w) D (Below.refl A w) (Nat.le_refl _) (by omega) (jhr p) rfl (jnw p) (by omega) (by decide)
 have E:∀ j u,(jhr p)[j]? = some u->(w.alloc (.cells (jhr p).toArray 3)).cell? ((⟨w.heap.size,0,none⟩:Addr).add j)=some u:=fun j u hj=>by
  have:=cCc (World.alloc_heap_new w (.cells (jhr p).toArray 3)) j;have t:(⟨w.heap.size,0,none⟩:Addr).add j=⟨w.heap.size,j,none⟩:=by unfold Addr.add;split<;>simp_all
  rw[t,this];simpa using hj
 have U:=jen 25 jkq jjK (D.alloc _) (n:=B.length) (m:=1) rfl E (jnw p) (by omega) (by unfold maxLen;omega) (by omega) R
 have H:Value.ownBlock (.slice (some ⟨g,0,none⟩) (B.length+1) cap)=Value.ownBlock (.slice X B.length Y)\/∃ b,Value.ownBlock (.slice (some ⟨g,0,none⟩) (B.length+1) cap)=some b/\w.heap.size<=b:=by
  rcases U with e | ⟨b,e,h⟩
  ·exact .inl e
  ·refine .inr ⟨b,e,?_⟩
   simp at h;omega
 have Q:F≠g:=fun e=>by
  rcases H with h | ⟨b,h,hb⟩
  ·exact M (by rw[<- h,e];rfl)
  ·injection h with h
   simp at h;omega
 have I:r.heap[F]? = some (.cells #[.slice X B.length Y,T] 167 (0,0)):=(L F l M).trans a;have x:w.cell? ⟨F,0,none⟩=some (.slice X B.length Y):=cCc a 0;have y:r.cell? ⟨F,0,none⟩=some (.slice X B.length Y):=cCc I 0;have z:r.frozen? ⟨F,0,none⟩=false:=cFz I 0;obtain⟨V,hV,P,J,O,o,q⟩:=jbT (i:=0) I (.slice (some ⟨g,0,none⟩) (B.length+1) cap);have S:(B++[p]).length=B.length+1:=by simp
 have G:V.ownsRow A 3 1 (.slice (some ⟨g,0,none⟩) (B.length+1) cap) (B.length+1) ((B++[p]).flatMap jhr):=by
  rw[List.flatMap_append];rw[show ([p]:List Nat).flatMap jhr=jhr p from by simp];obtain⟨v,d,Z,f⟩:=jgk C;exact⟨C.1,.inr ⟨g,cap,d,rfl,v,(J.2 g (Array.getElem?_eq_some_iff.1 Z).1 (fun e=>Q e.symm)).trans Z,f⟩⟩
 have s:Hid (jvU F A T (.slice X B.length Y) B p w V):=by
  refine⟨.slice (some ⟨g,0,none⟩) (B.length+1) cap,P,by rw[S];exact G,fun e=>Q (by injection e),fun k hk Z f=>?_,H,O _ _ hb N⟩;exact (J.2 k (by omega) Z).trans (L k hk f)
 unfold jhr at R;clear a D C U H I P J O G E L N M o q;go_enter Tryz.func85,Tryz.ntmps85;go_wp2_with fail;go_end0;exact⟨rfl,s.out⟩
end
end Go.Proofs.YtnegciklhanmbaaGreatDoor
