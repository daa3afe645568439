/- The reference of layer 9: Add, Merge, Lower, Rank, at bins that are right. Printed by gen_dj.py. -/
import Derived.Test.YtafhpamnegmilaaGreatDoorYRP
import Derived.Test.YtafhpamnegmilaaGreatDoorYDF
set_option maxHeartbeats 8000000
set_option maxRecDepth 100000
namespace Go.Proofs.YtafhpamnegmilaaGreatDoor
open Go Go.RowKit Go.Shelf
structure BkR (f:Nat) (l:List (Int × Int)):Prop where
 hf:f<=3
 up:jb5 l
 pos:∀ b∈l,b.2≠0
 u:jbj l
 bd:∀ b∈l,jao f b.1=true
theorem BkR.r {f:Nat} {l:List (Int × Int)} (h:BkR f l):jaP f l=true:=jd1 f l h.hf h.up h.pos h.bd
theorem BkR.len {f:Nat} {l:List (Int × Int)} (h:BkR f l):l.length<=513:=by have:=jfc f l h.hf h.up h.bd;omega
theorem BkR.b {f:Nat} {l:List (Int × Int)} (h:BkR f l):jsG l:=fun b A=>⟨jhB f l h.hf h.bd b A,h.u b A⟩
theorem BkR.right {f:Nat} {l:List (Int × Int)} (h:BkR f l) {a:Option Addr} {len cap:Nat} {w:World} (A:SlC jbO 2 w.heap.size w a len cap l) :
  CR 121 #[.agg #[.int .i64 f,.slice a len cap]] w (.bool true):=by
 have:=jeT f a len cap l w A.1 (Nat.le_trans A.2.1 A.2.2.1) h.b;rw[h.r] at this;exact this
theorem jfI:∀ (q p:List (Int × Int)),jbj p->jbj q->jbj (jc4 p q)
 | [],_,hp,_=>hp
 | x::q,p,hp,hq=>by
  refine jfI q (jdb p x.1 x.2) ?_ (fun c A=>hq c (List.mem_cons_of_mem _ A));unfold jdb;split
  ·exact hp
  ·exact jfb p x.1 x.2 hp (hq x List.mem_cons_self)
def jn5 (f:Int) (m:List (Int × Int)) (w:World) (e:Ending) (w':World):Prop:=∃ a cap,e=.returned (.tuple #[.agg #[.int .i64 f,.slice a m.length cap],.int .i64 0])/\SlC jbO 2 w'.heap.size w' a m.length cap m/\Bw w w'
def jws (f:Int) (m:List (Int × Int)) (w:World) (e:Ending) (w':World):Prop:=∃ a cap,e=.returned (.tuple #[.agg #[.int .i64 f,.slice a m.length cap],.int .i64 0])/\SlC jbO 2 w'.heap.size w' a m.length cap m/\(∀ z,a=some z->w.heap.size<=z.block)/\Bw w w'
theorem jgt {W V:World} {b:Nat} {f:Int} {t:TypeId} {a:Option Addr} {len cap:Nat} {l:List (Int × Int)} (h:SlC jbO 2 W.heap.size W a len cap l) (B:W.heap[b]? = some (.cells #[.int .i64 f,.slice none 0 0] t (0,0))) (A:OnlyAt b W V):SlC jbO 2 V.heap.size V a len cap l :=
 jaW (i0:=1) (by decide) (fun x=>⟨x.2,rfl⟩) B (fun i u h=>by rcases i with _ | _ | i<;>simp at h) A h
theorem jsa {W:World} {b:Nat} {x y:Value} {t:TypeId} (u v:Value) (h:W.heap[b]? = some (.cells #[x,y] t (0,0))) :
  ∃ V,(W.setCell ⟨b,0,none⟩ u).setCell ⟨b,1,none⟩ v=V/\V.heap[b]? = some (.cells #[u,v] t (0,0))/\OnlyAt b W V/\(∀ n B,Below n B W->n<=b->Below n B V) :=
 ⟨_,rfl,hSk (hSk h _) _,((OnlyAt.refl _ _).set _ _).set _ _,fun _ _ C A=>(C.setCell (p:=⟨b,0,none⟩) A _).setCell (p:=⟨b,1,none⟩) A _⟩
theorem jiB (f:Nat) (l m:List (Int × Int)) (a:Option Addr) (len cap:Nat) (r:Option Addr) (A C:Nat) (w:World) (H:BkR f l) (D:BkR f m) (hL:SlC jbO 2 w.heap.size w a len cap l) (hM:SlC jbO 2 w.heap.size w r A C m) :
  Calls Tryz.prog 83 #[.agg #[.int .i64 f,.slice a len cap],.agg #[.int .i64 f,.slice r A C]] w (jn5 f (ja7 (jaB l m)) w):=by
 have ai:=hL.1.1;have ak:=hM.1.1;obtain⟨q,aA,N,ad,ac,F,aE⟩:=jbJ w #[.int .i64 f,.slice a len cap] 39 #[.int .i64 f,.slice r A C] 39 #[.int .i64 0,.slice none 0 0] 39;have y:=H.right (hL.go F);have n:Hid (∀ W,Bw q W->CR 121 #[.agg #[.int .i64 f,.slice r A C]] W (.bool true)):=fun W hb=>D.right ((hM.go F).go hb)
 have HX:Hid (∀ W,Bw q W->W.heap[w.heap.size]? = some (.cells #[.int .i64 f,.slice a len cap] 39 (0,0))/\W.heap[w.heap.size+1]? = some (.cells #[.int .i64 f,.slice r A C] 39 (0,0))/\W.heap[w.heap.size+2]? = some (.cells #[.int .i64 0,.slice none 0 0] 39 (0,0))):=fun W hb=>⟨jab hb (Nat.le_refl _) N,jab hb (Nat.le_refl _) ad,jab hb (Nat.le_refl _) ac⟩
 have HS:=Lib.hid (And.intro (hL.go F) (hM.go F));have aB:len<=513:=by have:=H.len;omega
 have aC:A<=513:=by have:=D.len;omega
 have ap:=Lib.hid ak;obtain⟨S,L⟩:∃ S:Nat->List (Int × Int),∀ k,S k=jc4 l (m.take k):=⟨_,fun _=>rfl⟩;have o:Hid (S 0=l):=by rw[Hid,L];rfl
 have aw:Hid (∀ (k:Nat) (x:Int × Int),m[k]? = some x->S (k+1)=jdb (S k) x.1 x.2):=fun k x X=>by rw[L,L,jai X,jha]
 have p:Hid (∀ k,k<=A->(S k).length<=len+k):=fun k H=>by
  have:=jfH (m.take k) l;rw[List.length_take] at this;rw[L];omega
 have g:Hid (S A=ja7 (jaB l m)):=by rw[Hid,L,List.take_of_length_le (by omega)];exact jmk H.pos H.u D.pos D.u
 have HU:=Lib.hid D.u
 have ax:Hid (∀ k,jbj (S k)):=fun k=>by
  rw[L];exact jfI _ _ H.u (fun c hc=>D.u c (List.mem_of_mem_take hc))
 generalize ja7 (jaB l m)=R at g ⊢;have Y:=Lib.hid F;have ao:Hid (len=(S 0).length):=by rw[o.out];exact ai
 have aq:Hid (SlC jbO 2 q.heap.size q a len cap (S 0)):=by rw[o.out];exact HS.out.1
 obtain⟨c0,c1⟩:=cl2 N;clear N ad ac F hL hM ai ak H D L;go_enter Tryz.func83,Tryz.ntmps83;go_wp2_with fail;refine y.mono ?_;rintro e w1 ⟨rfl,G⟩;obtain⟨z,ae,-⟩:=HX.out w1 G;obtain⟨d0,d1⟩:=cl2 z;obtain⟨y0,y1⟩:=cl2 ae;have I:=n.out w1 G;have Z:=Lib.hid G;clear z ae G y c0 c1;go_wp2_with fail;refine I.mono ?_;rintro e w2 ⟨rfl,ag⟩;have E:=Z.out.trans (ag.mono Z.out.size);obtain⟨aa,af,-⟩:=HX.out w2 E;obtain⟨x0,x1⟩:=cl2 aa;obtain⟨z0,z1⟩:=cl2 af;have al:=Lib.hid E;have ar:Hid (SlC jbO 2 w2.heap.size w2 a len cap (S 0)):=aq.out.go E;clear aa af ag E I d0 d1 y0 y1;go_wp2_with fail;go_loopw [6,7] (fun lv i wr=>∃ (k:Nat) (T:Option Addr) (J U:Nat),i=.int .i64 k/\k<=A/\lv=.slice T J U/\J<=2000/\Hid (J=(S k).length)/\Hid (SlC jbO 2 wr.heap.size wr T J U (S k))/\Hid (Bw q wr)) (fun _ i _=>A-(intOf i).toNat)
 case atStart=>exact⟨0,a,len,cap,rfl,Nat.zero_le _,rfl,by omega,ao.out,ar.out,al.out⟩
 case round =>
  obtain⟨k,T,J,U,rfl,H,rfl,aD,j,HO,HB⟩:=hrel;obtain⟨O,P,B⟩:=HX.out wr HB.out;obtain⟨u0,u1⟩:=cl2 O;obtain⟨v0,v1⟩:=cl2 P;have i0:(0:Int)<=(k:Int):=Int.natCast_nonneg _;by_cases aj:k<A
  ·obtain⟨x,X⟩:∃ x,m[k]? = some x:=⟨_,List.getElem?_eq_getElem (by rw[<- ap.out];exact aj)⟩
   obtain⟨b,off,rfl,ay,hc⟩:=(HS.out.2.go HB.out).1.2 k x X;have c0:wr.cell? ⟨b,off+k*2,none⟩=some (.int .i64 x.1):=hc 0 (by omega);have c1:wr.cell? ⟨b,off+k*2+1,none⟩=some (.int .u64 x.2):=hc 1 (by omega);have i1:(k:Int)<(A:Int):=by omega
   have HT:=Lib.hid (aw.out k x X);have HP:=Lib.hid (jkN x.1 x.2 (S k) T J U wr.drew HO.out (by have:=p.out k H;have:=j.out;omega) (HU.out x (List.mem_of_getElem? X)) (ax.out k));have az:=p.out (k+1) aj;obtain⟨x1,x2⟩:=x;dsimp only at c0 c1 HP HT;rw[<- HT.out] at HP;obtain⟨n2,Q⟩:∃ n2,(S (k+1)).length=n2:=⟨_,rfl⟩;rw[Q] at az;have h:=Lib.hid Q.symm;have d:=Lib.hid HB.out.drew;clear hc X ay O P B Q;go_wp2_with fail;refine wp_region_any (by kernel_rfl) ?_;change wpAny _ _ _ _ _ _ _ (World.drew _)
   ·
    refine ta 0 ?_;refine ta 1 ?_;refine ta 3 ?_;refine ta 7 ?_;refine ta 9 ?_;refine rd [2,8] (.cons rfl (fun K hK=>?_) (.cons rfl (fun K hK=>?_) .nil))
    all_goals go_simp
    all_goals (refine hK _ _ ?_;clear hK K)
    all_goals first
     | (refine taq 4 ?_;refine taq 5 ?_;refine rq [6,8] (.cons rfl (fun K hK=>?_) (.cons rfl (fun K hK=>?_) .nil)))
     | (refine taq 10 ?_;refine taq 11 ?_;refine rq [2,12] (.cons rfl (fun K hK=>?_) (.cons rfl (fun K hK=>?_) .nil)))
    all_goals go_simp
    all_goals (refine hK _ _ ?_;clear hK K)
    all_goals first
     | (refine rq [8] (.cons rfl (fun K hK=>?_) .nil))
     | (refine taq 10 ?_;refine taq 11 ?_;refine rq [6,12] (.cons rfl (fun K hK=>?_) (.cons rfl (fun K hK=>?_) .nil)))
     | (refine taq 4 ?_;refine taq 5 ?_;refine rq [6,12] (.cons rfl (fun K hK=>?_) (.cons rfl (fun K hK=>?_) .nil)))
     | (refine rq [2] (.cons rfl (fun K hK=>?_) .nil))
    all_goals go_simp
    all_goals (refine hK _ _ ?_;clear hK K)
    all_goals first
     | (refine taq 10 ?_;refine taq 11 ?_;refine rq [12] (.cons rfl (fun K hK=>?_) .nil))
     | (refine rq [12] (.cons rfl (fun K hK=>?_) .nil))
     | (refine rq [6] (.cons rfl (fun K hK=>?_) .nil))
     | (refine taq 4 ?_;refine taq 5 ?_;refine rq [6] (.cons rfl (fun K hK=>?_) .nil))
    all_goals go_simp
    all_goals (refine hK _ _ ?_;clear hK K)
    all_goals (refine rd [13] (.cons rfl (fun K hK=>?_) .nil))
    all_goals go_simp
    all_goals
     refine (HP.out).mono ?_;rintro e w3 ⟨pa,pc,rfl,M,ah⟩;rw[h.out.symm] at M ⊢;have au:=Lib.hid M;have am:=Lib.hid (d.out.trans (ah.mono d.out.size));clear M ah;refine hK _ _ ?_;clear hK K
    all_goals (refine rd [14] (.cons rfl (fun K hK=>?_) .nil))
    all_goals go_simp
    all_goals (refine hK _ _ ?_;clear hK K)
    all_goals (refine wpAny_done (by kernel_rfl) ?_ _)
    all_goals
     go_wp2_with fail
     all_goals go_roundw
     case rel=>exact⟨k+1,pa,n2,pc,by go_num,by omega,rfl,by omega,h.out,au.out,am.out⟩
     case measure=>simp[intOf];try omega
  ·obtain rfl:k=A:=by omega
   obtain⟨V,hV,ab,t,s⟩:=jsa (.int .i64 f) (.slice T J U) B;obtain⟨t0,t1⟩:=cl2 B;obtain⟨f0,f1⟩:=cz2 B;obtain⟨p0,p1⟩:=cl2 ab;have av:=Lib.hid (jgt HO.out B t);have an:Hid (Bw w V):=s _ _ (Y.out.trans (HB.out.mono Y.out.size)) (by omega);clear O P B ab t s;go_wp2_with fail;refine bodyPost_ret (v:=.tuple #[.agg #[.int .i64 f,.slice T J U],.int .i64 0]) (by simp[results,Tryz.f83,go_sem,p0,p1]) rfl ?_;rw[<- g.out];unfold jn5;rw[<- j.out];exact⟨T,U,rfl,av.out,an.out⟩
theorem jhq (f:Nat) (l:List (Int × Int)) (a:Option Addr) (len cap:Nat) (w:World) (D:BkR f l) (h1:1<=f) (hL:SlC jbO 2 w.heap.size w a len cap l) :
  Calls Tryz.prog 136 #[.agg #[.int .i64 f,.slice a len cap]] w (jws ((f:Int)-1) (jgg l) w):=by
 have ar:=hL.1.1;obtain⟨X,aP,g,am,L,aN⟩:=jaI w #[.int .i64 f,.slice a len cap] 39 #[.int .i64 0,.slice none 0 0] 39;have aj:=D.right (hL.go L);have HX:Hid (∀ W,Bw X W->W.heap[w.heap.size]? = some (.cells #[.int .i64 f,.slice a len cap] 39 (0,0))/\W.heap[w.heap.size+1]? = some (.cells #[.int .i64 0,.slice none 0 0] 39 (0,0))):=fun W hb=>⟨jab hb (Nat.le_refl _) g,jab hb (Nat.le_refl _) am⟩
 have HS:=Lib.hid (hL.go L);have aS:len<=513:=by have:=D.len;omega
 have aJ:f<=3:=D.hf;have aD:=Lib.hid ar;obtain⟨q,hq⟩:∃ q,(l.map fun b=>(jaR b.1,b.2))=q:=⟨_,rfl⟩;have HQ:Hid (∀ (k:Nat) (x:Int × Int),l[k]? = some x->q[k]? = some (jaR x.1,x.2)):=fun k x P=>by rw[<- hq,List.getElem?_map,P];rfl
 have aM:q.length=l.length:=by rw[<- hq,List.length_map]
 obtain⟨S,Z⟩:∃ S:Nat->List (Int × Int),∀ k,S k=jc4 [] (q.take k):=⟨_,fun _=>rfl⟩;have ae:Hid (S 0=[]):=by rw[Hid,Z];rfl
 have aG:Hid (∀ (k:Nat) (x:Int × Int),q[k]? = some x->S (k+1)=jdb (S k) x.1 x.2):=fun k x P=>by rw[Z,Z,jai P,jha]
 have af:Hid (∀ k,k<=len->(S k).length<=k):=fun k D=>by
  have:=jfH (q.take k) [];rw[List.length_take] at this;rw[Z];simp only[List.length_nil] at this;omega
 have aa:Hid (S len=jgg l):=by rw[Hid,Z,List.take_of_length_le (by omega),<- hq];exact (jq4 D.pos D.u).symm
 have s:jbj q:=by rw[<- hq];exact (jge D.pos D.u).2
 have HU:=Lib.hid s
 have aH:Hid (∀ k,jbj (S k)):=fun k=>by
  rw[Z];exact jfI _ _ (fun c n=>by cases n) (fun c n=>s c (List.mem_of_mem_take n))
 have O:Hid (∀ b∈l,jao f b.1=true):=D.bd;have HI:=Lib.hid D.b;generalize jgg l=R at aa ⊢;have T:=Lib.hid L;have ax:w.heap.size+2=X.heap.size:=aN.symm;have aO:=Lib.hid ax;have aQ:((f:Int)==0)=false:=by rw[beq_eq_false_iff_ne];omega
 have aR:(f:Int)<=3:=by omega
 have aK:(1:Int)<=(f:Int):=by omega
 have aV:IntKind.i64.wrap ((f:Int)-1)=(f:Int)-1:=IntWalk.i64_in _ (by omega);obtain⟨c0,c1⟩:=cl2 g;clear g am L hL ar D Z hq aM s ax;go_enter Tryz.func136,Tryz.ntmps136;go_wp2_with fail;refine aj.mono ?_;rintro e w1 ⟨rfl,m⟩;obtain⟨ak,-⟩:=HX.out w1 m;obtain⟨d0,d1⟩:=cl2 ak;have ay:=Lib.hid m;clear ak m aj c0 c1;go_wp2_with fail;go_loopw [4,5] (fun lv i wr=>∃ (k:Nat) (I:Option Addr) (N Q:Nat),i=.int .i64 k/\k<=len/\lv=.slice I N Q/\N<=2000/\Hid (N=(S k).length)/\Hid (∀ z,I=some z->X.heap.size<=z.block)/\Hid (SlC jbO 2 wr.heap.size wr I N Q (S k))/\Hid (Bw X wr)) (fun _ i _=>len-(intOf i).toNat)
 case atStart=>exact⟨0,none,0,0,rfl,Nat.zero_le _,rfl,by omega,by rw[ae.out];rfl,(fun z hz=>by cases hz),by rw[ae.out];exact SlC.nil,ay.out⟩
 case round =>
  obtain⟨k,I,N,Q,rfl,D,rfl,aU,ad,ab,HO,y⟩:=hrel;obtain⟨j,A⟩:=HX.out wr y.out;obtain⟨u0,u1⟩:=cl2 j;have i0:(0:Int)<=(k:Int):=Int.natCast_nonneg _;by_cases au:k<len
  ·obtain⟨x,P⟩:∃ x,l[k]? = some x:=⟨_,List.getElem?_eq_getElem (by rw[<- aD.out];exact au)⟩
   obtain⟨b,off,rfl,ap,n⟩:=HS.out.1.2 k x P;have av:=y.out.size
   have J:Hid (∀ W,Bw wr W->W.cell? ⟨w.heap.size,0,none⟩=some (.int .i64 f)/\W.cell? ⟨w.heap.size,1,none⟩=some (.slice (some ⟨b,off,none⟩) len cap)/\W.cell? ⟨b,off+k*2,none⟩=some (.int .i64 x.1)/\Bw wr W):=fun W h=>by
    have an:=y.out.trans (h.mono av);obtain⟨g1,-⟩:=HX.out W an;exact⟨cCc g1 0,cCc g1 1,(an.cell (p:=⟨b,off+k*2,none⟩) ap).trans (n 0 (by omega)),h⟩
   obtain⟨q0,q1,q2,qB⟩:=J.out wr (Below.refl _ _);have HC:Hid (∀ W,Bw X W->W.cell? ⟨b,off+k*2+1,none⟩=some (.int .u64 x.2)):=fun W h=>(h.cell (p:=⟨b,off+k*2+1,none⟩) ap).trans (n 1 (by omega))
   have i1:(k:Int)<(len:Int):=by omega
   have H:=List.mem_of_getElem? P;obtain⟨u1,u2⟩:=(HI.out x H).1;have C:Hid (∀ W,Calls Tryz.prog 156 #[.int .i64 f,.int .i64 x.1] W (BdR f x.1 W)):=fun W=>jes f x.1 ⟨u1,u2⟩ W
   obtain⟨G,o⟩:=jjE f h1 aJ x.1 (O.out x H);have aq:=O.out x H;have HT:Hid (S (k+1)=jdb (S k) (jaR x.1) x.2):=aG.out k _ (HQ.out k x P);have aL:=af.out (k+1) au;have aT:=af.out k D;have aw:U64 x.2:=(HI.out x H).2
   have E:Hid (∀ W,Bw wr W->Calls Tryz.prog 138 #[.slice I N Q,.int .i64 (jaR x.1),.int .u64 x.2] W (jk7 I (S (k+1)) W)):=fun W hb=>by
    rw[HT.out];exact jfv (jaR x.1) x.2 (S k) I N Q W (HO.out.go hb) (by have:=ad.out;omega) aw (aH.out k)
   have B:Hid (∀ W,Calls Tryz.prog 167 #[.int .i64 ((f:Int)-1),.int .u64 (jcf f x.1)] W fun e w'=>e=.returned (.int .i64 (jaR x.1))/\w'=W):=fun W=>by
    obtain⟨t,M⟩:=Int.eq_ofNat_of_zero_le o.1;have:=ja8 (f-1) t (by omega) (by have:=o.2;omega) W;rw[<- G,M,Int.toNat_natCast];rw[show (((f-1:Nat)):Int)=(f:Int)-1 by omega] at this;exact this
   have U:Hid (∀ t:Int,(jao f x.1=true->1<=(f:Int)->t=jcf (f:Int).toNat x.1)->t=jcf f x.1):=fun t h=>by have:=h aq aK;rw[Int.toNat_natCast] at this;exact this
   generalize jcf f x.1=low at B U o;generalize jaR x.1=hp at E B;obtain⟨n2,r⟩:∃ n2,(S (k+1)).length=n2:=⟨_,rfl⟩;rw[r] at aL;have ac:=Lib.hid r.symm;obtain⟨x1,x2⟩:=x;dsimp only at q2 HC C E J aw U;clear n P j A r G H aq u0 u1 u2;go_wp2_with fail
   go_region_held3 (fun w'=>w'.cell? ⟨w.heap.size,0,none⟩=some (.int .i64 f)/\w'.cell? ⟨w.heap.size,1,none⟩=some (.slice (some ⟨b,off,none⟩) len cap)/\w'.cell? ⟨b,off+k*2,none⟩=some (.int .i64 x1)/\Bw wr w')
    (first
     | with_reducible exact J.out _ qB.drew
     | (go_split_ands;with_reducible refine J.out _ ?_;with_reducible first | exact Below.trans (by assumption) (Below.mono (by assumption) (Below.size (by assumption))) | assumption)
     | go_keep)
    (first | (go_at_call 156;refine (C.out _).mono ?_;rintro e w6 ⟨t,hi,rfl,M,aI⟩;obtain rfl:=U.out t M))
   rename_i Y
   obtain⟨q0,q1,q2,qB⟩:=Y;have F:Bw X w6:=y.out.trans (qB.mono av);have q3:=HC.out w6 F;have aB:=Lib.hid qB.drew;have C:=Lib.hid F.drew;clear aI F M;go_wp2_with fail;refine wp_region_any (by kernel_rfl) ?_;change wpAny _ _ _ _ _ _ _ (World.drew _)
   ·
    refine ta 0 ?_;refine ta 1 ?_;refine ta 4 ?_;refine ta 6 ?_;refine ta 8 ?_;refine rd [2,7] (.cons rfl (fun K hK=>?_) (.cons rfl (fun K hK=>?_) .nil))
    all_goals go_simp
    all_goals (refine hK _ _ ?_;clear hK K)
    all_goals first
     | (refine taq 3 ?_;refine rq [5,7] (.cons rfl (fun K hK=>?_) (.cons rfl (fun K hK=>?_) .nil)))
     | (refine taq 9 ?_;refine taq 10 ?_;refine rq [2,11] (.cons rfl (fun K hK=>?_) (.cons rfl (fun K hK=>?_) .nil)))
    all_goals go_simp
    all_goals first
     |
      refine (B.out _).mono ?_;rintro e w' ⟨rfl,h9⟩;subst w';refine hK _ _ ?_;clear hK K
     | (refine hK _ _ ?_;clear hK K)
    all_goals first
     | (refine rq [7] (.cons rfl (fun K hK=>?_) .nil))
     | (refine taq 9 ?_;refine taq 10 ?_;refine rq [5,11] (.cons rfl (fun K hK=>?_) (.cons rfl (fun K hK=>?_) .nil)))
     | (refine taq 3 ?_;refine rq [5,11] (.cons rfl (fun K hK=>?_) (.cons rfl (fun K hK=>?_) .nil)))
     | (refine rq [2] (.cons rfl (fun K hK=>?_) .nil))
    all_goals go_simp
    all_goals first
     |
      refine (B.out _).mono ?_;rintro e w' ⟨rfl,h9⟩;subst w';refine hK _ _ ?_;clear hK K
     | (refine hK _ _ ?_;clear hK K)
    all_goals first
     | (refine taq 9 ?_;refine taq 10 ?_;refine rq [11] (.cons rfl (fun K hK=>?_) .nil))
     | (refine rq [11] (.cons rfl (fun K hK=>?_) .nil))
     | (refine rq [5] (.cons rfl (fun K hK=>?_) .nil))
     | (refine taq 3 ?_;refine rq [5] (.cons rfl (fun K hK=>?_) .nil))
    all_goals go_simp
    all_goals first
     |
      refine (B.out _).mono ?_;rintro e w' ⟨rfl,h9⟩;subst w';refine hK _ _ ?_;clear hK K
     | (refine hK _ _ ?_;clear hK K)
    all_goals (refine rd [12] (.cons rfl (fun K hK=>?_) .nil))
    all_goals go_simp
    all_goals
     refine (E.out _ aB.out).mono ?_;rintro e w3 ⟨pa,pc,rfl,d,ah,ao⟩;have aC:Hid (∀ z,pa=some z->X.heap.size<=z.block):=fun z hz=>(ah z hz).elim (ab.out z) (Nat.le_trans C.out.size)
     clear ah;rw[ac.out.symm] at d ⊢;have aE:=Lib.hid d;have az:=Lib.hid (C.out.trans (ao.mono C.out.size));clear d ao;refine hK _ _ ?_;clear hK K
    all_goals (refine rd [13] (.cons rfl (fun K hK=>?_) .nil))
    all_goals go_simp
    all_goals (refine hK _ _ ?_;clear hK K)
    all_goals (refine wpAny_done (by kernel_rfl) ?_ _)
    all_goals
     go_wp2_with fail
     all_goals go_roundw
     case rel=>exact⟨k+1,pa,n2,pc,by go_num,by omega,rfl,by omega,ac.out,aC.out,aE.out,az.out⟩
     case measure=>simp[intOf];try omega
  ·obtain rfl:k=len:=by omega
   obtain⟨V,hV,al,ai,ag⟩:=jsa (.int .i64 ((f:Int)-1)) (.slice I N Q) A;obtain⟨t0,t1⟩:=cl2 A;obtain⟨f0,f1⟩:=cz2 A;obtain⟨p0,p1⟩:=cl2 al;have aF:=Lib.hid (jgt HO.out A ai);have aA:Hid (Bw w V):=ag _ _ (T.out.trans (y.out.mono T.out.size)) (by omega);clear j A al ai ag;go_wp2_with fail;refine bodyPost_ret (v:=.tuple #[.agg #[.int .i64 ((f:Int)-1),.slice I N Q],.int .i64 0]) (by simp[results,Tryz.f136,go_sem,p0,p1]) rfl ?_;rw[<- aa.out];unfold jws;rw[<- ad.out];exact⟨I,Q,rfl,aF.out,fun z hz=>Nat.le_trans T.out.size (ab.out z hz),aA.out⟩
end Go.Proofs.YtafhpamnegmilaaGreatDoor
