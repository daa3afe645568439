/- aviarylaw15.GrantLends answers true. -/
import Derived.Test.YtafhpamnegmilaaGreatDoorYKC
import Derived.Test.YtafhpamnegmilaaGreatDoorYVN
set_option maxHeartbeats 16000000
set_option maxRecDepth 100000
namespace Go.Proofs.YtafhpamnegmilaaGreatDoor
open Go Go.RowKit Go.Shelf
theorem jsJ {P G:Prop} (main:P->G) (pf:P):G:=main pf
theorem jsI {C W:World} (h:Bw C W) (c:Array Value) (t:TypeId):∃ A B,W.alloc (.cells c t)=A/\W.heap.size=B/\A.heap[B]? = some (.cells c t (0,0))/\Bw W A/\C.heap.size<=B:=by
 obtain⟨A,D,E,F,-⟩:=jaf W c t;exact⟨A,_,D,rfl,E,F,h.size⟩
theorem jjb (next:Int) (lg:List RGr) (ga:Option Addr) (r q:Nat) (Y:Int) (l:List (Ser × SerP)) (a:Option Addr) (len cap:Nat) (sc:ByteArray) (d:Int) (w:World) (bg:jrX w.heap.size w (.slice ga r q) lg) (_h1:U64 Y) (hT:Tab w.heap.size w a len cap l) (hU:∀ x∈l.map (·.1),Ser.wn x/\I64 x.sk.cc) (_h2:I64 d) (hG:GW w) (hg:GT w) :
  CR 4 #[.agg #[.int .u64 next,.slice ga r q],.int .u64 Y,.slice a len cap,.string sc,.int .i64 d] w (.bool true):=by
 obtain⟨W0,bF,bk,aj,bx⟩:=jaf w #[.int .u64 next,.slice ga r q] 51;have HT:Hid (Tab W0.heap.size W0 a len cap l):=hT.go aj;have v:Hid (∀ e∈l,e.2.Off (· < w.heap.size)):=fun e he=>(hT.at_ e he).off
 have a8:Hid (∀ z,a=some z->0<cap->z.block<w.heap.size):=fun z h1 h2=>(hT.row.2.2.2.2 z h1 h2).2
 have a4:Hid (jrX W0.heap.size W0 (.slice ga r q) lg):=(SlAt.below aj bg).mono aj.size;have HG:Hid (GW W0):=hG.below aj;have aI:Hid (∀ W,Bw w W->GW W/\GT W):=fun W C=>⟨hG.below C,hg.go C⟩
 obtain⟨L,hL⟩:∃ L,jh4 (l.map (·.1))=L:=⟨_,rfl⟩;have HQ:Hid (jas L=true->QT L):=by rw[<- hL];exact jwW (fun x hx=>(hU x hx).1)
 have aZ:Hid (∀ x∈L,x.fine):=by rw[<- hL];exact jof (fun y hy=>(hU y hy).1.wf)
 have a5:Hid (jhK L):=by rw[<- hL];exact jvA hU
 have HL:=Lib.hid hL;obtain⟨Q,bo⟩:∃ Q:jb4,Q.1=jmX 200 sc:=⟨⟨jmX 200 sc,jmY 200 (by decide) sc⟩,rfl⟩
 have HC:Hid (∀ W,CR 19 #[.string sc] W (.string Q.1)):=fun W=>by
  have h:=jqK sc W;rw[<- bo] at h;exact h
 have bH:w.heap.size<W0.heap.size:=by omega
 have bc:=Lib.hid bk;have aV:=Lib.hid aj;clear hT hU hG hg hL bo bg bk aj bx;go_enter Tryz.func4,Tryz.ntmps4;go_wp2_with (go_at_call 16;refine (jkT W0 HG.out).mono ?_;rintro e w1 ⟨rfl,ab⟩;have af:=jab ab (Nat.le_refl _) bc.out;have c0:=cCc af 0;have c1:=cCc af 1;simp at c0 c1);refine (jnY next lg ga r q w1 ((SlAt.below ab a4.out).mono ab.size)).mono ?_;rintro e w0 ⟨v2,rfl,⟨j,k,S,rfl,aR,aM⟩,aE⟩;have av:=ab.trans (aE.mono ab.size);have bI:=ab.size;have bJ:=aE.size;have ag:=jab aE (Nat.le_refl _) af
 have az:Hid ((jjn next lg).l.length<=maxLen):=by
  have:(jjn next lg).l.length<=12:=by unfold jjn;simp;omega
  unfold maxLen;exact Nat.le_trans this (by decide)
 have bn:(jjn next lg).next=next:=rfl;generalize jjn next lg=G at aR bn az ⊢;subst bn;obtain⟨W3,bu,aL,ap,aK,bG⟩:=jsp ag (.int .u64 G.next) (.slice j k S);have bm:=joA aR (fun z hz=>by have:=aM z hz;omega) ap;have a9:Hid (Tab W3.heap.size W3 a len cap l):=(HT.out.go av).apart (fun z hz hc=>by have:=a8.out z hz hc;omega) (fun e he=>(v.out e he).imp fun b C=>by omega) ap;have aN:Hid (Bw w W3):=aK _ _ (Nat.le_refl _) (aV.out.trans (av.mono (by omega)));have a0:=Lib.hid bm;have aJ:=Lib.hid aL;clear aR aM ab aE av af aL ap aK bm;obtain⟨f0,f1⟩:=cz2 ag;obtain⟨d0,d1⟩:=cl2 ag;clear ag;go_wp2_with fail;refine (jlz l a len cap W3 a9.out).mono ?_;rintro e f ⟨a2,T,m,rfl,bh,hm,bw,bv,ac⟩;clear bw bv bu f0 f1 d0 d1 c0 c1;have aD:Bw w f:=aN.out.trans (ac.mono aN.out.size);have p:Hid (f.heap[w.heap.size]? = some (.cells #[.int .u64 G.next,.slice j k S] 51 (0,0))):=jab ac (Nat.le_refl _) aJ.out;have HM:Hid (m.map (·.1)=L):=hm.trans HL.out;have ai:Hid (Tab f.heap.size f a2 m.length T m):=bh;have HF:Hid (jdl m):=jmx ai.out (by rw[HM.out];exact aZ.out);have ao:Hid (jhK (m.map (·.1))):=by rw[Hid,HM.out];exact a5.out
 have aO:Hid (jas (m.map (·.1))=true->∀ x∈m.map (·.1),SkGood x.sk):=fun hr x hx=>by rw[HM.out] at hr hx;exact ((HQ.out hr).good x hx).sk
 have ay:Hid (∀ W,Bw f W->GW W/\GT W):=fun W C=>aI.out W (aD.trans (C.mono aD.size))
 have an:Hid (∀ W,Bw f W->Grs W.heap.size W (.slice j k S) G.l):=fun W C=>(SlAt.below (ac.trans (C.mono ac.size)) a0.out).mono (ac.trans (C.mono ac.size)).size
 have aA:Hid (∀ W,Bw f W->Calls Tryz.prog 18 #[.agg #[.int .u64 G.next,.slice j k S],.int .u64 Y,.slice a2 m.length T,.string Q.1] W (jc5 (je2 G Y L Q) (je1 G L Q) W)):=fun W C=>by
  have h:=jlu G j k S Y Q m a2 m.length T W (an.out W C) (ai.out.go C) HF.out (ay.out W C).1;rw[HM.out] at h;exact h
 have aB:Hid (∀ W,Bw f W->Calls Tryz.prog 20 #[.agg #[.int .u64 G.next,.slice j k S],.int .u64 Y,.slice a2 m.length T,.string Q.1] W (jc5 (je2 G Y L Q) (je1 G L Q) W)):=fun W C=>by
  have h:=jf3 G j k S Y Q m a2 m.length T W (an.out W C) az.out (ai.out.go C) HF.out ao.out;rw[HM.out] at h;exact h
 have ak:Hid (∀ W,Bw f W->Calls Tryz.prog 21 #[.agg #[.int .u64 G.next,.slice j k S],.int .u64 Y,.slice a2 m.length T,.string Q.1,.int .i64 d] W (jgx d (je1 G L Q) (ja0 L d (je2 G Y L Q)) W)):=fun W C=>by
  have h:=jmn G j k S Y Q d m a2 m.length T W (an.out W C) (ai.out.go C) HF.out aO.out (ay.out W C).1 (ay.out W C).2;rw[HM.out] at h;exact h
 have al:Hid (∀ W,Bw f W->Calls Tryz.prog 22 #[.agg #[.int .u64 G.next,.slice j k S],.int .u64 Y,.slice a2 m.length T,.string Q.1,.int .i64 d] W (jgx d (je1 G L Q) (ja0 L d (je2 G Y L Q)) W)):=fun W C=>by
  have h:=jij G j k S Y Q d m a2 m.length T W (an.out W C) az.out (ai.out.go C) HF.out ao.out aO.out;rw[HM.out] at h;exact h
 have aX:=Lib.hid aD;have U:Hid (∀ W,Bw f W->Bw f W):=fun W h=>h
 clear bh hm ac aD HT a4 HL HM ai HF ao aO ay HQ aZ a5 HG an a0 a9 aN aJ bc aV aI v a8 az;generalize m.length=ml at *;have aa:Hid (∀ w e w',jc5 (je2 G Y L Q) (je1 G L Q) w e w'->∃ a cap,e=.returned (.tuple #[.slice a (je2 G Y L Q).length cap,.int .i64 (je1 G L Q)])/\SlC ji4 1 w'.heap.size w' a (je2 G Y L Q).length cap (je2 G Y L Q)/\Bw w w'):=fun _ _ _ h=>h
 have o:Hid (∀ w e w',jgx d (je1 G L Q) (ja0 L d (je2 G Y L Q)) w e w'->∃ (y:Sk) (s:SS),y=jnU d (je1 G L Q) (ja0 L d (je2 G Y L Q))/\e=.returned (.tuple #[.agg #[.int .i64 y.kind,.int .i64 y.level,.slice s.ea s.el s.ec,.int .i64 y.hb,.string y.hr,.int .i64 y.cr,.int .i64 y.cc,.slice s.ca s.cl s.cc,.int .i64 y.gf,.slice s.ga s.gl s.gc],.int .i64 (jmH (je1 G L Q) d)])/\s.At w'.heap.size w' y/\Bw w w'):=fun _ _ _ h=>h
 generalize jnU d (je1 G L Q) (ja0 L d (je2 G Y L Q))=yS at o;generalize jgx d (je1 G L Q) (ja0 L d (je2 G Y L Q))=PS at ak al o;generalize jc5 (je2 G Y L Q) (je1 G L Q)=PM at aA aB aa;generalize jmH (je1 G L Q) d=es at o;generalize je1 G L Q=em at aa;generalize je2 G Y L Q=ps at aa;generalize Q.1=sc5 at HC aA aB ak al;obtain⟨pl,aS⟩:∃ n,ps.length=n:=⟨_,rfl⟩;rw[aS] at aa;have br:=Lib.hid aS;clear aS;go_wp2_with fail;go_cut [12,13] (fun ad ae t=>∃ pa pc,ad=.slice pa pl pc/\ae=.int .i64 em/\Hid (SlC ji4 1 t.heap.size t pa pl pc ps)/\Hid (Bw f t))
 case first =>
  refine wp_region_any (by kernel_rfl) ?_;change wpAny _ _ _ _ _ _ _ (World.drew _);obtain⟨P,R⟩:∃ P,f.drew=P:=⟨_,rfl⟩;rw[R];have B:P.heap[w.heap.size]? = some (.cells #[.int .u64 G.next,.slice j k S] 51 (0,0)):=by rw[<- R];exact p.out
  have E:Bw f P:=by rw[<- R];exact (Below.refl _ _).drew
  clear R;obtain⟨J,M⟩:=cl2 B
  ·
   refine ta 1 ?_;refine ta 2 ?_;refine ta 3 ?_;refine rd [0,4] (.cons rfl (fun H A=>?_) (.cons rfl (fun H A=>?_) .nil))
   all_goals go_simp
   all_goals first
    |
     refine (HC.out _).mono ?_;rintro e P ⟨rfl,C⟩;replace E:=E.trans (C.mono E.size);replace B:=jab C (Nat.le_refl _) B
     (try replace D:=jab C (Nat.le_refl _) D)
     clear J M C;obtain⟨J,M⟩:=cl2 B;refine A _ _ ?_;clear A H
    | (refine A _ _ ?_;clear A H)
   all_goals first
    | (refine rq [4] (.cons rfl (fun H A=>?_) .nil))
    | (refine rq [0] (.cons rfl (fun H A=>?_) .nil))
   all_goals go_simp
   all_goals first
    |
     refine (HC.out _).mono ?_;rintro e P ⟨rfl,C⟩;replace E:=E.trans (C.mono E.size);replace B:=jab C (Nat.le_refl _) B
     (try replace D:=jab C (Nat.le_refl _) D)
     clear J M C;obtain⟨J,M⟩:=cl2 B;refine A _ _ ?_;clear A H
    | (refine A _ _ ?_;clear A H)
   all_goals (refine rd [5] (.cons rfl (fun H A=>?_) .nil))
   all_goals go_simp
   all_goals
    refine (aA.out _ (U.out _ E)).mono ?_;intro e wl Z;obtain⟨pa,pc,rfl,Z,C⟩:=aa.out _ _ _ Z;have v:Hid (SlC ji4 1 wl.heap.size wl pa pl pc ps/\Bw f wl):=⟨Z,E.trans (C.mono E.size)⟩;clear Z;refine A _ _ ?_;clear A H
   all_goals (refine ta 6 ?_;refine ta 7 ?_;refine ta 8 ?_;refine ta 9 ?_;refine ta 10 ?_;refine wpAny_done (by kernel_rfl) ?_ _)
   all_goals
    go_wp2_with fail;go_meet;exact⟨pa,pc,rfl,rfl,v.out.1,v.out.2⟩
 case rest =>
  obtain⟨w4,bz⟩:∃ w4,w4=wc:=⟨_,rfl⟩;subst bz;obtain⟨pa,pc,rfl,rfl,a6,aw⟩:=hcut;have aP:Hid (w4.heap[w.heap.size]? = some (.cells #[.int .u64 G.next,.slice j k S] 51 (0,0))):=jab aw.out (Nat.le_refl _) p.out;replace U:Hid (∀ W,Bw w4 W->Bw f W):=fun W h=>aw.out.trans (h.mono aw.out.size)
  clear p;go_wp2_with fail;go_cut [14,15] (fun ad ae t=>∃ pa pc,ad=.slice pa pl pc/\ae=.int .i64 em/\Hid (SlC ji4 1 t.heap.size t pa pl pc ps)/\Hid (Bw w4 t))
  case first =>
   refine wp_region_any (by kernel_rfl) ?_;change wpAny _ _ _ _ _ _ _ (World.drew _);obtain⟨P,R⟩:∃ P,w4.drew=P:=⟨_,rfl⟩;rw[R];have B:P.heap[w.heap.size]? = some (.cells #[.int .u64 G.next,.slice j k S] 51 (0,0)):=by rw[<- R];exact aP.out
   have E:Bw w4 P:=by rw[<- R];exact (Below.refl _ _).drew
   clear R;obtain⟨J,M⟩:=cl2 B
   ·
    refine ta 1 ?_;refine ta 2 ?_;refine ta 3 ?_;refine rd [0,4] (.cons rfl (fun H A=>?_) (.cons rfl (fun H A=>?_) .nil))
    all_goals go_simp
    all_goals first
     |
      refine (HC.out _).mono ?_;rintro e P ⟨rfl,C⟩;replace E:=E.trans (C.mono E.size);replace B:=jab C (Nat.le_refl _) B
      (try replace D:=jab C (Nat.le_refl _) D)
      clear J M C;obtain⟨J,M⟩:=cl2 B;refine A _ _ ?_;clear A H
     | (refine A _ _ ?_;clear A H)
    all_goals first
     | (refine rq [4] (.cons rfl (fun H A=>?_) .nil))
     | (refine rq [0] (.cons rfl (fun H A=>?_) .nil))
    all_goals go_simp
    all_goals first
     |
      refine (HC.out _).mono ?_;rintro e P ⟨rfl,C⟩;replace E:=E.trans (C.mono E.size);replace B:=jab C (Nat.le_refl _) B
      (try replace D:=jab C (Nat.le_refl _) D)
      clear J M C;obtain⟨J,M⟩:=cl2 B;refine A _ _ ?_;clear A H
     | (refine A _ _ ?_;clear A H)
    all_goals (refine rd [5] (.cons rfl (fun H A=>?_) .nil))
    all_goals go_simp
    all_goals
     refine (aB.out _ (U.out _ E)).mono ?_;intro e wl Z;obtain⟨pa,pc,rfl,Z,C⟩:=aa.out _ _ _ Z;have v:Hid (SlC ji4 1 wl.heap.size wl pa pl pc ps/\Bw w4 wl):=⟨Z,E.trans (C.mono E.size)⟩;clear Z;refine A _ _ ?_;clear A H
    all_goals (refine ta 6 ?_;refine ta 7 ?_;refine ta 8 ?_;refine ta 9 ?_;refine ta 10 ?_;refine wpAny_done (by kernel_rfl) ?_ _)
    all_goals
     go_wp2_with fail;go_meet;exact⟨pa,pc,rfl,rfl,v.out.1,v.out.2⟩
  case rest =>
   obtain⟨w6,bA⟩:∃ w6,w6=wc:=⟨_,rfl⟩;subst bA;obtain⟨qa,qc,rfl,rfl,aC,ax⟩:=hcut;have aQ:Hid (w6.heap[w.heap.size]? = some (.cells #[.int .u64 G.next,.slice j k S] 51 (0,0))):=jab ax.out (Nat.le_refl _) aP.out;have a7:Hid (SlC ji4 1 w6.heap.size w6 pa pl pc ps):=a6.out.go ax.out
   have a3:Hid (∀ W,Bw w6 W->CR 12 #[.slice pa pl pc,.slice qa pl qc] W (.bool true)):=fun W C=>by
    have h:=jjh pa pl pc ps qa pl qc ps W (a7.out.go C).1 (aC.out.go C).1 (Nat.le_trans aC.out.2.1 aC.out.2.2.1);rw[show (ps==ps)=true by simp] at h;exact h
   have aH:Hid (Bw f w6):=U.out _ ax.out;replace U:Hid (∀ W,Bw w6 W->Bw f W):=fun W h=>aH.out.trans (h.mono aH.out.size)
   clear aP a6 a7 aC aA aB aa aw ax;go_wp2_with fail;go_cut [16,17] (fun ad ae t=>∃ (b:Nat) (y:Sk) (s:SS),ad=.pointer (some ⟨b,0,none⟩)/\ae=.int .i64 es/\Hid (y=yS)/\Hid (t.heap[b]? = some (.cells #[.int .i64 y.kind,.int .i64 y.level,.slice s.ea s.el s.ec,.int .i64 y.hb,.string y.hr,.int .i64 y.cr,.int .i64 y.cc,.slice s.ca s.cl s.cc,.int .i64 y.gf,.slice s.ga s.gl s.gc] 41 (0,0)))/\Hid (s.At t.heap.size t y)/\Hid (Bw w6 t))
   case first =>
    apply jsJ
    case main =>
     intro key;refine wp_region_any (by kernel_rfl) ?_;change wpAny _ _ _ _ _ _ _ (World.drew _);obtain⟨P,R⟩:∃ P,w6.drew=P:=⟨_,rfl⟩;rw[R];have B:P.heap[w.heap.size]? = some (.cells #[.int .u64 G.next,.slice j k S] 51 (0,0)):=by rw[<- R];exact aQ.out
     have E:Bw w6 P:=by rw[<- R];exact (Below.refl _ _).drew
     clear R;obtain⟨J,M⟩:=cl2 B
     ·
      refine ta 1 ?_;refine ta 2 ?_;refine ta 3 ?_;refine ta 5 ?_;refine rd [0,4,10] (.cons rfl (fun H A=>?_) (.cons rfl (fun H A=>?_) (.cons rfl (fun H A=>?_) .nil)))
      all_goals go_simp
      all_goals first
       |
        refine (HC.out _).mono ?_;rintro e P ⟨rfl,C⟩;replace E:=E.trans (C.mono E.size);replace B:=jab C (Nat.le_refl _) B
        (try replace D:=jab C (Nat.le_refl _) D)
        clear J M C;obtain⟨J,M⟩:=cl2 B;refine A _ _ ?_;clear A H
       |
        obtain⟨P,bB,N,O,D,F,X⟩:=jsI E #[.int .i64 0,.int .i64 0,.slice none 0 0,.int .i64 0,.string ⟨#[]⟩,.int .i64 0,.int .i64 0,.slice none 0 0,.int .i64 0,.slice none 0 0] 41;rw[N];replace E:=E.trans (F.mono E.size);replace B:=jab F (Nat.le_refl _) B
        (try replace I:=I.go F)
        clear J M F N;obtain⟨J,M⟩:=cl2 B;refine A _ _ ?_;clear A H;rw[O];clear O
       | (refine A _ _ ?_;clear A H)
      all_goals first
       | (refine rq [4,10] (.cons rfl (fun H A=>?_) (.cons rfl (fun H A=>?_) .nil)))
       | (refine rq [0,10] (.cons rfl (fun H A=>?_) (.cons rfl (fun H A=>?_) .nil)))
       | (refine rq [0,4] (.cons rfl (fun H A=>?_) (.cons rfl (fun H A=>?_) .nil)))
      all_goals go_simp
      all_goals first
       |
        refine (HC.out _).mono ?_;rintro e P ⟨rfl,C⟩;replace E:=E.trans (C.mono E.size);replace B:=jab C (Nat.le_refl _) B
        (try replace D:=jab C (Nat.le_refl _) D)
        clear J M C;obtain⟨J,M⟩:=cl2 B;refine A _ _ ?_;clear A H
       |
        obtain⟨P,bB,N,O,D,F,X⟩:=jsI E #[.int .i64 0,.int .i64 0,.slice none 0 0,.int .i64 0,.string ⟨#[]⟩,.int .i64 0,.int .i64 0,.slice none 0 0,.int .i64 0,.slice none 0 0] 41;rw[N];replace E:=E.trans (F.mono E.size);replace B:=jab F (Nat.le_refl _) B
        (try replace I:=I.go F)
        clear J M F N;obtain⟨J,M⟩:=cl2 B;refine A _ _ ?_;clear A H;rw[O];clear O
       | (refine A _ _ ?_;clear A H)
      all_goals first
       | (refine rq [6,10] (.cons rfl (fun H A=>?_) (.cons rfl (fun H A=>?_) .nil)))
       | (refine rq [4] (.cons rfl (fun H A=>?_) .nil))
       | (refine rq [0] (.cons rfl (fun H A=>?_) .nil))
      all_goals go_simp
      all_goals first
       |
        refine (ak.out _ (U.out _ E)).mono ?_;intro e P Z;obtain⟨y,s,hy,rfl,I,C⟩:=o.out _ _ _ Z;have g:=Lib.hid hy;clear hy Z;replace E:=E.trans (C.mono E.size);replace B:=jab C (Nat.le_refl _) B
        (try replace D:=jab C (Nat.le_refl _) D)
        clear J M C;obtain⟨J,M⟩:=cl2 B;refine A _ _ ?_;clear A H
       |
        obtain⟨P,bB,N,O,D,F,X⟩:=jsI E #[.int .i64 0,.int .i64 0,.slice none 0 0,.int .i64 0,.string ⟨#[]⟩,.int .i64 0,.int .i64 0,.slice none 0 0,.int .i64 0,.slice none 0 0] 41;rw[N];replace E:=E.trans (F.mono E.size);replace B:=jab F (Nat.le_refl _) B
        (try replace I:=I.go F)
        clear J M F N;obtain⟨J,M⟩:=cl2 B;refine A _ _ ?_;clear A H;rw[O];clear O
       |
        refine (HC.out _).mono ?_;rintro e P ⟨rfl,C⟩;replace E:=E.trans (C.mono E.size);replace B:=jab C (Nat.le_refl _) B
        (try replace D:=jab C (Nat.le_refl _) D)
        clear J M C;obtain⟨J,M⟩:=cl2 B;refine A _ _ ?_;clear A H
       | (refine A _ _ ?_;clear A H)
      all_goals first
       | (refine taq 7 ?_;refine taq 8 ?_;refine taq 9 ?_;refine rq [10] (.cons rfl (fun H A=>?_) .nil))
       | (refine rq [6] (.cons rfl (fun H A=>?_) .nil))
      all_goals go_simp
      all_goals first
       |
        obtain⟨P,bB,N,O,D,F,X⟩:=jsI E #[.int .i64 0,.int .i64 0,.slice none 0 0,.int .i64 0,.string ⟨#[]⟩,.int .i64 0,.int .i64 0,.slice none 0 0,.int .i64 0,.slice none 0 0] 41;rw[N];replace E:=E.trans (F.mono E.size);replace B:=jab F (Nat.le_refl _) B
        (try replace I:=I.go F)
        clear J M F N;obtain⟨J,M⟩:=cl2 B;refine A _ _ ?_;clear A H;rw[O];clear O
       |
        refine (ak.out _ (U.out _ E)).mono ?_;intro e P Z;obtain⟨y,s,hy,rfl,I,C⟩:=o.out _ _ _ Z;have g:=Lib.hid hy;clear hy Z;replace E:=E.trans (C.mono E.size);replace B:=jab C (Nat.le_refl _) B
        (try replace D:=jab C (Nat.le_refl _) D)
        clear J M C;obtain⟨J,M⟩:=cl2 B;refine A _ _ ?_;clear A H
      all_goals (try (refine taq 7 ?_;refine taq 8 ?_;refine taq 9 ?_))
      all_goals
       clear J M B;revert g;revert D;revert I;revert E;revert X;revert P;revert s;revert y;revert bB;exact key
    case pf =>
     intro bB y s P X E I D g;refine rd [11] (.cons rfl (fun H A=>?_) .nil);obtain⟨f0,f1,f2,f3,f4,f5,f6,f7,f8,f9⟩:=jam D;obtain⟨g0,g1,g2,g3,g4,g5,g6,g7,g8,g9⟩:=jbL D;obtain⟨V,hV,au,ar,aq⟩:=jaD (.int .i64 y.kind) (.int .i64 y.level) (.slice s.ea s.el s.ec) (.int .i64 y.hb) (.string y.hr) (.int .i64 y.cr) (.int .i64 y.cc) (.slice s.ca s.cl s.cc) (.int .i64 y.gf) (.slice s.ga s.gl s.gc) D;have v:Hid (V.heap[bB]? = some (.cells #[.int .i64 y.kind,.int .i64 y.level,.slice s.ea s.el s.ec,.int .i64 y.hb,.string y.hr,.int .i64 y.cr,.int .i64 y.cc,.slice s.ca s.cl s.cc,.int .i64 y.gf,.slice s.ga s.gl s.gc] 41 (0,0))/\s.At V.heap.size V y/\Bw w6 V):=⟨au,jee I D (fun i u=>jcP u) ar,aq _ _ E X⟩;clear au ar aq;go_simp;refine A _ _ ?_;clear A H;refine ta 12 ?_;refine wpAny_done (by kernel_rfl) ?_ _;go_wp2_with fail;go_meet;exact⟨bB,y,s,rfl,rfl,g,v.out.1,v.out.2.1,v.out.2.2⟩
   case rest =>
    obtain⟨w8,bC⟩:∃ w8,w8=wc:=⟨_,rfl⟩;subst bC;obtain⟨b2,y2,s2,rfl,rfl,be,p,aF,ah⟩:=hcut;have bb:Hid (w8.heap[w.heap.size]? = some (.cells #[.int .u64 G.next,.slice j k S] 51 (0,0))):=jab ah.out (Nat.le_refl _) aQ.out;replace U:Hid (∀ W,Bw w8 W->Bw f W):=fun W h=>U.out _ (ah.out.trans (h.mono ah.out.size))
    clear aQ;go_wp2_with fail;go_cut [18,19] (fun ad ae t=>∃ (b:Nat) (y:Sk) (s:SS),ad=.pointer (some ⟨b,0,none⟩)/\ae=.int .i64 es/\Hid (y=yS)/\Hid (t.heap[b]? = some (.cells #[.int .i64 y.kind,.int .i64 y.level,.slice s.ea s.el s.ec,.int .i64 y.hb,.string y.hr,.int .i64 y.cr,.int .i64 y.cc,.slice s.ca s.cl s.cc,.int .i64 y.gf,.slice s.ga s.gl s.gc] 41 (0,0)))/\Hid (s.At t.heap.size t y)/\Hid (Bw w8 t))
    case first =>
     apply jsJ
     case main =>
      intro key;refine wp_region_any (by kernel_rfl) ?_;change wpAny _ _ _ _ _ _ _ (World.drew _);obtain⟨P,R⟩:∃ P,w8.drew=P:=⟨_,rfl⟩;rw[R];have B:P.heap[w.heap.size]? = some (.cells #[.int .u64 G.next,.slice j k S] 51 (0,0)):=by rw[<- R];exact bb.out
      have E:Bw w8 P:=by rw[<- R];exact (Below.refl _ _).drew
      clear R;obtain⟨J,M⟩:=cl2 B
      ·
       refine ta 1 ?_;refine ta 2 ?_;refine ta 3 ?_;refine ta 5 ?_;refine rd [0,4,10] (.cons rfl (fun H A=>?_) (.cons rfl (fun H A=>?_) (.cons rfl (fun H A=>?_) .nil)))
       all_goals go_simp
       all_goals first
        |
         refine (HC.out _).mono ?_;rintro e P ⟨rfl,C⟩;replace E:=E.trans (C.mono E.size);replace B:=jab C (Nat.le_refl _) B
         (try replace D:=jab C (Nat.le_refl _) D)
         clear J M C;obtain⟨J,M⟩:=cl2 B;refine A _ _ ?_;clear A H
        |
         obtain⟨P,bB,N,O,D,F,X⟩:=jsI E #[.int .i64 0,.int .i64 0,.slice none 0 0,.int .i64 0,.string ⟨#[]⟩,.int .i64 0,.int .i64 0,.slice none 0 0,.int .i64 0,.slice none 0 0] 41;rw[N];replace E:=E.trans (F.mono E.size);replace B:=jab F (Nat.le_refl _) B
         (try replace I:=I.go F)
         clear J M F N;obtain⟨J,M⟩:=cl2 B;refine A _ _ ?_;clear A H;rw[O];clear O
        | (refine A _ _ ?_;clear A H)
       all_goals first
        | (refine rq [4,10] (.cons rfl (fun H A=>?_) (.cons rfl (fun H A=>?_) .nil)))
        | (refine rq [0,10] (.cons rfl (fun H A=>?_) (.cons rfl (fun H A=>?_) .nil)))
        | (refine rq [0,4] (.cons rfl (fun H A=>?_) (.cons rfl (fun H A=>?_) .nil)))
       all_goals go_simp
       all_goals first
        |
         refine (HC.out _).mono ?_;rintro e P ⟨rfl,C⟩;replace E:=E.trans (C.mono E.size);replace B:=jab C (Nat.le_refl _) B
         (try replace D:=jab C (Nat.le_refl _) D)
         clear J M C;obtain⟨J,M⟩:=cl2 B;refine A _ _ ?_;clear A H
        |
         obtain⟨P,bB,N,O,D,F,X⟩:=jsI E #[.int .i64 0,.int .i64 0,.slice none 0 0,.int .i64 0,.string ⟨#[]⟩,.int .i64 0,.int .i64 0,.slice none 0 0,.int .i64 0,.slice none 0 0] 41;rw[N];replace E:=E.trans (F.mono E.size);replace B:=jab F (Nat.le_refl _) B
         (try replace I:=I.go F)
         clear J M F N;obtain⟨J,M⟩:=cl2 B;refine A _ _ ?_;clear A H;rw[O];clear O
        | (refine A _ _ ?_;clear A H)
       all_goals first
        | (refine rq [6,10] (.cons rfl (fun H A=>?_) (.cons rfl (fun H A=>?_) .nil)))
        | (refine rq [4] (.cons rfl (fun H A=>?_) .nil))
        | (refine rq [0] (.cons rfl (fun H A=>?_) .nil))
       all_goals go_simp
       all_goals first
        |
         refine (al.out _ (U.out _ E)).mono ?_;intro e P Z;obtain⟨y,s,hy,rfl,I,C⟩:=o.out _ _ _ Z;have g:=Lib.hid hy;clear hy Z;replace E:=E.trans (C.mono E.size);replace B:=jab C (Nat.le_refl _) B
         (try replace D:=jab C (Nat.le_refl _) D)
         clear J M C;obtain⟨J,M⟩:=cl2 B;refine A _ _ ?_;clear A H
        |
         obtain⟨P,bB,N,O,D,F,X⟩:=jsI E #[.int .i64 0,.int .i64 0,.slice none 0 0,.int .i64 0,.string ⟨#[]⟩,.int .i64 0,.int .i64 0,.slice none 0 0,.int .i64 0,.slice none 0 0] 41;rw[N];replace E:=E.trans (F.mono E.size);replace B:=jab F (Nat.le_refl _) B
         (try replace I:=I.go F)
         clear J M F N;obtain⟨J,M⟩:=cl2 B;refine A _ _ ?_;clear A H;rw[O];clear O
        |
         refine (HC.out _).mono ?_;rintro e P ⟨rfl,C⟩;replace E:=E.trans (C.mono E.size);replace B:=jab C (Nat.le_refl _) B
         (try replace D:=jab C (Nat.le_refl _) D)
         clear J M C;obtain⟨J,M⟩:=cl2 B;refine A _ _ ?_;clear A H
        | (refine A _ _ ?_;clear A H)
       all_goals first
        | (refine taq 7 ?_;refine taq 8 ?_;refine taq 9 ?_;refine rq [10] (.cons rfl (fun H A=>?_) .nil))
        | (refine rq [6] (.cons rfl (fun H A=>?_) .nil))
       all_goals go_simp
       all_goals first
        |
         obtain⟨P,bB,N,O,D,F,X⟩:=jsI E #[.int .i64 0,.int .i64 0,.slice none 0 0,.int .i64 0,.string ⟨#[]⟩,.int .i64 0,.int .i64 0,.slice none 0 0,.int .i64 0,.slice none 0 0] 41;rw[N];replace E:=E.trans (F.mono E.size);replace B:=jab F (Nat.le_refl _) B
         (try replace I:=I.go F)
         clear J M F N;obtain⟨J,M⟩:=cl2 B;refine A _ _ ?_;clear A H;rw[O];clear O
        |
         refine (al.out _ (U.out _ E)).mono ?_;intro e P Z;obtain⟨y,s,hy,rfl,I,C⟩:=o.out _ _ _ Z;have g:=Lib.hid hy;clear hy Z;replace E:=E.trans (C.mono E.size);replace B:=jab C (Nat.le_refl _) B
         (try replace D:=jab C (Nat.le_refl _) D)
         clear J M C;obtain⟨J,M⟩:=cl2 B;refine A _ _ ?_;clear A H
       all_goals (try (refine taq 7 ?_;refine taq 8 ?_;refine taq 9 ?_))
       all_goals
        clear J M B;revert g;revert D;revert I;revert E;revert X;revert P;revert s;revert y;revert bB;exact key
     case pf =>
      intro bB y s P X E I D g;refine rd [11] (.cons rfl (fun H A=>?_) .nil);obtain⟨f0,f1,f2,f3,f4,f5,f6,f7,f8,f9⟩:=jam D;obtain⟨g0,g1,g2,g3,g4,g5,g6,g7,g8,g9⟩:=jbL D;obtain⟨V,hV,au,ar,aq⟩:=jaD (.int .i64 y.kind) (.int .i64 y.level) (.slice s.ea s.el s.ec) (.int .i64 y.hb) (.string y.hr) (.int .i64 y.cr) (.int .i64 y.cc) (.slice s.ca s.cl s.cc) (.int .i64 y.gf) (.slice s.ga s.gl s.gc) D;have v:Hid (V.heap[bB]? = some (.cells #[.int .i64 y.kind,.int .i64 y.level,.slice s.ea s.el s.ec,.int .i64 y.hb,.string y.hr,.int .i64 y.cr,.int .i64 y.cc,.slice s.ca s.cl s.cc,.int .i64 y.gf,.slice s.ga s.gl s.gc] 41 (0,0))/\s.At V.heap.size V y/\Bw w8 V):=⟨au,jee I D (fun i u=>jcP u) ar,aq _ _ E X⟩;clear au ar aq;go_simp;refine A _ _ ?_;clear A H;refine ta 12 ?_;refine wpAny_done (by kernel_rfl) ?_ _;go_wp2_with fail;go_meet;exact⟨bB,y,s,rfl,rfl,g,v.out.1,v.out.2.1,v.out.2.2⟩
    case rest =>
     obtain⟨w9,bD⟩:∃ w9,w9=wc:=⟨_,rfl⟩;subst bD;obtain⟨b3,y3,s3,rfl,rfl,bf,ba,aT,am⟩:=hcut;have bt:=a3.out w9 (ah.out.trans (am.out.mono ah.out.size));have aY:Hid (Bw w w9):=aX.out.trans ((U.out _ am.out).mono aX.out.size);have bs:Hid (jaw y2 y3=true):=by rw[Hid,be.out,bf.out];simp[jaw]
     have bp:=jab am.out (Nat.le_refl _) p.out;have aU:Hid (s2.At w9.heap.size w9 y2):=aF.out.go am.out;have p:=Lib.hid bp;clear bp bb U aF be bf ah am a3 o ak al HC br;go_wp2_with fail;refine bt.mono ?_;rintro e bq ⟨rfl,c⟩;have aG:Hid (Bw w bq):=aY.out.trans (c.mono aY.out.size);have bi:=jab c (Nat.le_refl _) p.out;have bj:=jab c (Nat.le_refl _) ba.out;obtain⟨c0,c1,c2,c3,c4,c5,c6,c7,c8,c9⟩:=jam bi;obtain⟨d0,d1,d2,d3,d4,d5,d6,d7,d8,d9⟩:=jam bj;have hSk:=ja3 y2 y3 s2 s3 bq (aU.out.go c) (aT.out.go c);rw[bs.out] at hSk;clear c bi bj p ba aT aU;go_wp2_with fail;refine hSk.mono ?_;rintro e bE ⟨rfl,bl⟩;have aW:Hid (Bw w bE):=aG.out.trans (bl.mono aG.out.size);go_wp2_with fail;go_ret;exact⟨rfl,aW.out⟩
end Go.Proofs.YtafhpamnegmilaaGreatDoor
