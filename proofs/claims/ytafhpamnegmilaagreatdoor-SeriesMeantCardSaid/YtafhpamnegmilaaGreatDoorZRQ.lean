/- A range over a function whose iterator keeps a variable of its own in a box (strings.SplitSeq): the kit's law of such a range, turned to that case. The reference of layer 9: Right, Same. The reference of layer 9: Same. The reference of layer 10: Bottom; Same at equal sketches. The reference of layer 10: Same, at any sketches. The reference of layer 10: Right, at any sketches. Printed by gen_rq.py. -/
import Derived.Test.YtafhpamnegmilaaGreatDoorZRE
set_option maxHeartbeats 8000000
set_option maxRecDepth 100000
namespace Go.Proofs.YtafhpamnegmilaaGreatDoor
open Go Go.RowKit Go.Shelf
def OwnX {β:Type} (B Bs:Nat) (I:β->World->Prop):Prop :=
 ∀ s W W' row,I s W->W.grownBy W' row->(∀ r,row=some r->r=Bs\/(B<=r/\∃ o:Obj,W.heap[r]? = some o/\o.isCells=false))->I s W'
theorem OwnX.from {β:Type} {B A:Nat} {I:β->World->Prop} (h:OwnX B A I):OwnFrom B I:=fun s W C row E D hr=>h s W C row E D (fun r e=>.inr (hr r e))
theorem OwnX.and {β:Type} {B A:Nat} {I C:β->World->Prop} (h:OwnX B A I) (G:OwnX B A C):OwnX B A (fun s W=>I s W/\C s W):=fun s W D row F E hr=>⟨h s W D row F.1 E hr,G s W D row F.2 E hr⟩
theorem jrK {β:Type} (B A:Nat) (p:β->Prop):OwnX B A (fun s (_:World)=>p s):=fun _ _ _ _ C _ _=>C
theorem jjI {β:Type} {A B C:Nat} {D:World} (F:A<=D.heap.size) (H:A<=B) (I:A<=C):OwnX B C (fun (_:β) W=>Below A D W) :=
 fun _ _ _ _ h E hr=>h.grown E (Nat.le_trans F h.size) (fun k e=>by rcases hr k e with rfl | ⟨G,_⟩<;>omega)
theorem jhE {β:Type} (C D B:Nat) (t:TypeId) (f:β->Value) (A:B≠D):OwnX C D (fun s W=>Boxed W B t (f s)):=fun s X Y row F H hr=>by
 refine F.kept H (fun e=>?_);rcases hr B e.symm with rfl | ⟨_,o,E,G⟩
 ·exact A rfl
 ·rw[show X.heap[B]? = _ from F] at E;cases E;cases G
def jp8 {β:Type} (B Bs:Nat) (J:β->World->Prop):Prop :=
 ∀ s W W' row,J s W->W.grownBy W' row->(∀ r,row=some r->r=Bs)->B<=W.heap.size->J s W'
def jhI {α:Type} (P:Program) (g:Nat) (lb:Array Value) (encs:α->Array Value) (Kp:World->World->Prop) (Bs:Nat) (xs:List α) (w:World):Prop :=
 ∀ (l:Nat) (J Jx:List α->World->Prop) (W:World),Bw w W->jp8 W.heap.size Bs J->jp8 W.heap.size Bs Jx ->
  (∀ pre x W1,J pre W1->W.heap.size<=W1.heap.size->YieldAt Fence.wide 7 P l (encs x) W1 fun e W' =>
   (e=.returned (.bool true)/\J (pre++[x]) W'/\Kp W1 W'/\W1.heap.size<=W'.heap.size)\/(e=.returned (.bool false)/\Jx (pre++[x]) W'/\W1.heap.size<=W'.heap.size)) ->
  J [] W ->
  CallsIn Fence.wide 8 P g (#[.func (.yield l) #[] #[]]++lb) W fun e W'=>(∃ v,e=.returned v)/\((J xs W')\/(∃ pre,pre <+: xs/\Jx pre W'))
theorem jsE {α:Type} {P:Program} {g:Operand} {ps:Array Tmp} {assign body:Code} {Q:Exit->Act->World->Prop} {a:Act} {w:World}
  {gf:Nat} {lb:Array Value} (hg:a.eval g=.func (.func gf) #[] lb) (eg:∀ args w,(callFunc gf args).run P w=.ok (.enter gf args) w)
  {U:α->Array Value} {i:World->World->Prop} {z:Nat} {xs:List α} (ae:jhI P gf lb U i z xs w) (aq:z<w.heap.size)
  (ac:∀ {A B C:World},i A B->i B C->i A C) (ab:∀ (W:World) (l:Nat) (o o':Obj),w.heap.size<=l->W.heap[l]? = some o->o.isCells=false->o.isWalk=false->i W (W.putObj l o')) (ao:∀ x,(U x).size=ps.size)
  (I:List α->World->Prop) (Ix:Code->List α->World->Prop) (aa:OwnX w.heap.size z I) (f:∀ c,OwnX w.heap.size z (Ix c)) (h0:I [] w) (a₁:α->Act)
  (b:∀ (l:Nat) (x:α) (W:World) (K:Act->World->Prop),K (a₁ x) W ->
   assign.wpIn (Fence.wide.inRound l) 7 P (Exit.then K (fun _ _ _=>False)) { tmps:=(ps.zip (U x)).foldl (fun t (p,v)=>t.setIfInBounds p v) a.tmps,defers:=[] } W)
  (m:∀ (l:Nat) (L:List α) (x:α) (W:World),I L W->w.heap.size<=W.heap.size->body.wpIn (Fence.wide.inRound l) 7 P (ownPostG w.heap.size i I Ix (L++[x]) W) (a₁ x) W)
  (q:∀ (D:Nat) (W:World),w.heap.size<=D->I xs W->W.heap[D]? = some (.deferred (some []))->Q .normal { a with defers:={ target:=.collected D,args:=#[] }::a.defers } W)
  (u:∀ (D:Nat) (c:Code) (L:List α) (W:World),w.heap.size<=D->L <+: xs->Ix c L W->W.heap[D]? = some (.deferred (some []))->c.wp P Q { a with defers:={ target:=.collected D,args:=#[] }::a.defers } W) :
  (Code.rangeFunc g ps assign body).wp P Q a w:=by
 refine (wpIn_wide (n:=9)).1 ?_;have hI:=aa.from;have d:=fun c=>(f c).from
 refine wpIn_rangeFunc ?_;intro fn ak;show ∃ _ _ _ _ _ _ _ _,(Instr.enterLoop fn a.tmps ps assign body none).run P w=_/\_;obtain⟨F,G⟩:∃ F:LoopState->Option Code->Loop,F=fun st pe => { state:=st,pending:=pe,fn,tmps:=a.tmps,params:=ps,assign,body,defers:=w.heap.size }:=⟨_,rfl⟩
 obtain⟨Z,X⟩:∃ Z,(w.alloc (.deferred (some []))).alloc (.loop (F .ready none))=Z:=⟨_,rfl⟩
 have ah:Z.heap[w.heap.size+1]? = some (.loop (F .ready none)):=by
  rw[<- X];have:=World.alloc_heap_new (w.alloc (.deferred (some []))) (.loop (F .ready none));rwa [World.size_alloc] at this
 have ag:Z.heap[w.heap.size]? = some (.deferred (some [])):=by
  rw[<- X];exact (Below.heap_alloc _ _ _ (by simp)).trans (World.alloc_heap_new w _)
 have af:I [] Z:=by rw[<- X];exact hI.alloc _ (hI.alloc _ h0)
 have aj:Bw w Z:=by
  rw[<- X];exact ((Below.refl _ w).alloc (Nat.le_refl _) _).alloc (by simp) _
 have au:Z.heap.size=w.heap.size+2:=by rw[<- X];simp
 refine⟨w.heap.size+1,[{ target:=.collected w.heap.size,args:=#[] }],Z,{ target:=.fn (.func gf) lb,args:=#[.func (.yield (w.heap.size+1)) #[] #[]] },Z,gf,
  #[.func (.yield (w.heap.size+1)) #[] #[]]++lb,Z,?_,?_,?_,?_,fun _=>by omega,?_⟩
 ·rw[<- X,G];exact run_enterLoop_outer _ _ _ _ _
 ·simp only[resolve,hg]
  simp[go_sem]
 ·intro f' ar;trivial
 ·simp[invoke,go_sem,eg]
 ·have V:∀ {A B:World} {row:Option Nat} {k:Nat} {o:Obj},A.grownBy B row->(∀ r,row=some r->r=z)->w.heap.size<=k->A.heap[k]? = some o->B.heap[k]? = some o:=fun M hr h ho =>
   (M.block _ (Array.getElem?_eq_some_iff.1 ho).1 (fun e=>by have:=hr _ e.symm;omega)).trans ho
  refine (ae (w.heap.size+1)
   (fun L W=>I L W/\W.heap[w.heap.size+1]? = some (.loop (F .ready none))/\W.heap[w.heap.size]? = some (.deferred (some [])))
   (fun L W=>∃ c,Ix c L W/\W.heap[w.heap.size+1]? = some (.loop (F .done (some c)))/\W.heap[w.heap.size]? = some (.deferred (some [])))
   Z aj
   (fun s A B row hs M hr _=>⟨aa s A B row hs.1 M (fun r e=>.inl (hr r e)),V M hr (by omega) hs.2.1,V M hr (Nat.le_refl _) hs.2.2⟩)
   (fun s A B row hs M hr _=>by
    obtain⟨c,hc,Y,h⟩:=hs;exact⟨c,f c s A B row hc M (fun r e=>.inl (hr r e)),V M hr (by omega) Y,V M hr (Nat.le_refl _) h⟩)
   ?_ ⟨af,ah,ag⟩).mono ?_
  ·rintro L x W ⟨hi,Y,h⟩ av
   have an:w.heap.size+1<W.heap.size:=(Array.getElem?_eq_some_iff.1 Y).1;have hy:=run_yield (P:=P) (args:=U x) Y (by rw[G];exact ao x);rw[G] at hy;refine⟨fn,_,assign,body,hy,roundIn_of_wpIn ak (b _ x W _ ?_)⟩;clear hy;refine⟨_,run_beginRound Y (by rw[G]),?_⟩;have am:(W.putObj (w.heap.size+1) (.loop { F .ready none with state:=.busy })).heap[w.heap.size+1]? = some (.loop { F .ready none with state:=.busy }):=World.putObj_heap_same an;have al:(W.putObj (w.heap.size+1) (.loop { F .ready none with state:=.busy })).heap[w.heap.size]? = some (.deferred (some [])):=(World.putObj_heap_other (by omega)).trans h;have ap:i W (W.putObj (w.heap.size+1) (.loop { F .ready none with state:=.busy })):=ab _ _ _ _ (by omega) Y rfl rfl;have N:∀ (O:World) (o:Obj),(O.putObj (w.heap.size+1) o).heap.size=O.heap.size:=fun O o=>by simp[World.putObj]
   refine wpIn_mono (m _ L x _ (hI.putObj _ hi (by omega) Y rfl) (by rw[N];omega)) ?_
   have fin:∀ (E:Option Code) (O:World),KeepsFrom w.heap.size (W.putObj (w.heap.size+1) (.loop { F .ready none with state:=.busy })) O ->
     (Instr.endRound (w.heap.size+1) E).run P O=.ok (.bool E.isNone) (O.putObj (w.heap.size+1) (.loop (F (if E.isNone then .ready else .done) E))) /\
     O.heap[w.heap.size+1]? = some (.loop { F .ready none with state:=.busy }) /\
     (O.putObj (w.heap.size+1) (.loop (F (if E.isNone then .ready else .done) E))).heap[w.heap.size+1]? = some (.loop (F (if E.isNone then .ready else .done) E)) /\
     (O.putObj (w.heap.size+1) (.loop (F (if E.isNone then .ready else .done) E))).heap[w.heap.size]? = some (.deferred (some [])):=fun E O H=>by
    have J:=H.same _ _ (by omega) am rfl;have:=run_endRound (P:=P) E J;rw[G] at this ⊢;exact⟨this,by rw[G] at J;exact J,World.putObj_heap_same (Array.getElem?_eq_some_iff.1 J).1,(World.putObj_heap_other (by omega)).trans (H.same _ _ (Nat.le_refl _) al rfl)⟩
   rintro e a3 O y
   cases e with
   | normal =>
    obtain⟨H,ad,R⟩:=y;obtain⟨hr,J,T,S⟩:=fin none O H;exact⟨_,_,hr,.inl ⟨rfl,⟨hI.putObj _ R (by omega) J rfl,T,S⟩,ac (ac ap ad) (ab _ _ _ _ (by omega) J rfl rfl),by rw[N];have j:=H.size;rw[N] at j;omega⟩⟩
   | ret =>
    obtain⟨H,R⟩:=y;obtain⟨hr,J,T,S⟩:=fin (some .ret) O H;exact⟨_,_,hr,.inr ⟨rfl,⟨.ret,(d _).putObj _ R (by omega) J rfl,T,S⟩,by rw[N];have j:=H.size;rw[N] at j;omega⟩⟩
   | exit id =>
    obtain⟨H,R⟩:=y;obtain⟨hr,J,T,S⟩:=fin (some (.exit id)) O H;exact⟨_,_,hr,.inr ⟨rfl,⟨.exit id,(d _).putObj _ R (by omega) J rfl,T,S⟩,by rw[N];have j:=H.size;rw[N] at j;omega⟩⟩
   | goto t =>
    obtain⟨H,R⟩:=y;obtain⟨hr,J,T,S⟩:=fin (some (.goto t)) O H;exact⟨_,_,hr,.inr ⟨rfl,⟨.goto t,(d _).putObj _ R (by omega) J rfl,T,S⟩,by rw[N];have j:=H.size;rw[N] at j;omega⟩⟩
   | panic ch=>exact y.elim
   | outgrown=>exact y.elim
  ·rintro e W2 ⟨⟨v,rfl⟩,(⟨hi,Y,h⟩ | ⟨L,ai,c,hi,Y,h⟩)⟩
   ·exact⟨none,_,by have:=run_endLoop (P:=P) Y (by rw[G];simp);rw[G] at this;exact this,q _ _ (Nat.le_refl _) (hI.putObj _ hi (by omega) Y rfl) ((World.putObj_heap_other (by omega)).trans h)⟩
   ·exact⟨some c,_,by have:=run_endLoop (P:=P) Y (by rw[G];simp);rw[G] at this;exact this,wpIn_wide.2 (u _ c L _ (Nat.le_refl _) ai ((d c).putObj _ hi (by omega) Y rfl) ((World.putObj_heap_other (by omega)).trans h))⟩
theorem jp5 {α:Type} {P:Program} {g:Operand} {R:Array Tmp} {assign body:Code} {Q:Exit->Act->World->Prop} {a:Act} {w:World} (s:Nat) (f:α->Value)
  {gf:Nat} {lb:Array Value} (e:a.eval g=.func (.func gf) #[] lb) (b:∀ args w,(callFunc gf args).run P w=.ok (.enter gf args) w)
  {E:α->Array Value} {M:World->World->Prop} {S:Nat} {xs:List α} (O:jhI P gf lb E M S xs w) (U:S<w.heap.size)
  (Y:∀ {A B C:World},M A B->M B C->M A C) (X:∀ (W:World) (l:Nat) (o i:Obj),w.heap.size<=l->W.heap[l]? = some o->o.isCells=false->o.isWalk=false->M W (W.putObj l i)) (Z:∀ x,(E x).size=R.size)
  (I:List α->World->Prop) (T:Code->List α->World->Prop) (V:OwnX w.heap.size S I) (N:∀ c,OwnX w.heap.size S (T c)) (d:I [] w)
  (F:∀ (l:Nat) (x:α) (W:World) (K:Act->World->Prop),K { tmps:=((R.zip (E x)).foldl (fun t (p,v)=>t.setIfInBounds p v) a.tmps).setIfInBounds s (f x),defers:=[] } W ->
   assign.wpIn (Fence.wide.inRound l) 7 P (Exit.then K (fun _ _ _=>False)) { tmps:=(R.zip (E x)).foldl (fun t (p,v)=>t.setIfInBounds p v) a.tmps,defers:=[] } W)
  (H:∀ (l:Nat) (G:List α) (x:α) (W:World),I G W->w.heap.size<=W.heap.size->body.wpIn (Fence.wide.inRound l) 7 P (ownPostG w.heap.size M I T (G++[x]) W) { tmps:=((R.zip (E x)).foldl (fun t (p,v)=>t.setIfInBounds p v) a.tmps).setIfInBounds s (f x),defers:=[] } W)
  (J:∀ (D:Nat) (W:World),w.heap.size<=D->I xs W->W.heap[D]? = some (.deferred (some []))->Q .normal { a with defers:={ target:=.collected D,args:=#[] }::a.defers } W)
  (L:∀ (D:Nat) (c:Code) (G:List α) (W:World),w.heap.size<=D->G <+: xs->T c G W->W.heap[D]? = some (.deferred (some []))->c.wp P Q { a with defers:={ target:=.collected D,args:=#[] }::a.defers } W) :
  (Code.rangeFunc g R assign body).wp P Q a w :=
 jsE e b O U (fun h k=>Y h k) X Z I T V N d _ F H J L
def jd6 (l:List (Int × Int)) (k:Nat):Int:=if k=0 then -1 else (l[k-1]?.map (·.1)).getD (-1)
theorem jis {l:List (Int × Int)} {k:Nat} {x:Int × Int} (h:l[k]? = some x):jd6 l (k+1)=x.1:=by simp[jd6,h]
theorem jq5 {f:Int} {l:List (Int × Int)} {k:Nat} {x:Int × Int} (h:l[k]? = some x):(jb7 (jbw f) (jd6 l k) (l.drop k)).isSome=(!(x.2==0 || !jao f x.1||decide (x.1<=jd6 l k))&&(jb7 (jbw f) (jd6 l (k+1)) (l.drop (k+1))).isSome):=by
 rw[jat h,jdj,jis h];unfold jbw
 cases A:(x.2==0 || !jao f x.1||decide (x.1<=jd6 l k)) with
 | true=>rfl
 | false=>rfl
theorem jeT (f:Int) (a:Option Addr) (len cap:Nat) (l:List (Int × Int)) (w:World) (g:SlE jbO 2 w.heap.size w a len l) (hm:len<=maxLen) (hU:jsG l) :
  CR 121 #[.agg #[.int .i64 f,.slice a len cap]] w (.bool (jaP f l)):=by
 have J:=g.1;unfold maxLen at hm;obtain⟨c,ac,U,N,ad⟩:=jaf w #[.int .i64 f,.slice a len cap] 39;have HL:=Lib.hid (g.go N);have HU:=Lib.hid hU;have HN:=Lib.hid J;have B:=Lib.hid N;have HE:Hid (jaP f l=(jaq f&&(jb7 (jbw f) (jd6 l 0) (l.drop 0)).isSome)):=rfl;have L:Hid (jaq f=(decide (0<=f)&&decide (f<=3))):=rfl;have H:w.heap.size<c.heap.size:=by omega
 clear g N J hU;generalize jaP f l=bR at HE ⊢;obtain⟨c0,c1⟩:=cl2 U;clear U;go_enter Tryz.func121,Tryz.ntmps121;go_wp2_with fail;go_loopw [3] (fun i wr=>∃ (k:Nat),i=.int .i64 k/\k<=len/\Bw c wr/\Hid (bR=(jaq f&&(jb7 (jbw f) (jd6 l k) (l.drop k)).isSome))) (fun i _=>len-(intOf i).toNat)
 case atStart=>exact⟨0,rfl,Nat.zero_le _,Below.refl _ _,HE.out⟩
 case round =>
  obtain⟨k,rfl,hk,I,Z⟩:=hrel;have G:=I.size;have r0:wr.cell? ⟨w.heap.size,0,none⟩=some (.int .i64 f):=(I.cell (p:=⟨w.heap.size,0,none⟩) H).trans c0;have r1:wr.cell? ⟨w.heap.size,1,none⟩=some (.slice a len cap):=(I.cell (p:=⟨w.heap.size,1,none⟩) H).trans c1;by_cases q:k<len
  ·obtain⟨x,b,off,r,rfl,F,n⟩:=HL.out.at (j:=k) q
   have P:∀ W,Bw wr W->W.cell? ⟨w.heap.size,0,none⟩=some (.int .i64 f)/\W.cell? ⟨w.heap.size,1,none⟩=some (.slice (some ⟨b,off,none⟩) len cap)/\W.cell? ⟨b,off+k*2,none⟩=some (.int .i64 x.1)/\Bw wr W:=fun W h =>
    ⟨(h.cell (p:=⟨w.heap.size,0,none⟩) (Nat.lt_of_lt_of_le H G)).trans r0,(h.cell (p:=⟨w.heap.size,1,none⟩) (Nat.lt_of_lt_of_le H G)).trans r1,(h.cell (p:=⟨b,off+k*2,none⟩) (Nat.lt_of_lt_of_le F G)).trans ((I.cell (p:=⟨b,off+k*2,none⟩) F).trans (n 0 (by omega))),h⟩
   have M:=Lib.hid P;obtain⟨q0,q1,q2,u⟩:=P wr (Below.refl _ _);obtain⟨⟨u1,u2⟩,v1,v2⟩:=HU.out x (List.mem_of_getElem? r);have R:Hid (∀ W,Calls Tryz.prog 156 #[.int .i64 f,.int .i64 x.1] W (BdR f x.1 W)):=fun W=>jes f x.1 ⟨u1,u2⟩ W
   have i1:(k:Int)<(len:Int):=by omega
   have HX:=Lib.hid r;have HC:Hid (c.cell? ⟨b,off+k*2+1,none⟩=some (.int .u64 x.2)):=n 1 (by omega);clear P n r r0 r1;go_wp2_with fail
   go_region_held3 (fun w'=>w'.cell? ⟨w.heap.size,0,none⟩=some (.int .i64 f)/\w'.cell? ⟨w.heap.size,1,none⟩=some (.slice (some ⟨b,off,none⟩) len cap)/\w'.cell? ⟨b,off+k*2,none⟩=some (.int .i64 x.1)/\Bw wr w')
    (first
     | with_reducible exact M.out _ u.drew
     | (go_split_ands;with_reducible refine M.out _ ?_;with_reducible first | exact Below.trans (by assumption) (Below.mono (by assumption) (Below.size (by assumption))) | assumption)
     | go_keep)
    (first | (go_at_call 156;refine (R.out _).mono ?_;rintro e w6 ⟨lo,hi,rfl,-,m⟩))
   rename_i O
   obtain⟨q0,q1,q2,u⟩:=O;have D:Bw c w6:=I.trans (u.mono G);have q3:w6.cell? ⟨b,off+k*2+1,none⟩=some (.int .u64 x.2):=(D.cell (p:=⟨b,off+k*2+1,none⟩) F).trans HC.out;have C:Hid ((x.2==0 || !jao f x.1||decide (x.1<=jd6 l k))=true->bR=false):=fun h=>by rw[Z.out,jq5 HX.out,h];simp
   have A:Hid ((x.2==0 || !jao f x.1||decide (x.1<=jd6 l k))=false->bR=(jaq f&&(jb7 (jbw f) (jd6 l (k+1)) (l.drop (k+1))).isSome)):=fun h=>by rw[Z.out,jq5 HX.out,h];rfl
   clear Z R HC m M
   have d:Hid (jao f x.1=true->0<=x.1):=fun h=>by
    unfold jao at h;split at h
    ·rename_i T
     simp only[Bool.and_eq_true,decide_eq_true_eq] at T;exact T.2
    ·cases h
   generalize jao f x.1=bo at *
   cases bo with
   | false =>
    have E:Hid (bR=false):=C.out (by simp);clear C A;go_wp2_with fail;go_quiet (fail);go_wp2_with fail;go_ret;exact⟨by rw[E.out];rfl,B.out.trans ((bDr D _).mono B.out.size)⟩
   | true =>
    by_cases t:x.2=0
    ·have E:Hid (bR=false):=C.out (by simp[t])
     have v:(x.2==0)=true:=by rw[t];rfl
     clear C A;go_wp2_with fail;go_quiet (fail);go_wp2_with fail;go_ret;exact⟨by rw[E.out];rfl,B.out.trans ((bDr D _).mono B.out.size)⟩
    have v:(x.2==0)=false:=beq_eq_false_iff_ne.2 t;by_cases o:k=0
    ·subst o
     have E:=Lib.hid (A.out (by rw[v];simp[jd6];have:=d.out rfl;omega));simp only[Nat.zero_mul,Nat.add_zero,Int.natCast_zero] at q2 q3 i1 ⊢;have i2:(0:Int)<=0:=by omega
     clear C A;go_wp2_with fail;go_quiet (fail);go_wp2_with fail;go_roundw
     case rel=>exact⟨1,by go_num,by omega,bDr D _,E.out⟩
     case measure=>simp[intOf];omega
    ·obtain⟨j,rfl⟩:∃ j,k=j+1:=⟨k-1,by omega⟩
     obtain⟨y,b',ab,s,S,aa,V⟩:=HL.out.at (j:=j) (by omega);injection S with S
     injection S with S e2
     subst S;subst e2;have q4:w6.cell? ⟨b,off+j*2,none⟩=some (.int .i64 y.1):=(D.cell (p:=⟨b,off+j*2,none⟩) F).trans (V 0 (by omega));have X:jd6 l (j+1)=y.1:=jis s;rw[X] at C A;obtain⟨⟨y1,y2⟩,-,-⟩:=HU.out y (List.mem_of_getElem? s);have i2:(0:Int)<(j:Int)+1:=by omega
     have i3:(j:Int)+1<(len:Int):=by omega
     have i4:(j:Int)<(len:Int):=by omega
     clear V s X;by_cases Y:x.1<=y.1
     ·have z:decide (x.1<=y.1)=true:=decide_eq_true Y
      have E:Hid (bR=false):=C.out (by rw[z];simp);clear C A;go_wp2_with fail;go_quiet (fail);go_wp2_with fail;go_ret;exact⟨by rw[E.out];rfl,B.out.trans ((bDr D _).mono B.out.size)⟩
     ·have z:decide (x.1<=y.1)=false:=decide_eq_false Y
      have E:=Lib.hid (A.out (by rw[z,v];rfl));clear C A;go_wp2_with fail;go_quiet (fail);go_wp2_with fail;go_roundw
      case rel=>exact⟨j+1+1,by go_num,by omega,bDr D _,E.out⟩
      case measure=>simp[intOf];omega
  ·obtain rfl:k=len:=by omega
   have E:Hid (bR=jaq f):=by rw[Hid,Z.out,List.drop_of_length_le (by rw[HN.out];exact Nat.le_refl _)];simp[jgc]
   by_cases h1:0<=f
   ·by_cases T:f<=3
    ·have Q:Hid (bR=true):=by rw[Hid,E.out,L.out,decide_eq_true h1,decide_eq_true T];rfl
     go_wp2_with fail;go_ret;exact⟨by rw[Q.out];rfl,B.out.trans (I.mono B.out.size)⟩
    ·have Q:Hid (bR=false):=by rw[Hid,E.out,L.out,decide_eq_false T,Bool.and_false]
     go_wp2_with fail;go_ret;exact⟨by rw[Q.out];rfl,B.out.trans (I.mono B.out.size)⟩
   ·have Q:Hid (bR=false):=by rw[Hid,E.out,L.out,decide_eq_false h1,Bool.false_and]
    go_wp2_with fail;go_ret;exact⟨by rw[Q.out];rfl,B.out.trans (I.mono B.out.size)⟩
theorem jjg (Q:Int) (Y:Option Addr) (A E:Nat) (O:List (Int × Int)) (R:Int) (Z:Option Addr) (C F:Nat) (P:List (Int × Int)) (w:World) (g:SlE jbO 2 w.heap.size w Y A O) (j:SlE jbO 2 w.heap.size w Z C P) (hm:A<=maxLen) :
  CR 39 #[.agg #[.int .i64 Q,.slice Y A E],.agg #[.int .i64 R,.slice Z C F]] w (.bool (Q==R&&O==P)):=by
 have S:=g.1;have a:=j.1;unfold maxLen at hm;obtain⟨c,aa,T,U,G,ad⟩:=jaI w #[.int .i64 Q,.slice Y A E] 39 #[.int .i64 R,.slice Z C F] 39;have H1:=Lib.hid (g.go G);have H2:=Lib.hid (j.go G);have B:=Lib.hid G;have l:w.heap.size<c.heap.size:=by omega
 have m:w.heap.size+1<c.heap.size:=by omega
 obtain⟨d0,d1⟩:=cl2 T;obtain⟨g0,g1⟩:=cl2 U;clear T U G g j
 cases hr:(Q==R) with
 | false =>
  have t0:(Q != R)=true:=by rw[bne,hr];rfl
  clear hr S a;go_enter Tryz.func39,Tryz.ntmps39;go_wp2_with fail;go_ret;exact⟨rfl,B.out⟩
 | true =>
  have t0:(Q != R)=false:=by rw[bne,hr];rfl
  rw[Bool.true_and];clear hr;by_cases hl:A=C
  ·subst hl
   have t1:((A:Int) != (A:Int))=false:=by simp
   have E1:=Lib.hid S;have E2:=Lib.hid a;clear S a;go_enter Tryz.func39,Tryz.ntmps39;go_wp2_with fail;go_loopw [5] (fun i wr=>∃ (k:Nat),i=.int .i64 k/\k<=A/\Bw c wr/\Hid (O.take k=P.take k)) (fun i _=>A-(intOf i).toNat)
   case atStart=>exact⟨0,rfl,Nat.zero_le _,Below.refl _ _,rfl⟩
   case round =>
    obtain⟨k,rfl,hk,I,s⟩:=hrel;have r0:wr.cell? ⟨w.heap.size,1,none⟩=some (.slice Y A E):=(I.cell (p:=⟨w.heap.size,1,none⟩) l).trans d1;have r1:wr.cell? ⟨w.heap.size+1,1,none⟩=some (.slice Z A F):=(I.cell (p:=⟨w.heap.size+1,1,none⟩) m).trans g1;by_cases V:k<A
    ·obtain⟨x,v,o1,X,d,ab,J⟩:=(H1.out.below I).at V
     obtain⟨y,z,o2,hy,f,ac,L⟩:=(H2.out.below I).at V;subst d;subst f;have p0:wr.cell? ⟨v,o1+k*2,none⟩=some (.int .i64 x.1):=J 0 (by omega);have p1:wr.cell? ⟨v,o1+k*2+1,none⟩=some (.int .u64 x.2):=J 1 (by omega);have q0:wr.cell? ⟨z,o2+k*2,none⟩=some (.int .i64 y.1):=L 0 (by omega);have q1:wr.cell? ⟨z,o2+k*2+1,none⟩=some (.int .u64 y.2):=L 1 (by omega);have i0:(0:Int)<=(k:Int):=by omega
     have i1:(k:Int)<(A:Int):=by omega
     have t:=Lib.hid X;have u:=Lib.hid hy;obtain⟨n,o⟩:=x;obtain⟨q,r⟩:=y;dsimp only at p0 p1 q0 q1;clear J L X hy
     have H:¬ (n=q/\o=r)->(O==P)=false:=fun h=>by
      rw[beq_eq_false_iff_ne];intro e;have X:=t.out;rw[e,u.out] at X;have h3:=Option.some.inj X;injection h3 with h4 h5
      exact h ⟨h4.symm,h5.symm⟩
     have D:=Lib.hid H;clear H;by_cases M:n=q
     ·by_cases N:o=r
      ·subst M;subst N
       clear D;go_wp2_with fail;go_quiet (fail);go_wp2_with fail;go_roundw
       case rel=>exact⟨k+1,by go_num,by omega,bDr I _,by rw[Hid,jai t.out,jai u.out,s.out]⟩
       case measure=>simp[intOf];omega
      ·have b:Hid ((O==P)=false):=D.out (fun h=>N h.2)
       have n2:(o==r)=false:=beq_eq_false_iff_ne.2 N;clear D;go_wp2_with fail;go_quiet (fail);go_wp2_with fail;go_ret;exact⟨by rw[b.out];rfl,B.out.trans ((bDr I _).mono B.out.size)⟩
     ·have b:Hid ((O==P)=false):=D.out (fun h=>M h.1)
      have n1:(n==q)=false:=beq_eq_false_iff_ne.2 M;clear D;go_wp2_with fail;go_quiet (fail);go_wp2_with fail;go_ret;exact⟨by rw[b.out];rfl,B.out.trans ((bDr I _).mono B.out.size)⟩
    ·obtain rfl:k=A:=by omega
     go_wp2_with fail;go_ret;have h9:=s.out;rw[List.take_of_length_le (by rw[<- E1.out];omega),List.take_of_length_le (by rw[<- E2.out];omega)] at h9;exact⟨by rw[h9];simp,B.out.trans (I.mono B.out.size)⟩
  ·have t1:((A:Int) != (C:Int))=true:=by rw[bne_iff_ne];omega
   have H:Hid ((O==P)=false):=by
    rw[Hid,beq_eq_false_iff_ne];intro e;rw[e] at S;omega
   clear S a;go_enter Tryz.func39,Tryz.ntmps39;go_wp2_with fail;go_ret;exact⟨by rw[H.out];rfl,B.out⟩
theorem jaO (k:Int) (w:World):Calls Tryz.prog 117 #[.int .i64 k] w fun e w'=>e=.returned (.int .i64 (jaF k))/\w=w':=by
 cases A:(k==1) with
 | true =>
  go_enter Tryz.func117,Tryz.ntmps117;go_wp2;go_ret;exact⟨by simp[jaF,A],rfl⟩
 | false =>
  cases B:(k==2) with
  | true =>
   go_enter Tryz.func117,Tryz.ntmps117;go_wp2;go_ret;exact⟨by simp[jaF,A,B],rfl⟩
  | false =>
   cases C:(k==3) with
   | true =>
    go_enter Tryz.func117,Tryz.ntmps117;go_wp2;go_ret;exact⟨by simp[jaF,A,B,C],rfl⟩
   | false =>
    go_enter Tryz.func117,Tryz.ntmps117;go_wp2;go_ret;exact⟨by simp[jaF,A,B,C],rfl⟩
theorem ja3 (x y:Sk) (s t:SS) (w:World) (k:s.At w.heap.size w x) (l:t.At w.heap.size w y) :
  CR 13 #[.agg #[.int .i64 x.kind,.int .i64 x.level,.slice s.ea s.el s.ec,.int .i64 x.hb,.string x.hr,.int .i64 x.cr,.int .i64 x.cc,.slice s.ca s.cl s.cc,.int .i64 x.gf,.slice s.ga s.gl s.gc],.agg #[.int .i64 y.kind,.int .i64 y.level,.slice t.ea t.el t.ec,.int .i64 y.hb,.string y.hr,.int .i64 y.cr,.int .i64 y.cc,.slice t.ca t.cl t.cc,.int .i64 y.gf,.slice t.ga t.gl t.gc]] w (.bool (jaw x y)):=by
 obtain⟨m,f,A,B,N,aa⟩:=jaI w #[.int .i64 x.kind,.int .i64 x.level,.slice s.ea s.el s.ec,.int .i64 x.hb,.string x.hr,.int .i64 x.cr,.int .i64 x.cc,.slice s.ca s.cl s.cc,.int .i64 x.gf,.slice s.ga s.gl s.gc] 41 #[.int .i64 y.kind,.int .i64 y.level,.slice t.ea t.el t.ec,.int .i64 y.hb,.string y.hr,.int .i64 y.cr,.int .i64 y.cc,.slice t.ca t.cl t.cc,.int .i64 y.gf,.slice t.ga t.gl t.gc] 41;have J:=Lib.hid N;have Y:=Lib.hid A;have Z:=Lib.hid B;obtain⟨n,c1,c2,c3,c4,c5,o,p,q,r⟩:=jam A;obtain⟨u,v,z,d3,d4,d5,d6,d7,d8,d9⟩:=jam B;have V:=jqM x.hb y.hb x.hr y.hr;have n2:=juW;have S:=k.go N;have a:=l.go N;clear k l A B N;have b:=Lib.hid (jd8 s.ea s.el s.ec x.e t.ea t.el t.ec y.e m S.e.1 a.e.1 (Nat.le_trans S.e.2.1 S.e.2.2.1));have G:=Lib.hid (And.intro S a);clear S a
 cases i:(x.kind==y.kind) with
 | false =>
  have E:Hid (jaw x y=false):=by simp[Hid,jaw,i]
  clear V;go_enter Tryz.func13,Tryz.ntmps13;go_wp2_with fail;go_ret;exact⟨by rw[E.out];rfl,J.out⟩
 | true =>
 cases j:(x.level==y.level) with
 | false =>
  have E:Hid (jaw x y=false):=by simp[Hid,jaw,j]
  clear V;go_enter Tryz.func13,Tryz.ntmps13;go_wp2_with fail;go_ret;exact⟨by rw[E.out];rfl,J.out⟩
 | true =>
 have E:Hid (jaw x y=((x.hb==y.hb&&x.hr.toList==y.hr.toList)&&x.e==y.e&&(x.cr==y.cr&&x.cc==y.cc&&x.cl==y.cl)&&(x.gf==y.gf&&x.gl==y.gl))):=by simp only[Hid,jaw,i,j,Bool.true_and]
 generalize hh:(x.hb==y.hb&&x.hr.toList==y.hr.toList)=bh at E V;generalize he:(x.e==y.e)=be at E b;clear hh he;go_enter Tryz.func13,Tryz.ntmps13;go_wp2_with fail;refine b.out.mono ?_;rintro e w1 ⟨rfl,C⟩;have H:=jab C (Nat.le_refl _) Y.out;have I:=jab C (Nat.le_refl _) Z.out;obtain⟨p0,p1,p2,p3,p4,p5,p6,p7,p8,p9⟩:=jam H;obtain⟨q0,q1,q2,q3,q4,q5,q6,q7,q8,q9⟩:=jam I;have F:=G.out.1.go C;have P:=G.out.2.go C;have U:=Lib.hid (jje x.cr x.cc s.ca s.cl s.cc x.cl y.cr y.cc t.ca t.cl t.cc y.cl w1 F.c.1 P.c.1 (Nat.le_trans F.c.2.1 F.c.2.2.1));have X:=Lib.hid (And.intro F P);have Q:=Lib.hid H;have R:=Lib.hid I;have L:=Lib.hid (J.out.trans (C.mono J.out.size));clear f b n c1 c2 c3 c4 c5 o p q r u v z d3 d4 d5 d6 d7 d8 d9 F P G H I C
 cases be with
 | false =>
  clear U V;go_wp2_with fail;go_ret;exact⟨by rw[E.out];simp,L.out⟩
 | true =>
 cases bh with
 | false =>
  clear U;go_wp2_with fail;go_ret;exact⟨by rw[E.out];simp,L.out⟩
 | true =>
 generalize hc:(x.cr==y.cr&&x.cc==y.cc&&x.cl==y.cl)=bc at E U;clear hc;go_wp2_with fail;refine U.out.mono ?_;rintro e w2 ⟨rfl,D⟩;have A:=jab D (Nat.le_refl _) Q.out;have B:=jab D (Nat.le_refl _) R.out;obtain⟨r0,r1,r2,r3,r4,r5,r6,r7,r8,r9⟩:=jam A;obtain⟨u0,u1,u2,u3,u4,u5,u6,u7,u8,u9⟩:=jam B;have M:=X.out.1.go D;have T:=X.out.2.go D;have d:=Lib.hid (jjg x.gf s.ga s.gl s.gc x.gl y.gf t.ga t.gl t.gc y.gl w2 M.g.1 T.g.1 (Nat.le_trans M.g.2.1 M.g.2.2.1));have O:=Lib.hid (L.out.trans (D.mono L.out.size));clear U p0 p1 p2 p3 p4 p5 p6 p7 p8 p9 q0 q1 q2 q3 q4 q5 q6 q7 q8 q9 M T X A B D
 cases bc with
 | false =>
  clear d;go_wp2_with fail;go_ret;exact⟨by rw[E.out];simp,O.out⟩
 | true =>
 go_wp2_with fail;refine d.out.mono ?_;rintro e w3 ⟨rfl,h⟩;clear d;go_wp2_with fail;go_ret;exact⟨by rw[E.out];simp,O.out.trans (h.mono O.out.size)⟩
theorem jhu  (H:List Int) (T:Int) (hr:ByteArray) (S R:Int) (cl:List Int) (gf:Int) (gl:List (Int × Int)) (s:SS) (w:World) (u:s.At w.heap.size w (⟨1,0,H,T,hr,S,R,cl,gf,gl⟩:Sk)) (v:jc8 H) :
  CR 65 #[.agg #[.int .i64 1,.int .i64 0,.slice s.ea s.el s.ec,.int .i64 T,.string hr,.int .i64 S,.int .i64 R,.slice s.ca s.cl s.cc,.int .i64 gf,.slice s.ga s.gl s.gc]] w (.bool ((jaH H)&&jaw (⟨1,0,H,T,hr,S,R,cl,gf,gl⟩:Sk) (jaQ 1 0 H))):=by
 obtain⟨Q,aa,f,N,ac⟩:=jaf w #[.int .i64 1,.int .i64 0,.slice s.ea s.el s.ec,.int .i64 T,.string hr,.int .i64 S,.int .i64 R,.slice s.ca s.cl s.cc,.int .i64 gf,.slice s.ga s.gl s.gc] 41;have U:=Lib.hid (u.go N);have J:=Lib.hid N;have m:Hid (∀ W,Calls Tryz.prog 117 #[.int .i64 1] W fun e w'=>e=.returned (.int .i64 4)/\w'=W):=fun W=>(jaO 1 W).mono fun e w' ⟨h1,h2⟩=>⟨h1,h2.symm⟩
 obtain⟨k,l,q,d3,d4,d5,d6,d7,d8,d9⟩:=jam f;clear f N u;obtain⟨a,M⟩:∃ a,jaH H=a:=⟨_,rfl⟩;have Y:Hid ((jaH H)=(a)):=by rw[Hid,M]
 obtain⟨y,P⟩:∃ y,jaw (⟨1,0,H,T,hr,S,R,cl,gf,gl⟩:Sk) (jaQ 1 0 H)=y:=⟨_,rfl⟩;have o:=Lib.hid P;rw[P];clear P;go_enter Tryz.func65,Tryz.ntmps65;go_wp2_with fail;go_quiet ((go_at_call 117;exact Calls.quiet_of_same (m.out _)));obtain⟨E,d⟩:∃ E,Q.drewN nq=E:=⟨_,rfl⟩;have F:Bw Q E:=by rw[<- d];exact bDr (Below.refl _ _) _
 rw[d];obtain⟨D,ab,C,b,ad⟩:=jaf E #[.int .i64 1,.int .i64 0,.slice none 0 0,.int .i64 0,.string ⟨#[]⟩,.int .i64 0,.int .i64 0,.slice none 0 0,.int .i64 0,.slice none 0 0] 41;obtain⟨V,x⟩:∃ V,D.setCell ⟨E.heap.size,2,none⟩ (.slice s.ea s.el s.ec)=V:=⟨_,rfl⟩;have g:V.heap[E.heap.size]? = some (.cells #[.int .i64 1,.int .i64 0,.slice s.ea s.el s.ec,.int .i64 0,.string ⟨#[]⟩,.int .i64 0,.int .i64 0,.slice none 0 0,.int .i64 0,.slice none 0 0] 41 (0,0)):=by rw[<- x];exact (hSk C _)
 have c:Bw E V:=by rw[<- x];exact (b.setCell (p:=⟨E.heap.size,2,none⟩) (Nat.le_refl _) _)
 have L:Bw Q D:=F.trans (b.mono F.size);have G:Bw Q V:=F.trans (c.mono F.size);have B:w.heap.size<Q.heap.size:=by omega
 have ae:=F.size
 have n:Hid (CR 118 #[.agg #[.slice s.ea s.el s.ec]] V (.bool a)):=by
  have h:=jdv s.ea s.el s.ec H V (U.out.go G).e.1 (Nat.le_trans U.out.e.2.1 U.out.e.2.2.1) v;rw[M] at h;exact h
 obtain⟨c0,c1,c2,c3,c4,c5,c6,c7,c8,c9⟩:=jam C;obtain⟨f0,f1,f2,f3,f4,f5,f6,f7,f8,f9⟩:=jbL C;have e1:D.setCell ⟨E.heap.size,1,none⟩ (.int .i64 0)=D:=jaa C rfl;have e2:D.setCell ⟨E.heap.size,2,none⟩ (.slice none 0 0)=D:=jaa C rfl;have e3:D.setCell ⟨E.heap.size,3,none⟩ (.int .i64 0)=D:=jaa C rfl;have e4:D.setCell ⟨E.heap.size,4,none⟩ (.string ⟨#[]⟩)=D:=jaa C rfl;have e5:D.setCell ⟨E.heap.size,5,none⟩ (.int .i64 0)=D:=jaa C rfl;have e6:D.setCell ⟨E.heap.size,6,none⟩ (.int .i64 0)=D:=jaa C rfl;have e7:D.setCell ⟨E.heap.size,7,none⟩ (.slice none 0 0)=D:=jaa C rfl;have e8:D.setCell ⟨E.heap.size,8,none⟩ (.int .i64 0)=D:=jaa C rfl;have e9:D.setCell ⟨E.heap.size,9,none⟩ (.slice none 0 0)=D:=jaa C rfl;have p0:=(F.cell (p:=⟨w.heap.size,0,none⟩) B).trans k;have p1:=(F.cell (p:=⟨w.heap.size,1,none⟩) B).trans l;have a0:=(L.cell (p:=⟨w.heap.size,0,none⟩) B).trans k;have a1:=(L.cell (p:=⟨w.heap.size,1,none⟩) B).trans l;have a2:=(L.cell (p:=⟨w.heap.size,2,none⟩) B).trans q;have b0:=(G.cell (p:=⟨w.heap.size,0,none⟩) B).trans k;have b1:=(G.cell (p:=⟨w.heap.size,1,none⟩) B).trans l;have b2:=(G.cell (p:=⟨w.heap.size,2,none⟩) B).trans q;have X:=Lib.hid G;have Z:=Lib.hid g;have HR:=Lib.hid M;clear C g c L G M v;go_wp2_with fail;refine n.out.mono ?_;rintro e z ⟨rfl,O⟩;have A:Bw Q z:=X.out.trans (O.mono X.out.size);have i:=(O.block _ (Array.getElem?_eq_some_iff.1 Z.out).1).trans Z.out;have k0:=(A.cell (p:=⟨w.heap.size,0,none⟩) B).trans k;have k1:=(A.cell (p:=⟨w.heap.size,1,none⟩) B).trans l
 have k2:=(A.cell (p:=⟨w.heap.size,2,none⟩) B).trans q;have k3:=(A.cell (p:=⟨w.heap.size,3,none⟩) B).trans d3;have k4:=(A.cell (p:=⟨w.heap.size,4,none⟩) B).trans d4;have k5:=(A.cell (p:=⟨w.heap.size,5,none⟩) B).trans d5;have k6:=(A.cell (p:=⟨w.heap.size,6,none⟩) B).trans d6;have k7:=(A.cell (p:=⟨w.heap.size,7,none⟩) B).trans d7;have k8:=(A.cell (p:=⟨w.heap.size,8,none⟩) B).trans d8;have k9:=(A.cell (p:=⟨w.heap.size,9,none⟩) B).trans d9;obtain⟨m0,m1,m2,m3,m4,m5,m6,m7,m8,m9⟩:=jam i;have r:=ja3 (⟨1,0,H,T,hr,S,R,cl,gf,gl⟩:Sk) (jaQ 1 0 H) s ⟨s.ea,s.el,s.ec,none,0,0,none,0,0⟩ z (U.out.go A) ⟨(U.out.go A).e,jaA,jaA⟩;rw[o.out] at r;have HS:=Lib.hid r;clear r;have I:=Lib.hid A;clear i O A
 cases a with
 | false =>
  go_wp2_with fail;go_ret;exact⟨by rw[Y.out];rfl,J.out.trans (I.out.mono J.out.size)⟩
 | true =>
 go_wp2_with fail;refine HS.out.mono ?_;rintro e w3 ⟨rfl,t⟩;have j:=I.out.trans (t.mono I.out.size);go_wp2_with fail;go_ret;exact⟨by rw[Y.out];rfl,J.out.trans (j.mono J.out.size)⟩
theorem jhv (L:Nat) (aa:1<=L) (ab:L<=4) (m:List Int) (F:Int) (hr:ByteArray) (U T:Int) (cl:List Int) (gf:Int) (gl:List (Int × Int)) (s:SS) (w:World) (z:s.At w.heap.size w (⟨1,L,m,F,hr,U,T,cl,gf,gl⟩:Sk))  :
  CR 65 #[.agg #[.int .i64 1,.int .i64 L,.slice s.ea s.el s.ec,.int .i64 F,.string hr,.int .i64 U,.int .i64 T,.slice s.ca s.cl s.cc,.int .i64 gf,.slice s.ga s.gl s.gc]] w (.bool ((jaT F hr&&(F==8-(L:Int)))&&jaw (⟨1,L,m,F,hr,U,T,cl,gf,gl⟩:Sk) (jbl 1 L F hr))):=by
 obtain⟨S,ac,f,P,ae⟩:=jaf w #[.int .i64 1,.int .i64 L,.slice s.ea s.el s.ec,.int .i64 F,.string hr,.int .i64 U,.int .i64 T,.slice s.ca s.cl s.cc,.int .i64 gf,.slice s.ga s.gl s.gc] 41;have HA:=Lib.hid (z.go P);have I:=Lib.hid P;have n:Hid (∀ W,Calls Tryz.prog 117 #[.int .i64 1] W fun e w'=>e=.returned (.int .i64 4)/\w'=W):=fun W=>(jaO 1 W).mono fun e w' ⟨h1,h2⟩=>⟨h1,h2.symm⟩
 obtain⟨k,l,y,r,t,d5,d6,d7,d8,d9⟩:=jam f;clear f P z;have t0:((L:Int)==0)=false:=by rw[beq_eq_false_iff_ne];omega
 have t2:¬ (4:Int)<(L:Int):=by omega
 have t3:¬ (L:Int)<0:=by omega
 obtain⟨Z,N⟩:∃ Z,jaT F hr=Z:=⟨_,rfl⟩;obtain⟨q0,x⟩:∃ c,(F==8-(L:Int))=c:=⟨_,rfl⟩;have O:Hid ((jaT F hr&&(F==8-(L:Int)))=(Z&&q0)):=by rw[Hid,N,x]
 obtain⟨sR,R⟩:∃ sR,jaw (⟨1,L,m,F,hr,U,T,cl,gf,gl⟩:Sk) (jbl 1 L F hr)=sR:=⟨_,rfl⟩;have q:=Lib.hid R;rw[R];clear R;go_enter Tryz.func65,Tryz.ntmps65;go_wp2_with fail;go_quiet ((go_at_call 117;exact Calls.quiet_of_same (n.out _)));obtain⟨E,d⟩:∃ E,S.drewN nq=E:=⟨_,rfl⟩;have G:Bw S E:=by rw[<- d];exact bDr (Below.refl _ _) _
 rw[d];obtain⟨D,ad,C,a,af⟩:=jaf E #[.int .i64 1,.int .i64 L,.slice none 0 0,.int .i64 0,.string ⟨#[]⟩,.int .i64 0,.int .i64 0,.slice none 0 0,.int .i64 0,.slice none 0 0] 41;obtain⟨V,hV⟩:∃ V,(D.setCell ⟨E.heap.size,3,none⟩ (.int .i64 F)).setCell ⟨E.heap.size,4,none⟩ (.string hr)=V:=⟨_,rfl⟩;have g:V.heap[E.heap.size]? = some (.cells #[.int .i64 1,.int .i64 L,.slice none 0 0,.int .i64 F,.string hr,.int .i64 0,.int .i64 0,.slice none 0 0,.int .i64 0,.slice none 0 0] 41 (0,0)):=by rw[<- hV];exact (hSk (hSk C _) _)
 have b:Bw E V:=by rw[<- hV];exact ((a.setCell (p:=⟨E.heap.size,3,none⟩) (Nat.le_refl _) _).setCell (p:=⟨E.heap.size,4,none⟩) (Nat.le_refl _) _)
 have J:Bw S D:=G.trans (a.mono G.size);have M:Bw S V:=G.trans (b.mono G.size);have A:w.heap.size<S.heap.size:=by omega
 have ag:=G.size
 have o:Hid (CR 119 #[.agg #[.int .i64 F,.string hr]] V (.bool Z)):=by
  have h:=jeR F hr V;rw[N] at h;exact h
 obtain⟨c0,c1,c2,c3,c4,c5,c6,c7,c8,c9⟩:=jam C;obtain⟨f0,f1,f2,f3,f4,f5,f6,f7,f8,f9⟩:=jbL C;have e1:D.setCell ⟨E.heap.size,1,none⟩ (.int .i64 L)=D:=jaa C rfl;have e2:D.setCell ⟨E.heap.size,2,none⟩ (.slice none 0 0)=D:=jaa C rfl;have e3:D.setCell ⟨E.heap.size,3,none⟩ (.int .i64 0)=D:=jaa C rfl;have e4:D.setCell ⟨E.heap.size,4,none⟩ (.string ⟨#[]⟩)=D:=jaa C rfl;have e5:D.setCell ⟨E.heap.size,5,none⟩ (.int .i64 0)=D:=jaa C rfl;have e6:D.setCell ⟨E.heap.size,6,none⟩ (.int .i64 0)=D:=jaa C rfl;have e7:D.setCell ⟨E.heap.size,7,none⟩ (.slice none 0 0)=D:=jaa C rfl;have e8:D.setCell ⟨E.heap.size,8,none⟩ (.int .i64 0)=D:=jaa C rfl;have e9:D.setCell ⟨E.heap.size,9,none⟩ (.slice none 0 0)=D:=jaa C rfl;have p0:=(G.cell (p:=⟨w.heap.size,0,none⟩) A).trans k;have p1:=(G.cell (p:=⟨w.heap.size,1,none⟩) A).trans l;have a0:=(J.cell (p:=⟨w.heap.size,0,none⟩) A).trans k;have a1:=(J.cell (p:=⟨w.heap.size,1,none⟩) A).trans l;have a2:=(J.cell (p:=⟨w.heap.size,2,none⟩) A).trans y;have a3:=(J.cell (p:=⟨w.heap.size,3,none⟩) A).trans r;have a4:=(J.cell (p:=⟨w.heap.size,4,none⟩) A).trans t;have b0:=(M.cell (p:=⟨w.heap.size,0,none⟩) A).trans k;have b1:=(M.cell (p:=⟨w.heap.size,1,none⟩) A).trans l;have b3:=(M.cell (p:=⟨w.heap.size,3,none⟩) A).trans r;have b4:=(M.cell (p:=⟨w.heap.size,4,none⟩) A).trans t;have X:=Lib.hid M;have Y:=Lib.hid g;have HR:=Lib.hid N;clear C g b J M N;go_wp2_with fail;refine o.out.mono ?_;rintro e w2 ⟨rfl,Q⟩;have B:Bw S w2:=X.out.trans (Q.mono X.out.size)
 have i:=(Q.block _ (Array.getElem?_eq_some_iff.1 Y.out).1).trans Y.out;have k0:=(B.cell (p:=⟨w.heap.size,0,none⟩) A).trans k;have k1:=(B.cell (p:=⟨w.heap.size,1,none⟩) A).trans l;have k2:=(B.cell (p:=⟨w.heap.size,2,none⟩) A).trans y;have k3:=(B.cell (p:=⟨w.heap.size,3,none⟩) A).trans r;have k4:=(B.cell (p:=⟨w.heap.size,4,none⟩) A).trans t;have k5:=(B.cell (p:=⟨w.heap.size,5,none⟩) A).trans d5;have k6:=(B.cell (p:=⟨w.heap.size,6,none⟩) A).trans d6;have k7:=(B.cell (p:=⟨w.heap.size,7,none⟩) A).trans d7;have k8:=(B.cell (p:=⟨w.heap.size,8,none⟩) A).trans d8;have k9:=(B.cell (p:=⟨w.heap.size,9,none⟩) A).trans d9;obtain⟨m0,m1,m2,m3,m4,m5,m6,m7,m8,m9⟩:=jam i;have u:=ja3 (⟨1,L,m,F,hr,U,T,cl,gf,gl⟩:Sk) (jbl 1 L F hr) s ⟨none,0,0,none,0,0,none,0,0⟩ w2 (HA.out.go B) ⟨jaA,jaA,jaA⟩;rw[q.out] at u;have HS:=Lib.hid u;clear u;have H:=Lib.hid B;clear i Q B
 cases Z with
 | false =>
  go_wp2_with fail;go_ret;exact⟨by rw[O.out];rfl,I.out.trans (H.out.mono I.out.size)⟩
 | true =>
 cases q0 with
 | false =>
  go_wp2_with fail;go_ret;exact⟨by rw[O.out];rfl,I.out.trans (H.out.mono I.out.size)⟩
 | true =>
 go_wp2_with fail;refine HS.out.mono ?_;rintro e w3 ⟨rfl,v⟩;have j:=H.out.trans (v.mono H.out.size);go_wp2_with fail;go_ret;exact⟨by rw[O.out];rfl,I.out.trans (j.mono I.out.size)⟩
theorem jht (L:Nat) (aa:L<=3) (o:List Int) (U:Int) (hr:ByteArray) (T S:Int) (cl:List Int) (gf:Int) (gl:List (Int × Int)) (s:SS) (w:World) (hA:s.At w.heap.size w (⟨3,L,o,U,hr,T,S,cl,gf,gl⟩:Sk)) (hU:jsG gl) :
  CR 65 #[.agg #[.int .i64 3,.int .i64 L,.slice s.ea s.el s.ec,.int .i64 U,.string hr,.int .i64 T,.int .i64 S,.slice s.ca s.cl s.cc,.int .i64 gf,.slice s.ga s.gl s.gc]] w (.bool ((jaP gf gl&&(gf==3-(L:Int)))&&jaw (⟨3,L,o,U,hr,T,S,cl,gf,gl⟩:Sk) (jbv 3 L gf gl))):=by
 obtain⟨R,ab,i,O,ad⟩:=jaf w #[.int .i64 3,.int .i64 L,.slice s.ea s.el s.ec,.int .i64 U,.string hr,.int .i64 T,.int .i64 S,.slice s.ca s.cl s.cc,.int .i64 gf,.slice s.ga s.gl s.gc] 41;have X:=Lib.hid (hA.go O);have I:=Lib.hid O;have q:Hid (∀ W,Calls Tryz.prog 117 #[.int .i64 3] W fun e w'=>e=.returned (.int .i64 3)/\w'=W):=fun W=>(jaO 3 W).mono fun e w' ⟨h1,h2⟩=>⟨h1,h2.symm⟩
 obtain⟨m,n,d2,d3,d4,d5,d6,d7,u,v⟩:=jam i;clear i O hA;have t2:¬ (3:Int)<(L:Int):=by omega
 have t3:¬ (L:Int)<0:=by omega
 obtain⟨a,M⟩:∃ a,jaP gf gl=a:=⟨_,rfl⟩;obtain⟨q0,z⟩:∃ c,(gf==3-(L:Int))=c:=⟨_,rfl⟩;have N:Hid ((jaP gf gl&&(gf==3-(L:Int)))=(a&&q0)):=by rw[Hid,M,z]
 obtain⟨sR,Q⟩:∃ sR,jaw (⟨3,L,o,U,hr,T,S,cl,gf,gl⟩:Sk) (jbv 3 L gf gl)=sR:=⟨_,rfl⟩;have t:=Lib.hid Q;rw[Q];clear Q;go_enter Tryz.func65,Tryz.ntmps65;go_wp2_with fail;go_quiet ((go_at_call 117;exact Calls.quiet_of_same (q.out _)));obtain⟨E,f⟩:∃ E,R.drewN nq=E:=⟨_,rfl⟩;have G:Bw R E:=by rw[<- f];exact bDr (Below.refl _ _) _
 rw[f];obtain⟨D,ac,C,b,ae⟩:=jaf E #[.int .i64 3,.int .i64 L,.slice none 0 0,.int .i64 0,.string ⟨#[]⟩,.int .i64 0,.int .i64 0,.slice none 0 0,.int .i64 0,.slice none 0 0] 41;obtain⟨V,hV⟩:∃ V,(D.setCell ⟨E.heap.size,8,none⟩ (.int .i64 gf)).setCell ⟨E.heap.size,9,none⟩ (.slice s.ga s.gl s.gc)=V:=⟨_,rfl⟩;have j:V.heap[E.heap.size]? = some (.cells #[.int .i64 3,.int .i64 L,.slice none 0 0,.int .i64 0,.string ⟨#[]⟩,.int .i64 0,.int .i64 0,.slice none 0 0,.int .i64 gf,.slice s.ga s.gl s.gc] 41 (0,0)):=by rw[<- hV];exact (hSk (hSk C _) _)
 have d:Bw E V:=by rw[<- hV];exact ((b.setCell (p:=⟨E.heap.size,8,none⟩) (Nat.le_refl _) _).setCell (p:=⟨E.heap.size,9,none⟩) (Nat.le_refl _) _)
 have J:Bw R D:=G.trans (b.mono G.size);have F:Bw R V:=G.trans (d.mono G.size);have B:w.heap.size<R.heap.size:=by omega
 have af:=G.size
 have r:Hid (CR 121 #[.agg #[.int .i64 gf,.slice s.ga s.gl s.gc]] V (.bool a)):=by
  have h:=jeT gf s.ga s.gl s.gc gl V (X.out.go F).g.1 (Nat.le_trans X.out.g.2.1 X.out.g.2.2.1) hU;rw[M] at h;exact h
 obtain⟨c0,c1,c2,c3,c4,c5,c6,c7,c8,c9⟩:=jam C;obtain⟨f0,f1,f2,f3,f4,f5,f6,f7,f8,f9⟩:=jbL C;have e1:D.setCell ⟨E.heap.size,1,none⟩ (.int .i64 L)=D:=jaa C rfl;have e2:D.setCell ⟨E.heap.size,2,none⟩ (.slice none 0 0)=D:=jaa C rfl;have e3:D.setCell ⟨E.heap.size,3,none⟩ (.int .i64 0)=D:=jaa C rfl;have e4:D.setCell ⟨E.heap.size,4,none⟩ (.string ⟨#[]⟩)=D:=jaa C rfl;have e5:D.setCell ⟨E.heap.size,5,none⟩ (.int .i64 0)=D:=jaa C rfl;have e6:D.setCell ⟨E.heap.size,6,none⟩ (.int .i64 0)=D:=jaa C rfl;have e7:D.setCell ⟨E.heap.size,7,none⟩ (.slice none 0 0)=D:=jaa C rfl;have e8:D.setCell ⟨E.heap.size,8,none⟩ (.int .i64 0)=D:=jaa C rfl;have e9:D.setCell ⟨E.heap.size,9,none⟩ (.slice none 0 0)=D:=jaa C rfl;have p0:=(G.cell (p:=⟨w.heap.size,0,none⟩) B).trans m;have p1:=(G.cell (p:=⟨w.heap.size,1,none⟩) B).trans n;have a0:=(J.cell (p:=⟨w.heap.size,0,none⟩) B).trans m;have a1:=(J.cell (p:=⟨w.heap.size,1,none⟩) B).trans n;have a2:=(J.cell (p:=⟨w.heap.size,2,none⟩) B).trans d2;have a8:=(J.cell (p:=⟨w.heap.size,8,none⟩) B).trans u;have a9:=(J.cell (p:=⟨w.heap.size,9,none⟩) B).trans v;have b0:=(F.cell (p:=⟨w.heap.size,0,none⟩) B).trans m;have b1:=(F.cell (p:=⟨w.heap.size,1,none⟩) B).trans n;have b8:=(F.cell (p:=⟨w.heap.size,8,none⟩) B).trans u;have b9:=(F.cell (p:=⟨w.heap.size,9,none⟩) B).trans v;have Y:=Lib.hid F;have Z:=Lib.hid j;have HR:=Lib.hid M;clear C j d J F M hU;go_wp2_with fail;refine r.out.mono ?_;rintro e w2 ⟨rfl,P⟩;have A:Bw R w2:=Y.out.trans (P.mono Y.out.size)
 have k:=(P.block _ (Array.getElem?_eq_some_iff.1 Z.out).1).trans Z.out;have k0:=(A.cell (p:=⟨w.heap.size,0,none⟩) B).trans m;have k1:=(A.cell (p:=⟨w.heap.size,1,none⟩) B).trans n;have k2:=(A.cell (p:=⟨w.heap.size,2,none⟩) B).trans d2;have k3:=(A.cell (p:=⟨w.heap.size,3,none⟩) B).trans d3;have k4:=(A.cell (p:=⟨w.heap.size,4,none⟩) B).trans d4;have k5:=(A.cell (p:=⟨w.heap.size,5,none⟩) B).trans d5;have k6:=(A.cell (p:=⟨w.heap.size,6,none⟩) B).trans d6;have k7:=(A.cell (p:=⟨w.heap.size,7,none⟩) B).trans d7;have k8:=(A.cell (p:=⟨w.heap.size,8,none⟩) B).trans u;have k9:=(A.cell (p:=⟨w.heap.size,9,none⟩) B).trans v;obtain⟨m0,m1,m2,m3,m4,m5,m6,m7,m8,m9⟩:=jam k;have x:=ja3 (⟨3,L,o,U,hr,T,S,cl,gf,gl⟩:Sk) (jbv 3 L gf gl) s ⟨none,0,0,none,0,0,s.ga,s.gl,s.gc⟩ w2 (X.out.go A) ⟨jaA,jaA,(X.out.go A).g⟩;rw[t.out] at x;have HS:=Lib.hid x;clear x;have H:=Lib.hid A;clear k P A
 cases a with
 | false =>
  go_wp2_with fail;go_ret;exact⟨by rw[N.out];rfl,I.out.trans (H.out.mono I.out.size)⟩
 | true =>
 cases q0 with
 | false =>
  go_wp2_with fail;go_ret;exact⟨by rw[N.out];rfl,I.out.trans (H.out.mono I.out.size)⟩
 | true =>
 go_wp2_with fail;refine HS.out.mono ?_;rintro e w3 ⟨rfl,y⟩;have l:=H.out.trans (y.mono H.out.size);go_wp2_with fail;go_ret;exact⟨by rw[N.out];rfl,I.out.trans (l.mono I.out.size)⟩
end Go.Proofs.YtafhpamnegmilaaGreatDoor
