/- A range over a function whose iterator keeps a variable of its own in a box (strings.SplitSeq): the kit's law of such a range, turned to that case. -/
import Derived.Test.YtnegciklhanmbaaGreatDoorZMP
namespace Go.Proofs.YtnegciklhanmbaaGreatDoor
open Go Go.RowKit Go.Shelf
def OwnX {β:Type} (B Bs:Nat) (I:β->World->Prop):Prop :=
 ∀ s W W' row,I s W->W.grownBy W' row->(∀ r,row=some r->r=Bs\/(B<=r/\∃ o:Obj,W.heap[r]? = some o/\o.isCells=false))->I s W'
theorem OwnX.from {β:Type} {B A:Nat} {I:β->World->Prop} (h:OwnX B A I):OwnFrom B I:=fun s W C row E D hr=>h s W C row E D (fun r e=>.inr (hr r e))
theorem OwnX.and {β:Type} {B A:Nat} {I C:β->World->Prop} (h:OwnX B A I) (G:OwnX B A C):OwnX B A (fun s W=>I s W/\C s W):=fun s W D row F E hr=>⟨h s W D row F.1 E hr,G s W D row F.2 E hr⟩
theorem jrF {β:Type} (B A:Nat) (p:β->Prop):OwnX B A (fun s (_:World)=>p s):=fun _ _ _ _ C _ _=>C
theorem jiZ {β:Type} {A B C:Nat} {D:World} (F:A<=D.heap.size) (H:A<=B) (I:A<=C):OwnX B C (fun (_:β) W=>Below A D W) :=
 fun _ _ _ _ h E hr=>h.grown E (Nat.le_trans F h.size) (fun k e=>by rcases hr k e with rfl | ⟨G,_⟩<;>omega)
theorem jg7 {β:Type} (C D B:Nat) (t:TypeId) (f:β->Value) (A:B≠D):OwnX C D (fun s W=>Boxed W B t (f s)):=fun s X Y row F H hr=>by
 refine F.kept H (fun e=>?_);rcases hr B e.symm with rfl | ⟨_,o,E,G⟩
 ·exact A rfl
 ·rw[show X.heap[B]? = _ from F] at E;cases E;cases G
def jpM {β:Type} (B Bs:Nat) (J:β->World->Prop):Prop :=
 ∀ s W W' row,J s W->W.grownBy W' row->(∀ r,row=some r->r=Bs)->B<=W.heap.size->J s W'
def jhe {α:Type} (P:Program) (g:Nat) (lb:Array Value) (encs:α->Array Value) (Kp:World->World->Prop) (Bs:Nat) (xs:List α) (w:World):Prop :=
 ∀ (l:Nat) (J Jx:List α->World->Prop) (W:World),Bw w W->jpM W.heap.size Bs J->jpM W.heap.size Bs Jx ->
  (∀ pre x W1,J pre W1->W.heap.size<=W1.heap.size->YieldAt Fence.wide 7 P l (encs x) W1 fun e W' =>
   (e=.returned (.bool true)/\J (pre++[x]) W'/\Kp W1 W'/\W1.heap.size<=W'.heap.size)\/(e=.returned (.bool false)/\Jx (pre++[x]) W'/\W1.heap.size<=W'.heap.size)) ->
  J [] W ->
  CallsIn Fence.wide 8 P g (#[.func (.yield l) #[] #[]]++lb) W fun e W'=>(∃ v,e=.returned v)/\((J xs W')\/(∃ pre,pre <+: xs/\Jx pre W'))
theorem jsS {α:Type} {P:Program} {g:Operand} {ps:Array Tmp} {assign body:Code} {Q:Exit->Act->World->Prop} {a:Act} {w:World}
  {gf:Nat} {lb:Array Value} (hg:a.eval g=.func (.func gf) #[] lb) (eg:∀ args w,(callFunc gf args).run P w=.ok (.enter gf args) w)
  {U:α->Array Value} {h:World->World->Prop} {y:Nat} {xs:List α} (ae:jhe P gf lb U h y xs w) (aq:y<w.heap.size)
  (ac:∀ {A B C:World},h A B->h B C->h A C) (ab:∀ (W:World) (l:Nat) (o o':Obj),w.heap.size<=l->W.heap[l]? = some o->o.isCells=false->o.isWalk=false->h W (W.putObj l o')) (ao:∀ x,(U x).size=ps.size)
  (I:List α->World->Prop) (Ix:Code->List α->World->Prop) (aa:OwnX w.heap.size y I) (d:∀ c,OwnX w.heap.size y (Ix c)) (h0:I [] w) (a₁:α->Act)
  (Z:∀ (l:Nat) (x:α) (W:World) (K:Act->World->Prop),K (a₁ x) W ->
   assign.wpIn (Fence.wide.inRound l) 7 P (Exit.then K (fun _ _ _=>False)) { tmps:=(ps.zip (U x)).foldl (fun t (p,v)=>t.setIfInBounds p v) a.tmps,defers:=[] } W)
  (j:∀ (l:Nat) (L:List α) (x:α) (W:World),I L W->w.heap.size<=W.heap.size->body.wpIn (Fence.wide.inRound l) 7 P (ownPostG w.heap.size h I Ix (L++[x]) W) (a₁ x) W)
  (m:∀ (D:Nat) (W:World),w.heap.size<=D->I xs W->W.heap[D]? = some (.deferred (some []))->Q .normal { a with defers:={ target:=.collected D,args:=#[] }::a.defers } W)
  (q:∀ (D:Nat) (c:Code) (L:List α) (W:World),w.heap.size<=D->L <+: xs->Ix c L W->W.heap[D]? = some (.deferred (some []))->c.wp P Q { a with defers:={ target:=.collected D,args:=#[] }::a.defers } W) :
  (Code.rangeFunc g ps assign body).wp P Q a w:=by
 refine (wpIn_wide (n:=9)).1 ?_;have z:=aa.from;have b:=fun c=>(d c).from
 refine wpIn_rangeFunc ?_;intro fn ak;show ∃ _ _ _ _ _ _ _ _,(Instr.enterLoop fn a.tmps ps assign body none).run P w=_/\_;obtain⟨F,G⟩:∃ F:LoopState->Option Code->Loop,F=fun st pe => { state:=st,pending:=pe,fn,tmps:=a.tmps,params:=ps,assign,body,defers:=w.heap.size }:=⟨_,rfl⟩
 obtain⟨Y,V⟩:∃ Y,(w.alloc (.deferred (some []))).alloc (.loop (F .ready none))=Y:=⟨_,rfl⟩
 have ah:Y.heap[w.heap.size+1]? = some (.loop (F .ready none)):=by
  rw[<- V];have:=World.alloc_heap_new (w.alloc (.deferred (some []))) (.loop (F .ready none));rwa [World.size_alloc] at this
 have ag:Y.heap[w.heap.size]? = some (.deferred (some [])):=by
  rw[<- V];exact (Below.heap_alloc _ _ _ (by simp)).trans (World.alloc_heap_new w _)
 have af:I [] Y:=by rw[<- V];exact z.alloc _ (z.alloc _ h0)
 have aj:Bw w Y:=by
  rw[<- V];exact ((Below.refl _ w).alloc (Nat.le_refl _) _).alloc (by simp) _
 have au:Y.heap.size=w.heap.size+2:=by rw[<- V];simp
 refine⟨w.heap.size+1,[{ target:=.collected w.heap.size,args:=#[] }],Y,{ target:=.fn (.func gf) lb,args:=#[.func (.yield (w.heap.size+1)) #[] #[]] },Y,gf,
  #[.func (.yield (w.heap.size+1)) #[] #[]]++lb,Y,?_,?_,?_,?_,fun _=>by omega,?_⟩
 ·rw[<- V,G];exact run_enterLoop_outer _ _ _ _ _
 ·simp only[resolve,hg]
  simp[go_sem]
 ·intro f' ar;trivial
 ·simp[invoke,go_sem,eg]
 ·have keep:∀ {A B:World} {row:Option Nat} {k:Nat} {o:Obj},A.grownBy B row->(∀ r,row=some r->r=y)->w.heap.size<=k->A.heap[k]? = some o->B.heap[k]? = some o:=fun M hr f ho =>
   (M.block _ (Array.getElem?_eq_some_iff.1 ho).1 (fun e=>by have:=hr _ e.symm;omega)).trans ho
  refine (ae (w.heap.size+1)
   (fun L W=>I L W/\W.heap[w.heap.size+1]? = some (.loop (F .ready none))/\W.heap[w.heap.size]? = some (.deferred (some [])))
   (fun L W=>∃ c,Ix c L W/\W.heap[w.heap.size+1]? = some (.loop (F .done (some c)))/\W.heap[w.heap.size]? = some (.deferred (some [])))
   Y aj
   (fun s A B row hs M hr _=>⟨aa s A B row hs.1 M (fun r e=>.inl (hr r e)),keep M hr (by omega) hs.2.1,keep M hr (Nat.le_refl _) hs.2.2⟩)
   (fun s A B row hs M hr _=>by
    obtain⟨c,hc,X,f⟩:=hs;exact⟨c,d c s A B row hc M (fun r e=>.inl (hr r e)),keep M hr (by omega) X,keep M hr (Nat.le_refl _) f⟩)
   ?_ ⟨af,ah,ag⟩).mono ?_
  ·rintro L x W ⟨hi,X,f⟩ av
   have an:w.heap.size+1<W.heap.size:=(Array.getElem?_eq_some_iff.1 X).1;have hy:=run_yield (P:=P) (args:=U x) X (by rw[G];exact ao x);rw[G] at hy;refine⟨fn,_,assign,body,hy,roundIn_of_wpIn ak (Z _ x W _ ?_)⟩;clear hy;refine⟨_,run_beginRound X (by rw[G]),?_⟩;have am:(W.putObj (w.heap.size+1) (.loop { F .ready none with state:=.busy })).heap[w.heap.size+1]? = some (.loop { F .ready none with state:=.busy }):=World.putObj_heap_same an;have al:(W.putObj (w.heap.size+1) (.loop { F .ready none with state:=.busy })).heap[w.heap.size]? = some (.deferred (some [])):=(World.putObj_heap_other (by omega)).trans f;have ap:h W (W.putObj (w.heap.size+1) (.loop { F .ready none with state:=.busy })):=ab _ _ _ _ (by omega) X rfl rfl;have N:∀ (O:World) (o:Obj),(O.putObj (w.heap.size+1) o).heap.size=O.heap.size:=fun O o=>by simp[World.putObj]
   refine wpIn_mono (j _ L x _ (z.putObj _ hi (by omega) X rfl) (by rw[N];omega)) ?_
   have fin:∀ (E:Option Code) (O:World),KeepsFrom w.heap.size (W.putObj (w.heap.size+1) (.loop { F .ready none with state:=.busy })) O ->
     (Instr.endRound (w.heap.size+1) E).run P O=.ok (.bool E.isNone) (O.putObj (w.heap.size+1) (.loop (F (if E.isNone then .ready else .done) E))) /\
     O.heap[w.heap.size+1]? = some (.loop { F .ready none with state:=.busy }) /\
     (O.putObj (w.heap.size+1) (.loop (F (if E.isNone then .ready else .done) E))).heap[w.heap.size+1]? = some (.loop (F (if E.isNone then .ready else .done) E)) /\
     (O.putObj (w.heap.size+1) (.loop (F (if E.isNone then .ready else .done) E))).heap[w.heap.size]? = some (.deferred (some [])):=fun E O H=>by
    have J:=H.same _ _ (by omega) am rfl;have:=run_endRound (P:=P) E J;rw[G] at this ⊢;exact⟨this,by rw[G] at J;exact J,World.putObj_heap_same (Array.getElem?_eq_some_iff.1 J).1,(World.putObj_heap_other (by omega)).trans (H.same _ _ (Nat.le_refl _) al rfl)⟩
   rintro e a3 O u
   cases e with
   | normal =>
    obtain⟨H,ad,R⟩:=u;obtain⟨hr,J,T,S⟩:=fin none O H;exact⟨_,_,hr,.inl ⟨rfl,⟨z.putObj _ R (by omega) J rfl,T,S⟩,ac (ac ap ad) (ab _ _ _ _ (by omega) J rfl rfl),by rw[N];have i:=H.size;rw[N] at i;omega⟩⟩
   | ret =>
    obtain⟨H,R⟩:=u;obtain⟨hr,J,T,S⟩:=fin (some .ret) O H;exact⟨_,_,hr,.inr ⟨rfl,⟨.ret,(b _).putObj _ R (by omega) J rfl,T,S⟩,by rw[N];have i:=H.size;rw[N] at i;omega⟩⟩
   | exit id =>
    obtain⟨H,R⟩:=u;obtain⟨hr,J,T,S⟩:=fin (some (.exit id)) O H;exact⟨_,_,hr,.inr ⟨rfl,⟨.exit id,(b _).putObj _ R (by omega) J rfl,T,S⟩,by rw[N];have i:=H.size;rw[N] at i;omega⟩⟩
   | goto t =>
    obtain⟨H,R⟩:=u;obtain⟨hr,J,T,S⟩:=fin (some (.goto t)) O H;exact⟨_,_,hr,.inr ⟨rfl,⟨.goto t,(b _).putObj _ R (by omega) J rfl,T,S⟩,by rw[N];have i:=H.size;rw[N] at i;omega⟩⟩
   | panic ch=>exact u.elim
   | outgrown=>exact u.elim
  ·rintro e W2 ⟨⟨v,rfl⟩,(⟨hi,X,f⟩ | ⟨L,ai,c,hi,X,f⟩)⟩
   ·exact⟨none,_,by have:=run_endLoop (P:=P) X (by rw[G];simp);rw[G] at this;exact this,m _ _ (Nat.le_refl _) (z.putObj _ hi (by omega) X rfl) ((World.putObj_heap_other (by omega)).trans f)⟩
   ·exact⟨some c,_,by have:=run_endLoop (P:=P) X (by rw[G];simp);rw[G] at this;exact this,wpIn_wide.2 (q _ c L _ (Nat.le_refl _) ai ((b c).putObj _ hi (by omega) X rfl) ((World.putObj_heap_other (by omega)).trans f))⟩
theorem jpI {α:Type} {P:Program} {g:Operand} {R:Array Tmp} {assign body:Code} {Q:Exit->Act->World->Prop} {a:Act} {w:World} (s:Nat) (f:α->Value)
  {gf:Nat} {lb:Array Value} (e:a.eval g=.func (.func gf) #[] lb) (b:∀ args w,(callFunc gf args).run P w=.ok (.enter gf args) w)
  {E:α->Array Value} {M:World->World->Prop} {S:Nat} {xs:List α} (O:jhe P gf lb E M S xs w) (U:S<w.heap.size)
  (Y:∀ {A B C:World},M A B->M B C->M A C) (X:∀ (W:World) (l:Nat) (o i:Obj),w.heap.size<=l->W.heap[l]? = some o->o.isCells=false->o.isWalk=false->M W (W.putObj l i)) (Z:∀ x,(E x).size=R.size)
  (I:List α->World->Prop) (T:Code->List α->World->Prop) (V:OwnX w.heap.size S I) (N:∀ c,OwnX w.heap.size S (T c)) (d:I [] w)
  (F:∀ (l:Nat) (x:α) (W:World) (K:Act->World->Prop),K { tmps:=((R.zip (E x)).foldl (fun t (p,v)=>t.setIfInBounds p v) a.tmps).setIfInBounds s (f x),defers:=[] } W ->
   assign.wpIn (Fence.wide.inRound l) 7 P (Exit.then K (fun _ _ _=>False)) { tmps:=(R.zip (E x)).foldl (fun t (p,v)=>t.setIfInBounds p v) a.tmps,defers:=[] } W)
  (H:∀ (l:Nat) (G:List α) (x:α) (W:World),I G W->w.heap.size<=W.heap.size->body.wpIn (Fence.wide.inRound l) 7 P (ownPostG w.heap.size M I T (G++[x]) W) { tmps:=((R.zip (E x)).foldl (fun t (p,v)=>t.setIfInBounds p v) a.tmps).setIfInBounds s (f x),defers:=[] } W)
  (J:∀ (D:Nat) (W:World),w.heap.size<=D->I xs W->W.heap[D]? = some (.deferred (some []))->Q .normal { a with defers:={ target:=.collected D,args:=#[] }::a.defers } W)
  (L:∀ (D:Nat) (c:Code) (G:List α) (W:World),w.heap.size<=D->G <+: xs->T c G W->W.heap[D]? = some (.deferred (some []))->c.wp P Q { a with defers:={ target:=.collected D,args:=#[] }::a.defers } W) :
  (Code.rangeFunc g R assign body).wp P Q a w :=
 jsS e b O U (fun h k=>Y h k) X Z I T V N d _ F H J L
end Go.Proofs.YtnegciklhanmbaaGreatDoor
