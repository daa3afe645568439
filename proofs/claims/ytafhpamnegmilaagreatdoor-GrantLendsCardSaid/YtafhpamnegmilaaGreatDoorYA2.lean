/- A range over a function whose iterator keeps a variable of its own in a box (strings.SplitSeq): the kit's law of such a range, turned to that case. -/
import Derived.Test.YtafhpamnegmilaaGreatDoorYM2
namespace Go.Proofs.YtafhpamnegmilaaGreatDoor
open Go Go.RowKit Go.Shelf
def OwnX {β:Type} (B Bs:Nat) (I:β->World->Prop):Prop :=
 ∀ s W W' row,I s W->W.grownBy W' row->(∀ r,row=some r->r=Bs\/(B<=r/\∃ o:Obj,W.heap[r]? = some o/\o.isCells=false))->I s W'
theorem OwnX.from {β:Type} {B A:Nat} {I:β->World->Prop} (h:OwnX B A I):OwnFrom B I:=fun s W C row E D hr=>h s W C row E D (fun r e=>.inr (hr r e))
theorem OwnX.and {β:Type} {B A:Nat} {I C:β->World->Prop} (h:OwnX B A I) (G:OwnX B A C):OwnX B A (fun s W=>I s W/\C s W):=fun s W D row F E hr=>⟨h s W D row F.1 E hr,G s W D row F.2 E hr⟩
theorem jrK {β:Type} (B A:Nat) (p:β->Prop):OwnX B A (fun s (_:World)=>p s):=fun _ _ _ _ C _ _=>C
theorem jjI {β:Type} {A B C:Nat} {D:World} (F:A<=D.heap.size) (H:A<=B) (I:A<=C):OwnX B C (fun (_:β) W=>Below A D W) :=
 fun _ _ _ _ h E hr=>h.grown E (Nat.le_trans F h.size) (fun k e=>by rcases hr k e with rfl | ⟨G,_⟩<;>omega)
theorem jhE {β:Type} (C D B:Nat) (t:TypeId) (f:β->Value) (A:B≠D):OwnX C D (fun s W=>Boxed W B t (f s)):=fun s X Y row F H hr=>by
 refine F.kept H (fun e=>?_);rcases hr B e.symm with rfl | ⟨_,o,E,G⟩
 ·exact A rfl
 ·rw[show X.heap[B]? = _ from F] at E;cases E;cases G
def jp8 {β:Type} (B Bs:Nat) (J:β->World->Prop):Prop :=
 ∀ s W W' row,J s W->W.grownBy W' row->(∀ r,row=some r->r=Bs)->B<=W.heap.size->J s W'
def jhI {α:Type} (P:Program) (g:Nat) (lb:Array Value) (encs:α->Array Value) (Kp:World->World->Prop) (Bs:Nat) (xs:List α) (w:World):Prop :=
 ∀ (l:Nat) (J Jx:List α->World->Prop) (W:World),Bw w W->jp8 W.heap.size Bs J->jp8 W.heap.size Bs Jx ->
  (∀ pre x W1,J pre W1->W.heap.size<=W1.heap.size->YieldAt Fence.wide 7 P l (encs x) W1 fun e W' =>
   (e=.returned (.bool true)/\J (pre++[x]) W'/\Kp W1 W'/\W1.heap.size<=W'.heap.size)\/(e=.returned (.bool false)/\Jx (pre++[x]) W'/\W1.heap.size<=W'.heap.size)) ->
  J [] W ->
  CallsIn Fence.wide 8 P g (#[.func (.yield l) #[] #[]]++lb) W fun e W'=>(∃ v,e=.returned v)/\((J xs W')\/(∃ pre,pre <+: xs/\Jx pre W'))
theorem jsE {α:Type} {P:Program} {g:Operand} {ps:Array Tmp} {assign body:Code} {Q:Exit->Act->World->Prop} {a:Act} {w:World}
  {gf:Nat} {lb:Array Value} (hg:a.eval g=.func (.func gf) #[] lb) (eg:∀ args w,(callFunc gf args).run P w=.ok (.enter gf args) w)
  {U:α->Array Value} {i:World->World->Prop} {z:Nat} {xs:List α} (ae:jhI P gf lb U i z xs w) (aq:z<w.heap.size)
  (ac:∀ {A B C:World},i A B->i B C->i A C) (ab:∀ (W:World) (l:Nat) (o o':Obj),w.heap.size<=l->W.heap[l]? = some o->o.isCells=false->o.isWalk=false->i W (W.putObj l o')) (ao:∀ x,(U x).size=ps.size)
  (I:List α->World->Prop) (Ix:Code->List α->World->Prop) (aa:OwnX w.heap.size z I) (f:∀ c,OwnX w.heap.size z (Ix c)) (h0:I [] w) (a₁:α->Act)
  (b:∀ (l:Nat) (x:α) (W:World) (K:Act->World->Prop),K (a₁ x) W ->
   assign.wpIn (Fence.wide.inRound l) 7 P (Exit.then K (fun _ _ _=>False)) { tmps:=(ps.zip (U x)).foldl (fun t (p,v)=>t.setIfInBounds p v) a.tmps,defers:=[] } W)
  (m:∀ (l:Nat) (L:List α) (x:α) (W:World),I L W->w.heap.size<=W.heap.size->body.wpIn (Fence.wide.inRound l) 7 P (ownPostG w.heap.size i I Ix (L++[x]) W) (a₁ x) W)
  (q:∀ (D:Nat) (W:World),w.heap.size<=D->I xs W->W.heap[D]? = some (.deferred (some []))->Q .normal { a with defers:={ target:=.collected D,args:=#[] }::a.defers } W)
  (u:∀ (D:Nat) (c:Code) (L:List α) (W:World),w.heap.size<=D->L <+: xs->Ix c L W->W.heap[D]? = some (.deferred (some []))->c.wp P Q { a with defers:={ target:=.collected D,args:=#[] }::a.defers } W) :
  (Code.rangeFunc g ps assign body).wp P Q a w:=by
 refine (wpIn_wide (n:=9)).1 ?_;have hI:=aa.from;have d:=fun c=>(f c).from
 refine wpIn_rangeFunc ?_;intro fn ak;show ∃ _ _ _ _ _ _ _ _,(Instr.enterLoop fn a.tmps ps assign body none).run P w=_/\_;obtain⟨F,G⟩:∃ F:LoopState->Option Code->Loop,F=fun st pe => { state:=st,pending:=pe,fn,tmps:=a.tmps,params:=ps,assign,body,defers:=w.heap.size }:=⟨_,rfl⟩
 obtain⟨Z,X⟩:∃ Z,(w.alloc (.deferred (some []))).alloc (.loop (F .ready none))=Z:=⟨_,rfl⟩
 have ah:Z.heap[w.heap.size+1]? = some (.loop (F .ready none)):=by
  rw[<- X];have:=World.alloc_heap_new (w.alloc (.deferred (some []))) (.loop (F .ready none));rwa [World.size_alloc] at this
 have ag:Z.heap[w.heap.size]? = some (.deferred (some [])):=by
  rw[<- X];exact (Below.heap_alloc _ _ _ (by simp)).trans (World.alloc_heap_new w _)
 have af:I [] Z:=by rw[<- X];exact hI.alloc _ (hI.alloc _ h0)
 have aj:Bw w Z:=by
  rw[<- X];exact ((Below.refl _ w).alloc (Nat.le_refl _) _).alloc (by simp) _
 have au:Z.heap.size=w.heap.size+2:=by rw[<- X];simp
 refine⟨w.heap.size+1,[{ target:=.collected w.heap.size,args:=#[] }],Z,{ target:=.fn (.func gf) lb,args:=#[.func (.yield (w.heap.size+1)) #[] #[]] },Z,gf,
  #[.func (.yield (w.heap.size+1)) #[] #[]]++lb,Z,?_,?_,?_,?_,fun _=>by omega,?_⟩
 ·rw[<- X,G];exact run_enterLoop_outer _ _ _ _ _
 ·simp only[resolve,hg]
  simp[go_sem]
 ·intro f' ar;trivial
 ·simp[invoke,go_sem,eg]
 ·have V:∀ {A B:World} {row:Option Nat} {k:Nat} {o:Obj},A.grownBy B row->(∀ r,row=some r->r=z)->w.heap.size<=k->A.heap[k]? = some o->B.heap[k]? = some o:=fun M hr h ho =>
   (M.block _ (Array.getElem?_eq_some_iff.1 ho).1 (fun e=>by have:=hr _ e.symm;omega)).trans ho
  refine (ae (w.heap.size+1)
   (fun L W=>I L W/\W.heap[w.heap.size+1]? = some (.loop (F .ready none))/\W.heap[w.heap.size]? = some (.deferred (some [])))
   (fun L W=>∃ c,Ix c L W/\W.heap[w.heap.size+1]? = some (.loop (F .done (some c)))/\W.heap[w.heap.size]? = some (.deferred (some [])))
   Z aj
   (fun s A B row hs M hr _=>⟨aa s A B row hs.1 M (fun r e=>.inl (hr r e)),V M hr (by omega) hs.2.1,V M hr (Nat.le_refl _) hs.2.2⟩)
   (fun s A B row hs M hr _=>by
    obtain⟨c,hc,Y,h⟩:=hs;exact⟨c,f c s A B row hc M (fun r e=>.inl (hr r e)),V M hr (by omega) Y,V M hr (Nat.le_refl _) h⟩)
   ?_ ⟨af,ah,ag⟩).mono ?_
  ·rintro L x W ⟨hi,Y,h⟩ av
   have an:w.heap.size+1<W.heap.size:=(Array.getElem?_eq_some_iff.1 Y).1;have hy:=run_yield (P:=P) (args:=U x) Y (by rw[G];exact ao x);rw[G] at hy;refine⟨fn,_,assign,body,hy,roundIn_of_wpIn ak (b _ x W _ ?_)⟩;clear hy;refine⟨_,run_beginRound Y (by rw[G]),?_⟩;have am:(W.putObj (w.heap.size+1) (.loop { F .ready none with state:=.busy })).heap[w.heap.size+1]? = some (.loop { F .ready none with state:=.busy }):=World.putObj_heap_same an;have al:(W.putObj (w.heap.size+1) (.loop { F .ready none with state:=.busy })).heap[w.heap.size]? = some (.deferred (some [])):=(World.putObj_heap_other (by omega)).trans h;have ap:i W (W.putObj (w.heap.size+1) (.loop { F .ready none with state:=.busy })):=ab _ _ _ _ (by omega) Y rfl rfl;have N:∀ (O:World) (o:Obj),(O.putObj (w.heap.size+1) o).heap.size=O.heap.size:=fun O o=>by simp[World.putObj]
   refine wpIn_mono (m _ L x _ (hI.putObj _ hi (by omega) Y rfl) (by rw[N];omega)) ?_
   have fin:∀ (E:Option Code) (O:World),KeepsFrom w.heap.size (W.putObj (w.heap.size+1) (.loop { F .ready none with state:=.busy })) O ->
     (Instr.endRound (w.heap.size+1) E).run P O=.ok (.bool E.isNone) (O.putObj (w.heap.size+1) (.loop (F (if E.isNone then .ready else .done) E))) /\
     O.heap[w.heap.size+1]? = some (.loop { F .ready none with state:=.busy }) /\
     (O.putObj (w.heap.size+1) (.loop (F (if E.isNone then .ready else .done) E))).heap[w.heap.size+1]? = some (.loop (F (if E.isNone then .ready else .done) E)) /\
     (O.putObj (w.heap.size+1) (.loop (F (if E.isNone then .ready else .done) E))).heap[w.heap.size]? = some (.deferred (some [])):=fun E O H=>by
    have J:=H.same _ _ (by omega) am rfl;have:=run_endRound (P:=P) E J;rw[G] at this ⊢;exact⟨this,by rw[G] at J;exact J,World.putObj_heap_same (Array.getElem?_eq_some_iff.1 J).1,(World.putObj_heap_other (by omega)).trans (H.same _ _ (Nat.le_refl _) al rfl)⟩
   rintro e a3 O y
   cases e with
   | normal =>
    obtain⟨H,ad,R⟩:=y;obtain⟨hr,J,T,S⟩:=fin none O H;exact⟨_,_,hr,.inl ⟨rfl,⟨hI.putObj _ R (by omega) J rfl,T,S⟩,ac (ac ap ad) (ab _ _ _ _ (by omega) J rfl rfl),by rw[N];have j:=H.size;rw[N] at j;omega⟩⟩
   | ret =>
    obtain⟨H,R⟩:=y;obtain⟨hr,J,T,S⟩:=fin (some .ret) O H;exact⟨_,_,hr,.inr ⟨rfl,⟨.ret,(d _).putObj _ R (by omega) J rfl,T,S⟩,by rw[N];have j:=H.size;rw[N] at j;omega⟩⟩
   | exit id =>
    obtain⟨H,R⟩:=y;obtain⟨hr,J,T,S⟩:=fin (some (.exit id)) O H;exact⟨_,_,hr,.inr ⟨rfl,⟨.exit id,(d _).putObj _ R (by omega) J rfl,T,S⟩,by rw[N];have j:=H.size;rw[N] at j;omega⟩⟩
   | goto t =>
    obtain⟨H,R⟩:=y;obtain⟨hr,J,T,S⟩:=fin (some (.goto t)) O H;exact⟨_,_,hr,.inr ⟨rfl,⟨.goto t,(d _).putObj _ R (by omega) J rfl,T,S⟩,by rw[N];have j:=H.size;rw[N] at j;omega⟩⟩
   | panic ch=>exact y.elim
   | outgrown=>exact y.elim
  ·rintro e W2 ⟨⟨v,rfl⟩,(⟨hi,Y,h⟩ | ⟨L,ai,c,hi,Y,h⟩)⟩
   ·exact⟨none,_,by have:=run_endLoop (P:=P) Y (by rw[G];simp);rw[G] at this;exact this,q _ _ (Nat.le_refl _) (hI.putObj _ hi (by omega) Y rfl) ((World.putObj_heap_other (by omega)).trans h)⟩
   ·exact⟨some c,_,by have:=run_endLoop (P:=P) Y (by rw[G];simp);rw[G] at this;exact this,wpIn_wide.2 (u _ c L _ (Nat.le_refl _) ai ((d c).putObj _ hi (by omega) Y rfl) ((World.putObj_heap_other (by omega)).trans h))⟩
theorem jp5 {α:Type} {P:Program} {g:Operand} {R:Array Tmp} {assign body:Code} {Q:Exit->Act->World->Prop} {a:Act} {w:World} (s:Nat) (f:α->Value)
  {gf:Nat} {lb:Array Value} (e:a.eval g=.func (.func gf) #[] lb) (b:∀ args w,(callFunc gf args).run P w=.ok (.enter gf args) w)
  {E:α->Array Value} {M:World->World->Prop} {S:Nat} {xs:List α} (O:jhI P gf lb E M S xs w) (U:S<w.heap.size)
  (Y:∀ {A B C:World},M A B->M B C->M A C) (X:∀ (W:World) (l:Nat) (o i:Obj),w.heap.size<=l->W.heap[l]? = some o->o.isCells=false->o.isWalk=false->M W (W.putObj l i)) (Z:∀ x,(E x).size=R.size)
  (I:List α->World->Prop) (T:Code->List α->World->Prop) (V:OwnX w.heap.size S I) (N:∀ c,OwnX w.heap.size S (T c)) (d:I [] w)
  (F:∀ (l:Nat) (x:α) (W:World) (K:Act->World->Prop),K { tmps:=((R.zip (E x)).foldl (fun t (p,v)=>t.setIfInBounds p v) a.tmps).setIfInBounds s (f x),defers:=[] } W ->
   assign.wpIn (Fence.wide.inRound l) 7 P (Exit.then K (fun _ _ _=>False)) { tmps:=(R.zip (E x)).foldl (fun t (p,v)=>t.setIfInBounds p v) a.tmps,defers:=[] } W)
  (H:∀ (l:Nat) (G:List α) (x:α) (W:World),I G W->w.heap.size<=W.heap.size->body.wpIn (Fence.wide.inRound l) 7 P (ownPostG w.heap.size M I T (G++[x]) W) { tmps:=((R.zip (E x)).foldl (fun t (p,v)=>t.setIfInBounds p v) a.tmps).setIfInBounds s (f x),defers:=[] } W)
  (J:∀ (D:Nat) (W:World),w.heap.size<=D->I xs W->W.heap[D]? = some (.deferred (some []))->Q .normal { a with defers:={ target:=.collected D,args:=#[] }::a.defers } W)
  (L:∀ (D:Nat) (c:Code) (G:List α) (W:World),w.heap.size<=D->G <+: xs->T c G W->W.heap[D]? = some (.deferred (some []))->c.wp P Q { a with defers:={ target:=.collected D,args:=#[] }::a.defers } W) :
  (Code.rangeFunc g R assign body).wp P Q a w :=
 jsE e b O U (fun h k=>Y h k) X Z I T V N d _ F H J L
end Go.Proofs.YtafhpamnegmilaaGreatDoor
