/- Plain lemmas and words of my own, of no program: the runes of a string, owned memory, lists in slices. Words of my own, of no program: slices in memory, boxes, a range over a function in a plain walk. Plain lemmas: a fold that may fail, along a list; cells of slices of structs. Rows of laws: what a call that answers true and changes nothing leaves; arguments opened to the walks' words. Of no program. Appends of many cells, makes: as run equations. A drawn region whose operations yield fixed values in every world of a class: one walk, in the order of the text. Boxes. Maps whose keys are integers written out: a new map that is filled, a look-up in it. Of no program. -/
import Derived.WalkKit
import Derived.LoopTactic
import Derived.WalkLawsBesides
import Derived.WalkSpells
import Derived.Lib.Hide
import Derived.Laws.RangeAny
import Derived.Lib.OthersKept
import Derived.Lib.Strings
import Derived.Test.YtafhpamnegmilaaGreatDoorProg
import Derived.RangeFuncNested
import Derived.RangeFuncBound
import Derived.RangeFuncCalls
import Derived.RangeFuncLeaves
import Derived.Shelf.Abstract
import Derived.Shelf.RegionOpen
import Derived.OwnWalkIn
import Derived.TacticsInMore
import Derived.LoopNIn
import Derived.LoopIn
import Derived.Outline
import Derived.BigGuardIn
import Derived.WalkMore
import Derived.ProofKit
import Derived.OpenShut
import Derived.Carry
import Derived.Deep.Slices
import Derived.Deep.Fields
import Derived.Deep.DeepHandedRow
import Derived.Lib.SmallJoins
import Derived.Deep.RegionLaw
import Derived.BigQuiet
import Derived.BigRegion
import Derived.Deep.QuietTactic
import Derived.ScopeJumps
import Derived.WideMake
namespace Go.Proofs.YtafhpamnegmilaaGreatDoor
open Go Go.RowKit
abbrev Bw (w w':World):Prop:=Below (w.heap.size) w w'
abbrev CR (k:Nat) (a:Array Value) (w:World) (v:Value):Prop:=Calls Tryz.prog k a w fun e w'=>e=.returned v/\Below (w.heap.size) w w'
def jdx (s:ByteArray):Nat->Nat->List (Nat × Int)
 | 0,_=>[]
 | f+1,pos=>if pos<s.size then (pos,((Utf8.decode s pos).1:Int))::jdx s f (pos+(Utf8.decode s pos).2) else []
def rl (s:ByteArray) (pos:Nat):List (Nat × Int):=jdx s (s.size-pos) pos
theorem jdJ (s:ByteArray) (A:Nat) (h:A<s.size):1<=(Utf8.decode s A).2:=by
 by_cases ha:(s[A]'h).toNat<128
 ·rw[decode_ascii s A h ha];exact Nat.le_refl 1
 ·exact (decode_high s A h (by omega)).2
theorem jhb (s:ByteArray):∀ (f g A:Nat),s.size-A<=f->s.size-A<=g->jdx s f A=jdx s g A
 | 0,0,_,_,_=>rfl
 | 0,g+1,A,h,_=>by simp[jdx];omega
 | f+1,0,A,_,h=>by simp[jdx];omega
 | f+1,g+1,A,hf,hg=>by
  simp only[jdx];split
  ·rename_i B
   have:=jdJ s A B;rw[jhb s f g _ (by omega) (by omega)]
  ·rfl
theorem jeX (s:ByteArray) (A:Nat) (h:A<s.size):rl s A=(A,((Utf8.decode s A).1:Int))::rl s (A+(Utf8.decode s A).2):=by
 have C:=jdJ s A h;unfold rl;obtain⟨f,B⟩:∃ f,s.size-A=f+1:=⟨s.size-A-1,by omega⟩;rw[B];simp only[jdx,h,if_true];rw[jhb s f _ _ (by omega) (Nat.le_refl _)]
theorem jgr (s:ByteArray) (A:Nat) (h:¬ A<s.size):rl s A=[]:=by
 unfold rl;rw[show s.size-A=0 by omega];rfl
theorem jbr (s:ByteArray):s.toList.isEmpty=(s.size==0):=by
 rw[Lib.toList_data,Lib.size_eq]
 cases s.data.toList<;>simp
theorem jax {w:World} {k:Nat} {s:ByteArray} {p:Nat} (h:w.heap[k]? = some (.stringIter s p)):w.iterPos k=p:=by simp[World.iterPos,h]
theorem jdG {P:Program} {G w:World} {B k:Nat} {s:ByteArray} {A:Nat} (F:w.heap[k]? = some (.stringIter s A)) (H:Below B G w) (D:B<=k) (h:A<s.size) :
  ∃ C:World,(∀ E,(Instr.next (.pointer (some ⟨k,0,none⟩)) true E).run P w=.ok (.tuple #[.bool true,.int .i64 A,.int .i32 (Utf8.decode s A).1]) C) /\
   C.heap[k]? = some (.stringIter s (A+(Utf8.decode s A).2))/\Below B G C/\C.heap.size=w.heap.size/\(∀ j,j≠k->C.heap[j]? = w.heap[j]?) :=
 ⟨_,fun E=>Lib.run_next_any_at w k s A E F h,Lib.iterAt_heap w k s A _ F,Lib.below_iterAt H D s _,Lib.iterAt_size w k s _,fun j I=>Lib.iterAt_other w k j s _ I⟩
section
open Go.Shelf
def SlAt (n₀:Nat) (w:World) (sv:Value) (n:Nat) (cs:List Value):Prop :=
 (sv=.slice none 0 0/\n=0/\cs=[])\/∃ b off cap,sv=.slice (some ⟨b,off,none⟩) n cap/\b<n₀/\∀ i,i<cs.length->w.cell? ⟨b,off+i,none⟩=cs[i]?
theorem SlAt.below {C:Nat} {A B:World} (h:Below C A B) {D:Value} {n:Nat} {cs:List Value}:SlAt C A D n cs->SlAt C B D n cs
 | .inl e=>.inl e
 | .inr ⟨b,off,cap,e,hb,hc⟩=>.inr ⟨b,off,cap,e,hb,fun j E=>(h.cell (p:=⟨b,off+j,none⟩) hb).trans (hc j E)⟩
theorem SlAt.mono {A B:Nat} (D:A<=B) {w:World} {C:Value} {n:Nat} {cs:List Value}:SlAt A w C n cs->SlAt B w C n cs
 | .inl e=>.inl e
 | .inr ⟨b,off,cap,e,hb,hc⟩=>.inr ⟨b,off,cap,e,Nat.lt_of_lt_of_le hb D,hc⟩
theorem jcT {n:Nat} {W A:World} (h:Below n W A) {B t:Nat} {v:Value} (C:B<n) (D:Boxed W B t v):Boxed A B t v:=(h.block B C).trans D
theorem jgZ {n B:Nat} {W A:World} (h:Below n W A) (D:W.heap.size<=n):KeepsFrom B W A :=
 ⟨h.size,fun k _ _ C _=>(h.block k (by have:=(Array.getElem?_eq_some_iff.1 C).1;omega)).trans C⟩
theorem jay {P:Program} {f:FuncId} {A:Func} {c:Code} {args:Array Value} {w:World} {R:Ending->World->Prop} (C:P.funcs[f]? = some A) (B:A.body=some c)
  (h:c.wp P (bodyPostM Fence.wide 9 P A R) { tmps:=args++Array.replicate (A.ntmps-args.size) undef,defers:=[] } w):Calls P f args w R :=
 (callsIn_wide (n:=9)).1 (callsIn_of_wp_marks C B trivial (wpIn_wide.2 h) rfl)
theorem jck {P:Program} {A:Func} {R:Ending->World->Prop} {a:Act} {w:World} {v:Value} (hr:(results A a.tmps).run P w=.ok v w) (C:a.defers=[]) (B:R (.returned v) w) :
  bodyPostM Fence.wide 9 P A R .ret a w:=by
 show LeavesInM Fence.wide 9 P A a.tmps R a.defers .returning w;rw[C];exact⟨v,hr,B⟩
theorem jaX {P:Program} {A:Func} {R:Ending->World->Prop} {tmps:Array Value} {w:World} {D:Nat} {v:Value} (hK:w.heap[D]? = some (.deferred (some [])))
  (hr:(results A tmps).run P (w.putObj D (.deferred none))=.ok v (w.putObj D (.deferred none))) (B:R (.returned v) (w.putObj D (.deferred none))) :
  bodyPostM Fence.wide 9 P A R .ret { tmps:=tmps,defers:=[{ target:=.collected D,args:=#[] }] } w:=by
 refine⟨by simp,.inl ⟨_,_,rfl,run_takeDeferred hK,?_⟩⟩;exact⟨v,hr,B⟩
theorem jgy {n D:Nat} {A W:World} (h:Below n A W) (B:n<=D) (hK:W.heap[D]? = some (.deferred (some []))):Below n A (W.putObj D (.deferred none)) :=
 h.trans ((Below.refl n W).grown (grownBy_putObj' W D _) (by have:=(Array.getElem?_eq_some_iff.1 hK).1;omega) (fun k e=>by cases e;omega))
theorem joO {α:Type} {P:Program} {g:Operand} {f:Array Tmp} {assign body:Code} {Q:Exit->Act->World->Prop} {a:Act} {w:World}
  {gf:Nat} {lb:Array Value} (o:a.eval g=.func (.func gf) #[] lb) (j:∀ args w,(callFunc gf args).run P w=.ok (.enter gf args) w)
  {B:α->Array Value} {S:Nat} {xs:List α} {N:Nat} {h:World} (M:SeqStopsK Fence.wide 8 P gf lb B (Below S) (fun i=>i=xs) (fun A=>A <+: xs) N h)
  (b:S<=w.heap.size) (Y:Bw h w) (d:∀ x,(B x).size=f.size)
  (I:List α->World->Prop) (R:Code->List α->World->Prop) (m:OwnFrom w.heap.size I) (V:∀ c,OwnFrom w.heap.size (R c)) (k:I [] w) (O:α->Act->World->Prop) (T:∀ x E,OwnFrom w.heap.size (fun (_:Unit) W=>O x E W))
  (C:∀ (l:Nat) (A:List α) (x:α) (W:World) (K:Act->World->Prop),I A W->(∀ E J,KeepsFrom w.heap.size W J->Below S W J->I A J->O x E J->K E J) ->
   assign.wpIn (Fence.wide.inRound l) 7 P (Exit.then K (fun _ _ _=>False)) { tmps:=(f.zip (B x)).foldl (fun t (p,v)=>t.setIfInBounds p v) a.tmps,defers:=[] } W)
  (F:∀ (l:Nat) (A:List α) (x:α) (E:Act) (W:World),I A W->O x E W->A.length<N->body.wpIn (Fence.wide.inRound l) 7 P (ownPostG w.heap.size (Below S) I R (A++[x]) W) E W)
  (G:∀ (D:Nat) (W:World),w.heap.size<=D->I xs W->W.heap[D]? = some (.deferred (some []))->Q .normal { a with defers:={ target:=.collected D,args:=#[] }::a.defers } W)
  (H:∀ (D:Nat) (c:Code) (A:List α) (W:World),w.heap.size<=D->A <+: xs->R c A W->W.heap[D]? = some (.deferred (some []))->c.wp P Q { a with defers:={ target:=.collected D,args:=#[] }::a.defers } W) :
  (Code.rangeFunc g f assign body).wp P Q a w :=
 (wpIn_wide (n:=9)).1 (wpIn_rangeFunc_ownH rfl (by omega) o trivial j M belowK_t (belowK_b b) Y d I R m V k O T C
  (fun l A x E W _ _ L X Z=>F l A x E W L X Z) (fun D i W U e L hK=>by subst e;exact G D W U L hK) (fun D c A W U q L hK=>wpIn_wide.2 (H D c A W U q L hK)))
theorem jdq {β:Type} (C B:Nat) (t:TypeId) (f:β->Value):OwnFrom C (fun s W=>Boxed W B t (f s)):=Own.from (boxed_own B t f) C
theorem juo {β:Type} (C B:Nat) (f:β->Array Value) (t:TypeId):OwnFrom C (fun s W=>W.heap[B]? = some (.cells (f s) t (0,0))):=fun s X Y row A F hr=>by
 refine (F.block B (Array.getElem?_eq_some_iff.1 A).1 (fun e=>?_)).trans A;obtain⟨_,o,D,E⟩:=hr B e.symm;rw[A] at D;cases D;cases E
theorem cCc {W:World} {B:Nat} {c:Array Value} {t:TypeId} {A:Nat × Nat} (h:W.heap[B]? = some (.cells c t A)) (i:Nat):W.cell? ⟨B,i,none⟩=c[i]? := by simp[World.cell?,h]
theorem cFz {W:World} {B:Nat} {c:Array Value} {t:TypeId} (h:W.heap[B]? = some (.cells c t (0,0))) (i:Nat):W.frozen? ⟨B,i,none⟩=false:=by simp[World.frozen?,h]
theorem cl2 {W:World} {B:Nat} {v0 v1:Value} {t:TypeId} {A:Nat × Nat} (h:W.heap[B]? = some (.cells #[v0,v1] t A)):W.cell? ⟨B,0,none⟩=some v0/\W.cell? ⟨B,1,none⟩=some v1:=⟨cCc h 0,cCc h 1⟩
theorem cz2 {W:World} {B:Nat} {c:Array Value} {t:TypeId} (h:W.heap[B]? = some (.cells c t (0,0))):W.frozen? ⟨B,0,none⟩=false/\W.frozen? ⟨B,1,none⟩=false:=⟨cFz h 0,cFz h 1⟩
theorem cl3 {W:World} {B:Nat} {v0 v1 v2:Value} {t:TypeId} {A:Nat × Nat} (h:W.heap[B]? = some (.cells #[v0,v1,v2] t A)):W.cell? ⟨B,0,none⟩=some v0/\W.cell? ⟨B,1,none⟩=some v1/\W.cell? ⟨B,2,none⟩=some v2:=⟨cCc h 0,cCc h 1,cCc h 2⟩
theorem cz3 {W:World} {B:Nat} {c:Array Value} {t:TypeId} (h:W.heap[B]? = some (.cells c t (0,0))):W.frozen? ⟨B,0,none⟩=false/\W.frozen? ⟨B,1,none⟩=false/\W.frozen? ⟨B,2,none⟩=false:=⟨cFz h 0,cFz h 1,cFz h 2⟩
theorem cl4 {W:World} {B:Nat} {v0 v1 v2 v3:Value} {t:TypeId} {A:Nat × Nat} (h:W.heap[B]? = some (.cells #[v0,v1,v2,v3] t A)):W.cell? ⟨B,0,none⟩=some v0/\W.cell? ⟨B,1,none⟩=some v1/\W.cell? ⟨B,2,none⟩=some v2/\W.cell? ⟨B,3,none⟩=some v3:=⟨cCc h 0,cCc h 1,cCc h 2,cCc h 3⟩
theorem cz4 {W:World} {B:Nat} {c:Array Value} {t:TypeId} (h:W.heap[B]? = some (.cells c t (0,0))):W.frozen? ⟨B,0,none⟩=false/\W.frozen? ⟨B,1,none⟩=false/\W.frozen? ⟨B,2,none⟩=false/\W.frozen? ⟨B,3,none⟩=false:=⟨cFz h 0,cFz h 1,cFz h 2,cFz h 3⟩
theorem jam {W:World} {B:Nat} {v0 v1 v2 v3 v4 v5 v6 v7 v8 v9:Value} {t:TypeId} {A:Nat × Nat} (h:W.heap[B]? = some (.cells #[v0,v1,v2,v3,v4,v5,v6,v7,v8,v9] t A)):W.cell? ⟨B,0,none⟩=some v0/\W.cell? ⟨B,1,none⟩=some v1/\W.cell? ⟨B,2,none⟩=some v2/\W.cell? ⟨B,3,none⟩=some v3/\W.cell? ⟨B,4,none⟩=some v4/\W.cell? ⟨B,5,none⟩=some v5/\W.cell? ⟨B,6,none⟩=some v6/\W.cell? ⟨B,7,none⟩=some v7/\W.cell? ⟨B,8,none⟩=some v8/\W.cell? ⟨B,9,none⟩=some v9:=⟨cCc h 0,cCc h 1,cCc h 2,cCc h 3,cCc h 4,cCc h 5,cCc h 6,cCc h 7,cCc h 8,cCc h 9⟩
theorem jbL {W:World} {B:Nat} {c:Array Value} {t:TypeId} (h:W.heap[B]? = some (.cells c t (0,0))):W.frozen? ⟨B,0,none⟩=false/\W.frozen? ⟨B,1,none⟩=false/\W.frozen? ⟨B,2,none⟩=false/\W.frozen? ⟨B,3,none⟩=false/\W.frozen? ⟨B,4,none⟩=false/\W.frozen? ⟨B,5,none⟩=false/\W.frozen? ⟨B,6,none⟩=false/\W.frozen? ⟨B,7,none⟩=false/\W.frozen? ⟨B,8,none⟩=false/\W.frozen? ⟨B,9,none⟩=false:=⟨cFz h 0,cFz h 1,cFz h 2,cFz h 3,cFz h 4,cFz h 5,cFz h 6,cFz h 7,cFz h 8,cFz h 9⟩
theorem jhS {W:World} {B:Nat} {v0 v1 v2 v3 v4 v5 v6 v7 v8 v9 A C:Value} {t:TypeId} {D:Nat × Nat} (h:W.heap[B]? = some (.cells #[v0,v1,v2,v3,v4,v5,v6,v7,v8,v9,A,C] t D)):W.cell? ⟨B,0,none⟩=some v0/\W.cell? ⟨B,1,none⟩=some v1/\W.cell? ⟨B,2,none⟩=some v2/\W.cell? ⟨B,3,none⟩=some v3/\W.cell? ⟨B,4,none⟩=some v4/\W.cell? ⟨B,5,none⟩=some v5/\W.cell? ⟨B,6,none⟩=some v6/\W.cell? ⟨B,7,none⟩=some v7/\W.cell? ⟨B,8,none⟩=some v8/\W.cell? ⟨B,9,none⟩=some v9/\W.cell? ⟨B,10,none⟩=some A/\W.cell? ⟨B,11,none⟩=some C:=⟨cCc h 0,cCc h 1,cCc h 2,cCc h 3,cCc h 4,cCc h 5,cCc h 6,cCc h 7,cCc h 8,cCc h 9,cCc h 10,cCc h 11⟩
theorem jxx {W:World} {B:Nat} {c:Array Value} {t:TypeId} (h:W.heap[B]? = some (.cells c t (0,0))):W.frozen? ⟨B,0,none⟩=false/\W.frozen? ⟨B,1,none⟩=false/\W.frozen? ⟨B,2,none⟩=false/\W.frozen? ⟨B,3,none⟩=false/\W.frozen? ⟨B,4,none⟩=false/\W.frozen? ⟨B,5,none⟩=false/\W.frozen? ⟨B,6,none⟩=false/\W.frozen? ⟨B,7,none⟩=false/\W.frozen? ⟨B,8,none⟩=false/\W.frozen? ⟨B,9,none⟩=false/\W.frozen? ⟨B,10,none⟩=false/\W.frozen? ⟨B,11,none⟩=false:=⟨cFz h 0,cFz h 1,cFz h 2,cFz h 3,cFz h 4,cFz h 5,cFz h 6,cFz h 7,cFz h 8,cFz h 9,cFz h 10,cFz h 11⟩
theorem tk {P:Program} {md:Region.Mode} {B:Array Oper} {Q:Exit->Act->World->Prop} (i:Nat) {D:Oper} {v:Value} {C:Nat} {A:Array Bool} {a:Act} {w:World} (G:B[i]? = some D)
  (J:∀ w,(execOp a.eval D).run P w=.ok (.value v) w) (h:wpAny P md B Q C (A.setIfInBounds i true) (a.put D.dst v) w)
  (I:Region.wanted D (yielded B a.tmps)=true:=by rfl) (H:Region.noSelect B=true:=by kernel_rfl) (F:Region.free md B A i=true:=by kernel_rfl)
  (hr:(Region.ready md B A).contains i=true:=by kernel_rfl) (E:∀ c a w,Q (.panic c) (a.put D.dst v) w->Q (.panic c) a w:=by exact fun _ _ _ h=>h):wpAny P md B Q (C+1) A a w :=
 wpAny_take G H F hr E (Or.inl ⟨I,J⟩) h
theorem tki {F:Fence} {n:Nat} {P:Program} {md:Region.Mode} {B:Array Oper} {Q:Exit->Act->World->Prop} (i:Nat) {D:Oper} {v:Value} {C:Nat} {A:Array Bool} {a:Act} {w:World} (I:B[i]? = some D)
  (M:∀ w,(execOp a.eval D).run P w=.ok (.value v) w) (h:wpAnyIn F n P md B Q C (A.setIfInBounds i true) (a.put D.dst v) w)
  (L:Region.wanted D (yielded B a.tmps)=true:=by rfl) (E:F.round=none:=by rfl) (N:∀ w,D.about P w a.eval=none:=by exact fun _=>rfl) (J:Region.noSelect B=true:=by kernel_rfl) (H:Region.free md B A i=true:=by kernel_rfl)
  (hr:(Region.ready md B A).contains i=true:=by kernel_rfl) (G:∀ c a w,Q (.panic c) (a.put D.dst v) w->Q (.panic c) a w:=by exact fun _ _ _ h=>h):wpAnyIn F n P md B Q (C+1) A a w :=
 wpAnyIn_take E I J H hr G ⟨Or.inl ⟨L,M⟩,N⟩ h
theorem tqi {F:Fence} {n:Nat} {P:Program} {md:Region.Mode} {B:Array Oper} {Q:Exit->Act->World->Prop} (i:Nat) {D:Oper} {v:Value} {C:Nat} {A:Array Bool} {a:Act} {w:World} (I:B[i]? = some D)
  (M:∀ w,(execOp a.eval D).run P w=.ok (.value v) w) (h:wpAnyIn F n P md B Q C (A.setIfInBounds i true) (a.put D.dst v) w)
  (L:Region.wanted D (yielded B a.tmps)=true:=by rfl) (E:F.round=none:=by rfl) (N:∀ w,D.about P w a.eval=none:=by exact fun _=>rfl) (J:Region.noSelect B=true:=by kernel_rfl) (H:Region.free md B A i=true:=by decide +kernel)
  (hr:(Region.ready md B A).contains i=true:=by decide +kernel) (G:∀ c a w,Q (.panic c) (a.put D.dst v) w->Q (.panic c) a w:=by exact fun _ _ _ h=>h):wpAnyIn F n P md B Q (C+1) A a w :=
 wpAnyIn_take E I J H hr G ⟨Or.inl ⟨L,M⟩,N⟩ h
theorem ta {P:Program} {md:Region.Mode} {B:Array Oper} {Q:Exit->Act->World->Prop} (i:Nat) {D:Oper} {v:Value} {C:Nat} {A:Array Bool} {a:Act} {w:World} (h:wpAny P md B Q C (A.setIfInBounds i true) (a.put D.dst v) w) (G:B[i]? = some D:=by rfl)
  (J:∀ w,(execOp a.eval D).run P w=.ok (.value v) w:=by intro w;go_simp;with_reducible rfl)
  (I:Region.wanted D (yielded B a.tmps)=true:=by rfl) (H:Region.noSelect B=true:=by kernel_rfl) (F:Region.free md B A i=true:=by kernel_rfl)
  (hr:(Region.ready md B A).contains i=true:=by kernel_rfl) (E:∀ c a w,Q (.panic c) (a.put D.dst v) w->Q (.panic c) a w:=by exact fun _ _ _ h=>h):wpAny P md B Q (C+1) A a w :=
 wpAny_take G H F hr E (Or.inl ⟨I,J⟩) h
theorem taq {P:Program} {md:Region.Mode} {B:Array Oper} {Q:Exit->Act->World->Prop} (i:Nat) {D:Oper} {v:Value} {C:Nat} {A:Array Bool} {a:Act} {w:World} (h:wpAny P md B Q C (A.setIfInBounds i true) (a.put D.dst v) w) (G:B[i]? = some D:=by rfl)
  (J:∀ w,(execOp a.eval D).run P w=.ok (.value v) w:=by intro w;go_simp;with_reducible rfl)
  (I:Region.wanted D (yielded B a.tmps)=true:=by rfl) (H:Region.noSelect B=true:=by kernel_rfl) (F:Region.free md B A i=true:=by decide +kernel)
  (hr:(Region.ready md B A).contains i=true:=by decide +kernel) (E:∀ c a w,Q (.panic c) (a.put D.dst v) w->Q (.panic c) a w:=by exact fun _ _ _ h=>h):wpAny P md B Q (C+1) A a w :=
 wpAny_take G H F hr E (Or.inl ⟨I,J⟩) h
theorem tai {F:Fence} {n:Nat} {P:Program} {md:Region.Mode} {B:Array Oper} {Q:Exit->Act->World->Prop} (i:Nat) {D:Oper} {v:Value} {C:Nat} {A:Array Bool} {a:Act} {w:World} (h:wpAnyIn F n P md B Q C (A.setIfInBounds i true) (a.put D.dst v) w) (I:B[i]? = some D:=by rfl)
  (M:∀ w,(execOp a.eval D).run P w=.ok (.value v) w:=by intro w;go_simp;with_reducible rfl)
  (L:Region.wanted D (yielded B a.tmps)=true:=by rfl) (E:F.round=none:=by rfl) (N:∀ w,D.about P w a.eval=none:=by exact fun _=>rfl) (J:Region.noSelect B=true:=by kernel_rfl) (H:Region.free md B A i=true:=by kernel_rfl)
  (hr:(Region.ready md B A).contains i=true:=by kernel_rfl) (G:∀ c a w,Q (.panic c) (a.put D.dst v) w->Q (.panic c) a w:=by exact fun _ _ _ h=>h):wpAnyIn F n P md B Q (C+1) A a w :=
 wpAnyIn_take E I J H hr G ⟨Or.inl ⟨L,M⟩,N⟩ h
theorem rd {P:Program} {md:Region.Mode} {C:Array Oper} {Q:Exit->Act->World->Prop} (E:List Nat) {B:Nat} {A:Array Bool} {a:Act} {w:World} (h:AllReady P md C Q B A a w E) (hr:Region.ready md C A=E:=by kernel_rfl) (D:E≠[]:=by simp):wpAny P md C Q (B+1) A a w:=wpAny_ready hr D h
theorem rq {P:Program} {md:Region.Mode} {C:Array Oper} {Q:Exit->Act->World->Prop} (E:List Nat) {B:Nat} {A:Array Bool} {a:Act} {w:World} (h:AllReady P md C Q B A a w E) (hr:Region.ready md C A=E:=by decide +kernel) (D:E≠[]:=by simp):wpAny P md C Q (B+1) A a w:=wpAny_ready hr D h
theorem rdi {F:Fence} {n:Nat} {P:Program} {md:Region.Mode} {C:Array Oper} {Q:Exit->Act->World->Prop} (E:List Nat) {B:Nat} {A:Array Bool} {a:Act} {w:World} (h:AllReadyIn F n P md C Q B A a w E) (hr:Region.ready md C A=E:=by kernel_rfl) (D:E≠[]:=by simp):wpAnyIn F n P md C Q (B+1) A a w:=wpAnyIn_ready hr D h
theorem rqi {F:Fence} {n:Nat} {P:Program} {md:Region.Mode} {C:Array Oper} {Q:Exit->Act->World->Prop} (E:List Nat) {B:Nat} {A:Array Bool} {a:Act} {w:World} (h:AllReadyIn F n P md C Q B A a w E) (hr:Region.ready md C A=E:=by decide +kernel) (D:E≠[]:=by simp):wpAnyIn F n P md C Q (B+1) A a w:=wpAnyIn_ready hr D h
def jwq {α:Type} (N:Nat) (t:TypeId) (cs:α->Array Value) (T:α->Array Value) (s:Nat) (x:α) (a':Act) (W:World):Prop :=
 ∃ Bx,N<=Bx/\W.heap[Bx]? = some (.cells (cs x) t (0,0))/\a' = { tmps:=(T x).setIfInBounds s (.pointer (some ⟨Bx,0,none⟩)),defers:=[] }
theorem jqw {α:Type} {N C:Nat} {t:TypeId} {cs:α->Array Value} {T:α->Array Value} {s:Nat} (x:α) (B:Act):OwnFrom C (fun (_:Unit) W=>jwq N t cs T s x B W):=fun u X Y row H G hr=>by
 obtain⟨A,D,E,F⟩:=H;exact⟨A,D,juo C A (fun _=>cs x) t u X Y row E G hr,F⟩
theorem jl5 {β:Type} (C n:Nat):OwnFrom C (fun (_:β) W=>n<=W.heap.size):=fun _ _ _ _ B A _=>Nat.le_trans B A.size
theorem je8 {α:Type} {P:Program} {g:Operand} {L:Array Tmp} {assign body:Code} {Q:Exit->Act->World->Prop} {a:Act} {w:World} (t:TypeId) (cs:α->Array Value) (s:Nat)
  {gf:Nat} {lb:Array Value} (n:a.eval g=.func (.func gf) #[] lb) (h:∀ args w,(callFunc gf args).run P w=.ok (.enter gf args) w)
  {B:α->Array Value} {b:Nat} {xs:List α} {N:Nat} {f:World} (R:SeqStopsK Fence.wide 8 P gf lb B (Below b) (fun o=>o=xs) (fun A=>A <+: xs) N f)
  (M:b<=w.heap.size) (V:Bw f w) (Z:∀ x,(B x).size=L.size)
  (I:List α->World->Prop) (S:Code->List α->World->Prop) (m:OwnFrom w.heap.size I) (T:∀ c,OwnFrom w.heap.size (S c)) (i:I [] w)
  (C:∀ (l:Nat) (A:List α) (x:α) (W:World) (K:Act->World->Prop),I A W->w.heap.size<=W.heap.size ->
   (I A (W.alloc (.cells (cs x) t))->K { tmps:=((L.zip (B x)).foldl (fun t (p,v)=>t.setIfInBounds p v) a.tmps).setIfInBounds s (.pointer (some ⟨W.heap.size,0,none⟩)),defers:=[] } (W.alloc (.cells (cs x) t))) ->
   assign.wpIn (Fence.wide.inRound l) 7 P (Exit.then K (fun _ _ _=>False)) { tmps:=(L.zip (B x)).foldl (fun t (p,v)=>t.setIfInBounds p v) a.tmps,defers:=[] } W)
  (F:∀ (l:Nat) (A:List α) (x:α) (W:World) (J:Nat),I A W->w.heap.size<=J->J<W.heap.size->W.heap[J]? = some (.cells (cs x) t (0,0))->A.length<N ->
   body.wpIn (Fence.wide.inRound l) 7 P (ownPostG w.heap.size (Below b) I S (A++[x]) W) { tmps:=((L.zip (B x)).foldl (fun t (p,v)=>t.setIfInBounds p v) a.tmps).setIfInBounds s (.pointer (some ⟨J,0,none⟩)),defers:=[] } W)
  (G:∀ (D:Nat) (W:World),w.heap.size<=D->I xs W->W.heap[D]? = some (.deferred (some []))->Q .normal { a with defers:={ target:=.collected D,args:=#[] }::a.defers } W)
  (H:∀ (D:Nat) (c:Code) (A:List α) (W:World),w.heap.size<=D->A <+: xs->S c A W->W.heap[D]? = some (.deferred (some []))->c.wp P Q { a with defers:={ target:=.collected D,args:=#[] }::a.defers } W) :
  (Code.rangeFunc g L assign body).wp P Q a w :=
 joO n h R M V Z (fun A W=>I A W/\w.heap.size<=W.heap.size) S (m.and (jl5 _ _)) T ⟨i,Nat.le_refl _⟩
  (jwq w.heap.size t cs (fun x=>(L.zip (B x)).foldl (fun t (p,v)=>t.setIfInBounds p v) a.tmps) s) jqw
  (fun l A x W K E hK=>C l A x W K E.1 E.2 (fun X=>hK _ _ ((KeepsOthers.alloc _ _).from _) ((Below.refl _ W).alloc (Nat.le_trans M E.2) _) ⟨X,by simp;omega⟩ ⟨W.heap.size,E.2,World.alloc_heap_new _ _,rfl⟩))
  (fun l A x r W E U Y=>by
   obtain⟨J,j,d,rfl⟩:=U;refine wpIn_mono (F l A x W J E.1 j (Array.getElem?_eq_some_iff.1 d).1 d Y) ?_;rintro e u q O
   cases e with
   | normal=>exact⟨O.1,O.2.1,O.2.2,Nat.le_trans E.2 O.1.size⟩
   | _=>exact O)
  (fun D W k E hK=>G D W k E.1 hK) H
theorem jaL (P:Program) {t e:TypeId} {z:Value} {D E:Nat} (Z:TypeId) (ht:P.underlying t=some (.slice e)) (I:(P.info? e).map (fun i=>(i.zero,i.size,i.bytes))=some (some z,D,E)) (X:z.cells.size=D) (S:0<D)
  {W a:World} {B C:Nat} {v:Value} {n:Nat} {xs:List Value} (F:W.ownsRow C e D v n xs) (d:Below B a W) (N:B<=C) (O:C<=W.heap.size) (A:List Value) (m:A.length=D) (c:∀ u∈A,u.oneCell'=true)
  (o:n<4294967281) (Q:E<=4096) :
  ∃ g cap G,(Builtin.append_ #[t,t] Z #[v,.slice (some ⟨W.heap.size,0,none⟩) 1 1]).run P (W.alloc (.cells A.toArray e))=.ok (.slice (some ⟨g,0,none⟩) (n+1) cap) G /\
   G.ownsRow C e D (.slice (some ⟨g,0,none⟩) (n+1) cap) (n+1) (xs++A)/\Below B a G/\W.heap.size<G.heap.size/\(∀ k,k<C->G.heap[k]? = W.heap[k]?)/\(∀ k,k<W.heap.size->some k≠v.ownBlock->G.heap[k]? = W.heap[k]?):=by
 obtain⟨i0,f,T,U,V⟩:=info_parts I
 have H:∀ j u,A[j]? = some u->(W.alloc (.cells A.toArray e)).cell? ((⟨W.heap.size,0,none⟩:Addr).add j)=some u:=fun j u h=>by
  have:=cCc (World.alloc_heap_new W (.cells A.toArray e)) j;have b:(⟨W.heap.size,0,none⟩:Addr).add j=⟨W.heap.size,j,none⟩:=by unfold Addr.add;split<;>simp_all
  rw[b,this];simpa using h
 obtain⟨v',G,hr,Y,M,l⟩:=run_append_own (P:=P) (W.alloc (.cells A.toArray e)) C t Z e i0 z D E ht f T U V X S v n xs (F.alloc _) ⟨W.heap.size,0,none⟩ 1 1 A (by omega) H c (by unfold maxLen;omega) (by have:=Nat.mul_le_mul (show n+1<=4294967281 by omega) Q;omega) (by simp;omega);obtain⟨g,cap,rfl⟩:=ownsRow_succ Y;have L:∀ k,v.ownBlock=some k->C<=k:=fun k J=>(F.lt k J).1
 refine⟨g,cap,G,hr,Y,(d.alloc (by omega) _).grown M (by simp;omega) (fun k J=>Nat.le_trans N (L k J)),by have:=M.size;simp at this;omega,fun k J=>?_,fun k J R=>?_⟩
 ·exact (M.block k (by simp;omega) (fun e=>by have:=L k e.symm;omega)).trans (Below.heap_alloc _ _ _ (by omega))
 ·exact (M.block k (by simp;omega) R).trans (Below.heap_alloc _ _ _ J)
theorem je4 {w:World} {A e B n:Nat} {v:Value} {xs:List Value} (h:w.ownsRow A e B v n xs):SlAt w.heap.size w v n xs:=by
 rcases h.2 with⟨rfl,rfl⟩ | ⟨g,cap,D,rfl,H,C,G,E,F,ht⟩
 ·exact .inl ⟨rfl,rfl,List.eq_nil_of_length_eq_zero (by simpa using h.1)⟩
 ·refine .inr ⟨g,0,cap,rfl,(Array.getElem?_eq_some_iff.1 C).1,fun i I=>?_⟩
  rw[Nat.zero_add,cCc C i,<- ht,List.getElem?_take_of_lt (by have:=h.1;omega)];simp
theorem jxE (w:World) (v0:Value) (A:TypeId):∃ W,w.alloc (.cells #[v0] A)=W/\Boxed W w.heap.size A v0/\Bw w W/\W.heap.size=w.heap.size+1 :=
 ⟨_,rfl,Boxed.new w A v0,(Below.refl _ w).alloc (Nat.le_refl _) _,by simp⟩
theorem jxF (w:World) (v0:Value) (A:TypeId) (v1:Value) (B:TypeId):∃ W,(w.alloc (.cells #[v0] A)).alloc (.cells #[v1] B)=W/\Boxed W w.heap.size A v0/\Boxed W (w.heap.size+1) B v1/\Below w.heap.size w W/\W.heap.size=w.heap.size+2:=by
 obtain⟨X,rfl,E,D,F⟩:=jxE w v0 A;have C:=Boxed.new (w.alloc (.cells #[v0] A)) B v1;rw[F] at C;exact⟨_,rfl,E.alloc _,C,D.alloc D.size _,by simp⟩
theorem jxg (w:World) (v0:Value) (A:TypeId) (v1:Value) (B:TypeId) (v2:Value) (C:TypeId):∃ W,((w.alloc (.cells #[v0] A)).alloc (.cells #[v1] B)).alloc (.cells #[v2] C)=W/\Boxed W w.heap.size A v0/\Boxed W (w.heap.size+1) B v1/\Boxed W (w.heap.size+2) C v2/\Bw w W/\W.heap.size=w.heap.size+3:=by
 obtain⟨X,rfl,F,G,E,H⟩:=jxF w v0 A v1 B;have D:=Boxed.new ((w.alloc (.cells #[v0] A)).alloc (.cells #[v1] B)) C v2;rw[H] at D;exact⟨_,rfl,F.alloc _,G.alloc _,D,E.alloc E.size _,by simp⟩
theorem jxG (w:World) (v0:Value) (A:TypeId) (v1:Value) (B:TypeId) (v2:Value) (C:TypeId) (v3:Value) (D:TypeId):∃ W,(((w.alloc (.cells #[v0] A)).alloc (.cells #[v1] B)).alloc (.cells #[v2] C)).alloc (.cells #[v3] D)=W/\Boxed W w.heap.size A v0/\Boxed W (w.heap.size+1) B v1/\Boxed W (w.heap.size+2) C v2/\Boxed W (w.heap.size+3) D v3/\Bw w W/\W.heap.size=w.heap.size+4:=by
 obtain⟨X,rfl,G,H,I,F,J⟩:=jxg w v0 A v1 B v2 C;have E:=Boxed.new (((w.alloc (.cells #[v0] A)).alloc (.cells #[v1] B)).alloc (.cells #[v2] C)) D v3;rw[J] at E;exact⟨_,rfl,G.alloc _,H.alloc _,I.alloc _,E,F.alloc F.size _,by simp⟩
theorem jts {W:World} {B D:Nat} {t:TypeId} {v:Value} (h:Boxed W B t v) {o:Obj} (hK:W.heap[D]? = some o) (C:o.isCells=false) (A:Obj):Boxed (W.putObj D A) B t v :=
 h.kept (grownBy_putObj' W D A) (fun e=>by cases e;have:=(show W.heap[B]? = _ from h).symm.trans hK;cases this;cases C)
theorem jtD {W:World} {D:Nat} (hK:W.heap[D]? = some (.deferred (some []))) (a:Addr) (v:Value):(W.setCell a v).heap[D]? = some (.deferred (some [])):=(KeepsOthers.setCell W a v).same D _ hK rfl
theorem jbN {w w':World} {A e B n:Nat} {v:Value} {xs:List Value} (h:w.ownsRow A e B v n xs) (G:∀ j,A<=j->j<w.heap.size->w'.heap[j]? = w.heap[j]?):w'.ownsRow A e B v n xs:=by
 refine⟨h.1,?_⟩;rcases h.2 with F | ⟨g,cap,C,H,D,E,r⟩
 ·exact .inl F
 ·exact .inr ⟨g,cap,C,H,D,(G g D (Array.getElem?_eq_some_iff.1 E).1).trans E,r⟩
theorem jb0 {P:Program} {w:World} {A:Array Oper} {rest:List Oper} {o:Oper} {a:Act} {Q:Exit->Act->World->Prop} (B:o.guard=none) (s x:Operand) (t:TypeId)
  (C:o.op=.call { callee:=.builtin .append,args:=#[s,x],argTypes:=#[t,t] }) {v xv v':Value} {w':World} (D:a.eval s=v) (E:a.eval x=xv)
  (hr:(Builtin.append_ #[t,t] o.type #[v,xv]).run P w=.ok v' w') (h:wpList P A Q rest (a.put o.dst v') w'):wpList P A Q (o::rest) a w:=by
 refine wpList_plain B fun _ hK=>?_
 unfold Oper.wp execOp;simp only[C,resolve,invoke,builtin,Sem.run_bind,Sem.run_pure,Result.andThen_ok,List.map_toArray,List.map_cons,List.map_nil,D,E,hr];exact hK _ _ h
theorem jjl {F:Fence} {n:Nat} {P:Program} {w:World} {B:Array Oper} {rest:List Oper} {o:Oper} {a:Act} {Q:Exit->Act->World->Prop} (E:o.guard=none) (s x:Operand) (t:TypeId)
  (A:o.op=.call { callee:=.builtin .append,args:=#[s,x],argTypes:=#[t,t] }) {v xv v':Value} {w':World} (G:a.eval s=v) (H:a.eval x=xv)
  (hr:(Builtin.append_ #[t,t] o.type #[v,xv]).run P w=.ok v' w') (h:wpListIn F n P B Q rest (a.put o.dst v') w'):wpListIn F n P B Q (o::rest) a w:=by
 refine wpListIn_plain E fun K C=>?_
 unfold Oper.wpIn;refine⟨?_,?_⟩
 ·simp[Oper.about,A,resolve,Target.leads,Sem.run_pure]
 ·rw[Oper.semAt_plain F _ _ (by rw[A];intro c D;cases D)]
  simp[execOp,A,resolve,invoke,builtin,G,H,hr,Result.andThen];exact C _ _ h
end
def jb7 {σ α:Type} (f:σ->α->Option σ) (s:σ) (l:List α):Option σ:=l.foldl (fun s x=>s.bind (f · x)) (some s)
theorem jh5 {σ α:Type} (f:σ->α->Option σ) (l:List α):l.foldl (fun s x=>s.bind (f · x)) (none:Option σ)=none:=by
 induction l with
 | nil=>rfl
 | cons x xs ih=>exact ih
theorem jgc {σ α:Type} (f:σ->α->Option σ) (s:σ):jb7 f s []=some s:=rfl
theorem jpd {σ α:Type} (f:σ->α->Option σ) (s:σ) (l:List α) (x:α):jb7 f s (l++[x])=(jb7 f s l).bind (f · x):=by simp[jb7]
theorem jai {α:Type} {l:List α} {k:Nat} {x:α} (h:l[k]? = some x):l.take (k+1)=l.take k++[x]:=by rw[List.take_add_one,h];rfl
theorem jjx {σ α:Type} {f:σ->α->Option σ} {s A:σ} {l:List α} {k:Nat} {x:α} (h:l[k]? = some x) (B:jb7 f s (l.take k)=some A):jb7 f s (l.take (k+1))=f A x:=by
 rw[jai h,jpd,B];rfl
theorem jg3 {σ α:Type} (f:σ->α->Option σ) (s:σ) (l m:List α):jb7 f s (l++m)=(jb7 f s l).bind (fun A=>jb7 f A m):=by
 unfold jb7;rw[List.foldl_append]
 cases l.foldl (fun s x=>s.bind (f · x)) (some s) with
 | none=>exact jh5 f m
 | some A=>rfl
theorem jjw {σ α:Type} {f:σ->α->Option σ} {s:σ} {l:List α} {k:Nat} (h:jb7 f s (l.take k)=none):jb7 f s l=none:=by
 rw[<- List.take_append_drop k l,jg3,h];rfl
theorem jdj {σ α:Type} (f:σ->α->Option σ) (s:σ) (x:α) (l:List α):jb7 f s (x::l)=(f s x).bind (fun A=>jb7 f A l):=by
 have:=jg3 f s [x] l;simpa [jb7] using this
theorem jeB {α:Type} (enc:α->List Value) (k:Nat) (B:∀ x,(enc x).length=k) (l:List α) (j i:Nat) (x:α) (A:l[j]? = some x) (C:i<k):(l.flatMap enc)[j*k+i]? = (enc x)[i]? := by
 induction l generalizing j with
 | nil=>simp at A
 | cons y ys ih =>
  cases j with
  | zero =>
   simp at A;subst A;simp only[List.flatMap_cons,Nat.zero_mul,Nat.zero_add];rw[List.getElem?_append_left (by rw[B];exact C)]
  | succ j =>
   simp only[List.flatMap_cons];rw[List.getElem?_append_right (by rw[B,Nat.succ_mul];omega),B,show (j+1)*k+i-k=j*k+i by rw[Nat.succ_mul];omega];exact ih j (by simpa using A)
theorem jgb {α:Type} (enc:α->List Value) (k:Nat) (A:∀ x,(enc x).length=k) (l:List α):(l.flatMap enc).length=l.length*k:=by
 induction l with
 | nil=>simp
 | cons y ys ih=>simp[List.flatMap_cons,A,ih,Nat.succ_mul];omega
theorem SlAt.elems {α:Type} {enc:α->List Value} {k:Nat} (C:∀ x,(enc x).length=k) {D:Nat} {w:World} {a:Option Addr} {len cap:Nat} {l:List α} (h:SlAt D w (.slice a len cap) l.length (l.flatMap enc)) :
  len=l.length/\∀ j x,l[j]? = some x->∃ b off,a=some ⟨b,off,none⟩/\b<D/\∀ i,i<k->w.cell? ⟨b,off+j*k+i,none⟩=(enc x)[i]? := by
 rcases h with⟨h,E,_⟩ | ⟨b,off,A,e,G,H⟩
 ·obtain⟨rfl,rfl,rfl⟩:a=none/\len=0/\cap=0:=by simpa using h
  have:l=[]:=by simpa using E
  subst this;exact⟨rfl,fun i x B=>by simp at B⟩
 ·obtain⟨rfl,rfl,rfl⟩:a=some ⟨b,off,none⟩/\len=l.length/\cap=A:=by simpa using e
  refine⟨rfl,fun j x B=>⟨b,off,rfl,G,fun i I=>?_⟩⟩;have J:=(List.getElem?_eq_some_iff.1 B).1;have F:j*k+i<l.length*k:=by have:=Nat.mul_le_mul_right k (show j+1<=l.length by omega);rw[Nat.succ_mul] at this;omega
  rw[Nat.add_assoc,H (j*k+i) (by rw[jgb enc k C];exact F),jeB enc k C l j i x B I]
section
open Go.ChangeShapes Go.WideShapes Go.Deep
section
variable {H:Type} {enc:TypeId × Value->H} {P:Program}
theorem jk3 (O:laidOutB P=true) {W I:World} {J:Nat->Bool} (N:Bw W I):∀ (A:List TypeId) (vs:List Value) (D:List (DataW H)) (C:List MemPlace),
  (∀ t∈A,P.readableRec t=true/\t<P.types.size)->(∀ p∈C,p.block<W.heap.size/\J p.block=true) ->
  DataW.TrodAll enc P W 0 (fun _=>true) true A vs D C->DataW.TrodAll enc P I 0 J true A vs D C:=by
 intro A
 induction A with
 | nil=>intro vs D C _ _ h;obtain⟨M,rfl,rfl⟩:=trodAll_nil h;rw[M];exact trodAll_mk0
 | cons t A ih =>
  intro vs D C hr F h;obtain⟨v,G,d,E,p,q,rfl,rfl,rfl,L,Q⟩:=trodAll_cons h;have ht:=hr t List.mem_cons_self;refine trodAll_cons_mk (WideElems.Trod_stays O ht.1 ht.2 L (fun x B=>N.same (F x (List.mem_append_left _ B)).1) (fun x B=>(F x (List.mem_append_left _ B)).2)) ?_;exact ih G E q (fun t ht=>hr t (List.mem_cons_of_mem _ ht)) (fun x B=>F x (List.mem_append_right _ B)) Q
theorem jt3 {f:Func} {s:ChangeSpec} {W L:World} {args:Array Value} {E M:List (DataW H)} {A:List MemPlace} {Q:TypeId} (T:laidOutB P=true)
  (hr:∀ t∈f.params.toList,P.readableRec t=true/\t<P.types.size) (O:s.vars=[]) (F:DataW.Whole enc P f.params.toList s.vars false W args.toList E M A)
  (J:s.fn H (E++M) = { results:=[.lit (.bool true)],args:=E }) (C:f.resultTypes=#[Q]) (S:P.underlying Q=some .bool) (N:Bw W L) :
  s.post enc P f false true false false W args (.bool true) L:=by
 have B:∀ p∈A,p.block<W.heap.size:=fun p U=>F.lt p U
 have I:=F;obtain⟨p,q,R,G,rfl,_,_⟩:=I;rw[O] at G;obtain⟨rfl,rfl⟩:=trodVars_none G;rw[List.append_nil] at B F;refine⟨E,[],p,[],p,[],F,?_,?_,?_,World.keptBut_mono (fun x D=>⟨D,Or.inr (Or.inl D)⟩) (N.frame (· ∈ p)),fun h=>by cases h⟩
 ·rw[J,C]
  exact trodAll_cons_mk (shut_bool S _) trodAll_mk0
 ·rw[J]
  exact jk3 T N _ _ _ _ hr (fun x D=>⟨B x D,by simpa using B x D⟩) R
 ·rw[J,O]
  exact G
variable {w:World} {base:Nat} {spare:Nat->Bool} {held:Bool}
theorem jcm {e:TypeId} {B:Array Field} {C:Nat} {cs:List Value} {x:DataW H × List MemPlace} (I:P.underlying e=some (.struct B)) (D:oneCellFields P B=true) (G:P.cellsOf e=B.size)
  (h:DataW.trod enc P w base spare held C e cs=some x):cs.length=B.size/\∃ n,∀ (j:Nat) (f:Field),B[j]? = some f->∃ v y,cs[j]? = some v/\DataW.trod enc P w base spare held n f.type [v]=some y:=by
 obtain⟨xs,n,_,_,A,O,J⟩:=DataW.trod_struct I h;rw[G] at A;refine⟨A,n,fun j f E=>?_⟩;obtain⟨N,M⟩:=hone_of D j f E;have L:j<B.size:=(Array.getElem?_eq_some_iff.1 E).1;have F:=J j f E;rw[N,M,List.drop_eq_getElem_cons (by omega),List.getElem?_eq_getElem (by omega)] at F;exact⟨_,_,List.getElem?_eq_getElem (by omega),F⟩
theorem joS {r:Reach} {C:Nat} {t e:TypeId} {a:Addr} {len cap:Nat} (ht:P.underlying t=some (.slice e)) (h:Cell.okWide P w r C t (.slice (some a) len cap)):a.spot=none/\a.block<w.heap.size:=by
 simp only[Cell.okWide,ht,Cell.ok] at h;obtain⟨_,_,_,D,row,cells,A,_⟩:=h;refine⟨D,?_⟩;unfold World.shape? at A
 cases B:w.heap[a.block]? with
 | none=>simp[B] at A
 | some o=>exact (Array.getElem?_eq_some_iff.1 B).1
theorem jhy {a:Addr} (h:a.spot=none) (n:Nat):a.add n=⟨a.block,a.off+n,none⟩:=by
 obtain⟨b,o,s⟩:=a;dsimp only at h;subst h;unfold Addr.add;split
 ·simp_all
 ·rfl
theorem jkz {α:Type} {t e:TypeId} {k:Nat} {encA:α->List Value} (F:∀ x,(encA x).length=k) (ht:P.underlying t=some (.slice e)) (q:P.cellsOf e=k)
  (T:∀ n cs x,DataW.trod enc P w base spare held n e cs=some x->∃ y,cs=encA y) {M:Nat} {a:Option Addr} {len cap:Nat} {x:DataW H × List MemPlace}
  (b:∀ B,a=some B->B.spot=none/\B.block<w.heap.size) (h:DataW.trod enc P w base spare held M t [.slice a len cap]=some x) :
  ∃ l:List α,SlAt w.heap.size w (.slice a len cap) l.length (l.flatMap encA):=by
 rcases open_slice ht h with⟨I,_⟩ | ⟨B,g,c,m,n,D,Pl,N,-,s,-,f,-,V⟩
 ·simp only[List.cons.injEq,and_true] at I
  exact⟨[],.inl ⟨I,rfl,rfl⟩⟩
 ·simp only[List.cons.injEq,and_true,Value.slice.injEq] at N
  obtain⟨rfl,rfl,rfl⟩:=N;obtain⟨v,p⟩:=b B rfl;have Z:len<=m:=by rw[f];split<;>omega
  have E:∀ i,i<len->∃ y,∀ j,j<k->w.cell? ⟨B.block,B.off+i*k+j,none⟩=(encA y)[j]? := fun i A=>by
   obtain⟨o,C,J⟩:=V i (by omega);obtain⟨y,rfl⟩:=T _ _ _ J;rw[q] at C;obtain⟨_,_,R⟩:=World.cells?_some C;refine⟨y,fun j O=>?_⟩;have:=R j O;rw[jhy v,jhy rfl] at this;exact this
  have U:∃ l:List α,l.length=len/\∀ i y,l[i]? = some y->∀ j,j<k->w.cell? ⟨B.block,B.off+i*k+j,none⟩=(encA y)[j]? := by
   clear V f Z s h
   induction len with
   | zero=>exact⟨[],rfl,fun i y h=>by simp at h⟩
   | succ n ih =>
    obtain⟨l,C,J⟩:=ih (fun i V=>E i (by omega));obtain⟨y,Q⟩:=E n (by omega);refine⟨l++[y],by simp[C],fun i z L j O=>?_⟩;by_cases A:i<l.length
    ·rw[List.getElem?_append_left A] at L
     exact J i z L j O
    ·have X:=(List.getElem?_eq_some_iff.1 L).1
     have:i=n:=by simp at X;omega
     subst this;rw[List.getElem?_append_right (by omega),C] at L;simp at L;subst L;exact Q j O
  obtain⟨l,Y,G⟩:=U;refine⟨l,.inr ⟨B.block,B.off,cap,by rw[Y];congr 2;cases B;simp_all,p,fun i A=>?_⟩⟩;rw[jgb encA k F] at A
  have r:0<k:=by
   rcases Nat.eq_zero_or_pos k with I | I
   ·subst I;simp at A
   ·exact I
  have S:=Nat.div_add_mod i k;have u:i / k<l.length:=Nat.div_lt_of_lt_mul (by rw[Nat.mul_comm];exact A);have hr:i % k<k:=Nat.mod_lt _ r;obtain⟨y,Q⟩:∃ y,l[i / k]? = some y:=⟨_,List.getElem?_eq_getElem u⟩;have C:=G _ y Q _ hr;have J:=jeB encA k F l (i / k) (i % k) y Q hr;have d:i / k*k+i % k=i:=by rw[Nat.mul_comm];exact S
  rw[Nat.add_assoc,d] at C;rw[d] at J;rw[C,J]
theorem jm3 {r:Reach} {B:Nat} {t:TypeId} {D:Array Field} {cs:Array Value} (ht:P.underlying t=some (.struct D)) (h:Value.okWide P w r B t (.agg cs)) :
  ∃ A,P.cellTypes P.depth t=some A/\∀ i v,cs[i]? = some v->∃ u,A[i % A.length]? = some u/\Cell.okWide P w r B u v:=by
 simp only[Value.okWide,ht] at h;obtain⟨C,E,_,A,F,_,G⟩:=h
 cases E
 exact⟨A,F,G⟩
end
end
theorem jmJ (P:Program) {t e:TypeId} {z:Value} {C E:Nat} (r:TypeId) (ht:P.underlying t=some (.slice e)) (I:(P.info? e).map (fun i=>(i.zero,i.size,i.bytes))=some (some z,C,E)) (h:z.cells.size=C) (Y:0<C)
  {W s:World} {B A:Nat} {v q:Value} {n m:Nat} {xs cs:List Value} (D:W.ownsRow A e C v n xs) (l:Below B s W) (Q:B<=A) (G:A<=W.heap.size) (M:SlAt W.heap.size W q m cs) (hl:cs.length=m*C) (x:∀ u∈cs,u.oneCell'=true)
  (hn:n<2147483648) (hm:m<2147483648) (R:E<=4096) :
  ∃ v' F,(Builtin.append_ #[t,t] r #[v,q]).run P W=.ok v' F/\F.ownsRow A e C v' (n+m) (xs++cs)/\Below B s F/\W.heap.size<=F.heap.size/\(∀ k,k<A->F.heap[k]? = W.heap[k]?)/\(∀ k,k<W.heap.size->some k≠v.ownBlock->F.heap[k]? = W.heap[k]?):=by
 obtain⟨i0,T,Z,d,f⟩:=info_parts I;rcases M with⟨rfl,rfl,rfl⟩ | ⟨b,off,cap,rfl,hb,hc⟩
 ·refine⟨v,W,?_,by simpa using D,l,Nat.le_refl _,fun _ _=>rfl,fun _ _ _=>rfl⟩
  obtain⟨a,c,rfl⟩:∃ a c,v=.slice a n c:=by
   rcases D.2 with⟨rfl,rfl⟩ | ⟨g,cap,O,rfl,_⟩
   ·exact⟨none,0,rfl⟩
   ·exact⟨_,cap,rfl⟩
  rcases D.2 with⟨S,U⟩ | ⟨g,cap,O,S,hg,aa,V,_⟩
  ·obtain⟨rfl,_,rfl⟩:a=none/\n=0/\c=0:=by simpa using S
   subst U;simp[Builtin.append_,run_underlying ht,sizeOf,typeInfo,T,Builtin.lenOf,Builtin.firstCells]
  ·obtain⟨rfl,rfl⟩:a=some ⟨g,0,none⟩/\c=cap:=by simpa using S
   simp[Builtin.append_,run_underlying ht,sizeOf,typeInfo,T,Builtin.lenOf,Builtin.firstCells,V,storeCells]
 ·have H:∀ j u,cs[j]? = some u->W.cell? ((⟨b,off,none⟩:Addr).add j)=some u:=fun j u p=>by
   have w:(⟨b,off,none⟩:Addr).add j=⟨b,off+j,none⟩:=by unfold Addr.add;split<;>simp_all
   rw[w,hc j (List.getElem?_eq_some_iff.1 p).1,p]
  have o:=Nat.mul_le_mul (show n+m<=4294967296 by omega) R;obtain⟨v',F,hr,y,N,h4⟩:=run_append_own (P:=P) W A t r e i0 z C E ht T Z d f h Y v n xs D ⟨b,off,none⟩ m cap cs hl H x (by unfold maxLen;omega) (by omega) G;have L:∀ k,v.ownBlock=some k->A<=k:=fun k J=>(D.lt k J).1
  exact⟨v',F,hr,y,l.grown N (by omega) (fun k J=>Nat.le_trans Q (L k J)),N.size,fun k J=>N.block k (by omega) (fun e=>by have:=L k e.symm;omega),fun k J X=>N.block k J X⟩
theorem jdS {P:Program} {A:Array Oper} {o:Oper} {a:Act} {w:World} {K:Act->World->Prop} {Q:Exit->Act->World->Prop} {E:Prop}
  (C:o.guard=none) (s x:Operand) (t:TypeId) (B:o.op=Op.call { callee:=Callee.builtin Builtin.append,args:=#[s,x],argTypes:=#[t,t] })
  {v xv v':Value} {w':World} (D:a.eval s=v) (G:a.eval x=xv) (hr:(Builtin.append_ #[t,t] o.type #[v,xv]).run P w=.ok v' w') (hK:K (a.put o.dst v') w') :
  if Region.wanted o (yielded A a.tmps)=true then Oper.wp P o a w K Q else E:=by
 have F:Region.wanted o (yielded A a.tmps)=true:=by simp[Region.wanted,C]
 rw[if_pos F];unfold Oper.wp;simp[execOp,B,resolve,invoke,builtin,D,G,hr,Result.andThen];exact hK
theorem hSk {W:World} {B i:Nat} {c:Array Value} {t:TypeId} {C:Nat × Nat} (h:W.heap[B]? = some (.cells c t C)) (v:Value):(W.setCell ⟨B,i,none⟩ v).heap[B]? = some (.cells (c.setIfInBounds i v) t C):=by
 obtain⟨A,D⟩:=Array.getElem?_eq_some_iff.1 h;show (W.heap.modify B _)[B]? = _;rw[Array.getElem?_eq_getElem (by rw[Array.size_modify];exact A),Array.getElem_modify_self,D];rfl
theorem jbB {W:World} {B:Nat} {x y u v:Value} {t:TypeId} (h:W.heap[B]? = some (.cells #[x,y] t (0,0))):((W.setCell ⟨B,0,none⟩ u).setCell ⟨B,1,none⟩ v).heap[B]? = some (.cells #[u,v] t (0,0)):=hSk (hSk h u) v
theorem SlAt.drew {n m:Nat} {w:World} {A:Value} {cs:List Value} (h:SlAt n w A m cs):SlAt n w.drew A m cs:=h
theorem jfV {B:Nat} {A W:World} (h:Below B A W) {b:Nat} (C:B<=b):∀ (vs:List Value) (o:Nat),Below B A (W.setCells b o vs):=by
 intro vs
 induction vs generalizing W with
 | nil=>intro o;exact h
 | cons v r ih=>intro o;exact ih (h.setCell (p:=⟨b,o,none⟩) C v) (o+1)
structure WIn (Inv:World->Prop) where
 world:World
 ok:Inv world
theorem jad {P:Program} (A:World->Prop) {G:Nat} {Q:Exit->Act->World->Prop} {a:Act} {w:World} {l:List Oper} (F:P.follows .mixedOrders=true) (D:Region.lexB .any l.toArray=true) (E:A w.drew)
  (h:wpQuiet P l.toArray (fun w'=>∃ X:WIn A,w'=X.world) (fun B=>∀ w',(∃ X:WIn A,w'=X.world)->Q .normal B w') l a):(Code.region G l.toArray true).wp P Q a w :=
 wp_region_quiet (C:=fun w'=>∃ X:WIn A,w'=X.world) F D ⟨⟨_,E⟩,rfl⟩ (by simpa using h)
theorem jmV {P:Program} {A:World->Prop} {f:FuncId} {args:Array Value} {W:World} {v:Value} {R:World->World->Prop} (C:∀ B,R W B->A B)
  (h:Calls P f args W fun e w'=>e=.returned v/\R W w'):Calls P f args W fun e w'=>e=.returned v/\∃ Y:WIn A,w'=Y.world :=
 h.mono fun _ B ⟨D,hr⟩=>⟨D,⟨⟨B,C B hr⟩,rfl⟩⟩
theorem jac {P:Program} {A:World->Prop} {f:FuncId} {args:Array Value} {X:WIn A} {v:Value} (C:∀ W B,A W->Bw W B->A B)
  (h:Calls P f args X.world fun e w'=>e=.returned v/\Below X.world.heap.size X.world w'):Calls P f args X.world fun e w'=>e=.returned v/\∃ Y:WIn A,w'=Y.world :=
 jmV (R:=fun W B=>Bw W B) (fun B hr=>C _ B X.ok hr) h
theorem jfA {W A:World} (B:Bw W A):(∀ b o,b<W.heap.size->A.cell? ⟨b,o,none⟩=W.cell? ⟨b,o,none⟩)/\(∀ b o,b<W.heap.size->A.frozen? ⟨b,o,none⟩=W.frozen? ⟨b,o,none⟩) :=
 ⟨fun b o h=>B.cell (p:=⟨b,o,none⟩) h,fun b o h=>B.frozen (p:=⟨b,o,none⟩) h⟩
theorem jag {P:Program} {Q:Exit->Act->World->Prop} {a:Act} {w:World} {c rest:Code} (l:Nat) (B:findLabel c l=some rest)
  (first:c.wp P (Exit.jump l (fun a w=>rest.wp P (Exit.noGoto Q) a w) Q) a w):(Code.scope c).wp P Q a w :=
 wp_scope_jumps l _ (fun _ _=>0) B first (fun _ _ A=>Code.wp_mono (fun e _ _ h=>by cases e<;>first | exact h | exact (h:False).elim) A)
theorem jah {l:Nat} {J:Act->World->Prop} {Q:Exit->Act->World->Prop} {a:Act} {w:World}:Exit.jump l J Q .ret a w=Q .ret a w:=rfl
theorem jaf (w:World) (A:Array Value) (B:TypeId):∃ W,w.alloc (.cells A B)=W/\W.heap[w.heap.size]? = some (.cells A B (0,0))/\Below w.heap.size w W/\W.heap.size=w.heap.size+1 :=
 ⟨_,rfl,World.alloc_heap_new _ _,(Below.refl _ w).alloc (Nat.le_refl _) _,by simp⟩
theorem jaI (w:World) (B:Array Value) (C:TypeId) (D:Array Value) (E:TypeId):∃ W,(w.alloc (.cells B C)).alloc (.cells D E)=W/\W.heap[w.heap.size]? = some (.cells B C (0,0))/\W.heap[w.heap.size+1]? = some (.cells D E (0,0))/\Below w.heap.size w W/\W.heap.size=w.heap.size+2:=by
 obtain⟨X,rfl,G,H,I⟩:=jaf w B C;obtain⟨Y,rfl,F,A,J⟩:=jaf (w.alloc (.cells B C)) D E;rw[I] at F;exact⟨_,rfl,(A.block _ (by omega)).trans G,F,H.trans (A.mono (by omega)),by omega⟩
theorem jbJ (w:World) (B:Array Value) (D:TypeId) (C:Array Value) (E:TypeId) (F:Array Value) (G:TypeId):∃ W,((w.alloc (.cells B D)).alloc (.cells C E)).alloc (.cells F G)=W/\W.heap[w.heap.size]? = some (.cells B D (0,0))/\W.heap[w.heap.size+1]? = some (.cells C E (0,0))/\W.heap[w.heap.size+2]? = some (.cells F G (0,0))/\Below w.heap.size w W/\W.heap.size=w.heap.size+3:=by
 obtain⟨X,rfl,I,J,L,M⟩:=jaI w B D C E;obtain⟨Y,rfl,H,A,N⟩:=jaf ((w.alloc (.cells B D)).alloc (.cells C E)) F G;rw[M] at H;exact⟨_,rfl,(A.block _ (by omega)).trans I,(A.block _ (by omega)).trans J,H,L.trans (A.mono (by omega)),by omega⟩
theorem jab {n:Nat} {W A:World} {b:Nat} {o:Obj} (B:Below n W A) (C:W.heap.size<=n) (h:W.heap[b]? = some o):A.heap[b]? = some o:=(B.block _ (Nat.lt_of_lt_of_le (Array.getElem?_eq_some_iff.1 h).1 C)).trans h
theorem jqj (w:World) (o A:Obj) : { w.alloc o with heap:=(w.alloc o).heap.setIfInBounds w.heap.size A }=w.alloc A:=by
 have:(w.heap.push o).setIfInBounds w.heap.size A=w.heap.push A:=by
  apply Array.ext
  ·simp
  ·intro i E B
   rw[Array.getElem_setIfInBounds (by simpa using B)];by_cases C:w.heap.size=i
   ·subst C;simp
   ·have D:i<w.heap.size:=by simp at B;omega
    simp[C,Array.getElem_push_lt D]
 unfold World.alloc;simp only[this]
theorem jeJ {P:Program} (w:World) {B kt E:TypeId} {A:IntKind} {clock:Nat} {es:Array MapEntry} {n:Int} (val:Value) (H:P.underlying B=some (.map kt E)) (D:P.underlying kt=some (.int A))
  (G:Instr.findNow (.int A) (.int A n) es.toList 0=some none) :
  (Instr.mapUpdate B (.map (some w.heap.size)) (.int A n) val).run P (w.alloc (.map es clock))=.ok () (w.alloc (.map (es.push { key:=.int A n,val:=val,born:=clock }) (clock+1))):=by
 have C:(w.alloc (.map es clock)).heap[w.heap.size]? = some (.map es clock):=World.alloc_heap_new _ _;have F:(Instr.checkKey false 10000 kt (.int A n)).run P (w.alloc (.map es clock))=.ok () (w.alloc (.map es clock)):=MapKept.run_checkKey (k:=.int A n) D (by simp[MapKept.IsKey]) false 9999;simp[Instr.mapUpdate,run_underlying H,MapKept.run_getObj_map C,F,MapKept.run_findKey D G,MapKept.run_setObj_map _ C,Result.andThen];exact jqj w _ _
theorem jkv {P:Program} {w:World} {B kt D:TypeId} {A:IntKind} {r clock:Nat} {es:Array MapEntry} {n:Int} {i:Nat} {v:Value} (H:P.underlying B=some (.map kt D)) (C:P.underlying kt=some (.int A))
  (E:w.heap[r]? = some (.map es clock)) (G:Instr.findNow (.int A) (.int A n) es.toList 0=some (some (i,v))) :
  (Instr.lookup B (.map (some r)) (.int A n) true).run P w=.ok (.tuple #[v,.bool true]) w/\(Instr.lookup B (.map (some r)) (.int A n) false).run P w=.ok v w:=by
 have F:∀ b,(Instr.checkKey b 10000 kt (.int A n)).run P w=.ok () w:=fun b=>MapKept.run_checkKey (k:=.int A n) C (by simp[MapKept.IsKey]) b 9999
 constructor<;>simp[Instr.lookup,run_underlying H,MapKept.run_getObj_map E,F,MapKept.run_findKey C G,Result.andThen]
theorem jkw {P:Program} {w:World} {B kt C:TypeId} {A:IntKind} {r clock:Nat} {es:Array MapEntry} {n:Int} {z:Value} (H:P.underlying B=some (.map kt C)) (D:P.underlying kt=some (.int A))
  (E:w.heap[r]? = some (.map es clock)) (I:(zeroValue C).run P w=.ok z w) (G:Instr.findNow (.int A) (.int A n) es.toList 0=some none) :
  (Instr.lookup B (.map (some r)) (.int A n) true).run P w=.ok (.tuple #[z,.bool false]) w:=by
 have F:∀ b,(Instr.checkKey b 10000 kt (.int A n)).run P w=.ok () w:=fun b=>MapKept.run_checkKey (k:=.int A n) D (by simp[MapKept.IsKey]) b 9999
 simp[Instr.lookup,run_underlying H,MapKept.run_getObj_map E,F,MapKept.run_findKey D G,I,Result.andThen]
end Go.Proofs.YtafhpamnegmilaaGreatDoor
