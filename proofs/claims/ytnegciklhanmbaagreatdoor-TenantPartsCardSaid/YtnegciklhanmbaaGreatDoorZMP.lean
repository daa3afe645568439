/- Plain lemmas and words of my own, of no program: the runes of a string, owned memory, lists in slices. Words of my own, of no program: slices in memory, boxes, a range over a function in a plain walk. Plain lemmas: a fold that may fail, along a list; cells of slices of structs. Rows of laws: what a call that answers true and changes nothing leaves; arguments opened to the walks' words. Of no program. Appends of many cells, makes: as run equations. A drawn region whose operations yield fixed values in every world of a class: one walk, in the order of the text. Boxes. Slices by their elements: whatever address an empty one has. Of no program. An address moved on, as a slice expression moves it. Of no program. Goals that come to one; a new box as it is met in whatever order. -/
import Derived.WalkKit
import Derived.LoopTactic
import Derived.WalkLawsBesides
import Derived.WalkSpells
import Derived.Lib.Hide
import Derived.Laws.RangeAny
import Derived.Lib.OthersKept
import Derived.Lib.Strings
import Derived.Test.YtnegciklhanmbaaGreatDoorProg
import Derived.RangeFuncNested
import Derived.RangeFuncBound
import Derived.RangeFuncCalls
import Derived.RangeFuncLeaves
import Derived.Shelf.Abstract
import Derived.Shelf.RegionOpen
import Derived.OwnWalkIn
import Derived.TacticsInMore
import Derived.LoopNIn
import Derived.LoopIn
import Derived.Outline
import Derived.BigGuardIn
import Derived.WalkMore
import Derived.ProofKit
import Derived.OpenShut
import Derived.Carry
import Derived.Deep.Slices
import Derived.Deep.Fields
import Derived.Deep.DeepHandedRow
import Derived.Lib.SmallJoins
import Derived.Deep.RegionLaw
import Derived.BigQuiet
import Derived.BigRegion
import Derived.Deep.QuietTactic
import Derived.ScopeJumps
namespace Go.Proofs.YtnegciklhanmbaaGreatDoor
open Go Go.RowKit
abbrev Bw (w w':World):Prop:=Below (w.heap.size) w w'
abbrev CR (k:Nat) (a:Array Value) (w:World) (v:Value):Prop:=Calls Tryz.prog k a w fun e w'=>e=.returned v/\Below (w.heap.size) w w'
def jdb (s:ByteArray):Nat->Nat->List (Nat × Int)
 | 0,_=>[]
 | f+1,pos=>if pos<s.size then (pos,((Utf8.decode s pos).1:Int))::jdb s f (pos+(Utf8.decode s pos).2) else []
def rl (s:ByteArray) (pos:Nat):List (Nat × Int):=jdb s (s.size-pos) pos
theorem jdU (s:ByteArray) (pos:Nat) (h:pos<s.size):1<=(Utf8.decode s pos).2:=by
 by_cases ha:(s[pos]'h).toNat<128
 ·rw[decode_ascii s pos h ha];exact Nat.le_refl 1
 ·exact (decode_high s pos h (by omega)).2
theorem jgL (s:ByteArray):∀ (f g pos:Nat),s.size-pos<=f->s.size-pos<=g->jdb s f pos=jdb s g pos
 | 0,0,_,_,_=>rfl
 | 0,g+1,pos,h,_=>by simp[jdb];omega
 | f+1,0,pos,_,h=>by simp[jdb];omega
 | f+1,g+1,pos,hf,hg=>by
  simp only[jdb];split
  ·rename_i A
   have:=jdU s pos A;rw[jgL s f g _ (by omega) (by omega)]
  ·rfl
theorem jgm (s:ByteArray) (pos:Nat) (h:pos<s.size):rl s pos=(pos,((Utf8.decode s pos).1:Int))::rl s (pos+(Utf8.decode s pos).2):=by
 have B:=jdU s pos h;unfold rl;obtain⟨f,A⟩:∃ f,s.size-pos=f+1:=⟨s.size-pos-1,by omega⟩;rw[A];simp only[jdb,h,if_true];rw[jgL s f _ _ (by omega) (Nat.le_refl _)]
theorem ji7 (s:ByteArray) (pos:Nat) (h:¬ pos<s.size):rl s pos=[]:=by
 unfold rl;rw[show s.size-pos=0 by omega];rfl
theorem jhY (s:ByteArray):∀ (f pos:Nat),(jdb s f pos).length<=f
 | 0,_=>by simp[jdb]
 | f+1,pos=>by
  simp only[jdb];split
  ·have:=jhY s f (pos+(Utf8.decode s pos).2);simp;omega
  ·simp
theorem jvz (s:ByteArray) (pos:Nat):(rl s pos).length<=s.size-pos:=jhY s _ _
theorem jcz (s:ByteArray):s.toList.isEmpty=(s.size==0):=by
 rw[Lib.toList_data,Lib.size_eq]
 cases s.data.toList<;>simp
theorem jaw {w:World} {k:Nat} {s:ByteArray} {p:Nat} (h:w.heap[k]? = some (.stringIter s p)):w.iterPos k=p:=by simp[World.iterPos,h]
theorem jd0 {P:Program} {w0 w:World} {B k:Nat} {s:ByteArray} {pos:Nat} (E:w.heap[k]? = some (.stringIter s pos)) (F:Below B w0 w) (C:B<=k) (h:pos<s.size) :
  ∃ A:World,(∀ D,(Instr.next (.pointer (some ⟨k,0,none⟩)) true D).run P w=.ok (.tuple #[.bool true,.int .i64 pos,.int .i32 (Utf8.decode s pos).1]) A) /\
   A.heap[k]? = some (.stringIter s (pos+(Utf8.decode s pos).2))/\Below B w0 A/\A.heap.size=w.heap.size/\(∀ j,j≠k->A.heap[j]? = w.heap[j]?) :=
 ⟨_,fun D=>Lib.run_next_any_at w k s pos D E h,Lib.iterAt_heap w k s pos _ E,Lib.below_iterAt F C s _,Lib.iterAt_size w k s _,fun j G=>Lib.iterAt_other w k j s _ G⟩
section
open Go.Shelf
def SlAt (n₀:Nat) (w:World) (sv:Value) (n:Nat) (cs:List Value):Prop :=
 (sv=.slice none 0 0/\n=0/\cs=[])\/∃ b off cap,sv=.slice (some ⟨b,off,none⟩) n cap/\b<n₀/\∀ i,i<cs.length->w.cell? ⟨b,off+i,none⟩=cs[i]?
theorem SlAt.below {C:Nat} {A B:World} (h:Below C A B) {E:Value} {n:Nat} {D:List Value}:SlAt C A E n D->SlAt C B E n D
 | .inl e=>.inl e
 | .inr ⟨b,off,cap,e,hb,hc⟩=>.inr ⟨b,off,cap,e,hb,fun j F=>(h.cell (p:=⟨b,off+j,none⟩) hb).trans (hc j F)⟩
theorem SlAt.mono {B C:Nat} (E:B<=C) {w:World} {D:Value} {n:Nat} {A:List Value}:SlAt B w D n A->SlAt C w D n A
 | .inl e=>.inl e
 | .inr ⟨b,off,cap,e,hb,hc⟩=>.inr ⟨b,off,cap,e,Nat.lt_of_lt_of_le hb E,hc⟩
theorem jcA {n:Nat} {W A:World} (h:Below n W A) {B t:Nat} {v:Value} (C:B<n) (hb:Boxed W B t v):Boxed A B t v:=(h.block B C).trans hb
theorem jgw {n B:Nat} {W A:World} (h:Below n W A) (D:W.heap.size<=n):KeepsFrom B W A :=
 ⟨h.size,fun k _ _ C _=>(h.block k (by have:=(Array.getElem?_eq_some_iff.1 C).1;omega)).trans C⟩
theorem jaq {P:Program} {f:FuncId} {A:Func} {c:Code} {args:Array Value} {w:World} {R:Ending->World->Prop} (B:P.funcs[f]? = some A) (hb:A.body=some c)
  (h:c.wp P (bodyPostM Fence.wide 9 P A R) { tmps:=args++Array.replicate (A.ntmps-args.size) undef,defers:=[] } w):Calls P f args w R :=
 (callsIn_wide (n:=9)).1 (callsIn_of_wp_marks B hb trivial (wpIn_wide.2 h) rfl)
theorem jb1 {P:Program} {A:Func} {R:Ending->World->Prop} {a:Act} {w:World} {v:Value} (hr:(results A a.tmps).run P w=.ok v w) (C:a.defers=[]) (B:R (.returned v) w) :
  bodyPostM Fence.wide 9 P A R .ret a w:=by
 show LeavesInM Fence.wide 9 P A a.tmps R a.defers .returning w;rw[C];exact⟨v,hr,B⟩
theorem jau {P:Program} {A:Func} {R:Ending->World->Prop} {tmps:Array Value} {w:World} {D:Nat} {v:Value} (hK:w.heap[D]? = some (.deferred (some [])))
  (hr:(results A tmps).run P (w.putObj D (.deferred none))=.ok v (w.putObj D (.deferred none))) (B:R (.returned v) (w.putObj D (.deferred none))) :
  bodyPostM Fence.wide 9 P A R .ret { tmps:=tmps,defers:=[{ target:=.collected D,args:=#[] }] } w:=by
 refine⟨by simp,.inl ⟨_,_,rfl,run_takeDeferred hK,?_⟩⟩;exact⟨v,hr,B⟩
theorem jee {n D:Nat} {w0 W:World} (h:Below n w0 W) (A:n<=D) (hK:W.heap[D]? = some (.deferred (some []))):Below n w0 (W.putObj D (.deferred none)) :=
 h.trans ((Below.refl n W).grown (grownBy_putObj' W D _) (by have:=(Array.getElem?_eq_some_iff.1 hK).1;omega) (fun k e=>by cases e;omega))
theorem jku {α:Type} {P:Program} {g:Operand} {f:Array Tmp} {assign body:Code} {Q:Exit->Act->World->Prop} {a:Act} {w:World}
  {gf:Nat} {lb:Array Value} (m:a.eval g=.func (.func gf) #[] lb) (i:∀ args w,(callFunc gf args).run P w=.ok (.enter gf args) w)
  {B:α->Array Value} {S:Nat} {xs:List α} {N:Nat} {w0:World} (M:SeqStopsK Fence.wide 8 P gf lb B (Below S) (fun h=>h=xs) (fun A=>A <+: xs) N w0)
  (b:S<=w.heap.size) (Y:Bw w0 w) (d:∀ x,(B x).size=f.size)
  (I:List α->World->Prop) (R:Code->List α->World->Prop) (k:OwnFrom w.heap.size I) (V:∀ c,OwnFrom w.heap.size (R c)) (j:I [] w) (O:α->Act->World->Prop) (T:∀ x E,OwnFrom w.heap.size (fun (_:Unit) W=>O x E W))
  (C:∀ (l:Nat) (A:List α) (x:α) (W:World) (K:Act->World->Prop),I A W->(∀ E J,KeepsFrom w.heap.size W J->Below S W J->I A J->O x E J->K E J) ->
   assign.wpIn (Fence.wide.inRound l) 7 P (Exit.then K (fun _ _ _=>False)) { tmps:=(f.zip (B x)).foldl (fun t (p,v)=>t.setIfInBounds p v) a.tmps,defers:=[] } W)
  (F:∀ (l:Nat) (A:List α) (x:α) (E:Act) (W:World),I A W->O x E W->A.length<N->body.wpIn (Fence.wide.inRound l) 7 P (ownPostG w.heap.size (Below S) I R (A++[x]) W) E W)
  (G:∀ (D:Nat) (W:World),w.heap.size<=D->I xs W->W.heap[D]? = some (.deferred (some []))->Q .normal { a with defers:={ target:=.collected D,args:=#[] }::a.defers } W)
  (H:∀ (D:Nat) (c:Code) (A:List α) (W:World),w.heap.size<=D->A <+: xs->R c A W->W.heap[D]? = some (.deferred (some []))->c.wp P Q { a with defers:={ target:=.collected D,args:=#[] }::a.defers } W) :
  (Code.rangeFunc g f assign body).wp P Q a w :=
 (wpIn_wide (n:=9)).1 (wpIn_rangeFunc_ownH rfl (by omega) m trivial i M belowK_t (belowK_b b) Y d I R k V j O T C
  (fun l A x E W _ _ L X Z=>F l A x E W L X Z) (fun D h W U e L hK=>by subst e;exact G D W U L hK) (fun D c A W U o L hK=>wpIn_wide.2 (H D c A W U o L hK)))
theorem jc9 {β:Type} (C B:Nat) (t:TypeId) (f:β->Value):OwnFrom C (fun s W=>Boxed W B t (f s)):=Own.from (boxed_own B t f) C
theorem jg6 {β:Type} (C B:Nat) (f:β->Array Value) (t:TypeId):OwnFrom C (fun s W=>W.heap[B]? = some (.cells (f s) t (0,0))):=fun s X Y row A F hr=>by
 refine (F.block B (Array.getElem?_eq_some_iff.1 A).1 (fun e=>?_)).trans A;obtain⟨_,o,D,E⟩:=hr B e.symm;rw[A] at D;cases D;cases E
theorem cCc {W:World} {B:Nat} {c:Array Value} {t:TypeId} {A:Nat × Nat} (h:W.heap[B]? = some (.cells c t A)) (i:Nat):W.cell? ⟨B,i,none⟩=c[i]? := by simp[World.cell?,h]
theorem cFz {W:World} {B:Nat} {c:Array Value} {t:TypeId} (h:W.heap[B]? = some (.cells c t (0,0))) (i:Nat):W.frozen? ⟨B,i,none⟩=false:=by simp[World.frozen?,h]
theorem cl2 {W:World} {B:Nat} {v0 v1:Value} {t:TypeId} {A:Nat × Nat} (h:W.heap[B]? = some (.cells #[v0,v1] t A)):W.cell? ⟨B,0,none⟩=some v0/\W.cell? ⟨B,1,none⟩=some v1:=⟨cCc h 0,cCc h 1⟩
theorem cz2 {W:World} {B:Nat} {c:Array Value} {t:TypeId} (h:W.heap[B]? = some (.cells c t (0,0))):W.frozen? ⟨B,0,none⟩=false/\W.frozen? ⟨B,1,none⟩=false:=⟨cFz h 0,cFz h 1⟩
theorem cl3 {W:World} {B:Nat} {v0 v1 v2:Value} {t:TypeId} {A:Nat × Nat} (h:W.heap[B]? = some (.cells #[v0,v1,v2] t A)):W.cell? ⟨B,0,none⟩=some v0/\W.cell? ⟨B,1,none⟩=some v1/\W.cell? ⟨B,2,none⟩=some v2:=⟨cCc h 0,cCc h 1,cCc h 2⟩
theorem cz3 {W:World} {B:Nat} {c:Array Value} {t:TypeId} (h:W.heap[B]? = some (.cells c t (0,0))):W.frozen? ⟨B,0,none⟩=false/\W.frozen? ⟨B,1,none⟩=false/\W.frozen? ⟨B,2,none⟩=false:=⟨cFz h 0,cFz h 1,cFz h 2⟩
theorem cl4 {W:World} {B:Nat} {v0 v1 v2 v3:Value} {t:TypeId} {A:Nat × Nat} (h:W.heap[B]? = some (.cells #[v0,v1,v2,v3] t A)):W.cell? ⟨B,0,none⟩=some v0/\W.cell? ⟨B,1,none⟩=some v1/\W.cell? ⟨B,2,none⟩=some v2/\W.cell? ⟨B,3,none⟩=some v3:=⟨cCc h 0,cCc h 1,cCc h 2,cCc h 3⟩
theorem cz4 {W:World} {B:Nat} {c:Array Value} {t:TypeId} (h:W.heap[B]? = some (.cells c t (0,0))):W.frozen? ⟨B,0,none⟩=false/\W.frozen? ⟨B,1,none⟩=false/\W.frozen? ⟨B,2,none⟩=false/\W.frozen? ⟨B,3,none⟩=false:=⟨cFz h 0,cFz h 1,cFz h 2,cFz h 3⟩
theorem cl6 {W:World} {B:Nat} {v0 v1 v2 v3 v4 v5:Value} {t:TypeId} {A:Nat × Nat} (h:W.heap[B]? = some (.cells #[v0,v1,v2,v3,v4,v5] t A)):W.cell? ⟨B,0,none⟩=some v0/\W.cell? ⟨B,1,none⟩=some v1/\W.cell? ⟨B,2,none⟩=some v2/\W.cell? ⟨B,3,none⟩=some v3/\W.cell? ⟨B,4,none⟩=some v4/\W.cell? ⟨B,5,none⟩=some v5:=⟨cCc h 0,cCc h 1,cCc h 2,cCc h 3,cCc h 4,cCc h 5⟩
theorem jbg {W:World} {B:Nat} {v0 v1 v2 v3 v4 v5 v6 v7 v8 v9:Value} {t:TypeId} {A:Nat × Nat} (h:W.heap[B]? = some (.cells #[v0,v1,v2,v3,v4,v5,v6,v7,v8,v9] t A)):W.cell? ⟨B,0,none⟩=some v0/\W.cell? ⟨B,1,none⟩=some v1/\W.cell? ⟨B,2,none⟩=some v2/\W.cell? ⟨B,3,none⟩=some v3/\W.cell? ⟨B,4,none⟩=some v4/\W.cell? ⟨B,5,none⟩=some v5/\W.cell? ⟨B,6,none⟩=some v6/\W.cell? ⟨B,7,none⟩=some v7/\W.cell? ⟨B,8,none⟩=some v8/\W.cell? ⟨B,9,none⟩=some v9:=⟨cCc h 0,cCc h 1,cCc h 2,cCc h 3,cCc h 4,cCc h 5,cCc h 6,cCc h 7,cCc h 8,cCc h 9⟩
theorem jft {W:World} {B:Nat} {c:Array Value} {t:TypeId} (h:W.heap[B]? = some (.cells c t (0,0))):W.frozen? ⟨B,0,none⟩=false/\W.frozen? ⟨B,1,none⟩=false/\W.frozen? ⟨B,2,none⟩=false/\W.frozen? ⟨B,3,none⟩=false/\W.frozen? ⟨B,4,none⟩=false/\W.frozen? ⟨B,5,none⟩=false/\W.frozen? ⟨B,6,none⟩=false/\W.frozen? ⟨B,7,none⟩=false/\W.frozen? ⟨B,8,none⟩=false/\W.frozen? ⟨B,9,none⟩=false:=⟨cFz h 0,cFz h 1,cFz h 2,cFz h 3,cFz h 4,cFz h 5,cFz h 6,cFz h 7,cFz h 8,cFz h 9⟩
theorem jxT {W:World} {B:Nat} {v0 v1 v2 v3 v4 v5 v6 v7 v8 v9 A:Value} {t:TypeId} {C:Nat × Nat} (h:W.heap[B]? = some (.cells #[v0,v1,v2,v3,v4,v5,v6,v7,v8,v9,A] t C)):W.cell? ⟨B,0,none⟩=some v0/\W.cell? ⟨B,1,none⟩=some v1/\W.cell? ⟨B,2,none⟩=some v2/\W.cell? ⟨B,3,none⟩=some v3/\W.cell? ⟨B,4,none⟩=some v4/\W.cell? ⟨B,5,none⟩=some v5/\W.cell? ⟨B,6,none⟩=some v6/\W.cell? ⟨B,7,none⟩=some v7/\W.cell? ⟨B,8,none⟩=some v8/\W.cell? ⟨B,9,none⟩=some v9/\W.cell? ⟨B,10,none⟩=some A:=⟨cCc h 0,cCc h 1,cCc h 2,cCc h 3,cCc h 4,cCc h 5,cCc h 6,cCc h 7,cCc h 8,cCc h 9,cCc h 10⟩
theorem jyc {W:World} {B:Nat} {c:Array Value} {t:TypeId} (h:W.heap[B]? = some (.cells c t (0,0))):W.frozen? ⟨B,0,none⟩=false/\W.frozen? ⟨B,1,none⟩=false/\W.frozen? ⟨B,2,none⟩=false/\W.frozen? ⟨B,3,none⟩=false/\W.frozen? ⟨B,4,none⟩=false/\W.frozen? ⟨B,5,none⟩=false/\W.frozen? ⟨B,6,none⟩=false/\W.frozen? ⟨B,7,none⟩=false/\W.frozen? ⟨B,8,none⟩=false/\W.frozen? ⟨B,9,none⟩=false/\W.frozen? ⟨B,10,none⟩=false:=⟨cFz h 0,cFz h 1,cFz h 2,cFz h 3,cFz h 4,cFz h 5,cFz h 6,cFz h 7,cFz h 8,cFz h 9,cFz h 10⟩
theorem jkX {W:World} {B:Nat} {v0 v1 v2 v3 v4 v5 v6 v7 v8 v9 A C:Value} {t:TypeId} {D:Nat × Nat} (h:W.heap[B]? = some (.cells #[v0,v1,v2,v3,v4,v5,v6,v7,v8,v9,A,C] t D)):W.cell? ⟨B,0,none⟩=some v0/\W.cell? ⟨B,1,none⟩=some v1/\W.cell? ⟨B,2,none⟩=some v2/\W.cell? ⟨B,3,none⟩=some v3/\W.cell? ⟨B,4,none⟩=some v4/\W.cell? ⟨B,5,none⟩=some v5/\W.cell? ⟨B,6,none⟩=some v6/\W.cell? ⟨B,7,none⟩=some v7/\W.cell? ⟨B,8,none⟩=some v8/\W.cell? ⟨B,9,none⟩=some v9/\W.cell? ⟨B,10,none⟩=some A/\W.cell? ⟨B,11,none⟩=some C:=⟨cCc h 0,cCc h 1,cCc h 2,cCc h 3,cCc h 4,cCc h 5,cCc h 6,cCc h 7,cCc h 8,cCc h 9,cCc h 10,cCc h 11⟩
theorem tki {F:Fence} {n:Nat} {P:Program} {md:Region.Mode} {B:Array Oper} {Q:Exit->Act->World->Prop} (i:Nat) {D:Oper} {v:Value} {C:Nat} {A:Array Bool} {a:Act} {w:World} (I:B[i]? = some D)
  (M:∀ w,(execOp a.eval D).run P w=.ok (.value v) w) (h:wpAnyIn F n P md B Q C (A.setIfInBounds i true) (a.put D.dst v) w)
  (L:Region.wanted D (yielded B a.tmps)=true:=by rfl) (E:F.round=none:=by rfl) (N:∀ w,D.about P w a.eval=none:=by exact fun _=>rfl) (J:Region.noSelect B=true:=by kernel_rfl) (H:Region.free md B A i=true:=by kernel_rfl)
  (hr:(Region.ready md B A).contains i=true:=by kernel_rfl) (G:∀ c a w,Q (.panic c) (a.put D.dst v) w->Q (.panic c) a w:=by exact fun _ _ _ h=>h):wpAnyIn F n P md B Q (C+1) A a w :=
 wpAnyIn_take E I J H hr G ⟨Or.inl ⟨L,M⟩,N⟩ h
theorem tqi {F:Fence} {n:Nat} {P:Program} {md:Region.Mode} {B:Array Oper} {Q:Exit->Act->World->Prop} (i:Nat) {D:Oper} {v:Value} {C:Nat} {A:Array Bool} {a:Act} {w:World} (I:B[i]? = some D)
  (M:∀ w,(execOp a.eval D).run P w=.ok (.value v) w) (h:wpAnyIn F n P md B Q C (A.setIfInBounds i true) (a.put D.dst v) w)
  (L:Region.wanted D (yielded B a.tmps)=true:=by rfl) (E:F.round=none:=by rfl) (N:∀ w,D.about P w a.eval=none:=by exact fun _=>rfl) (J:Region.noSelect B=true:=by kernel_rfl) (H:Region.free md B A i=true:=by decide +kernel)
  (hr:(Region.ready md B A).contains i=true:=by decide +kernel) (G:∀ c a w,Q (.panic c) (a.put D.dst v) w->Q (.panic c) a w:=by exact fun _ _ _ h=>h):wpAnyIn F n P md B Q (C+1) A a w :=
 wpAnyIn_take E I J H hr G ⟨Or.inl ⟨L,M⟩,N⟩ h
theorem ta {P:Program} {md:Region.Mode} {B:Array Oper} {Q:Exit->Act->World->Prop} (i:Nat) {D:Oper} {v:Value} {C:Nat} {A:Array Bool} {a:Act} {w:World} (h:wpAny P md B Q C (A.setIfInBounds i true) (a.put D.dst v) w) (G:B[i]? = some D:=by rfl)
  (J:∀ w,(execOp a.eval D).run P w=.ok (.value v) w:=by intro w;go_simp;with_reducible rfl)
  (I:Region.wanted D (yielded B a.tmps)=true:=by rfl) (H:Region.noSelect B=true:=by kernel_rfl) (F:Region.free md B A i=true:=by kernel_rfl)
  (hr:(Region.ready md B A).contains i=true:=by kernel_rfl) (E:∀ c a w,Q (.panic c) (a.put D.dst v) w->Q (.panic c) a w:=by exact fun _ _ _ h=>h):wpAny P md B Q (C+1) A a w :=
 wpAny_take G H F hr E (Or.inl ⟨I,J⟩) h
theorem taq {P:Program} {md:Region.Mode} {B:Array Oper} {Q:Exit->Act->World->Prop} (i:Nat) {D:Oper} {v:Value} {C:Nat} {A:Array Bool} {a:Act} {w:World} (h:wpAny P md B Q C (A.setIfInBounds i true) (a.put D.dst v) w) (G:B[i]? = some D:=by rfl)
  (J:∀ w,(execOp a.eval D).run P w=.ok (.value v) w:=by intro w;go_simp;with_reducible rfl)
  (I:Region.wanted D (yielded B a.tmps)=true:=by rfl) (H:Region.noSelect B=true:=by kernel_rfl) (F:Region.free md B A i=true:=by decide +kernel)
  (hr:(Region.ready md B A).contains i=true:=by decide +kernel) (E:∀ c a w,Q (.panic c) (a.put D.dst v) w->Q (.panic c) a w:=by exact fun _ _ _ h=>h):wpAny P md B Q (C+1) A a w :=
 wpAny_take G H F hr E (Or.inl ⟨I,J⟩) h
theorem tai {F:Fence} {n:Nat} {P:Program} {md:Region.Mode} {B:Array Oper} {Q:Exit->Act->World->Prop} (i:Nat) {D:Oper} {v:Value} {C:Nat} {A:Array Bool} {a:Act} {w:World} (h:wpAnyIn F n P md B Q C (A.setIfInBounds i true) (a.put D.dst v) w) (I:B[i]? = some D:=by rfl)
  (M:∀ w,(execOp a.eval D).run P w=.ok (.value v) w:=by intro w;go_simp;with_reducible rfl)
  (L:Region.wanted D (yielded B a.tmps)=true:=by rfl) (E:F.round=none:=by rfl) (N:∀ w,D.about P w a.eval=none:=by exact fun _=>rfl) (J:Region.noSelect B=true:=by kernel_rfl) (H:Region.free md B A i=true:=by kernel_rfl)
  (hr:(Region.ready md B A).contains i=true:=by kernel_rfl) (G:∀ c a w,Q (.panic c) (a.put D.dst v) w->Q (.panic c) a w:=by exact fun _ _ _ h=>h):wpAnyIn F n P md B Q (C+1) A a w :=
 wpAnyIn_take E I J H hr G ⟨Or.inl ⟨L,M⟩,N⟩ h
theorem rd {P:Program} {md:Region.Mode} {C:Array Oper} {Q:Exit->Act->World->Prop} (rs:List Nat) {B:Nat} {A:Array Bool} {a:Act} {w:World} (h:AllReady P md C Q B A a w rs) (hr:Region.ready md C A=rs:=by kernel_rfl) (D:rs≠[]:=by simp):wpAny P md C Q (B+1) A a w:=wpAny_ready hr D h
theorem rq {P:Program} {md:Region.Mode} {C:Array Oper} {Q:Exit->Act->World->Prop} (rs:List Nat) {B:Nat} {A:Array Bool} {a:Act} {w:World} (h:AllReady P md C Q B A a w rs) (hr:Region.ready md C A=rs:=by decide +kernel) (D:rs≠[]:=by simp):wpAny P md C Q (B+1) A a w:=wpAny_ready hr D h
theorem rdi {F:Fence} {n:Nat} {P:Program} {md:Region.Mode} {C:Array Oper} {Q:Exit->Act->World->Prop} (rs:List Nat) {B:Nat} {A:Array Bool} {a:Act} {w:World} (h:AllReadyIn F n P md C Q B A a w rs) (hr:Region.ready md C A=rs:=by kernel_rfl) (D:rs≠[]:=by simp):wpAnyIn F n P md C Q (B+1) A a w:=wpAnyIn_ready hr D h
theorem rqi {F:Fence} {n:Nat} {P:Program} {md:Region.Mode} {C:Array Oper} {Q:Exit->Act->World->Prop} (rs:List Nat) {B:Nat} {A:Array Bool} {a:Act} {w:World} (h:AllReadyIn F n P md C Q B A a w rs) (hr:Region.ready md C A=rs:=by decide +kernel) (D:rs≠[]:=by simp):wpAnyIn F n P md C Q (B+1) A a w:=wpAnyIn_ready hr D h
def jwZ {α:Type} (N:Nat) (t:TypeId) (cs:α->Array Value) (T:α->Array Value) (s:Nat) (x:α) (a':Act) (W:World):Prop :=
 ∃ Bx,N<=Bx/\W.heap[Bx]? = some (.cells (cs x) t (0,0))/\a' = { tmps:=(T x).setIfInBounds s (.pointer (some ⟨Bx,0,none⟩)),defers:=[] }
theorem jqk {α:Type} {N C:Nat} {t:TypeId} {B:α->Array Value} {T:α->Array Value} {s:Nat} (x:α) (D:Act):OwnFrom C (fun (_:Unit) W=>jwZ N t B T s x D W):=fun u X Y row I H hr=>by
 obtain⟨A,E,F,G⟩:=I;exact⟨A,E,jg6 C A (fun _=>B x) t u X Y row F H hr,G⟩
theorem jgH {β:Type} (C n:Nat):OwnFrom C (fun (_:β) W=>n<=W.heap.size):=fun _ _ _ _ B A _=>Nat.le_trans B A.size
theorem jeI {α:Type} {P:Program} {g:Operand} {L:Array Tmp} {assign body:Code} {Q:Exit->Act->World->Prop} {a:Act} {w:World} (t:TypeId) (T:α->Array Value) (s:Nat)
  {gf:Nat} {lb:Array Value} (n:a.eval g=.func (.func gf) #[] lb) (h:∀ args w,(callFunc gf args).run P w=.ok (.enter gf args) w)
  {B:α->Array Value} {d:Nat} {xs:List α} {N:Nat} {w0:World} (R:SeqStopsK Fence.wide 8 P gf lb B (Below d) (fun o=>o=xs) (fun A=>A <+: xs) N w0)
  (M:d<=w.heap.size) (X:Bw w0 w) (b:∀ x,(B x).size=L.size)
  (I:List α->World->Prop) (S:Code->List α->World->Prop) (m:OwnFrom w.heap.size I) (U:∀ c,OwnFrom w.heap.size (S c)) (i:I [] w)
  (C:∀ (l:Nat) (A:List α) (x:α) (W:World) (K:Act->World->Prop),I A W->w.heap.size<=W.heap.size ->
   (I A (W.alloc (.cells (T x) t))->K { tmps:=((L.zip (B x)).foldl (fun t (p,v)=>t.setIfInBounds p v) a.tmps).setIfInBounds s (.pointer (some ⟨W.heap.size,0,none⟩)),defers:=[] } (W.alloc (.cells (T x) t))) ->
   assign.wpIn (Fence.wide.inRound l) 7 P (Exit.then K (fun _ _ _=>False)) { tmps:=(L.zip (B x)).foldl (fun t (p,v)=>t.setIfInBounds p v) a.tmps,defers:=[] } W)
  (F:∀ (l:Nat) (A:List α) (x:α) (W:World) (J:Nat),I A W->w.heap.size<=J->J<W.heap.size->W.heap[J]? = some (.cells (T x) t (0,0))->A.length<N ->
   body.wpIn (Fence.wide.inRound l) 7 P (ownPostG w.heap.size (Below d) I S (A++[x]) W) { tmps:=((L.zip (B x)).foldl (fun t (p,v)=>t.setIfInBounds p v) a.tmps).setIfInBounds s (.pointer (some ⟨J,0,none⟩)),defers:=[] } W)
  (G:∀ (D:Nat) (W:World),w.heap.size<=D->I xs W->W.heap[D]? = some (.deferred (some []))->Q .normal { a with defers:={ target:=.collected D,args:=#[] }::a.defers } W)
  (H:∀ (D:Nat) (c:Code) (A:List α) (W:World),w.heap.size<=D->A <+: xs->S c A W->W.heap[D]? = some (.deferred (some []))->c.wp P Q { a with defers:={ target:=.collected D,args:=#[] }::a.defers } W) :
  (Code.rangeFunc g L assign body).wp P Q a w :=
 jku n h R M X b (fun A W=>I A W/\w.heap.size<=W.heap.size) S (m.and (jgH _ _)) U ⟨i,Nat.le_refl _⟩
  (jwZ w.heap.size t T (fun x=>(L.zip (B x)).foldl (fun t (p,v)=>t.setIfInBounds p v) a.tmps) s) jqk
  (fun l A x W K E hK=>C l A x W K E.1 E.2 (fun Y=>hK _ _ ((KeepsOthers.alloc _ _).from _) ((Below.refl _ W).alloc (Nat.le_trans M E.2) _) ⟨Y,by simp;omega⟩ ⟨W.heap.size,E.2,World.alloc_heap_new _ _,rfl⟩))
  (fun l A x r W E V Z=>by
   obtain⟨J,j,f,rfl⟩:=V;refine wpIn_mono (F l A x W J E.1 j (Array.getElem?_eq_some_iff.1 f).1 f Z) ?_;rintro e u q O
   cases e with
   | normal=>exact⟨O.1,O.2.1,O.2.2,Nat.le_trans E.2 O.1.size⟩
   | _=>exact O)
  (fun D W k E hK=>G D W k E.1 hK) H
theorem jap (P:Program) {t e:TypeId} {z:Value} {size D:Nat} (Y:TypeId) (ht:P.underlying t=some (.slice e)) (H:(P.info? e).map (fun i=>(i.zero,i.size,i.bytes))=some (some z,size,D)) (V:z.cells.size=size) (R:0<size)
  {W w0:World} {B C:Nat} {v:Value} {n:Nat} {xs:List Value} (E:W.ownsRow C e size v n xs) (b:Below B w0 W) (M:B<=C) (N:C<=W.heap.size) (A:List Value) (h:A.length=size) (a:∀ u∈A,u.oneCell'=true)
  (l:n<4294967281) (O:D<=4096) :
  ∃ g cap F,(Builtin.append_ #[t,t] Y #[v,.slice (some ⟨W.heap.size,0,none⟩) 1 1]).run P (W.alloc (.cells A.toArray e))=.ok (.slice (some ⟨g,0,none⟩) (n+1) cap) F /\
   F.ownsRow C e size (.slice (some ⟨g,0,none⟩) (n+1) cap) (n+1) (xs++A)/\Below B w0 F/\W.heap.size<F.heap.size/\(∀ k,k<C->F.heap[k]? = W.heap[k]?)/\(∀ k,k<W.heap.size->some k≠v.ownBlock->F.heap[k]? = W.heap[k]?):=by
 obtain⟨i0,c,S,T,U⟩:=info_parts H
 have G:∀ j u,A[j]? = some u->(W.alloc (.cells A.toArray e)).cell? ((⟨W.heap.size,0,none⟩:Addr).add j)=some u:=fun j u d=>by
  have:=cCc (World.alloc_heap_new W (.cells A.toArray e)) j;have Z:(⟨W.heap.size,0,none⟩:Addr).add j=⟨W.heap.size,j,none⟩:=by unfold Addr.add;split<;>simp_all
  rw[Z,this];simpa using d
 obtain⟨v',F,hr,X,L,f⟩:=run_append_own (P:=P) (W.alloc (.cells A.toArray e)) C t Y e i0 z size D ht c S T U V R v n xs (E.alloc _) ⟨W.heap.size,0,none⟩ 1 1 A (by omega) G a (by unfold maxLen;omega) (by have:=Nat.mul_le_mul (show n+1<=4294967281 by omega) O;omega) (by simp;omega);obtain⟨g,cap,rfl⟩:=ownsRow_succ X;have J:∀ k,v.ownBlock=some k->C<=k:=fun k I=>(E.lt k I).1
 refine⟨g,cap,F,hr,X,(b.alloc (by omega) _).grown L (by simp;omega) (fun k I=>Nat.le_trans M (J k I)),by have:=L.size;simp at this;omega,fun k I=>?_,fun k I Q=>?_⟩
 ·exact (L.block k (by simp;omega) (fun e=>by have:=J k e.symm;omega)).trans (Below.heap_alloc _ _ _ (by omega))
 ·exact (L.block k (by simp;omega) Q).trans (Below.heap_alloc _ _ _ I)
theorem jeD {w:World} {A e size n:Nat} {v:Value} {xs:List Value} (h:w.ownsRow A e size v n xs):SlAt w.heap.size w v n xs:=by
 rcases h.2 with⟨rfl,rfl⟩ | ⟨g,cap,C,rfl,G,B,F,D,E,ht⟩
 ·exact .inl ⟨rfl,rfl,List.eq_nil_of_length_eq_zero (by simpa using h.1)⟩
 ·refine .inr ⟨g,0,cap,rfl,(Array.getElem?_eq_some_iff.1 B).1,fun i H=>?_⟩
  rw[Nat.zero_add,cCc B i,<- ht,List.getElem?_take_of_lt (by have:=h.1;omega)];simp
theorem jx9 (w:World) (v0:Value) (A:TypeId):∃ W,w.alloc (.cells #[v0] A)=W/\Boxed W w.heap.size A v0/\Bw w W/\W.heap.size=w.heap.size+1 :=
 ⟨_,rfl,Boxed.new w A v0,(Below.refl _ w).alloc (Nat.le_refl _) _,by simp⟩
theorem jya (w:World) (v0:Value) (A:TypeId) (v1:Value) (B:TypeId):∃ W,(w.alloc (.cells #[v0] A)).alloc (.cells #[v1] B)=W/\Boxed W w.heap.size A v0/\Boxed W (w.heap.size+1) B v1/\Below w.heap.size w W/\W.heap.size=w.heap.size+2:=by
 obtain⟨X,rfl,E,D,F⟩:=jx9 w v0 A;have C:=Boxed.new (w.alloc (.cells #[v0] A)) B v1;rw[F] at C;exact⟨_,rfl,E.alloc _,C,D.alloc D.size _,by simp⟩
theorem jxS (w:World) (v0:Value) (A:TypeId) (v1:Value) (B:TypeId) (v2:Value) (C:TypeId):∃ W,((w.alloc (.cells #[v0] A)).alloc (.cells #[v1] B)).alloc (.cells #[v2] C)=W/\Boxed W w.heap.size A v0/\Boxed W (w.heap.size+1) B v1/\Boxed W (w.heap.size+2) C v2/\Bw w W/\W.heap.size=w.heap.size+3:=by
 obtain⟨X,rfl,F,G,E,H⟩:=jya w v0 A v1 B;have D:=Boxed.new ((w.alloc (.cells #[v0] A)).alloc (.cells #[v1] B)) C v2;rw[H] at D;exact⟨_,rfl,F.alloc _,G.alloc _,D,E.alloc E.size _,by simp⟩
theorem jyb (w:World) (v0:Value) (A:TypeId) (v1:Value) (B:TypeId) (v2:Value) (C:TypeId) (v3:Value) (D:TypeId):∃ W,(((w.alloc (.cells #[v0] A)).alloc (.cells #[v1] B)).alloc (.cells #[v2] C)).alloc (.cells #[v3] D)=W/\Boxed W w.heap.size A v0/\Boxed W (w.heap.size+1) B v1/\Boxed W (w.heap.size+2) C v2/\Boxed W (w.heap.size+3) D v3/\Bw w W/\W.heap.size=w.heap.size+4:=by
 obtain⟨X,rfl,G,H,I,F,J⟩:=jxS w v0 A v1 B v2 C;have E:=Boxed.new (((w.alloc (.cells #[v0] A)).alloc (.cells #[v1] B)).alloc (.cells #[v2] C)) D v3;rw[J] at E;exact⟨_,rfl,G.alloc _,H.alloc _,I.alloc _,E,F.alloc F.size _,by simp⟩
theorem jtJ {W:World} {B D:Nat} {t:TypeId} {v:Value} (h:Boxed W B t v) {o:Obj} (hK:W.heap[D]? = some o) (C:o.isCells=false) (A:Obj):Boxed (W.putObj D A) B t v :=
 h.kept (grownBy_putObj' W D A) (fun e=>by cases e;have:=(show W.heap[B]? = _ from h).symm.trans hK;cases this;cases C)
theorem jtX {W:World} {D:Nat} (hK:W.heap[D]? = some (.deferred (some []))) (a:Addr) (v:Value):(W.setCell a v).heap[D]? = some (.deferred (some [])):=(KeepsOthers.setCell W a v).same D _ hK rfl
theorem jbp {w w':World} {A e size n:Nat} {v:Value} {xs:List Value} (h:w.ownsRow A e size v n xs) (F:∀ j,A<=j->j<w.heap.size->w'.heap[j]? = w.heap[j]?):w'.ownsRow A e size v n xs:=by
 refine⟨h.1,?_⟩;rcases h.2 with E | ⟨g,cap,B,G,C,D,r⟩
 ·exact .inl E
 ·exact .inr ⟨g,cap,B,G,C,(F g C (Array.getElem?_eq_some_iff.1 D).1).trans D,r⟩
theorem ja6 {P:Program} {w:World} {A:Array Oper} {rest:List Oper} {o:Oper} {a:Act} {Q:Exit->Act->World->Prop} (B:o.guard=none) (s x:Operand) (t:TypeId)
  (D:o.op=.call { callee:=.builtin .append,args:=#[s,x],argTypes:=#[t,t] }) {v C v':Value} {w':World} (E:a.eval s=v) (F:a.eval x=C)
  (hr:(Builtin.append_ #[t,t] o.type #[v,C]).run P w=.ok v' w') (h:wpList P A Q rest (a.put o.dst v') w'):wpList P A Q (o::rest) a w:=by
 refine wpList_plain B fun _ hK=>?_
 unfold Oper.wp execOp;simp only[D,resolve,invoke,builtin,Sem.run_bind,Sem.run_pure,Result.andThen_ok,List.map_toArray,List.map_cons,List.map_nil,E,F,hr];exact hK _ _ h
theorem jiA {F:Fence} {n:Nat} {P:Program} {w:World} {B:Array Oper} {rest:List Oper} {o:Oper} {a:Act} {Q:Exit->Act->World->Prop} (E:o.guard=none) (s x:Operand) (t:TypeId)
  (A:o.op=.call { callee:=.builtin .append,args:=#[s,x],argTypes:=#[t,t] }) {v G v':Value} {w':World} (H:a.eval s=v) (I:a.eval x=G)
  (hr:(Builtin.append_ #[t,t] o.type #[v,G]).run P w=.ok v' w') (h:wpListIn F n P B Q rest (a.put o.dst v') w'):wpListIn F n P B Q (o::rest) a w:=by
 refine wpListIn_plain E fun K C=>?_
 unfold Oper.wpIn;refine⟨?_,?_⟩
 ·simp[Oper.about,A,resolve,Target.leads,Sem.run_pure]
 ·rw[Oper.semAt_plain F _ _ (by rw[A];intro c D;cases D)]
  simp[execOp,A,resolve,invoke,builtin,H,I,hr,Result.andThen];exact C _ _ h
end
def jck {σ α:Type} (f:σ->α->Option σ) (s:σ) (l:List α):Option σ:=l.foldl (fun s x=>s.bind (f · x)) (some s)
theorem jhx {σ α:Type} (f:σ->α->Option σ) (l:List α):l.foldl (fun s x=>s.bind (f · x)) (none:Option σ)=none:=by
 induction l with
 | nil=>rfl
 | cons x xs ih=>exact ih
theorem jhw {σ α:Type} (f:σ->α->Option σ) (s:σ):jck f s []=some s:=rfl
theorem joU {σ α:Type} (f:σ->α->Option σ) (s:σ) (l:List α) (x:α):jck f s (l++[x])=(jck f s l).bind (f · x):=by simp[jck]
theorem jaf {α:Type} {l:List α} {k:Nat} {x:α} (h:l[k]? = some x):l.take (k+1)=l.take k++[x]:=by rw[List.take_add_one,h];rfl
theorem jiO {σ α:Type} {f:σ->α->Option σ} {s A:σ} {l:List α} {k:Nat} {x:α} (h:l[k]? = some x) (B:jck f s (l.take k)=some A):jck f s (l.take (k+1))=f A x:=by
 rw[jaf h,joU,B];rfl
theorem jgA {σ α:Type} (f:σ->α->Option σ) (s:σ) (l m:List α):jck f s (l++m)=(jck f s l).bind (fun s'=>jck f s' m):=by
 unfold jck;rw[List.foldl_append]
 cases l.foldl (fun s x=>s.bind (f · x)) (some s) with
 | none=>exact jhx f m
 | some s'=>rfl
theorem jiN {σ α:Type} {f:σ->α->Option σ} {s:σ} {l:List α} {k:Nat} (h:jck f s (l.take k)=none):jck f s l=none:=by
 rw[<- List.take_append_drop k l,jgA,h];rfl
theorem jdD {σ α:Type} (f:σ->α->Option σ) (s:σ) (x:α) (l:List α):jck f s (x::l)=(f s x).bind (fun s'=>jck f s' l):=by
 have:=jgA f s [x] l;simpa [jck] using this
theorem jcC {α:Type} (enc:α->List Value) (k:Nat) (B:∀ x,(enc x).length=k) (l:List α) (j i:Nat) (x:α) (A:l[j]? = some x) (C:i<k):(l.flatMap enc)[j*k+i]? = (enc x)[i]? := by
 induction l generalizing j with
 | nil=>simp at A
 | cons y ys ih =>
  cases j with
  | zero =>
   simp at A;subst A;simp only[List.flatMap_cons,Nat.zero_mul,Nat.zero_add];rw[List.getElem?_append_left (by rw[B];exact C)]
  | succ j =>
   simp only[List.flatMap_cons];rw[List.getElem?_append_right (by rw[B,Nat.succ_mul];omega),B,show (j+1)*k+i-k=j*k+i by rw[Nat.succ_mul];omega];exact ih j (by simpa using A)
theorem jfJ {α:Type} (enc:α->List Value) (k:Nat) (A:∀ x,(enc x).length=k) (l:List α):(l.flatMap enc).length=l.length*k:=by
 induction l with
 | nil=>simp
 | cons y ys ih=>simp[List.flatMap_cons,A,ih,Nat.succ_mul];omega
theorem SlAt.elems {α:Type} {enc:α->List Value} {k:Nat} (C:∀ x,(enc x).length=k) {D:Nat} {w:World} {a:Option Addr} {len cap:Nat} {l:List α} (h:SlAt D w (.slice a len cap) l.length (l.flatMap enc)) :
  len=l.length/\∀ j x,l[j]? = some x->∃ b off,a=some ⟨b,off,none⟩/\b<D/\∀ i,i<k->w.cell? ⟨b,off+j*k+i,none⟩=(enc x)[i]? := by
 rcases h with⟨h,E,_⟩ | ⟨b,off,A,e,hb,G⟩
 ·obtain⟨rfl,rfl,rfl⟩:a=none/\len=0/\cap=0:=by simpa using h
  have:l=[]:=by simpa using E
  subst this;exact⟨rfl,fun i x B=>by simp at B⟩
 ·obtain⟨rfl,rfl,rfl⟩:a=some ⟨b,off,none⟩/\len=l.length/\cap=A:=by simpa using e
  refine⟨rfl,fun j x B=>⟨b,off,rfl,hb,fun i H=>?_⟩⟩;have I:=(List.getElem?_eq_some_iff.1 B).1;have F:j*k+i<l.length*k:=by have:=Nat.mul_le_mul_right k (show j+1<=l.length by omega);rw[Nat.succ_mul] at this;omega
  rw[Nat.add_assoc,G (j*k+i) (by rw[jfJ enc k C];exact F),jcC enc k C l j i x B H]
section
open Go.ChangeShapes Go.WideShapes Go.Deep
section
variable {H:Type} {enc:TypeId × Value->H} {P:Program}
theorem jkp (O:laidOutB P=true) {W J:World} {L:Nat->Bool} (hb:Bw W J):∀ (A:List TypeId) (E:List Value) (D:List (DataW H)) (C:List MemPlace),
  (∀ t∈A,P.readableRec t=true/\t<P.types.size)->(∀ p∈C,p.block<W.heap.size/\L p.block=true) ->
  DataW.TrodAll enc P W 0 (fun _=>true) true A E D C->DataW.TrodAll enc P J 0 L true A E D C:=by
 intro A
 induction A with
 | nil=>intro E D C _ _ h;obtain⟨N,rfl,rfl⟩:=trodAll_nil h;rw[N];exact trodAll_mk0
 | cons t A ih =>
  intro E D C hr G h;obtain⟨v,I,d,F,p,q,rfl,rfl,rfl,M,Q⟩:=trodAll_cons h;have ht:=hr t List.mem_cons_self;refine trodAll_cons_mk (WideElems.Trod_stays O ht.1 ht.2 M (fun x B=>hb.same (G x (List.mem_append_left _ B)).1) (fun x B=>(G x (List.mem_append_left _ B)).2)) ?_;exact ih I F q (fun t ht=>hr t (List.mem_cons_of_mem _ ht)) (fun x B=>G x (List.mem_append_right _ B)) Q
theorem jnM {f:Func} {s:ChangeSpec} {W L:World} {args:Array Value} {E M:List (DataW H)} {A:List MemPlace} {Q:TypeId} (S:laidOutB P=true)
  (hr:∀ t∈f.params.toList,P.readableRec t=true/\t<P.types.size) (O:s.vars=[]) (F:DataW.Whole enc P f.params.toList s.vars false W args.toList E M A)
  (J:s.fn H (E++M) = { results:=[.lit (.bool true)],args:=E }) (C:f.resultTypes=#[Q]) (hb:P.underlying Q=some .bool) (N:Bw W L) :
  s.post enc P f false true false false W args (.bool true) L:=by
 have B:∀ p∈A,p.block<W.heap.size:=fun p T=>F.lt p T
 have I:=F;obtain⟨p,q,R,G,rfl,_,_⟩:=I;rw[O] at G;obtain⟨rfl,rfl⟩:=trodVars_none G;rw[List.append_nil] at B F;refine⟨E,[],p,[],p,[],F,?_,?_,?_,World.keptBut_mono (fun x D=>⟨D,Or.inr (Or.inl D)⟩) (N.frame (· ∈ p)),fun h=>by cases h⟩
 ·rw[J,C]
  exact trodAll_cons_mk (shut_bool hb _) trodAll_mk0
 ·rw[J]
  exact jkp S N _ _ _ _ hr (fun x D=>⟨B x D,by simpa using B x D⟩) R
 ·rw[J,O]
  exact G
variable {w:World} {base:Nat} {spare:Nat->Bool} {held:Bool}
theorem jg0 {a:Addr} (h:a.spot=none) (n:Nat):a.add n=⟨a.block,a.off+n,none⟩:=by
 obtain⟨b,o,s⟩:=a;dsimp only at h;subst h;unfold Addr.add;split
 ·simp_all
 ·rfl
end
end
theorem jbS (P:Program) {t e:TypeId} {z:Value} {size D:Nat} (r:TypeId) (ht:P.underlying t=some (.slice e)) (H:(P.info? e).map (fun i=>(i.zero,i.size,i.bytes))=some (some z,size,D)) (h:z.cells.size=size) (Y:0<size)
  {W w0:World} {B A:Nat} {v q:Value} {n m:Nat} {xs I:List Value} (C:W.ownsRow A e size v n xs) (l:Below B w0 W) (Q:B<=A) (F:A<=W.heap.size) (M:SlAt W.heap.size W q m I) (hl:I.length=m*size) (w:∀ u∈I,u.oneCell'=true)
  (hn:n<2147483648) (hm:m<2147483648) (R:D<=4096) :
  ∃ v' E,(Builtin.append_ #[t,t] r #[v,q]).run P W=.ok v' E/\E.ownsRow A e size v' (n+m) (xs++I)/\Below B w0 E/\W.heap.size<=E.heap.size/\(∀ k,k<A->E.heap[k]? = W.heap[k]?)/\(∀ k,k<W.heap.size->some k≠v.ownBlock->E.heap[k]? = W.heap[k]?):=by
 obtain⟨i0,T,Z,d,f⟩:=info_parts H;rcases M with⟨rfl,rfl,rfl⟩ | ⟨b,off,cap,rfl,hb,y⟩
 ·refine⟨v,W,?_,by simpa using C,l,Nat.le_refl _,fun _ _=>rfl,fun _ _ _=>rfl⟩
  obtain⟨a,c,rfl⟩:∃ a c,v=.slice a n c:=by
   rcases C.2 with⟨rfl,rfl⟩ | ⟨g,cap,O,rfl,_⟩
   ·exact⟨none,0,rfl⟩
   ·exact⟨_,cap,rfl⟩
  rcases C.2 with⟨S,U⟩ | ⟨g,cap,O,S,hg,aa,V,_⟩
  ·obtain⟨rfl,_,rfl⟩:a=none/\n=0/\c=0:=by simpa using S
   subst U;simp[Builtin.append_,run_underlying ht,sizeOf,typeInfo,T,Builtin.lenOf,Builtin.firstCells]
  ·obtain⟨rfl,rfl⟩:a=some ⟨g,0,none⟩/\c=cap:=by simpa using S
   simp[Builtin.append_,run_underlying ht,sizeOf,typeInfo,T,Builtin.lenOf,Builtin.firstCells,V,storeCells]
 ·have G:∀ j u,I[j]? = some u->W.cell? ((⟨b,off,none⟩:Addr).add j)=some u:=fun j u p=>by
   have s:(⟨b,off,none⟩:Addr).add j=⟨b,off+j,none⟩:=by unfold Addr.add;split<;>simp_all
   rw[s,y j (List.getElem?_eq_some_iff.1 p).1,p]
  have o:=Nat.mul_le_mul (show n+m<=4294967296 by omega) R;obtain⟨v',E,hr,x,N,h4⟩:=run_append_own (P:=P) W A t r e i0 z size D ht T Z d f h Y v n xs C ⟨b,off,none⟩ m cap I hl G w (by unfold maxLen;omega) (by omega) F;have L:∀ k,v.ownBlock=some k->A<=k:=fun k J=>(C.lt k J).1
  exact⟨v',E,hr,x,l.grown N (by omega) (fun k J=>Nat.le_trans Q (L k J)),N.size,fun k J=>N.block k (by omega) (fun e=>by have:=L k e.symm;omega),fun k J X=>N.block k J X⟩
theorem hSk {W:World} {B i:Nat} {c:Array Value} {t:TypeId} {C:Nat × Nat} (h:W.heap[B]? = some (.cells c t C)) (v:Value):(W.setCell ⟨B,i,none⟩ v).heap[B]? = some (.cells (c.setIfInBounds i v) t C):=by
 obtain⟨A,D⟩:=Array.getElem?_eq_some_iff.1 h;show (W.heap.modify B _)[B]? = _;rw[Array.getElem?_eq_getElem (by rw[Array.size_modify];exact A),Array.getElem_modify_self,D];rfl
theorem jbq {W:World} {B:Nat} {x y u v:Value} {t:TypeId} (h:W.heap[B]? = some (.cells #[x,y] t (0,0))):((W.setCell ⟨B,0,none⟩ u).setCell ⟨B,1,none⟩ v).heap[B]? = some (.cells #[u,v] t (0,0)):=hSk (hSk h u) v
theorem SlAt.drew {n m:Nat} {w:World} {B:Value} {A:List Value} (h:SlAt n w B m A):SlAt n w.drew B m A:=h
structure WIn (Inv:World->Prop) where
 world:World
 ok:Inv world
theorem jtN {A:World->Prop} {B:Nat} {v0 v1 v2 v3 v4 v5 v6 v7 v8 v9:Value} {t:TypeId} {C:Nat × Nat} (h:∀ X:WIn A,X.world.heap[B]? = some (.cells #[v0,v1,v2,v3,v4,v5,v6,v7,v8,v9] t C)):(∀ X:WIn A,X.world.cell? ⟨B,0,none⟩=some v0)/\(∀ X:WIn A,X.world.cell? ⟨B,1,none⟩=some v1)/\(∀ X:WIn A,X.world.cell? ⟨B,2,none⟩=some v2)/\(∀ X:WIn A,X.world.cell? ⟨B,3,none⟩=some v3)/\(∀ X:WIn A,X.world.cell? ⟨B,4,none⟩=some v4)/\(∀ X:WIn A,X.world.cell? ⟨B,5,none⟩=some v5)/\(∀ X:WIn A,X.world.cell? ⟨B,6,none⟩=some v6)/\(∀ X:WIn A,X.world.cell? ⟨B,7,none⟩=some v7)/\(∀ X:WIn A,X.world.cell? ⟨B,8,none⟩=some v8)/\(∀ X:WIn A,X.world.cell? ⟨B,9,none⟩=some v9):=⟨fun X=>cCc (h X) 0,fun X=>cCc (h X) 1,fun X=>cCc (h X) 2,fun X=>cCc (h X) 3,fun X=>cCc (h X) 4,fun X=>cCc (h X) 5,fun X=>cCc (h X) 6,fun X=>cCc (h X) 7,fun X=>cCc (h X) 8,fun X=>cCc (h X) 9⟩
theorem jao {P:Program} (A:World->Prop) {G:Nat} {Q:Exit->Act->World->Prop} {a:Act} {w:World} {l:List Oper} (F:P.follows .mixedOrders=true) (D:Region.lexB .any l.toArray=true) (E:A w.drew)
  (h:wpQuiet P l.toArray (fun w'=>∃ X:WIn A,w'=X.world) (fun B=>∀ w',(∃ X:WIn A,w'=X.world)->Q .normal B w') l a):(Code.region G l.toArray true).wp P Q a w :=
 wp_region_quiet (C:=fun w'=>∃ X:WIn A,w'=X.world) F D ⟨⟨_,E⟩,rfl⟩ (by simpa using h)
theorem jmo {P:Program} {A:World->Prop} {f:FuncId} {args:Array Value} {W:World} {v:Value} {R:World->World->Prop} (C:∀ B,R W B->A B)
  (h:Calls P f args W fun e w'=>e=.returned v/\R W w'):Calls P f args W fun e w'=>e=.returned v/\∃ Y:WIn A,w'=Y.world :=
 h.mono fun _ B ⟨D,hr⟩=>⟨D,⟨⟨B,C B hr⟩,rfl⟩⟩
theorem jah {P:Program} {A:World->Prop} {f:FuncId} {args:Array Value} {X:WIn A} {v:Value} (C:∀ W B,A W->Bw W B->A B)
  (h:Calls P f args X.world fun e w'=>e=.returned v/\Below X.world.heap.size X.world w'):Calls P f args X.world fun e w'=>e=.returned v/\∃ Y:WIn A,w'=Y.world :=
 jmo (R:=fun W B=>Bw W B) (fun B hr=>C _ B X.ok hr) h
theorem jf5 {W A:World} (hb:Bw W A):(∀ b o,b<W.heap.size->A.cell? ⟨b,o,none⟩=W.cell? ⟨b,o,none⟩)/\(∀ b o,b<W.heap.size->A.frozen? ⟨b,o,none⟩=W.frozen? ⟨b,o,none⟩) :=
 ⟨fun b o h=>hb.cell (p:=⟨b,o,none⟩) h,fun b o h=>hb.frozen (p:=⟨b,o,none⟩) h⟩
theorem jac {P:Program} {Q:Exit->Act->World->Prop} {a:Act} {w:World} {c rest:Code} (l:Nat) (B:findLabel c l=some rest)
  (first:c.wp P (Exit.jump l (fun a w=>rest.wp P (Exit.noGoto Q) a w) Q) a w):(Code.scope c).wp P Q a w :=
 wp_scope_jumps l _ (fun _ _=>0) B first (fun _ _ A=>Code.wp_mono (fun e _ _ h=>by cases e<;>first | exact h | exact (h:False).elim) A)
theorem jad {l:Nat} {J:Act->World->Prop} {Q:Exit->Act->World->Prop} {a:Act} {w:World}:Exit.jump l J Q .ret a w=Q .ret a w:=rfl
theorem jab (w:World) (A:Array Value) (B:TypeId):∃ W,w.alloc (.cells A B)=W/\W.heap[w.heap.size]? = some (.cells A B (0,0))/\Below w.heap.size w W/\W.heap.size=w.heap.size+1 :=
 ⟨_,rfl,World.alloc_heap_new _ _,(Below.refl _ w).alloc (Nat.le_refl _) _,by simp⟩
theorem jas (w:World) (B:Array Value) (C:TypeId) (c1:Array Value) (D:TypeId):∃ W,(w.alloc (.cells B C)).alloc (.cells c1 D)=W/\W.heap[w.heap.size]? = some (.cells B C (0,0))/\W.heap[w.heap.size+1]? = some (.cells c1 D (0,0))/\Below w.heap.size w W/\W.heap.size=w.heap.size+2:=by
 obtain⟨X,rfl,F,G,H⟩:=jab w B C;obtain⟨Y,rfl,E,A,I⟩:=jab (w.alloc (.cells B C)) c1 D;rw[H] at E;exact⟨_,rfl,(A.block _ (by omega)).trans F,E,G.trans (A.mono (by omega)),by omega⟩
theorem jbF (w:World) (B:Array Value) (C:TypeId) (c1:Array Value) (D:TypeId) (c2:Array Value) (E:TypeId):∃ W,((w.alloc (.cells B C)).alloc (.cells c1 D)).alloc (.cells c2 E)=W/\W.heap[w.heap.size]? = some (.cells B C (0,0))/\W.heap[w.heap.size+1]? = some (.cells c1 D (0,0))/\W.heap[w.heap.size+2]? = some (.cells c2 E (0,0))/\Below w.heap.size w W/\W.heap.size=w.heap.size+3:=by
 obtain⟨X,rfl,G,H,I,J⟩:=jas w B C c1 D;obtain⟨Y,rfl,F,A,L⟩:=jab ((w.alloc (.cells B C)).alloc (.cells c1 D)) c2 E;rw[J] at F;exact⟨_,rfl,(A.block _ (by omega)).trans G,(A.block _ (by omega)).trans H,F,I.trans (A.mono (by omega)),by omega⟩
theorem known {n:Nat} {W A:World} {b:Nat} {o:Obj} (hb:Below n W A) (B:W.heap.size<=n) (h:W.heap[b]? = some o):A.heap[b]? = some o:=(hb.block _ (Nat.lt_of_lt_of_le (Array.getElem?_eq_some_iff.1 h).1 B)).trans h
section
open Go.ChangeShapes Go.WideShapes Go.Deep
def U64 (n:Int):Prop:=0<=n/\n<=18446744073709551615
def SlE {α:Type} (enc:α->List Value) (k:Nat) (n₀:Nat) (w:World) (a:Option Addr) (len:Nat) (l:List α):Prop :=
 len=l.length/\∀ j x,l[j]? = some x->∃ b off,a=some ⟨b,off,none⟩/\b<n₀/\∀ i,i<k->w.cell? ⟨b,off+j*k+i,none⟩=(enc x)[i]?
section
variable {α:Type} {enc:α->List Value} {k n₀ n₁:Nat} {w A B:World} {a:Option Addr} {len cap:Nat} {l:List α}
theorem SlE.below (h:Below n₀ A B) (C:SlE enc k n₀ A a len l):SlE enc k n₀ B a len l :=
 ⟨C.1,fun j x E=>let ⟨b,off,e,hb,hc⟩:=C.2 j x E;⟨b,off,e,hb,fun i D=>(h.cell (p:=⟨b,off+j*k+i,none⟩) hb).trans (hc i D)⟩⟩
theorem SlE.mono (B:n₀<=n₁) (A:SlE enc k n₀ w a len l):SlE enc k n₁ w a len l :=
 ⟨A.1,fun j x C=>let ⟨b,off,e,hb,hc⟩:=A.2 j x C;⟨b,off,e,Nat.lt_of_lt_of_le hb B,hc⟩⟩
theorem SlE.go (C:SlE enc k A.heap.size A a len l) (h:Bw A B):SlE enc k B.heap.size B a len l:=(C.below h).mono h.size
theorem SlE.of_at (A:∀ x,(enc x).length=k) (h:SlAt n₀ w (.slice a len cap) l.length (l.flatMap enc)):SlE enc k n₀ w a len l:=SlAt.elems A h
theorem SlE.nil:SlE enc k n₀ w a 0 []:=⟨rfl,fun j x h=>by simp at h⟩
theorem SlE.drew (A:SlE enc k n₀ w a len l):SlE enc k n₀ w.drew a len l:=A
theorem SlE.take (B:SlE enc k n₀ w a len l) (m:Nat) (C:m<=len):SlE enc k n₀ w a m (l.take m) :=
 ⟨by have:=B.1;simp;omega,fun j x A=>B.2 j x (by rw[List.getElem?_take] at A;split at A;exact A;cases A)⟩
theorem SlE.drop {b off:Nat} (A:SlE enc k n₀ w (some ⟨b,off,none⟩) len l) (m:Nat):SlE enc k n₀ w (some ⟨b,off+m*k,none⟩) (len-m) (l.drop m) :=
 ⟨by have:=A.1;simp;omega,fun j x B=>by
  rw[List.getElem?_drop] at B;obtain⟨F,C,e,hb,D⟩:=A.2 (m+j) x B;injection e with e1
  injection e1 with e1 e2
  subst e1;subst e2;refine⟨b,off+m*k,rfl,hb,fun i E=>?_⟩;rw[<- D i E];congr 2;rw[Nat.add_mul];omega⟩
theorem SlE.at (A:SlE enc k n₀ w a len l) {j:Nat} (D:j<len):∃ x b off,l[j]? = some x/\a=some ⟨b,off,none⟩/\b<n₀/\∀ i,i<k->w.cell? ⟨b,off+j*k+i,none⟩=(enc x)[i]? := by
 have E:=A.1;obtain⟨x,B⟩:∃ x,l[j]? = some x:=⟨_,List.getElem?_eq_getElem (by omega)⟩;obtain⟨b,off,e,hb,C⟩:=A.2 j x B;exact⟨x,b,off,B,e,hb,C⟩
theorem SlE.set_far {p:Addr} (C:∀ x,a=some x->p.block≠x.block) (v:Value) (A:SlE enc k n₀ w a len l):SlE enc k n₀ (w.setCell p v) a len l :=
 ⟨A.1,fun j x D=>let ⟨b,off,e,hb,hc⟩:=A.2 j x D;⟨b,off,e,hb,fun i B=>by rw[World.cell?_setCell_other (h:=fun h=>C _ e (by rw[h]))];exact hc i B⟩⟩
end
def SlC {α:Type} (enc:α->List Value) (k:Nat) (n₀:Nat) (w:World) (a:Option Addr) (len cap:Nat) (l:List α):Prop :=
 SlE enc k n₀ w a len l/\len<=cap/\cap<=maxLen/\(a=none->cap=0)/\∀ x,a=some x->0<cap->x.spot=none/\x.block<n₀
section
variable {α:Type} {enc:α->List Value} {k n₀ n₁:Nat} {w A B:World} {a:Option Addr} {len cap:Nat} {l:List α}
theorem SlC.below (h:Below n₀ A B) (C:SlC enc k n₀ A a len cap l):SlC enc k n₀ B a len cap l:=⟨C.1.below h,C.2⟩
theorem SlC.mono (B:n₀<=n₁) (A:SlC enc k n₀ w a len cap l):SlC enc k n₁ w a len cap l :=
 ⟨A.1.mono B,A.2.1,A.2.2.1,A.2.2.2.1,fun x e C=>let ⟨h1,h2⟩:=A.2.2.2.2 x e C;⟨h1,Nat.lt_of_lt_of_le h2 B⟩⟩
theorem SlC.go (C:SlC enc k A.heap.size A a len cap l) (h:Bw A B):SlC enc k B.heap.size B a len cap l:=(C.below h).mono h.size
theorem SlC.take (A:SlC enc k n₀ w a len cap l) (m:Nat) (B:m<=len):SlC enc k n₀ w a m cap (l.take m):=⟨A.1.take m B,Nat.le_trans B A.2.1,A.2.2⟩
theorem SlC.nil:SlC enc k n₀ w none 0 0 ([]:List α):=⟨SlE.nil,Nat.le_refl _,Nat.zero_le _,fun _=>rfl,fun x h=>by cases h⟩
theorem SlC.set_far {p:Addr} (B:∀ x,a=some x->p.block≠x.block) (v:Value) (A:SlC enc k n₀ w a len cap l):SlC enc k n₀ (w.setCell p v) a len cap l:=⟨A.1.set_far B v,A.2⟩
end
section
variable {α:Type} {enc:α->List Value} {k n₀:Nat} {w:World} {a:Option Addr} {len cap:Nat} {l:List α}
theorem SlE.to_at (L:∀ x,(enc x).length=k) (D:0<len) (h:SlE enc k n₀ w a len l):SlAt n₀ w (.slice a len cap) l.length (l.flatMap enc):=by
 obtain⟨R,b,off,-,H,hb,-⟩:=h.at D;refine .inr ⟨b,off,cap,by rw[H,h.1],hb,fun i A=>?_⟩;rw[jfJ enc k L] at A
 have G:0<k:=by
  rcases Nat.eq_zero_or_pos k with E | E
  ·subst E;simp at A
  ·exact E
 have F:=Nat.div_add_mod i k;have P:i / k<l.length:=Nat.div_lt_of_lt_mul (by rw[Nat.mul_comm];exact A);have hr:i % k<k:=Nat.mod_lt _ G;obtain⟨y,M⟩:∃ y,l[i / k]? = some y:=⟨_,List.getElem?_eq_getElem P⟩;obtain⟨Q,N,C,_,O⟩:=h.2 _ y M;rw[H] at C;injection C with B
 injection B with B e2
 subst B;subst e2;have I:=O _ hr;have J:=jcC enc k L l (i / k) (i % k) y M hr;have B:i / k*k+i % k=i:=by rw[Nat.mul_comm];exact F
 rw[Nat.add_assoc,B] at I;rw[B] at J;rw[I,J]
end
theorem jbu (P:Program) {α:Type} {enc:α->List Value} {t e:TypeId} {z:Value} {size E:Nat} (b:TypeId) (ht:P.underlying t=some (.slice e)) (F:(P.info? e).map (fun i=>(i.zero,i.size,i.bytes))=some (some z,size,E)) (U:z.cells.size=size) (T:0<size)
  {W w0:World} {B A:Nat} {v:Value} {a:Option Addr} {n m cap:Nat} {xs:List Value} {l:List α} (C:W.ownsRow A e size v n xs) (X:Below B w0 W) (M:B<=A) (G:A<=W.heap.size) (Z:∀ x,(enc x).length=size) (D:SlE enc size W.heap.size W a m l) (f:∀ x,∀ u∈enc x,u.oneCell'=true)
  (o:n<2147483648) (j:m<2147483648) (N:E<=4096) :
  ∃ v' H,(Builtin.append_ #[t,t] b #[v,.slice a m cap]).run P W=.ok v' H/\H.ownsRow A e size v' (n+m) (xs++l.flatMap enc)/\Below B w0 H/\W.heap.size<=H.heap.size/\(∀ k,k<A->H.heap[k]? = W.heap[k]?)/\(∀ k,k<W.heap.size->some k≠v.ownBlock->H.heap[k]? = W.heap[k]?):=by
 rcases Nat.eq_zero_or_pos m with d | J
 ·subst d
  obtain rfl:l=[]:=List.eq_nil_of_length_eq_zero D.1.symm;obtain⟨i0,Y,r,s,w⟩:=info_parts F;refine⟨v,W,?_,by simpa using C,X,Nat.le_refl _,fun _ _=>rfl,fun _ _ _=>rfl⟩
  obtain⟨V,c,rfl⟩:∃ a c,v=.slice a n c:=by
   rcases C.2 with⟨rfl,rfl⟩ | ⟨g,cap,L,rfl,_⟩
   ·exact⟨none,0,rfl⟩
   ·exact⟨_,cap,rfl⟩
  cases a <;>
  ·rcases C.2 with⟨O,R⟩ | ⟨g,cap,L,O,y,h,S,_⟩
   ·obtain⟨rfl,_,rfl⟩:V=none/\n=0/\c=0:=by simpa using O
    subst R;simp[Builtin.append_,run_underlying ht,sizeOf,typeInfo,Y,Builtin.lenOf,Builtin.firstCells,loadCells,loadCellsFrom]
   ·obtain⟨rfl,rfl⟩:V=some ⟨g,0,none⟩/\c=cap:=by simpa using O
    simp[Builtin.append_,run_underlying ht,sizeOf,typeInfo,Y,Builtin.lenOf,Builtin.firstCells,S,storeCells,loadCells,loadCellsFrom]
 ·have I:=D.to_at (cap:=cap) Z J
  rw[<- D.1] at I;have Q:(l.flatMap enc).length=m*size:=by rw[jfJ enc size Z,D.1]
  exact jbS P b ht F U T C X M G I Q (fun u p=>by obtain⟨x,_,q⟩:=List.mem_flatMap.1 p;exact f x u q) o j N
theorem jaM {α:Type} {enc:α->List Value} {w:World} {A e size:Nat} {v:Value} {l:List α} (J:∀ x,(enc x).length=size) (h:w.ownsRow A e size v l.length (l.flatMap enc)) :
  ∃ a cap,v=.slice a l.length cap/\SlC enc size w.heap.size w a l.length cap l/\∀ x,a=some x->A<=x.block:=by
 have D:=jeD h;rcases h.2 with⟨rfl,M⟩ | ⟨g,cap,F,rfl,H,I,C,B,G,ht⟩
 ·have L:l=[]:=List.eq_nil_of_length_eq_zero M
  subst L;exact⟨none,0,rfl,SlC.nil,fun x h=>by cases h⟩
 ·refine⟨_,cap,rfl,⟨SlE.of_at J D,C,B,(fun h=>by cases h),fun x E _=>?_⟩,fun x E=>?_⟩
  ·cases E;exact⟨rfl,(Array.getElem?_eq_some_iff.1 I).1⟩
  ·cases E;exact H
def jl8 (n:Int) (s:ByteArray):ByteArray:=s.extract 0 (min (s.size:Int) n).toNat
theorem jk7 (n:Nat) (s:ByteArray):(jl8 n s).size=min s.size n:=by simp[jl8];omega
theorem jmr (n:Nat) (A:n<4294967281) (s:ByteArray):(jl8 n s).size<4294967281:=by rw[jk7];omega
end
section
open Go.Shelf
def jcH (a:Option Addr) (cap m k:Nat):Option Addr:=if cap=m then a else a.map (·.add (m*k))
theorem SlC.drop {α:Type} {enc:α->List Value} {k E:Nat} {w:World} {a:Option Addr} {len cap:Nat} {l:List α} (C:SlC enc k E w a len cap l) (m:Nat) (O:m<=len):SlC enc k E w (jcH a cap m k) (len-m) (cap-m) (l.drop m):=by
 have N:=C.1.1;have M:=C.2.1;have L:=C.2.2.1;refine⟨⟨by rw[List.length_drop];omega,fun j x A=>?_⟩,by omega,by omega,fun h=>?_,fun x A D=>?_⟩
 ·rw[List.getElem?_drop] at A
  obtain⟨b,off,e,hb,B⟩:=C.1.2 (m+j) x A;have J:=(List.getElem?_eq_some_iff.1 A).1;refine⟨b,off+m*k,?_,hb,fun i I=>?_⟩
  ·rw[jcH,if_neg (by omega),e,Option.map_some,jg0 rfl]
  ·rw[<- B i I];congr 2;rw[Nat.add_mul];omega
 ·by_cases F:cap=m
  ·omega
  ·rw[jcH,if_neg F] at h
   have:=C.2.2.2.1 (by simpa using h);omega
 ·rw[jcH,if_neg (by omega)] at A
  cases a with
  | none=>cases A
  | some z =>
   obtain⟨G,H⟩:=C.2.2.2.2 z rfl (by omega);rw[Option.map_some] at A;injection A with A
   rw[<- A,jg0 G];exact⟨rfl,H⟩
theorem jf9 (a:Option Addr) (cap k:Nat):jcH a cap 0 k=a:=by
 unfold jcH;split
 ·rfl
 ·cases a<;>simp[Addr.add]
end
theorem jrx {P G:Prop} (main:P->G) (pf:P):G:=main pf
theorem jkG {w0 W:World} (h:Bw w0 W) (c:Array Value) (t:TypeId):∃ A B,W.alloc (.cells c t)=A/\W.heap.size=B/\A.heap[B]? = some (.cells c t (0,0))/\Bw W A/\w0.heap.size<=B:=by
 obtain⟨A,C,D,E,-⟩:=jab W c t;exact⟨A,_,C,rfl,D,E,h.size⟩
end Go.Proofs.YtnegciklhanmbaaGreatDoor
