/- Plain lemmas and words of my own, of no program: the runes of a string, owned memory, lists in slices. Words of my own, of no program: slices in memory, boxes, a range over a function in a plain walk. Plain lemmas: a fold that may fail, along a list; cells of slices of structs. Rows of laws: what a call that answers true and changes nothing leaves; arguments opened to the walks' words. Of no program. Appends of many cells, makes: as run equations. A drawn region whose operations yield fixed values in every world of a class: one walk, in the order of the text. Boxes. Slices by their elements: whatever address an empty one has. Of no program. Sketches as plain data; which are right (layers 6 to 10). No program in sight. slices.Clone at []uint64, []api.Bin, []api.Label: printed by wip/tools/gen_x5.py. Package exact: Right, Same; slices.Equal and slices.Clone at []uint64. slices.Equal at []uint64; exact.Same, cms.Same, hist.Same: printed by wip/tools/gen_x7.py. An address moved on, as a slice expression moves it. Of no program. Package hll: ranks, Right. Package ladder: work.sketch. Package ladder: work.sketch, the other bodies. DERIVED: THE SHELF's CONTRACTS AT THIS DUMP, IN PLAIN WORDS (tools/lay-plain.mjs out of 'TryzShelf.lean', which tools/lay-shelf.mjs wrote): THE SAME DECLARATIONS UNDER THE SAME NAMES: 'import', 'namespace', 'open', 'def', 'theorem' AND NOTHING ELSE: no command of the shelf's: FOR A HAND-IN. Each laying: the table of numbers ('.._ren') and one theorem, a field a fact of the dump's own or the kernel's comparison; each contract: ONE APPLICATION. Package ladder: open whole; Right, Cost. Sketches at work as plain data: a number added, one level lower. No program in sight. Regions that draw their order inside a round: by the walk outside of one. Of no program. Package label: values, sets of labels (ranges over slices.Values). A log as plain data: entries and their sums, which logs are right, what an append does. What sums bytes is left open. No program in sight. A range over a function whose iterator keeps a variable of its own in a box (strings.SplitSeq): the kit's law of such a range, turned to that case. Package grant: Right, New, the library's IndexFunc, ContainsFunc; May. -/
import Derived.WalkKit
import Derived.LoopTactic
import Derived.WalkLawsBesides
import Derived.WalkSpells
import Derived.Lib.Hide
import Derived.Laws.RangeAny
import Derived.Lib.OthersKept
import Derived.Lib.Strings
import Derived.Test.YtlmlcadcdhhlcaaGreatDoorProg
import Derived.RangeFuncNested
import Derived.RangeFuncBound
import Derived.RangeFuncCalls
import Derived.RangeFuncLeaves
import Derived.Shelf.Abstract
import Derived.Shelf.RegionOpen
import Derived.OwnWalkIn
import Derived.TacticsInMore
import Derived.LoopNIn
import Derived.LoopIn
import Derived.Outline
import Derived.BigGuardIn
import Derived.WalkMore
import Derived.ProofKit
import Derived.OpenShut
import Derived.Carry
import Derived.Deep.Slices
import Derived.Deep.Fields
import Derived.Deep.DeepHandedRow
import Derived.Lib.SmallJoins
import Derived.Deep.RegionLaw
import Derived.BigQuiet
import Derived.BigRegion
import Derived.Deep.QuietTactic
import Derived.ScopeJumps
import Derived.Lib.SliceRun
import Derived.Laws.BitsAllLaws
import Derived.WideMake
import Derived.Shelf.Strings.Builder1
import Derived.Shelf.Strings.Builder2
import Derived.Shelf.Strings.OnBuilder
import Derived.Shelf.Small.Bits
import Derived.Shelf.Strings.BuilderF
import Derived.Shelf.Strings.BuilderK
import Derived.Shelf.Strings.BuilderRune
import Derived.Shelf.Utf8.AppendRune
import Derived.Shelf.Utf8.AppendRunePlain
import Derived.Shelf.Strings.Builder2Cap
import Derived.Shelf.Strconv.Itoa0
import Derived.Shelf.Strings.Search1
import Derived.Shelf.Strings.Search2
import Derived.Shelf.Strings.Search3
import Derived.Shelf.Strings.Cut
import Derived.Shelf.LaysM
import Derived.Shelf.Strings.Shaped
import Derived.Shelf.Unicode.DecodeSlow
import Derived.Shelf.Unicode.DecodeAny
import Derived.Shelf.Strings.BuilderCap
import Derived.Ground.SlgmProg
import Derived.Shelf.SortM.Plain
import Derived.Shelf.SortM.SortNone
import Derived.Deep.RegionHeld3
import Derived.Deep.Cut
import Derived.Deep.CutRange
import Derived.Deep.DeepCutAuto
import Derived.Lib.BitFns
import Derived.Lib.ItoaNum
import Derived.Maps.RangeWalk
import Derived.Maps.OwnSet
namespace Go.Proofs.YtlmlcadcdhhlcaaGreatDoor
open Go Go.RowKit
abbrev Bw (w w':World):Prop:=Below (w.heap.size) w w'
abbrev CR (k:Nat) (a:Array Value) (w:World) (v:Value):Prop:=Calls Tryz.prog k a w fun e w'=>e=.returned v/\Below (w.heap.size) w w'
theorem jag (s:ByteArray):s.toList.isEmpty=(s.size==0):=by
 rw[Lib.toList_data,Lib.size_eq]
 cases s.data.toList<;>simp
end Go.Proofs.YtlmlcadcdhhlcaaGreatDoor
namespace Go.Proofs.YtlmlcadcdhhlcaaGreatDoor
open Go Go.RowKit Go.Shelf
def SlAt (n₀:Nat) (w:World) (sv:Value) (n:Nat) (cs:List Value):Prop :=
 (sv=.slice none 0 0/\n=0/\cs=[])\/∃ b off cap,sv=.slice (some ⟨b,off,none⟩) n cap/\b<n₀/\∀ i,i<cs.length->w.cell? ⟨b,off+i,none⟩=cs[i]?
theorem SlAt.below {C:Nat} {A B:World} (h:Below C A B) {E:Value} {n:Nat} {D:List Value}:SlAt C A E n D->SlAt C B E n D
 | .inl e=>.inl e
 | .inr ⟨b,off,cap,e,hb,hc⟩=>.inr ⟨b,off,cap,e,hb,fun j F=>(h.cell (p:=⟨b,off+j,none⟩) hb).trans (hc j F)⟩
theorem SlAt.mono {B C:Nat} (E:B<=C) {w:World} {D:Value} {n:Nat} {A:List Value}:SlAt B w D n A->SlAt C w D n A
 | .inl e=>.inl e
 | .inr ⟨b,off,cap,e,hb,hc⟩=>.inr ⟨b,off,cap,e,Nat.lt_of_lt_of_le hb E,hc⟩
theorem jc5 {n:Nat} {W A:World} (h:Below n W A) {B t:Nat} {v:Value} (C:B<n) (D:Boxed W B t v):Boxed A B t v:=(h.block B C).trans D
theorem jio {n B:Nat} {W A:World} (h:Below n W A) (D:W.heap.size<=n):KeepsFrom B W A :=
 ⟨h.size,fun k _ _ C _=>(h.block k (by have:=(Array.getElem?_eq_some_iff.1 C).1;omega)).trans C⟩
theorem jbS {P:Program} {f:FuncId} {A:Func} {c:Code} {args:Array Value} {w:World} {R:Ending->World->Prop} (C:P.funcs[f]? = some A) (B:A.body=some c)
  (h:c.wp P (bodyPostM Fence.wide 9 P A R) { tmps:=args++Array.replicate (A.ntmps-args.size) undef,defers:=[] } w):Calls P f args w R :=
 (callsIn_wide (n:=9)).1 (callsIn_of_wp_marks C B trivial (wpIn_wide.2 h) rfl)
theorem jc8 {P:Program} {A:Func} {R:Ending->World->Prop} {a:Act} {w:World} {v:Value} (D:(results A a.tmps).run P w=.ok v w) (C:a.defers=[]) (B:R (.returned v) w) :
  bodyPostM Fence.wide 9 P A R .ret a w:=by
 show LeavesInM Fence.wide 9 P A a.tmps R a.defers .returning w;rw[C];exact⟨v,D,B⟩
theorem jaC {P:Program} {A:Func} {R:Ending->World->Prop} {tmps:Array Value} {w:World} {D:Nat} {v:Value} (hK:w.heap[D]? = some (.deferred (some [])))
  (C:(results A tmps).run P (w.putObj D (.deferred none))=.ok v (w.putObj D (.deferred none))) (B:R (.returned v) (w.putObj D (.deferred none))) :
  bodyPostM Fence.wide 9 P A R .ret { tmps:=tmps,defers:=[{ target:=.collected D,args:=#[] }] } w:=by
 refine⟨by simp,.inl ⟨_,_,rfl,run_takeDeferred hK,?_⟩⟩;exact⟨v,C,B⟩
theorem jcZ {n D:Nat} {w0 W:World} (h:Below n w0 W) (A:n<=D) (hK:W.heap[D]? = some (.deferred (some []))):Below n w0 (W.putObj D (.deferred none)) :=
 h.trans ((Below.refl n W).grown (grownBy_putObj' W D _) (by have:=(Array.getElem?_eq_some_iff.1 hK).1;omega) (fun k e=>by cases e;omega))
theorem jhE {β:Type} (C B:Nat) (t:TypeId) (f:β->Value):OwnFrom C (fun s W=>Boxed W B t (f s)):=Own.from (boxed_own B t f) C
theorem jcv {β:Type} (C B:Nat) (f:β->Array Value) (t:TypeId):OwnFrom C (fun s W=>W.heap[B]? = some (.cells (f s) t (0,0))):=fun s X Y row A F G=>by
 refine (F.block B (Array.getElem?_eq_some_iff.1 A).1 (fun e=>?_)).trans A;obtain⟨_,o,D,E⟩:=G B e.symm;rw[A] at D;cases D;cases E
theorem cCc {W:World} {B:Nat} {c:Array Value} {t:TypeId} {A:Nat × Nat} (h:W.heap[B]? = some (.cells c t A)) (i:Nat):W.cell? ⟨B,i,none⟩=c[i]? := by simp[World.cell?,h]
theorem cFz {W:World} {B:Nat} {c:Array Value} {t:TypeId} (h:W.heap[B]? = some (.cells c t (0,0))) (i:Nat):W.frozen? ⟨B,i,none⟩=false:=by simp[World.frozen?,h]
theorem cl2 {W:World} {B:Nat} {A C:Value} {t:TypeId} {D:Nat × Nat} (h:W.heap[B]? = some (.cells #[A,C] t D)):W.cell? ⟨B,0,none⟩=some A/\W.cell? ⟨B,1,none⟩=some C:=⟨cCc h 0,cCc h 1⟩
theorem cz2 {W:World} {B:Nat} {c:Array Value} {t:TypeId} (h:W.heap[B]? = some (.cells c t (0,0))):W.frozen? ⟨B,0,none⟩=false/\W.frozen? ⟨B,1,none⟩=false:=⟨cFz h 0,cFz h 1⟩
theorem cl3 {W:World} {B:Nat} {A C D:Value} {t:TypeId} {E:Nat × Nat} (h:W.heap[B]? = some (.cells #[A,C,D] t E)):W.cell? ⟨B,0,none⟩=some A/\W.cell? ⟨B,1,none⟩=some C/\W.cell? ⟨B,2,none⟩=some D:=⟨cCc h 0,cCc h 1,cCc h 2⟩
theorem cl4 {W:World} {B:Nat} {A C D E:Value} {t:TypeId} {F:Nat × Nat} (h:W.heap[B]? = some (.cells #[A,C,D,E] t F)):W.cell? ⟨B,0,none⟩=some A/\W.cell? ⟨B,1,none⟩=some C/\W.cell? ⟨B,2,none⟩=some D/\W.cell? ⟨B,3,none⟩=some E:=⟨cCc h 0,cCc h 1,cCc h 2,cCc h 3⟩
theorem cz4 {W:World} {B:Nat} {c:Array Value} {t:TypeId} (h:W.heap[B]? = some (.cells c t (0,0))):W.frozen? ⟨B,0,none⟩=false/\W.frozen? ⟨B,1,none⟩=false/\W.frozen? ⟨B,2,none⟩=false/\W.frozen? ⟨B,3,none⟩=false:=⟨cFz h 0,cFz h 1,cFz h 2,cFz h 3⟩
theorem jb3 {W:World} {B:Nat} {A C D E F G H I J L:Value} {t:TypeId} {M:Nat × Nat} (h:W.heap[B]? = some (.cells #[A,C,D,E,F,G,H,I,J,L] t M)):W.cell? ⟨B,0,none⟩=some A/\W.cell? ⟨B,1,none⟩=some C/\W.cell? ⟨B,2,none⟩=some D/\W.cell? ⟨B,3,none⟩=some E/\W.cell? ⟨B,4,none⟩=some F/\W.cell? ⟨B,5,none⟩=some G/\W.cell? ⟨B,6,none⟩=some H/\W.cell? ⟨B,7,none⟩=some I/\W.cell? ⟨B,8,none⟩=some J/\W.cell? ⟨B,9,none⟩=some L:=⟨cCc h 0,cCc h 1,cCc h 2,cCc h 3,cCc h 4,cCc h 5,cCc h 6,cCc h 7,cCc h 8,cCc h 9⟩
theorem jiM {W:World} {B:Nat} {c:Array Value} {t:TypeId} (h:W.heap[B]? = some (.cells c t (0,0))):W.frozen? ⟨B,0,none⟩=false/\W.frozen? ⟨B,1,none⟩=false/\W.frozen? ⟨B,2,none⟩=false/\W.frozen? ⟨B,3,none⟩=false/\W.frozen? ⟨B,4,none⟩=false/\W.frozen? ⟨B,5,none⟩=false/\W.frozen? ⟨B,6,none⟩=false/\W.frozen? ⟨B,7,none⟩=false/\W.frozen? ⟨B,8,none⟩=false/\W.frozen? ⟨B,9,none⟩=false:=⟨cFz h 0,cFz h 1,cFz h 2,cFz h 3,cFz h 4,cFz h 5,cFz h 6,cFz h 7,cFz h 8,cFz h 9⟩
theorem tk {P:Program} {md:Region.Mode} {B:Array Oper} {Q:Exit->Act->World->Prop} (i:Nat) {D:Oper} {v:Value} {C:Nat} {A:Array Bool} {a:Act} {w:World} (G:B[i]? = some D)
  (L:∀ w,(execOp a.eval D).run P w=.ok (.value v) w) (h:wpAny P md B Q C (A.setIfInBounds i true) (a.put D.dst v) w)
  (J:Region.wanted D (yielded B a.tmps)=true:=by rfl) (I:Region.noSelect B=true:=by kernel_rfl) (F:Region.free md B A i=true:=by kernel_rfl)
  (H:(Region.ready md B A).contains i=true:=by kernel_rfl) (E:∀ c a w,Q (.panic c) (a.put D.dst v) w->Q (.panic c) a w:=by exact fun _ _ _ h=>h):wpAny P md B Q (C+1) A a w :=
 wpAny_take G I F H E (Or.inl ⟨J,L⟩) h
theorem ta {P:Program} {md:Region.Mode} {B:Array Oper} {Q:Exit->Act->World->Prop} (i:Nat) {D:Oper} {v:Value} {C:Nat} {A:Array Bool} {a:Act} {w:World} (h:wpAny P md B Q C (A.setIfInBounds i true) (a.put D.dst v) w) (G:B[i]? = some D:=by rfl)
  (L:∀ w,(execOp a.eval D).run P w=.ok (.value v) w:=by intro w;go_simp;with_reducible rfl)
  (J:Region.wanted D (yielded B a.tmps)=true:=by rfl) (I:Region.noSelect B=true:=by kernel_rfl) (F:Region.free md B A i=true:=by kernel_rfl)
  (H:(Region.ready md B A).contains i=true:=by kernel_rfl) (E:∀ c a w,Q (.panic c) (a.put D.dst v) w->Q (.panic c) a w:=by exact fun _ _ _ h=>h):wpAny P md B Q (C+1) A a w :=
 wpAny_take G I F H E (Or.inl ⟨J,L⟩) h
theorem taq {P:Program} {md:Region.Mode} {B:Array Oper} {Q:Exit->Act->World->Prop} (i:Nat) {D:Oper} {v:Value} {C:Nat} {A:Array Bool} {a:Act} {w:World} (h:wpAny P md B Q C (A.setIfInBounds i true) (a.put D.dst v) w) (G:B[i]? = some D:=by rfl)
  (L:∀ w,(execOp a.eval D).run P w=.ok (.value v) w:=by intro w;go_simp;with_reducible rfl)
  (J:Region.wanted D (yielded B a.tmps)=true:=by rfl) (I:Region.noSelect B=true:=by kernel_rfl) (F:Region.free md B A i=true:=by decide +kernel)
  (H:(Region.ready md B A).contains i=true:=by decide +kernel) (E:∀ c a w,Q (.panic c) (a.put D.dst v) w->Q (.panic c) a w:=by exact fun _ _ _ h=>h):wpAny P md B Q (C+1) A a w :=
 wpAny_take G I F H E (Or.inl ⟨J,L⟩) h
theorem tai {F:Fence} {n:Nat} {P:Program} {md:Region.Mode} {B:Array Oper} {Q:Exit->Act->World->Prop} (i:Nat) {D:Oper} {v:Value} {C:Nat} {A:Array Bool} {a:Act} {w:World} (h:wpAnyIn F n P md B Q C (A.setIfInBounds i true) (a.put D.dst v) w) (I:B[i]? = some D:=by rfl)
  (N:∀ w,(execOp a.eval D).run P w=.ok (.value v) w:=by intro w;go_simp;with_reducible rfl)
  (M:Region.wanted D (yielded B a.tmps)=true:=by rfl) (E:F.round=none:=by rfl) (O:∀ w,D.about P w a.eval=none:=by exact fun _=>rfl) (L:Region.noSelect B=true:=by kernel_rfl) (H:Region.free md B A i=true:=by kernel_rfl)
  (J:(Region.ready md B A).contains i=true:=by kernel_rfl) (G:∀ c a w,Q (.panic c) (a.put D.dst v) w->Q (.panic c) a w:=by exact fun _ _ _ h=>h):wpAnyIn F n P md B Q (C+1) A a w :=
 wpAnyIn_take E I L H J G ⟨Or.inl ⟨M,N⟩,O⟩ h
theorem rd {P:Program} {md:Region.Mode} {C:Array Oper} {Q:Exit->Act->World->Prop} (rs:List Nat) {B:Nat} {A:Array Bool} {a:Act} {w:World} (h:AllReady P md C Q B A a w rs) (E:Region.ready md C A=rs:=by kernel_rfl) (D:rs≠[]:=by simp):wpAny P md C Q (B+1) A a w:=wpAny_ready E D h
theorem rq {P:Program} {md:Region.Mode} {C:Array Oper} {Q:Exit->Act->World->Prop} (rs:List Nat) {B:Nat} {A:Array Bool} {a:Act} {w:World} (h:AllReady P md C Q B A a w rs) (E:Region.ready md C A=rs:=by decide +kernel) (D:rs≠[]:=by simp):wpAny P md C Q (B+1) A a w:=wpAny_ready E D h
theorem rdi {F:Fence} {n:Nat} {P:Program} {md:Region.Mode} {C:Array Oper} {Q:Exit->Act->World->Prop} (rs:List Nat) {B:Nat} {A:Array Bool} {a:Act} {w:World} (h:AllReadyIn F n P md C Q B A a w rs) (E:Region.ready md C A=rs:=by kernel_rfl) (D:rs≠[]:=by simp):wpAnyIn F n P md C Q (B+1) A a w:=wpAnyIn_ready E D h
theorem rqi {F:Fence} {n:Nat} {P:Program} {md:Region.Mode} {C:Array Oper} {Q:Exit->Act->World->Prop} (rs:List Nat) {B:Nat} {A:Array Bool} {a:Act} {w:World} (h:AllReadyIn F n P md C Q B A a w rs) (E:Region.ready md C A=rs:=by decide +kernel) (D:rs≠[]:=by simp):wpAnyIn F n P md C Q (B+1) A a w:=wpAnyIn_ready E D h
theorem jam (P:Program) {t e:TypeId} {z:Value} {C D:Nat} (Y:TypeId) (ht:P.underlying t=some (.slice e)) (H:(P.info? e).map (fun i=>(i.zero,i.size,i.bytes))=some (some z,C,D)) (V:z.cells.size=C) (R:0<C)
  {W w0:World} {B base:Nat} {v:Value} {n:Nat} {xs:List Value} (E:W.ownsRow base e C v n xs) (b:Below B w0 W) (M:B<=base) (N:base<=W.heap.size) (A:List Value) (m:A.length=C) (a:∀ u∈A,u.oneCell'=true)
  (o:n<4294967281) (O:D<=4096) :
  ∃ g cap F,(Builtin.append_ #[t,t] Y #[v,.slice (some ⟨W.heap.size,0,none⟩) 1 1]).run P (W.alloc (.cells A.toArray e))=.ok (.slice (some ⟨g,0,none⟩) (n+1) cap) F /\
   F.ownsRow base e C (.slice (some ⟨g,0,none⟩) (n+1) cap) (n+1) (xs++A)/\Below B w0 F/\W.heap.size<F.heap.size/\(∀ k,k<base->F.heap[k]? = W.heap[k]?)/\(∀ k,k<W.heap.size->some k≠v.ownBlock->F.heap[k]? = W.heap[k]?):=by
 obtain⟨h,c,S,T,U⟩:=info_parts H
 have G:∀ j u,A[j]? = some u->(W.alloc (.cells A.toArray e)).cell? ((⟨W.heap.size,0,none⟩:Addr).add j)=some u:=fun j u d=>by
  have:=cCc (World.alloc_heap_new W (.cells A.toArray e)) j;have Z:(⟨W.heap.size,0,none⟩:Addr).add j=⟨W.heap.size,j,none⟩:=by unfold Addr.add;split<;>simp_all
  rw[Z,this];simpa using d
 obtain⟨p,F,f,X,L,l⟩:=run_append_own (P:=P) (W.alloc (.cells A.toArray e)) base t Y e h z C D ht c S T U V R v n xs (E.alloc _) ⟨W.heap.size,0,none⟩ 1 1 A (by omega) G a (by unfold maxLen;omega) (by have:=Nat.mul_le_mul (show n+1<=4294967281 by omega) O;omega) (by simp;omega);obtain⟨g,cap,rfl⟩:=ownsRow_succ X;have J:∀ k,v.ownBlock=some k->base<=k:=fun k I=>(E.lt k I).1
 refine⟨g,cap,F,f,X,(b.alloc (by omega) _).grown L (by simp;omega) (fun k I=>Nat.le_trans M (J k I)),by have:=L.size;simp at this;omega,fun k I=>?_,fun k I Q=>?_⟩
 ·exact (L.block k (by simp;omega) (fun e=>by have:=J k e.symm;omega)).trans (Below.heap_alloc _ _ _ (by omega))
 ·exact (L.block k (by simp;omega) Q).trans (Below.heap_alloc _ _ _ I)
theorem jcl {w:World} {base e A n:Nat} {v:Value} {xs:List Value} (h:w.ownsRow base e A v n xs):SlAt w.heap.size w v n xs:=by
 rcases h.2 with⟨rfl,rfl⟩ | ⟨g,cap,C,rfl,G,B,F,D,E,ht⟩
 ·exact .inl ⟨rfl,rfl,List.eq_nil_of_length_eq_zero (by simpa using h.1)⟩
 ·refine .inr ⟨g,0,cap,rfl,(Array.getElem?_eq_some_iff.1 B).1,fun i H=>?_⟩
  rw[Nat.zero_add,cCc B i,<- ht,List.getElem?_take_of_lt (by have:=h.1;omega)];simp
theorem ji7 (w:World) (B:Value) (A:TypeId):∃ W,w.alloc (.cells #[B] A)=W/\Boxed W w.heap.size A B/\Bw w W/\W.heap.size=w.heap.size+1 :=
 ⟨_,rfl,Boxed.new w A B,(Below.refl _ w).alloc (Nat.le_refl _) _,by simp⟩
theorem ji8 (w:World) (B:Value) (A:TypeId) (D:Value) (C:TypeId):∃ W,(w.alloc (.cells #[B] A)).alloc (.cells #[D] C)=W/\Boxed W w.heap.size A B/\Boxed W (w.heap.size+1) C D/\Below w.heap.size w W/\W.heap.size=w.heap.size+2:=by
 obtain⟨X,rfl,G,F,H⟩:=ji7 w B A;have E:=Boxed.new (w.alloc (.cells #[B] A)) C D;rw[H] at E;exact⟨_,rfl,G.alloc _,E,F.alloc F.size _,by simp⟩
theorem ji9 (w:World) (C:Value) (A:TypeId) (D:Value) (B:TypeId) (F:Value) (E:TypeId):∃ W,((w.alloc (.cells #[C] A)).alloc (.cells #[D] B)).alloc (.cells #[F] E)=W/\Boxed W w.heap.size A C/\Boxed W (w.heap.size+1) B D/\Boxed W (w.heap.size+2) E F/\Bw w W/\W.heap.size=w.heap.size+3:=by
 obtain⟨X,rfl,I,J,H,L⟩:=ji8 w C A D B;have G:=Boxed.new ((w.alloc (.cells #[C] A)).alloc (.cells #[D] B)) E F;rw[L] at G;exact⟨_,rfl,I.alloc _,J.alloc _,G,H.alloc H.size _,by simp⟩
theorem jc1 {w E:World} {base e A n:Nat} {v:Value} {xs:List Value} (h:w.ownsRow base e A v n xs) (G:∀ j,base<=j->j<w.heap.size->E.heap[j]? = w.heap[j]?):E.ownsRow base e A v n xs:=by
 refine⟨h.1,?_⟩;rcases h.2 with F | ⟨g,cap,B,H,C,D,r⟩
 ·exact .inl F
 ·exact .inr ⟨g,cap,B,H,C,(G g C (Array.getElem?_eq_some_iff.1 D).1).trans D,r⟩
theorem jby {P:Program} {w:World} {B:Array Oper} {A:List Oper} {o:Oper} {a:Act} {Q:Exit->Act->World->Prop} (C:o.guard=none) (s x:Operand) (t:TypeId)
  (G:o.op=.call { callee:=.builtin .append,args:=#[s,x],argTypes:=#[t,t] }) {v F D:Value} {E:World} (I:a.eval s=v) (J:a.eval x=F)
  (H:(Builtin.append_ #[t,t] o.type #[v,F]).run P w=.ok D E) (h:wpList P B Q A (a.put o.dst D) E):wpList P B Q (o::A) a w:=by
 refine wpList_plain C fun _ hK=>?_
 unfold Oper.wp execOp;simp only[G,resolve,invoke,builtin,Sem.run_bind,Sem.run_pure,Result.andThen_ok,List.map_toArray,List.map_cons,List.map_nil,I,J,H];exact hK _ _ h
theorem jc2 {F:Fence} {n:Nat} {P:Program} {w:World} {C:Array Oper} {A:List Oper} {o:Oper} {a:Act} {Q:Exit->Act->World->Prop} (G:o.guard=none) (s x:Operand) (t:TypeId)
  (B:o.op=.call { callee:=.builtin .append,args:=#[s,x],argTypes:=#[t,t] }) {v J H:Value} {I:World} (M:a.eval s=v) (N:a.eval x=J)
  (L:(Builtin.append_ #[t,t] o.type #[v,J]).run P w=.ok H I) (h:wpListIn F n P C Q A (a.put o.dst H) I):wpListIn F n P C Q (o::A) a w:=by
 refine wpListIn_plain G fun K D=>?_
 unfold Oper.wpIn;refine⟨?_,?_⟩
 ·simp[Oper.about,B,resolve,Target.leads,Sem.run_pure]
 ·rw[Oper.semAt_plain F _ _ (by rw[B];intro c E;cases E)]
  simp[execOp,B,resolve,invoke,builtin,M,N,L,Result.andThen];exact D _ _ h
end Go.Proofs.YtlmlcadcdhhlcaaGreatDoor
namespace Go.Proofs.YtlmlcadcdhhlcaaGreatDoor
open Go Go.RowKit
theorem jaq {α:Type} {l:List α} {k:Nat} {x:α} (h:l[k]? = some x):l.take (k+1)=l.take k++[x]:=by rw[List.take_add_one,h];rfl
theorem jdT {α:Type} (enc:α->List Value) (k:Nat) (B:∀ x,(enc x).length=k) (l:List α) (j i:Nat) (x:α) (A:l[j]? = some x) (C:i<k):(l.flatMap enc)[j*k+i]? = (enc x)[i]? := by
 induction l generalizing j with
 | nil=>simp at A
 | cons y ys ih =>
  cases j with
  | zero =>
   simp at A;subst A;simp only[List.flatMap_cons,Nat.zero_mul,Nat.zero_add];rw[List.getElem?_append_left (by rw[B];exact C)]
  | succ j =>
   simp only[List.flatMap_cons];rw[List.getElem?_append_right (by rw[B,Nat.succ_mul];omega),B,show (j+1)*k+i-k=j*k+i by rw[Nat.succ_mul];omega];exact ih j (by simpa using A)
theorem jdk {α:Type} (enc:α->List Value) (k:Nat) (A:∀ x,(enc x).length=k) (l:List α):(l.flatMap enc).length=l.length*k:=by
 induction l with
 | nil=>simp
 | cons y ys ih=>simp[List.flatMap_cons,A,ih,Nat.succ_mul];omega
theorem SlAt.elems {α:Type} {enc:α->List Value} {k:Nat} (D:∀ x,(enc x).length=k) {E:Nat} {w:World} {a:Option Addr} {len cap:Nat} {l:List α} (h:SlAt E w (.slice a len cap) l.length (l.flatMap enc)) :
  len=l.length/\∀ j x,l[j]? = some x->∃ b A,a=some ⟨b,A,none⟩/\b<E/\∀ i,i<k->w.cell? ⟨b,A+j*k+i,none⟩=(enc x)[i]? := by
 rcases h with⟨h,F,_⟩ | ⟨b,A,B,e,H,I⟩
 ·obtain⟨rfl,rfl,rfl⟩:a=none/\len=0/\cap=0:=by simpa using h
  have:l=[]:=by simpa using F
  subst this;exact⟨rfl,fun i x C=>by simp at C⟩
 ·obtain⟨rfl,rfl,rfl⟩:a=some ⟨b,A,none⟩/\len=l.length/\cap=B:=by simpa using e
  refine⟨rfl,fun j x C=>⟨b,A,rfl,H,fun i J=>?_⟩⟩;have L:=(List.getElem?_eq_some_iff.1 C).1;have G:j*k+i<l.length*k:=by have:=Nat.mul_le_mul_right k (show j+1<=l.length by omega);rw[Nat.succ_mul] at this;omega
  rw[Nat.add_assoc,I (j*k+i) (by rw[jdk enc k D];exact G),jdT enc k D l j i x C J]
end Go.Proofs.YtlmlcadcdhhlcaaGreatDoor
namespace Go.Proofs.YtlmlcadcdhhlcaaGreatDoor
open Go Go.RowKit Go.ChangeShapes Go.WideShapes Go.Deep
section
variable {H:Type} {enc:TypeId × Value->H} {P:Program}
theorem jdz (R:laidOutB P=true) {W J:World} {M:Nat->Bool} (Q:Bw W J):∀ (A:List TypeId) (E:List Value) (D:List (DataW H)) (C:List MemPlace),
  (∀ t∈A,P.readableRec t=true/\t<P.types.size)->(∀ p∈C,p.block<W.heap.size/\M p.block=true) ->
  DataW.TrodAll enc P W 0 (fun _=>true) true A E D C->DataW.TrodAll enc P J 0 M true A E D C:=by
 intro A
 induction A with
 | nil=>intro E D C _ _ h;obtain⟨O,rfl,rfl⟩:=trodAll_nil h;rw[O];exact trodAll_mk0
 | cons t A ih =>
  intro E D C L G h;obtain⟨v,I,d,F,p,q,rfl,rfl,rfl,N,S⟩:=trodAll_cons h;have ht:=L t List.mem_cons_self;refine trodAll_cons_mk (WideElems.Trod_stays R ht.1 ht.2 N (fun x B=>Q.same (G x (List.mem_append_left _ B)).1) (fun x B=>(G x (List.mem_append_left _ B)).2)) ?_;exact ih I F q (fun t ht=>L t (List.mem_cons_of_mem _ ht)) (fun x B=>G x (List.mem_append_right _ B)) S
theorem jg8 {f:Func} {s:ChangeSpec} {W L:World} {args:Array Value} {E M:List (DataW H)} {A:List MemPlace} {Q:TypeId} (T:laidOutB P=true)
  (V:∀ t∈f.params.toList,P.readableRec t=true/\t<P.types.size) (O:s.vars=[]) (F:DataW.Whole enc P f.params.toList s.vars false W args.toList E M A)
  (J:s.fn H (E++M) = { results:=[.lit (.bool true)],args:=E }) (C:f.resultTypes=#[Q]) (S:P.underlying Q=some .bool) (N:Bw W L) :
  s.post enc P f false true false false W args (.bool true) L:=by
 have B:∀ p∈A,p.block<W.heap.size:=fun p U=>F.lt p U
 have I:=F;obtain⟨p,q,R,G,rfl,_,_⟩:=I;rw[O] at G;obtain⟨rfl,rfl⟩:=trodVars_none G;rw[List.append_nil] at B F;refine⟨E,[],p,[],p,[],F,?_,?_,?_,World.keptBut_mono (fun x D=>⟨D,Or.inr (Or.inl D)⟩) (N.frame (· ∈ p)),fun h=>by cases h⟩
 ·rw[J,C]
  exact trodAll_cons_mk (shut_bool S _) trodAll_mk0
 ·rw[J]
  exact jdz T N _ _ _ _ V (fun x D=>⟨B x D,by simpa using B x D⟩) R
 ·rw[J,O]
  exact G
variable {w:World} {base:Nat} {spare:Nat->Bool} {held:Bool}
theorem ja9 {e:TypeId} {B:Array Field} {C:Nat} {E:List Value} {x:DataW H × List MemPlace} (J:P.underlying e=some (.struct B)) (D:oneCellFields P B=true) (I:P.cellsOf e=B.size)
  (h:DataW.trod enc P w base spare held C e E=some x):E.length=B.size/\∃ n,∀ (j:Nat) (f:Field),B[j]? = some f->∃ v y,E[j]? = some v/\DataW.trod enc P w base spare held n f.type [v]=some y:=by
 obtain⟨xs,n,_,_,A,Q,L⟩:=DataW.trod_struct J h;rw[I] at A;refine⟨A,n,fun j f F=>?_⟩;obtain⟨O,N⟩:=hone_of D j f F;have M:j<B.size:=(Array.getElem?_eq_some_iff.1 F).1;have G:=L j f F;rw[O,N,List.drop_eq_getElem_cons (by omega),List.getElem?_eq_getElem (by omega)] at G;exact⟨_,_,List.getElem?_eq_getElem (by omega),G⟩
theorem jcq {a:Addr} (h:a.spot=none) (n:Nat):a.add n=⟨a.block,a.off+n,none⟩:=by
 obtain⟨b,o,s⟩:=a;dsimp only at h;subst h;unfold Addr.add;split
 ·simp_all
 ·rfl
end
end Go.Proofs.YtlmlcadcdhhlcaaGreatDoor
namespace Go.Proofs.YtlmlcadcdhhlcaaGreatDoor
open Go Go.RowKit
theorem jaH (P:Program) {t e:TypeId} {z:Value} {A D:Nat} (w:TypeId) (ht:P.underlying t=some (.slice e)) (I:(P.info? e).map (fun i=>(i.zero,i.size,i.bytes))=some (some z,A,D)) (o:z.cells.size=A) (d:0<A)
  {W w0:World} {B base:Nat} {v s:Value} {n m:Nat} {xs J:List Value} (C:W.ownsRow base e A v n xs) (p:Below B w0 W) (S:B<=base) (G:base<=W.heap.size) (N:SlAt W.heap.size W s m J) (hl:J.length=m*A) (y:∀ u∈J,u.oneCell'=true)
  (hn:n<2147483648) (hm:m<2147483648) (T:D<=4096) :
  ∃ Q F,(Builtin.append_ #[t,t] w #[v,s]).run P W=.ok Q F/\F.ownsRow base e A Q (n+m) (xs++J)/\Below B w0 F/\W.heap.size<=F.heap.size/\(∀ k,k<base->F.heap[k]? = W.heap[k]?)/\(∀ k,k<W.heap.size->some k≠v.ownBlock->F.heap[k]? = W.heap[k]?):=by
 obtain⟨i0,V,f,h,l⟩:=info_parts I;rcases N with⟨rfl,rfl,rfl⟩ | ⟨b,E,cap,rfl,hb,hc⟩
 ·refine⟨v,W,?_,by simpa using C,p,Nat.le_refl _,fun _ _=>rfl,fun _ _ _=>rfl⟩
  obtain⟨a,c,rfl⟩:∃ a c,v=.slice a n c:=by
   rcases C.2 with⟨rfl,rfl⟩ | ⟨g,cap,R,rfl,_⟩
   ·exact⟨none,0,rfl⟩
   ·exact⟨_,cap,rfl⟩
  rcases C.2 with⟨U,X⟩ | ⟨g,cap,R,U,hg,aa,Y,_⟩
  ·obtain⟨rfl,_,rfl⟩:a=none/\n=0/\c=0:=by simpa using U
   subst X;simp[Builtin.append_,run_underlying ht,sizeOf,typeInfo,V,Builtin.lenOf,Builtin.firstCells]
  ·obtain⟨rfl,rfl⟩:a=some ⟨g,0,none⟩/\c=cap:=by simpa using U
   simp[Builtin.append_,run_underlying ht,sizeOf,typeInfo,V,Builtin.lenOf,Builtin.firstCells,Y,storeCells]
 ·have H:∀ j u,J[j]? = some u->W.cell? ((⟨b,E,none⟩:Addr).add j)=some u:=fun j u r=>by
   have x:(⟨b,E,none⟩:Addr).add j=⟨b,E+j,none⟩:=by unfold Addr.add;split<;>simp_all
   rw[x,hc j (List.getElem?_eq_some_iff.1 r).1,r]
  have q:=Nat.mul_le_mul (show n+m<=4294967296 by omega) T;obtain⟨Q,F,hr,h2,O,h4⟩:=run_append_own (P:=P) W base t w e i0 z A D ht V f h l o d v n xs C ⟨b,E,none⟩ m cap J hl H y (by unfold maxLen;omega) (by omega) G;have M:∀ k,v.ownBlock=some k->base<=k:=fun k L=>(C.lt k L).1
  exact⟨Q,F,hr,h2,p.grown O (by omega) (fun k L=>Nat.le_trans S (M k L)),O.size,fun k L=>O.block k (by omega) (fun e=>by have:=M k e.symm;omega),fun k L Z=>O.block k L Z⟩
theorem hSk {W:World} {B i:Nat} {c:Array Value} {t:TypeId} {C:Nat × Nat} (h:W.heap[B]? = some (.cells c t C)) (v:Value):(W.setCell ⟨B,i,none⟩ v).heap[B]? = some (.cells (c.setIfInBounds i v) t C):=by
 obtain⟨A,D⟩:=Array.getElem?_eq_some_iff.1 h;show (W.heap.modify B _)[B]? = _;rw[Array.getElem?_eq_getElem (by rw[Array.size_modify];exact A),Array.getElem_modify_self,D];rfl
theorem SlAt.drew {n m:Nat} {w:World} {B:Value} {A:List Value} (h:SlAt n w B m A):SlAt n w.drew B m A:=h
end Go.Proofs.YtlmlcadcdhhlcaaGreatDoor
namespace Go.Proofs.YtlmlcadcdhhlcaaGreatDoor
open Go Go.RowKit
structure WIn (Inv:World->Prop) where
 world:World
 ok:Inv world
theorem jaO {P:Program} (A:World->Prop) {H:Nat} {Q:Exit->Act->World->Prop} {a:Act} {w:World} {l:List Oper} (G:P.follows .mixedOrders=true) (E:Region.lexB .any l.toArray=true) (F:A w.drew)
  (h:wpQuiet P l.toArray (fun B=>∃ X:WIn A,B=X.world) (fun D=>∀ B,(∃ X:WIn A,B=X.world)->Q .normal D B) l a):(Code.region H l.toArray true).wp P Q a w :=
 wp_region_quiet (C:=fun B=>∃ X:WIn A,B=X.world) G E ⟨⟨_,F⟩,rfl⟩ (by simpa using h)
theorem jeC {P:Program} {A:World->Prop} {f:FuncId} {args:Array Value} {W:World} {v:Value} {R:World->World->Prop} (C:∀ B,R W B->A B)
  (h:Calls P f args W fun e D=>e=.returned v/\R W D):Calls P f args W fun e D=>e=.returned v/\∃ Y:WIn A,D=Y.world :=
 h.mono fun _ B ⟨E,F⟩=>⟨E,⟨⟨B,C B F⟩,rfl⟩⟩
theorem jaz {P:Program} {A:World->Prop} {f:FuncId} {args:Array Value} {X:WIn A} {v:Value} (C:∀ W B,A W->Bw W B->A B)
  (h:Calls P f args X.world fun e D=>e=.returned v/\Below X.world.heap.size X.world D):Calls P f args X.world fun e D=>e=.returned v/\∃ Y:WIn A,D=Y.world :=
 jeC (R:=fun W B=>Bw W B) (fun B E=>C _ B X.ok E) h
theorem jau {P:Program} {Q:Exit->Act->World->Prop} {a:Act} {w:World} {c A:Code} (l:Nat) (C:findLabel c l=some A)
  (first:c.wp P (Exit.jump l (fun a w=>A.wp P (Exit.noGoto Q) a w) Q) a w):(Code.scope c).wp P Q a w :=
 wp_scope_jumps l _ (fun _ _=>0) C first (fun _ _ B=>Code.wp_mono (fun e _ _ h=>by cases e<;>first | exact h | exact (h:False).elim) B)
theorem jab (w:World) (A:Array Value) (B:TypeId):∃ W,w.alloc (.cells A B)=W/\W.heap[w.heap.size]? = some (.cells A B (0,0))/\Below w.heap.size w W/\W.heap.size=w.heap.size+1 :=
 ⟨_,rfl,World.alloc_heap_new _ _,(Below.refl _ w).alloc (Nat.le_refl _) _,by simp⟩
theorem jbq (w:World) (B:Array Value) (C:TypeId) (D:Array Value) (E:TypeId):∃ W,(w.alloc (.cells B C)).alloc (.cells D E)=W/\W.heap[w.heap.size]? = some (.cells B C (0,0))/\W.heap[w.heap.size+1]? = some (.cells D E (0,0))/\Below w.heap.size w W/\W.heap.size=w.heap.size+2:=by
 obtain⟨X,rfl,G,H,I⟩:=jab w B C;obtain⟨Y,rfl,F,A,J⟩:=jab (w.alloc (.cells B C)) D E;rw[I] at F;exact⟨_,rfl,(A.block _ (by omega)).trans G,F,H.trans (A.mono (by omega)),by omega⟩
theorem jiq (w:World) (B:Array Value) (D:TypeId) (C:Array Value) (E:TypeId) (F:Array Value) (G:TypeId):∃ W,((w.alloc (.cells B D)).alloc (.cells C E)).alloc (.cells F G)=W/\W.heap[w.heap.size]? = some (.cells B D (0,0))/\W.heap[w.heap.size+1]? = some (.cells C E (0,0))/\W.heap[w.heap.size+2]? = some (.cells F G (0,0))/\Below w.heap.size w W/\W.heap.size=w.heap.size+3:=by
 obtain⟨X,rfl,I,J,L,M⟩:=jbq w B D C E;obtain⟨Y,rfl,H,A,N⟩:=jab ((w.alloc (.cells B D)).alloc (.cells C E)) F G;rw[M] at H;exact⟨_,rfl,(A.block _ (by omega)).trans I,(A.block _ (by omega)).trans J,H,L.trans (A.mono (by omega)),by omega⟩
theorem known {n:Nat} {W A:World} {b:Nat} {o:Obj} (B:Below n W A) (C:W.heap.size<=n) (h:W.heap[b]? = some o):A.heap[b]? = some o:=(B.block _ (Nat.lt_of_lt_of_le (Array.getElem?_eq_some_iff.1 h).1 C)).trans h
end Go.Proofs.YtlmlcadcdhhlcaaGreatDoor
namespace Go.Proofs.YtlmlcadcdhhlcaaGreatDoor
open Go Go.RowKit Go.ChangeShapes Go.WideShapes Go.Deep
def U64 (n:Int):Prop:=0<=n/\n<=18446744073709551615
def SlE {α:Type} (enc:α->List Value) (k:Nat) (n₀:Nat) (w:World) (a:Option Addr) (len:Nat) (l:List α):Prop :=
 len=l.length/\∀ j x,l[j]? = some x->∃ b off,a=some ⟨b,off,none⟩/\b<n₀/\∀ i,i<k->w.cell? ⟨b,off+j*k+i,none⟩=(enc x)[i]?
section
variable {α:Type} {enc:α->List Value} {k n₀ n₁:Nat} {w A B:World} {a:Option Addr} {len cap:Nat} {l:List α}
theorem SlE.below (h:Below n₀ A B) (C:SlE enc k n₀ A a len l):SlE enc k n₀ B a len l :=
 ⟨C.1,fun j x E=>let ⟨b,off,e,hb,hc⟩:=C.2 j x E;⟨b,off,e,hb,fun i D=>(h.cell (p:=⟨b,off+j*k+i,none⟩) hb).trans (hc i D)⟩⟩
theorem SlE.mono (B:n₀<=n₁) (A:SlE enc k n₀ w a len l):SlE enc k n₁ w a len l :=
 ⟨A.1,fun j x C=>let ⟨b,off,e,hb,hc⟩:=A.2 j x C;⟨b,off,e,Nat.lt_of_lt_of_le hb B,hc⟩⟩
theorem SlE.go (C:SlE enc k A.heap.size A a len l) (h:Bw A B):SlE enc k B.heap.size B a len l:=(C.below h).mono h.size
theorem SlE.of_at (A:∀ x,(enc x).length=k) (h:SlAt n₀ w (.slice a len cap) l.length (l.flatMap enc)):SlE enc k n₀ w a len l:=SlAt.elems A h
theorem SlE.nil:SlE enc k n₀ w a 0 []:=⟨rfl,fun j x h=>by simp at h⟩
theorem SlE.drew (A:SlE enc k n₀ w a len l):SlE enc k n₀ w.drew a len l:=A
theorem SlE.take (B:SlE enc k n₀ w a len l) (m:Nat) (C:m<=len):SlE enc k n₀ w a m (l.take m) :=
 ⟨by have:=B.1;simp;omega,fun j x A=>B.2 j x (by rw[List.getElem?_take] at A;split at A;exact A;cases A)⟩
theorem SlE.drop {b A:Nat} (B:SlE enc k n₀ w (some ⟨b,A,none⟩) len l) (m:Nat):SlE enc k n₀ w (some ⟨b,A+m*k,none⟩) (len-m) (l.drop m) :=
 ⟨by have:=B.1;simp;omega,fun j x C=>by
  rw[List.getElem?_drop] at C;obtain⟨H,D,e,E,F⟩:=B.2 (m+j) x C;injection e with e1
  injection e1 with e1 e2
  subst e1;subst e2;refine⟨b,A+m*k,rfl,E,fun i G=>?_⟩;rw[<- F i G];congr 2;rw[Nat.add_mul];omega⟩
theorem SlE.at (B:SlE enc k n₀ w a len l) {j:Nat} (F:j<len):∃ x b A,l[j]? = some x/\a=some ⟨b,A,none⟩/\b<n₀/\∀ i,i<k->w.cell? ⟨b,A+j*k+i,none⟩=(enc x)[i]? := by
 have G:=B.1;obtain⟨x,C⟩:∃ x,l[j]? = some x:=⟨_,List.getElem?_eq_getElem (by omega)⟩;obtain⟨b,A,e,D,E⟩:=B.2 j x C;exact⟨x,b,A,C,e,D,E⟩
theorem SlE.set_far {p:Addr} (C:∀ x,a=some x->p.block≠x.block) (v:Value) (A:SlE enc k n₀ w a len l):SlE enc k n₀ (w.setCell p v) a len l :=
 ⟨A.1,fun j x D=>let ⟨b,off,e,hb,hc⟩:=A.2 j x D;⟨b,off,e,hb,fun i B=>by rw[World.cell?_setCell_other (h:=fun h=>C _ e (by rw[h]))];exact hc i B⟩⟩
end
def SlC {α:Type} (enc:α->List Value) (k:Nat) (n₀:Nat) (w:World) (a:Option Addr) (len cap:Nat) (l:List α):Prop :=
 SlE enc k n₀ w a len l/\len<=cap/\cap<=maxLen/\(a=none->cap=0)/\∀ x,a=some x->0<cap->x.spot=none/\x.block<n₀
section
variable {α:Type} {enc:α->List Value} {k n₀ n₁:Nat} {w A B:World} {a:Option Addr} {len cap:Nat} {l:List α}
theorem SlC.below (h:Below n₀ A B) (C:SlC enc k n₀ A a len cap l):SlC enc k n₀ B a len cap l:=⟨C.1.below h,C.2⟩
theorem SlC.mono (B:n₀<=n₁) (A:SlC enc k n₀ w a len cap l):SlC enc k n₁ w a len cap l :=
 ⟨A.1.mono B,A.2.1,A.2.2.1,A.2.2.2.1,fun x e C=>let ⟨h1,h2⟩:=A.2.2.2.2 x e C;⟨h1,Nat.lt_of_lt_of_le h2 B⟩⟩
theorem SlC.go (C:SlC enc k A.heap.size A a len cap l) (h:Bw A B):SlC enc k B.heap.size B a len cap l:=(C.below h).mono h.size
theorem SlC.take (A:SlC enc k n₀ w a len cap l) (m:Nat) (B:m<=len):SlC enc k n₀ w a m cap (l.take m):=⟨A.1.take m B,Nat.le_trans B A.2.1,A.2.2⟩
theorem SlC.nil:SlC enc k n₀ w none 0 0 ([]:List α):=⟨SlE.nil,Nat.le_refl _,Nat.zero_le _,fun _=>rfl,fun x h=>by cases h⟩
theorem SlC.set_far {p:Addr} (B:∀ x,a=some x->p.block≠x.block) (v:Value) (A:SlC enc k n₀ w a len cap l):SlC enc k n₀ (w.setCell p v) a len cap l:=⟨A.1.set_far B v,A.2⟩
end
section
variable {α:Type} {enc:α->List Value} {k n₀:Nat} {w:World} {a:Option Addr} {len cap:Nat} {l:List α}
theorem SlE.to_at (M:∀ x,(enc x).length=k) (D:0<len) (h:SlE enc k n₀ w a len l):SlAt n₀ w (.slice a len cap) l.length (l.flatMap enc):=by
 obtain⟨U,b,H,-,I,Q,-⟩:=h.at D;refine .inr ⟨b,H,cap,by rw[I,h.1],Q,fun i A=>?_⟩;rw[jdk enc k M] at A
 have G:0<k:=by
  rcases Nat.eq_zero_or_pos k with E | E
  ·subst E;simp at A
  ·exact E
 have F:=Nat.div_add_mod i k;have S:i / k<l.length:=Nat.div_lt_of_lt_mul (by rw[Nat.mul_comm];exact A);have N:i % k<k:=Nat.mod_lt _ G;obtain⟨y,O⟩:∃ y,l[i / k]? = some y:=⟨_,List.getElem?_eq_getElem S⟩;obtain⟨T,P,C,_,R⟩:=h.2 _ y O;rw[I] at C;injection C with B
 injection B with B e2
 subst B;subst e2;have J:=R _ N;have L:=jdT enc k M l (i / k) (i % k) y O N;have B:i / k*k+i % k=i:=by rw[Nat.mul_comm];exact F
 rw[Nat.add_assoc,B] at J;rw[B] at L;rw[J,L]
end
theorem jdL (P:Program) {α:Type} {enc:α->List Value} {t e:TypeId} {z:Value} {A E:Nat} (b:TypeId) (ht:P.underlying t=some (.slice e)) (F:(P.info? e).map (fun i=>(i.zero,i.size,i.bytes))=some (some z,A,E)) (U:z.cells.size=A) (T:0<A)
  {W w0:World} {B base:Nat} {v:Value} {a:Option Addr} {n m cap:Nat} {xs:List Value} {l:List α} (C:W.ownsRow base e A v n xs) (X:Below B w0 W) (M:B<=base) (G:base<=W.heap.size) (Z:∀ x,(enc x).length=A) (D:SlE enc A W.heap.size W a m l) (h:∀ x,∀ u∈enc x,u.oneCell'=true)
  (p:n<2147483648) (o:m<2147483648) (N:E<=4096) :
  ∃ d H,(Builtin.append_ #[t,t] b #[v,.slice a m cap]).run P W=.ok d H/\H.ownsRow base e A d (n+m) (xs++l.flatMap enc)/\Below B w0 H/\W.heap.size<=H.heap.size/\(∀ k,k<base->H.heap[k]? = W.heap[k]?)/\(∀ k,k<W.heap.size->some k≠v.ownBlock->H.heap[k]? = W.heap[k]?):=by
 rcases Nat.eq_zero_or_pos m with f | J
 ·subst f
  obtain rfl:l=[]:=List.eq_nil_of_length_eq_zero D.1.symm;obtain⟨i0,Y,s,w,y⟩:=info_parts F;refine⟨v,W,?_,by simpa using C,X,Nat.le_refl _,fun _ _=>rfl,fun _ _ _=>rfl⟩
  obtain⟨V,c,rfl⟩:∃ a c,v=.slice a n c:=by
   rcases C.2 with⟨rfl,rfl⟩ | ⟨g,cap,L,rfl,_⟩
   ·exact⟨none,0,rfl⟩
   ·exact⟨_,cap,rfl⟩
  cases a <;>
  ·rcases C.2 with⟨O,R⟩ | ⟨g,cap,L,O,hg,j,S,_⟩
   ·obtain⟨rfl,_,rfl⟩:V=none/\n=0/\c=0:=by simpa using O
    subst R;simp[Builtin.append_,run_underlying ht,sizeOf,typeInfo,Y,Builtin.lenOf,Builtin.firstCells,loadCells,loadCellsFrom]
   ·obtain⟨rfl,rfl⟩:V=some ⟨g,0,none⟩/\c=cap:=by simpa using O
    simp[Builtin.append_,run_underlying ht,sizeOf,typeInfo,Y,Builtin.lenOf,Builtin.firstCells,S,storeCells,loadCells,loadCellsFrom]
 ·have I:=D.to_at (cap:=cap) Z J
  rw[<- D.1] at I;have Q:(l.flatMap enc).length=m*A:=by rw[jdk enc A Z,D.1]
  exact jaH P b ht F U T C X M G I Q (fun u q=>by obtain⟨x,_,r⟩:=List.mem_flatMap.1 q;exact h x u r) p o N
theorem jeP {α:Type} {enc:α->List Value} {w:World} {base e A:Nat} {v:Value} {l:List α} (J:∀ x,(enc x).length=A) (h:w.ownsRow base e A v l.length (l.flatMap enc)) :
  ∃ a cap,v=.slice a l.length cap/\SlC enc A w.heap.size w a l.length cap l/\∀ x,a=some x->base<=x.block:=by
 have D:=jcl h;rcases h.2 with⟨rfl,M⟩ | ⟨g,cap,F,rfl,H,I,C,B,G,ht⟩
 ·have L:l=[]:=List.eq_nil_of_length_eq_zero M
  subst L;exact⟨none,0,rfl,SlC.nil,fun x h=>by cases h⟩
 ·refine⟨_,cap,rfl,⟨SlE.of_at J D,C,B,(fun h=>by cases h),fun x E _=>?_⟩,fun x E=>?_⟩
  ·cases E;exact⟨rfl,(Array.getElem?_eq_some_iff.1 I).1⟩
  ·cases E;exact H
section
variable {H:Type} {enc:TypeId × Value->H} {P:Program} {w:World} {base:Nat} {held:Bool}
theorem jeQ {α:Type} {t e:TypeId} {k:Nat} {encA:α->List Value} (hk:0<k) (ht:P.underlying t=some (.slice e)) (q:P.cellsOf e=k)
  (V:∀ n o x,DataW.trod enc P w base (fun _=>true) held n e o=some x->∃ y,o=encA y) {M:Nat} {a:Option Addr} {len cap:Nat} {x:DataW H × List MemPlace}
  (h:DataW.trod enc P w base (fun _=>true) held M t [.slice a len cap]=some x) :
  ∃ l:List α,SlC encA k w.heap.size w a len cap l:=by
 rcases open_slice ht h with⟨p,_⟩ | ⟨A,v,g,m,n,D,Pl,Q,-,r,f,u,-,R⟩
 ·simp only[List.cons.injEq,and_true,Value.slice.injEq] at p
  obtain⟨rfl,rfl,rfl⟩:=p;exact⟨[],SlC.nil⟩
 ·simp only[List.cons.injEq,and_true,Value.slice.injEq] at Q
  obtain⟨rfl,rfl,rfl⟩:=Q;rw[if_pos rfl] at u;subst u
  have B:∀ i,i<m->∃ y,A.spot=none/\A.block<w.heap.size/\∀ j,j<k->w.cell? ⟨A.block,A.off+i*k+j,none⟩=(encA y)[j]? := fun i b=>by
   obtain⟨aa,E,F⟩:=R i b;obtain⟨y,rfl⟩:=V _ _ _ F;rw[q] at E;obtain⟨_,s,U⟩:=World.cells?_some E
   have I:A.spot=none/\A.block<w.heap.size:=by
    obtain⟨ab,N,ac⟩:=R 0 (by omega);rw[q,Nat.zero_mul] at N;obtain⟨_,c,O⟩:=World.cells?_some N;have J:=O 0 hk;have ea:(A.add 0).add 0=A:=by simp[Addr.add]
    rw[ea,List.getElem?_eq_getElem (by omega)] at J;refine⟨?_,World.block_lt_of_cell? w _ J⟩;unfold World.cell? at J
    cases hs:A.spot with
    | none=>rfl
    | some z =>
     rw[hs] at J;split at J<;>simp at J
   refine⟨y,I.1,I.2,fun j hj=>?_⟩;have:=U j hj;rw[jcq I.1,jcq rfl] at this;exact this
  have X:∃ l:List α,l.length=len/\∀ i y,l[i]? = some y->A.spot=none/\A.block<w.heap.size/\∀ j,j<k->w.cell? ⟨A.block,A.off+i*k+j,none⟩=(encA y)[j]? := by
   have C:∀ i,i<len->∃ y,A.spot=none/\A.block<w.heap.size/\∀ j,j<k->w.cell? ⟨A.block,A.off+i*k+j,none⟩=(encA y)[j]? := fun i R=>B i (by omega)
   clear R r h B
   induction len with
   | zero=>exact⟨[],rfl,fun i y h=>by simp at h⟩
   | succ n ih =>
    obtain⟨l,E,F⟩:=ih (fun i R=>C i (by omega));obtain⟨y,T⟩:=C n (by omega);refine⟨l++[y],by simp[E],fun i z L=>?_⟩;by_cases Z:i<l.length
    ·rw[List.getElem?_append_left Z] at L
     exact F i z L
    ·have Y:=(List.getElem?_eq_some_iff.1 L).1
     have:i=n:=by simp at Y;omega
     subst this;rw[List.getElem?_append_right (by omega),E] at L;simp at L;subst L;exact T
  obtain⟨l,d,G⟩:=X;refine⟨l,⟨d.symm,fun j y T=>?_⟩,r,f,fun h=>by (cases h),fun y T S=>?_⟩
  ·obtain⟨E,F,h3⟩:=G j y T
   exact⟨A.block,A.off,by congr 1;cases A;simp_all,F,h3⟩
  ·cases T
   obtain⟨_,E,F,_⟩:=B 0 S;exact⟨E,F⟩
end
end Go.Proofs.YtlmlcadcdhhlcaaGreatDoor
namespace Go.Proofs.YtlmlcadcdhhlcaaGreatDoor
open Go Go.RowKit
structure Sk where
 kind:Int
 level:Int
 e:List Int
 hb:Int
 hr:ByteArray
 cr:Int
 cc:Int
 cl:List Int
 gf:Int
 gl:List (Int × Int)
def jca (n:Int):List Value:=[.int .u64 n]
def jin (l:List Int):Prop:=∀ n∈l,U64 n
def I64 (n:Int):Prop := -9223372036854775808<=n/\n<=9223372036854775807
def ji5 (l:List (Int × Int)):Prop:=∀ b∈l,I64 b.1/\U64 b.2
structure SS where
 ea:Option Addr
 el:Nat
 ec:Nat
 ca:Option Addr
 cl:Nat
 cc:Nat
 ga:Option Addr
 gl:Nat
 gc:Nat
abbrev skv (X:Sk) (S:SS):Array Value:=#[.int .i64 X.kind,.int .i64 X.level,.slice S.ea S.el S.ec,.int .i64 X.hb,.string X.hr,.int .i64 X.cr,.int .i64 X.cc,.slice S.ca S.cl S.cc,.int .i64 X.gf,.slice S.ga S.gl S.gc]
abbrev zsV:Array Value:=#[.int .i64 0,.int .i64 0,.slice none 0 0,.int .i64 0,.string ⟨#[]⟩,.int .i64 0,.int .i64 0,.slice none 0 0,.int .i64 0,.slice none 0 0]
def Sk.ok (x:Sk):Prop:=I64 x.kind/\I64 x.level/\jin x.e/\I64 x.hb/\I64 x.cr/\I64 x.cc/\jin x.cl/\I64 x.gf/\ji5 x.gl
end Go.Proofs.YtlmlcadcdhhlcaaGreatDoor
namespace Go.Proofs.YtlmlcadcdhhlcaaGreatDoor
open Go Go.RowKit
theorem jdA:Tryz.prog.underlying 46=some (.slice 22):=by kernel_rfl
theorem jdp:(Tryz.prog.info? 22).map (fun i=>(i.zero,i.size,i.bytes))=some (some (.int .u64 0),1,8):=by kernel_rfl
end Go.Proofs.YtlmlcadcdhhlcaaGreatDoor
namespace Go.Proofs.YtlmlcadcdhhlcaaGreatDoor
open Go Go.RowKit
end Go.Proofs.YtlmlcadcdhhlcaaGreatDoor
namespace Go.Proofs.YtlmlcadcdhhlcaaGreatDoor
open Go Go.RowKit
theorem bDr {B:Nat} {w A:World} (h:Below B w A):∀ n,Below B w (A.drewN n)
 | 0=>h
 | n+1=>(bDr h n).drew
end Go.Proofs.YtlmlcadcdhhlcaaGreatDoor
namespace Go.Proofs.YtlmlcadcdhhlcaaGreatDoor
open Go Go.RowKit Go.Shelf
def jdj (a:Option Addr) (cap m k:Nat):Option Addr:=if cap=m then a else a.map (·.add (m*k))
theorem SlC.drop {α:Type} {enc:α->List Value} {k F:Nat} {w:World} {a:Option Addr} {len cap:Nat} {l:List α} (C:SlC enc k F w a len cap l) (m:Nat) (Q:m<=len):SlC enc k F w (jdj a cap m k) (len-m) (cap-m) (l.drop m):=by
 have P:=C.1.1;have O:=C.2.1;have N:=C.2.2.1;refine⟨⟨by rw[List.length_drop];omega,fun j x A=>?_⟩,by omega,by omega,fun h=>?_,fun x A E=>?_⟩
 ·rw[List.getElem?_drop] at A
  obtain⟨b,D,e,J,B⟩:=C.1.2 (m+j) x A;have M:=(List.getElem?_eq_some_iff.1 A).1;refine⟨b,D+m*k,?_,J,fun i L=>?_⟩
  ·rw[jdj,if_neg (by omega),e,Option.map_some,jcq rfl]
  ·rw[<- B i L];congr 2;rw[Nat.add_mul];omega
 ·by_cases G:cap=m
  ·omega
  ·rw[jdj,if_neg G] at h
   have:=C.2.2.2.1 (by simpa using h);omega
 ·rw[jdj,if_neg (by omega)] at A
  cases a with
  | none=>cases A
  | some z =>
   obtain⟨H,I⟩:=C.2.2.2.2 z rfl (by omega);rw[Option.map_some] at A;injection A with A
   rw[<- A,jcq H];exact⟨rfl,I⟩
theorem jb8 (a:Option Addr) (cap k:Nat):jdj a cap 0 k=a:=by
 unfold jdj;split
 ·rfl
 ·cases a<;>simp[Addr.add]
end Go.Proofs.YtlmlcadcdhhlcaaGreatDoor
namespace Go.Proofs.YtlmlcadcdhhlcaaGreatDoor
open Go Go.RowKit Go.Shelf
attribute [local go_sem] Oper.semAt_some
def jdb (s:ByteArray):List (Nat × UInt8):=(List.range s.size).map fun i=>(i,s.data.toList.getD i 0)
theorem je1 (s:ByteArray):(jdb s).length=s.size:=by simp[jdb]
theorem jeL (s:ByteArray) (k:Nat) (h:k<s.size):(jdb s)[k]? = some (k,s[k]'h):=by
 simp[jdb,h];rfl
end Go.Proofs.YtlmlcadcdhhlcaaGreatDoor
namespace Go.Proofs.YtlmlcadcdhhlcaaGreatDoor
open Go Go.RowKit
theorem jay {W:World} {p:Addr} {b:Nat} (h:p.block≠b) (v:Value):(W.setCell p v).heap[b]? = W.heap[b]? := by
 show (W.heap.modify p.block _)[b]? = _;rw[Array.getElem?_modify];simp[h]
theorem jhr (W:World) (p:Addr) (v:Value):(W.setCell p v).heap.size=W.heap.size:=by simp[World.setCell]
end Go.Proofs.YtlmlcadcdhhlcaaGreatDoor
namespace Go.Proofs.YtlmlcadcdhhlcaaGreatDoor
open Go Go.RowKit
end Go.Proofs.YtlmlcadcdhhlcaaGreatDoor
namespace Go.Proofs
open Go.Shelf
def Tryz.lays169_ren:Go.Shelf.Ren:=⟨fun | 169=>33 | n=>n,fun | 70=>83 | 9=>9 | 0=>0 | 72=>86 | 37=>84 | 127=>150 | 3=>3 | 5=>5 | n=>n,fun | n=>n⟩
theorem Tryz.lays169:Go.Proofs.Lays.n169 Tryz.prog Tryz.lays169_ren:={
 mixed:=by kernel_rfl
 f169:=Tryz.func33.trans (congrArg some (by kernel_rfl))
 t0:=Tryz.underlying0
 a0:=Tryz.isAgg0
 z0:=Tryz.sizeOf0
 v0:=Tryz.zeroValue0
 t3:=Tryz.underlying3
 a3:=Tryz.isAgg3
 z3:=Tryz.sizeOf3
 v3:=Tryz.zeroValue3
 t9:=Tryz.underlying9
 a9:=Tryz.isAgg9
 z9:=Tryz.sizeOf9
 v9:=Tryz.zeroValue9
 t37:=Tryz.underlying84
 a37:=Tryz.isAgg84
 z37:=Tryz.sizeOf84
 v37:=Tryz.zeroValue84
 t70:=Tryz.underlying83
 a70:=Tryz.isAgg83
 z70:=Tryz.sizeOf83
 v70:=Tryz.zeroValue83
 t72:=Tryz.underlying86
 a72:=Tryz.isAgg86
 z72:=Tryz.sizeOf86
 v72:=Tryz.zeroValue86
 t127:=Tryz.underlying150
 a127:=Tryz.isAgg150
 z127:=Tryz.sizeOf150
 v127:=Tryz.zeroValue150 }
theorem Tryz.Builder_Extra_169:Builder.Extra Tryz.prog Tryz.lays169_ren:={
 sizeBuilder:=by kernel_rfl
 liesBuilder:=by kernel_rfl
 t5:=Tryz.underlying5
 a5:=Tryz.isAgg5
 z5:=Tryz.sizeOf5
 v5:=Tryz.zeroValue5
 infoByte:=by kernel_rfl
 cellsByte:=by kernel_rfl
 sizeByte:=by kernel_rfl
 neB5:=by decide }
def Tryz.lays156_ren:Go.Shelf.Ren:=⟨fun | 156=>101 | 165=>127 | 166=>30 | 169=>33 | 240=>60 | 241=>154 | 276=>85 | 277=>187 | n=>n,fun | 31=>80 | 9=>9 | 3=>3 | 4=>4 | 0=>0 | 20=>20 | 72=>86 | 76=>89 | 70=>83 | 37=>84 | 75=>88 | 127=>150 | 164=>191 | 5=>5 | 80=>93 | n=>n,fun | n=>n⟩
theorem Tryz.lays156:Go.Proofs.Lays.n156 Tryz.prog Tryz.lays156_ren:={
 mixed:=by kernel_rfl
 f156:=Tryz.func101.trans (congrArg some (by kernel_rfl))
 f165:=Tryz.func127.trans (congrArg some (by kernel_rfl))
 f166:=Tryz.func30.trans (congrArg some (by kernel_rfl))
 f169:=Tryz.func33.trans (congrArg some (by kernel_rfl))
 f240:=Tryz.func60.trans (congrArg some (by kernel_rfl))
 f241:=Tryz.func154.trans (congrArg some (by kernel_rfl))
 f276:=Tryz.func85.trans (congrArg some (by kernel_rfl))
 f277:=Tryz.func187.trans (congrArg some (by kernel_rfl))
 t0:=Tryz.underlying0
 a0:=Tryz.isAgg0
 z0:=Tryz.sizeOf0
 v0:=Tryz.zeroValue0
 t3:=Tryz.underlying3
 a3:=Tryz.isAgg3
 z3:=Tryz.sizeOf3
 v3:=Tryz.zeroValue3
 t4:=Tryz.underlying4
 a4:=Tryz.isAgg4
 z4:=Tryz.sizeOf4
 v4:=Tryz.zeroValue4
 t9:=Tryz.underlying9
 a9:=Tryz.isAgg9
 z9:=Tryz.sizeOf9
 v9:=Tryz.zeroValue9
 t20:=Tryz.underlying20
 a20:=Tryz.isAgg20
 z20:=Tryz.sizeOf20
 v20:=Tryz.zeroValue20
 t31:=Tryz.underlying80
 a31:=Tryz.isAgg80
 z31:=Tryz.sizeOf80
 v31:=Tryz.zeroValue80
 t37:=Tryz.underlying84
 a37:=Tryz.isAgg84
 z37:=Tryz.sizeOf84
 v37:=Tryz.zeroValue84
 t70:=Tryz.underlying83
 a70:=Tryz.isAgg83
 z70:=Tryz.sizeOf83
 v70:=Tryz.zeroValue83
 t72:=Tryz.underlying86
 a72:=Tryz.isAgg86
 z72:=Tryz.sizeOf86
 v72:=Tryz.zeroValue86
 t75:=Tryz.underlying88
 a75:=Tryz.isAgg88
 z75:=Tryz.sizeOf88
 v75:=Tryz.zeroValue88
 t76:=Tryz.underlying89
 a76:=Tryz.isAgg89
 z76:=Tryz.sizeOf89
 v76:=Tryz.zeroValue89
 t127:=Tryz.underlying150
 a127:=Tryz.isAgg150
 z127:=Tryz.sizeOf150
 v127:=Tryz.zeroValue150
 t164:=Tryz.underlying191
 a164:=Tryz.isAgg191
 z164:=Tryz.sizeOf191
 v164:=Tryz.zeroValue191 }
theorem Tryz.Builder_Extra_156:Builder.Extra Tryz.prog Tryz.lays156_ren:={
 sizeBuilder:=by kernel_rfl
 liesBuilder:=by kernel_rfl
 t5:=Tryz.underlying5
 a5:=Tryz.isAgg5
 z5:=Tryz.sizeOf5
 v5:=Tryz.zeroValue5
 infoByte:=by kernel_rfl
 cellsByte:=by kernel_rfl
 sizeByte:=by kernel_rfl
 neB5:=by decide }
open Go.RowKit in
theorem Tryz.strings_Join (E o c:Nat) (xs:List ByteArray) (B:ByteArray) (w:World) (A:∀ (j:Nat) x,xs[j]? = some x->w.cell? ⟨E,o+j,none⟩=some (.string x)) (F:E<w.heap.size) (G:xs.length<=140737488355328) (C:xs.length<=c) (D:(Lib.join (xs.map (·.data.toList)) B.data.toList).length<=140737488355328) :
  Calls Tryz.prog 101 #[.slice (some ⟨E,o,none⟩) xs.length c,.string B] w fun e H=>e=.returned (.string ⟨(Lib.join (xs.map (·.data.toList)) B.data.toList).toArray⟩)/\Below w.heap.size w H:=Any.strings_Join Tryz.lays156 Tryz.Builder_Extra_156 E o c xs B w A F G C D
open Go.RowKit in
theorem Tryz.Builder_String_any_f (B b:Nat) (l:List UInt8) (w:World) (h:Lib.IsBuilderF 86 5 B b (Lib.byteCells l) w) (A:B<=w.heap.size) :
  Calls Tryz.prog 33 #[.pointer (some ⟨b,0,none⟩)] w fun e C=>e=.returned (.string ⟨l.toArray⟩)/\(Lib.IsBuilderF 86 5 B b (Lib.byteCells l) C/\Below B w C):=Any.Builder_String_any_f Tryz.lays169 Tryz.Builder_Extra_169 B b l w h A
def Tryz.lays129_ren:Go.Shelf.Ren:=⟨fun | 129=>79 | n=>n,fun | 53=>22 | 3=>3 | 4=>4 | 46=>177 | 5=>5 | 9=>9 | n=>n,fun | n=>n⟩
theorem Tryz.lays129:Go.Proofs.Lays.n129 Tryz.prog Tryz.lays129_ren:={
 mixed:=by kernel_rfl
 f129:=Tryz.func79.trans (congrArg some (by kernel_rfl))
 t3:=Tryz.underlying3
 a3:=Tryz.isAgg3
 z3:=Tryz.sizeOf3
 v3:=Tryz.zeroValue3
 t4:=Tryz.underlying4
 a4:=Tryz.isAgg4
 z4:=Tryz.sizeOf4
 v4:=Tryz.zeroValue4
 t5:=Tryz.underlying5
 a5:=Tryz.isAgg5
 z5:=Tryz.sizeOf5
 v5:=Tryz.zeroValue5
 t9:=Tryz.underlying9
 a9:=Tryz.isAgg9
 z9:=Tryz.sizeOf9
 v9:=Tryz.zeroValue9
 t46:=Tryz.underlying177
 a46:=Tryz.isAgg177
 z46:=Tryz.sizeOf177
 v46:=Tryz.zeroValue177
 t53:=Tryz.underlying22
 a53:=Tryz.isAgg22
 z53:=Tryz.sizeOf22
 v53:=Tryz.zeroValue22 }
theorem Tryz.bits_Len64 (x:Int) (w:World) (A:0<=x) (B:x<=18446744073709551615) :
  Calls Tryz.prog 79 #[.int .u64 x] w fun e C=>e=.returned (.int .i64 (Lib.bitLen x.toNat))/\C=w:=Any.bits_Len64 Tryz.lays129 x w A B
end Go.Proofs
namespace Go.Proofs.YtlmlcadcdhhlcaaGreatDoor
open Go Go.RowKit
def Sk.fit (x:Sk):Prop:=∀ b∈x.gl,b.1<=9223372036854775807
end Go.Proofs.YtlmlcadcdhhlcaaGreatDoor
namespace Go.Proofs.YtlmlcadcdhhlcaaGreatDoor
open Go Go.RowKit
def Item.ok (i:Nat × Int):Prop:=i.1<2^64/\U64 i.2
end Go.Proofs.YtlmlcadcdhhlcaaGreatDoor
namespace Go.Proofs.YtlmlcadcdhhlcaaGreatDoor
open Go Go.RowKit
section
variable {F:Fence} {n:Nat} {P:Program} {ops:Array Oper} {Q:Exit->Act->World->Prop} {md:Region.Mode} {l:Nat}
theorem jeS {o:Oper} {K:Act->World->Prop} {a:Act} {w:World} (B:F.round=none) (C:∀ c,o.op≠.defer c) (h:o.wpIn F n P a w K Q):o.wpIn (F.inRound l) n P a w K Q:=by
 unfold Oper.wpIn at h ⊢;refine⟨h.1,?_⟩;have A:=h.2;rw[B,Oper.semAt_none] at A;rw[Fence.inRound_round,Oper.semAt_some _ _ _ C];generalize (execOp a.eval o).run P w=r at A ⊢
 cases r with
 | ok x w'=>cases x<;>exact A
 | halt x w'=>cases x<;>exact A
theorem jet {i:Nat} {K:Act->World->Prop} {a:Act} {w:World} (B:F.round=none) (D:∀ (i:Nat) (o:Oper),ops[i]? = some o->∀ c,o.op≠.defer c) (h:wpOpIn F n P ops Q i K a w):wpOpIn (F.inRound l) n P ops Q i K a w:=by
 unfold wpOpIn at h ⊢
 cases A:ops[i]? with
 | none=>simpa only[A] using h
 | some o =>
  simp only[A] at h ⊢;split
  ·rename_i C;rw[if_pos C] at h;exact jeS B (D i o A) h
  ·rename_i C;rw[if_neg C] at h;exact h
theorem jdC (C:F.round=none) (G:∀ (i:Nat) (o:Oper),ops[i]? = some o->∀ c,o.op≠.defer c) (B:Nat):∀ (A:Array Bool) (a:Act) (w:World),wpAnyIn F n P md ops Q B A a w->wpAnyIn (F.inRound l) n P md ops Q B A a w:=by
 induction B with
 | zero=>intro A a w h;exact h
 | succ B ih=>intro A a w h;exact⟨h.1,fun i H=>jet C G (wpOpIn_mono (fun D I E=>ih (A.setIfInBounds i true) D I E) (h.2 i H))⟩
def jds (ops:Array Oper):Bool:=ops.toList.all fun o=>match o.op with | .defer _=>false | _=>true
theorem jdt (h:jds ops=true):∀ (i:Nat) (o:Oper),ops[i]? = some o->∀ c,o.op≠.defer c:=by
 intro i o B c C;rw[jds,List.all_eq_true] at h;have A:=h o (by rw[<- Array.getElem?_toList] at B;exact List.mem_of_getElem? B);rw[C] at A
 cases A
theorem jch {D:Nat} {a:Act} {w:World} (A:F.round=none) (C:P.follows .mixedOrders=true) (B:jds ops=true)
  (h:wpAnyIn F n P .any ops Q ops.size (Array.replicate ops.size false) a w.drew):(Code.region D ops true).wpIn (F.inRound l) n P Q a w :=
 wpIn_region_any C (jdC A (jdt B) _ _ _ _ h)
end
end Go.Proofs.YtlmlcadcdhhlcaaGreatDoor
namespace Go.Proofs.YtlmlcadcdhhlcaaGreatDoor
open Go Go.RowKit Go.Shelf
attribute [local go_sem] Oper.semAt_some
structure Lab where
 name:ByteArray
 value:ByteArray
def Lab.ok (l:Lab):Prop:=l.name.size<4294967281/\l.value.size<4294967281
def Lab.enc (l:Lab):List Value:=[.string l.name,.string l.value]
end Go.Proofs.YtlmlcadcdhhlcaaGreatDoor
namespace Go.Proofs.YtlmlcadcdhhlcaaGreatDoor
open Go Go.RowKit
structure Ent where
 seq:Int
 tm:Int
 text:ByteArray
 sum:Int
def Ent.enc (x:Ent):List Value:=[.int .u64 x.seq,.int .u64 x.tm,.string x.text,.int .u64 x.sum]
end Go.Proofs.YtlmlcadcdhhlcaaGreatDoor
namespace Go.Proofs.YtlmlcadcdhhlcaaGreatDoor
open Go Go.RowKit Go.Shelf
def OwnX {β:Type} (B Bs:Nat) (I:β->World->Prop):Prop :=
 ∀ s W W' row,I s W->W.grownBy W' row->(∀ r,row=some r->r=Bs\/(B<=r/\∃ o:Obj,W.heap[r]? = some o/\o.isCells=false))->I s W'
theorem OwnX.from {β:Type} {B A:Nat} {I:β->World->Prop} (h:OwnX B A I):OwnFrom B I:=fun s W C row F D E=>h s W C row F D (fun r e=>.inr (E r e))
theorem OwnX.and {β:Type} {B A:Nat} {I C:β->World->Prop} (h:OwnX B A I) (H:OwnX B A C):OwnX B A (fun s W=>I s W/\C s W):=fun s W D row G E F=>⟨h s W D row G.1 E F,H s W D row G.2 E F⟩
theorem jfv {β:Type} {A B C:Nat} {D:World} (F:A<=D.heap.size) (I:A<=B) (J:A<=C):OwnX B C (fun (_:β) W=>Below A D W) :=
 fun _ _ _ _ h E G=>h.grown E (Nat.le_trans F h.size) (fun k e=>by rcases G k e with rfl | ⟨H,_⟩<;>omega)
theorem jdu {β:Type} (C D B:Nat) (t:TypeId) (f:β->Value) (A:B≠D):OwnX C D (fun s W=>Boxed W B t (f s)):=fun s X Y row F H I=>by
 refine F.kept H (fun e=>?_);rcases I B e.symm with rfl | ⟨_,o,E,G⟩
 ·exact A rfl
 ·rw[show X.heap[B]? = _ from F] at E;cases E;cases G
def jfI {β:Type} (B Bs:Nat) (J:β->World->Prop):Prop :=
 ∀ s W W' row,J s W->W.grownBy W' row->(∀ r,row=some r->r=Bs)->B<=W.heap.size->J s W'
end Go.Proofs.YtlmlcadcdhhlcaaGreatDoor
namespace Go.Proofs.YtlmlcadcdhhlcaaGreatDoor
open Go Go.RowKit Go.Shelf
theorem jdo (w:World):CR 73 #[] w (.agg #[.int .u64 1,.slice none 0 0]):=by
 go_enter Tryz.func73,Tryz.ntmps73;go_wp2_with fail;exact bodyPost_ret (v:=.agg #[.int .u64 1,.slice none 0 0]) (by simp[results,Tryz.results73,go_sem]) rfl ⟨rfl,(Below.refl _ _).alloc (Nat.le_refl _) _⟩
end Go.Proofs.YtlmlcadcdhhlcaaGreatDoor
