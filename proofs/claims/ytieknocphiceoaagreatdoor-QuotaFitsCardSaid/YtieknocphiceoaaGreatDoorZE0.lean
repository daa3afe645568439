/- Plain lemmas and words of my own, of no program: the runes of a string, owned memory, lists in slices. Words of my own, of no program: slices in memory, boxes, a range over a function in a plain walk. Plain lemmas: a fold that may fail, along a list; cells of slices of structs. Rows of laws: what a call that answers true and changes nothing leaves; arguments opened to the walks' words. Of no program. Appends of many cells, makes: as run equations. A drawn region whose operations yield fixed values in every world of a class: one walk, in the order of the text. Boxes. Slices by their elements: whatever address an empty one has. Of no program. Sketches as plain data; which are right (layers 6 to 10). No program in sight. A sketch as an argument has it. Exact sets as plain data: insertion into rising numbers. No program in sight. -/
import Derived.WalkKit
import Derived.LoopTactic
import Derived.WalkLawsBesides
import Derived.WalkSpells
import Derived.Lib.Hide
import Derived.Laws.RangeAny
import Derived.Lib.OthersKept
import Derived.Lib.Strings
import Derived.RangeFuncNested
import Derived.RangeFuncBound
import Derived.RangeFuncCalls
import Derived.RangeFuncLeaves
import Derived.Shelf.Abstract
import Derived.Shelf.RegionOpen
import Derived.OwnWalkIn
import Derived.TacticsInMore
import Derived.LoopNIn
import Derived.LoopIn
import Derived.Outline
import Derived.BigGuardIn
import Derived.WalkMore
import Derived.ProofKit
import Derived.OpenShut
import Derived.Carry
import Derived.Deep.Slices
import Derived.Deep.Fields
import Derived.Deep.DeepHandedRow
import Derived.Lib.SmallJoins
import Derived.Deep.RegionLaw
import Derived.BigQuiet
import Derived.BigRegion
import Derived.Deep.QuietTactic
import Derived.ScopeJumps
namespace Go.Proofs.YtieknocphiceoaaGreatDoor
open Go Go.RowKit
def jcS (s:ByteArray):Nat->Nat->List (Nat × Int)
 | 0,_=>[]
 | f+1,pos=>if pos<s.size then (pos,((Utf8.decode s pos).1:Int))::jcS s f (pos+(Utf8.decode s pos).2) else []
def rl (s:ByteArray) (pos:Nat):List (Nat × Int):=jcS s (s.size-pos) pos
theorem jdM (s:ByteArray) (pos:Nat) (h:pos<s.size):1<=(Utf8.decode s pos).2:=by
 by_cases ha:(s[pos]'h).toNat<128
 ·rw[decode_ascii s pos h ha];exact Nat.le_refl 1
 ·exact (decode_high s pos h (by omega)).2
theorem jfv (s:ByteArray):∀ (f g pos:Nat),s.size-pos<=f->s.size-pos<=g->jcS s f pos=jcS s g pos
 | 0,0,_,_,_=>rfl
 | 0,g+1,pos,h,_=>by simp[jcS];omega
 | f+1,0,pos,_,h=>by simp[jcS];omega
 | f+1,g+1,pos,hf,hg=>by
  simp only[jcS];split
  ·rename_i hlt
   have:=jdM s pos hlt;rw[jfv s f g _ (by omega) (by omega)]
  ·rfl
theorem jd0 (s:ByteArray) (pos:Nat) (h:pos<s.size):rl s pos=(pos,((Utf8.decode s pos).1:Int))::rl s (pos+(Utf8.decode s pos).2):=by
 have hd:=jdM s pos h;unfold rl;obtain⟨f,hf⟩:∃ f,s.size-pos=f+1:=⟨s.size-pos-1,by omega⟩;rw[hf];simp only[jcS,h,if_true];rw[jfv s f _ _ (by omega) (Nat.le_refl _)]
theorem jej (s:ByteArray) (pos:Nat) (h:¬ pos<s.size):rl s pos=[]:=by
 unfold rl;rw[show s.size-pos=0 by omega];rfl
theorem jgI (s:ByteArray):∀ (f pos:Nat),(jcS s f pos).length<=f
 | 0,_=>by simp[jcS]
 | f+1,pos=>by
  simp only[jcS];split
  ·have:=jgI s f (pos+(Utf8.decode s pos).2);simp;omega
  ·simp
theorem jqh (s:ByteArray) (pos:Nat):(rl s pos).length<=s.size-pos:=jgI s _ _
theorem jdc (s:ByteArray):s.toList.isEmpty=(s.size==0):=by
 rw[Lib.toList_data,Lib.size_eq]
 cases s.data.toList<;>simp
theorem jaZ {w:World} {k:Nat} {s:ByteArray} {p:Nat} (h:w.heap[k]? = some (.stringIter s p)):w.iterPos k=p:=by simp[World.iterPos,h]
theorem jd7 {P:Program} {w0 w:World} {B k:Nat} {s:ByteArray} {pos:Nat} (hk:w.heap[k]? = some (.stringIter s pos)) (hB:Below B w0 w) (hBk:B<=k) (h:pos<s.size) :
  ∃ w1:World,(∀ ty,(Instr.next (.pointer (some ⟨k,0,none⟩)) true ty).run P w=.ok (.tuple #[.bool true,.int .i64 pos,.int .i32 (Utf8.decode s pos).1]) w1) /\
   w1.heap[k]? = some (.stringIter s (pos+(Utf8.decode s pos).2))/\Below B w0 w1/\w1.heap.size=w.heap.size/\(∀ j,j≠k->w1.heap[j]? = w.heap[j]?) :=
 ⟨_,fun ty=>Lib.run_next_any_at w k s pos ty hk h,Lib.iterAt_heap w k s pos _ hk,Lib.below_iterAt hB hBk s _,Lib.iterAt_size w k s _,fun j hj=>Lib.iterAt_other w k j s _ hj⟩
end Go.Proofs.YtieknocphiceoaaGreatDoor
namespace Go.Proofs.YtieknocphiceoaaGreatDoor
open Go Go.RowKit Go.Shelf
def SlAt (n₀:Nat) (w:World) (sv:Value) (n:Nat) (cs:List Value):Prop :=
 (sv=.slice none 0 0/\n=0/\cs=[])\/∃ b off cap,sv=.slice (some ⟨b,off,none⟩) n cap/\b<n₀/\∀ i,i<cs.length->w.cell? ⟨b,off+i,none⟩=cs[i]?
theorem SlAt.below {n₀:Nat} {A B:World} (h:Below n₀ A B) {sv:Value} {n:Nat} {cs:List Value}:SlAt n₀ A sv n cs->SlAt n₀ B sv n cs
 | .inl e=>.inl e
 | .inr ⟨b,off,cap,e,hb,hc⟩=>.inr ⟨b,off,cap,e,hb,fun j hj=>(h.cell (p:=⟨b,off+j,none⟩) hb).trans (hc j hj)⟩
theorem SlAt.mono {n₀ n₁:Nat} (hn:n₀<=n₁) {w:World} {sv:Value} {n:Nat} {cs:List Value}:SlAt n₀ w sv n cs->SlAt n₁ w sv n cs
 | .inl e=>.inl e
 | .inr ⟨b,off,cap,e,hb,hc⟩=>.inr ⟨b,off,cap,e,Nat.lt_of_lt_of_le hb hn,hc⟩
theorem jcz {n:Nat} {W W':World} (h:Below n W W') {B t:Nat} {v:Value} (hB:B<n) (hb:Boxed W B t v):Boxed W' B t v:=(h.block B hB).trans hb
theorem jkM {n B:Nat} {W W':World} (h:Below n W W') (hn:W.heap.size<=n):KeepsFrom B W W' :=
 ⟨h.size,fun k _ _ hk _=>(h.block k (by have:=(Array.getElem?_eq_some_iff.1 hk).1;omega)).trans hk⟩
theorem jaT {P:Program} {f:FuncId} {fn:Func} {c:Code} {args:Array Value} {w:World} {R:Ending->World->Prop} (hf:P.funcs[f]? = some fn) (hb:fn.body=some c)
  (h:c.wp P (bodyPostM Fence.wide 9 P fn R) { tmps:=args++Array.replicate (fn.ntmps-args.size) undef,defers:=[] } w):Calls P f args w R :=
 (callsIn_wide (n:=9)).1 (callsIn_of_wp_marks hf hb trivial (wpIn_wide.2 h) rfl)
theorem jci {P:Program} {fn:Func} {R:Ending->World->Prop} {a:Act} {w:World} {v:Value} (hr:(results fn a.tmps).run P w=.ok v w) (hd:a.defers=[]) (hR:R (.returned v) w) :
  bodyPostM Fence.wide 9 P fn R .ret a w:=by
 show LeavesInM Fence.wide 9 P fn a.tmps R a.defers .returning w;rw[hd];exact⟨v,hr,hR⟩
theorem jbY {P:Program} {fn:Func} {R:Ending->World->Prop} {tmps:Array Value} {w:World} {D:Nat} {v:Value} (hK:w.heap[D]? = some (.deferred (some [])))
  (hr:(results fn tmps).run P (w.putObj D (.deferred none))=.ok v (w.putObj D (.deferred none))) (hR:R (.returned v) (w.putObj D (.deferred none))) :
  bodyPostM Fence.wide 9 P fn R .ret { tmps:=tmps,defers:=[{ target:=.collected D,args:=#[] }] } w:=by
 refine⟨by simp,.inl ⟨_,_,rfl,run_takeDeferred hK,?_⟩⟩;exact⟨v,hr,hR⟩
theorem jls {n D:Nat} {w0 W:World} (h:Below n w0 W) (hD:n<=D) (hK:W.heap[D]? = some (.deferred (some []))):Below n w0 (W.putObj D (.deferred none)) :=
 h.trans ((Below.refl n W).grown (grownBy_putObj' W D _) (by have:=(Array.getElem?_eq_some_iff.1 hK).1;omega) (fun k e=>by cases e;omega))
theorem jlm {α:Type} {P:Program} {g:Operand} {ps:Array Tmp} {assign body:Code} {Q:Exit->Act->World->Prop} {a:Act} {w:World}
  {gf:Nat} {lb:Array Value} (hg:a.eval g=.func (.func gf) #[] lb) (eg:∀ args w,(callFunc gf args).run P w=.ok (.enter gf args) w)
  {encs:α->Array Value} {n₀:Nat} {xs:List α} {N:Nat} {w0:World} (hseq:SeqStopsK Fence.wide 8 P gf lb encs (Below n₀) (fun ys=>ys=xs) (fun pre=>pre <+: xs) N w0)
  (hn₀:n₀<=w.heap.size) (hb0:Below w0.heap.size w0 w) (hps:∀ x,(encs x).size=ps.size)
  (I:List α->World->Prop) (Ix:Code->List α->World->Prop) (hI:OwnFrom w.heap.size I) (hIx:∀ c,OwnFrom w.heap.size (Ix c)) (h0:I [] w) (Ax:α->Act->World->Prop) (hAx:∀ x a',OwnFrom w.heap.size (fun (_:Unit) W=>Ax x a' W))
  (hassign:∀ (l:Nat) (pre:List α) (x:α) (W:World) (K:Act->World->Prop),I pre W->(∀ a' W',KeepsFrom w.heap.size W W'->Below n₀ W W'->I pre W'->Ax x a' W'->K a' W') ->
   assign.wpIn (Fence.wide.inRound l) 7 P (Exit.then K (fun _ _ _=>False)) { tmps:=(ps.zip (encs x)).foldl (fun t (p,v)=>t.setIfInBounds p v) a.tmps,defers:=[] } W)
  (hbody:∀ (l:Nat) (pre:List α) (x:α) (a':Act) (W:World),I pre W->Ax x a' W->pre.length<N->body.wpIn (Fence.wide.inRound l) 7 P (ownPostG w.heap.size (Below n₀) I Ix (pre++[x]) W) a' W)
  (hdone:∀ (D:Nat) (W:World),w.heap.size<=D->I xs W->W.heap[D]? = some (.deferred (some []))->Q .normal { a with defers:={ target:=.collected D,args:=#[] }::a.defers } W)
  (hstop:∀ (D:Nat) (c:Code) (pre:List α) (W:World),w.heap.size<=D->pre <+: xs->Ix c pre W->W.heap[D]? = some (.deferred (some []))->c.wp P Q { a with defers:={ target:=.collected D,args:=#[] }::a.defers } W) :
  (Code.rangeFunc g ps assign body).wp P Q a w :=
 (wpIn_wide (n:=9)).1 (wpIn_rangeFunc_ownH rfl (by omega) hg trivial eg hseq belowK_t (belowK_b hn₀) hb0 hps I Ix hI hIx h0 Ax hAx hassign
  (fun l pre x a' W _ _ hi hax hlt=>hbody l pre x a' W hi hax hlt) (fun D ys W hD e hi hK=>by subst e;exact hdone D W hD hi hK) (fun D c pre W hD hp hi hK=>wpIn_wide.2 (hstop D c pre W hD hp hi hK)))
theorem jjj {β:Type} (C B:Nat) (t:TypeId) (f:β->Value):OwnFrom C (fun s W=>Boxed W B t (f s)):=Own.from (boxed_own B t f) C
theorem jpF {β:Type} (C B:Nat) (f:β->Array Value) (t:TypeId):OwnFrom C (fun s W=>W.heap[B]? = some (.cells (f s) t (0,0))):=fun s X Y row hs hg hr=>by
 refine (hg.block B (Array.getElem?_eq_some_iff.1 hs).1 (fun e=>?_)).trans hs;obtain⟨_,o,ho,hc⟩:=hr B e.symm;rw[hs] at ho;cases ho;cases hc
theorem cCc {W:World} {B:Nat} {c:Array Value} {t:TypeId} {fz:Nat × Nat} (h:W.heap[B]? = some (.cells c t fz)) (i:Nat):W.cell? ⟨B,i,none⟩=c[i]? := by simp[World.cell?,h]
theorem cFz {W:World} {B:Nat} {c:Array Value} {t:TypeId} (h:W.heap[B]? = some (.cells c t (0,0))) (i:Nat):W.frozen? ⟨B,i,none⟩=false:=by simp[World.frozen?,h]
theorem cl2 {W:World} {B:Nat} {v0 v1:Value} {t:TypeId} {fz:Nat × Nat} (h:W.heap[B]? = some (.cells #[v0,v1] t fz)):W.cell? ⟨B,0,none⟩=some v0/\W.cell? ⟨B,1,none⟩=some v1:=⟨cCc h 0,cCc h 1⟩
theorem cz2 {W:World} {B:Nat} {c:Array Value} {t:TypeId} (h:W.heap[B]? = some (.cells c t (0,0))):W.frozen? ⟨B,0,none⟩=false/\W.frozen? ⟨B,1,none⟩=false:=⟨cFz h 0,cFz h 1⟩
theorem cl3 {W:World} {B:Nat} {v0 v1 v2:Value} {t:TypeId} {fz:Nat × Nat} (h:W.heap[B]? = some (.cells #[v0,v1,v2] t fz)):W.cell? ⟨B,0,none⟩=some v0/\W.cell? ⟨B,1,none⟩=some v1/\W.cell? ⟨B,2,none⟩=some v2:=⟨cCc h 0,cCc h 1,cCc h 2⟩
theorem cz3 {W:World} {B:Nat} {c:Array Value} {t:TypeId} (h:W.heap[B]? = some (.cells c t (0,0))):W.frozen? ⟨B,0,none⟩=false/\W.frozen? ⟨B,1,none⟩=false/\W.frozen? ⟨B,2,none⟩=false:=⟨cFz h 0,cFz h 1,cFz h 2⟩
theorem cl4 {W:World} {B:Nat} {v0 v1 v2 v3:Value} {t:TypeId} {fz:Nat × Nat} (h:W.heap[B]? = some (.cells #[v0,v1,v2,v3] t fz)):W.cell? ⟨B,0,none⟩=some v0/\W.cell? ⟨B,1,none⟩=some v1/\W.cell? ⟨B,2,none⟩=some v2/\W.cell? ⟨B,3,none⟩=some v3:=⟨cCc h 0,cCc h 1,cCc h 2,cCc h 3⟩
theorem cz4 {W:World} {B:Nat} {c:Array Value} {t:TypeId} (h:W.heap[B]? = some (.cells c t (0,0))):W.frozen? ⟨B,0,none⟩=false/\W.frozen? ⟨B,1,none⟩=false/\W.frozen? ⟨B,2,none⟩=false/\W.frozen? ⟨B,3,none⟩=false:=⟨cFz h 0,cFz h 1,cFz h 2,cFz h 3⟩
theorem jaL {W:World} {B:Nat} {v0 v1 v2 v3 v4 v5 v6 v7 v8 v9:Value} {t:TypeId} {fz:Nat × Nat} (h:W.heap[B]? = some (.cells #[v0,v1,v2,v3,v4,v5,v6,v7,v8,v9] t fz)):W.cell? ⟨B,0,none⟩=some v0/\W.cell? ⟨B,1,none⟩=some v1/\W.cell? ⟨B,2,none⟩=some v2/\W.cell? ⟨B,3,none⟩=some v3/\W.cell? ⟨B,4,none⟩=some v4/\W.cell? ⟨B,5,none⟩=some v5/\W.cell? ⟨B,6,none⟩=some v6/\W.cell? ⟨B,7,none⟩=some v7/\W.cell? ⟨B,8,none⟩=some v8/\W.cell? ⟨B,9,none⟩=some v9:=⟨cCc h 0,cCc h 1,cCc h 2,cCc h 3,cCc h 4,cCc h 5,cCc h 6,cCc h 7,cCc h 8,cCc h 9⟩
theorem jdJ {W:World} {B:Nat} {c:Array Value} {t:TypeId} (h:W.heap[B]? = some (.cells c t (0,0))):W.frozen? ⟨B,0,none⟩=false/\W.frozen? ⟨B,1,none⟩=false/\W.frozen? ⟨B,2,none⟩=false/\W.frozen? ⟨B,3,none⟩=false/\W.frozen? ⟨B,4,none⟩=false/\W.frozen? ⟨B,5,none⟩=false/\W.frozen? ⟨B,6,none⟩=false/\W.frozen? ⟨B,7,none⟩=false/\W.frozen? ⟨B,8,none⟩=false/\W.frozen? ⟨B,9,none⟩=false:=⟨cFz h 0,cFz h 1,cFz h 2,cFz h 3,cFz h 4,cFz h 5,cFz h 6,cFz h 7,cFz h 8,cFz h 9⟩
theorem jbU {W:World} {B:Nat} {v0 v1 v2 v3 v4 v5 v6 v7 v8 v9 v10 v11:Value} {t:TypeId} {fz:Nat × Nat} (h:W.heap[B]? = some (.cells #[v0,v1,v2,v3,v4,v5,v6,v7,v8,v9,v10,v11] t fz)):W.cell? ⟨B,0,none⟩=some v0/\W.cell? ⟨B,1,none⟩=some v1/\W.cell? ⟨B,2,none⟩=some v2/\W.cell? ⟨B,3,none⟩=some v3/\W.cell? ⟨B,4,none⟩=some v4/\W.cell? ⟨B,5,none⟩=some v5/\W.cell? ⟨B,6,none⟩=some v6/\W.cell? ⟨B,7,none⟩=some v7/\W.cell? ⟨B,8,none⟩=some v8/\W.cell? ⟨B,9,none⟩=some v9/\W.cell? ⟨B,10,none⟩=some v10/\W.cell? ⟨B,11,none⟩=some v11:=⟨cCc h 0,cCc h 1,cCc h 2,cCc h 3,cCc h 4,cCc h 5,cCc h 6,cCc h 7,cCc h 8,cCc h 9,cCc h 10,cCc h 11⟩
theorem jhU {W:World} {B:Nat} {c:Array Value} {t:TypeId} (h:W.heap[B]? = some (.cells c t (0,0))):W.frozen? ⟨B,0,none⟩=false/\W.frozen? ⟨B,1,none⟩=false/\W.frozen? ⟨B,2,none⟩=false/\W.frozen? ⟨B,3,none⟩=false/\W.frozen? ⟨B,4,none⟩=false/\W.frozen? ⟨B,5,none⟩=false/\W.frozen? ⟨B,6,none⟩=false/\W.frozen? ⟨B,7,none⟩=false/\W.frozen? ⟨B,8,none⟩=false/\W.frozen? ⟨B,9,none⟩=false/\W.frozen? ⟨B,10,none⟩=false/\W.frozen? ⟨B,11,none⟩=false:=⟨cFz h 0,cFz h 1,cFz h 2,cFz h 3,cFz h 4,cFz h 5,cFz h 6,cFz h 7,cFz h 8,cFz h 9,cFz h 10,cFz h 11⟩
theorem tk {P:Program} {md:Region.Mode} {ops:Array Oper} {Q:Exit->Act->World->Prop} (i:Nat) {oi:Oper} {v:Value} {fuel:Nat} {listed:Array Bool} {a:Act} {w:World} (hi:ops[i]? = some oi)
  (hy:∀ w,(execOp a.eval oi).run P w=.ok (.value v) w) (h:wpAny P md ops Q fuel (listed.setIfInBounds i true) (a.put oi.dst v) w)
  (hw:Region.wanted oi (yielded ops a.tmps)=true:=by rfl) (hs:Region.noSelect ops=true:=by kernel_rfl) (hf:Region.free md ops listed i=true:=by kernel_rfl)
  (hr:(Region.ready md ops listed).contains i=true:=by kernel_rfl) (hQ:∀ c a w,Q (.panic c) (a.put oi.dst v) w->Q (.panic c) a w:=by exact fun _ _ _ h=>h):wpAny P md ops Q (fuel+1) listed a w :=
 wpAny_take hi hs hf hr hQ (Or.inl ⟨hw,hy⟩) h
def jry {α:Type} (N:Nat) (t:TypeId) (cs:α->Array Value) (T:α->Array Value) (s:Nat) (x:α) (a':Act) (W:World):Prop :=
 ∃ Bx,N<=Bx/\W.heap[Bx]? = some (.cells (cs x) t (0,0))/\a' = { tmps:=(T x).setIfInBounds s (.pointer (some ⟨Bx,0,none⟩)),defers:=[] }
theorem jmC {α:Type} {N C:Nat} {t:TypeId} {cs:α->Array Value} {T:α->Array Value} {s:Nat} (x:α) (a':Act):OwnFrom C (fun (_:Unit) W=>jry N t cs T s x a' W):=fun u X Y row hs hg hr=>by
 obtain⟨Bx,h1,h2,h3⟩:=hs;exact⟨Bx,h1,jpF C Bx (fun _=>cs x) t u X Y row h2 hg hr,h3⟩
theorem jjk {β:Type} (C n:Nat):OwnFrom C (fun (_:β) W=>n<=W.heap.size):=fun _ _ _ _ hs hg _=>Nat.le_trans hs hg.size
theorem jfy {α:Type} {P:Program} {g:Operand} {ps:Array Tmp} {assign body:Code} {Q:Exit->Act->World->Prop} {a:Act} {w:World} (t:TypeId) (cs:α->Array Value) (s:Nat)
  {gf:Nat} {lb:Array Value} (hg:a.eval g=.func (.func gf) #[] lb) (eg:∀ args w,(callFunc gf args).run P w=.ok (.enter gf args) w)
  {encs:α->Array Value} {n₀:Nat} {xs:List α} {N:Nat} {w0:World} (hseq:SeqStopsK Fence.wide 8 P gf lb encs (Below n₀) (fun ys=>ys=xs) (fun pre=>pre <+: xs) N w0)
  (hn₀:n₀<=w.heap.size) (hb0:Below w0.heap.size w0 w) (hps:∀ x,(encs x).size=ps.size)
  (I:List α->World->Prop) (Ix:Code->List α->World->Prop) (hI:OwnFrom w.heap.size I) (hIx:∀ c,OwnFrom w.heap.size (Ix c)) (h0:I [] w)
  (hassign:∀ (l:Nat) (pre:List α) (x:α) (W:World) (K:Act->World->Prop),I pre W->w.heap.size<=W.heap.size ->
   (I pre (W.alloc (.cells (cs x) t))->K { tmps:=((ps.zip (encs x)).foldl (fun t (p,v)=>t.setIfInBounds p v) a.tmps).setIfInBounds s (.pointer (some ⟨W.heap.size,0,none⟩)),defers:=[] } (W.alloc (.cells (cs x) t))) ->
   assign.wpIn (Fence.wide.inRound l) 7 P (Exit.then K (fun _ _ _=>False)) { tmps:=(ps.zip (encs x)).foldl (fun t (p,v)=>t.setIfInBounds p v) a.tmps,defers:=[] } W)
  (hbody:∀ (l:Nat) (pre:List α) (x:α) (W:World) (Bx:Nat),I pre W->w.heap.size<=Bx->Bx<W.heap.size->W.heap[Bx]? = some (.cells (cs x) t (0,0))->pre.length<N ->
   body.wpIn (Fence.wide.inRound l) 7 P (ownPostG w.heap.size (Below n₀) I Ix (pre++[x]) W) { tmps:=((ps.zip (encs x)).foldl (fun t (p,v)=>t.setIfInBounds p v) a.tmps).setIfInBounds s (.pointer (some ⟨Bx,0,none⟩)),defers:=[] } W)
  (hdone:∀ (D:Nat) (W:World),w.heap.size<=D->I xs W->W.heap[D]? = some (.deferred (some []))->Q .normal { a with defers:={ target:=.collected D,args:=#[] }::a.defers } W)
  (hstop:∀ (D:Nat) (c:Code) (pre:List α) (W:World),w.heap.size<=D->pre <+: xs->Ix c pre W->W.heap[D]? = some (.deferred (some []))->c.wp P Q { a with defers:={ target:=.collected D,args:=#[] }::a.defers } W) :
  (Code.rangeFunc g ps assign body).wp P Q a w :=
 jlm hg eg hseq hn₀ hb0 hps (fun pre W=>I pre W/\w.heap.size<=W.heap.size) Ix (hI.and (jjk _ _)) hIx ⟨h0,Nat.le_refl _⟩
  (jry w.heap.size t cs (fun x=>(ps.zip (encs x)).foldl (fun t (p,v)=>t.setIfInBounds p v) a.tmps) s) jmC
  (fun l pre x W K hi hK=>hassign l pre x W K hi.1 hi.2 (fun hi'=>hK _ _ ((KeepsOthers.alloc _ _).from _) ((Below.refl _ W).alloc (Nat.le_trans hn₀ hi.2) _) ⟨hi',by simp;omega⟩ ⟨W.heap.size,hi.2,World.alloc_heap_new _ _,rfl⟩))
  (fun l pre x a' W hi hax hlt=>by
   obtain⟨Bx,h1,h2,rfl⟩:=hax;refine wpIn_mono (hbody l pre x W Bx hi.1 h1 (Array.getElem?_eq_some_iff.1 h2).1 h2 hlt) ?_;rintro e a3 W3 hp
   cases e with
   | normal=>exact⟨hp.1,hp.2.1,hp.2.2,Nat.le_trans hi.2 hp.1.size⟩
   | _=>exact hp)
  (fun D W hD hi hK=>hdone D W hD hi.1 hK) hstop
theorem jax (P:Program) {t e:TypeId} {z:Value} {size bytes:Nat} (ty:TypeId) (ht:P.underlying t=some (.slice e)) (hinfo:(P.info? e).map (fun i=>(i.zero,i.size,i.bytes))=some (some z,size,bytes)) (hzs:z.cells.size=size) (hsz:0<size)
  {W w0:World} {B base:Nat} {v:Value} {n:Nat} {xs:List Value} (hown:W.ownsRow base e size v n xs) (hB:Below B w0 W) (hBb:B<=base) (hbase:base<=W.heap.size) (news:List Value) (hl:news.length=size) (h1:∀ u∈news,u.oneCell'=true)
  (hn:n<4294967281) (hby:bytes<=4096) :
  ∃ g cap w1,(Builtin.append_ #[t,t] ty #[v,.slice (some ⟨W.heap.size,0,none⟩) 1 1]).run P (W.alloc (.cells news.toArray e))=.ok (.slice (some ⟨g,0,none⟩) (n+1) cap) w1 /\
   w1.ownsRow base e size (.slice (some ⟨g,0,none⟩) (n+1) cap) (n+1) (xs++news)/\Below B w0 w1/\W.heap.size<w1.heap.size/\(∀ k,k<base->w1.heap[k]? = W.heap[k]?)/\(∀ k,k<W.heap.size->some k≠v.ownBlock->w1.heap[k]? = W.heap[k]?):=by
 obtain⟨i0,hi,hz0,hz1,hz2⟩:=info_parts hinfo
 have hcell:∀ j u,news[j]? = some u->(W.alloc (.cells news.toArray e)).cell? ((⟨W.heap.size,0,none⟩:Addr).add j)=some u:=fun j u hj=>by
  have:=cCc (World.alloc_heap_new W (.cells news.toArray e)) j;have ea:(⟨W.heap.size,0,none⟩:Addr).add j=⟨W.heap.size,j,none⟩:=by unfold Addr.add;split<;>simp_all
  rw[ea,this];simpa using hj
 obtain⟨v',w1,hr,h2,h3,h4⟩:=run_append_own (P:=P) (W.alloc (.cells news.toArray e)) base t ty e i0 z size bytes ht hi hz0 hz1 hz2 hzs hsz v n xs (hown.alloc _) ⟨W.heap.size,0,none⟩ 1 1 news (by omega) hcell h1 (by unfold maxLen;omega) (by have:=Nat.mul_le_mul (show n+1<=4294967281 by omega) hby;omega) (by simp;omega);obtain⟨g,cap,rfl⟩:=ownsRow_succ h2;have hlt:∀ k,v.ownBlock=some k->base<=k:=fun k hk=>(hown.lt k hk).1
 refine⟨g,cap,w1,hr,h2,(hB.alloc (by omega) _).grown h3 (by simp;omega) (fun k hk=>Nat.le_trans hBb (hlt k hk)),by have:=h3.size;simp at this;omega,fun k hk=>?_,fun k hk hne=>?_⟩
 ·exact (h3.block k (by simp;omega) (fun e=>by have:=hlt k e.symm;omega)).trans (Below.heap_alloc _ _ _ (by omega))
 ·exact (h3.block k (by simp;omega) hne).trans (Below.heap_alloc _ _ _ hk)
theorem jjC {w:World} {base e size n:Nat} {v:Value} {xs:List Value} (h:w.ownsRow base e size v n xs):SlAt w.heap.size w v n xs:=by
 rcases h.2 with⟨rfl,rfl⟩ | ⟨g,cap,cur,rfl,hg,hh,hnc,hcm,hcs,ht⟩
 ·exact .inl ⟨rfl,rfl,List.eq_nil_of_length_eq_zero (by simpa using h.1)⟩
 ·refine .inr ⟨g,0,cap,rfl,(Array.getElem?_eq_some_iff.1 hh).1,fun i hi=>?_⟩
  rw[Nat.zero_add,cCc hh i,<- ht,List.getElem?_take_of_lt (by have:=h.1;omega)];simp
theorem jaC {w w':World} {base e size n:Nat} {v:Value} {xs:List Value} (h:w.ownsRow base e size v n xs) (hs:∀ j,base<=j->j<w.heap.size->w'.heap[j]? = w.heap[j]?):w'.ownsRow base e size v n xs:=by
 refine⟨h.1,?_⟩;rcases h.2 with h2 | ⟨g,cap,cur,hv,hg,hh,r⟩
 ·exact .inl h2
 ·exact .inr ⟨g,cap,cur,hv,hg,(hs g hg (Array.getElem?_eq_some_iff.1 hh).1).trans hh,r⟩
theorem jcw {P:Program} {w:World} {ops:Array Oper} {rest:List Oper} {o:Oper} {a:Act} {Q:Exit->Act->World->Prop} (hgd:o.guard=none) (s x:Operand) (t:TypeId)
  (ho:o.op=.call { callee:=.builtin .append,args:=#[s,x],argTypes:=#[t,t] }) {v xv v':Value} {w':World} (hs:a.eval s=v) (hx:a.eval x=xv)
  (hr:(Builtin.append_ #[t,t] o.type #[v,xv]).run P w=.ok v' w') (h:wpList P ops Q rest (a.put o.dst v') w'):wpList P ops Q (o::rest) a w:=by
 refine wpList_plain hgd fun _ hK=>?_
 unfold Oper.wp execOp;simp only[ho,resolve,invoke,builtin,Sem.run_bind,Sem.run_pure,Result.andThen_ok,List.map_toArray,List.map_cons,List.map_nil,hs,hx,hr];exact hK _ _ h
end Go.Proofs.YtieknocphiceoaaGreatDoor
namespace Go.Proofs.YtieknocphiceoaaGreatDoor
open Go Go.RowKit
def jbM {σ α:Type} (f:σ->α->Option σ) (s:σ) (l:List α):Option σ:=l.foldl (fun s x=>s.bind (f · x)) (some s)
theorem jf8 {σ α:Type} (f:σ->α->Option σ) (l:List α):l.foldl (fun s x=>s.bind (f · x)) (none:Option σ)=none:=by
 induction l with
 | nil=>rfl
 | cons x xs ih=>exact ih
theorem jeL {σ α:Type} (f:σ->α->Option σ) (s:σ):jbM f s []=some s:=rfl
theorem jlC {σ α:Type} (f:σ->α->Option σ) (s:σ) (l:List α) (x:α):jbM f s (l++[x])=(jbM f s l).bind (f · x):=by simp[jbM]
theorem jan {α:Type} {l:List α} {k:Nat} {x:α} (h:l[k]? = some x):l.take (k+1)=l.take k++[x]:=by rw[List.take_add_one,h];rfl
theorem jhr {σ α:Type} {f:σ->α->Option σ} {s st:σ} {l:List α} {k:Nat} {x:α} (h:l[k]? = some x) (hk:jbM f s (l.take k)=some st):jbM f s (l.take (k+1))=f st x:=by
 rw[jan h,jlC,hk];rfl
theorem jfr {σ α:Type} (f:σ->α->Option σ) (s:σ) (l m:List α):jbM f s (l++m)=(jbM f s l).bind (fun s'=>jbM f s' m):=by
 unfold jbM;rw[List.foldl_append]
 cases l.foldl (fun s x=>s.bind (f · x)) (some s) with
 | none=>exact jf8 f m
 | some s'=>rfl
theorem jhq {σ α:Type} {f:σ->α->Option σ} {s:σ} {l:List α} {k:Nat} (h:jbM f s (l.take k)=none):jbM f s l=none:=by
 rw[<- List.take_append_drop k l,jfr,h];rfl
theorem jcF {σ α:Type} (f:σ->α->Option σ) (s:σ) (x:α) (l:List α):jbM f s (x::l)=(f s x).bind (fun s'=>jbM f s' l):=by
 have:=jfr f s [x] l;simpa [jbM] using this
theorem jf7 {α:Type} (enc:α->List Value) (k:Nat) (hk:∀ x,(enc x).length=k) (l:List α) (j i:Nat) (x:α) (hx:l[j]? = some x) (hi:i<k):(l.flatMap enc)[j*k+i]? = (enc x)[i]? := by
 induction l generalizing j with
 | nil=>simp at hx
 | cons y ys ih =>
  cases j with
  | zero =>
   simp at hx;subst hx;simp only[List.flatMap_cons,Nat.zero_mul,Nat.zero_add];rw[List.getElem?_append_left (by rw[hk];exact hi)]
  | succ j =>
   simp only[List.flatMap_cons];rw[List.getElem?_append_right (by rw[hk,Nat.succ_mul];omega),hk,show (j+1)*k+i-k=j*k+i by rw[Nat.succ_mul];omega];exact ih j (by simpa using hx)
theorem jh0 {α:Type} (enc:α->List Value) (k:Nat) (hk:∀ x,(enc x).length=k) (l:List α):(l.flatMap enc).length=l.length*k:=by
 induction l with
 | nil=>simp
 | cons y ys ih=>simp[List.flatMap_cons,hk,ih,Nat.succ_mul];omega
theorem SlAt.elems {α:Type} {enc:α->List Value} {k:Nat} (hk:∀ x,(enc x).length=k) {n₀:Nat} {w:World} {a:Option Addr} {len cap:Nat} {l:List α} (h:SlAt n₀ w (.slice a len cap) l.length (l.flatMap enc)) :
  len=l.length/\∀ j x,l[j]? = some x->∃ b off,a=some ⟨b,off,none⟩/\b<n₀/\∀ i,i<k->w.cell? ⟨b,off+j*k+i,none⟩=(enc x)[i]? := by
 rcases h with⟨h,h0,_⟩ | ⟨b,off,cap',e,hb,hc⟩
 ·obtain⟨rfl,rfl,rfl⟩:a=none/\len=0/\cap=0:=by simpa using h
  have:l=[]:=by simpa using h0
  subst this;exact⟨rfl,fun i x hx=>by simp at hx⟩
 ·obtain⟨rfl,rfl,rfl⟩:a=some ⟨b,off,none⟩/\len=l.length/\cap=cap':=by simpa using e
  refine⟨rfl,fun j x hx=>⟨b,off,rfl,hb,fun i hi=>?_⟩⟩;have hj:=(List.getElem?_eq_some_iff.1 hx).1;have h2:j*k+i<l.length*k:=by have:=Nat.mul_le_mul_right k (show j+1<=l.length by omega);rw[Nat.succ_mul] at this;omega
  rw[Nat.add_assoc,hc (j*k+i) (by rw[jh0 enc k hk];exact h2),jf7 enc k hk l j i x hx hi]
end Go.Proofs.YtieknocphiceoaaGreatDoor
namespace Go.Proofs.YtieknocphiceoaaGreatDoor
open Go Go.RowKit Go.ChangeShapes Go.WideShapes Go.Deep
section
variable {H:Type} {enc:TypeId × Value->H} {P:Program}
theorem jiz (hl:laidOutB P=true) {W W':World} {sp:Nat->Bool} (hb:Below W.heap.size W W'):∀ (ts:List TypeId) (vs:List Value) (ds:List (DataW H)) (ps:List MemPlace),
  (∀ t∈ts,P.readableRec t=true/\t<P.types.size)->(∀ p∈ps,p.block<W.heap.size/\sp p.block=true) ->
  DataW.TrodAll enc P W 0 (fun _=>true) true ts vs ds ps->DataW.TrodAll enc P W' 0 sp true ts vs ds ps:=by
 intro ts
 induction ts with
 | nil=>intro vs ds ps _ _ h;obtain⟨h1,rfl,rfl⟩:=trodAll_nil h;rw[h1];exact trodAll_mk0
 | cons t ts ih =>
  intro vs ds ps hr hp h;obtain⟨v,vs',d,ds',p,q,rfl,rfl,rfl,h0,hs⟩:=trodAll_cons h;have ht:=hr t List.mem_cons_self;refine trodAll_cons_mk (WideElems.Trod_stays hl ht.1 ht.2 h0 (fun x hx=>hb.same (hp x (List.mem_append_left _ hx)).1) (fun x hx=>(hp x (List.mem_append_left _ hx)).2)) ?_;exact ih vs' ds' q (fun t ht=>hr t (List.mem_cons_of_mem _ ht)) (fun x hx=>hp x (List.mem_append_right _ hx)) hs
theorem jpr {f:Func} {s:ChangeSpec} {W W':World} {args:Array Value} {ds gs:List (DataW H)} {before:List MemPlace} {tb:TypeId} (hl:laidOutB P=true)
  (hr:∀ t∈f.params.toList,P.readableRec t=true/\t<P.types.size) (hv:s.vars=[]) (hW:DataW.Whole enc P f.params.toList s.vars false W args.toList ds gs before)
  (hs:s.fn H (ds++gs) = { results:=[.lit (.bool true)],args:=ds }) (hres:f.resultTypes=#[tb]) (hb:P.underlying tb=some .bool) (hB:Below W.heap.size W W') :
  s.post enc P f false true false false W args (.bool true) W':=by
 have hlt:∀ p∈before,p.block<W.heap.size:=fun p hp=>hW.lt p hp
 have hW2:=hW;obtain⟨p,q,hA,hV,rfl,_,_⟩:=hW2;rw[hv] at hV;obtain⟨rfl,rfl⟩:=trodVars_none hV;rw[List.append_nil] at hlt hW;refine⟨ds,[],p,[],p,[],hW,?_,?_,?_,World.keptBut_mono (fun x hx=>⟨hx,Or.inr (Or.inl hx)⟩) (hB.frame (· ∈ p)),fun h=>by cases h⟩
 ·rw[hs,hres]
  exact trodAll_cons_mk (shut_bool hb _) trodAll_mk0
 ·rw[hs]
  exact jiz hl hB _ _ _ _ hr (fun x hx=>⟨hlt x hx,by simpa using hlt x hx⟩) hA
 ·rw[hs,hv]
  exact hV
variable {w:World} {base:Nat} {spare:Nat->Bool} {held:Bool}
theorem jb3 {e:TypeId} {fs:Array Field} {fuel:Nat} {cs:List Value} {x:DataW H × List MemPlace} (he:P.underlying e=some (.struct fs)) (hone:oneCellFields P fs=true) (hC:P.cellsOf e=fs.size)
  (h:DataW.trod enc P w base spare held fuel e cs=some x):cs.length=fs.size/\∃ n,∀ (j:Nat) (f:Field),fs[j]? = some f->∃ v y,cs[j]? = some v/\DataW.trod enc P w base spare held n f.type [v]=some y:=by
 obtain⟨xs,n,_,_,hlen,hxl,hf⟩:=DataW.trod_struct he h;rw[hC] at hlen;refine⟨hlen,n,fun j f hj=>?_⟩;obtain⟨ho,hk⟩:=hone_of hone j f hj;have hjl:j<fs.size:=(Array.getElem?_eq_some_iff.1 hj).1;have h1:=hf j f hj;rw[ho,hk,List.drop_eq_getElem_cons (by omega),List.getElem?_eq_getElem (by omega)] at h1;exact⟨_,_,List.getElem?_eq_getElem (by omega),h1⟩
theorem jfO {a:Addr} (h:a.spot=none) (n:Nat):a.add n=⟨a.block,a.off+n,none⟩:=by
 obtain⟨b,o,s⟩:=a;dsimp only at h;subst h;unfold Addr.add;split
 ·simp_all
 ·rfl
end
end Go.Proofs.YtieknocphiceoaaGreatDoor
namespace Go.Proofs.YtieknocphiceoaaGreatDoor
open Go Go.RowKit
theorem jjR (P:Program) {t e:TypeId} {z:Value} {size bytes:Nat} (ty:TypeId) (ht:P.underlying t=some (.slice e)) (hinfo:(P.info? e).map (fun i=>(i.zero,i.size,i.bytes))=some (some z,size,bytes)) (hzs:z.cells.size=size) (hsz:0<size)
  {W w0:World} {B base:Nat} {v sv:Value} {n m:Nat} {xs cs:List Value} (hown:W.ownsRow base e size v n xs) (hB:Below B w0 W) (hBb:B<=base) (hbase:base<=W.heap.size) (hsrc:SlAt W.heap.size W sv m cs) (hl:cs.length=m*size) (h1:∀ u∈cs,u.oneCell'=true)
  (hn:n<2147483648) (hm:m<2147483648) (hby:bytes<=4096) :
  ∃ v' w1,(Builtin.append_ #[t,t] ty #[v,sv]).run P W=.ok v' w1/\w1.ownsRow base e size v' (n+m) (xs++cs)/\Below B w0 w1/\W.heap.size<=w1.heap.size/\(∀ k,k<base->w1.heap[k]? = W.heap[k]?)/\(∀ k,k<W.heap.size->some k≠v.ownBlock->w1.heap[k]? = W.heap[k]?):=by
 obtain⟨i0,hi,hz0,hz1,hz2⟩:=info_parts hinfo;rcases hsrc with⟨rfl,rfl,rfl⟩ | ⟨b,off,cap,rfl,hb,hc⟩
 ·refine⟨v,W,?_,by simpa using hown,hB,Nat.le_refl _,fun _ _=>rfl,fun _ _ _=>rfl⟩
  obtain⟨a,c,rfl⟩:∃ a c,v=.slice a n c:=by
   rcases hown.2 with⟨rfl,rfl⟩ | ⟨g,cap,cur,rfl,_⟩
   ·exact⟨none,0,rfl⟩
   ·exact⟨_,cap,rfl⟩
  rcases hown.2 with⟨he,hn0⟩ | ⟨g,cap,cur,he,hg,hgg,hnc,_⟩
  ·obtain⟨rfl,_,rfl⟩:a=none/\n=0/\c=0:=by simpa using he
   subst hn0;simp[Builtin.append_,run_underlying ht,sizeOf,typeInfo,hi,Builtin.lenOf,Builtin.firstCells]
  ·obtain⟨rfl,rfl⟩:a=some ⟨g,0,none⟩/\c=cap:=by simpa using he
   simp[Builtin.append_,run_underlying ht,sizeOf,typeInfo,hi,Builtin.lenOf,Builtin.firstCells,hnc,storeCells]
 ·have hcell:∀ j u,cs[j]? = some u->W.cell? ((⟨b,off,none⟩:Addr).add j)=some u:=fun j u hj=>by
   have ea:(⟨b,off,none⟩:Addr).add j=⟨b,off+j,none⟩:=by unfold Addr.add;split<;>simp_all
   rw[ea,hc j (List.getElem?_eq_some_iff.1 hj).1,hj]
  have hbig:=Nat.mul_le_mul (show n+m<=4294967296 by omega) hby;obtain⟨v',w1,hr,h2,h3,h4⟩:=run_append_own (P:=P) W base t ty e i0 z size bytes ht hi hz0 hz1 hz2 hzs hsz v n xs hown ⟨b,off,none⟩ m cap cs hl hcell h1 (by unfold maxLen;omega) (by omega) hbase;have hlt:∀ k,v.ownBlock=some k->base<=k:=fun k hk=>(hown.lt k hk).1
  exact⟨v',w1,hr,h2,hB.grown h3 (by omega) (fun k hk=>Nat.le_trans hBb (hlt k hk)),h3.size,fun k hk=>h3.block k (by omega) (fun e=>by have:=hlt k e.symm;omega),fun k hk hne=>h3.block k hk hne⟩
theorem jel {P:Program} {ops:Array Oper} {o:Oper} {a:Act} {w:World} {K:Act->World->Prop} {Q:Exit->Act->World->Prop} {E:Prop}
  (hg:o.guard=none) (s x:Operand) (t:TypeId) (hop:o.op=Op.call { callee:=Callee.builtin Builtin.append,args:=#[s,x],argTypes:=#[t,t] })
  {v xv v':Value} {w':World} (hs:a.eval s=v) (hx:a.eval x=xv) (hr:(Builtin.append_ #[t,t] o.type #[v,xv]).run P w=.ok v' w') (hK:K (a.put o.dst v') w') :
  if Region.wanted o (yielded ops a.tmps)=true then Oper.wp P o a w K Q else E:=by
 have hw:Region.wanted o (yielded ops a.tmps)=true:=by simp[Region.wanted,hg]
 rw[if_pos hw];unfold Oper.wp;simp[execOp,hop,resolve,invoke,builtin,hs,hx,hr,Result.andThen];exact hK
theorem hSk {W:World} {B i:Nat} {c:Array Value} {t:TypeId} {fz:Nat × Nat} (h:W.heap[B]? = some (.cells c t fz)) (v:Value):(W.setCell ⟨B,i,none⟩ v).heap[B]? = some (.cells (c.setIfInBounds i v) t fz):=by
 obtain⟨hlt,hk⟩:=Array.getElem?_eq_some_iff.1 h;show (W.heap.modify B _)[B]? = _;rw[Array.getElem?_eq_getElem (by rw[Array.size_modify];exact hlt),Array.getElem_modify_self,hk];rfl
theorem jb1 {W:World} {B:Nat} {x y u v:Value} {t:TypeId} (h:W.heap[B]? = some (.cells #[x,y] t (0,0))):((W.setCell ⟨B,0,none⟩ u).setCell ⟨B,1,none⟩ v).heap[B]? = some (.cells #[u,v] t (0,0)):=hSk (hSk h u) v
theorem SlAt.drew {n m:Nat} {w:World} {sv:Value} {cs:List Value} (h:SlAt n w sv m cs):SlAt n w.drew sv m cs:=h
structure WIn (Inv:World->Prop) where
 world:World
 ok:Inv world
theorem jac {P:Program} (Inv:World->Prop) {id:Nat} {Q:Exit->Act->World->Prop} {a:Act} {w:World} {l:List Oper} (hm:P.follows .mixedOrders=true) (hB:Region.lexB .any l.toArray=true) (hC:Inv w.drew)
  (h:wpQuiet P l.toArray (fun w'=>∃ X:WIn Inv,w'=X.world) (fun a'=>∀ w',(∃ X:WIn Inv,w'=X.world)->Q .normal a' w') l a):(Code.region id l.toArray true).wp P Q a w :=
 wp_region_quiet (C:=fun w'=>∃ X:WIn Inv,w'=X.world) hm hB ⟨⟨_,hC⟩,rfl⟩ (by simpa using h)
theorem jjX {P:Program} {Inv:World->Prop} {f:FuncId} {args:Array Value} {W:World} {v:Value} {R:World->World->Prop} (hgo:∀ W',R W W'->Inv W')
  (h:Calls P f args W fun e w'=>e=.returned v/\R W w'):Calls P f args W fun e w'=>e=.returned v/\∃ Y:WIn Inv,w'=Y.world :=
 h.mono fun _ W' ⟨he,hr⟩=>⟨he,⟨⟨W',hgo W' hr⟩,rfl⟩⟩
theorem jab {P:Program} {Inv:World->Prop} {f:FuncId} {args:Array Value} {X:WIn Inv} {v:Value} (hgo:∀ W W',Inv W->Below W.heap.size W W'->Inv W')
  (h:Calls P f args X.world fun e w'=>e=.returned v/\Below X.world.heap.size X.world w'):Calls P f args X.world fun e w'=>e=.returned v/\∃ Y:WIn Inv,w'=Y.world :=
 jjX (R:=fun W W'=>Below W.heap.size W W') (fun W' hr=>hgo _ W' X.ok hr) h
theorem je4 {W w1:World} (hb:Below W.heap.size W w1):(∀ b o,b<W.heap.size->w1.cell? ⟨b,o,none⟩=W.cell? ⟨b,o,none⟩)/\(∀ b o,b<W.heap.size->w1.frozen? ⟨b,o,none⟩=W.frozen? ⟨b,o,none⟩) :=
 ⟨fun b o h=>hb.cell (p:=⟨b,o,none⟩) h,fun b o h=>hb.frozen (p:=⟨b,o,none⟩) h⟩
theorem jad {P:Program} {Q:Exit->Act->World->Prop} {a:Act} {w:World} {c rest:Code} (l:Nat) (hf:findLabel c l=some rest)
  (first:c.wp P (Exit.jump l (fun a w=>rest.wp P (Exit.noGoto Q) a w) Q) a w):(Code.scope c).wp P Q a w :=
 wp_scope_jumps l _ (fun _ _=>0) hf first (fun _ _ hJ=>Code.wp_mono (fun e _ _ h=>by cases e<;>first | exact h | exact (h:False).elim) hJ)
theorem jae {l:Nat} {J:Act->World->Prop} {Q:Exit->Act->World->Prop} {a:Act} {w:World}:Exit.jump l J Q .ret a w=Q .ret a w:=rfl
theorem jah (w:World) (c0:Array Value) (t0:TypeId):∃ W,w.alloc (.cells c0 t0)=W/\W.heap[w.heap.size]? = some (.cells c0 t0 (0,0))/\Below w.heap.size w W/\W.heap.size=w.heap.size+1 :=
 ⟨_,rfl,World.alloc_heap_new _ _,(Below.refl _ w).alloc (Nat.le_refl _) _,by simp⟩
theorem jaS (w:World) (c0:Array Value) (t0:TypeId) (c1:Array Value) (t1:TypeId):∃ W,(w.alloc (.cells c0 t0)).alloc (.cells c1 t1)=W/\W.heap[w.heap.size]? = some (.cells c0 t0 (0,0))/\W.heap[w.heap.size+1]? = some (.cells c1 t1 (0,0))/\Below w.heap.size w W/\W.heap.size=w.heap.size+2:=by
 obtain⟨X,rfl,h0,hB,hs⟩:=jah w c0 t0;obtain⟨Y,rfl,h1,hB1,hs1⟩:=jah (w.alloc (.cells c0 t0)) c1 t1;rw[hs] at h1;exact⟨_,rfl,(hB1.block _ (by omega)).trans h0,h1,hB.trans (hB1.mono (by omega)),by omega⟩
theorem jiQ (w:World) (c0:Array Value) (t0:TypeId) (c1:Array Value) (t1:TypeId) (c2:Array Value) (t2:TypeId):∃ W,((w.alloc (.cells c0 t0)).alloc (.cells c1 t1)).alloc (.cells c2 t2)=W/\W.heap[w.heap.size]? = some (.cells c0 t0 (0,0))/\W.heap[w.heap.size+1]? = some (.cells c1 t1 (0,0))/\W.heap[w.heap.size+2]? = some (.cells c2 t2 (0,0))/\Below w.heap.size w W/\W.heap.size=w.heap.size+3:=by
 obtain⟨X,rfl,h0,h1,hB,hs⟩:=jaS w c0 t0 c1 t1;obtain⟨Y,rfl,h2,hB1,hs1⟩:=jah ((w.alloc (.cells c0 t0)).alloc (.cells c1 t1)) c2 t2;rw[hs] at h2;exact⟨_,rfl,(hB1.block _ (by omega)).trans h0,(hB1.block _ (by omega)).trans h1,h2,hB.trans (hB1.mono (by omega)),by omega⟩
theorem jak {n:Nat} {W W':World} {b:Nat} {o:Obj} (hb:Below n W W') (hn:W.heap.size<=n) (h:W.heap[b]? = some o):W'.heap[b]? = some o:=(hb.block _ (Nat.lt_of_lt_of_le (Array.getElem?_eq_some_iff.1 h).1 hn)).trans h
end Go.Proofs.YtieknocphiceoaaGreatDoor
namespace Go.Proofs.YtieknocphiceoaaGreatDoor
open Go Go.RowKit Go.ChangeShapes Go.WideShapes Go.Deep
def U64 (n:Int):Prop:=0<=n/\n<=18446744073709551615
def SlE {α:Type} (enc:α->List Value) (k:Nat) (n₀:Nat) (w:World) (a:Option Addr) (len:Nat) (l:List α):Prop :=
 len=l.length/\∀ j x,l[j]? = some x->∃ b off,a=some ⟨b,off,none⟩/\b<n₀/\∀ i,i<k->w.cell? ⟨b,off+j*k+i,none⟩=(enc x)[i]?
section
variable {α:Type} {enc:α->List Value} {k n₀ n₁:Nat} {w A B:World} {a:Option Addr} {len cap:Nat} {l:List α}
theorem SlE.below (h:Below n₀ A B) (hs:SlE enc k n₀ A a len l):SlE enc k n₀ B a len l :=
 ⟨hs.1,fun j x hx=>let ⟨b,off,e,hb,hc⟩:=hs.2 j x hx;⟨b,off,e,hb,fun i hi=>(h.cell (p:=⟨b,off+j*k+i,none⟩) hb).trans (hc i hi)⟩⟩
theorem SlE.mono (hn:n₀<=n₁) (hs:SlE enc k n₀ w a len l):SlE enc k n₁ w a len l :=
 ⟨hs.1,fun j x hx=>let ⟨b,off,e,hb,hc⟩:=hs.2 j x hx;⟨b,off,e,Nat.lt_of_lt_of_le hb hn,hc⟩⟩
theorem SlE.go (hs:SlE enc k A.heap.size A a len l) (h:Below A.heap.size A B):SlE enc k B.heap.size B a len l:=(hs.below h).mono h.size
theorem SlE.of_at (hk:∀ x,(enc x).length=k) (h:SlAt n₀ w (.slice a len cap) l.length (l.flatMap enc)):SlE enc k n₀ w a len l:=SlAt.elems hk h
theorem SlE.nil:SlE enc k n₀ w a 0 []:=⟨rfl,fun j x h=>by simp at h⟩
theorem SlE.drew (hs:SlE enc k n₀ w a len l):SlE enc k n₀ w.drew a len l:=hs
theorem SlE.take (hs:SlE enc k n₀ w a len l) (m:Nat) (hm:m<=len):SlE enc k n₀ w a m (l.take m) :=
 ⟨by have:=hs.1;simp;omega,fun j x hx=>hs.2 j x (by rw[List.getElem?_take] at hx;split at hx;exact hx;cases hx)⟩
theorem SlE.drop {b off:Nat} (hs:SlE enc k n₀ w (some ⟨b,off,none⟩) len l) (m:Nat):SlE enc k n₀ w (some ⟨b,off+m*k,none⟩) (len-m) (l.drop m) :=
 ⟨by have:=hs.1;simp;omega,fun j x hx=>by
  rw[List.getElem?_drop] at hx;obtain⟨b',off',e,hb,hc⟩:=hs.2 (m+j) x hx;injection e with e1
  injection e1 with e1 e2
  subst e1;subst e2;refine⟨b,off+m*k,rfl,hb,fun i hi=>?_⟩;rw[<- hc i hi];congr 2;rw[Nat.add_mul];omega⟩
theorem SlE.at (hs:SlE enc k n₀ w a len l) {j:Nat} (hj:j<len):∃ x b off,l[j]? = some x/\a=some ⟨b,off,none⟩/\b<n₀/\∀ i,i<k->w.cell? ⟨b,off+j*k+i,none⟩=(enc x)[i]? := by
 have hl:=hs.1;obtain⟨x,hx⟩:∃ x,l[j]? = some x:=⟨_,List.getElem?_eq_getElem (by omega)⟩;obtain⟨b,off,e,hb,hc⟩:=hs.2 j x hx;exact⟨x,b,off,hx,e,hb,hc⟩
theorem SlE.set_far {p:Addr} (hp:∀ x,a=some x->p.block≠x.block) (v:Value) (hs:SlE enc k n₀ w a len l):SlE enc k n₀ (w.setCell p v) a len l :=
 ⟨hs.1,fun j x hx=>let ⟨b,off,e,hb,hc⟩:=hs.2 j x hx;⟨b,off,e,hb,fun i hi=>by rw[World.cell?_setCell_other (h:=fun h=>hp _ e (by rw[h]))];exact hc i hi⟩⟩
end
def SlC {α:Type} (enc:α->List Value) (k:Nat) (n₀:Nat) (w:World) (a:Option Addr) (len cap:Nat) (l:List α):Prop :=
 SlE enc k n₀ w a len l/\len<=cap/\cap<=maxLen/\(a=none->cap=0)/\∀ x,a=some x->0<cap->x.spot=none/\x.block<n₀
section
variable {α:Type} {enc:α->List Value} {k n₀ n₁:Nat} {w A B:World} {a:Option Addr} {len cap:Nat} {l:List α}
theorem SlC.below (h:Below n₀ A B) (hs:SlC enc k n₀ A a len cap l):SlC enc k n₀ B a len cap l:=⟨hs.1.below h,hs.2⟩
theorem SlC.mono (hn:n₀<=n₁) (hs:SlC enc k n₀ w a len cap l):SlC enc k n₁ w a len cap l :=
 ⟨hs.1.mono hn,hs.2.1,hs.2.2.1,hs.2.2.2.1,fun x e hc=>let ⟨h1,h2⟩:=hs.2.2.2.2 x e hc;⟨h1,Nat.lt_of_lt_of_le h2 hn⟩⟩
theorem SlC.go (hs:SlC enc k A.heap.size A a len cap l) (h:Below A.heap.size A B):SlC enc k B.heap.size B a len cap l:=(hs.below h).mono h.size
theorem SlC.take (hs:SlC enc k n₀ w a len cap l) (m:Nat) (hm:m<=len):SlC enc k n₀ w a m cap (l.take m):=⟨hs.1.take m hm,Nat.le_trans hm hs.2.1,hs.2.2⟩
theorem SlC.nil:SlC enc k n₀ w none 0 0 ([]:List α):=⟨SlE.nil,Nat.le_refl _,Nat.zero_le _,fun _=>rfl,fun x h=>by cases h⟩
theorem SlC.set_far {p:Addr} (hp:∀ x,a=some x->p.block≠x.block) (v:Value) (hs:SlC enc k n₀ w a len cap l):SlC enc k n₀ (w.setCell p v) a len cap l:=⟨hs.1.set_far hp v,hs.2⟩
end
section
variable {α:Type} {enc:α->List Value} {k n₀:Nat} {w:World} {a:Option Addr} {len cap:Nat} {l:List α}
theorem SlE.to_at (hk:∀ x,(enc x).length=k) (hpos:0<len) (h:SlE enc k n₀ w a len l):SlAt n₀ w (.slice a len cap) l.length (l.flatMap enc):=by
 obtain⟨x0,b,off,-,ea,hb,-⟩:=h.at hpos;refine .inr ⟨b,off,cap,by rw[ea,h.1],hb,fun i hil=>?_⟩;rw[jh0 enc k hk] at hil
 have hk0:0<k:=by
  rcases Nat.eq_zero_or_pos k with h0 | h0
  ·subst h0;simp at hil
  ·exact h0
 have hdm:=Nat.div_add_mod i k;have hq:i / k<l.length:=Nat.div_lt_of_lt_mul (by rw[Nat.mul_comm];exact hil);have hr:i % k<k:=Nat.mod_lt _ hk0;obtain⟨y,hy⟩:∃ y,l[i / k]? = some y:=⟨_,List.getElem?_eq_getElem hq⟩;obtain⟨b',off',ea',_,hc⟩:=h.2 _ y hy;rw[ea] at ea';injection ea' with e1
 injection e1 with e1 e2
 subst e1;subst e2;have h1:=hc _ hr;have h2:=jf7 enc k hk l (i / k) (i % k) y hy hr;have e1:i / k*k+i % k=i:=by rw[Nat.mul_comm];exact hdm
 rw[Nat.add_assoc,e1] at h1;rw[e1] at h2;rw[h1,h2]
end
theorem jaW (P:Program) {α:Type} {enc:α->List Value} {t e:TypeId} {z:Value} {size bytes:Nat} (ty:TypeId) (ht:P.underlying t=some (.slice e)) (hinfo:(P.info? e).map (fun i=>(i.zero,i.size,i.bytes))=some (some z,size,bytes)) (hzs:z.cells.size=size) (hsz:0<size)
  {W w0:World} {B base:Nat} {v:Value} {a:Option Addr} {n m cap:Nat} {xs:List Value} {l:List α} (hown:W.ownsRow base e size v n xs) (hB:Below B w0 W) (hBb:B<=base) (hbase:base<=W.heap.size) (hk:∀ x,(enc x).length=size) (hsrc:SlE enc size W.heap.size W a m l) (h1:∀ x,∀ u∈enc x,u.oneCell'=true)
  (hn:n<2147483648) (hm:m<2147483648) (hby:bytes<=4096) :
  ∃ v' w1,(Builtin.append_ #[t,t] ty #[v,.slice a m cap]).run P W=.ok v' w1/\w1.ownsRow base e size v' (n+m) (xs++l.flatMap enc)/\Below B w0 w1/\W.heap.size<=w1.heap.size/\(∀ k,k<base->w1.heap[k]? = W.heap[k]?)/\(∀ k,k<W.heap.size->some k≠v.ownBlock->w1.heap[k]? = W.heap[k]?):=by
 rcases Nat.eq_zero_or_pos m with h0 | hpos
 ·subst h0
  obtain rfl:l=[]:=List.eq_nil_of_length_eq_zero hsrc.1.symm;obtain⟨i0,hi,hz0,hz1,hz2⟩:=info_parts hinfo;refine⟨v,W,?_,by simpa using hown,hB,Nat.le_refl _,fun _ _=>rfl,fun _ _ _=>rfl⟩
  obtain⟨a',c,rfl⟩:∃ a c,v=.slice a n c:=by
   rcases hown.2 with⟨rfl,rfl⟩ | ⟨g,cap,cur,rfl,_⟩
   ·exact⟨none,0,rfl⟩
   ·exact⟨_,cap,rfl⟩
  cases a <;>
  ·rcases hown.2 with⟨he,hn0⟩ | ⟨g,cap,cur,he,hg,hgg,hnc,_⟩
   ·obtain⟨rfl,_,rfl⟩:a'=none/\n=0/\c=0:=by simpa using he
    subst hn0;simp[Builtin.append_,run_underlying ht,sizeOf,typeInfo,hi,Builtin.lenOf,Builtin.firstCells,loadCells,loadCellsFrom]
   ·obtain⟨rfl,rfl⟩:a'=some ⟨g,0,none⟩/\c=cap:=by simpa using he
    simp[Builtin.append_,run_underlying ht,sizeOf,typeInfo,hi,Builtin.lenOf,Builtin.firstCells,hnc,storeCells,loadCells,loadCellsFrom]
 ·have hat:=hsrc.to_at (cap:=cap) hk hpos
  rw[<- hsrc.1] at hat;have hfl:(l.flatMap enc).length=m*size:=by rw[jh0 enc size hk,hsrc.1]
  exact jjR P ty ht hinfo hzs hsz hown hB hBb hbase hat hfl (fun u hu=>by obtain⟨x,_,hx⟩:=List.mem_flatMap.1 hu;exact h1 x u hx) hn hm hby
theorem jaE {α:Type} {enc:α->List Value} {w:World} {base e size:Nat} {v:Value} {l:List α} (hk:∀ x,(enc x).length=size) (h:w.ownsRow base e size v l.length (l.flatMap enc)) :
  ∃ a cap,v=.slice a l.length cap/\SlC enc size w.heap.size w a l.length cap l/\∀ x,a=some x->base<=x.block:=by
 have hsl:=jjC h;rcases h.2 with⟨rfl,hn⟩ | ⟨g,cap,cur,rfl,hg,hh,hnc,hcm,hcs,ht⟩
 ·have hl:l=[]:=List.eq_nil_of_length_eq_zero hn
  subst hl;exact⟨none,0,rfl,SlC.nil,fun x h=>by cases h⟩
 ·refine⟨_,cap,rfl,⟨SlE.of_at hk hsl,hnc,hcm,(fun h=>by cases h),fun x hx _=>?_⟩,fun x hx=>?_⟩
  ·cases hx;exact⟨rfl,(Array.getElem?_eq_some_iff.1 hh).1⟩
  ·cases hx;exact hg
section
variable {H:Type} {enc:TypeId × Value->H} {P:Program} {w:World} {base:Nat} {held:Bool}
theorem jkv {α:Type} {t e:TypeId} {k:Nat} {encA:α->List Value} (hk:0<k) (ht:P.underlying t=some (.slice e)) (hc:P.cellsOf e=k)
  (hel:∀ n cs x,DataW.trod enc P w base (fun _=>true) held n e cs=some x->∃ y,cs=encA y) {fuel:Nat} {a:Option Addr} {len cap:Nat} {x:DataW H × List MemPlace}
  (h:DataW.trod enc P w base (fun _=>true) held fuel t [.slice a len cap]=some x) :
  ∃ l:List α,SlC encA k w.heap.size w a len cap l:=by
 rcases open_slice ht h with⟨h0,_⟩ | ⟨a',len',cap',m,n,D,Pl,hcs,-,hl,hmx,hm,-,hi⟩
 ·simp only[List.cons.injEq,and_true,Value.slice.injEq] at h0
  obtain⟨rfl,rfl,rfl⟩:=h0;exact⟨[],SlC.nil⟩
 ·simp only[List.cons.injEq,and_true,Value.slice.injEq] at hcs
  obtain⟨rfl,rfl,rfl⟩:=hcs;rw[if_pos rfl] at hm;subst hm
  have hall:∀ i,i<m->∃ y,a'.spot=none/\a'.block<w.heap.size/\∀ j,j<k->w.cell? ⟨a'.block,a'.off+i*k+j,none⟩=(encA y)[j]? := fun i him=>by
   obtain⟨cs',h1,h2⟩:=hi i him;obtain⟨y,rfl⟩:=hel _ _ _ h2;rw[hc] at h1;obtain⟨_,hlen,hat⟩:=World.cells?_some h1
   have hsp:a'.spot=none/\a'.block<w.heap.size:=by
    obtain⟨cs0,h10,h20⟩:=hi 0 (by omega);rw[hc,Nat.zero_mul] at h10;obtain⟨_,hlen0,hat0⟩:=World.cells?_some h10;have e0:=hat0 0 hk;have ea:(a'.add 0).add 0=a':=by simp[Addr.add]
    rw[ea,List.getElem?_eq_getElem (by omega)] at e0;refine⟨?_,World.block_lt_of_cell? w _ e0⟩;unfold World.cell? at e0
    cases hs:a'.spot with
    | none=>rfl
    | some z =>
     rw[hs] at e0;split at e0<;>simp at e0
   refine⟨y,hsp.1,hsp.2,fun j hj=>?_⟩;have:=hat j hj;rw[jfO hsp.1,jfO rfl] at this;exact this
  have hex:∃ l:List α,l.length=len/\∀ i y,l[i]? = some y->a'.spot=none/\a'.block<w.heap.size/\∀ j,j<k->w.cell? ⟨a'.block,a'.off+i*k+j,none⟩=(encA y)[j]? := by
   have hall':∀ i,i<len->∃ y,a'.spot=none/\a'.block<w.heap.size/\∀ j,j<k->w.cell? ⟨a'.block,a'.off+i*k+j,none⟩=(encA y)[j]? := fun i hi=>hall i (by omega)
   clear hi hl h hall
   induction len with
   | zero=>exact⟨[],rfl,fun i y h=>by simp at h⟩
   | succ n ih =>
    obtain⟨l,h1,h2⟩:=ih (fun i hi=>hall' i (by omega));obtain⟨y,hy⟩:=hall' n (by omega);refine⟨l++[y],by simp[h1],fun i z hz=>?_⟩;by_cases hil:i<l.length
    ·rw[List.getElem?_append_left hil] at hz
     exact h2 i z hz
    ·have hi2:=(List.getElem?_eq_some_iff.1 hz).1
     have:i=n:=by simp at hi2;omega
     subst this;rw[List.getElem?_append_right (by omega),h1] at hz;simp at hz;subst hz;exact hy
  obtain⟨l,hll,hcell⟩:=hex;refine⟨l,⟨hll.symm,fun j y hy=>?_⟩,hl,hmx,fun h=>by (cases h),fun y hy hpos=>?_⟩
  ·obtain⟨h1,h2,h3⟩:=hcell j y hy
   exact⟨a'.block,a'.off,by congr 1;cases a';simp_all,h2,h3⟩
  ·cases hy
   obtain⟨_,h1,h2,_⟩:=hall 0 hpos;exact⟨h1,h2⟩
end
def jmh (n:Int) (s:ByteArray):ByteArray:=s.extract 0 (min (s.size:Int) n).toNat
theorem jiT (n:Nat) (s:ByteArray):(jmh n s).size=min s.size n:=by simp[jmh];omega
theorem jmK (n:Nat) (hn:n<4294967281) (s:ByteArray):(jmh n s).size<4294967281:=by rw[jiT];omega
end Go.Proofs.YtieknocphiceoaaGreatDoor
namespace Go.Proofs.YtieknocphiceoaaGreatDoor
open Go Go.RowKit
structure Sk where
 kind:Int
 level:Int
 e:List Int
 hb:Int
 hr:ByteArray
 cr:Int
 cc:Int
 cl:List Int
 gf:Int
 gl:List (Int × Int)
def jbH (n:Int):List Value:=[.int .u64 n]
def jb5 (b:Int × Int):List Value:=[.int .i64 b.1,.int .u64 b.2]
def jdK (l:List Int):Prop:=∀ n∈l,U64 n
def I64 (n:Int):Prop := -9223372036854775808<=n/\n<=9223372036854775807
def joi (l:List (Int × Int)):Prop:=∀ b∈l,I64 b.1/\U64 b.2
def jcB (st:Option Int) (n:Int):Option (Option Int):=if (match st with | none=>false | some m=>decide (n<=m)) then none else some (some n)
def ja9 (l:List Int):Bool:=decide (l.length<=64)&&(jbM jcB none l).isSome
theorem jj1 (l:List Int):∀ st r,jbM jcB st l=some r->r=l.getLast?.or st:=by
 induction l with
 | nil=>intro st r h;simpa [jeL] using h.symm
 | cons x xs ih =>
  intro st r h;rw[jcF] at h
  cases hx:jcB st x with
  | none=>rw[hx] at h;cases h
  | some y =>
   rw[hx] at h
   have hy:y=some x:=by
    unfold jcB at hx;generalize (match st with | none=>false | some m=>decide (x<=m))=c at hx
    cases c
    ·simpa using hx.symm
    ·simp at hx
   have:=ih y r h;rw[this,hy,List.getLast?_cons]
   cases xs.getLast?<;>rfl
def jby (n:Int):Bool:=decide (3<=n)&&decide (n<=8)
def jcg (b:Int) (r:ByteArray):Bool:=r.data.toList.all fun c => !decide (65-b<(c.toNat:Int))
def jaR (b:Int) (r:ByteArray):Bool:=jby b&&((r.size:Int)==2^b.toNat)&&jcg b r
def jbr (rows cols:Int):Bool:=decide (1<=rows)&&decide (rows<=4)&&decide (4<=cols)&&decide (cols<=32)&&(bits .and .i64 cols (cols-1)==0)
def jaN (rows cols:Int) (l:List Int):Bool:=jbr rows cols&&((l.length:Int)==rows*cols)
def jaq (n:Int):Bool:=decide (0<=n)&&decide (n<=3)
def jap (fine n:Int):Bool :=
 if jaq fine&&decide (0<=n) then
  (if n==0 then true else if 64<=(n-1) / 2^fine.toNat then false else if fine<=(n-1) / 2^fine.toNat then true
   else bits .and .i64 (bits .and .i64 (n-1) (2^fine.toNat-1)) (2^(fine-(n-1) / 2^fine.toNat).toNat-1)==0)
 else false
def jbg (fine:Int) (before:Int) (b:Int × Int):Option Int:=if b.2==0 || !jap fine b.1||decide (b.1<=before) then none else some b.1
def jaX (fine:Int) (l:List (Int × Int)):Bool:=jaq fine&&(jbM (jbg fine) (-1) l).isSome
def jal (kind:Int):Int:=if kind==1 then 4 else if kind==2||kind==3 then 3 else -1
def jaG (x:Sk):Bool :=
 if x.kind==1 then (if x.level==0 then ja9 x.e else jaR x.hb x.hr&&(x.hb==8-x.level))
 else if x.kind==2 then jaN x.cr x.cc x.cl&&(x.cr==2)&&(x.cc==32 / 2^x.level.toNat)
 else jaX x.gf x.gl&&(x.gf==3-x.level)
def jay (x y:Sk):Bool:=x.kind==y.kind&&x.level==y.level&&(x.hb==y.hb&&x.hr.toList==y.hr.toList)&&x.e==y.e&&(x.cr==y.cr&&x.cc==y.cc&&x.cl==y.cl)&&(x.gf==y.gf&&x.gl==y.gl)
structure SS where
 ea:Option Addr
 el:Nat
 ec:Nat
 ca:Option Addr
 cl:Nat
 cc:Nat
 ga:Option Addr
 gl:Nat
 gc:Nat
structure SS.At (s:SS) (n₀:Nat) (w:World) (x:Sk):Prop where
 e:SlC jbH 1 n₀ w s.ea s.el s.ec x.e
 c:SlC jbH 1 n₀ w s.ca s.cl s.cc x.cl
 g:SlC jb5 2 n₀ w s.ga s.gl s.gc x.gl
theorem SS.At.go {s:SS} {A B:World} {x:Sk} (h:s.At A.heap.size A x) (hb:Below A.heap.size A B):s.At B.heap.size B x:=⟨h.e.go hb,h.c.go hb,h.g.go hb⟩
theorem SS.At.below {s:SS} {n:Nat} {A B:World} {x:Sk} (h:s.At n A x) (hb:Below n A B):s.At n B x:=⟨h.e.below hb,h.c.below hb,h.g.below hb⟩
theorem SS.At.mono {s:SS} {n m:Nat} {A:World} {x:Sk} (h:s.At n A x) (hn:n<=m):s.At m A x:=⟨h.e.mono hn,h.c.mono hn,h.g.mono hn⟩
def jdI (x:Sk) (s:SS):Value:=.agg #[.int .i64 x.kind,.int .i64 x.level,.slice s.ea s.el s.ec,.int .i64 x.hb,.string x.hr,.int .i64 x.cr,.int .i64 x.cc,.slice s.ca s.cl s.cc,.int .i64 x.gf,.slice s.ga s.gl s.gc]
def Sk.ok (x:Sk):Prop:=I64 x.kind/\I64 x.level/\jdK x.e/\I64 x.hb/\I64 x.cr/\I64 x.cc/\jdK x.cl/\I64 x.gf/\joi x.gl
structure Sk.arg (x:Sk):Prop where
 e:jdK x.e
 c:jdK x.cl
 g:∀ z∈x.gl,I64 z.1/\U64 z.2
abbrev Up (l:List Int):Prop:=l.Pairwise (· < ·)
def jjZ (l:List Int) (n:Int):Nat:=l.countP (fun x=>decide (x<n))
def jrL (l:List Int) (n:Int):List Int:=if l[jjZ l n]? = some n then l else l.take (jjZ l n)++n::l.drop (jjZ l n)
theorem jru {x:Int} {xs:List Int} (h:Up (x::xs)):Up xs/\∀ y∈xs,x<y:=⟨(List.pairwise_cons.1 h).2,(List.pairwise_cons.1 h).1⟩
def jkT:List Int->List Int->Option (List Int)
 | l,[]=>some l
 | l,n::r=>if 64<(jrL l n).length then none else jkT (jrL l n) r
theorem je6 (l:List Int) (h:ja9 l=true):Up l/\l.length<=64:=by
 simp only[ja9,Bool.and_eq_true,decide_eq_true_eq] at h;obtain⟨h1,h2⟩:=h;refine⟨?_,h1⟩
 have:∀ (l:List Int) (st:Option Int),(jbM jcB st l).isSome=true->Up l/\∀ m,st=some m->∀ y∈l,m<y:=by
  intro l
  induction l with
  | nil=>intro st _;exact⟨List.Pairwise.nil,fun _ _ _ h=>by cases h⟩
  | cons x xs ih =>
   intro st hs;rw[jcF] at hs
   cases hx:jcB st x with
   | none=>rw[hx] at hs;cases hs
   | some s2 =>
    rw[hx] at hs;obtain⟨i1,i2⟩:=ih s2 hs
    have hs2:s2=some x/\∀ m,st=some m->m<x:=by
     unfold jcB at hx
     cases st with
     | none=>simp at hx;exact⟨hx.symm,fun m h=>by cases h⟩
     | some m =>
      by_cases hc:x<=m
      ·simp[hc] at hx
      ·simp[hc] at hx
       refine⟨hx.symm,fun m' h=>?_⟩
       cases h
       omega
    have i3:=i2 x hs2.1;refine⟨List.pairwise_cons.2 ⟨i3,i1⟩,fun m hm y hy=>?_⟩;rcases List.mem_cons.1 hy with rfl | hy
    ·exact hs2.2 m hm
    ·have:=i3 y hy;have:=hs2.2 m hm;omega
 exact (this l none h2).1
theorem jlk:∀ (l:List Int),Up l->l.length<=64->ja9 l=true:=by
 intro l h h2;simp only[ja9,Bool.and_eq_true,decide_eq_true_eq];refine⟨h2,?_⟩
 have:∀ (l:List Int) (st:Option Int),Up l->(∀ m,st=some m->∀ y∈l,m<y)->(jbM jcB st l).isSome=true:=by
  intro l
  induction l with
  | nil=>intro st _ _;rfl
  | cons x xs ih =>
   intro st hu hs;obtain⟨u1,u2⟩:=jru hu
   have hx:jcB st x=some (some x):=by
    unfold jcB
    cases st with
    | none=>simp
    | some m =>
     have:=hs m rfl x List.mem_cons_self;simp;omega
   rw[jcF,hx];exact ih (some x) u1 (fun m hm y hy=>by cases hm;exact u2 y hy)
 exact this l none h (fun m hm=>by cases hm)
end Go.Proofs.YtieknocphiceoaaGreatDoor
