/- Package exact: gather. The law of a range over a function, for an iterator that reads some blocks; slices.Values at uint64 by it. Maps whose keys are integers written out: a new map that is filled, a look-up in it. Of no program. Package ladder: Same. Package ladder: the bodies of sketches: held.distinct, held.count, held.lie; kinds. Package ladder: held.count, held.lie; kinds. The law of a range over an iterator that goes on for ever: the body leaves it by its label. ladder.levels. -/
import Derived.WideMake
import Derived.Test.YtnegciklhanmbaaGreatDoorZXB
set_option maxHeartbeats 4000000
set_option maxRecDepth 100000
namespace Go.Proofs.YtnegciklhanmbaaGreatDoor
open Go Go.RowKit
section
open Go.Shelf
attribute [local go_sem] Oper.semAt_some
theorem jvf:∀ (A l m:List Int),jan l A=some m->l.length<=64->m.length<=64
 | [],l,m,h,hl=>by simp only[jan,Option.some.injEq] at h;rw[<- h];exact hl
 | n::r,l,m,h,hl=>by
  simp only[jan] at h;split at h
  ·cases h
  ·exact jvf r _ m h (by omega)
theorem jxg:∀ (A l m:List Int),jan l A=some m->Up l->Up m
 | [],l,m,h,hl=>by simp only[jan,Option.some.injEq] at h;rw[<- h];exact hl
 | n::r,l,m,h,hl=>by
  simp only[jan] at h;split at h
  ·cases h
  ·exact jxg r _ m h (by rw[jfI l n hl];exact jjN l n hl)
theorem jur (w:World) (len:Nat) (h:len<=1000):∃ C,(Instr.makeSlice 33 (.int .i64 (len:Int)) (.int .i64 (len:Int))).run Tryz.prog w=.ok (.slice (some ⟨w.heap.size,0,none⟩) len len) C/\(∃ B,C.heap[w.heap.size]? = some (.cells B 22 (0,0))/\B.size=len)/\Below w.heap.size w C/\C.heap.size=w.heap.size+1:=by
 obtain⟨i,E,F,A,D⟩:=info_parts jeV;have hr:=run_makeSlice (P:=Tryz.prog) (w:=w) 33 22 i _ jdg E F .i64 .i64 (len:Int) (len:Int) (by omega) (Int.le_refl _) (by rw[A];omega) (by rw[D];omega) (by omega);rw[Int.toNat_natCast] at hr;exact⟨_,hr,⟨_,World.alloc_heap_new _ _,by rw[size_madeCells,A];simp⟩,(Below.refl _ w).alloc (Nat.le_refl _) _,by simp⟩
theorem jnu {X Y:World} {row:Option Nat} {p:Addr} {v:Value} (A:X.cell? p=some v) (C:X.grownBy Y row) (hr:∀ r,row=some r->∃ o:Obj,X.heap[r]? = some o/\o.isCells=false):Y.cell? p=some v:=by
 have B:=World.block_lt_of_cell? X _ A;refine (World.cell?_of_block (C.block _ B (fun e=>?_))).trans A;obtain⟨o,D,E⟩:=hr _ e.symm;unfold World.cell? at A;rw[D] at A
 cases o<;>simp_all [Obj.isCells]
theorem jvt {C:Nat} {X Y:World} {row:Option Nat} {a:Option Addr} {len cap:Nat} {l:List Int} (A:SlC jaF 1 X.heap.size X a len cap l) (B:X.grownBy Y row) (hr:∀ r,row=some r->C<=r/\∃ o:Obj,X.heap[r]? = some o/\o.isCells=false):SlC jaF 1 Y.heap.size Y a len cap l:=by
 have D:SlC jaF 1 X.heap.size Y a len cap l:=⟨⟨A.1.1,fun j x F=>by
  obtain⟨b,off,e,hb,E⟩:=A.1.2 j x F;refine⟨b,off,e,hb,fun i G=>?_⟩;obtain rfl:i=0:=by omega
  exact jnu (E 0 (by omega)) B (fun r h=>(hr r h).2)⟩,A.2⟩
 exact D.mono B.size
def jfr:ByteArray:=⟨#[116,111,111,32,109,97,110,121,32,110,117,109,98,101,114,115]⟩
def jiC (l more:List Int) (w:World) (e:Ending) (w':World):Prop:=Bw w w'/\match jan l more with
 | some m=>∃ a cap,e=.returned (.tuple #[.agg #[.slice a m.length cap],.nilIface])/\SlC jaF 1 w'.heap.size w' a m.length cap m/\(∀ x,a=some x->w.heap.size<=x.block)
 | none=>e=.returned (.tuple #[.agg #[.slice none 0 0],.iface 416 (.agg #[.string jfr])])
theorem jky {α:Type} {P:Program} {g:Operand} {L:Array Tmp} {assign body:Code} {Q:Exit->Act->World->Prop} {a:Act} {w:World} {G:Nat} (V X:Nat) (v1:α->Value)
  {gf:Nat} {lb:Array Value} (d:a.eval g=.func (.func gf) #[] lb) (Y:∀ args w,(callFunc gf args).run P w=.ok (.enter gf args) w)
  {B:α->Array Value} {xs:List α} {N:Nat} {w0:World} (J:SeqStopsK Fence.wide 8 P gf lb B (Below V) (fun f=>f=xs) (fun A=>A <+: xs) N w0)
  (T:V<=w.heap.size) (S:Bw w0 w) (U:∀ x,(B x).size=L.size)
  (I M:List α->World->Prop) (b:OwnFrom w.heap.size I) (R:OwnFrom w.heap.size M) (Z:I [] w)
  (C:∀ (l:Nat) (A:List α) (x:α) (W:World) (K:Act->World->Prop),I A W->(I A W->K { tmps:=((L.zip (B x)).foldl (fun t (p,v)=>t.setIfInBounds p v) a.tmps).setIfInBounds X (v1 x),defers:=[] } W) ->
   assign.wpIn (Fence.wide.inRound l) 7 P (Exit.then K (fun _ _ _=>False)) { tmps:=(L.zip (B x)).foldl (fun t (p,v)=>t.setIfInBounds p v) a.tmps,defers:=[] } W)
  (F:∀ (l:Nat) (A:List α) (x:α) (W:World),I A W->A.length<N->body.wpIn (Fence.wide.inRound l) 7 P (ownPostG w.heap.size (Below V) I (fun c A W=>c=.exit G/\M A W) (A++[x]) W) { tmps:=((L.zip (B x)).foldl (fun t (p,v)=>t.setIfInBounds p v) a.tmps).setIfInBounds X (v1 x),defers:=[] } W)
  (E:∀ (D:Nat) (W:World),w.heap.size<=D->(I xs W\/∃ A,A <+: xs/\M A W)->W.heap[D]? = some (.deferred (some []))->Q .normal { a with defers:={ target:=.collected D,args:=#[] }::a.defers } W) :
  (Code.rangeFunc g L assign body).wp P (Exit.inBlock G Q) a w :=
 jgS X v1 d Y J T S U I (fun c A W=>c=.exit G/\M A W) b (fun _=>(ownFrom_pure _ _).and R) Z C F (fun D W O H hK=>E D W O (.inl H) hK)
  (fun D c A W O e H hK=>by obtain⟨rfl,H⟩:=H;exact wp_exit (by show (if G=G then Q .normal _ _ else Q (.exit G) _ _);rw[if_pos rfl];exact E D W O (.inr ⟨A,e,H⟩) hK))
theorem jfG:∀ (A r l:List Int),jan l A=none->jan l (A++r)=none
 | [],r,l,h=>by simp[jan] at h
 | x::A,r,l,h=>by
  simp only[List.cons_append,jan] at h ⊢;split
  ·rfl
  ·rename_i B
   rw[if_neg B] at h;exact jfG A r _ h
def GI (l:List Int) (w:World) (pre:List Int) (W:World):Prop:=∃ (cur:List Int) (a:Option Addr) (cap:Nat),jan l pre=some cur/\Boxed W (w.heap.size+2) 33 (.slice a cur.length cap)/\SlC jaF 1 W.heap.size W a cur.length cap cur /\
 (∀ x,a=some x->w.heap.size<x.block/\x.block≠w.heap.size+2/\x.block≠w.heap.size+3)/\Boxed W (w.heap.size+3) 119 .nilIface/\Boxed W w.heap.size 35 (.slice none 0 0)/\Bw w W
def GIb (l:List Int) (w:World) (pre:List Int) (W:World):Prop:=jan l pre=none/\Boxed W (w.heap.size+3) 119 (.iface 416 (.agg #[.string jfr]))/\Boxed W w.heap.size 35 (.slice none 0 0)/\Bw w W
theorem jxf (l:List Int) (w:World) (C:Nat) (O:w.heap.size+5<=C):OwnFrom C (GI l w):=fun N X Y row M D hr=>by
 obtain⟨A,a,cap,E,F,G,H,I,J,L⟩:=M;exact⟨A,a,cap,E,jc9 _ _ _ (fun _=>.slice a A.length cap) () X Y row F D hr,jvt G D hr,H,jc9 _ _ _ (fun _=>.nilIface) () X Y row I D hr,jc9 _ _ _ (fun _=>.slice none 0 0) () X Y row J D hr,ownFrom_below (β:=Unit) (B:=C) (Nat.le_refl _) (by omega) () X Y row L D hr⟩
theorem jwn (l:List Int) (w:World) (C:Nat) (J:w.heap.size+5<=C):OwnFrom C (GIb l w):=fun I X Y row H A hr=>by
 obtain⟨D,E,F,G⟩:=H;exact⟨D,jc9 _ _ _ (fun _=>.iface 416 (.agg #[.string jfr])) () X Y row E A hr,jc9 _ _ _ (fun _=>.slice none 0 0) () X Y row F A hr,ownFrom_below (β:=Unit) (B:=C) (Nat.le_refl _) (by omega) () X Y row G A hr⟩
attribute [-go_sem] Builtin.append_
theorem jiP (l L:List Int) (a:Option Addr) (len cap:Nat) (ma:Option Addr) (F b:Nat) (w:World) (hL:SlE jaF 1 w.heap.size w a len l) (hM:SlE jaF 1 w.heap.size w ma F L) (hu:Up l) (hl:len<=64) (hm:F<=1000) (hn:a=none->len=0) :
  Calls Tryz.prog 256 #[.slice a len cap,.slice ma F b] w (jiC l L w):=by
 have aL:=hL.1;subst aL;obtain⟨Wr,aG,ar,aB,aO⟩:=jab w #[.slice none 0 0] 35;obtain⟨W1,aw,⟨A,ae,aI⟩,c,ay⟩:=jur Wr l.length (by omega);rw[aO] at ae aw c ay;obtain⟨W2,aF,d,S,aM⟩:=jab W1 #[.slice (some ⟨w.heap.size+1,0,none⟩) l.length l.length] 33;rw[ay] at d S aM;have X:Bw w W2:=(aB.trans (c.mono (by omega))).trans (S.mono (by omega));have au:W2.heap[w.heap.size+1]? = some (.cells A 22 (0,0)):=(S.block _ (by omega)).trans ae;obtain⟨W3,aJ,aq,al,aR,ah⟩:=jnv (cap:=cap) au aI ((hL.below X)) hn;have m:Bw w W3:=X.trans (al.mono (by omega));have k:W3.heap[w.heap.size+1+1]? = some (.cells #[.slice (some ⟨w.heap.size+1,0,none⟩) l.length l.length] 33 (0,0)):=(ah _ (by omega)).trans d;have k2:W2.cell? ⟨w.heap.size+1+1,0,none⟩=some (.slice (some ⟨w.heap.size+1,0,none⟩) l.length l.length):=cCc d 0;refine jaq Tryz.func256 rfl ?_;simp only[Tryz.ntmps256,List.size_toArray,List.length_cons,List.length_nil,Nat.reduceAdd,Nat.reduceSub,Array.replicate_succ,Array.replicate_zero,List.push_toArray,List.append_toArray,List.nil_append,List.cons_append];go_wp2_with fail;go_step3;go_wp2_with fail;obtain⟨W4,ao,ab,T,aN⟩:=jab W3 #[.nilIface] 119;rw[ao];have z:W3.heap.size=w.heap.size+3:=by omega
 obtain⟨W5,ap,ac,M,aS⟩:=jab W4 #[.slice ma F b] 33;have aA:=Lib.hid ap;apply wp_label;have V:=k;have g:=S;have f:=c;clear ao ap aG aw aF aJ d k2 k;go_wp2_with (go_at_call 262;refine (joR _ _ _ _).mono ?_;rintro e w' ⟨rfl,rfl⟩;rw[aA.out]);have n:Bw w W5:=(m.trans (T.mono (by omega))).trans (M.mono (by omega))
 have an:SlC jaF 1 W3.heap.size W3 (some ⟨w.heap.size+1,0,none⟩) l.length l.length l:=by
  refine⟨⟨rfl,fun j x hx=>⟨w.heap.size+1,0,rfl,by omega,fun i hi=>?_⟩⟩,Nat.le_refl _,by unfold maxLen;omega,(fun h=>by cases h),fun x hx _=>by cases hx;exact⟨rfl,by show w.heap.size+1<_;omega⟩⟩;obtain rfl:i=0:=by omega
  have h5:=jcC jaF 1 (fun _=>rfl) l j 0 x hx (by omega);rw[cCc aq,Nat.zero_add];simpa using h5
 have aC:GI l w [] W5:=by
  refine⟨l,_,l.length,rfl,?_,(an.go T).go M,(fun x hx=>by cases hx;exact⟨Nat.lt_succ_self _,by show w.heap.size+1≠_;omega,by show w.heap.size+1≠_;omega⟩),?_,?_,n⟩
  ·exact (M.block _ (by omega)).trans ((T.block _ (by omega)).trans V)
  ·refine (M.block _ (by omega)).trans ?_
   rw[z] at ab;exact ab
  ·refine (M.block _ (by omega)).trans ((T.block _ (by omega)).trans ((ah _ (by omega)).trans ((g.block _ (by omega)).trans ?_)))
   exact (f.block _ (by omega)).trans ar
 rw[aN,z] at ac;have am:w.heap.size+5<=W5.heap.size:=by omega
 have az:=jpF (w.heap.size+3+1) w.heap.size ma F b L (by omega) W5 (by omega) (by omega) (cCc ac 0) (hM.below n);have HU:=Lib.hid hu;have ak:=Lib.hid hl;clear ae au aq ab ac c S al T M X m ah an ar V g f hL hM hu
 refine jky w.heap.size 8 (fun x:Int=>.int .u64 x) (gf:=270) (lb:=#[.pointer (some ⟨w.heap.size+3+1,0,none⟩)]) rfl (enters_of Tryz.func270 (by kernel_rfl) rfl)
  az (by omega) (Below.refl _ _) (fun _=>rfl) (GI l w) (GIb l w) (jxf l w _ am) (jwn l w _ am) aC ?assign ?body ?fin
 case assign =>
  rintro l G x W K hI hK;simp only[List.zip_toArray,List.zip_cons_cons,List.zip_nil_right,List.size_toArray,List.foldl_toArray',List.foldl_cons,List.foldl_nil,List.setIfInBounds_toArray,List.set_cons_succ,List.set_cons_zero] at hK ⊢;gi_wp2;exact hI
 case body =>
  rintro lo G x W ⟨A,R,B,t,Y,hS,I,P,E,hB⟩ aQ;simp only[List.zip_toArray,List.zip_cons_cons,List.zip_nil_right,List.size_toArray,List.foldl_toArray',List.foldl_cons,List.foldl_nil,List.setIfInBounds_toArray,List.set_cons_succ,List.set_cons_zero];have c0:=Y.cell;have aP:=jvf G l A t ak.out;have hW:=ju3 A R A.length B x W hS (jxg G l A t HU.out) (by omega);clear hS;have o:=Y;have Z:=P;have q:=E;clear Y P E;gi_wp2_with fail;refine⟨trivial,(CallsIn.inRound lo (callsIn_wide.2 hW)).mono ?_⟩;rintro e W6 ⟨a6,H,rfl,aD,af,U⟩;have hz:w.heap.size+3<W.heap.size:=Z.lt;have p1:Boxed W6 (w.heap.size+2) 33 (.slice R A.length B):=(U.block _ (by omega)).trans o;have p2:Boxed W6 (w.heap.size+3) 119 .nilIface:=(U.block _ (by omega)).trans Z;have p3:Boxed W6 w.heap.size 35 (.slice none 0 0):=(U.block _ (by omega)).trans q
  have av:∀ y,a6=some y->w.heap.size<y.block/\y.block≠w.heap.size+2/\y.block≠w.heap.size+3:=by
   rcases af with rfl | h
   ·exact I
   ·intro y hy
    have:=h y hy;omega
  have q1:=p1.cell;have q2:=p1.frozen;have q3:=p2.cell;have q4:=p2.frozen;obtain⟨Q,O,k7⟩:∃ Q,W6.setCell ⟨w.heap.size+2,0,none⟩ (.slice a6 (jcB A x).length H)=Q/\KeepsFrom W5.heap.size W6 Q:=⟨_,rfl,(KeepsOthers.setCell W6 _ _).from _⟩;have r1:Boxed Q (w.heap.size+2) 33 (.slice a6 (jcB A x).length H):=by rw[<- O];exact p1.set _
  have r2:Boxed Q (w.heap.size+3) 119 .nilIface:=by rw[<- O];exact p2.other (by omega) _
  have r3:Boxed Q w.heap.size 35 (.slice none 0 0):=by rw[<- O];exact p3.other (by omega) _
  have rS:SlC jaF 1 Q.heap.size Q a6 (jcB A x).length H (jcB A x):=by
   have aj:Q.heap.size=W6.heap.size:=by rw[<- O];simp
   rw[aj,<- O];exact aD.set_far (fun y hy=>by have:=av y hy;show w.heap.size+2≠_;omega) _
  have rB:Below w.heap.size W Q:=by rw[<- O];exact (U.mono (by omega)).setCell (p:=⟨w.heap.size+2,0,none⟩) (by show _<=_+2;omega) _
  have s1:=r1.cell;have s3:=r2.cell;have s4:=r2.frozen;have u:KeepsFrom W5.heap.size W Q:=(jgw U (Nat.le_refl _)).trans k7;have ag:=jfH G l x;rw[t] at ag;have J:jan l (G++[x])=if 64<(jcB A x).length then none else some (jcB A x):=ag
  have HX:=Lib.hid (And.intro p1 (And.intro p2 p3));clear p1 p2 p3 o Z q ag t q3 q4;by_cases s:64<(jcB A x).length
  ·have ad:(64:Int)<((jcB A x).length:Int):=by omega
   rw[if_pos s] at J;gi_wp2_with fail;refine⟨u.trans ((KeepsOthers.setCell Q _ _).from _),rfl,J,r2.set _,r3.other (by omega) _,(hB.trans rB).setCell (p:=⟨w.heap.size+3,0,none⟩) (by show _<=_+3;omega) _⟩
  ·have ad:¬ (64:Int)<((jcB A x).length:Int):=by omega
   rw[if_neg s] at J;gi_wp2_with fail;exact⟨u,rB,jcB A x,a6,H,J,r1,rS,av,r2,r3,hB.trans rB⟩
 case fin =>
  rintro D W hD hi hK;rcases hi with⟨A,R,B,t,Y,hS,I,P,E,hB⟩ | ⟨G,ax,t,P,E,hB⟩
  ·have q1:=Y.cell
   have q2:=P.cell;have q3:=E.cell;have q4:=E.frozen;go_wp2_with fail;rw[Exit.noGoto_ret];have N:=jtX hK ⟨w.heap.size,0,none⟩ (.slice R A.length B);have aa:Bw w (W.setCell ⟨w.heap.size,0,none⟩ (.slice R A.length B)):=hB.setCell (p:=⟨w.heap.size,0,none⟩) (Nat.le_refl _) _;have aj:(W.setCell ⟨w.heap.size,0,none⟩ (.slice R A.length B)).heap.size=W.heap.size:=by simp
   have aE:SlC jaF 1 (W.setCell ⟨w.heap.size,0,none⟩ (.slice R A.length B)).heap.size (W.setCell ⟨w.heap.size,0,none⟩ (.slice R A.length B)) R A.length B A:=by
    rw[aj];exact hS.set_far (fun y hy=>by have:=I y hy;show w.heap.size≠_;omega) _
   have ai:some w.heap.size≠some D:=fun e=>by cases e;omega
   have e1:=((E.set (.slice R A.length B)).kept (grownBy_putObj' _ D (.deferred none)) ai).cell;refine jau (v:=.tuple #[.agg #[.slice R A.length B],.nilIface]) N ?_ ?_
   ·simp[results,Tryz.f256,go_sem,e1]
   ·refine⟨jee aa (by omega) N,?_⟩
    rw[t];exact⟨R,B,rfl,jvt (C:=0) aE (grownBy_putObj' _ D _) (fun r e=>by cases e;exact⟨Nat.zero_le _,_,N,rfl⟩),fun y hy=>by have:=I y hy;omega⟩
  ·have q2:=P.cell
   have q3:=E.cell;have q4:=E.frozen;go_wp2_with fail;go_region;have N:(W.setCell ⟨w.heap.size,0,none⟩ (.slice none 0 0)).drew.heap[D]? = some (.deferred (some [])):=jtX hK ⟨w.heap.size,0,none⟩ (.slice none 0 0);have aa:Bw w (W.setCell ⟨w.heap.size,0,none⟩ (.slice none 0 0)).drew:=(hB.setCell (p:=⟨w.heap.size,0,none⟩) (Nat.le_refl _) _).drew;have ai:some w.heap.size≠some D:=fun e=>by cases e;omega
   have aH:Boxed (W.setCell ⟨w.heap.size,0,none⟩ (.slice none 0 0)).drew w.heap.size 35 (.slice none 0 0):=E.set _;have e1:=(aH.kept (grownBy_putObj' _ D (.deferred none)) ai).cell;go_wp2_with fail;rw[Exit.noGoto_ret];refine jau (v:=.tuple #[.agg #[.slice none 0 0],.iface 416 (.agg #[.string jfr])]) N ?_ ?_
   ·simp[results,Tryz.f256,go_sem,e1]
   ·refine⟨jee aa (by omega) N,?_⟩
    have aK:jan l L=none:=by
     obtain⟨r,rfl⟩:=ax;exact jfG G r l t
    rw[aK]
end
section
open Go.Shelf
attribute [local go_sem] Oper.semAt_some
def KL (L:List Nat) (W W':World):Prop:=∀ b∈L,∀ o,W.heap[b]? = some o->W'.heap[b]? = some o
theorem KL.trans {L:List Nat} {X Y Z:World} (h:KL L X Y) (k:KL L Y Z):KL L X Z:=fun b hb o A=>k b hb o (h b hb o A)
theorem KL.refl (L:List Nat) (X:World):KL L X X:=fun _ _ _ h=>h
theorem KL.below {L:List Nat} {n:Nat} {X Y:World} (h:Below n X Y) (A:∀ b∈L,b<n):KL L X Y:=fun b hb _ B=>(h.block b (A b hb)).trans B
theorem KL.grown {L:List Nat} {X Y:World} {row:Option Nat} (h:X.grownBy Y row) (B:∀ b∈L,some b≠row):KL L X Y:=fun b hb _ A=>(h.block b (Array.getElem?_eq_some_iff.1 A).1 (B b hb)).trans A
theorem jnq {α:Type} {P:Program} {g:Operand} {Z:Array Tmp} {assign body:Code} {Q:Exit->Act->World->Prop} {a:Act} {w:World} (L:List Nat) (T:α->Array Value)
  {gf:Nat} {lb:Array Value} (s:a.eval g=.func (.func gf) #[] lb) (i:∀ args w,(callFunc gf args).run P w=.ok (.enter gf args) w)
  {B:α->Array Value} {xs:List α} {N:Nat} {w0:World} (J:SeqStopsK Fence.wide 8 P gf lb B (KL L) (fun f=>f=xs) (fun A=>A <+: xs) N w0)
  (r:∀ b∈L,b<w.heap.size) (U:Bw w0 w) (Y:∀ x,(B x).size=Z.size)
  (I:List α->World->Prop) (M:Code->List α->World->Prop) (q:OwnFrom w.heap.size I) (R:∀ c,OwnFrom w.heap.size (M c)) (j:I [] w)
  (C:∀ (l:Nat) (A:List α) (x:α) (W:World) (K:Act->World->Prop),I A W->(I A W->K { tmps:=T x,defers:=[] } W) ->
   assign.wpIn (Fence.wide.inRound l) 7 P (Exit.then K (fun _ _ _=>False)) { tmps:=(Z.zip (B x)).foldl (fun t (p,v)=>t.setIfInBounds p v) a.tmps,defers:=[] } W)
  (E:∀ (l:Nat) (A:List α) (x:α) (W:World),I A W->A.length<N->body.wpIn (Fence.wide.inRound l) 7 P (ownPostG w.heap.size (KL L) I M (A++[x]) W) { tmps:=T x,defers:=[] } W)
  (F:∀ (D:Nat) (W:World),w.heap.size<=D->I xs W->W.heap[D]? = some (.deferred (some []))->Q .normal { a with defers:={ target:=.collected D,args:=#[] }::a.defers } W)
  (H:∀ (D:Nat) (c:Code) (A:List α) (W:World),w.heap.size<=D->A <+: xs->M c A W->W.heap[D]? = some (.deferred (some []))->c.wp P Q { a with defers:={ target:=.collected D,args:=#[] }::a.defers } W) :
  (Code.rangeFunc g Z assign body).wp P Q a w :=
 (wpIn_wide (n:=9)).1 (wpIn_rangeFunc_ownH rfl (by omega) s trivial i J (fun h k=>h.trans k)
  (fun W l o z y h _ _ b hb o2 m=>(World.putObj_heap_other (by have:=r b hb;omega)).trans m) U Y I M q R j (fun x d _=>d = { tmps:=T x,defers:=[] }) (fun _ _=>ownFrom_pure _ _)
  (fun l A x W K G hK=>C l A x W K G (fun V=>hK _ _ (KeepsFrom.refl _ _) (KL.refl _ _) V rfl))
  (fun l A x d W _ _ G S X=>by subst S;exact E l A x W G X) (fun D f W O e G hK=>by subst e;exact F D W O G hK) (fun D c A W O u G hK=>wpIn_wide.2 (H D c A W O u G hK)))
theorem jgR {α:Type} {P:Program} {g:Operand} {M:Array Tmp} {assign body:Code} {Q:Exit->Act->World->Prop} {a:Act} {w:World} (L:List Nat) (T:α->Array Value)
  {gf:Nat} {lb:Array Value} (V:a.eval g=.func (.func gf) #[] lb) (O:∀ args w,(callFunc gf args).run P w=.ok (.enter gf args) w)
  {B:α->Array Value} {xs:List α} {N:Nat} {w0:World} (G:SeqStopsK Fence.wide 8 P gf lb B (KL L) (fun X=>X=xs) (fun A=>A <+: xs) N w0)
  (U:∀ b∈L,b<w.heap.size) (H:Bw w0 w) (J:∀ x,(B x).size=M.size)
  (I:List α->World->Prop) (S:OwnFrom w.heap.size I) (R:I [] w)
  (C:∀ (l:Nat) (A:List α) (x:α) (W:World) (K:Act->World->Prop),I A W->(I A W->K { tmps:=T x,defers:=[] } W) ->
   assign.wpIn (Fence.wide.inRound l) 7 P (Exit.then K (fun _ _ _=>False)) { tmps:=(M.zip (B x)).foldl (fun t (p,v)=>t.setIfInBounds p v) a.tmps,defers:=[] } W)
  (E:∀ (l:Nat) (A:List α) (x:α) (W:World),I A W->A.length<N->body.wpIn (Fence.wide.inRound l) 7 P (ownPostG w.heap.size (KL L) I (fun _ _ _=>False) (A++[x]) W) { tmps:=T x,defers:=[] } W)
  (F:∀ (D:Nat) (W:World),w.heap.size<=D->I xs W->W.heap[D]? = some (.deferred (some []))->Q .normal { a with defers:={ target:=.collected D,args:=#[] }::a.defers } W) :
  (Code.rangeFunc g M assign body).wp P Q a w :=
 jnq L T V O G U H J I (fun _ _ _=>False) S (fun _ _ _ _ _ h _ _=>h) R C E F (fun _ _ _ _ _ _ h _=>h.elim)
theorem SlE.kl {G b E off len:Nat} {W A:World} {l:List Int} (h:KL [G,b] W A) (D:SlE jaF 1 E W (some ⟨b,off,none⟩) len l):SlE jaF 1 E A (some ⟨b,off,none⟩) len l:=by
 refine⟨D.1,fun j x J=>?_⟩;obtain⟨L,F,e,hb,H⟩:=D.2 j x J
 cases e
 refine⟨b,off,rfl,hb,fun i I=>?_⟩;obtain rfl:i=0:=by omega
 have C:W.cell? ⟨b,off+j*1+0,none⟩=some (.int .u64 x):=H 0 I;show A.cell? ⟨b,off+j*1+0,none⟩=some (.int .u64 x)
 cases B:W.heap[b]? with
 | none=>simp[World.cell?,B] at C
 | some o=>exact (World.cell?_of_block (w:=W) (w':=A) (a:=⟨b,off+j*1+0,none⟩) ((h b (by simp) o B).trans B.symm)).trans C
theorem jpE {α:Type} (f:α->Int) (l D c b off cap:Nat) (A:List α) (I:A.length<4294967281) (J R:List α->World->Prop)
  (Z:∀ B x W,J B W->B.length<A.length->YieldAt Fence.wide 7 Tryz.prog l #[.int .u64 (f x)] W fun e C =>
   (e=.returned (.bool true)/\J (B++[x]) C/\KL [D,b] W C)\/(e=.returned (.bool false)/\R (B++[x]) C))
  (W:World) (L:W.heap[D]? = some (.cells #[.slice (some ⟨b,off,none⟩) A.length cap] 33 (0,0))) (a:SlE jaF 1 c W (some ⟨b,off,none⟩) A.length (A.map f)) (V:J [] W) :
  CallsIn Fence.wide 8 Tryz.prog 270 #[.func (.yield l) #[] #[],.pointer (some ⟨D,0,none⟩)] W fun e C=>(∃ v,e=.returned v) /\
   ((∃ T,T=A/\J T C)\/(∃ B,B <+: A/\R B C)):=by
 refine callsIn_of_wp Tryz.func270 rfl trivial ?_ rfl;simp only[Tryz.ntmps270,List.size_toArray,List.length_cons,List.length_nil,Nat.reduceAdd,Nat.reduceSub,Array.replicate_succ,Array.replicate_zero,List.push_toArray,List.append_toArray,List.nil_append,List.cons_append];have m:W.cell? ⟨D,0,none⟩=some (.slice (some ⟨b,off,none⟩) A.length cap):=cCc L 0;gi_wp2;gi_loopw [7] (fun i wr=>∃ k:Nat,k<=A.length/\i=.int .i64 k/\J (A.take k) wr/\KL [D,b] W wr) (fun i _=>A.length-(intOf i).toNat)
 case atStart=>exact⟨0,Nat.zero_le _,rfl,V,KL.refl _ _⟩
 case round =>
  obtain⟨k,o,rfl,E,H⟩:=hrel;by_cases O:k<A.length
  ·obtain⟨x,P⟩:∃ x,A[k]? = some x:=⟨_,List.getElem?_eq_getElem O⟩
   obtain⟨g,S,U,hb,G⟩:=(SlE.kl H a).2 k (f x) (by rw[List.getElem?_map,P];rfl)
   cases U
   have j:wr.cell? ⟨b,off+k,none⟩=some (.int .u64 (f x)):=by have X:=G 0 (by omega);rwa [Nat.mul_one] at X
   obtain⟨n,tmps,assign,body,p,Y⟩:=Z _ x _ E (by simp;omega);clear G;have Q:=Lib.hid P;clear P;gi_wp2;refine Y.mono ?_;rintro e d (⟨rfl,M,N⟩ | ⟨rfl,F⟩)
   ·gi_wp2
    go_roundw
    case rel=>exact⟨k+1,by omega,by simp,by rw[List.take_add_one,Q.out];exact M,H.trans N⟩
    case measure=>simp[intOf];omega
   ·gi_wp2
    refine bodyPost_ret (results_none rfl _ _ _) rfl ?_;exact⟨⟨_,rfl⟩,.inr ⟨_,by have h:=List.take_prefix (k+1) A;rwa [List.take_add_one,Q.out] at h,F⟩⟩
  ·obtain rfl:k=A.length:=by omega
   gi_wp2
   go_end0;exact⟨⟨_,rfl⟩,.inl ⟨_,List.take_length,E⟩⟩
theorem jsM {α:Type} (f:α->Int) (D b F:Nat) (a:Option Addr) (len cap:Nat) (C:List α) (E:len<4294967281) (w:World) (I:F<=w.heap.size)
  (R:w.heap[D]? = some (.cells #[.slice a len cap] 33 (0,0))) (P:SlE jaF 1 F w a len (C.map f)) (G:0<len->∀ x,a=some x->x.block=b) :
  SeqStopsK Fence.wide 8 Tryz.prog 270 #[.pointer (some ⟨D,0,none⟩)] (fun x:α=>#[.int .u64 (f x)]) (KL [D,b]) (fun U=>U=C) (fun L=>L <+: C) C.length w:=fun l J O W N _ _ Q M=>by
 have B:=known N (Nat.le_refl _) R;have A:SlE jaF 1 F W a len (C.map f):=P.below (N.mono I);have H:len=C.length:=by have:=A.1;rwa [List.length_map] at this
 rcases Nat.eq_zero_or_pos len with h | h
 ·obtain rfl:C=[]:=List.eq_nil_of_length_eq_zero (by omega)
  rw[h] at B;exact (jeH l D a cap (fun _=>J []) W (cCc B 0) M).mono fun e V ⟨S,T⟩=>⟨S,.inl ⟨_,rfl,T⟩⟩
 ·obtain⟨x,X,off,-,rfl,-,-⟩:=A.at h
  obtain rfl:=G h _ rfl;rw[H] at B A;exact jpE f l D F _ off cap C (by omega) J O Q W B A M
end
theorem jp4 (w:World) (o A:Obj) : { w.alloc o with heap:=(w.alloc o).heap.setIfInBounds w.heap.size A }=w.alloc A:=by
 have:(w.heap.push o).setIfInBounds w.heap.size A=w.heap.push A:=by
  apply Array.ext
  ·simp
  ·intro i E B
   rw[Array.getElem_setIfInBounds (by simpa using B)];by_cases C:w.heap.size=i
   ·subst C;simp
   ·have D:i<w.heap.size:=by simp at B;omega
    simp[C,Array.getElem_push_lt D]
 unfold World.alloc;simp only[this]
theorem jb0 {P:Program} (w:World) {B kt D:TypeId} {A:IntKind} {clock:Nat} {es:Array MapEntry} {n:Int} (val:Value) (G:P.underlying B=some (.map kt D)) (C:P.underlying kt=some (.int A))
  (F:Instr.findNow (.int A) (.int A n) es.toList 0=some none) :
  (Instr.mapUpdate B (.map (some w.heap.size)) (.int A n) val).run P (w.alloc (.map es clock))=.ok () (w.alloc (.map (es.push { key:=.int A n,val:=val,born:=clock }) (clock+1))):=by
 have hb:(w.alloc (.map es clock)).heap[w.heap.size]? = some (.map es clock):=World.alloc_heap_new _ _;have E:(Instr.checkKey false 10000 kt (.int A n)).run P (w.alloc (.map es clock))=.ok () (w.alloc (.map es clock)):=MapKept.run_checkKey (k:=.int A n) C (by simp[MapKept.IsKey]) false 9999;simp[Instr.mapUpdate,run_underlying G,MapKept.run_getObj_map hb,E,MapKept.run_findKey C F,MapKept.run_setObj_map _ hb,Result.andThen];exact jp4 w _ _
theorem jeW {P:Program} {w:World} {B kt D:TypeId} {A:IntKind} {r clock:Nat} {es:Array MapEntry} {n:Int} {i:Nat} {v:Value} (G:P.underlying B=some (.map kt D)) (C:P.underlying kt=some (.int A))
  (hb:w.heap[r]? = some (.map es clock)) (F:Instr.findNow (.int A) (.int A n) es.toList 0=some (some (i,v))) :
  (Instr.lookup B (.map (some r)) (.int A n) true).run P w=.ok (.tuple #[v,.bool true]) w/\(Instr.lookup B (.map (some r)) (.int A n) false).run P w=.ok v w:=by
 have E:∀ b,(Instr.checkKey b 10000 kt (.int A n)).run P w=.ok () w:=fun b=>MapKept.run_checkKey (k:=.int A n) C (by simp[MapKept.IsKey]) b 9999
 constructor<;>simp[Instr.lookup,run_underlying G,MapKept.run_getObj_map hb,E,MapKept.run_findKey C F,Result.andThen]
theorem jfQ {P:Program} {w:World} {B kt C:TypeId} {A:IntKind} {r clock:Nat} {es:Array MapEntry} {n:Int} {z:Value} (G:P.underlying B=some (.map kt C)) (D:P.underlying kt=some (.int A))
  (hb:w.heap[r]? = some (.map es clock)) (H:(zeroValue C).run P w=.ok z w) (F:Instr.findNow (.int A) (.int A n) es.toList 0=some none) :
  (Instr.lookup B (.map (some r)) (.int A n) true).run P w=.ok (.tuple #[z,.bool false]) w:=by
 have E:∀ b,(Instr.checkKey b 10000 kt (.int A n)).run P w=.ok () w:=fun b=>MapKept.run_checkKey (k:=.int A n) D (by simp[MapKept.IsKey]) b 9999
 simp[Instr.lookup,run_underlying G,MapKept.run_getObj_map hb,E,MapKept.run_findKey D F,H,Result.andThen]
theorem jqF (A B:Int) (C D:ByteArray) (w:World):(binOp .eql 37 (.agg #[.int .i64 A,.string C]) (.agg #[.int .i64 B,.string D])).run Tryz.prog w=.ok (.bool (A==B&&C.toList==D.toList)) w:=by
 have E:Tryz.prog.underlying 37=some (.struct (Tryz.prog.fieldsOf 37)):=by kernel_rfl
 have F:Tryz.prog.stoodInHeld 37=false:=by kernel_rfl
 have G : (Tryz.prog.fieldsOf 37).toList = [{ name := "Bits", type := 3, offset := 0, embedded := false, tag := "", pkgPath := "", byteOffset := 0 }, { name := "Regs", type := 9, offset := 1, embedded := false, tag := "", pkgPath := "", byteOffset := 8 }] := by kernel_rfl
 rw[run_eql_struct,run_equalIn_agg w 9999 _ _ _ E F,G]
 cases ha:(A==B)<;>cases hb:(C.toList==D.toList)<;>simp[go_sem,ha,hb,Tryz.underlying3,Tryz.underlying9]
theorem jve:Tryz.prog.eqGuardType Tryz.prog.depth 37=false:=by kernel_rfl
theorem jhN (x y:Sk) (s t:SS) (w:World) (d:s.At w.heap.size w x) (f:t.At w.heap.size w y) :
  CR 88 #[.agg (skv x s),.agg (skv y t)] w (.bool (jbc x y)):=by
 obtain⟨i,Y,B,C,A,aa⟩:=jas w (skv x s) 44 (skv y t) 44;obtain⟨j,c1,c2,c3,c4,c5,k,l,m,n⟩:=jbg B;obtain⟨o,p,q,r,u,v,z,d7,d8,d9⟩:=jbg C;have h:=jqF x.hb y.hb x.hr y.hr;have n2:=jve;have M:=d.go A;have Q:=f.go A;clear d f;have T:=jim s.ea s.el s.ec x.e t.ea t.el t.ec y.e i M.e.1 Q.e.1 (Nat.le_trans M.e.2.1 M.e.2.2.1)
 cases a:(x.kind==y.kind) with
 | false =>
  have F:Hid (jbc x y=false):=by simp[Hid,jbc,a]
  clear T M Q;go_enter Tryz.func88,Tryz.ntmps88;go_wp2_with fail;go_ret;exact⟨by rw[F.out];rfl,A⟩
 | true =>
  cases b:(x.level==y.level) with
  | false =>
   have F:Hid (jbc x y=false):=by simp[Hid,jbc,b]
   clear T M Q;go_enter Tryz.func88,Tryz.ntmps88;go_wp2_with fail;go_ret;exact⟨by rw[F.out];rfl,A⟩
  | true =>
   cases R:(x.hb==y.hb&&x.hr.toList==y.hr.toList) with
   | false =>
    have F:Hid (jbc x y=false):=by simp only[Hid,jbc,R,Bool.and_false,Bool.false_and]
    rw[R] at h;clear T M Q R;go_enter Tryz.func88,Tryz.ntmps88;go_wp2_with fail;go_ret;exact⟨by rw[F.out];rfl,A⟩
   | true =>
    have F:Hid (jbc x y=(x.e==y.e&&(x.cr==y.cr&&x.cc==y.cc&&x.cl==y.cl)&&(x.gf==y.gf&&x.gl==y.gl))):=by simp only[Hid,jbc,a,b,R,Bool.true_and]
    rw[R] at h;have G:=Lib.hid (And.intro M Q);clear R M Q;go_enter Tryz.func88,Tryz.ntmps88;go_wp2_with fail;refine T.mono ?_;rintro e w1 ⟨rfl,D⟩;have I:=known D (Nat.le_refl _) B;have J:=known D (Nat.le_refl _) C;obtain⟨p0,p1,p2,p3,p4,p5,p6,p7,p8,p9⟩:=jbg I;obtain⟨q0,q1,q2,q3,q4,q5,q6,q7,q8,q9⟩:=jbg J;have H:=G.out.1.go D;have N:=G.out.2.go D;have V:=jk2 x.cr x.cc s.ca s.cl s.cc x.cl y.cr y.cc t.ca t.cl t.cc y.cl w1 H.c.1 N.c.1 (Nat.le_trans H.c.2.1 H.c.2.2.1);have U:=Lib.hid (And.intro H N);have O:=A.trans (D.mono A.size);clear Y T j c1 c2 c3 c4 c5 k l m n o p q r u v z d7 d8 d9 H N G B C D;generalize he:(x.e==y.e)=be at F;clear he
    cases be with
    | false =>
     clear V;go_wp2_with fail;go_ret;exact⟨by rw[F.out];rfl,O⟩
    | true =>
     go_wp2_with fail;refine V.mono ?_;rintro e w2 ⟨rfl,E⟩;have B:=known E (Nat.le_refl _) I;have C:=known E (Nat.le_refl _) J;obtain⟨r0,r1,r2,r3,r4,r5,r6,r7,r8,r9⟩:=jbg B;obtain⟨u0,u1,u2,u3,u4,u5,u6,u7,u8,u9⟩:=jbg C;have L:=U.out.1.go E;have S:=U.out.2.go E;have X:=jjH x.gf s.ga s.gl s.gc x.gl y.gf t.ga t.gl t.gc y.gl w2 L.g.1 S.g.1 (Nat.le_trans L.g.2.1 L.g.2.2.1);have P:=O.trans (E.mono O.size);clear V p0 p1 p2 p3 p4 p5 p6 p7 p8 p9 q0 q1 q2 q3 q4 q5 q6 q7 q8 q9 L S U B C I J E;generalize hc:(x.cr==y.cr&&x.cc==y.cc&&x.cl==y.cl)=bc at F;clear hc
     cases bc with
     | false =>
      clear X;go_wp2_with fail;go_ret;exact⟨by rw[F.out];rfl,P⟩
     | true =>
      go_wp2_with fail;refine X.mono ?_;rintro e w3 ⟨rfl,Z⟩;clear X;go_wp2_with fail;go_ret;exact⟨by rw[F.out];simp,P.trans (Z.mono P.size)⟩
structure HeldIn (x:Sk) (s:SS) (w W:World):Prop where
 box:W.heap[w.heap.size]? = some (.cells (skv x s) 181 (0,0))
 lists:s.At W.heap.size W x
 below:Bw w W
theorem HeldIn.go {x:Sk} {s:SS} {w W A:World} (h:HeldIn x s w W) (hb:Bw W A):HeldIn x s w A:=⟨known hb (Nat.le_refl _) h.box,h.lists.go hb,h.below.trans (hb.mono h.below.size)⟩
theorem jjG (x:Sk) (s:SS) (w:World) (B:s.At w.heap.size w x):HeldIn x s w (w.alloc (.cells (skv x s) 181)) :=
 have A:Bw w (w.alloc (.cells (skv x s) 181)):=(Below.refl _ w).alloc (Nat.le_refl _) _;⟨World.alloc_heap_new _ _,B.go A,A⟩
theorem jjx (x:Sk) (s:SS) (w:World) (I:s.At w.heap.size w x) (Q:(x.level==0)=true) :
  Calls Tryz.prog 125 #[.agg (skv x s)] w fun e w'=>e=.returned (.tuple #[.iface 240 (.agg #[.slice s.ea s.el s.ec]),.bool (jaJ x.e)])/\Bw w w':=by
 have D:=jjG x s w I;obtain⟨F,G⟩:∃ F,w.alloc (.cells (skv x s) 181)=F:=⟨_,rfl⟩;rw[G] at D;obtain⟨L,c1,c2,c3,c4,c5,M,N,O,P⟩:=jbg D.box;let Inv:World->Prop:=HeldIn x s w;have C:∀ W E,Inv W->Bw W E->Inv E:=fun W E h hb=>HeldIn.go h hb
 obtain⟨R,S,T,U,V,Z,a,b,c,d⟩:=jtN (fun X:WIn Inv=>X.ok.box);have H:Hid (∀ X:WIn Inv,Calls Tryz.prog 171 #[.agg #[.slice s.ea s.el s.ec]] X.world fun e w'=>e=.returned (.bool (jaJ x.e))/\∃ Y:WIn Inv,w'=Y.world):=fun X=>jah C (jbv x.e s.ea s.el s.ec X.world (HeldIn.lists X.ok).e.1)
 have B:Hid (∀ X:WIn Inv,Bw w X.world):=fun X=>HeldIn.below X.ok
 have A:Hid (Inv F.drew):=D.go (Below.refl _ _).drew;have J:Nonempty (WIn Inv):=⟨⟨_,A.out⟩⟩;clear I D C;clear_value Inv;go_enter Tryz.func125,Tryz.ntmps125;go_wp2_with fail;refine jao Inv (by kernel_rfl) (by kernel_rfl) A.out ?_
 repeat (first | go_big_quiet_step ((go_at_call 171;with_reducible exact H.out _)) | quiet_step ((go_at_call 171;with_reducible exact H.out _)))
 refine wpQuiet_nil ?_;rintro _ ⟨X,rfl⟩;go_wp2_with fail;go_ret2;exact⟨rfl,B.out X⟩
theorem jjy (x:Sk) (s:SS) (w:World) (J:s.At w.heap.size w x) (R:(x.level==0)=false) (S:0<=x.level) (T:x.level<=4) :
  CR 125 #[.agg (skv x s)] w (.tuple #[.iface 242 (.agg #[.int .i64 x.hb,.string x.hr]),.bool (jbw x.hb x.hr&&(x.hb==8-x.level))]):=by
 have F:=jjG x s w J;obtain⟨H,I⟩:∃ H,w.alloc (.cells (skv x s) 181)=H:=⟨_,rfl⟩;rw[I] at F;obtain⟨M,c1,c2,c3,c4,c5,N,O,P,Q⟩:=jbg F.box;let Inv:World->Prop:=HeldIn x s w;have E:∀ W G,Inv W->Bw W G->Inv G:=fun W G h hb=>HeldIn.go h hb
 obtain⟨V,Z,a,b,c,d,f,g,i,j⟩:=jtN (fun X:WIn Inv=>X.ok.box);have C:Hid (∀ X:WIn Inv,Calls Tryz.prog 172 #[.agg #[.int .i64 x.hb,.string x.hr]] X.world fun e w'=>e=.returned (.bool (jbw x.hb x.hr))/\∃ Y:WIn Inv,w'=Y.world):=fun X=>jah E (jb9 x.hb x.hr X.world)
 have A:Hid (∀ X:WIn Inv,Bw w X.world):=fun X=>HeldIn.below X.ok
 have B:Hid (Inv H.drew):=F.go (Below.refl _ _).drew;have L:Nonempty (WIn Inv):=⟨⟨_,B.out⟩⟩;have U:IntKind.i64.wrap (8-x.level)=8-x.level:=IntWalk.i64_in _ (by omega);clear J F E;clear_value Inv;generalize jbw x.hb x.hr=b1 at C ⊢
 cases b1
 ·have D:=Lib.hid C.out
  clear C;go_enter Tryz.func125,Tryz.ntmps125;go_wp2_with fail;refine jao Inv (by kernel_rfl) (by kernel_rfl) B.out ?_
  repeat (first | go_big_quiet_step ((go_at_call 172;with_reducible exact D.out _)) | quiet_step ((go_at_call 172;with_reducible exact D.out _)))
  refine wpQuiet_nil ?_;rintro _ ⟨X,rfl⟩;go_wp2_with fail;go_ret2;exact⟨rfl,A.out X⟩
 ·have D:=Lib.hid C.out
  clear C;go_enter Tryz.func125,Tryz.ntmps125;go_wp2_with fail;refine jao Inv (by kernel_rfl) (by kernel_rfl) B.out ?_
  repeat (first | go_big_quiet_step ((go_at_call 172;with_reducible exact D.out _)) | quiet_step ((go_at_call 172;with_reducible exact D.out _)))
  refine wpQuiet_nil ?_;rintro _ ⟨X,rfl⟩;go_wp2_with fail;go_ret2;exact⟨by simp,A.out X⟩
theorem jqz (x:Sk) (s:SS) (w:World) (M:s.At w.heap.size w x) (T:0<=x.level) (U:x.level<=3) :
  CR 126 #[.agg (skv x s)] w (.tuple #[.iface 243 (.agg #[.int .i64 x.cr,.int .i64 x.cc,.slice s.ca s.cl s.cc]),.bool (jbJ x.cr x.cc x.cl&&(x.cr==2)&&(x.cc==32 / 2^x.level.toNat))]):=by
 have E:=jjG x s w M;obtain⟨H,I⟩:∃ H,w.alloc (.cells (skv x s) 181)=H:=⟨_,rfl⟩;rw[I] at E;obtain⟨O,c1,c2,c3,c4,c5,P,Q,R,S⟩:=jbg E.box;let Inv:World->Prop:=HeldIn x s w;have D:∀ W G,Inv W->Bw W G->Inv G:=fun W G h hb=>HeldIn.go h hb
 obtain⟨V,Z,a,b,d,f,g,i,j,k⟩:=jtN (fun X:WIn Inv=>X.ok.box);have F:Hid (∀ X:WIn Inv,Calls Tryz.prog 173 #[.agg #[.int .i64 x.cr,.int .i64 x.cc,.slice s.ca s.cl s.cc]] X.world fun e w'=>e=.returned (.bool (jbJ x.cr x.cc x.cl))/\∃ Y:WIn Inv,w'=Y.world):=fun X=>jah D (jb7 x.cr x.cc x.cl s.ca s.cl s.cc X.world (HeldIn.lists X.ok).c.1.1)
 have A:Hid (∀ X:WIn Inv,Bw w X.world):=fun X=>HeldIn.below X.ok
 have B:Hid (Inv H.drew):=E.go (Below.refl _ _).drew;have N:Nonempty (WIn Inv):=⟨⟨_,B.out⟩⟩;clear M E D;clear_value Inv;generalize jbJ x.cr x.cc x.cl=b1 at F ⊢;have J:b1=false\/(b1=true/\(x.cr==2)=false)\/(b1=true/\(x.cr==2)=true):=by cases b1<;>cases h:(x.cr==2)<;>simp_all
 have C:=Lib.hid F.out;clear F;rcases J with rfl | ⟨rfl,L⟩ | ⟨rfl,L⟩
 ·go_enter Tryz.func126,Tryz.ntmps126
  go_wp2_with fail;refine jao Inv (by kernel_rfl) (by kernel_rfl) B.out ?_
  repeat (first | go_big_quiet_step ((go_at_call 173;with_reducible exact C.out _)) | quiet_step ((go_at_call 173;with_reducible exact C.out _)))
  refine wpQuiet_nil ?_;rintro _ ⟨X,rfl⟩;go_wp2_with fail;go_ret2;exact⟨rfl,A.out X⟩
 ·go_enter Tryz.func126,Tryz.ntmps126
  go_wp2_with fail;refine jao Inv (by kernel_rfl) (by kernel_rfl) B.out ?_
  repeat (first | go_big_quiet_step ((go_at_call 173;with_reducible exact C.out _)) | quiet_step ((go_at_call 173;with_reducible exact C.out _)))
  refine wpQuiet_nil ?_;rintro _ ⟨X,rfl⟩;go_wp2_with fail;go_ret2;exact⟨by simp[L],A.out X⟩
 ·go_enter Tryz.func126,Tryz.ntmps126
  go_wp2_with fail;refine jao Inv (by kernel_rfl) (by kernel_rfl) B.out ?_
  repeat (first | go_big_quiet_step ((go_at_call 173;with_reducible exact C.out _)) | quiet_step ((go_at_call 173;with_reducible exact C.out _)))
  refine wpQuiet_nil ?_;rintro _ ⟨X,rfl⟩;go_wp2_with fail;go_ret2;exact⟨by simp[L],A.out X⟩
theorem jws (x:Sk) (s:SS) (w:World) (J:s.At w.heap.size w x) (R:0<=x.level) (S:x.level<=3) (hb:∀ b∈x.gl,b.1<=9223372036854775807) :
  CR 127 #[.agg (skv x s)] w (.tuple #[.iface 245 (.agg #[.int .i64 x.gf,.slice s.ga s.gl s.gc]),.bool (jaR x.gf x.gl&&(x.gf==3-x.level))]):=by
 have E:=jjG x s w J;obtain⟨H,I⟩:∃ H,w.alloc (.cells (skv x s) 181)=H:=⟨_,rfl⟩;rw[I] at E;obtain⟨M,c1,c2,c3,c4,c5,N,O,P,Q⟩:=jbg E.box;let Inv:World->Prop:=HeldIn x s w;have C:∀ W G,Inv W->Bw W G->Inv G:=fun W G h hb=>HeldIn.go h hb
 obtain⟨U,V,Z,a,c,d,f,i,j,k⟩:=jtN (fun X:WIn Inv=>X.ok.box);have F:Hid (∀ X:WIn Inv,Calls Tryz.prog 174 #[.agg #[.int .i64 x.gf,.slice s.ga s.gl s.gc]] X.world fun e w'=>e=.returned (.bool (jaR x.gf x.gl))/\∃ Y:WIn Inv,w'=Y.world):=fun X=>jah C (jbN x.gf x.gl s.ga s.gl s.gc X.world (HeldIn.lists X.ok).g.1 (Nat.le_trans (HeldIn.lists X.ok).g.2.1 (HeldIn.lists X.ok).g.2.2.1) hb)
 have A:Hid (∀ X:WIn Inv,Bw w X.world):=fun X=>HeldIn.below X.ok
 have B:Hid (Inv H.drew):=E.go (Below.refl _ _).drew;have L:Nonempty (WIn Inv):=⟨⟨_,B.out⟩⟩;have T:IntKind.i64.wrap (3-x.level)=3-x.level:=IntWalk.i64_in _ (by omega);clear J E C hb;clear_value Inv;generalize jaR x.gf x.gl=b1 at F ⊢;have D:=Lib.hid F.out;clear F
 cases b1
 ·go_enter Tryz.func127,Tryz.ntmps127
  go_wp2_with fail;refine jao Inv (by kernel_rfl) (by kernel_rfl) B.out ?_
  repeat (first | go_big_quiet_step ((go_at_call 174;with_reducible exact D.out _)) | quiet_step ((go_at_call 174;with_reducible exact D.out _)))
  refine wpQuiet_nil ?_;rintro _ ⟨X,rfl⟩;go_wp2_with fail;go_ret2;exact⟨rfl,A.out X⟩
 ·go_enter Tryz.func127,Tryz.ntmps127
  go_wp2_with fail;refine jao Inv (by kernel_rfl) (by kernel_rfl) B.out ?_
  repeat (first | go_big_quiet_step ((go_at_call 174;with_reducible exact D.out _)) | quiet_step ((go_at_call 174;with_reducible exact D.out _)))
  refine wpQuiet_nil ?_;rintro _ ⟨X,rfl⟩;go_wp2_with fail;go_ret2;exact⟨by simp,A.out X⟩
def jcR:Array MapEntry:=#[{ key:=.int .i64 1,val:=.func (.func 125) #[] #[],born:=0 },{ key:=.int .i64 2,val:=.func (.func 126) #[] #[],born:=1 },{ key:=.int .i64 3,val:=.func (.func 127) #[] #[],born:=2 }]
theorem jdf:Tryz.prog.underlying 176=some (.map 3 174):=by kernel_rfl
theorem jq5 (w:World):Calls Tryz.prog 86 #[] w fun e w'=>e=.returned (.map (some w.heap.size))/\w'=w.alloc (.map jcR 3):=by
 have A:=@run_makeMap Tryz.prog;have B:=jb0 (P:=Tryz.prog) w (clock:=0) (es:=#[]) (n:=1) (.func (.func 125) #[] #[]) jdf Tryz.underlying3 rfl;have C:=jb0 (P:=Tryz.prog) w (clock:=1) (es:=#[{ key:=.int .i64 1,val:=.func (.func 125) #[] #[],born:=0 }]) (n:=2) (.func (.func 126) #[] #[]) jdf Tryz.underlying3 rfl;have D:=jb0 (P:=Tryz.prog) w (clock:=2) (es:=#[{ key:=.int .i64 1,val:=.func (.func 125) #[] #[],born:=0 },{ key:=.int .i64 2,val:=.func (.func 126) #[] #[],born:=1 }]) (n:=3) (.func (.func 127) #[] #[]) jdf Tryz.underlying3 rfl;simp only[List.push_toArray,List.nil_append,List.cons_append,Nat.zero_add,Nat.reduceAdd] at B C D;go_enter Tryz.func86,Tryz.ntmps86;go_wp2_with fail;go_ret;exact⟨rfl,rfl⟩
section
open Go.Shelf
attribute [local go_sem] Oper.semAt_some
def jpO (P:Program) (gf:Nat) (lb:Array Value) (enc:Nat->Value) (L:List Nat) (M:Nat) (w:World):Prop :=
 ∀ (l:Nat) (J:Nat->World->Prop) (Jx:World->Prop) (W:World),Bw w W->(∀ k W1,J k W1->k<M) ->
  (∀ k W1,J k W1->YieldAt Fence.wide 7 P l #[enc k] W1 fun e W'=>(e=.returned (.bool true)/\J (k+1) W'/\KL L W1 W')\/(e=.returned (.bool false)/\Jx W')) ->
  J 0 W->CallsIn Fence.wide 8 P gf (#[.func (.yield l) #[] #[]]++lb) W fun e W'=>(∃ v,e=.returned v)/\Jx W'
theorem jiB {P:Program} {g:Operand} {ps:Array Tmp} {assign body:Code} {Q:Exit->Act->World->Prop} {a:Act} {w:World} {S:Nat} (L:List Nat) (T:Nat->Array Value)
  {gf:Nat} {lb:Array Value} (hg:a.eval g=.func (.func gf) #[] lb) (eg:∀ args w,(callFunc gf args).run P w=.ok (.enter gf args) w)
  {enc:Nat->Value} {M:Nat} (y:jpO P gf lb enc L M w) (hL:∀ b∈L,b<w.heap.size) (an:ps.size=1)
  (I:Nat->World->Prop) (Ib:World->Prop) (hI:OwnFrom w.heap.size I) (m:OwnFrom w.heap.size (fun (_:Unit) W=>Ib W)) (hM:∀ k W,I k W->k<M) (h0:I 0 w)
  (G:∀ (l k:Nat) (W:World) (K:Act->World->Prop),I k W->K { tmps:=T k,defers:=[] } W ->
   assign.wpIn (Fence.wide.inRound l) 7 P (Exit.then K (fun _ _ _=>False)) { tmps:=(ps.zip #[enc k]).foldl (fun t (p,v)=>t.setIfInBounds p v) a.tmps,defers:=[] } W)
  (U:∀ (l k:Nat) (W:World),I k W->body.wpIn (Fence.wide.inRound l) 7 P (ownPostG w.heap.size (KL L) (fun (_:List Unit)=>I (k+1)) (fun c (_:List Unit) W=>c=.exit S/\Ib W) [] W) { tmps:=T k,defers:=[] } W)
  (x:∀ (D:Nat) (W:World),w.heap.size<=D->Ib W->W.heap[D]? = some (.deferred (some []))->Q .normal { a with defers:={ target:=.collected D,args:=#[] }::a.defers } W) :
  (Code.rangeFunc g ps assign body).wp P (Exit.inBlock S Q) a w:=by
 refine (wpIn_wide (n:=9)).1 (wpIn_rangeFunc fun fn ae=>?_);obtain⟨J,C⟩:∃ J:LoopState->Option Code->Loop,J=fun st pe => { state:=st,pending:=pe,fn,tmps:=a.tmps,params:=ps,assign,body,defers:=w.heap.size }:=⟨_,rfl⟩
 obtain⟨O,q,ac,aa,z⟩:∃ O,w.alloc (.deferred (some []))=O/\O.heap[w.heap.size]? = some (.deferred (some []))/\Bw w O/\O.heap.size=w.heap.size+1:=⟨_,rfl,World.alloc_heap_new _ _,(Below.refl _ w).alloc (Nat.le_refl _) _,by simp⟩;obtain⟨E,r,ai,j,ap⟩:∃ E,O.alloc (.loop (J .ready none))=E/\E.heap[w.heap.size+1]? = some (.loop (J .ready none))/\Bw O E/\E.heap.size=w.heap.size+2:=⟨_,rfl,by rw[<- z];exact World.alloc_heap_new _ _,(Below.refl _ O).alloc (Nat.le_refl _) _,by simp[z]⟩;have ad:E.heap[w.heap.size]? = some (.deferred (some [])):=(j.block _ (by omega)).trans ac;have af:I 0 E:=by rw[<- r,<- q];exact hI.alloc _ (hI.alloc _ h0)
 have ab:Bw w E:=aa.trans (j.mono (by omega));refine⟨w.heap.size+1,[{ target:=.collected w.heap.size,args:=#[] }],E,{ target:=.fn (.func gf) lb,args:=#[.func (.yield (w.heap.size+1)) #[] #[]] },E,gf,#[.func (.yield (w.heap.size+1)) #[] #[]]++lb,E,?_,?_,fun f' ao=>trivial,?_,(fun _=>by decide),?_⟩
 ·rw[<- r,<- q,C];exact run_enterLoop_outer _ _ _ _ _
 ·simp only[resolve,hg]
  simp[go_sem]
 ·simp[invoke,go_sem,eg]
 refine (y (w.heap.size+1) (fun k W=>I k W/\W.heap[w.heap.size+1]? = some (.loop (J .ready none))/\W.heap[w.heap.size]? = some (.deferred (some [])))
  (fun W=>Ib W/\W.heap[w.heap.size+1]? = some (.loop (J .done (some (.exit S))))/\W.heap[w.heap.size]? = some (.deferred (some []))) E ab (fun k W1 h=>hM k W1 h.1) ?_ ⟨af,ai,ad⟩).mono ?_
 ·rintro k W ⟨hi,Y,hk⟩
  have ak:=(Array.getElem?_eq_some_iff.1 Y).1;have hy:=run_yield (P:=P) (args:=#[enc k]) Y (by rw[C];exact an.symm);rw[C] at hy;refine⟨fn,_,assign,body,hy,roundIn_of_wpIn ae (G _ k W _ hi ?_)⟩;obtain⟨H,F⟩:∃ H,W.putObj (w.heap.size+1) (.loop { J .ready none with state:=.busy })=H:=⟨_,rfl⟩;have aj:H.heap[w.heap.size+1]? = some (.loop { J .ready none with state:=.busy }):=by rw[<- F];exact World.putObj_heap_same ak
  have ah:H.heap[w.heap.size]? = some (.deferred (some [])):=by rw[<- F];exact (World.putObj_heap_other (by omega)).trans hk
  have ag:I k H:=by rw[<- F];exact hI.putObj _ hi (by omega) Y rfl
  have al:KL L W H:=by rw[<- F];exact fun b hb o ho=>(World.putObj_heap_other (by have:=hL b hb;omega)).trans ho
  refine⟨H,by rw[<- F];exact run_beginRound Y (by rw[C]),wpIn_mono (U _ k H ag) ?_⟩
  have R:∀ (A:Option Code) (N:World),KeepsFrom w.heap.size H N->(Instr.endRound (w.heap.size+1) A).run P N=.ok (.bool A.isNone) (N.putObj (w.heap.size+1) (.loop (J (if A.isNone then .ready else .done) A))) /\
    N.heap[w.heap.size+1]? = some (.loop { J .ready none with state:=.busy })/\N.heap[w.heap.size]? = some (.deferred (some [])):=fun A N d=>by
   have B:=d.same _ _ (by omega) aj rfl;have h:=run_endRound (P:=P) A B;rw[C] at h B ⊢;exact⟨h,B,d.same _ _ (Nat.le_refl _) ah rfl⟩
  rintro e a3 N f
  cases e with
  | normal =>
   obtain⟨d,am,V⟩:=f;obtain⟨hr,B,X⟩:=R none N d;have Z:=(Array.getElem?_eq_some_iff.1 B).1;exact⟨_,_,hr,.inl ⟨rfl,⟨hI.putObj _ V (by omega) B rfl,World.putObj_heap_same Z,(World.putObj_heap_other (by omega)).trans X⟩,(al.trans am).trans fun b hb o ho=>(World.putObj_heap_other (by have:=hL b hb;omega)).trans ho⟩⟩
  | exit i =>
   obtain⟨d,u,V⟩:=f;obtain rfl:i=S:=by simpa using u
   obtain⟨hr,B,X⟩:=R (some (.exit i)) N d;have Z:=(Array.getElem?_eq_some_iff.1 B).1;exact⟨_,_,hr,.inr ⟨rfl,m.putObj (s:=()) _ V (by omega) B rfl,World.putObj_heap_same Z,(World.putObj_heap_other (by omega)).trans X⟩⟩
  | ret=>obtain⟨_,u,_⟩:=f;cases u
  | goto t=>obtain⟨_,u,_⟩:=f;cases u
  | panic ch=>exact f.elim
  | outgrown=>exact f.elim
 ·rintro e H ⟨⟨v,rfl⟩,hi,Y,hk⟩
  refine⟨some (.exit S),_,by have h:=run_endLoop (P:=P) Y (by rw[C];simp);rw[C] at h;exact h,?_⟩;refine wpIn_wide.2 (wp_exit ?_);show (if S=S then Q .normal _ _ else Q (.exit S) _ _);rw[if_pos rfl];exact x _ _ (Nat.le_refl _) (m.putObj (s:=()) _ hi (by omega) Y rfl) ((World.putObj_heap_other (by omega)).trans hk)
theorem jo9 (n:Int) (w:World) :
  Calls Tryz.prog 207 #[.int .i64 n] w fun e w'=>e=.returned (.func (.func 222) #[] #[.pointer (some ⟨w.heap.size,0,none⟩)])/\w'=w.alloc (.cells #[.int .i64 n] 3):=by
 go_enter Tryz.func207,Tryz.ntmps207;go_wp2;go_ret;exact⟨rfl,rfl⟩
theorem jjV (A n M:Nat) (w:World) (F:w.heap[A]? = some (.cells #[.int .i64 n] 3 (0,0))) (U:n+M<=1000) :
  jpO Tryz.prog 222 #[.pointer (some ⟨A,0,none⟩)] (fun k=>.int .i64 ((n:Int)+(k:Int))) [] M w:=by
 intro l J P W I G L E;refine callsIn_of_wp Tryz.func222 rfl trivial ?_ rfl;simp only[Tryz.ntmps222,List.size_toArray,List.length_cons,List.length_nil,Nat.reduceAdd,Nat.reduceSub,Array.replicate_succ,Array.replicate_zero,List.push_toArray,List.append_toArray,List.nil_append,List.cons_append];have R:W.cell? ⟨A,0,none⟩=some (.int .i64 n):=cCc (known I (Nat.le_refl _) F) 0;gi_wp2;gi_loopw [3] (fun i wr=>∃ k:Nat,i=.int .i64 ((n:Int)+(k:Int))/\J k wr) (fun i _=>M+n-(intOf i).toNat)
 case atStart=>exact⟨0,rfl,E⟩
 case round =>
  obtain⟨k,rfl,D⟩:=hrel;have T:=G k _ D;have N:(n:Int)+(k:Int)+1<=1000:=by omega
  obtain⟨S,tmps,assign,body,X,H⟩:=L k _ D;gi_wp2;refine H.mono ?_;rintro e Q (⟨rfl,B,-⟩ | ⟨rfl,C⟩)
  ·have V:IntKind.i64.wrap ((n:Int)+(k:Int)+1)=(n:Int)+((k:Int)+1):=by rw[IntWalk.i64_in _ (by omega)];omega
   have O:wrap64 ((n:Int)+(k:Int)+1)=(n:Int)+((k:Int)+1):=by unfold wrap64;omega
   gi_wp2
   go_roundw
   case rel=>exact⟨k+1,by simp,B⟩
   case measure=>simp[intOf];omega
  ·gi_wp2
   go_end0;exact⟨⟨_,rfl⟩,C⟩
end
end Go.Proofs.YtnegciklhanmbaaGreatDoor
