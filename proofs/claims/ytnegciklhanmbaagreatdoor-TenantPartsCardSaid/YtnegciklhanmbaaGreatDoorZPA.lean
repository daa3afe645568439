/- Package label: values, sets of labels (ranges over slices.Values). strings.Builder: WriteByte, WriteRune. Package label: quoted. Package label: Less; slices of labels: Equal, Clone. slices.Clone and slices.Equal at []api.Label: printed by wip/tools/gen_l5.py. Labels read from a text, as plain data: the reader rune by rune, the list in order. No program in sight. -/
import Derived.Test.YtnegciklhanmbaaGreatDoorZLB
set_option maxHeartbeats 2000000
set_option maxRecDepth 100000
namespace Go.Proofs.YtnegciklhanmbaaGreatDoor
open Go Go.RowKit
section
open Go.Shelf
attribute [local go_sem] Oper.semAt_some
def jcb (s:ByteArray):Bool:=jcg s&&decide (jfX s<=24)&&(rl s 0).all fun p=>jbj p.2
theorem jmG (s:ByteArray) (w:World) (R:s.size<=maxLen) (U:GW w):CR 117 #[.string s] w (.bool (jcb s)):=by
 have N:=jfx s w R U;unfold maxLen at R;by_cases L:jcg s=true
 ·by_cases S:jfX s<=24
  ·have T:decide ((24:Int)<jfX s)=false:=by simp;omega
   go_enter Tryz.func117,Tryz.ntmps117;go_wp2_with (go_at_call 109;refine N.mono ?_;rintro e w' ⟨rfl,A⟩);go_loopw [] (fun wr=>∃ pos,wr.heap[w'.heap.size]? = some (.stringIter s pos)/\Bw w' wr/\Hid (((rl s 0).all fun p=>jbj p.2)=(rl s pos).all fun p=>jbj p.2)) (fun wr=>s.size-wr.iterPos w'.heap.size)
   case atStart=>exact⟨0,World.iter_heap w' s 0,(Below.refl _ _).alloc (Nat.le_refl _) _,rfl⟩
   case round =>
    obtain⟨pos,E,G,J⟩:=hrel;have F:=jaw E;have I:=A.size;by_cases H:pos<s.size
    ·obtain⟨V,O,D,C,-,-⟩:=jd0 (P:=Tryz.prog) E G (Nat.le_refl _) H
     have B:=Lib.hid (jgm s pos H);have X:=jdU s pos H;go_wp2_with (go_at_call 168;refine (jca _ _).mono ?_;rintro e w' ⟨rfl,rfl⟩)
     ·go_ret
      exact⟨by have:=J.out;simp_all [jcb,B.out],A.trans (C.mono I)⟩
     ·go_roundw
      case rel=>exact⟨_,D,C,by have:=J.out;rw[B.out] at this;simp_all [Hid]⟩
      case measure=>rw[jaw D,F];omega
    ·have O:∀ Q,(Instr.next (.pointer (some ⟨w'.heap.size,0,none⟩)) true Q).run Tryz.prog wr=_:=fun Q=>Lib.run_next_end_at wr w'.heap.size s pos Q E H
     go_wp2_with fail;go_ret;exact⟨by have:=J.out;rw[ji7 s pos H] at this;simp[jcb,L,S,this],A.trans (G.mono I)⟩
  ·have T:decide ((24:Int)<jfX s)=true:=by simp;omega
   go_enter Tryz.func117,Tryz.ntmps117;go_wp2_with (go_at_call 109;refine N.mono ?_;rintro e w' ⟨rfl,A⟩);go_ret;exact⟨by simp[jcb];intro _ h;omega,A⟩
 ·have M:jcg s=false:=by simpa using L
  clear L;go_enter Tryz.func117,Tryz.ntmps117;go_wp2_with (go_at_call 109;refine N.mono ?_;rintro e w' ⟨rfl,A⟩);go_ret;exact⟨by simp[jcb,M],A⟩
structure Lab where
 name:ByteArray
 value:ByteArray
def Lab.ok (l:Lab):Prop:=l.name.size<4294967281/\l.value.size<4294967281
abbrev jif:={ l:Lab // l.ok }
def Lab.enc (l:Lab):List Value:=[.string l.name,.string l.value]
def Labs (n₀:Nat) (w:World) (sv:Value) (ls:List Lab):Prop:=SlAt n₀ w sv ls.length (ls.flatMap Lab.enc)
theorem jjB (a:Option Addr) (len cap:Nat) (w:World) :
  Calls Tryz.prog 94 #[.slice a len cap] w fun e w'=>e=.returned (.func (.func 182) #[] #[.pointer (some ⟨w.heap.size,0,none⟩)])/\w'=w.alloc (.cells #[.slice a len cap] 88):=by
 go_enter Tryz.func94,Tryz.ntmps94;go_wp2;go_ret;exact⟨rfl,rfl⟩
theorem jls (A:List Lab) (j:Nat) (x:Lab) (h:A[j]? = some x):(A.flatMap Lab.enc)[j*2]? = some (.string x.name)/\(A.flatMap Lab.enc)[j*2+1]? = some (.string x.value):=by
 induction A generalizing j with
 | nil=>simp at h
 | cons y ys ih =>
  cases j with
  | zero=>simp at h;subst h;simp[Lab.enc]
  | succ j =>
   have:=ih j (by simpa using h);rw[show (j+1)*2=j*2+2 by omega];simp only[List.flatMap_cons,Lab.enc,List.cons_append,List.nil_append,List.getElem?_cons_succ];exact this
theorem jnL (A:List Lab):(A.flatMap Lab.enc).length=A.length*2:=by
 induction A with
 | nil=>rfl
 | cons y ys ih=>simp[List.flatMap_cons,Lab.enc,ih];omega
theorem Labs.cells {E:Nat} {w:World} {b off cap:Nat} {A:List Lab} (h:Labs E w (.slice (some ⟨b,off,none⟩) A.length cap) A) (j:Nat) (x:Lab) (D:A[j]? = some x) :
  b<E/\w.cell? ⟨b,off+j*2,none⟩=some (.string x.name)/\w.cell? ⟨b,off+j*2+1,none⟩=some (.string x.value):=by
 rcases h with⟨h,_⟩ | ⟨G,F,C,e,hb,B⟩
 ·simp at h
 ·simp only[Value.slice.injEq,Option.some.injEq,Addr.mk.injEq] at e
  obtain⟨⟨rfl,rfl,_⟩,_,rfl⟩:=e;have H:j<A.length:=(List.getElem?_eq_some_iff.1 D).1;have:=jls A j x D;rw[jnL] at B;exact⟨hb,(B (j*2) (by omega)).trans this.1,(B (j*2+1) (by omega)).trans this.2⟩
theorem jnl (l P G b off cap:Nat) (B:List jif) (H:B.length<4294967281) (J R:List jif->World->Prop)
  (Y:∀ A x W,J A W->A.length<B.length->YieldAt Fence.wide 7 Tryz.prog l #[.agg #[.string x.1.name,.string x.1.value]] W fun e D =>
   (e=.returned (.bool true)/\J (A++[x]) D/\Below G W D)\/(e=.returned (.bool false)/\R (A++[x]) D))
  (W:World) (V:AbidesFrom W.heap.size J) (d:G<=W.heap.size) (U:W.cell? ⟨P,0,none⟩=some (.slice (some ⟨b,off,none⟩) B.length cap)) (Z:Labs G W (.slice (some ⟨b,off,none⟩) (B.map (·.1)).length cap) (B.map (·.1))) (T:J [] W) :
  CallsIn Fence.wide 8 Tryz.prog 182 #[.func (.yield l) #[] #[],.pointer (some ⟨P,0,none⟩)] W fun e D=>(∃ v,e=.returned v) /\
   ((∃ S,S=B/\J S D)\/(∃ A,A <+: B/\R A D)):=by
 refine callsIn_of_wp Tryz.func182 rfl trivial ?_ rfl;simp only[Tryz.ntmps182,List.size_toArray,List.length_cons,List.length_nil,Nat.reduceAdd,Nat.reduceSub,Array.replicate_succ,Array.replicate_zero,List.push_toArray,List.append_toArray,List.nil_append,List.cons_append];gi_wp2;gi_loopw [7] (fun i wr=>∃ k:Nat,k<=B.length/\i=.int .i64 k/\J (B.take k) wr/\Below G W wr) (fun i _=>B.length-(intOf i).toNat)
 case atStart=>exact⟨0,Nat.zero_le _,rfl,T,Below.refl _ _⟩
 case round =>
  obtain⟨k,j,rfl,E,C⟩:=hrel;by_cases N:k<B.length
  ·obtain⟨x,O⟩:∃ x,B[k]? = some x:=⟨_,List.getElem?_eq_getElem N⟩
   obtain⟨hb,a,c⟩:=Labs.cells (SlAt.below C Z) k x.1 (by simp[O]);have L:=V _ _ (wr.alloc (.cells #[.string x.1.name,.string x.1.value] 93)) none E (World.grownBy_alloc _ _ none) (fun r e=>by cases e);obtain⟨g,tmps,assign,body,m,X⟩:=Y _ x _ L (by simp;omega);have Q:=Lib.hid O;clear O;gi_wp2;refine X.mono ?_;rintro e f (⟨rfl,I,M⟩ | ⟨rfl,F⟩)
   ·gi_wp2
    go_roundw
    case rel=>exact⟨k+1,by omega,by simp,by rw[List.take_add_one,Q.out];exact I,C.trans (((Below.refl G wr).alloc (by have:=C.size;omega) _).trans M)⟩
    case measure=>simp[intOf];omega
   ·gi_wp2
    refine bodyPost_ret (results_none rfl _ _ _) rfl ?_;exact⟨⟨_,rfl⟩,.inr ⟨_,by have h:=List.take_prefix (k+1) B;rwa [List.take_add_one,Q.out] at h,F⟩⟩
  ·obtain rfl:k=B.length:=by omega
   gi_wp2
   go_end0;exact⟨⟨_,rfl⟩,.inl ⟨_,List.take_length,E⟩⟩
theorem jic (l B:Nat) (J:List jif->World->Prop) (W:World) (E:W.cell? ⟨B,0,none⟩=some (.slice none 0 0)) (D:J [] W) :
  CallsIn Fence.wide 8 Tryz.prog 182 #[.func (.yield l) #[] #[],.pointer (some ⟨B,0,none⟩)] W fun e C=>(∃ v,e=.returned v)/\J [] C:=by
 refine callsIn_of_wp Tryz.func182 rfl trivial ?_ rfl;simp only[Tryz.ntmps182,List.size_toArray,List.length_cons,List.length_nil,Nat.reduceAdd,Nat.reduceSub,Array.replicate_succ,Array.replicate_zero,List.push_toArray,List.append_toArray,List.nil_append,List.cons_append];gi_wp2;gi_loopw [7] (fun i wr=>i=.int .i64 0/\J [] wr) (fun _ _=>0)
 case atStart=>exact⟨rfl,D⟩
 case round =>
  obtain⟨rfl,A⟩:=hrel;gi_wp2;go_end0;exact⟨⟨_,rfl⟩,A⟩
theorem jgu (D G:Nat) (M:Value) (B:List jif) (A:B.length<4294967281) (w:World) (H:D<w.heap.size) (F:G<=w.heap.size)
  (S:w.cell? ⟨D,0,none⟩=some M) (P:Labs G w M (B.map (·.1))) :
  SeqStopsK Fence.wide 8 Tryz.prog 182 #[.pointer (some ⟨D,0,none⟩)] (fun x:jif=>#[.agg #[.string x.1.name,.string x.1.value]]) (Below G) (fun Y=>Y=B) (fun L=>L <+: B) B.length w:=fun l J O W I Q _ R N=>by
 have C:=(I.cell (p:=⟨D,0,none⟩) H).trans S;have E:Labs G W M (B.map (·.1)):=SlAt.below (I.mono F) P;rcases id E with⟨rfl,X,_⟩ | ⟨b,off,cap,rfl,hb,T⟩
 ·obtain rfl:B=[]:=by simpa using X
  exact (jic l D J W C N).mono fun e Z ⟨U,V⟩=>⟨U,.inl ⟨_,rfl,V⟩⟩
 ·rw[List.length_map] at C
  exact jnl l D G b off cap B A J O R W Q (Nat.le_trans F I.size) C E N
def jkk (a b:ByteArray):Bool:=Op.bytesLess a.toList b.toList||a.toList==b.toList
def je9:ByteArray->List Lab->Bool
 | _,[]=>true
 | before,x::xs=>(jdu x.name && !jkk x.name before&&jcb x.value)&&je9 x.name xs
def jew:ByteArray->List Lab->ByteArray
 | before,[]=>before
 | _,x::xs=>jew x.name xs
theorem jo6 (b:ByteArray) (A:List Lab) (x:Lab):je9 b (A++[x])=(je9 b A&&(jdu x.name && !jkk x.name (jew b A)&&jcb x.value)):=by
 induction A generalizing b with
 | nil=>simp[je9,jew]
 | cons y ys ih=>simp[je9,jew,ih,Bool.and_assoc]
theorem jlo (b:ByteArray) (A:List Lab) (x:Lab):jew b (A++[x])=x.name:=by
 induction A generalizing b with
 | nil=>rfl
 | cons y ys ih=>simp[jew,ih]
theorem jln (b:ByteArray) (B C:List Lab) (h:B <+: C) (A:je9 b B=false):je9 b C=false:=by
 obtain⟨t,rfl⟩:=h
 induction B generalizing b with
 | nil=>simp[je9] at A
 | cons y ys ih =>
  simp only[je9,List.cons_append] at A ⊢;rcases Bool.and_eq_false_iff.1 A with h | h
  ·simp[h]
  ·simp[ih _ h]
def jai (ls:List Lab):Bool:=ls.length != 0&&decide (ls.length<=6)&&je9 (⟨#[]⟩:ByteArray) ls
theorem jhL (L:Option Addr) (cap:Nat) (G:List jif) (w:World) (hL:Labs w.heap.size w (.slice L G.length cap) (G.map (·.1))) (hG:GW w) (h1:decide ((6:Int)<G.length)=false) (h2:((G.length:Int)==0)=false) (h3:G.length<4294967281) :
  CR 73 #[.slice L G.length cap] w (.bool (je9 (⟨#[]⟩:ByteArray) (G.map (·.1)))):=by
 refine jaq Tryz.func73 rfl ?_;simp only[Tryz.ntmps73,List.size_toArray,List.length_cons,List.length_nil,Nat.reduceAdd,Nat.reduceSub,Array.replicate_succ,Array.replicate_zero,List.push_toArray,List.append_toArray,List.nil_append,List.cons_append];go_wp2_with fail;go_step3;go_wp2_with fail;go_step3;go_wp2_with (go_at_call 94;refine (jjB _ _ _ _).mono ?_;rintro e w' ⟨rfl,rfl⟩);have z:=Boxed.new w 4 (.bool true);have j:=Boxed.new (w.alloc (.cells #[.bool true] 4)) 9 (.string (⟨#[]⟩:ByteArray));have k:=Boxed.new ((w.alloc (.cells #[.bool true] 4)).alloc (.cells #[.string (⟨#[]⟩:ByteArray)] 9)) 88 (.slice L G.length cap);have N:Bw w (((w.alloc (.cells #[.bool true] 4)).alloc (.cells #[.string (⟨#[]⟩:ByteArray)] 9)).alloc (.cells #[.slice L G.length cap] 88)):=(((Below.refl _ w).alloc (Nat.le_refl _) _).alloc (by simp) _).alloc (by simp;omega) _;simp only[World.size_alloc] at j k;have V:=(z.alloc (.cells #[.string (⟨#[]⟩:ByteArray)] 9)).alloc (.cells #[.slice L G.length cap] 88);have U:=j.alloc (.cells #[.slice L G.length cap] 88);have J:(((w.alloc (.cells #[.bool true] 4)).alloc (.cells #[.string (⟨#[]⟩:ByteArray)] 9)).alloc (.cells #[.slice L G.length cap] 88)).heap.size=w.heap.size+3:=by simp
 generalize (((w.alloc (.cells #[.bool true] 4)).alloc (.cells #[.string (⟨#[]⟩:ByteArray)] 9)).alloc (.cells #[.slice L G.length cap] 88))=W0 at V U k N J ⊢;clear z j
 refine jeI 93 (fun x:jif=>#[.string x.1.name,.string x.1.value]) 5 (gf:=182) (lb:=#[.pointer (some ⟨w.heap.size+2,0,none⟩)]) rfl (enters_of Tryz.func182 (by kernel_rfl) rfl)
  (jgu (w.heap.size+2) w.heap.size _ G h3 W0 (by omega) (by omega) k.cell (SlAt.below N hL)) (by omega) (Below.refl _ _) (fun _=>rfl)
  (fun C W=>Boxed W w.heap.size 4 (.bool true)/\Boxed W (w.heap.size+1) 9 (.string (jew ⟨#[]⟩ (C.map (·.1))))/\je9 ⟨#[]⟩ (C.map (·.1))=true/\Bw w W)
  (fun c C W=>Boxed W w.heap.size 4 (.bool false)/\(c=.exit 0/\je9 ⟨#[]⟩ (C.map (·.1))=false)/\Bw w W)
  ((jc9 _ _ _ _).and ((jc9 _ _ _ _).and ((ownFrom_pure _ _).and (ownFrom_below (Nat.le_refl _) (by omega)))))
  (fun c=>(jc9 _ _ _ _).and ((ownFrom_pure _ _).and (ownFrom_below (Nat.le_refl _) (by omega))))
  ⟨V,U,rfl,N⟩ ?assign ?body ?done ?stop
 case assign =>
  rintro l C x W K ⟨B,E,R,H⟩ hs hK;simp only[List.zip_toArray,List.zip_cons_cons,List.zip_nil_right,List.size_toArray,List.foldl_toArray',List.foldl_cons,List.foldl_nil,List.setIfInBounds_toArray,List.set_cons_succ,List.set_cons_zero] at hK ⊢;gi_wp2;exact⟨B.alloc _,E.alloc _,R,H.alloc H.size _⟩
 case body =>
  rintro l C x W g ⟨B,E,R,H⟩ aa Y v ab;have c0:=cCc v 0;have c1:=cCc v 1;have c2:=E.cell;have c3:=B.cell;have c4:=B.frozen;have c5:=E.frozen;have q:GW W:=hG.below H;have o:=H.size;simp at c0 c1;simp only[List.zip_toArray,List.zip_cons_cons,List.zip_nil_right,List.size_toArray,List.foldl_toArray',List.foldl_cons,List.foldl_nil,List.setIfInBounds_toArray,List.set_cons_succ,List.set_cons_zero];generalize hlast:jew ⟨#[]⟩ (C.map (·.1))=last at c2 E;have T:=jo6 ⟨#[]⟩ (C.map (·.1)) x.1;rw[R,hlast] at T;have d:=jlo ⟨#[]⟩ (C.map (·.1)) x.1;have h:=Lib.hid T;have HL:=Lib.hid d;have b:=jo4 x.1.name W (by have:=x.2.1;unfold maxLen;omega);clear T d hlast J v;have a:=B.lt;gi_wp2_with fail;refine⟨trivial,(CallsIn.inRound l (callsIn_wide.2 b)).mono ?_⟩;rintro e y ⟨rfl,A⟩;have d0:=(A.cell (p:=⟨g,0,none⟩) Y).trans c0;have d1:=(A.cell (p:=⟨g,1,none⟩) Y).trans c1;have X:=jcA A a B;have m:=jcA A E.lt E;have d2:=m.cell;have d3:=X.cell;have d4:=X.frozen;have d5:=m.frozen;have ac:=A.size;have O:Below w.heap.size W y:=A.mono o;have Q:KeepsFrom W0.heap.size W y:=jgw A (Nat.le_refl _);clear b;by_cases r:jdu x.1.name=true
  ·by_cases S:(Op.bytesLess x.1.name.toList last.toList||x.1.name.toList==last.toList)=true
   ·gi_wp2_with fail
    refine⟨trivial,?_⟩;gi_wp2_with fail;exact⟨Q.trans ((KeepsOthers.setCell _ _ _).from _),X.set _,⟨rfl,by rw[List.map_append,List.map_singleton,h.out,jkk,S];simp⟩,H.trans (O.setCell (p:=⟨w.heap.size,0,none⟩) (Nat.le_refl _) _)⟩
   ·have Z:(Op.bytesLess x.1.name.toList last.toList||x.1.name.toList==last.toList)=false:=by simpa using S
    clear S;have f:=jmG x.1.value y (by have:=x.2.2;unfold maxLen;omega) (q.below A);gi_wp2_with fail;refine⟨trivial,(CallsIn.inRound l (callsIn_wide.2 f)).mono ?_⟩;rintro e w2 ⟨rfl,F⟩;have f0:=(F.cell (p:=⟨g,0,none⟩) (by show g<_;omega)).trans d0;have i:=jcA F (by omega) X;have n:=jcA F (by have:=E.lt;omega) m;have k2:=n.cell;have k3:=i.cell;have k4:=i.frozen;have k5:=n.frozen;have I:Below w.heap.size W w2:=O.trans (F.mono (by omega));have M:KeepsFrom W0.heap.size W w2:=Q.trans (jgw F (Nat.le_refl _));clear f;by_cases t:jcb x.1.value=true
    ·gi_wp2_with fail
     refine⟨M.trans ((KeepsOthers.setCell _ _ _).from _),I.setCell (p:=⟨w.heap.size+1,0,none⟩) (Nat.le_succ _) _,i.other (by omega) _,?_,?_,H.trans (I.setCell (p:=⟨w.heap.size+1,0,none⟩) (Nat.le_succ _) _)⟩
     ·rw[List.map_append,List.map_singleton,HL.out];exact n.set _
     ·rw[List.map_append,List.map_singleton,h.out,jkk,Z,r,t];rfl
    ·have u:jcb x.1.value=false:=by simpa using t
     clear t;gi_wp2_with fail;exact⟨M.trans ((KeepsOthers.setCell _ _ _).from _),i.set _,⟨rfl,by rw[List.map_append,List.map_singleton,h.out,u];simp⟩,H.trans (I.setCell (p:=⟨w.heap.size,0,none⟩) (Nat.le_refl _) _)⟩
  ·have s:jdu x.1.name=false:=by simpa using r
   clear r;gi_wp2_with fail;refine⟨trivial,?_⟩;gi_wp2_with fail;exact⟨Q.trans ((KeepsOthers.setCell _ _ _).from _),X.set _,⟨rfl,by rw[List.map_append,List.map_singleton,h.out,s];simp⟩,H.trans (O.setCell (p:=⟨w.heap.size,0,none⟩) (Nat.le_refl _) _)⟩
 case done =>
  rintro D W hD ⟨B,E,R,H⟩ hK;have c3:=B.cell;have P:w.heap.size<=D:=by omega
  clear J;go_wp2_with fail;refine jau hK (results_tmp rfl _ _ _) ⟨by rw[R];rfl,jee H P hK⟩
 case stop =>
  rintro D c C W hD hp ⟨B,⟨rfl,R⟩,H⟩ hK;have c3:=B.cell;have P:w.heap.size<=D:=by omega
  clear J;go_wp2_with fail;refine jau hK (results_tmp rfl _ _ _) ⟨by rw[jln _ _ _ (hp.map _) R];rfl,jee H P hK⟩
theorem jbf (C:Option Addr) (cap:Nat) (A:List jif) (w:World) (L:Labs w.heap.size w (.slice C A.length cap) (A.map (·.1))) (J:GW w) (I:A.length<4294967281) :
  CR 73 #[.slice C A.length cap] w (.bool (jai (A.map (·.1)))):=by
 by_cases B:A.length=0
 ·have E:((A.length:Int)==0)=true:=by simp[B]
  have G:=Lib.hid B;clear B;refine jaq Tryz.func73 rfl ?_;simp only[Tryz.ntmps73,List.size_toArray,List.length_cons,List.length_nil,Nat.reduceAdd,Nat.reduceSub,Array.replicate_succ,Array.replicate_zero,List.push_toArray,List.append_toArray,List.nil_append,List.cons_append];go_wp2_with fail;go_step3;go_wp2_with fail;exact jb1 (results_tmp rfl _ _ _) rfl ⟨by simp[jai,G.out],Below.refl _ _⟩
 ·have E:((A.length:Int)==0)=false:=by rw[beq_eq_false_iff_ne];omega
  by_cases F:A.length<=6
  ·have D:decide ((6:Int)<A.length)=false:=by simp;omega
   refine (jhL C cap A w L J D E I).mono ?_;rintro e w' ⟨rfl,hb⟩;exact⟨by simp[jai,F,B],hb⟩
  ·have D:decide ((6:Int)<A.length)=true:=by simp;omega
   have H:=Lib.hid F;refine jaq Tryz.func73 rfl ?_;simp only[Tryz.ntmps73,List.size_toArray,List.length_cons,List.length_nil,Nat.reduceAdd,Nat.reduceSub,Array.replicate_succ,Array.replicate_zero,List.push_toArray,List.append_toArray,List.nil_append,List.cons_append];go_wp2_with fail;go_step3;go_wp2_with fail;exact jb1 (results_tmp rfl _ _ _) rfl ⟨by simp[jai,H.out],Below.refl _ _⟩
end
theorem jfz (B b:Nat) (H:List Value) (c:Int) (w:World) (h:Lib.IsBuilderF 206 5 B b H w) (U:H.length+1<=140737488355328) (Z:B<=w.heap.size) :
  Calls Tryz.prog 141 #[.pointer (some ⟨b,0,none⟩),.int .u8 c] w fun e w'=>e=.returned .nilIface/\(Lib.BuilderAtF 206 5 B b (.pointer (some ⟨b,0,none⟩)) (H++[.int .u8 c]) w'/\Below B w w'/\Lib.OthersKept 5 (some b) w w'):=by
 obtain⟨i0,a,P,Q,R⟩:=info_parts jaB;go_enter Tryz.func141,Tryz.ntmps141;go_wp2_with fail;refine (jdS B b H _ h).mono ?_;rintro e I ⟨rfl,Y,E,M⟩;obtain⟨S,v,G,C,O⟩:=Y;have i:I.cell? ⟨b,0,none⟩=some (.pointer (some ⟨b,0,none⟩)):=by rw[Lib.cell_of_heap G];rfl
 have c1:I.cell? ⟨b,1,none⟩=some v:=by rw[Lib.cell_of_heap G];rfl
 go_wp2_with (at_builtin;refine wpList_append_ownF _ rfl _ _ 204 rfl B 5 i0 (.int .u8 0) 1 1 jay a P Q R rfl (by decide) _ _ _ rfl (C.alloc _) ⟨I.heap.size,0,none⟩ 1 1 [.int .u8 c] rfl rfl ?c1 ?c2 ?c3 ?c4 ?c5 ?_)
 case c1 =>
  intro j u J
  match j,J with
  | 0,J=>simp at J;subst J;simp[Addr.add]
 case c2=>intro u V;simp at V;subst V;rfl
 case c3=>unfold maxLen;omega
 case c4=>omega
 case c5=>have:=E.size;simp;omega
 intro v' L D A _;have N:b<I.heap.size:=(Array.getElem?_eq_some_iff.1 G).1
 have F:L.heap[b]? = some (.cells #[.pointer (some ⟨b,0,none⟩),v] 206 (0,0)):=by
  rw[A.block b (by simp;omega) (fun e=>O e.symm),Lib.alloc_old I _ b N];exact G
 have l:L.cell? ⟨b,0,none⟩=some (.pointer (some ⟨b,0,none⟩)):=by rw[Lib.cell_of_heap F];rfl
 have m:L.cell? ⟨b,1,none⟩=some v:=by rw[Lib.cell_of_heap F];rfl
 have n:L.frozen? ⟨b,1,none⟩=false:=Lib.frozen_of_heap F 1
 obtain⟨g,cap,rfl⟩:∃ g cap,v'=.slice (some ⟨g,0,none⟩) (H.length+1) cap:=by
  rcases D.2 with⟨_,q⟩ | ⟨g,cap,X,o,f,_⟩
  ·omega
  ·exact⟨g,cap,f⟩
 go_wp2;go_ret;refine⟨rfl,?_,?_,((M.alloc _).grown A (Lib.ownsRowF_kind (C.alloc _))).setCell ⟨b,1,none⟩ rfl _⟩
 ·exact Lib.BuilderAtF.put (T:=206) (e:=5) S F (bs':=H++[.int .u8 c]) (by simpa using D) (by decide)
 ·exact ((E.alloc (by have:=E.size;omega) _).grown A (by have:=E.size;simp;omega) (fun k d=>(C.lt k d).1)).setCell (p:=⟨b,1,none⟩) S _
theorem jdO (B b:Nat) (E:List Value) (r:Int) (U : -2147483648<=r) (V:r<=2147483647) (w:World) (h:Lib.IsBuilderF 206 5 B b E w) (L:E.length+4<=140737488355328) (c:B<=w.heap.size) :
  Calls Tryz.prog 142 #[.pointer (some ⟨b,0,none⟩),.int .i32 r] w fun e w'=>(∃ v,e=.returned v)/\(Lib.BuilderAtF 206 5 B b (.pointer (some ⟨b,0,none⟩)) (E++Lib.runeCells r) w'/\Below B w w'/\Lib.OthersKept 5 (some b) w w'):=by
 have f:=Lib.runeCells_le r;go_enter Tryz.func142,Tryz.ntmps142;go_wp2_with fail;refine (jdS B b E _ h).mono ?_;rintro e N ⟨rfl,a,G,Q⟩;obtain⟨Y,v,I,D,S⟩:=a
 obtain⟨J,cap,rfl⟩:∃ J cap,v=.slice J E.length cap:=by
  rcases D.2 with⟨M,X⟩ | ⟨g,cap,P,Z,M,_⟩
  ·exact⟨none,0,by rw[M,X]⟩
  ·exact⟨_,_,M⟩
 have i:N.cell? ⟨b,0,none⟩=some (.pointer (some ⟨b,0,none⟩)):=by rw[Lib.cell_of_heap I];rfl
 have c1:N.cell? ⟨b,1,none⟩=some (.slice J E.length cap):=by rw[Lib.cell_of_heap I];rfl
 go_wp2_with fail;refine (Tryz.utf8_AppendRune_row B _ E.length E r U V _ D L (by have:=G.size;omega)).mono ?_;rintro e O ⟨v',rfl,F,o,A⟩;have R:b<N.heap.size:=(Array.getElem?_eq_some_iff.1 I).1
 have H:O.heap[b]? = some (.cells #[.pointer (some ⟨b,0,none⟩),.slice J E.length cap] 206 (0,0)):=by
  rw[A.block b (by simp;omega) (fun e=>S e.symm),Lib.alloc_old N _ b R];exact I
 have j:O.cell? ⟨b,0,none⟩=some (.pointer (some ⟨b,0,none⟩)):=by rw[Lib.cell_of_heap H];rfl
 have l:O.cell? ⟨b,1,none⟩=some (.slice J E.length cap):=by rw[Lib.cell_of_heap H];rfl
 have m:O.frozen? ⟨b,1,none⟩=false:=Lib.frozen_of_heap H 1
 obtain⟨g,C,rfl⟩:∃ g C,v'=.slice (some ⟨g,0,none⟩) (E.length+(Lib.runeCells r).length) C:=by
  rcases F.2 with⟨_,X⟩ | ⟨g,C,P,Z,M,_⟩
  ·omega
  ·exact⟨g,C,M⟩
 go_wp2;go_ret2;refine⟨⟨_,rfl⟩,?_,?_,((Q.alloc _).grown A (Lib.ownsRowF_kind (D.alloc _))).setCell ⟨b,1,none⟩ rfl _⟩
 ·exact Lib.BuilderAtF.put (T:=206) (e:=5) Y H (bs':=E++Lib.runeCells r) (by simpa using F) (by decide)
 ·exact ((G.alloc (by have:=G.size;omega) _).grown A (by have:=G.size;simp;omega) (fun k d=>(D.lt k d).1)).setCell (p:=⟨b,1,none⟩) Y _
section
open Go.Shelf
def ja2 (l:List (Nat × Int)):List UInt8:=l.flatMap fun p=>(if p.2==44||p.2==92 then [92] else [])++Lib.encodeRune p.2
theorem jgK (l:List (Nat × Int)) (p:Nat × Int):ja2 (l++[p])=ja2 l++((if p.2==44||p.2==92 then [92] else [])++Lib.encodeRune p.2):=by simp[ja2]
theorem jxd (r:Int):(Lib.encodeRune r).length<=4:=by have:=Lib.runeCells_le r;rw[Lib.runeCells_length] at this;omega
theorem jd5 (l:List (Nat × Int)):(ja2 l).length<=5*l.length:=by
 induction l with
 | nil=>simp[ja2]
 | cons x xs ih =>
  have h:=jxd x.2;have e:ja2 (x::xs)=((if x.2==44||x.2==92 then [92] else [])++Lib.encodeRune x.2)++ja2 xs:=by simp[ja2]
  rw[e,List.length_append,List.length_append,List.length_cons];split<;>simp<;>omega
theorem jue {T e:TypeId} {B b k:Nat} {A:List Value} {w w':World} {s:ByteArray} {pos:Nat} (h:Lib.IsBuilderF T e B b A w) (G:w.heap[k]? = some (.stringIter s pos)) (H:∀ j,j≠k->w'.heap[j]? = w.heap[j]?):Lib.IsBuilderF T e B b A w':=by
 have one:∀ p,Lib.BuilderAtF T e B b p A w->Lib.BuilderAtF T e B b p A w':=fun p ⟨J,v,D,F,L⟩=>by
  refine⟨J,v,?_,⟨F.1,?_⟩,L⟩
  ·rw[H b (fun e=>by rw[e,G] at D;cases D)];exact D
  ·rcases F.2 with M | ⟨g,cap,C,I,O,N,E,r⟩
   ·exact .inl M
   ·exact .inr ⟨g,cap,C,I,O,N,by rw[H g (fun e=>by rw[e,G] at E;cases E)];exact E,r⟩
 exact h.imp (one _) (one _)
theorem jq2 {T e:TypeId} {B b:Nat} {A:List Value} {w w':World} (h:Lib.IsBuilderF T e B b A w) (G:∀ j,j<w.heap.size->w'.heap[j]? = w.heap[j]?):Lib.IsBuilderF T e B b A w':=by
 have one:∀ p,Lib.BuilderAtF T e B b p A w->Lib.BuilderAtF T e B b p A w':=fun p ⟨I,v,D,E,J⟩=>by
  refine⟨I,v,(G b (Array.getElem?_eq_some_iff.1 D).1).trans D,⟨E.1,?_⟩,J⟩;rcases E.2 with L | ⟨g,cap,C,H,N,M,F,r⟩
  ·exact .inl L
  ·exact .inr ⟨g,cap,C,H,N,M,(G g (Array.getElem?_eq_some_iff.1 F).1).trans F,r⟩
 exact h.imp (one _) (one _)
theorem jpl (s:ByteArray) (w:World) (hs:s.size<4294967281):CR 95 #[.string s] w (.string ⟨(ja2 (rl s 0)).toArray⟩):=by
 obtain⟨g,S,o,X,d⟩:=jab w #[.pointer none,.slice none 0 0] 206;have Z:Lib.IsBuilderF 206 5 w.heap.size w.heap.size [] g:=by rw[<- S];exact Lib.IsBuilderF.of (Lib.fresh_isBuilder _ _ w)
 have Q:=World.iter_heap g s 0;have n:Bw w (g.iter s 0):=X.alloc X.size _;have p:Lib.IsBuilderF 206 5 w.heap.size w.heap.size [] (g.iter s 0):=jq2 Z (fun j hj=>Below.heap_alloc _ _ _ hj);rw[d] at Q;have i:=Lib.hid S;clear S o d Z;go_enter Tryz.func95,Tryz.ntmps95;go_wp2_with fail;rw[i.out];go_loopw [5] (fun _ wr=>∃ (pos:Nat) (done:List (Nat × Int)),wr.heap[w.heap.size+1]? = some (.stringIter s pos)/\Bw w wr/\Lib.IsBuilderF 206 5 w.heap.size w.heap.size (Lib.byteCells (ja2 done)) wr/\done.length<=pos  /\ Hid (rl s 0=done++rl s pos)) (fun _ wr=>s.size-wr.iterPos (w.heap.size+1))
 case atStart=>exact⟨0,[],Q,n,p,Nat.le_refl _,rfl⟩
 case round =>
  obtain⟨pos,done,N,m,Y,z,h⟩:=hrel;have G:=jaw N;have ac:=jd5 done;by_cases c:pos<s.size
  ·obtain⟨k,r,D,R,x,b⟩:=jd0 (P:=Tryz.prog) N m (Nat.le_succ _) c
   have H:=jue Y N b;have J:=Lib.hid (jgm s pos c);have hd:=jdU s pos c;have aa:=decode_le s pos;have ab:(Lib.byteCells (ja2 done)).length=(ja2 done).length:=by simp[Lib.byteCells]
   have U:w.heap.size<=k.heap.size:=R.size;by_cases I:((Utf8.decode s pos).1:Int)=44\/((Utf8.decode s pos).1:Int)=92
   ·have y:Hid ((((Utf8.decode s pos).1:Int)==44||((Utf8.decode s pos).1:Int)==92)=true):=by
     rcases I with I | I<;>simp[Hid,I]
    have fin:∀ (O M:World) (f:Lib.BuilderAtF 206 5 w.heap.size w.heap.size (.pointer (some ⟨w.heap.size,0,none⟩)) (Lib.byteCells (ja2 done)++[.int .u8 92]++Lib.runeCells ((Utf8.decode s pos).1:Int)) M) (C:Below w.heap.size k O) (E:Lib.OthersKept 5 (some w.heap.size) k O) (B:Below w.heap.size O M) (A:Lib.OthersKept 5 (some w.heap.size) O M),∃ (L:Nat) (F:List (Nat × Int)),M.heap[w.heap.size+1]? = some (.stringIter s L)/\Bw w M/\Lib.IsBuilderF 206 5 w.heap.size w.heap.size (Lib.byteCells (ja2 F)) M/\F.length<=L/\Hid (rl s 0=F++rl s L):=by
     intro O M f C E B A;refine⟨pos+(Utf8.decode s pos).2,done++[(pos,((Utf8.decode s pos).1:Int))],A.iter (E.iter D (by omega)) (by omega),(R.trans C).trans B,?_,by simp;omega,?_⟩
     ·rw[jgK,if_pos y.out,Lib.byteCells_append,Lib.byteCells_append,Lib.byteCells_encodeRune,<- List.append_assoc]
      exact .inr f
     ·show rl s 0=_
      rw[h.out,J.out];simp
    have q:((((Utf8.decode s pos).1:Int)==44)=true)\/((((Utf8.decode s pos).1:Int)==44)=false/\(((Utf8.decode s pos).1:Int)==92)=true):=by
     rcases I with I | I
     ·exact .inl (by simp[I])
     ·exact .inr (by simp[I])
    clear I;rcases q with T | ⟨T,a⟩
    ·go_wp2_with (first | (go_at_call 141;refine (jfz w.heap.size w.heap.size _ 92 _ H (by omega) U).mono ?_;rintro e O ⟨rfl,l,C,E⟩) | (go_at_call 142;refine (jdO w.heap.size w.heap.size _ _ (by omega) (by omega) _ (.inr l) (by rw[List.length_append,List.length_singleton];omega) (by have:=C.size;omega)).mono ?_;rintro e M ⟨⟨v,rfl⟩,V,B,A⟩))
     go_roundw
     case rel=>exact fin O _ V C E B A
     case measure=>rw[jaw (A.iter (E.iter D (by omega)) (by omega)),G];omega
    ·go_wp2_with (first | (go_at_call 141;refine (jfz w.heap.size w.heap.size _ 92 _ H (by omega) U).mono ?_;rintro e O ⟨rfl,l,C,E⟩) | (go_at_call 142;refine (jdO w.heap.size w.heap.size _ _ (by omega) (by omega) _ (.inr l) (by rw[List.length_append,List.length_singleton];omega) (by have:=C.size;omega)).mono ?_;rintro e M ⟨⟨v,rfl⟩,V,B,A⟩))
     go_roundw
     case rel=>exact fin O _ V C E B A
     case measure=>rw[jaw (A.iter (E.iter D (by omega)) (by omega)),G];omega
   ·have T:(((Utf8.decode s pos).1:Int)==44)=false:=by simp;omega
    have a:(((Utf8.decode s pos).1:Int)==92)=false:=by simp;omega
    clear I;go_wp2_with (go_at_call 142;refine (jdO w.heap.size w.heap.size _ _ (by omega) (by omega) _ H (by omega) U).mono ?_;rintro e M ⟨⟨v,rfl⟩,V,B,A⟩);go_roundw
    case rel =>
     refine⟨pos+(Utf8.decode s pos).2,done++[(pos,((Utf8.decode s pos).1:Int))],A.iter D (by omega),R.trans B,?_,by simp;omega,?_⟩
     ·rw[jgK,if_neg (by rw[T,a];decide),List.nil_append,Lib.byteCells_append,Lib.byteCells_encodeRune]
      exact .inr V
     ·show rl s 0=_
      rw[h.out,J.out];simp
    case measure=>rw[jaw (A.iter D (by omega)),G];omega
  ·have r:∀ t,(Instr.next (.pointer (some ⟨w.heap.size+1,0,none⟩)) true t).run Tryz.prog wr=_:=fun t=>Lib.run_next_end_at wr (w.heap.size+1) s pos t N c
   go_wp2_with (go_at_call 108;refine (Tryz.Builder_String_any_f w.heap.size w.heap.size _ _ Y m.size).mono ?_;rintro e M ⟨rfl,V,B⟩);go_ret;have u:=h.out;rw[ji7 s pos c,List.append_nil] at u;rw[u];exact⟨rfl,m.trans B⟩
deriving instance DecidableEq for Lab
def jak:List Lab->List Lab->Bool
 | [],bs=>decide (0<bs.length)
 | _::_,[]=>false
 | x::xs,y::ys=>if x.name=y.name/\x.value=y.value then jak xs ys else if x.name≠y.name then Op.bytesLess x.name.toList y.name.toList else Op.bytesLess x.value.toList y.value.toList
theorem jlp {B:Nat} {w:World} {a:Option Addr} {len:Nat} {l:List Lab} (h:SlE Lab.enc 2 B w a len l) {j:Nat} (C:j<len) :
  ∃ x b off,l[j]? = some x/\a=some ⟨b,off,none⟩/\b<B/\w.cell? ⟨b,off+j*2,none⟩=some (.string x.name)/\w.cell? ⟨b,off+j*2+1,none⟩=some (.string x.value):=by
 obtain⟨x,b,off,D,e,hb,A⟩:=h.at C;exact⟨x,b,off,D,e,hb,A 0 (by omega),A 1 (by omega)⟩
theorem jds (a b:ByteArray):(a.toList==b.toList)=decide (a=b):=by
 by_cases h:a=b
 ·subst h;simp
 ·rw[decide_eq_false h,beq_eq_false_iff_ne]
  intro e;apply h;rw[Lib.toList_data,Lib.toList_data] at e;exact ByteArray.ext (Array.ext' e)
theorem jbB {α:Type} {l:List α} {k:Nat} {x:α} (h:l[k]? = some x):l.drop k=x::l.drop (k+1):=by
 obtain⟨A,rfl⟩:=List.getElem?_eq_some_iff.1 h;exact List.drop_eq_getElem_cons A
theorem jqC:Tryz.prog.eqGuardType Tryz.prog.depth 93=false:=by kernel_rfl
theorem jqE (A B C D:ByteArray) (w:World):(binOp .eql 93 (.agg #[.string A,.string B]) (.agg #[.string C,.string D])).run Tryz.prog w=.ok (.bool (A.toList==C.toList&&B.toList==D.toList)) w:=by
 have E:Tryz.prog.underlying 93=some (.struct (Tryz.prog.fieldsOf 93)):=by kernel_rfl
 have F:Tryz.prog.stoodInHeld 93=false:=by kernel_rfl
 have G : (Tryz.prog.fieldsOf 93).toList = [{ name := "Name", type := 9, offset := 0, embedded := false, tag := "", pkgPath := "", byteOffset := 0 }, { name := "Value", type := 9, offset := 1, embedded := false, tag := "", pkgPath := "", byteOffset := 16 }] := by kernel_rfl
 rw[run_eql_struct,run_equalIn_agg w 9999 _ _ _ E F,G]
 cases ha:(A.toList==C.toList)<;>cases hb:(B.toList==D.toList)<;>simp[go_sem,ha,hb,Tryz.underlying9]
theorem jj3 (A B C D:ByteArray) (w:World):(binOp .neq 93 (.agg #[.string A,.string B]) (.agg #[.string C,.string D])).run Tryz.prog w=.ok (.bool (!(A.toList==C.toList&&B.toList==D.toList))) w:=by
 have E:Tryz.prog.underlying 93=some (.struct (Tryz.prog.fieldsOf 93)):=by kernel_rfl
 have F:Tryz.prog.stoodInHeld 93=false:=by kernel_rfl
 have G : (Tryz.prog.fieldsOf 93).toList = [{ name := "Name", type := 9, offset := 0, embedded := false, tag := "", pkgPath := "", byteOffset := 0 }, { name := "Value", type := 9, offset := 1, embedded := false, tag := "", pkgPath := "", byteOffset := 16 }] := by kernel_rfl
 rw[run_neq_struct,run_equalIn_agg w 9999 _ _ _ E F,G]
 cases ha:(A.toList==C.toList)<;>cases hb:(B.toList==D.toList)<;>simp[go_sem,ha,hb,Tryz.underlying9]
theorem jdv (a1:Option Addr) (A X:Nat) (M:List Lab) (a2:Option Addr) (B Y:Nat) (J:List Lab) (w:World) (Z:SlE Lab.enc 2 w.heap.size w a1 A M) (a:SlE Lab.enc 2 w.heap.size w a2 B J) (hm:A<=maxLen) (s:B<=maxLen) :
  CR 75 #[.slice a1 A X,.slice a2 B Y] w (.bool (jak M J)):=by
 unfold maxLen at hm s;have E1:=Lib.hid Z.1;have E2:=Lib.hid a.1;go_enter Tryz.func75,Tryz.ntmps75;go_wp2_with fail;go_loopw [4,10] (fun _ i wr=>∃ (k:Nat),i=.int .i64 k/\k<=A/\k<=B/\Bw w wr/\Hid (jak M J=jak (M.drop k) (J.drop k))) (fun _ i _=>A-(intOf i).toNat)
 case atStart=>exact⟨0,rfl,Nat.zero_le _,Nat.zero_le _,Below.refl _ _,rfl⟩
 case round =>
  obtain⟨k,rfl,hk,ae,T,R⟩:=hrel;have f:=T.size;by_cases r:k<A
  ·obtain⟨x,b1,o1,j,m,ac,p0,p1⟩:=jlp (Z.below T) r
   subst m;by_cases e:k<B
   ·obtain⟨y,S,l,hy,n,ad,v,z⟩:=jlp (a.below T) e
    subst n;obtain⟨F,I⟩:=x;obtain⟨D,H⟩:=y;dsimp only at p0 p1 v z;have t0:((k:Int)==(B:Int))=false:=by rw[beq_eq_false_iff_ne];omega
    have N:Hid (jak M J=if F=D/\I=H then jak (M.drop (k+1)) (J.drop (k+1)) else if F≠D then Op.bytesLess F.toList D.toList else Op.bytesLess I.toList H.toList):=by
     rw[Hid,R.out,jbB j,jbB hy];rfl
    clear j hy Z a R;have i0:(0:Int)<=(k:Int):=by omega
    have i1:(k:Int)<(A:Int):=by omega
    have i2:(k:Int)<(B:Int):=by omega
    obtain⟨V,aa,c,O,t⟩:=jab wr #[.string F,.string I] 93;have u0:V.cell? ⟨S,l+k*2,none⟩=some (.string D):=(O.cell (p:=⟨S,l+k*2,none⟩) (by show S<_;omega)).trans v;have u1:V.cell? ⟨S,l+k*2+1,none⟩=some (.string H):=(O.cell (p:=⟨S,l+k*2+1,none⟩) (by show S<_;omega)).trans z;obtain⟨g,ab,Q,b,u⟩:=jab V #[.string D,.string H] 93;have d:=(b.block wr.heap.size (by omega)).trans c;have o:Bw wr g:=O.trans (b.mono (by omega));obtain⟨r0,r1⟩:=cl2 d;have r2:g.cell? ⟨V.heap.size,0,none⟩=some (.string D):=cCc Q 0;have r3:g.cell? ⟨V.heap.size,1,none⟩=some (.string H):=cCc Q 1;clear c d Q v z t u;have P:Bw w g:=T.trans (o.mono f);have n2:=jqC;have L:=jds F D;have U:=jds I H;by_cases C:F=D
    ·by_cases G:I=H
     ·have n1:∀ w,(binOp .eql 93 (.agg #[.string F,.string I]) (.agg #[.string D,.string H])).run Tryz.prog w=.ok (.bool true) w:=fun w=>by rw[jqE,L,U];simp[C,G]
      have E:=Lib.hid (And.intro C G);clear C G L U;go_wp2_with fail
      all_goals go_roundw
      case rel=>exact⟨k+1,by go_num,by omega,by omega,P,by rw[Hid,N.out,if_pos E.out]⟩
      case measure=>simp[intOf];omega
     ·have n1:∀ w,(binOp .eql 93 (.agg #[.string F,.string I]) (.agg #[.string D,.string H])).run Tryz.prog w=.ok (.bool false) w:=fun w=>by rw[jqE,L,U];simp[G]
      have n3:(F.toList==D.toList)=true:=by rw[L];simp[C]
      have E:Hid (¬ (F=D/\I=H)/\¬ (F≠D)):=⟨fun h=>G h.2,fun h=>h C⟩;clear C G L U;go_wp2_with fail;go_ret;exact⟨by rw[N.out,if_neg E.out.1,if_neg E.out.2];rfl,P⟩
    ·have n1:∀ w,(binOp .eql 93 (.agg #[.string F,.string I]) (.agg #[.string D,.string H])).run Tryz.prog w=.ok (.bool false) w:=fun w=>by rw[jqE,L,U];simp[C]
     have n3:(F.toList==D.toList)=false:=by rw[L];simp[C]
     have E:Hid (¬ (F=D/\I=H)/\(F≠D)):=⟨fun h=>C h.1,C⟩;clear C L U;go_wp2_with fail;go_ret;exact⟨by rw[N.out,if_neg E.out.1,if_pos E.out.2];rfl,P⟩
   ·have t0:((k:Int)==(B:Int))=true:=by rw[beq_iff_eq];omega
    have i0:(0:Int)<=(k:Int):=by omega
    have i1:(k:Int)<(A:Int):=by omega
    have N:Hid (jak M J=false):=by
     rw[Hid,R.out,jbB j,(List.drop_eq_nil_of_le (by rw[<- E2.out];omega):J.drop k=[])];rfl
    have q:Bw w (wr.alloc (.cells #[.string x.name,.string x.value] 93)):=T.alloc f _;clear j Z a R;go_wp2_with fail;go_ret;exact⟨by rw[N.out];rfl,q⟩
  ·have N:Hid (jak M J=decide ((A:Int)<B)):=by
    rw[Hid,R.out,List.drop_eq_nil_of_le (by rw[<- E1.out];omega),jak,List.length_drop,<- E2.out];simp;omega
   clear Z a R;go_wp2_with fail;go_ret;exact⟨by rw[N.out];simp,T⟩
end
theorem jkr:Tryz.prog.underlying 88=some (.slice 93):=by kernel_rfl
theorem jjL:(Tryz.prog.info? 93).map (fun i=>(i.zero,i.size,i.bytes))=some (some (.agg #[.string ⟨#[]⟩,.string ⟨#[]⟩]),2,32):=by kernel_rfl
theorem jiM (a:Option Addr) (n c:Nat) (w:World):(binOp .eql 88 (.slice a n c) (.slice none 0 0)).run Tryz.prog w=.ok (.bool a.isNone) w:=Lib.run_eql_slice_nil w _ _ a n c 0 0 jkr
theorem jj7 (x:Lab):∀ u∈Lab.enc x,u.oneCell'=true:=by
 intro u A;simp only[Lab.enc,List.mem_cons,List.not_mem_nil,or_false] at A;rcases A with rfl | rfl<;>rfl
theorem jqq (a:Option Addr) (len cap:Nat) (l:List Lab) (w:World) (F:SlE Lab.enc 2 w.heap.size w a len l) (P:len<2147483648) :
  Calls Tryz.prog 33 #[.slice a len cap] w fun e w'=>∃ L C,e=.returned (.slice L len C)/\SlC Lab.enc 2 w'.heap.size w' L len C l/\(∀ x,L=some x->w.heap.size<=x.block)/\Bw w w':=by
 have U:=jiM a len cap;have A:=F.1
 cases a with
 | none =>
  have O:l=[]:=by
   cases l with
   | nil=>rfl
   | cons y ys=>obtain⟨b,off,e,_⟩:=F.2 0 y rfl;cases e
  subst O;obtain rfl:len=0:=A;clear F;go_enter Tryz.func33,Tryz.ntmps33;go_wp2_with fail;go_ret;exact⟨none,0,rfl,SlC.nil,(fun x h=>by cases h),Below.refl _ _⟩
 | some a =>
  have E:Bw w (w.alloc (.cells #[] 93)):=(Below.refl _ w).alloc (Nat.le_refl _) _;have D:(w.alloc (.cells #[] 93)).ownsRow w.heap.size 93 2 (.slice (some ⟨w.heap.size,0,none⟩) 0 0) 0 []:=⟨rfl,.inr ⟨w.heap.size,0,#[],rfl,Nat.le_refl _,World.alloc_heap_new _ _,Nat.le_refl _,by unfold maxLen;omega,rfl,rfl⟩⟩;have G:=F.go E;obtain⟨v4,Q,H,B,M,T,-,-⟩:=jbu Tryz.prog (cap:=cap) 88 jkr jjL rfl (by decide) D E (Nat.le_refl _) (by simp) (fun _=>rfl) G jj7 (by omega) P (by decide);rw[Nat.zero_add,List.nil_append,A] at B;obtain⟨S,c4,J,I,N⟩:=jaM (enc:=Lab.enc) (fun _=>rfl) B;have R:Hid (SlC Lab.enc 2 Q.heap.size Q S len c4 l):=by rw[Hid,A];exact I
  rw[<- A] at J;subst J;clear F G D I B A;go_enter Tryz.func33,Tryz.ntmps33;go_wp2_with (at_builtin;refine ja6 rfl _ _ _ rfl rfl rfl H ?_);go_ret;exact⟨_,_,rfl,R.out,N,M⟩
theorem jqG (a:Option Addr) (A H:Nat) (Q:List Lab) (b:Option Addr) (C I:Nat) (R:List Lab) (w:World) (L:SlE Lab.enc 2 w.heap.size w a A Q) (M:SlE Lab.enc 2 w.heap.size w b C R) (p:A<=maxLen) :
  CR 76 #[.slice a A H,.slice b C I] w (.bool (Q==R)):=by
 have J:=L.1;have S:=M.1;unfold maxLen at p;by_cases V:A=C
 ·subst V
  have r:((A:Int) != (A:Int))=false:=by simp
  have l:=Lib.hid J;have m:=Lib.hid S;clear J S;go_enter Tryz.func76,Tryz.ntmps76;go_wp2_with fail;go_loopw [5,13] (fun _ i wr=>∃ (k:Nat),i=.int .i64 k/\k<=A/\Bw w wr/\Hid (Q.take k=R.take k)) (fun _ i _=>A-(intOf i).toNat)
  case atStart=>exact⟨0,rfl,Nat.zero_le _,Below.refl _ _,rfl⟩
  case round =>
   obtain⟨k,rfl,s,N,X⟩:=hrel;by_cases O:k<A
   ·obtain⟨x,c,h,P,T,n,E⟩:=(L.below N).at O
    obtain⟨y,d,j,g,U,o,F⟩:=(M.below N).at O;subst T;subst U;have p0:wr.cell? ⟨c,h+k*2,none⟩=some (.string x.name):=E 0 (by omega);have v:wr.cell? ⟨c,h+k*2+1,none⟩=some (.string x.value):=E 1 (by omega);have z:wr.cell? ⟨d,j+k*2,none⟩=some (.string y.name):=F 0 (by omega);have q1:wr.cell? ⟨d,j+k*2+1,none⟩=some (.string y.value):=F 1 (by omega);have u:=jqC;have i0:(0:Int)<=(k:Int):=by omega
    have t:(k:Int)<(A:Int):=by omega
    have Y:=Lib.hid P;have Z:=Lib.hid g;clear E F P g L M;by_cases B:x=y
    ·have q:∀ w,(binOp .neq 93 (.agg #[.string x.name,.string x.value]) (.agg #[.string y.name,.string y.value])).run Tryz.prog w=.ok (.bool false) w:=fun w=>by rw[jj3,jds,jds,B];simp
     have D:Hid (x=y):=B;clear B;go_wp2_with fail;go_quiet (fail);go_wp2_with fail;go_roundw
     case rel=>exact⟨k+1,by go_num,by omega,bDr N _,by rw[Hid,jaf Y.out,jaf Z.out,X.out,D.out]⟩
     case measure=>simp[intOf];omega
    ·have q:∀ w,(binOp .neq 93 (.agg #[.string x.name,.string x.value]) (.agg #[.string y.name,.string y.value])).run Tryz.prog w=.ok (.bool true) w:=fun w=>by rw[jj3,jds,jds];cases x;cases y;simp only[Lab.mk.injEq] at B;rw[<- Bool.decide_and,decide_eq_false B];rfl
     have D:Hid (¬ x=y):=B;clear B;go_wp2_with fail;go_quiet (fail);go_wp2_with fail;go_ret
     have G:(Q==R)=false:=by
      rw[beq_eq_false_iff_ne];intro e;have P:=Y.out;rw[e,Z.out] at P;exact D.out (Option.some.inj P).symm
     exact⟨by rw[G];rfl,bDr N _⟩
   ·obtain rfl:k=A:=by omega
    clear L M;go_wp2_with fail;go_ret;have f:=X.out;rw[List.take_of_length_le (by rw[<- l.out];omega),List.take_of_length_le (by rw[<- m.out];omega)] at f;exact⟨by rw[f];simp,N⟩
 ·have r:((A:Int) != (C:Int))=true:=by rw[bne_iff_ne];omega
  have G:Hid ((Q==R)=false):=by
   rw[Hid,beq_eq_false_iff_ne];intro e;rw[e,<- S] at J;exact V J
  clear L M J S V;go_enter Tryz.func76,Tryz.ntmps76;go_wp2_with fail;go_ret;exact⟨by rw[G.out];rfl,Below.refl _ _⟩
section
open Go.Shelf
structure PR where
 nm:ByteArray
 vl:ByteArray
 place:Nat
 runes:Nat
 l:List Lab
def PR.new:PR:=⟨⟨#[]⟩,⟨#[]⟩,0,0,[]⟩
abbrev jgn (c:Int):ByteArray:=Utf8.encode c
def jaZ (r:PR) (c:Int):Option PR :=
 if r.place=0 then (if !ja7 c||r.nm.size==12 then none else some { r with nm:=r.nm++jgn c })
 else if !jbj c||r.runes==24 then none else some { r with vl:=r.vl++jgn c,runes:=r.runes+1 }
def jcS (r:PR):Option PR :=
 if r.place≠1 then none else if r.l.length=6 then none else some ⟨⟨#[]⟩,⟨#[]⟩,0,0,r.l++[⟨r.nm,r.vl⟩]⟩
def jez (r:PR) (c:Int):Option PR :=
 if r.place=2 then jaZ { r with place:=1 } c
 else if c=61 then (if r.place=1 then jaZ r c else if r.nm.size=0 then none else some { r with place:=1 })
 else if c=44 then jcS r
 else if c=92 then (if r.place=0 then none else some { r with place:=2 })
 else jaZ r c
def jhS:PR->List (Nat × Int)->Option PR
 | r,[]=>some r
 | r,c::cs=>(jez r c.2).bind fun r=>jhS r cs
def jgI (s:ByteArray):Option (List Lab):=if jcg s then ((jhS .new (rl s 0)).bind jcS).map (·.l) else none
theorem jrO {r r':PR} (h:jcS r=some r') (A:r.l.length<=6):r'.l.length<=6:=by
 unfold jcS at h;split at h
 ·cases h
 ·split at h
  ·cases h
  ·injection h with h
   subst h;simp;omega
end
end Go.Proofs.YtnegciklhanmbaaGreatDoor
