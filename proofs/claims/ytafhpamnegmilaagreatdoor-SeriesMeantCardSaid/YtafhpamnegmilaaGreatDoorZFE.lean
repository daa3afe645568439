/- strings.SplitSeq at a separator of one byte ';'. Package scope: read, Right. Package scope: Means. The reference of layer 5 in plain data: a text's runes as texts, patterns, terms. No program in sight. The reference of layer 4: List, Runes, isValue. Grants as the reference of layer 15 says which are right: no number is bounded but the last. No program in sight. -/
import Derived.Test.YtafhpamnegmilaaGreatDoorZFB
import Derived.Test.YtafhpamnegmilaaGreatDoorZRQ
set_option maxHeartbeats 2000000
set_option maxRecDepth 100000
namespace Go.Proofs.YtafhpamnegmilaaGreatDoor
open Go Go.RowKit
section
open Go.Shelf
attribute [local go_sem] Oper.semAt_some
abbrev jb4:={ s:ByteArray // s.size<4294967281 }
def jxB:ByteArray:=⟨#[59]⟩
def jeu (s:ByteArray):Option Nat:=if Lib.indexByte s.data.toList 59<0 then none else some (Lib.indexByte s.data.toList 59).toNat
theorem jg4:∀ (l:List UInt8) (c:UInt8),Lib.indexByte l c<l.length
 | [],_=>by simp[Lib.indexByte]
 | b::l,c=>by
  have:=jg4 l c;simp only[Lib.indexByte,List.length_cons];split
  ·omega
  ·split<;>omega
theorem jfL {s:ByteArray} {k:Nat} (h:jeu s=some k):Lib.indexByte s.data.toList 59=(k:Int)/\k<s.size:=by
 unfold jeu at h;split at h
 ·cases h
 ·cases h
  have:=jg4 s.data.toList 59;rw[Lib.size_eq];omega
theorem jnG {s:ByteArray} (h:jeu s=none):Lib.indexByte s.data.toList 59<0:=by
 unfold jeu at h;split at h
 ·assumption
 ·cases h
theorem jcr (s:ByteArray) (a b:Nat):(s.extract a b).size<=s.size:=by simp[ByteArray.size_extract];omega
def jfN:Nat->jb4->List jb4
 | 0,s=>[s]
 | f+1,s=>match jeu s.1 with
  | none=>[s]
  | some k=>⟨s.1.extract 0 k,Nat.lt_of_le_of_lt (jcr _ _ _) s.2⟩::jfN f ⟨s.1.extract (k+1) s.1.size,Nat.lt_of_le_of_lt (jcr _ _ _) s.2⟩
theorem jhc:∀ (f g:Nat) (s:jb4),s.1.size<f->s.1.size<g->jfN f s=jfN g s
 | 0,_,_,h,_=>by omega
 | _,0,_,_,h=>by omega
 | f+1,g+1,s,hf,hg=>by
  simp only[jfN];split
  ·rfl
  ·rename_i k A
   have:=(jfL A).2;rw[jhc f g _ (by simp[ByteArray.size_extract];omega) (by simp[ByteArray.size_extract];omega)]
def jbC (s:jb4):List jb4:=jfN (s.1.size+1) s
theorem jiU (s:jb4) (h:jeu s.1=none):jbC s=[s]:=by simp[jbC,jfN,h]
theorem jiV (s:jb4) (k:Nat) (h:jeu s.1=some k):jbC s=⟨s.1.extract 0 k,Nat.lt_of_le_of_lt (jcr _ _ _) s.2⟩::jbC ⟨s.1.extract (k+1) s.1.size,Nat.lt_of_le_of_lt (jcr _ _ _) s.2⟩:=by
 have:=(jfL h).2;have e:=jhc s.1.size ((s.1.extract (k+1) s.1.size).size+1) ⟨s.1.extract (k+1) s.1.size,Nat.lt_of_le_of_lt (jcr _ _ _) s.2⟩ (by simp[ByteArray.size_extract];omega) (by simp);unfold jbC;rw[<- e];simp only[jfN,h]
def jqx (b:Nat) (w:World):Nat:=match w.cell? ⟨b,0,none⟩ with | some (.string s)=>s.size | _=>0
theorem jlp {b t:Nat} {w:World} {s:ByteArray} (h:Boxed w b t (.string s)):jqx b w=s.size:=by simp[jqx,h.cell]
def jfT (b:Nat) (W W':World):Prop:=W'.heap[b]? = W.heap[b]? /\ W'.heap[b+1]? = W.heap[b+1]? /\ W'.heap[b+2]? = W.heap[b+2]?
theorem jgs {b:Nat} {A B C:World} (h:jfT b A B) (k:jfT b B C):jfT b A C:=⟨k.1.trans h.1,k.2.1.trans h.2.1,k.2.2.trans h.2.2⟩
theorem jlb (s A:ByteArray) (w:World):Calls Tryz.prog 105 #[.string s,.string A] w fun e w' =>
  e=.returned (.func (.func 172) #[] #[.pointer (some ⟨w.heap.size+1,0,none⟩),.pointer (some ⟨w.heap.size,0,none⟩),.pointer (some ⟨w.heap.size+1+1,0,none⟩)]) /\
   w'=((w.alloc (.cells #[.string s] 9)).alloc (.cells #[.string A] 9)).alloc (.cells #[.int .i64 0] 3):=by
 go_enter Tryz.func105,Tryz.ntmps105;go_wp2;go_ret;exact⟨rfl,rfl⟩
theorem jjk (b:Nat) (s:jb4) (w:World) (Y:Boxed w b 9 (.string s.1)) (Z:Boxed w (b+1) 9 (.string jxB)) (a:Boxed w (b+2) 3 (.int .i64 0)) :
  jhI Tryz.prog 172 #[.pointer (some ⟨b+1,0,none⟩),.pointer (some ⟨b,0,none⟩),.pointer (some ⟨b+2,0,none⟩)] (fun x:jb4=>#[.string x.1]) (jfT b) b (jbC s) w:=fun l J Jx W d q t m c=>by
 have M:=jcT d Y.lt Y;have D:=jcT d Z.lt Z;have N:=jcT d a.lt a;have c1:=D.cell;clear Y Z a;refine callsIn_of_wp Tryz.func172 rfl trivial ?_ rfl;simp only[Tryz.ntmps172,List.size_toArray,List.length_cons,List.length_nil,Nat.reduceAdd,Nat.reduceSub,Array.replicate_succ,Array.replicate_zero,List.push_toArray,List.append_toArray,List.nil_append,List.cons_append];unfold jxB at c1 D;gi_wp2_with fail;gi_loopw [] (fun wr=>∃ (A:jb4) (B:List jb4),Boxed wr b 9 (.string A.1)/\Boxed wr (b+1) 9 (.string ⟨#[59]⟩)/\Boxed wr (b+2) 3 (.int .i64 0)/\J B wr/\jbC s=B++jbC A/\W.heap.size<=wr.heap.size) (fun wr=>jqx b wr)
 case atStart=>exact⟨s,[],M,D,N,c,rfl,Nat.le_refl _⟩
 case round =>
  obtain⟨A,B,U,i,j,G,Q,R⟩:=hrel;have X:=Lib.hid Q;have z:=U.cell;have q1:=i.cell;have q2:=j.cell;have f:=jlp U;have E:=Tryz.strings_Index_one A.1 59 wr;clear M D N c1 Q
  cases I:jeu A.1 with
  | none =>
   have n:=jnG I;have S:=Lib.hid (jiU A I);obtain⟨p,tmps,assign,body,g,T⟩:=m B A wr G R;clear I;have P:Hid (B++[A]=jbC s):=by rw[X.out,S.out];rfl
   gi_wp2_with fail
   refine⟨trivial,(callsIn_wide.2 E).mono ?_⟩;rintro e w' ⟨rfl,rfl⟩;gi_wp2_with fail;refine T.mono ?_;rintro e L (⟨rfl,F,_,_⟩ | ⟨rfl,C,_⟩)
   ·gi_wp2_with fail
    go_end0;exact⟨⟨_,rfl⟩,.inl (by rw[<- P.out];exact F)⟩
   ·gi_wp2_with fail
    go_end0;exact⟨⟨_,rfl⟩,.inr ⟨_,by rw[P.out];exact List.prefix_refl _,C⟩⟩
  | some k =>
   obtain⟨O,v⟩:=jfL I;have S:=Lib.hid (jiV A k I);have u:=A.2;obtain⟨p,tmps,assign,body,g,T⟩:=m B ⟨A.1.extract 0 k,Nat.lt_of_le_of_lt (jcr _ _ _) A.2⟩ wr G R;rw[O] at E;clear I O;dsimp only at g;gi_wp2_with fail;refine⟨trivial,(callsIn_wide.2 E).mono ?_⟩;rintro e w' ⟨rfl,rfl⟩;clear E;gi_wp2_with fail;refine T.mono ?_;rintro e L (⟨rfl,F,H,h⟩ | ⟨rfl,C,h⟩)
   ·have V:Boxed L b 9 (.string A.1):=H.1.trans U
    have o:Boxed L (b+1) 9 (.string ⟨#[59]⟩):=H.2.1.trans i;have y:Boxed L (b+2) 3 (.int .i64 0):=H.2.2.trans j;have r0:=V.cell;have r1:=o.cell;have r2:=V.frozen;clear U i j z q1 q2 g T G;gi_wp2_with fail;go_roundw
    case rel =>
     refine⟨⟨A.1.extract (k+1) A.1.size,Nat.lt_of_le_of_lt (jcr _ _ _) A.2⟩,B++[⟨A.1.extract 0 k,Nat.lt_of_le_of_lt (jcr _ _ _) A.2⟩],V.set _,o.other (by omega) _,y.other (by omega) _,q _ _ _ (some b) F (grownBy_setCell' _ _ _) (fun r e=>by cases e;rfl) (by omega),?_,?_⟩
     ·rw[X.out,S.out];simp
     ·have:=(KeepsWalks.setCell L ⟨b,0,none⟩ (.string (A.1.extract (k+1) A.1.size))).size;omega
    case measure =>
     rw[jlp (V.set _),f];simp[ByteArray.size_extract];omega
   ·gi_wp2_with fail
    refine bodyPost_ret (results_none rfl _ _ _) rfl ?_;exact⟨⟨_,rfl⟩,.inr ⟨_,by rw[X.out,S.out];simp,C⟩⟩
end
section
open Go.Shelf
attribute [local go_sem] Oper.semAt_some
def jfp (s:ByteArray):ByteArray × ByteArray × Bool:=(⟨(Lib.cut s.data.toList [61]).1.toArray⟩,⟨(Lib.cut s.data.toList [61]).2.1.toArray⟩,(Lib.cut s.data.toList [61]).2.2)
theorem jhX (s:ByteArray):(jfp s).1.size<=s.size/\(jfp s).2.1.size<=s.size:=by
 have e:=Lib.size_eq s
 have A:(Lib.cut s.data.toList [61]).1.length<=s.data.toList.length/\(Lib.cut s.data.toList [61]).2.1.length<=s.data.toList.length:=by
  unfold Lib.cut;split
  ·simp only[List.length_take,List.length_drop];omega
  ·simp
 rw[e];exact⟨by show Array.size _<=_;rw[List.size_toArray];exact A.1,by show Array.size _<=_;rw[List.size_toArray];exact A.2⟩
theorem jvf (s:ByteArray) (w:World) (C:s.size<4294967281) (A:GW w):CR 106 #[.string s,.string ⟨#[61]⟩] w (.tuple #[.string (jfp s).1,.string (jfp s).2.1,.bool (jfp s).2.2]):=by
 obtain⟨m,B⟩:=A.maxLen;refine (Tryz.strings_Cut s ⟨#[61]⟩ m w C B).mono ?_;rintro e w' ⟨rfl,n,rfl⟩;exact⟨rfl,bDr (Below.refl _ _) n⟩
structure Term where
 name:ByteArray
 pat:ByteArray
def Term.enc (t:Term):List Value:=[.string t.name,.string t.pat]
def jbI (x:jb4) (st:List Term × ByteArray):Option (List Term × ByteArray) :=
 if !(jfp x.1).2.2||(st.1.length:Int)==4 || !jdH (jfp x.1).1||jfO (jfp x.1).1 st.2 || !jgk (jfp x.1).2.1 then none else some (st.1++[⟨(jfp x.1).1,(jfp x.1).2.1⟩],(jfp x.1).1)
def jd7 (l:List jb4):Option (List Term × ByteArray):=l.foldl (fun st x=>st.bind (jbI x)) (some ([],⟨#[]⟩))
theorem jnv (l:List jb4) (x:jb4):jd7 (l++[x])=(jd7 l).bind (jbI x):=by simp[jd7]
theorem jdX (l:List jb4):l.foldl (fun A x=>A.bind (jbI x)) none=none:=by
 induction l with
 | nil=>rfl
 | cons x xs ih=>exact ih
theorem jkH (B A:List jb4) (C:B <+: A) (h:jd7 B=none):jd7 A=none:=by
 obtain⟨t,rfl⟩:=C;unfold jd7 at h ⊢;rw[List.foldl_append,h,jdX]
def jfq (s:jb4):Option (List Term):=if s.1.size==0 then some [] else (jd7 (jbC s)).map (·.1)
theorem jme {x:jb4} {B A:List Term × ByteArray} (h:jbI x B=some A) (D:B.1.length<=4):A.1.length<=4:=by
 unfold jbI at h;split at h
 ·cases h
 ·rename_i C
  cases h
  simp at C;simp;omega
theorem jjM (l:List jb4):∀ (A B:List Term × ByteArray),A.1.length<=4->l.foldl (fun B x=>B.bind (jbI x)) (some A)=some B->B.1.length<=4:=by
 induction l with
 | nil=>intro A B C h;cases h;exact C
 | cons x xs ih =>
  intro A B C h;simp only[List.foldl_cons,Option.bind_some] at h
  cases D:jbI x A with
  | none=>rw[D,jdX] at h;cases h
  | some st1=>rw[D] at h;exact ih st1 B (jme D C) h
def TermsAt (n₀:Nat) (w:World) (sv:Value) (l:List Term):Prop:=SlAt n₀ w sv l.length (l.flatMap Term.enc)
def jhx (s:jb4) (w:World) (e:Ending) (w':World):Prop :=
 ∃ a len cap,e=.returned (.tuple #[.slice a len cap,.bool (jfq s).isSome])/\TermsAt w'.heap.size w' (.slice a len cap) ((jfq s).getD [])/\Bw w w'
theorem jrc:(Tryz.prog.info? 101).map (fun i=>(i.zero,i.size,i.bytes))=some (some (.agg #[.string ⟨#[]⟩,.string ⟨#[]⟩]),2,32):=by kernel_rfl
theorem jsu:Tryz.prog.underlying 96=some (.slice 101):=by kernel_rfl
def jwv (n:Nat) (w:World) (pre:List jb4) (W:World):Prop :=
 ∃ v acc before,Boxed W n 96 v/\W.ownsRow (n+6) 101 2 v acc.length (acc.flatMap Term.enc)/\Boxed W (n+1) 4 (.bool true)/\Boxed W (n+2) 9 (.string before)/\jd7 pre=some (acc,before)/\Below n w W
theorem jrS {n N:Nat} {w:World} (S:n<=w.heap.size) (P:n<=N):OwnX N (n+3) (jwv n w):=fun s X Y row T B hr=>by
 obtain⟨v,C,A,I,E,J,L,M,O⟩:=T;refine⟨v,C,A,jhE N (n+3) n _ (fun _:Unit=>v) (by omega) () X Y row I B hr,E.kept B ?_,jhE N (n+3) (n+1) _ (fun _:Unit=>.bool true) (by omega) () X Y row J B hr,jhE N (n+3) (n+2) _ (fun _:Unit=>.string A) (by omega) () X Y row L B hr,M,jjI S P (by omega) () X Y row O B hr⟩;rcases E.2 with⟨rfl,_⟩ | ⟨g,cap,G,rfl,R,D,_⟩
 ·exact .inl rfl
 ·refine .inr (fun e=>?_)
  have H:row=some g:=by rw[<- e];rfl
  rcases hr g H with h | ⟨_,o,F,Q⟩
  ·omega
  ·rw[D] at F;cases F;cases Q
def jvk (n:Nat) (w:World) (c:Code) (pre:List jb4) (W:World):Prop:=Boxed W (n+1) 4 (.bool false)/\(c=.exit 0/\jd7 pre=none)/\Below n w W
theorem jrT {n N:Nat} {w:World} (B:n<=w.heap.size) (A:n<=N) (c:Code):OwnX N (n+3) (jvk n w c) :=
 (jhE _ _ _ _ _ (by omega)).and ((jrK _ _ _).and (jjI B A (by omega)))
def RB (n:Nat) (w:World) (v:Value) (acc:List Term) (before:ByteArray) (W:World):Prop :=
 Boxed W n 96 v/\W.ownsRow (n+6) 101 2 v acc.length (acc.flatMap Term.enc)/\Boxed W (n+1) 4 (.bool true)/\Boxed W (n+2) 9 (.string before)/\Below n w W
theorem RB.below {n:Nat} {w:World} {v:Value} {B:List Term} {A:ByteArray} {W E:World} (h:RB n w v B A W) (C:Bw W E):RB n w v B A E:=by
 obtain⟨D,H,F,G,I⟩:=h;have:=D.lt;exact⟨jcT C D.lt D,jbN H (fun j _ J=>C.block j J),jcT C F.lt F,jcT C G.lt G,I.trans (C.mono (by omega))⟩
theorem je0 {b N:Nat} {W A:World} (h:Below N W A) (B:b+2<N):jfT b W A:=⟨h.block _ (by omega),h.block _ (by omega),h.block _ (by omega)⟩
theorem jeN {n N:Nat} {w:World} {v:Value} {D:List Term} {A:ByteArray} {W C:World} {B:List jb4} {x:jb4} (h:RB n w v D A C) (hK:KeepsFrom N W C) (E:jd7 (B++[x])=none) :
  KeepsFrom N W (C.setCell ⟨n+1,0,none⟩ (.bool false))/\jvk n w (.exit 0) (B++[x]) (C.setCell ⟨n+1,0,none⟩ (.bool false)) :=
 ⟨hK.trans ((KeepsOthers.setCell _ _ _).from _),h.2.2.1.set _,⟨rfl,E⟩,h.2.2.2.2.setCell (p:=⟨n+1,0,none⟩) (Nat.le_succ _) _⟩
theorem jsR {W F:World} {B A e D n:Nat} {v:Value} {xs:List Value} (C:W.ownsRow A e D v n xs) (L:W.heap.size<=F.heap.size) (H:∀ k,k<W.heap.size->some k≠v.ownBlock->F.heap[k]? = W.heap[k]?):KeepsFrom B W F :=
 ⟨L,fun k o _ E J=>by
  refine (H k (Array.getElem?_eq_some_iff.1 E).1 (fun e=>?_)).trans E;rcases C.2 with⟨rfl,_⟩ | ⟨g,cap,G,rfl,_,I,_⟩
  ·cases e
  ·have:k=g:=by cases e;rfl
   subst this;rw[I] at E;cases E;cases J⟩
theorem jl7 {w:World} {A e B n:Nat} {v:Value} {xs:List Value} (h:w.ownsRow A e B v n xs):∃ a cap,v=.slice a n cap:=by
 rcases h.2 with⟨rfl,rfl⟩ | ⟨g,cap,C,rfl,_⟩
 ·exact⟨none,0,rfl⟩
 ·exact⟨_,cap,rfl⟩
theorem jus (s:jb4) (w:World) (hG:GW w) (h0:¬ s.1.size=0):Calls Tryz.prog 60 #[.string s.1] w (jhx s w):=by
 have az:s.1.toList.isEmpty=false:=by rw[jbr];simp[h0]
 have aA:¬ s.1.toList=[]:=by simpa using az
 refine jay Tryz.func60 rfl ?_;simp only[Tryz.ntmps60,List.size_toArray,List.length_cons,List.length_nil,Nat.reduceAdd,Nat.reduceSub,Array.replicate_succ,Array.replicate_zero,List.push_toArray,List.append_toArray,List.nil_append,List.cons_append];go_wp2_with fail;go_step3;go_wp2_with fail;go_step3;go_wp2_with (go_at_call 105;refine (jlb _ _ _).mono ?_;rintro e w' ⟨rfl,rfl⟩);obtain⟨X,hX,b0,b1,b2,Z,al⟩:=jxg w (.slice none 0 0) 96 (.bool true) 4 (.string ⟨#[]⟩) 9;rw[hX];clear hX;obtain⟨q,af,d0,d1,d2,N,k⟩:=jxg X (.string s.1) 9 (.string ⟨#[59]⟩) 9 (.int .i64 0) 3;rw[af];clear af;rw[al] at d0 d1 d2 k;have z:=jcT N b0.lt b0;have aa:=jcT N b1.lt b1;have ab:=jcT N b2.lt b2;have Y:Bw w q:=Z.trans (N.mono Z.size);clear b0 b1 b2 Z N al;have ao:=hG.below Y
 refine jp5 7 (fun x:jb4=>.string x.1) (gf:=172) (lb:=#[.pointer (some ⟨w.heap.size+3+1,0,none⟩),.pointer (some ⟨w.heap.size+3,0,none⟩),.pointer (some ⟨w.heap.size+3+2,0,none⟩)]) rfl (enters_of Tryz.func172 (by kernel_rfl) rfl)
  (jjk (w.heap.size+3) s q d0 d1 d2) (by omega) jgs (fun W l o o' hl ho hc hw => ?kb) (fun _=>rfl) (jwv w.heap.size w) (jvk w.heap.size w) (jrS (Nat.le_refl _) (by omega)) (jrT (Nat.le_refl _) (by omega))
  ⟨_,[],⟨#[]⟩,z,World.ownsRow_nil _ _ _ _,aa,ab,rfl,Y⟩ ?assign ?body ?done ?stop
 case kb=>exact⟨World.putObj_heap_other (by omega),World.putObj_heap_other (by omega),World.putObj_heap_other (by omega)⟩
 case assign =>
  rintro l x W K hK;simp only[List.zip_toArray,List.zip_cons_cons,List.zip_nil_right,List.size_toArray,List.foldl_toArray',List.foldl_cons,List.foldl_nil,List.setIfInBounds_toArray,List.set_cons_succ,List.set_cons_zero] at hK ⊢;gi_wp2;exact hK
 case body =>
  rintro l n x W ⟨v,B,A,k0,r,t,k3,H,V⟩ aC;simp only[List.zip_toArray,List.zip_cons_cons,List.zip_nil_right,List.size_toArray,List.foldl_toArray',List.foldl_cons,List.foldl_nil,List.setIfInBounds_toArray,List.set_cons_succ,List.set_cons_zero];have hcut:=jvf x.1 W x.2 (hG.below V);have C:Hid (jd7 (n++[x])=jbI x (B,A)):=by rw[jnv,H];rfl
  have aj:=jjM n _ _ (by simp) H;dsimp only at aj;obtain⟨va,vc,rfl⟩:=jl7 r;have am:RB w.heap.size w _ B A W:=⟨k0,r,t,k3,V⟩;have aq:=hG.below V;have ag:=jhX x.1;have aD:=x.2;have G:Hid (∀ b,b=(!(jfp x.1).2.2||(B.length:Int)==4 || !jdH (jfp x.1).1||jfO (jfp x.1).1 A || !jgk (jfp x.1).2.1)->jbI x (B,A)=if b then none else some (B++[⟨(jfp x.1).1,(jfp x.1).2.1⟩],(jfp x.1).1)):=fun b hb=>by subst hb;rfl
  clear k0 r t k3 H d0 d1 d2 z aa ab Y ao;generalize (jfp x.1).1=nm at hcut ag G;generalize (jfp x.1).2.1=pt at hcut ag G;generalize (jfp x.1).2.2=fd at hcut G;have aB:=am.2.2.2.1.lt;gi_wp2_with fail;refine⟨trivial,(CallsIn.inRound l (callsIn_wide.2 hcut)).mono ?_⟩;rintro e w1 ⟨rfl,L⟩;have I:=am.below L;have f:KeepsFrom q.heap.size W w1:=jgZ L (Nat.le_refl _);have au:jfT (w.heap.size+3) W w1:=je0 L (by omega);have ad:=aq.below L;have aE:=L.size;clear hcut L;have z0:=I.1.cell;have u:=I.2.2.1.cell;have z2:=I.2.2.1.frozen;have z3:=I.2.2.2.1.cell;have z4:=I.2.2.2.1.frozen;have z5:=I.1.frozen
  cases fd with
  | false =>
   gi_wp2_with fail
   refine⟨trivial,?_⟩;gi_wp2_with fail;refine⟨trivial,?_⟩;gi_wp2_with fail;exact jeN I f (C.out.trans (G.out true (by simp)))
  | true =>
   by_cases h4:B.length=4
   ·have U:((B.length:Int)==4)=true:=by simp[h4]
    have H4:=Lib.hid U;clear h4;gi_wp2_with fail;refine⟨trivial,?_⟩;gi_wp2_with fail;refine⟨trivial,?_⟩;gi_wp2_with fail;exact jeN I f (C.out.trans (G.out true (by rw[H4.out];simp)))
   ·have U:((B.length:Int)==4)=false:=by rw[beq_eq_false_iff_ne];omega
    have H4:=Lib.hid U;have ah:=jmm nm w1 (by omega) ad;clear h4;gi_wp2_with fail;refine⟨trivial,(CallsIn.inRound l (callsIn_wide.2 ah)).mono ?_⟩;rintro e w2 ⟨rfl,M⟩;have J:=I.below M;have h:KeepsFrom q.heap.size W w2:=f.trans (jgZ M (Nat.le_refl _));have av:jfT (w.heap.size+3) W w2:=jgs au (je0 M (by omega));have ap:=ad.below M;have aF:=M.size;clear ah M z0 u z2 z3 z4 z5;have z0:=J.1.cell;have u:=J.2.2.1.cell;have z2:=J.2.2.1.frozen;have z3:=J.2.2.2.1.cell;have z4:=J.2.2.2.1.frozen;have z5:=J.1.frozen
    cases S:jdH nm with
    | false =>
     have HN:=Lib.hid S;clear S;gi_wp2_with fail;refine⟨trivial,?_⟩;gi_wp2_with fail;exact jeN J h (C.out.trans (G.out true (by rw[HN.out];simp)))
    | true =>
     have HN:=Lib.hid S;clear S
     cases P:jfO nm A with
     | true =>
      have HL:=Lib.hid P;unfold jfO at P;gi_wp2_with fail;refine⟨trivial,?_⟩;gi_wp2_with fail;exact jeN J h (C.out.trans (G.out true (by rw[HL.out];simp)))
     | false =>
      have HL:=Lib.hid P;unfold jfO at P;have ai:=jj0 pt w2 (by omega) ap;gi_wp2_with fail;refine⟨trivial,(CallsIn.inRound l (callsIn_wide.2 ai)).mono ?_⟩;rintro e w3 ⟨rfl,O⟩;have E:=J.below O;have ae:KeepsFrom q.heap.size W w3:=h.trans (jgZ O (Nat.le_refl _));have aw:jfT (w.heap.size+3) W w3:=jgs av (je0 O (by omega));have aG:=O.size;clear ai O z0 u z2 z3 z4 z5 P;have z0:=E.1.cell;have u:=E.2.2.1.cell;have z2:=E.2.2.1.frozen;have z3:=E.2.2.2.1.cell;have z4:=E.2.2.2.1.frozen;have z5:=E.1.frozen
      cases T:jgk pt with
      | false =>
       have HP:=Lib.hid T;clear T;gi_wp2_with fail;exact jeN E ae (C.out.trans (G.out true (by rw[HP.out];simp)))
      | true =>
       have HP:=Lib.hid T;clear T;have m:=Lib.hid (C.out.trans (G.out false (by rw[H4.out,HN.out,HL.out,HP.out];rfl)));obtain⟨g,ac,w4,ay,i,an,aH,F,Q⟩:=jaL Tryz.prog 96 jsu jrc rfl (by decide) E.2.1 E.2.2.2.2 (by omega) (by omega) [.string nm,.string pt] rfl (by simp[Value.oneCell']) (by omega) (by decide);have e0:Boxed w4 w.heap.size 96 _:=(F _ (by omega)).trans E.1;have e1:Boxed w4 (w.heap.size+1) 4 _:=(F _ (by omega)).trans E.2.2.1;have e2:Boxed w4 (w.heap.size+2) 9 _:=(F _ (by omega)).trans E.2.2.2.1;have ax:jfT (w.heap.size+3) w3 w4:=⟨F _ (by omega),F _ (by omega),F _ (by omega)⟩;have ar:KeepsFrom q.heap.size w3 w4:=jsR E.2.1 (by omega) Q;have y0:=e0.cell;have y1:=e0.frozen;have y2:=e2.cell;have y3:=e2.frozen;clear F Q;gi_wp2_with (gi_at_builtin;refine jjl rfl _ _ _ rfl rfl rfl ay ?_);refine⟨(ae.trans ar).trans (((KeepsOthers.setCell _ _ _).from _).trans ((KeepsOthers.setCell _ _ _).from _)),jgs (jgs aw ax) ⟨?_,?_,?_⟩,_,B++[⟨nm,pt⟩],nm,(e0.set _).other (by omega) _,?_,(e1.other (by omega) _).other (by omega) _,(e2.other (by omega) _).set _,by simpa using m.out,(an.setCell (p:=⟨w.heap.size,0,none⟩) (Nat.le_refl _) _).setCell (p:=⟨w.heap.size+1+1,0,none⟩) (by show w.heap.size<=w.heap.size+1+1;omega) _⟩
       ·exact (Below.heap_setCell _ _ _ _ (by show w.heap.size+3≠w.heap.size+1+1;omega)).trans (Below.heap_setCell _ _ _ _ (by show w.heap.size+3≠w.heap.size;omega))
       ·exact (Below.heap_setCell _ _ _ _ (by show w.heap.size+3+1≠w.heap.size+1+1;omega)).trans (Below.heap_setCell _ _ _ _ (by show w.heap.size+3+1≠w.heap.size;omega))
       ·exact (Below.heap_setCell _ _ _ _ (by show w.heap.size+3+2≠w.heap.size+1+1;omega)).trans (Below.heap_setCell _ _ _ _ (by show w.heap.size+3+2≠w.heap.size;omega))
       ·have hq:=ownsRow_setCell_below (ownsRow_setCell_below i (a:=⟨w.heap.size,0,none⟩) (by show w.heap.size<_;omega) (.slice (some ⟨g,0,none⟩) (B.length+1) ac)) (a:=⟨w.heap.size+1+1,0,none⟩) (by show w.heap.size+1+1<_;omega) (.string nm)
        simpa [Term.enc] using hq
 case done =>
  rintro D W hD ⟨v,B,A,k0,r,t,k3,H,V⟩ hK;obtain⟨va,vc,rfl⟩:=jl7 r;have z0:=k0.cell;have u:=t.cell;have d:w.heap.size<=D:=by omega
  have R:jfq s=some B:=by simp[jfq,h0,H]
  have y:=Lib.hid R;have j:=jgy V d hK;have ak:=ownsRow_putObj r (.deferred none) hK rfl;clear k R H;go_wp2_with fail;rw[Exit.noGoto_ret];refine jaX hK (results_tmp2 rfl _ _ _) ⟨va,B.length,vc,by rw[y.out];rfl,?_,j⟩;rw[y.out];exact je4 ak
 case stop =>
  rintro D c n W hD hp ⟨t,⟨rfl,H⟩,V⟩ hK;have u:=t.cell;have d:w.heap.size<=D:=by omega
  have R:jfq s=none:=by simp[jfq,h0,jkH _ _ hp H]
  have y:=Lib.hid R;have j:=jgy V d hK;clear k R H;go_wp2_with fail;rw[Exit.noGoto_ret];exact jaX hK (results_tmp2 rfl _ _ _) ⟨none,0,0,by rw[y.out];rfl,by rw[y.out];exact .inl ⟨rfl,rfl,rfl⟩,j⟩
theorem jox (s:jb4) (w:World) (E:GW w):Calls Tryz.prog 60 #[.string s.1] w (jhx s w):=by
 by_cases B:s.1.size=0
 ·have C:s.1.toList.isEmpty=true:=by rw[jbr];simp[B]
  have F:s.1.toList=[]:=by simpa using C
  have A:jfq s=some []:=by simp[jfq,B]
  have D:=Lib.hid A;clear A B;refine jay Tryz.func60 rfl ?_;simp only[Tryz.ntmps60,List.size_toArray,List.length_cons,List.length_nil,Nat.reduceAdd,Nat.reduceSub,Array.replicate_succ,Array.replicate_zero,List.push_toArray,List.append_toArray,List.nil_append,List.cons_append];go_wp2_with fail;go_step3;go_wp2_with fail;rw[Exit.noGoto_ret];exact jck (results_tmp2 rfl _ _ _) rfl ⟨none,0,0,by rw[D.out];rfl,by rw[D.out];exact .inl ⟨rfl,rfl,rfl⟩,Below.refl _ _⟩
 ·exact jus s w E B
def jdy (s:jb4):Bool:=(jfq s).isSome
theorem jnF (s:jb4) (w:World) (B:GW w):CR 28 #[.string s.1] w (.bool (jdy s)):=by
 have hr:=jox s w B;go_enter Tryz.func28,Tryz.ntmps28;go_wp2_with (go_at_call 60;refine hr.mono ?_;rintro e C ⟨a,len,cap,rfl,-,A⟩);go_ret;exact⟨rfl,A⟩
end
section
open Go.Shelf
theorem jpX (A:List Term) (j:Nat) (x:Term) (h:A[j]? = some x):(A.flatMap Term.enc)[j*2]? = some (.string x.name)/\(A.flatMap Term.enc)[j*2+1]? = some (.string x.pat):=by
 induction A generalizing j with
 | nil=>simp at h
 | cons y ys ih =>
  cases j with
  | zero=>simp at h;subst h;simp[Term.enc]
  | succ j =>
   have:=ih j (by simpa using h);rw[show (j+1)*2=j*2+2 by omega];simp only[List.flatMap_cons,Term.enc,List.cons_append,List.nil_append,List.getElem?_cons_succ];exact this
theorem jse (A:List Term):(A.flatMap Term.enc).length=A.length*2:=by
 induction A with
 | nil=>rfl
 | cons y ys ih=>simp[List.flatMap_cons,Term.enc,ih];omega
theorem TermsAt.cells {F:Nat} {w:World} {a:Option Addr} {len cap:Nat} {A:List Term} (h:TermsAt F w (.slice a len cap) A):len=A.length/\∀ j x,A[j]? = some x ->
  ∃ b off,a=some ⟨b,off,none⟩/\b<F/\w.cell? ⟨b,off+j*2,none⟩=some (.string x.name)/\w.cell? ⟨b,off+j*2+1,none⟩=some (.string x.pat):=by
 rcases h with⟨h,G,_⟩ | ⟨b,off,B,e,H,D⟩
 ·obtain⟨rfl,rfl,rfl⟩:a=none/\len=0/\cap=0:=by simpa using h
  have:A=[]:=by simpa using G
  subst this;exact⟨rfl,fun i x C=>by simp at C⟩
 ·obtain⟨rfl,rfl,rfl⟩:a=some ⟨b,off,none⟩/\len=A.length/\cap=B:=by simpa using e
  refine⟨rfl,fun j x C=>⟨b,off,rfl,H,?_⟩⟩;have I:=(List.getElem?_eq_some_iff.1 C).1;have E:=jpX A j x C;rw[jse] at D;exact⟨(D (j*2) (by omega)).trans E.1,(D (j*2+1) (by omega)).trans E.2⟩
theorem juS {α:Type} (l:List α) (f:α->Bool) (k:Nat) (x:α) (h:l.take (k+1)=l.take k++[x]) (B:f x=false):l.all f=false:=by
 have A:=List.take_append_drop (k+1) l;rw[<- A,List.all_append,h,List.all_append,List.all_cons,B];simp
theorem jvm {α:Type} (l:List α) (f:α->Bool) (k:Nat) (x:α) (h:l.take (k+1)=l.take k++[x]) (A:f x=true) (ht:(l.take k).all f=true):(l.take (k+1)).all f=true:=by
 rw[h,List.all_append,ht,List.all_cons,A];rfl
def jdB (ls:List Lab) (t:Term):Bool:=match ja5 ls t.name with
 | none=>false
 | some v=>jdM t.pat v
def jbM (s:jb4) (ls:List Lab):Bool × Int:=match jfq s with
 | none=>(false,50)
 | some ts=>if jal ls then (ts.all (jdB ls),0) else (false,50)
theorem jmd (l:List jb4):∀ (A B:List Term × ByteArray),(∀ t∈A.1,t.name.size<4294967281/\t.pat.size<4294967281)->l.foldl (fun B x=>B.bind (jbI x)) (some A)=some B->∀ t∈B.1,t.name.size<4294967281/\t.pat.size<4294967281:=by
 induction l with
 | nil=>intro A B D h;cases h;exact D
 | cons x xs ih =>
  intro A B D h;simp only[List.foldl_cons,Option.bind_some] at h
  cases C:jbI x A with
  | none=>rw[C,jdX] at h;cases h
  | some st1 =>
   rw[C] at h;refine ih st1 B ?_ h;unfold jbI at C;split at C
   ·cases C
   ·cases C
    intro t ht;simp only[List.mem_append,List.mem_singleton] at ht;rcases ht with ht | rfl
    ·exact D t ht
    ·have:=jhX x.1;have:=x.2;exact⟨by dsimp only;omega,by dsimp only;omega⟩
theorem jnu (s:jb4) (A:List Term) (h:jfq s=some A):A.length<=4/\∀ t∈A,t.name.size<4294967281/\t.pat.size<4294967281:=by
 unfold jfq at h;split at h
 ·cases h;simp
 ·cases hr:jd7 (jbC s) with
  | none=>rw[hr] at h;cases h
  | some st =>
   rw[hr] at h
   cases h
   exact⟨jjM _ _ _ (by simp) hr,jmd _ _ _ (by simp) hr⟩
theorem jig:∀ (A:List ji3) (n v:ByteArray),ja5 (A.map (·.1)) n=some v->v.size<4294967281
 | [],_,_,h=>by simp[ja5] at h
 | x::xs,n,v,h=>by
  simp only[List.map_cons,ja5] at h;split at h
  ·cases h;exact x.2.2
  ·exact jig xs n v h
theorem jqb (s:jb4) (o:Option Addr) (cap:Nat) (B:List ji3) (w:World) (hL:Labs w.heap.size w (.slice o B.length cap) (B.map (·.1))) (z:GW w) (h3:B.length<4294967281) :
  CR 29 #[.string s.1,.slice o B.length cap] w (.tuple #[.bool (jbM s (B.map (·.1))).1,.int .i64 (jbM s (B.map (·.1))).2]):=by
 have hr:=jox s w z
 cases D:jfq s with
 | none =>
  have V:=Lib.hid D;unfold jhx at hr;rw[D] at hr;clear D;go_enter Tryz.func29,Tryz.ntmps29;go_wp2_with (go_at_call 60;refine hr.mono ?_;rintro e t ⟨a,len,cap,rfl,-,A⟩);go_ret2;exact⟨by simp[jbM,V.out],A⟩
 | some ts =>
  obtain⟨ai,g⟩:=jnu s ts D;have V:=Lib.hid D;have HZ:=Lib.hid g;unfold jhx at hr;rw[D] at hr;clear D g;go_enter Tryz.func29,Tryz.ntmps29;go_wp2_with (go_at_call 60;refine hr.mono ?_;rintro e t ⟨a,len,ae,rfl,U,A⟩);have f:=jbA o cap B t ((SlAt.below A hL).mono A.size) (z.below A) h3;simp only[Option.getD_some] at U;clear hr;refine f.mono ?_;rintro e m ⟨rfl,F⟩;clear f;obtain⟨d,-⟩:=U.cells;subst d
  cases L:jal (B.map (·.1)) with
  | false =>
   have Y:=Lib.hid L;clear L;go_wp2_with fail;go_ret2;exact⟨by simp only[jbM,V.out,Y.out];rfl,A.trans (F.mono A.size)⟩
  | true =>
   have Y:=Lib.hid L;clear L;go_wp2_with fail;have N:=A.size;have h:=F.size;have J:TermsAt t.heap.size m _ ts:=SlAt.below F U;have R:Labs w.heap.size m _ _:=SlAt.below (A.trans (F.mono N)) hL;have aa:=(z.below A).below F;have H:=A.trans (F.mono N);go_loopw [26] (fun i wr=>∃ k:Nat,i=.int .i64 k/\k<=ts.length/\Bw m wr/\Hid ((ts.take k).all (jdB (B.map (·.1)))=true)) (fun i _=>ts.length-(intOf i).toNat)
   case atStart=>exact⟨0,rfl,Nat.zero_le _,Below.refl _ _,rfl⟩
   case round =>
    obtain⟨k,rfl,hk,q,HA⟩:=hrel;have j:=q.size;by_cases ab:k<ts.length
    ·obtain⟨x,r⟩:∃ x,ts[k]? = some x:=⟨_,List.getElem?_eq_getElem ab⟩
     have l:TermsAt t.heap.size wr _ ts:=SlAt.below (q.mono h) J;obtain⟨b,off,rfl,af,ag,ah⟩:=l.cells.2 k x r;have M:x∈ts:=List.mem_of_getElem? r;obtain⟨aj,ad⟩:=HZ.out x M;have y:Hid (ts.take (k+1)=ts.take k++[x]):=by rw[Hid,List.take_add_one,r];rfl
     have Q:Bw m (wr.alloc (.cells #[.string x.name,.string x.pat] 101)):=q.alloc j _;have C:=jkt o cap B x.name _ ((SlAt.below (Q.mono (by omega)) R).mono (by simp;omega)) h3;have Z:=cCc (World.alloc_heap_new wr (.cells #[.string x.name,.string x.pat] 101)) 1;clear r l J R M
     cases T:ja5 (B.map (·.1)) x.name with
     | none =>
      have n:Hid (jdB (B.map (·.1)) x=false):=by simp only[Hid,jdB,T]
      rw[T] at C;clear T;go_wp2_with (go_at_call 62;refine C.mono ?_;rintro e u ⟨rfl,I⟩);go_ret2;refine⟨?_,H.trans ((Q.trans (I.mono (by simp;omega))).mono (by omega))⟩;have c:=juS ts (jdB (B.map (·.1))) k x y.out n.out;simp only[jbM,V.out,Y.out,c];rfl
     | some v =>
      have ac:=jig B x.name v T;have n:Hid (jdB (B.map (·.1)) x=jdM x.pat v):=by simp only[Hid,jdB,T]
      rw[T] at C;clear T;go_wp2_with fail;refine C.mono ?_;rintro e u ⟨rfl,I⟩;have O:(wr.alloc (.cells #[.string x.name,.string x.pat] 101)).heap.size=wr.heap.size+1:=by simp
      rw[O] at I;have d1:u.cell? ⟨wr.heap.size,1,none⟩=some (.string x.pat):=(I.cell (p:=⟨wr.heap.size,1,none⟩) (Nat.lt_succ_self _)).trans Z;have G:Bw m u:=Q.trans (I.mono (by omega));have E:=jsN x.pat v u ad ac (aa.below G);clear C O Z
      cases X:jdM x.pat v with
      | false =>
       rw[X] at E;have P:Hid (jdB (B.map (·.1)) x=false):=by rw[Hid,n.out,X]
       clear X;go_wp2_with (go_at_call 63;refine E.mono ?_;rintro e w5 ⟨rfl,S⟩);go_ret2;have c:=juS ts (jdB (B.map (·.1))) k x y.out P.out;refine⟨?_,H.trans ((G.trans (S.mono G.size)).mono (by omega))⟩;simp only[jbM,V.out,Y.out,c];rfl
      | true =>
       rw[X] at E;have P:Hid (jdB (B.map (·.1)) x=true):=by rw[Hid,n.out,X]
       clear X;go_wp2_with (go_at_call 63;refine E.mono ?_;rintro e w5 ⟨rfl,S⟩);go_roundw
       case rel=>exact⟨k+1,by go_num,by omega,G.trans (S.mono G.size),jvm ts _ k x y.out P.out HA.out⟩
       case measure=>simp[intOf];omega
    ·obtain rfl:k=ts.length:=by omega
     clear J R;go_wp2_with fail;go_ret2;have c:ts.all (jdB (B.map (·.1)))=true:=by have:=HA.out;rwa [List.take_length] at this
     exact⟨by simp only[jbM,V.out,Y.out,c];rfl,H.trans (q.mono (by omega))⟩
end
theorem jcb (l:List UInt8) (n k:Nat) (h:k<n):(l.take n).getD k 0=l.getD k 0:=by
 rw[List.getD_eq_getElem?_getD,List.getD_eq_getElem?_getD,List.getElem?_take_of_lt h]
theorem jhY (l:List UInt8) (C:l≠[]) (D:jfo l=false):Lib.decodeL (l.take (Lib.decodeL l).2)=Lib.decodeL l:=by
 have F:=(jkU l C D).2.1;have A:¬ ((Lib.decodeL l).1=65533/\(Lib.decodeL l).2=1):=by rw[<- jhA,D];decide
 have E:(l.take (Lib.decodeL l).2).length=(Lib.decodeL l).2:=by rw[List.length_take];omega
 rw[Lib.decodeL_N (l.take _),E];rw[Lib.decodeL_N] at A ⊢;rcases Lib.decodeN_shape l.length (l.getD 0 0).toNat (l.getD 1 0).toNat (l.getD 2 0).toNat (l.getD 3 0).toNat with⟨c,e⟩ | ⟨c1,c2,c3,B,e⟩ | ⟨c1,c2,c3,c4,B,G,e⟩ | ⟨c1,c2,c3,c4,c5,B,H,e⟩ | e
 ·rw[e]
  dsimp only;rw[jcb l 1 0 (by omega)];unfold Lib.decodeN;rw[if_pos c]
 ·rw[e]
  dsimp only;rw[jcb l 2 0 (by omega),jcb l 2 1 (by omega)];unfold Lib.decodeN;rw[if_neg (by omega),if_pos ⟨c1,by omega,c3⟩,if_pos B]
 ·rw[e]
  dsimp only;rw[jcb l 3 0 (by omega),jcb l 3 1 (by omega),jcb l 3 2 (by omega)];unfold Lib.decodeN;rw[if_neg (by omega),if_neg (by omega),if_pos ⟨c1,⟨by omega,c3⟩,by omega,c4⟩,if_pos ⟨B,by omega⟩]
 ·rw[e]
  dsimp only;rw[jcb l 4 0 (by omega),jcb l 4 1 (by omega),jcb l 4 2 (by omega),jcb l 4 3 (by omega)];unfold Lib.decodeN;rw[if_neg (by omega),if_neg (by omega),if_neg (by omega),if_pos ⟨c1,⟨by omega,c3⟩,⟨by omega,c4⟩,by omega,c5⟩,if_pos ⟨B,by omega⟩]
 ·rw[e] at A
  exact absurd ⟨rfl,rfl⟩ A
def jej (l:List UInt8):List UInt8:=l.take (Lib.decodeL l).2
theorem jlF (l:List UInt8) (A:l≠[]) (B:jfo l=false):jej l=Lib.encodeRune ((Lib.decodeL l).1:Int):=(Lib.encode_decode l A (by rw[<- jhA,B];decide)).symm
theorem jlG (l m:List UInt8) (D:l≠[]) (E:m≠[]) (A:jfo l=false) (B:jfo m=false):jej l=jej m↔(Lib.decodeL l).1=(Lib.decodeL m).1:=by
 constructor
 ·intro h
  have C:=jhY l D A;have F:=jhY m E B;unfold jej at h;rw[h] at C;rw[<- C,F]
 ·intro h
  rw[jlF l D A,jlF m E B,h]
theorem jm7 (l:List UInt8) (C:l≠[]) (B:jfo l=false) (b:UInt8) (h:b.toNat<128):jej l=[b]↔(Lib.decodeL l).1=b.toNat:=by
 have e:Lib.decodeL [b]=(b.toNat,1):=by
  rcases jdY [b] with⟨-,e⟩ | ⟨e,-⟩ | ⟨e,-⟩
  ·exact e
  ·exact absurd e (by show ¬ 128<=b.toNat;omega)
  ·exact absurd e (by show ¬ 128<=b.toNat;omega)
 have A:jfo [b]=false:=by
  unfold jfo;rw[e,Bool.and_eq_false_iff];left;exact beq_eq_false_iff_ne.2 (by show b.toNat≠65533;omega)
 have:=jlG l [b] C (by simp) B A;rw[e] at this;unfold jej at this;rw[e] at this;exact this
def joG (s:ByteArray) (pos:Nat):List (List UInt8):=(rl s pos).map fun p=>jej (s.data.toList.drop p.1)
theorem jmB (s:ByteArray) (A:Nat) (h:A<s.size):joG s A=jej (s.data.toList.drop A)::joG s (A+(Lib.decodeL (s.data.toList.drop A)).2):=by
 unfold joG;rw[jeX s A h,List.map_cons,Lib.decodeL_drop]
theorem jk2 (s:ByteArray) (A:Nat) (h:¬ A<s.size):joG s A=[]:=by
 unfold joG;rw[jgr s A h];rfl
theorem joH (s:ByteArray) (A:Nat):(joG s A).length=(rl s A).length:=by unfold joG;rw[List.length_map]
theorem jpY (s:ByteArray):∀ (k A:Nat),s.size-A<=k->jgo s A=true->∀ i:Nat,∀ t,(joG s A)[i]? = some t->∃ l:List UInt8,l≠[]/\jfo l=false/\t=jej l/\(jaJ s A)[i]? = some ((Lib.decodeL l).1:Int):=by
 intro k
 induction k with
 | zero =>
  intro A F _ i t ht;rw[jk2 s A (by omega)] at ht
  cases ht
 | succ k ih =>
  intro A F B i t ht;by_cases D:A<s.size
  ·rw[jiq s A D,Bool.and_eq_true] at B
   obtain⟨E,B⟩:=B;have E:jfo (s.data.toList.drop A)=false:=by simpa using E
   have C:s.data.toList.drop A≠[]:=by
    intro e;have:=jke s A;rw[e] at this;exact absurd this (by simp;omega)
   obtain⟨G,-,-⟩:=jkU _ C E;rw[jmB s A D] at ht;rw[jfJ s A D,<- Lib.decodeL_drop]
   cases i with
   | zero =>
    injection ht with ht
    exact⟨_,C,E,ht.symm,rfl⟩
   | succ i=>exact ih _ (by omega) B i t ht
  ·rw[jk2 s A D] at ht
   cases ht
def jcz (p:ByteArray):Bool:=(if jav p then !(jar false (jaJ p 0)).2 else true)&&jcH p
theorem jjO {p:ByteArray} (h:jcH p=true):jav p=true:=by
 unfold jcH jal jdF jbc at h;simp only[Bool.and_eq_true] at h;exact h.2.1.2.1.1
theorem jid (p:ByteArray):jcz p=jgk p:=by
 unfold jcz jgk jbY
 cases h:jcH p
 ·simp
 ·rw[jjO h]
  cases (jar false (jaJ p 0)).2<;>simp
def jbo (s:ByteArray):ByteArray × ByteArray:=if (jfp s).2.2 then ((jfp s).1,(jfp s).2.1) else (⟨#[]⟩,⟨#[]⟩)
def jp7:ByteArray->List jb4->Bool
 | _,[]=>true
 | last,x::xs=>jdH (jbo x.1).1&&jcz (jbo x.1).2 && !decide (0<=jdi last.data.toList (jbo x.1).1.data.toList)&&jp7 (jbo x.1).1 xs
def jce (s:jb4):Bool:=s.1.size==0||(jp7 (⟨#[]⟩:ByteArray) (jbC s)&&decide ((jbC s).length<=4))
theorem jnD:jdH (⟨#[]⟩:ByteArray)=false:=by
 unfold jdH jal jdF jbQ;rfl
theorem jnw (x:jb4) (A:List Term) (B:ByteArray):jbI x (A,B)=if jdH (jbo x.1).1&&jcz (jbo x.1).2 && !decide (0<=jdi B.data.toList (jbo x.1).1.data.toList)&&decide (A.length≠4) then some (A++[⟨(jbo x.1).1,(jbo x.1).2⟩],(jbo x.1).1) else none:=by
 unfold jbI jbo
 cases h:(jfp x.1).2.2
 ·simp[jnD]
 ·simp only[if_true,Bool.not_true,Bool.false_or]
  rw[jid,joo];unfold jfO;rw[Lib.toList_data,Lib.toList_data]
  have e:((A.length:Int)==4) = !decide (A.length≠4):=by
   by_cases C:A.length=4
   ·rw[C];rfl
   ·rw[decide_eq_true C,beq_eq_false_iff_ne.2 (by omega)];rfl
  rw[e];generalize decide (A.length≠4)=b1;generalize jdH (jfp x.1).1=b2;generalize jgk (jfp x.1).2.1=b3;generalize (Op.bytesLess (jfp x.1).1.data.toList B.data.toList||(jfp x.1).1.data.toList==B.data.toList)=b4
  cases b1<;>cases b2<;>cases b3<;>cases b4<;>rfl
theorem jwY (l:List jb4):∀ (A:List Term) (B:ByteArray),A.length<=4->(l.foldl (fun F x=>F.bind (jbI x)) (some (A,B))).map (·.1)=if jp7 B l&&decide (A.length+l.length<=4) then some (A++l.map fun x=>⟨(jbo x.1).1,(jbo x.1).2⟩) else none:=by
 induction l with
 | nil=>intro A B h;simp[jp7,h]
 | cons x xs ih =>
  intro A B h;rw[List.foldl_cons,Option.bind_some,jnw];unfold jp7;by_cases E:(jdH (jbo x.1).1&&jcz (jbo x.1).2 && !decide (0<=jdi B.data.toList (jbo x.1).1.data.toList))=true
  ·rw[E,Bool.true_and,Bool.true_and]
   by_cases D:A.length=4
   ·rw[if_neg (by simp[D]),jdX,if_neg]
    ·rfl
    ·simp only[Bool.and_eq_true,decide_eq_true_iff,List.length_cons];omega
   ·rw[if_pos (by simp[D]),ih _ _ (by simp;omega)]
    have e:decide ((A++[(⟨(jbo x.1).1,(jbo x.1).2⟩:Term)]).length+xs.length<=4)=decide (A.length+(x::xs).length<=4):=decide_eq_decide.2 (by simp;omega);rw[e];simp
  ·have C:=Bool.eq_false_iff.2 E
   rw[C,Bool.false_and,Bool.false_and,Bool.false_and,if_neg (by decide),if_neg (by decide),jdX];rfl
theorem jnt (s:jb4):jfq s=if jce s then some (if s.1.size==0 then [] else (jbC s).map fun x=>⟨(jbo x.1).1,(jbo x.1).2⟩) else none:=by
 unfold jfq jce
 cases h:(s.1.size==0)
 ·rw[if_neg (by decide),Bool.false_or]
  unfold jd7;rw[jwY _ _ _ (by simp)];simp only[List.length_nil,Nat.zero_add,List.nil_append,Bool.false_eq_true,if_false]
 ·rfl
section
open Go.Shelf
def GrowT (W:World) (base:Nat) (v:Value) (l:List ByteArray):Prop:=W.ownsRow base 9 1 v l.length (l.map Value.string)
theorem GrowT.push {W F:World} {B A:Nat} {v:Value} {l:List ByteArray} (h:GrowT W A v l) (M:Below B F W) (E:B<=A) (C:A<=W.heap.size) (N:l.length<4294967281) (x:ByteArray) :
  ∃ g cap D,(Builtin.append_ #[106,106] 106 #[v,.slice (some ⟨W.heap.size,0,none⟩) 1 1]).run Tryz.prog (W.alloc (.cells #[.string x] 9))=.ok (.slice (some ⟨g,0,none⟩) (l.length+1) cap) D /\
   GrowT D A (.slice (some ⟨g,0,none⟩) (l.length+1) cap) (l++[x])/\Below B F D/\W.heap.size<D.heap.size/\(∀ k,k<A->D.heap[k]? = W.heap[k]?):=by
 obtain⟨g,cap,D,G,H,I,J,L,-⟩:=jaL Tryz.prog 106 jhG jhC rfl (by decide) (W:=W) h M E C [.string x] rfl (by simp[Value.oneCell']) N (by decide);refine⟨g,cap,D,G,?_,I,J,L⟩;unfold GrowT;rw[List.length_append,List.map_append];exact H
theorem jvC (l:List ByteArray):l.flatMap jf6=l.map Value.string:=by
 induction l with
 | nil=>rfl
 | cons x xs ih=>rw[List.flatMap_cons,ih];rfl
theorem GrowT.slC {W:World} {A:Nat} {v:Value} {l:List ByteArray} (h:GrowT W A v l):∃ a cap,v=.slice a l.length cap/\SlC jf6 1 W.heap.size W a l.length cap l:=by
 have B:W.ownsRow A 9 1 v l.length (l.flatMap jf6):=by rw[jvC];exact h
 obtain⟨a,cap,D,C,-⟩:=jaz (enc:=jf6) (fun _=>rfl) B;exact⟨a,cap,D,C⟩
theorem GrowT.form {W:World} {A:Nat} {v:Value} {l:List ByteArray} (h:GrowT W A v l):∃ a cap,v=.slice a l.length cap:=jjJ h
theorem GrowT.go {A B:World} {C:Nat} {v:Value} {l:List ByteArray} (h:GrowT A C v l) (D:Bw A B):GrowT B C v l:=jgq h D
def jey (s:ByteArray):List (List UInt8):=if jav s then joG s 0 else []
def jec (s:ByteArray) (w:World) (e:Ending) (w':World):Prop :=
 ∃ a cap,∃ l:List ByteArray,e=.returned (.tuple #[.slice a l.length cap,.bool (jav s)])/\l.map (·.data.toList)=jey s/\SlC jf6 1 w'.heap.size w' a l.length cap l/\Bw w w'
theorem jeg (s:ByteArray) (A:Nat):(s.extract A s.size).data.toList=s.data.toList.drop A:=by
 rw[ByteArray.data_extract,Array.toList_extract,List.extract_eq_take_drop];exact List.take_of_length_le (by rw[List.length_drop,Array.length_toList];exact Nat.le_refl _)
theorem jqO (s:ByteArray) (A n:Nat):(s.extract A s.size).extract n (s.extract A s.size).size=s.extract (A+n) s.size:=by
 apply ByteArray.ext;apply Array.ext';rw[jeg,jeg,jeg,List.drop_drop]
theorem jod (s:ByteArray) (A n:Nat):((s.extract A s.size).extract 0 n).data.toList=(s.data.toList.drop A).take n:=by
 rw[ByteArray.data_extract,Array.toList_extract,List.extract_eq_take_drop,List.drop_zero,Nat.sub_zero,jeg]
attribute [-go_sem] Builtin.append_
theorem jcQ (s:ByteArray) (w:World) (hs:s.size<4294967281) :
  Calls Tryz.prog 122 #[.string s] w (jec s w):=by
 have j:Hid (jav s=jgo s 0):=rfl;have Z:Hid (jey s=if jav s then joG s 0 else []):=rfl;have H:∀ e w',jec s w e w'=∃ a cap,∃ l:List ByteArray,e=.returned (.tuple #[.slice a l.length cap,.bool (jav s)])/\l.map (·.data.toList)=jey s/\SlC jf6 1 w'.heap.size w' a l.length cap l/\Bw w w':=fun _ _=>rfl
 have H:=Lib.hid H;generalize jec s w=Q at H ⊢;generalize jav s=R at j Z H;generalize jey s=T at Z H;have h:GrowT w w.heap.size (.slice none 0 0) []:=⟨rfl,.inl ⟨rfl,rfl⟩⟩;go_enter Tryz.func122,Tryz.ntmps122;go_wp2_with fail;go_loopw [0,4] (fun i v wr=>∃ (A:Nat) (done:List ByteArray),i=.string (s.extract A s.size)/\A<=s.size/\Bw w wr/\Hid (GrowT wr w.heap.size v done/\done.length<=A/\R=jgo s A/\joG s 0=done.map (·.data.toList)++joG s A)) (fun i _ _=>match i with | .string t=>t.size | _=>0)
 case atStart=>exact⟨0,[],by rw[ByteArray.extract_zero_size],Nat.zero_le _,Below.refl _ _,h,Nat.le_refl _,j.out,rfl⟩
 case round =>
  obtain⟨A,done,rfl,k,O,E⟩:=hrel;obtain⟨x,y,rfl⟩:=E.out.1.form;have X:(s.extract A s.size).size=s.size-A:=by rw[ByteArray.size_extract,Nat.min_self]
  have N:=Lib.hid (jeg s A);have L:=Lib.hid (jqO s A);have M:=Lib.hid (jod s A);generalize s.extract A s.size=t at X N L M ⊢;by_cases G:A<s.size
  ·have p:0<t.size:=by omega
   have o:t.toList.isEmpty=false:=by rw[jbr,beq_eq_false_iff_ne];omega
   have B:=jjc t wr p (by omega);rw[N.out] at B;have C:=jiq s A G;have V:s.data.toList.drop A≠[]:=by intro e;have:=jke s A;rw[e] at this;exact absurd this (by simp;omega)
   have Y:=Lib.hid (jkU _ V);have D:=jmB s A G;have U:=jke s A;unfold joM at B;unfold jej at D;generalize (Lib.decodeL (s.data.toList.drop A)).2=d at B Y C D
   cases S:jfo (s.data.toList.drop A) with
   | true =>
    rw[S] at B C;simp only[if_true] at B;have I:Hid (R=false):=by rw[Hid,E.out.2.2.1,C];rfl
    clear Y C D S;go_wp2_with (go_at_call 157;refine B.mono ?_;rintro e w' ⟨rfl,F⟩);rw[H.out];exact⟨none,0,[],by rw[I.out];rfl,by rw[Z.out,I.out];rfl,SlC.nil,O.trans (F.mono O.size)⟩
   | false =>
    rw[S] at B C;simp only[Bool.false_eq_true,if_false] at B;obtain⟨z1,z,-⟩:=Y.out S;rw[U] at z;have e2:((d:Int)==0)=false:=by rw[beq_eq_false_iff_ne];omega
    have b:Hid (R=jgo s (A+d)):=by rw[Hid,E.out.2.2.1,C];rfl
    have m:=Lib.hid D;have i1:(d:Int)<=(t.size:Int):=by omega
    have i2:(0:Int)<=(d:Int):=by omega
    clear Y C D S V U;go_wp2_with (go_at_call 157;refine B.mono ?_;rintro e w' ⟨rfl,F⟩;have J:=Lib.hid (O.trans (F.mono O.size));obtain⟨g,cap,w5,r,P,f,u,-⟩:=(E.out.1.go F).push J.out (Nat.le_refl _) J.out.size (by have:=E.out.2.1;omega) (t.extract 0 d);have c:=Lib.hid P;clear P);go_roundw
    case rel =>
     refine⟨A+d,done++[t.extract 0 d],by rw[<- X,L.out],by omega,f,?_,by rw[List.length_append];have:=E.out.2.1;simp;omega,b.out,?_⟩
     ·exact c.out
     ·rw[E.out.2.2.2,m.out,List.map_append,List.append_assoc]
      show _=_++([(t.extract 0 d).data.toList]++_);rw[M.out];rfl
    case measure =>
     show (t.extract d (s.size-A)).size<t.size;rw[ByteArray.size_extract];omega
  ·have h9:A=s.size:=by omega
   have o:t.toList.isEmpty=true:=by rw[jbr,beq_iff_eq];omega
   have I:Hid (R=true):=by rw[Hid,E.out.2.2.1,jpB s A G]
   have b:Hid (joG s 0=done.map (·.data.toList)):=by rw[Hid,E.out.2.2.2,jk2 s A G,List.append_nil]
   go_wp2_with fail;rw[H.out];obtain⟨a',c',n,q⟩:=E.out.1.slC
   cases n
   exact⟨x,y,done,by rw[I.out];rfl,by rw[Z.out,I.out,b.out];rfl,q,O⟩
theorem jrm (s:ByteArray):((jey s).length:Int)=jcW s:=by
 unfold jey jcW
 cases jav s
 ·rfl
 ·rw[if_pos rfl,if_pos rfl,joH]
theorem jit (s:ByteArray) (w:World) (E:s.size<4294967281) :
  CR 154 #[.string s] w (.tuple #[.int .i64 (jcW s),.bool (jav s)]):=by
 have B:=jcQ s w E;have D:=jrm s;go_enter Tryz.func154,Tryz.ntmps154;go_wp2_with (go_at_call 122;refine B.mono ?_;rintro e w' ⟨a,cap,l,rfl,C,-,A⟩);go_ret2;have e:(l.length:Int)=jcW s:=by rw[<- D,<- C,List.length_map]
 exact⟨by rw[<- e];rfl,A⟩
theorem jgM (s:ByteArray) (w:World) (P:s.size<4294967281) :
  CR 116 #[.string s] w (.bool (jbx s)):=by
 have I:Hid (jbx s=((s.data.toList.drop 0).all jch&&(jav s&&decide ((rl s 0).length<=24)))):=rfl;have C:∀ w,_:=fun w=>jit s w P
 have D:Hid (jav s=true->jcW s=((rl s 0).length:Int)):=fun h=>by unfold jcW;rw[if_pos h]
 generalize jbx s=R at I ⊢;generalize jcW s=n at C D;generalize jav s=b at C D I;have G:=Lib.hid C;clear C;go_enter Tryz.func116,Tryz.ntmps116;go_wp2_with fail;go_loopw [3] (fun i wr=>∃ (k:Nat),i=.int .i64 k/\k<=s.size/\Bw w wr/\Hid (R=((s.data.toList.drop k).all jch&&(b&&decide ((rl s 0).length<=24))))) (fun i _=>s.size-(intOf i).toNat)
 case atStart=>exact⟨0,rfl,Nat.zero_le _,Below.refl _ _,I⟩
 case round =>
  obtain⟨k,rfl,S,E,H⟩:=hrel;by_cases A:k<s.size
  ·have J:=Lib.hid (juR jch s k A)
   have T:=UInt8.toNat_lt (s[k]'A);by_cases Q:(s[k]'A).toNat<32
   ·have B:Hid (R=false):=by rw[Hid,H.out,J.out,show jch (s[k]'A)=false by unfold jch;simp;omega];rfl
    go_wp2_with fail;go_ret;exact⟨by rw[B.out];rfl,E⟩
   ·by_cases O:(s[k]'A).toNat=127
    ·have B:Hid (R=false):=by rw[Hid,H.out,J.out,show jch (s[k]'A)=false by unfold jch;rw[O];rfl];rfl
     have N:(((s[k]'A).toNat:Int)==127)=true:=by rw[beq_iff_eq];omega
     go_wp2_with fail;go_ret;exact⟨by rw[B.out];rfl,E⟩
    ·have B:Hid (R=((s.data.toList.drop (k+1)).all jch&&(b&&decide ((rl s 0).length<=24)))):=by rw[Hid,H.out,J.out,show jch (s[k]'A)=true by unfold jch;simp;omega];rfl
     have N:(((s[k]'A).toNat:Int)==127)=false:=by rw[beq_eq_false_iff_ne];omega
     go_wp2_with fail;go_roundw
     case rel=>exact⟨k+1,by go_num,by omega,E,B.out⟩
     case measure=>simp[intOf];omega
  ·have M:=Lib.hid (jeI s k (by omega))
   cases b with
   | false =>
    have B:Hid (R=false):=by rw[Hid,H.out];simp
    go_wp2_with (go_at_call 154;refine (G.out _).mono ?_;rintro e w' ⟨rfl,F⟩);go_ret;exact⟨by rw[B.out];rfl,E.trans (F.mono E.size)⟩
   | true =>
    have L:=D.out rfl
    have B:Hid (R=decide (n<=24)):=by
     rw[Hid,H.out,M.out,L];show decide ((rl s 0).length<=24)=_;exact decide_eq_decide.2 (by omega)
    clear L;go_wp2_with (go_at_call 154;refine (G.out _).mono ?_;rintro e w' ⟨rfl,F⟩);go_ret;exact⟨by rw[B.out];rfl,E.trans (F.mono E.size)⟩
end
theorem jnE (s:jb4):jce s=jdy s:=by
 unfold jdy;rw[jnt]
 cases jce s<;>rfl
end Go.Proofs.YtafhpamnegmilaaGreatDoor
