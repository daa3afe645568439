/- strings.SplitSeq at a separator of one byte ';'. Package scope: read, Right. Package scope: Means. Package grant: the data; Right. Package grant: Right, New, the library's IndexFunc, ContainsFunc; May. Package grant: May. -/
import Derived.Test.YtafhpamnegmilaaGreatDoorYS4
import Derived.Test.YtafhpamnegmilaaGreatDoorYA2
set_option maxHeartbeats 2000000
set_option maxRecDepth 100000
namespace Go.Proofs.YtafhpamnegmilaaGreatDoor
open Go Go.RowKit Go.Shelf
section
attribute [local go_sem] Oper.semAt_some
abbrev jb4:={ s:ByteArray // s.size<4294967281 }
def jxB:ByteArray:=⟨#[59]⟩
def jeu (s:ByteArray):Option Nat:=if Lib.indexByte s.data.toList 59<0 then none else some (Lib.indexByte s.data.toList 59).toNat
theorem jg4:∀ (l:List UInt8) (c:UInt8),Lib.indexByte l c<l.length
 | [],_=>by simp[Lib.indexByte]
 | b::l,c=>by
  have:=jg4 l c;simp only[Lib.indexByte,List.length_cons];split
  ·omega
  ·split<;>omega
theorem jfL {s:ByteArray} {k:Nat} (h:jeu s=some k):Lib.indexByte s.data.toList 59=(k:Int)/\k<s.size:=by
 unfold jeu at h;split at h
 ·cases h
 ·cases h
  have:=jg4 s.data.toList 59;rw[Lib.size_eq];omega
theorem jnG {s:ByteArray} (h:jeu s=none):Lib.indexByte s.data.toList 59<0:=by
 unfold jeu at h;split at h
 ·assumption
 ·cases h
theorem jcr (s:ByteArray) (a b:Nat):(s.extract a b).size<=s.size:=by simp[ByteArray.size_extract];omega
def jfN:Nat->jb4->List jb4
 | 0,s=>[s]
 | f+1,s=>match jeu s.1 with
  | none=>[s]
  | some k=>⟨s.1.extract 0 k,Nat.lt_of_le_of_lt (jcr _ _ _) s.2⟩::jfN f ⟨s.1.extract (k+1) s.1.size,Nat.lt_of_le_of_lt (jcr _ _ _) s.2⟩
theorem jhc:∀ (f g:Nat) (s:jb4),s.1.size<f->s.1.size<g->jfN f s=jfN g s
 | 0,_,_,h,_=>by omega
 | _,0,_,_,h=>by omega
 | f+1,g+1,s,hf,hg=>by
  simp only[jfN];split
  ·rfl
  ·rename_i k A
   have:=(jfL A).2;rw[jhc f g _ (by simp[ByteArray.size_extract];omega) (by simp[ByteArray.size_extract];omega)]
def jbC (s:jb4):List jb4:=jfN (s.1.size+1) s
theorem jiU (s:jb4) (h:jeu s.1=none):jbC s=[s]:=by simp[jbC,jfN,h]
theorem jiV (s:jb4) (k:Nat) (h:jeu s.1=some k):jbC s=⟨s.1.extract 0 k,Nat.lt_of_le_of_lt (jcr _ _ _) s.2⟩::jbC ⟨s.1.extract (k+1) s.1.size,Nat.lt_of_le_of_lt (jcr _ _ _) s.2⟩:=by
 have:=(jfL h).2;have e:=jhc s.1.size ((s.1.extract (k+1) s.1.size).size+1) ⟨s.1.extract (k+1) s.1.size,Nat.lt_of_le_of_lt (jcr _ _ _) s.2⟩ (by simp[ByteArray.size_extract];omega) (by simp);unfold jbC;rw[<- e];simp only[jfN,h]
def jqx (b:Nat) (w:World):Nat:=match w.cell? ⟨b,0,none⟩ with | some (.string s)=>s.size | _=>0
theorem jlp {b t:Nat} {w:World} {s:ByteArray} (h:Boxed w b t (.string s)):jqx b w=s.size:=by simp[jqx,h.cell]
def jfT (b:Nat) (W W':World):Prop:=W'.heap[b]? = W.heap[b]? /\ W'.heap[b+1]? = W.heap[b+1]? /\ W'.heap[b+2]? = W.heap[b+2]?
theorem jgs {b:Nat} {A B C:World} (h:jfT b A B) (k:jfT b B C):jfT b A C:=⟨k.1.trans h.1,k.2.1.trans h.2.1,k.2.2.trans h.2.2⟩
theorem jlb (s A:ByteArray) (w:World):Calls Tryz.prog 105 #[.string s,.string A] w fun e w' =>
  e=.returned (.func (.func 172) #[] #[.pointer (some ⟨w.heap.size+1,0,none⟩),.pointer (some ⟨w.heap.size,0,none⟩),.pointer (some ⟨w.heap.size+1+1,0,none⟩)]) /\
   w'=((w.alloc (.cells #[.string s] 9)).alloc (.cells #[.string A] 9)).alloc (.cells #[.int .i64 0] 3):=by
 go_enter Tryz.func105,Tryz.ntmps105;go_wp2;go_ret;exact⟨rfl,rfl⟩
theorem jjk (b:Nat) (s:jb4) (w:World) (Y:Boxed w b 9 (.string s.1)) (Z:Boxed w (b+1) 9 (.string jxB)) (a:Boxed w (b+2) 3 (.int .i64 0)) :
  jhI Tryz.prog 172 #[.pointer (some ⟨b+1,0,none⟩),.pointer (some ⟨b,0,none⟩),.pointer (some ⟨b+2,0,none⟩)] (fun x:jb4=>#[.string x.1]) (jfT b) b (jbC s) w:=fun l J Jx W d t u n c=>by
 have M:=jcT d Y.lt Y;have D:=jcT d Z.lt Z;have N:=jcT d a.lt a;have m:=D.cell;clear Y Z a;refine callsIn_of_wp Tryz.func172 rfl trivial ?_ rfl;simp only[Tryz.ntmps172,List.size_toArray,List.length_cons,List.length_nil,Nat.reduceAdd,Nat.reduceSub,Array.replicate_succ,Array.replicate_zero,List.push_toArray,List.append_toArray,List.nil_append,List.cons_append];unfold jxB at m D;gi_wp2_with fail;gi_loopw [] (fun wr=>∃ (A:jb4) (B:List jb4),Boxed wr b 9 (.string A.1)/\Boxed wr (b+1) 9 (.string ⟨#[59]⟩)/\Boxed wr (b+2) 3 (.int .i64 0)/\J B wr/\jbC s=B++jbC A/\W.heap.size<=wr.heap.size) (fun wr=>jqx b wr)
 case atStart=>exact⟨s,[],M,D,N,c,rfl,Nat.le_refl _⟩
 case round =>
  obtain⟨A,B,U,i,j,G,Q,R⟩:=hrel;have X:=Lib.hid Q;have q0:=U.cell;have q1:=i.cell;have q2:=j.cell;have f:=jlp U;have E:=Tryz.strings_Index_one A.1 59 wr;clear M D N m Q
  cases I:jeu A.1 with
  | none =>
   have o:=jnG I;have S:=Lib.hid (jiU A I);obtain⟨q,tmps,assign,body,g,T⟩:=n B A wr G R;clear I;have P:Hid (B++[A]=jbC s):=by rw[X.out,S.out];rfl
   gi_wp2_with fail
   refine⟨trivial,(callsIn_wide.2 E).mono ?_⟩;rintro e w' ⟨rfl,rfl⟩;gi_wp2_with fail;refine T.mono ?_;rintro e L (⟨rfl,F,_,_⟩ | ⟨rfl,C,_⟩)
   ·gi_wp2_with fail
    go_end0;exact⟨⟨_,rfl⟩,.inl (by rw[<- P.out];exact F)⟩
   ·gi_wp2_with fail
    go_end0;exact⟨⟨_,rfl⟩,.inr ⟨_,by rw[P.out];exact List.prefix_refl _,C⟩⟩
  | some k =>
   obtain⟨O,y⟩:=jfL I;have S:=Lib.hid (jiV A k I);have v:=A.2;obtain⟨q,tmps,assign,body,g,T⟩:=n B ⟨A.1.extract 0 k,Nat.lt_of_le_of_lt (jcr _ _ _) A.2⟩ wr G R;rw[O] at E;clear I O;dsimp only at g;gi_wp2_with fail;refine⟨trivial,(callsIn_wide.2 E).mono ?_⟩;rintro e w' ⟨rfl,rfl⟩;clear E;gi_wp2_with fail;refine T.mono ?_;rintro e L (⟨rfl,F,H,h⟩ | ⟨rfl,C,h⟩)
   ·have V:Boxed L b 9 (.string A.1):=H.1.trans U
    have p:Boxed L (b+1) 9 (.string ⟨#[59]⟩):=H.2.1.trans i;have z:Boxed L (b+2) 3 (.int .i64 0):=H.2.2.trans j;have r0:=V.cell;have r1:=p.cell;have r2:=V.frozen;clear U i j q0 q1 q2 g T G;gi_wp2_with fail;go_roundw
    case rel =>
     refine⟨⟨A.1.extract (k+1) A.1.size,Nat.lt_of_le_of_lt (jcr _ _ _) A.2⟩,B++[⟨A.1.extract 0 k,Nat.lt_of_le_of_lt (jcr _ _ _) A.2⟩],V.set _,p.other (by omega) _,z.other (by omega) _,t _ _ _ (some b) F (grownBy_setCell' _ _ _) (fun r e=>by cases e;rfl) (by omega),?_,?_⟩
     ·rw[X.out,S.out];simp
     ·have:=(KeepsWalks.setCell L ⟨b,0,none⟩ (.string (A.1.extract (k+1) A.1.size))).size;omega
    case measure =>
     rw[jlp (V.set _),f];simp[ByteArray.size_extract];omega
   ·gi_wp2_with fail
    refine bodyPost_ret (results_none rfl _ _ _) rfl ?_;exact⟨⟨_,rfl⟩,.inr ⟨_,by rw[X.out,S.out];simp,C⟩⟩
end
section
attribute [local go_sem] Oper.semAt_some
def jfp (s:ByteArray):ByteArray × ByteArray × Bool:=(⟨(Lib.cut s.data.toList [61]).1.toArray⟩,⟨(Lib.cut s.data.toList [61]).2.1.toArray⟩,(Lib.cut s.data.toList [61]).2.2)
theorem jhX (s:ByteArray):(jfp s).1.size<=s.size/\(jfp s).2.1.size<=s.size:=by
 have e:=Lib.size_eq s
 have A:(Lib.cut s.data.toList [61]).1.length<=s.data.toList.length/\(Lib.cut s.data.toList [61]).2.1.length<=s.data.toList.length:=by
  unfold Lib.cut;split
  ·simp only[List.length_take,List.length_drop];omega
  ·simp
 rw[e];exact⟨by show Array.size _<=_;rw[List.size_toArray];exact A.1,by show Array.size _<=_;rw[List.size_toArray];exact A.2⟩
theorem jvf (s:ByteArray) (w:World) (C:s.size<4294967281) (A:GW w):CR 106 #[.string s,.string ⟨#[61]⟩] w (.tuple #[.string (jfp s).1,.string (jfp s).2.1,.bool (jfp s).2.2]):=by
 obtain⟨m,B⟩:=A.maxLen;refine (Tryz.strings_Cut s ⟨#[61]⟩ m w C B).mono ?_;rintro e w' ⟨rfl,n,rfl⟩;exact⟨rfl,bDr (Below.refl _ _) n⟩
structure Term where
 name:ByteArray
 pat:ByteArray
def Term.enc (t:Term):List Value:=[.string t.name,.string t.pat]
def jbI (x:jb4) (st:List Term × ByteArray):Option (List Term × ByteArray) :=
 if !(jfp x.1).2.2||(st.1.length:Int)==4 || !jdH (jfp x.1).1||jfO (jfp x.1).1 st.2 || !jgk (jfp x.1).2.1 then none else some (st.1++[⟨(jfp x.1).1,(jfp x.1).2.1⟩],(jfp x.1).1)
def jd7 (l:List jb4):Option (List Term × ByteArray):=l.foldl (fun st x=>st.bind (jbI x)) (some ([],⟨#[]⟩))
theorem jnv (l:List jb4) (x:jb4):jd7 (l++[x])=(jd7 l).bind (jbI x):=by simp[jd7]
theorem jdX (l:List jb4):l.foldl (fun A x=>A.bind (jbI x)) none=none:=by
 induction l with
 | nil=>rfl
 | cons x xs ih=>exact ih
theorem jkH (B A:List jb4) (C:B <+: A) (h:jd7 B=none):jd7 A=none:=by
 obtain⟨t,rfl⟩:=C;unfold jd7 at h ⊢;rw[List.foldl_append,h,jdX]
def jfq (s:jb4):Option (List Term):=if s.1.size==0 then some [] else (jd7 (jbC s)).map (·.1)
theorem jme {x:jb4} {B A:List Term × ByteArray} (h:jbI x B=some A) (D:B.1.length<=4):A.1.length<=4:=by
 unfold jbI at h;split at h
 ·cases h
 ·rename_i C
  cases h
  simp at C;simp;omega
theorem jjM (l:List jb4):∀ (A B:List Term × ByteArray),A.1.length<=4->l.foldl (fun B x=>B.bind (jbI x)) (some A)=some B->B.1.length<=4:=by
 induction l with
 | nil=>intro A B C h;cases h;exact C
 | cons x xs ih =>
  intro A B C h;simp only[List.foldl_cons,Option.bind_some] at h
  cases D:jbI x A with
  | none=>rw[D,jdX] at h;cases h
  | some st1=>rw[D] at h;exact ih st1 B (jme D C) h
def TermsAt (n₀:Nat) (w:World) (sv:Value) (l:List Term):Prop:=SlAt n₀ w sv l.length (l.flatMap Term.enc)
def jhx (s:jb4) (w:World) (e:Ending) (w':World):Prop :=
 ∃ a len cap,e=.returned (.tuple #[.slice a len cap,.bool (jfq s).isSome])/\TermsAt w'.heap.size w' (.slice a len cap) ((jfq s).getD [])/\Bw w w'
theorem jrc:(Tryz.prog.info? 101).map (fun i=>(i.zero,i.size,i.bytes))=some (some (.agg #[.string ⟨#[]⟩,.string ⟨#[]⟩]),2,32):=by kernel_rfl
theorem jsu:Tryz.prog.underlying 96=some (.slice 101):=by kernel_rfl
def jwv (n:Nat) (w:World) (pre:List jb4) (W:World):Prop :=
 ∃ v acc before,Boxed W n 96 v/\W.ownsRow (n+6) 101 2 v acc.length (acc.flatMap Term.enc)/\Boxed W (n+1) 4 (.bool true)/\Boxed W (n+2) 9 (.string before)/\jd7 pre=some (acc,before)/\Below n w W
theorem jrS {n N:Nat} {w:World} (S:n<=w.heap.size) (P:n<=N):OwnX N (n+3) (jwv n w):=fun s X Y row T B hr=>by
 obtain⟨v,C,A,I,E,J,L,M,O⟩:=T;refine⟨v,C,A,jhE N (n+3) n _ (fun _:Unit=>v) (by omega) () X Y row I B hr,E.kept B ?_,jhE N (n+3) (n+1) _ (fun _:Unit=>.bool true) (by omega) () X Y row J B hr,jhE N (n+3) (n+2) _ (fun _:Unit=>.string A) (by omega) () X Y row L B hr,M,jjI S P (by omega) () X Y row O B hr⟩;rcases E.2 with⟨rfl,_⟩ | ⟨g,cap,G,rfl,R,D,_⟩
 ·exact .inl rfl
 ·refine .inr (fun e=>?_)
  have H:row=some g:=by rw[<- e];rfl
  rcases hr g H with h | ⟨_,o,F,Q⟩
  ·omega
  ·rw[D] at F;cases F;cases Q
def jvk (n:Nat) (w:World) (c:Code) (pre:List jb4) (W:World):Prop:=Boxed W (n+1) 4 (.bool false)/\(c=.exit 0/\jd7 pre=none)/\Below n w W
theorem jrT {n N:Nat} {w:World} (B:n<=w.heap.size) (A:n<=N) (c:Code):OwnX N (n+3) (jvk n w c) :=
 (jhE _ _ _ _ _ (by omega)).and ((jrK _ _ _).and (jjI B A (by omega)))
def RB (n:Nat) (w:World) (v:Value) (acc:List Term) (before:ByteArray) (W:World):Prop :=
 Boxed W n 96 v/\W.ownsRow (n+6) 101 2 v acc.length (acc.flatMap Term.enc)/\Boxed W (n+1) 4 (.bool true)/\Boxed W (n+2) 9 (.string before)/\Below n w W
theorem RB.below {n:Nat} {w:World} {v:Value} {B:List Term} {A:ByteArray} {W E:World} (h:RB n w v B A W) (C:Bw W E):RB n w v B A E:=by
 obtain⟨D,H,F,G,I⟩:=h;have:=D.lt;exact⟨jcT C D.lt D,jbN H (fun j _ J=>C.block j J),jcT C F.lt F,jcT C G.lt G,I.trans (C.mono (by omega))⟩
theorem je0 {b N:Nat} {W A:World} (h:Below N W A) (B:b+2<N):jfT b W A:=⟨h.block _ (by omega),h.block _ (by omega),h.block _ (by omega)⟩
theorem jeN {n N:Nat} {w:World} {v:Value} {D:List Term} {A:ByteArray} {W C:World} {B:List jb4} {x:jb4} (h:RB n w v D A C) (hK:KeepsFrom N W C) (E:jd7 (B++[x])=none) :
  KeepsFrom N W (C.setCell ⟨n+1,0,none⟩ (.bool false))/\jvk n w (.exit 0) (B++[x]) (C.setCell ⟨n+1,0,none⟩ (.bool false)) :=
 ⟨hK.trans ((KeepsOthers.setCell _ _ _).from _),h.2.2.1.set _,⟨rfl,E⟩,h.2.2.2.2.setCell (p:=⟨n+1,0,none⟩) (Nat.le_succ _) _⟩
theorem jsR {W F:World} {B A e D n:Nat} {v:Value} {xs:List Value} (C:W.ownsRow A e D v n xs) (L:W.heap.size<=F.heap.size) (H:∀ k,k<W.heap.size->some k≠v.ownBlock->F.heap[k]? = W.heap[k]?):KeepsFrom B W F :=
 ⟨L,fun k o _ E J=>by
  refine (H k (Array.getElem?_eq_some_iff.1 E).1 (fun e=>?_)).trans E;rcases C.2 with⟨rfl,_⟩ | ⟨g,cap,G,rfl,_,I,_⟩
  ·cases e
  ·have:k=g:=by cases e;rfl
   subst this;rw[I] at E;cases E;cases J⟩
theorem jl7 {w:World} {A e B n:Nat} {v:Value} {xs:List Value} (h:w.ownsRow A e B v n xs):∃ a cap,v=.slice a n cap:=by
 rcases h.2 with⟨rfl,rfl⟩ | ⟨g,cap,C,rfl,_⟩
 ·exact⟨none,0,rfl⟩
 ·exact⟨_,cap,rfl⟩
theorem jus (s:jb4) (w:World) (hG:GW w) (h0:¬ s.1.size=0):Calls Tryz.prog 60 #[.string s.1] w (jhx s w):=by
 have az:s.1.toList.isEmpty=false:=by rw[jbr];simp[h0]
 have aA:¬ s.1.toList=[]:=by simpa using az
 refine jay Tryz.func60 rfl ?_;simp only[Tryz.ntmps60,List.size_toArray,List.length_cons,List.length_nil,Nat.reduceAdd,Nat.reduceSub,Array.replicate_succ,Array.replicate_zero,List.push_toArray,List.append_toArray,List.nil_append,List.cons_append];go_wp2_with fail;go_step3;go_wp2_with fail;go_step3;go_wp2_with (go_at_call 105;refine (jlb _ _ _).mono ?_;rintro e w' ⟨rfl,rfl⟩);obtain⟨X,hX,b0,b1,b2,Z,al⟩:=jxg w (.slice none 0 0) 96 (.bool true) 4 (.string ⟨#[]⟩) 9;rw[hX];clear hX;obtain⟨q,af,d0,d1,d2,N,k⟩:=jxg X (.string s.1) 9 (.string ⟨#[59]⟩) 9 (.int .i64 0) 3;rw[af];clear af;rw[al] at d0 d1 d2 k;have z:=jcT N b0.lt b0;have aa:=jcT N b1.lt b1;have ab:=jcT N b2.lt b2;have Y:Bw w q:=Z.trans (N.mono Z.size);clear b0 b1 b2 Z N al;have ao:=hG.below Y
 refine jp5 7 (fun x:jb4=>.string x.1) (gf:=172) (lb:=#[.pointer (some ⟨w.heap.size+3+1,0,none⟩),.pointer (some ⟨w.heap.size+3,0,none⟩),.pointer (some ⟨w.heap.size+3+2,0,none⟩)]) rfl (enters_of Tryz.func172 (by kernel_rfl) rfl)
  (jjk (w.heap.size+3) s q d0 d1 d2) (by omega) jgs (fun W l o o' hl ho hc hw => ?kb) (fun _=>rfl) (jwv w.heap.size w) (jvk w.heap.size w) (jrS (Nat.le_refl _) (by omega)) (jrT (Nat.le_refl _) (by omega))
  ⟨_,[],⟨#[]⟩,z,World.ownsRow_nil _ _ _ _,aa,ab,rfl,Y⟩ ?assign ?body ?done ?stop
 case kb=>exact⟨World.putObj_heap_other (by omega),World.putObj_heap_other (by omega),World.putObj_heap_other (by omega)⟩
 case assign =>
  rintro l x W K hK;simp only[List.zip_toArray,List.zip_cons_cons,List.zip_nil_right,List.size_toArray,List.foldl_toArray',List.foldl_cons,List.foldl_nil,List.setIfInBounds_toArray,List.set_cons_succ,List.set_cons_zero] at hK ⊢;gi_wp2;exact hK
 case body =>
  rintro l n x W ⟨v,B,A,k0,r,t,k3,H,V⟩ aC;simp only[List.zip_toArray,List.zip_cons_cons,List.zip_nil_right,List.size_toArray,List.foldl_toArray',List.foldl_cons,List.foldl_nil,List.setIfInBounds_toArray,List.set_cons_succ,List.set_cons_zero];have hcut:=jvf x.1 W x.2 (hG.below V);have C:Hid (jd7 (n++[x])=jbI x (B,A)):=by rw[jnv,H];rfl
  have aj:=jjM n _ _ (by simp) H;dsimp only at aj;obtain⟨va,vc,rfl⟩:=jl7 r;have am:RB w.heap.size w _ B A W:=⟨k0,r,t,k3,V⟩;have aq:=hG.below V;have ag:=jhX x.1;have aD:=x.2;have G:Hid (∀ b,b=(!(jfp x.1).2.2||(B.length:Int)==4 || !jdH (jfp x.1).1||jfO (jfp x.1).1 A || !jgk (jfp x.1).2.1)->jbI x (B,A)=if b then none else some (B++[⟨(jfp x.1).1,(jfp x.1).2.1⟩],(jfp x.1).1)):=fun b hb=>by subst hb;rfl
  clear k0 r t k3 H d0 d1 d2 z aa ab Y ao;generalize (jfp x.1).1=nm at hcut ag G;generalize (jfp x.1).2.1=pt at hcut ag G;generalize (jfp x.1).2.2=fd at hcut G;have aB:=am.2.2.2.1.lt;gi_wp2_with fail;refine⟨trivial,(CallsIn.inRound l (callsIn_wide.2 hcut)).mono ?_⟩;rintro e w1 ⟨rfl,L⟩;have I:=am.below L;have f:KeepsFrom q.heap.size W w1:=jgZ L (Nat.le_refl _);have au:jfT (w.heap.size+3) W w1:=je0 L (by omega);have ad:=aq.below L;have aE:=L.size;clear hcut L;have z0:=I.1.cell;have u:=I.2.2.1.cell;have z2:=I.2.2.1.frozen;have z3:=I.2.2.2.1.cell;have z4:=I.2.2.2.1.frozen;have z5:=I.1.frozen
  cases fd with
  | false =>
   gi_wp2_with fail
   refine⟨trivial,?_⟩;gi_wp2_with fail;refine⟨trivial,?_⟩;gi_wp2_with fail;exact jeN I f (C.out.trans (G.out true (by simp)))
  | true =>
   by_cases h4:B.length=4
   ·have U:((B.length:Int)==4)=true:=by simp[h4]
    have H4:=Lib.hid U;clear h4;gi_wp2_with fail;refine⟨trivial,?_⟩;gi_wp2_with fail;refine⟨trivial,?_⟩;gi_wp2_with fail;exact jeN I f (C.out.trans (G.out true (by rw[H4.out];simp)))
   ·have U:((B.length:Int)==4)=false:=by rw[beq_eq_false_iff_ne];omega
    have H4:=Lib.hid U;have ah:=jmm nm w1 (by omega) ad;clear h4;gi_wp2_with fail;refine⟨trivial,(CallsIn.inRound l (callsIn_wide.2 ah)).mono ?_⟩;rintro e w2 ⟨rfl,M⟩;have J:=I.below M;have h:KeepsFrom q.heap.size W w2:=f.trans (jgZ M (Nat.le_refl _));have av:jfT (w.heap.size+3) W w2:=jgs au (je0 M (by omega));have ap:=ad.below M;have aF:=M.size;clear ah M z0 u z2 z3 z4 z5;have z0:=J.1.cell;have u:=J.2.2.1.cell;have z2:=J.2.2.1.frozen;have z3:=J.2.2.2.1.cell;have z4:=J.2.2.2.1.frozen;have z5:=J.1.frozen
    cases S:jdH nm with
    | false =>
     have HN:=Lib.hid S;clear S;gi_wp2_with fail;refine⟨trivial,?_⟩;gi_wp2_with fail;exact jeN J h (C.out.trans (G.out true (by rw[HN.out];simp)))
    | true =>
     have HN:=Lib.hid S;clear S
     cases P:jfO nm A with
     | true =>
      have HL:=Lib.hid P;unfold jfO at P;gi_wp2_with fail;refine⟨trivial,?_⟩;gi_wp2_with fail;exact jeN J h (C.out.trans (G.out true (by rw[HL.out];simp)))
     | false =>
      have HL:=Lib.hid P;unfold jfO at P;have ai:=jj0 pt w2 (by omega) ap;gi_wp2_with fail;refine⟨trivial,(CallsIn.inRound l (callsIn_wide.2 ai)).mono ?_⟩;rintro e w3 ⟨rfl,O⟩;have E:=J.below O;have ae:KeepsFrom q.heap.size W w3:=h.trans (jgZ O (Nat.le_refl _));have aw:jfT (w.heap.size+3) W w3:=jgs av (je0 O (by omega));have aG:=O.size;clear ai O z0 u z2 z3 z4 z5 P;have z0:=E.1.cell;have u:=E.2.2.1.cell;have z2:=E.2.2.1.frozen;have z3:=E.2.2.2.1.cell;have z4:=E.2.2.2.1.frozen;have z5:=E.1.frozen
      cases T:jgk pt with
      | false =>
       have HP:=Lib.hid T;clear T;gi_wp2_with fail;exact jeN E ae (C.out.trans (G.out true (by rw[HP.out];simp)))
      | true =>
       have HP:=Lib.hid T;clear T;have m:=Lib.hid (C.out.trans (G.out false (by rw[H4.out,HN.out,HL.out,HP.out];rfl)));obtain⟨g,ac,w4,ay,i,an,aH,F,Q⟩:=jaL Tryz.prog 96 jsu jrc rfl (by decide) E.2.1 E.2.2.2.2 (by omega) (by omega) [.string nm,.string pt] rfl (by simp[Value.oneCell']) (by omega) (by decide);have e0:Boxed w4 w.heap.size 96 _:=(F _ (by omega)).trans E.1;have e1:Boxed w4 (w.heap.size+1) 4 _:=(F _ (by omega)).trans E.2.2.1;have e2:Boxed w4 (w.heap.size+2) 9 _:=(F _ (by omega)).trans E.2.2.2.1;have ax:jfT (w.heap.size+3) w3 w4:=⟨F _ (by omega),F _ (by omega),F _ (by omega)⟩;have ar:KeepsFrom q.heap.size w3 w4:=jsR E.2.1 (by omega) Q;have y0:=e0.cell;have y1:=e0.frozen;have y2:=e2.cell;have y3:=e2.frozen;clear F Q;gi_wp2_with (gi_at_builtin;refine jjl rfl _ _ _ rfl rfl rfl ay ?_);refine⟨(ae.trans ar).trans (((KeepsOthers.setCell _ _ _).from _).trans ((KeepsOthers.setCell _ _ _).from _)),jgs (jgs aw ax) ⟨?_,?_,?_⟩,_,B++[⟨nm,pt⟩],nm,(e0.set _).other (by omega) _,?_,(e1.other (by omega) _).other (by omega) _,(e2.other (by omega) _).set _,by simpa using m.out,(an.setCell (p:=⟨w.heap.size,0,none⟩) (Nat.le_refl _) _).setCell (p:=⟨w.heap.size+1+1,0,none⟩) (by show w.heap.size<=w.heap.size+1+1;omega) _⟩
       ·exact (Below.heap_setCell _ _ _ _ (by show w.heap.size+3≠w.heap.size+1+1;omega)).trans (Below.heap_setCell _ _ _ _ (by show w.heap.size+3≠w.heap.size;omega))
       ·exact (Below.heap_setCell _ _ _ _ (by show w.heap.size+3+1≠w.heap.size+1+1;omega)).trans (Below.heap_setCell _ _ _ _ (by show w.heap.size+3+1≠w.heap.size;omega))
       ·exact (Below.heap_setCell _ _ _ _ (by show w.heap.size+3+2≠w.heap.size+1+1;omega)).trans (Below.heap_setCell _ _ _ _ (by show w.heap.size+3+2≠w.heap.size;omega))
       ·have hq:=ownsRow_setCell_below (ownsRow_setCell_below i (a:=⟨w.heap.size,0,none⟩) (by show w.heap.size<_;omega) (.slice (some ⟨g,0,none⟩) (B.length+1) ac)) (a:=⟨w.heap.size+1+1,0,none⟩) (by show w.heap.size+1+1<_;omega) (.string nm)
        simpa [Term.enc] using hq
 case done =>
  rintro D W hD ⟨v,B,A,k0,r,t,k3,H,V⟩ hK;obtain⟨va,vc,rfl⟩:=jl7 r;have z0:=k0.cell;have u:=t.cell;have d:w.heap.size<=D:=by omega
  have R:jfq s=some B:=by simp[jfq,h0,H]
  have y:=Lib.hid R;have j:=jgy V d hK;have ak:=ownsRow_putObj r (.deferred none) hK rfl;clear k R H;go_wp2_with fail;rw[Exit.noGoto_ret];refine jaX hK (results_tmp2 rfl _ _ _) ⟨va,B.length,vc,by rw[y.out];rfl,?_,j⟩;rw[y.out];exact je4 ak
 case stop =>
  rintro D c n W hD hp ⟨t,⟨rfl,H⟩,V⟩ hK;have u:=t.cell;have d:w.heap.size<=D:=by omega
  have R:jfq s=none:=by simp[jfq,h0,jkH _ _ hp H]
  have y:=Lib.hid R;have j:=jgy V d hK;clear k R H;go_wp2_with fail;rw[Exit.noGoto_ret];exact jaX hK (results_tmp2 rfl _ _ _) ⟨none,0,0,by rw[y.out];rfl,by rw[y.out];exact .inl ⟨rfl,rfl,rfl⟩,j⟩
theorem jox (s:jb4) (w:World) (E:GW w):Calls Tryz.prog 60 #[.string s.1] w (jhx s w):=by
 by_cases B:s.1.size=0
 ·have C:s.1.toList.isEmpty=true:=by rw[jbr];simp[B]
  have F:s.1.toList=[]:=by simpa using C
  have A:jfq s=some []:=by simp[jfq,B]
  have D:=Lib.hid A;clear A B;refine jay Tryz.func60 rfl ?_;simp only[Tryz.ntmps60,List.size_toArray,List.length_cons,List.length_nil,Nat.reduceAdd,Nat.reduceSub,Array.replicate_succ,Array.replicate_zero,List.push_toArray,List.append_toArray,List.nil_append,List.cons_append];go_wp2_with fail;go_step3;go_wp2_with fail;rw[Exit.noGoto_ret];exact jck (results_tmp2 rfl _ _ _) rfl ⟨none,0,0,by rw[D.out];rfl,by rw[D.out];exact .inl ⟨rfl,rfl,rfl⟩,Below.refl _ _⟩
 ·exact jus s w E B
def jdy (s:jb4):Bool:=(jfq s).isSome
theorem jnF (s:jb4) (w:World) (B:GW w):CR 28 #[.string s.1] w (.bool (jdy s)):=by
 have hr:=jox s w B;go_enter Tryz.func28,Tryz.ntmps28;go_wp2_with (go_at_call 60;refine hr.mono ?_;rintro e C ⟨a,len,cap,rfl,-,A⟩);go_ret;exact⟨rfl,A⟩
end
theorem jpX (A:List Term) (j:Nat) (x:Term) (h:A[j]? = some x):(A.flatMap Term.enc)[j*2]? = some (.string x.name)/\(A.flatMap Term.enc)[j*2+1]? = some (.string x.pat):=by
 induction A generalizing j with
 | nil=>simp at h
 | cons y ys ih =>
  cases j with
  | zero=>simp at h;subst h;simp[Term.enc]
  | succ j =>
   have:=ih j (by simpa using h);rw[show (j+1)*2=j*2+2 by omega];simp only[List.flatMap_cons,Term.enc,List.cons_append,List.nil_append,List.getElem?_cons_succ];exact this
theorem jse (A:List Term):(A.flatMap Term.enc).length=A.length*2:=by
 induction A with
 | nil=>rfl
 | cons y ys ih=>simp[List.flatMap_cons,Term.enc,ih];omega
theorem TermsAt.cells {F:Nat} {w:World} {a:Option Addr} {len cap:Nat} {A:List Term} (h:TermsAt F w (.slice a len cap) A):len=A.length/\∀ j x,A[j]? = some x ->
  ∃ b off,a=some ⟨b,off,none⟩/\b<F/\w.cell? ⟨b,off+j*2,none⟩=some (.string x.name)/\w.cell? ⟨b,off+j*2+1,none⟩=some (.string x.pat):=by
 rcases h with⟨h,G,_⟩ | ⟨b,off,B,e,H,D⟩
 ·obtain⟨rfl,rfl,rfl⟩:a=none/\len=0/\cap=0:=by simpa using h
  have:A=[]:=by simpa using G
  subst this;exact⟨rfl,fun i x C=>by simp at C⟩
 ·obtain⟨rfl,rfl,rfl⟩:a=some ⟨b,off,none⟩/\len=A.length/\cap=B:=by simpa using e
  refine⟨rfl,fun j x C=>⟨b,off,rfl,H,?_⟩⟩;have I:=(List.getElem?_eq_some_iff.1 C).1;have E:=jpX A j x C;rw[jse] at D;exact⟨(D (j*2) (by omega)).trans E.1,(D (j*2+1) (by omega)).trans E.2⟩
theorem juS {α:Type} (l:List α) (f:α->Bool) (k:Nat) (x:α) (h:l.take (k+1)=l.take k++[x]) (B:f x=false):l.all f=false:=by
 have A:=List.take_append_drop (k+1) l;rw[<- A,List.all_append,h,List.all_append,List.all_cons,B];simp
theorem jvm {α:Type} (l:List α) (f:α->Bool) (k:Nat) (x:α) (h:l.take (k+1)=l.take k++[x]) (A:f x=true) (ht:(l.take k).all f=true):(l.take (k+1)).all f=true:=by
 rw[h,List.all_append,ht,List.all_cons,A];rfl
def jdB (ls:List Lab) (t:Term):Bool:=match ja5 ls t.name with
 | none=>false
 | some v=>jdM t.pat v
def jbM (s:jb4) (ls:List Lab):Bool × Int:=match jfq s with
 | none=>(false,50)
 | some ts=>if jal ls then (ts.all (jdB ls),0) else (false,50)
theorem jmd (l:List jb4):∀ (A B:List Term × ByteArray),(∀ t∈A.1,t.name.size<4294967281/\t.pat.size<4294967281)->l.foldl (fun B x=>B.bind (jbI x)) (some A)=some B->∀ t∈B.1,t.name.size<4294967281/\t.pat.size<4294967281:=by
 induction l with
 | nil=>intro A B D h;cases h;exact D
 | cons x xs ih =>
  intro A B D h;simp only[List.foldl_cons,Option.bind_some] at h
  cases C:jbI x A with
  | none=>rw[C,jdX] at h;cases h
  | some st1 =>
   rw[C] at h;refine ih st1 B ?_ h;unfold jbI at C;split at C
   ·cases C
   ·cases C
    intro t ht;simp only[List.mem_append,List.mem_singleton] at ht;rcases ht with ht | rfl
    ·exact D t ht
    ·have:=jhX x.1;have:=x.2;exact⟨by dsimp only;omega,by dsimp only;omega⟩
theorem jnu (s:jb4) (A:List Term) (h:jfq s=some A):A.length<=4/\∀ t∈A,t.name.size<4294967281/\t.pat.size<4294967281:=by
 unfold jfq at h;split at h
 ·cases h;simp
 ·cases hr:jd7 (jbC s) with
  | none=>rw[hr] at h;cases h
  | some st =>
   rw[hr] at h
   cases h
   exact⟨jjM _ _ _ (by simp) hr,jmd _ _ _ (by simp) hr⟩
theorem jig:∀ (A:List ji3) (n v:ByteArray),ja5 (A.map (·.1)) n=some v->v.size<4294967281
 | [],_,_,h=>by simp[ja5] at h
 | x::xs,n,v,h=>by
  simp only[List.map_cons,ja5] at h;split at h
  ·cases h;exact x.2.2
  ·exact jig xs n v h
theorem jqb (s:jb4) (o:Option Addr) (cap:Nat) (B:List ji3) (w:World) (hL:Labs w.heap.size w (.slice o B.length cap) (B.map (·.1))) (z:GW w) (h3:B.length<4294967281) :
  CR 29 #[.string s.1,.slice o B.length cap] w (.tuple #[.bool (jbM s (B.map (·.1))).1,.int .i64 (jbM s (B.map (·.1))).2]):=by
 have hr:=jox s w z
 cases D:jfq s with
 | none =>
  have V:=Lib.hid D;unfold jhx at hr;rw[D] at hr;clear D;go_enter Tryz.func29,Tryz.ntmps29;go_wp2_with (go_at_call 60;refine hr.mono ?_;rintro e t ⟨a,len,cap,rfl,-,A⟩);go_ret2;exact⟨by simp[jbM,V.out],A⟩
 | some ts =>
  obtain⟨ai,g⟩:=jnu s ts D;have V:=Lib.hid D;have HZ:=Lib.hid g;unfold jhx at hr;rw[D] at hr;clear D g;go_enter Tryz.func29,Tryz.ntmps29;go_wp2_with (go_at_call 60;refine hr.mono ?_;rintro e t ⟨a,len,ae,rfl,U,A⟩);have f:=jbA o cap B t ((SlAt.below A hL).mono A.size) (z.below A) h3;simp only[Option.getD_some] at U;clear hr;refine f.mono ?_;rintro e m ⟨rfl,F⟩;clear f;obtain⟨d,-⟩:=U.cells;subst d
  cases L:jal (B.map (·.1)) with
  | false =>
   have Y:=Lib.hid L;clear L;go_wp2_with fail;go_ret2;exact⟨by simp only[jbM,V.out,Y.out];rfl,A.trans (F.mono A.size)⟩
  | true =>
   have Y:=Lib.hid L;clear L;go_wp2_with fail;have N:=A.size;have h:=F.size;have J:TermsAt t.heap.size m _ ts:=SlAt.below F U;have R:Labs w.heap.size m _ _:=SlAt.below (A.trans (F.mono N)) hL;have aa:=(z.below A).below F;have H:=A.trans (F.mono N);go_loopw [26] (fun i wr=>∃ k:Nat,i=.int .i64 k/\k<=ts.length/\Bw m wr/\Hid ((ts.take k).all (jdB (B.map (·.1)))=true)) (fun i _=>ts.length-(intOf i).toNat)
   case atStart=>exact⟨0,rfl,Nat.zero_le _,Below.refl _ _,rfl⟩
   case round =>
    obtain⟨k,rfl,hk,q,HA⟩:=hrel;have j:=q.size;by_cases ab:k<ts.length
    ·obtain⟨x,r⟩:∃ x,ts[k]? = some x:=⟨_,List.getElem?_eq_getElem ab⟩
     have l:TermsAt t.heap.size wr _ ts:=SlAt.below (q.mono h) J;obtain⟨b,off,rfl,af,ag,ah⟩:=l.cells.2 k x r;have M:x∈ts:=List.mem_of_getElem? r;obtain⟨aj,ad⟩:=HZ.out x M;have y:Hid (ts.take (k+1)=ts.take k++[x]):=by rw[Hid,List.take_add_one,r];rfl
     have Q:Bw m (wr.alloc (.cells #[.string x.name,.string x.pat] 101)):=q.alloc j _;have C:=jkt o cap B x.name _ ((SlAt.below (Q.mono (by omega)) R).mono (by simp;omega)) h3;have Z:=cCc (World.alloc_heap_new wr (.cells #[.string x.name,.string x.pat] 101)) 1;clear r l J R M
     cases T:ja5 (B.map (·.1)) x.name with
     | none =>
      have n:Hid (jdB (B.map (·.1)) x=false):=by simp only[Hid,jdB,T]
      rw[T] at C;clear T;go_wp2_with (go_at_call 62;refine C.mono ?_;rintro e u ⟨rfl,I⟩);go_ret2;refine⟨?_,H.trans ((Q.trans (I.mono (by simp;omega))).mono (by omega))⟩;have c:=juS ts (jdB (B.map (·.1))) k x y.out n.out;simp only[jbM,V.out,Y.out,c];rfl
     | some v =>
      have ac:=jig B x.name v T;have n:Hid (jdB (B.map (·.1)) x=jdM x.pat v):=by simp only[Hid,jdB,T]
      rw[T] at C;clear T;go_wp2_with fail;refine C.mono ?_;rintro e u ⟨rfl,I⟩;have O:(wr.alloc (.cells #[.string x.name,.string x.pat] 101)).heap.size=wr.heap.size+1:=by simp
      rw[O] at I;have d1:u.cell? ⟨wr.heap.size,1,none⟩=some (.string x.pat):=(I.cell (p:=⟨wr.heap.size,1,none⟩) (Nat.lt_succ_self _)).trans Z;have G:Bw m u:=Q.trans (I.mono (by omega));have E:=jsN x.pat v u ad ac (aa.below G);clear C O Z
      cases X:jdM x.pat v with
      | false =>
       rw[X] at E;have P:Hid (jdB (B.map (·.1)) x=false):=by rw[Hid,n.out,X]
       clear X;go_wp2_with (go_at_call 63;refine E.mono ?_;rintro e w5 ⟨rfl,S⟩);go_ret2;have c:=juS ts (jdB (B.map (·.1))) k x y.out P.out;refine⟨?_,H.trans ((G.trans (S.mono G.size)).mono (by omega))⟩;simp only[jbM,V.out,Y.out,c];rfl
      | true =>
       rw[X] at E;have P:Hid (jdB (B.map (·.1)) x=true):=by rw[Hid,n.out,X]
       clear X;go_wp2_with (go_at_call 63;refine E.mono ?_;rintro e w5 ⟨rfl,S⟩);go_roundw
       case rel=>exact⟨k+1,by go_num,by omega,G.trans (S.mono G.size),jvm ts _ k x y.out P.out HA.out⟩
       case measure=>simp[intOf];omega
    ·obtain rfl:k=ts.length:=by omega
     clear J R;go_wp2_with fail;go_ret2;have c:ts.all (jdB (B.map (·.1)))=true:=by have:=HA.out;rwa [List.take_length] at this
     exact⟨by simp only[jbM,V.out,Y.out,c];rfl,H.trans (q.mono (by omega))⟩
structure Gr where
 id:Int
 tnt:Int
 scope:jb4
def Gr.enc (g:Gr):List Value:=[.int .u64 g.id,.int .u64 g.tnt,.string g.scope.1]
def Gr.agg (g:Gr):Value:=.agg #[.int .u64 g.id,.int .u64 g.tnt,.string g.scope.1]
def Gr.ok (g:Gr):Prop:=U64 g.id/\U64 g.tnt
theorem jcg (g:Gr):g.enc.length=3:=rfl
def Grs (n₀:Nat) (w:World) (sv:Value) (l:List Gr):Prop:=SlAt n₀ w sv l.length (l.flatMap Gr.enc)
structure jcs where
 next:Int
 l:List Gr
def jgS (next:Int) (last:Int) (x:Gr):Option Int:=if x.id<=last||next<=x.id || !jdy x.scope then none else some x.id
def jcK (g:jcs):Bool := !decide (g.next<1)&&decide (g.l.length<=10)&&(jb7 (jgS g.next) 0 g.l).isSome
theorem jiX (g:jcs) (a:Option Addr) (len cap:Nat) (w:World) (T:Grs w.heap.size w (.slice a len cap) g.l) (o:GW w) (h1:1<=g.next) (n:g.l.length<=10) :
  CR 49 #[.agg #[.int .u64 g.next,.slice a len cap]] w (.bool (jb7 (jgS g.next) 0 g.l).isSome):=by
 obtain⟨L,-⟩:=SlAt.elems jcg T;subst L;obtain⟨next,l⟩:=g;dsimp only at *;have t1:decide (next<1)=false:=by simp;omega
 have t2:decide ((10:Int)<l.length)=false:=by simp;omega
 go_enter Tryz.func49,Tryz.ntmps49;go_wp2_with fail;have B:Bw w (w.alloc (.cells #[.int .u64 next,.slice a l.length cap] 51)):=(Below.refl _ w).alloc (Nat.le_refl _) _;have M:(w.alloc (.cells #[.int .u64 next,.slice a l.length cap] 51)).heap.size=w.heap.size+1:=by simp
 have X:=cCc (World.alloc_heap_new w (.cells #[.int .u64 next,.slice a l.length cap] 51)) 0;generalize (w.alloc (.cells #[.int .u64 next,.slice a l.length cap] 51))=W0 at B M X ⊢;have G:Grs w.heap.size W0 _ l:=SlAt.below B T;have S:=o.below B;have H:W0.cell? ⟨w.heap.size,0,none⟩=some (.int .u64 next):=X;clear X T;go_loopw [3,18] (fun s i wr=>∃ (k:Nat) (A:Int),i=.int .i64 k/\s=.int .u64 A/\k<=l.length/\Bw W0 wr/\Hid (jb7 (jgS next) 0 (l.take k)=some A)) (fun _ i _=>l.length-(intOf i).toNat)
 case atStart=>exact⟨0,0,rfl,rfl,Nat.zero_le _,Below.refl _ _,rfl⟩
 case round =>
  obtain⟨k,A,rfl,rfl,hk,J,P⟩:=hrel;have N:=J.size;by_cases U:k<l.length
  ·obtain⟨x,V⟩:∃ x,l[k]? = some x:=⟨_,List.getElem?_eq_getElem U⟩
   obtain⟨b,off,rfl,q,O⟩:=(SlAt.elems jcg (SlAt.below (J.mono (by omega)) G)).2 k x V;have f:=Lib.hid (jjx V P.out);have v:wr.cell? ⟨b,off+k*3,none⟩=some (.int .u64 x.id):=O 0 (by omega);have y:wr.cell? ⟨b,off+k*3+1,none⟩=some (.int .u64 x.tnt):=O 1 (by omega);have z:wr.cell? ⟨b,off+k*3+2,none⟩=some (.string x.scope.1):=O 2 (by omega);have qr:wr.cell? ⟨w.heap.size,0,none⟩=some (.int .u64 next):=(J.cell (p:=⟨w.heap.size,0,none⟩) (by show w.heap.size<_;omega)).trans H;clear O V H G P;have r:w.heap.size<wr.heap.size:=by omega
   have C:Bw W0 (wr.alloc (.cells #[.int .u64 x.id,.int .u64 x.tnt,.string x.scope.1] 85)):=J.alloc N _;have hr:=jnF x.scope _ (S.below C);have c:=cCc (World.alloc_heap_new wr (.cells #[.int .u64 x.id,.int .u64 x.tnt,.string x.scope.1] 85)) 0;have E:Hid (∀ R,(decide (x.id<=A)||decide (next<=x.id) || !jdy x.scope)=R->jb7 (jgS next) 0 (l.take (k+1))=if R then none else some x.id):=fun R h=>by rw[f.out,<- h];rfl
   by_cases Y:x.id<=A
   ·go_wp2_with fail
    go_ret;have F:jb7 (jgS next) 0 l=none:=jjw (E.out true (by simp[Y]));exact⟨by rw[F];rfl,B.trans (C.mono (by omega))⟩
   have t:A<x.id:=by omega
   have j:=Lib.hid Y;clear Y;by_cases Z:next<=x.id
   ·go_wp2_with fail
    go_ret;have F:jb7 (jgS next) 0 l=none:=jjw (E.out true (by simp[Z]));exact⟨by rw[F];rfl,B.trans (C.mono (by omega))⟩
   have u:x.id<next:=by omega
   have m:=Lib.hid Z;clear Z
   cases I:jdy x.scope with
   | false =>
    have Q:=Lib.hid I;rw[I] at hr;clear I;go_wp2_with (go_at_call 28;refine hr.mono ?_;rintro e d ⟨rfl,D⟩);go_ret;have F:jb7 (jgS next) 0 l=none:=jjw (E.out true (by simp[Q.out]));exact⟨by rw[F];rfl,B.trans ((C.trans (D.mono (by simp;omega))).mono (by omega))⟩
   | true =>
    have Q:=Lib.hid I;rw[I] at hr;clear I;go_wp2_with fail;refine hr.mono ?_;rintro e d ⟨rfl,D⟩;rw[World.size_alloc] at D;have cz:d.cell? ⟨wr.heap.size,0,none⟩=some (.int .u64 x.id):=(D.cell (p:=⟨wr.heap.size,0,none⟩) (Nat.lt_succ_self _)).trans c;clear c hr;go_wp2_with fail;go_roundw
    case rel=>exact⟨k+1,x.id,by go_num,rfl,by omega,C.trans (D.mono (by omega)),E.out false (by simp[Q.out];have:=j.out;have:=m.out;omega)⟩
    case measure=>simp[intOf];omega
  ·obtain rfl:k=l.length:=by omega
   clear H G;go_wp2_with fail;go_ret;have F:=P.out;rw[List.take_length] at F;exact⟨by rw[F];rfl,B.trans (J.mono (by omega))⟩
theorem jed (g:jcs) (a:Option Addr) (len cap:Nat) (w:World) (D:Grs w.heap.size w (.slice a len cap) g.l) (H:GW w) :
  CR 49 #[.agg #[.int .u64 g.next,.slice a len cap]] w (.bool (jcK g)):=by
 have B:=(SlAt.elems jcg D).1;by_cases C:g.next<1
 ·have E:decide (g.next<1)=true:=by simpa using C
  have F:=Lib.hid E;clear D B;go_enter Tryz.func49,Tryz.ntmps49;go_wp2_with fail;go_ret;exact⟨by simp[jcK,F.out],(Below.refl _ _).alloc (Nat.le_refl _) _⟩
 ·by_cases A:g.l.length<=10
  ·refine (jiX g a len cap w D H (by omega) A).mono ?_
   rintro e w' ⟨rfl,I⟩;exact⟨by simp[jcK,C,A],I⟩
  ·have E:decide (g.next<1)=false:=by simpa using C
   have J:decide ((10:Int)<len)=true:=by simp;omega
   have G:=Lib.hid A;clear D B C A;go_enter Tryz.func49,Tryz.ntmps49;go_wp2_with fail;go_ret;exact⟨by simp[jcK,G.out],(Below.refl _ _).alloc (Nat.le_refl _) _⟩
theorem jjT (w:World):CR 46 #[] w (.agg #[.int .u64 1,.slice none 0 0]):=by
 go_enter Tryz.func46,Tryz.ntmps46;go_wp2_with fail;exact bodyPost_ret (v:=.agg #[.int .u64 1,.slice none 0 0]) (by simp[results,Tryz.results46,go_sem]) rfl ⟨rfl,(Below.refl _ _).alloc (Nat.le_refl _) _⟩
def jiZ {α:Type} (p:α->Bool) (l:List α):Int:=match l.findIdx? p with
 | some i=>(i:Int)
 | none => -1
theorem jrE {α:Type} {p:α->Bool} {l:List α} {k:Nat} {x:α} (F:l[k]? = some x) (E:p x=true) (D:(l.take k).all (fun y => !p y)=true):jiZ p l=k:=by
 have h:l.findIdx? p=some k:=by
  rw[List.findIdx?_eq_some_iff_getElem];obtain⟨A,B⟩:=List.getElem?_eq_some_iff.1 F;refine⟨A,by rw[B];exact E,fun j G=>?_⟩;have C:=List.all_eq_true.1 D (l[j]'(by omega)) (by rw[List.mem_take_iff_getElem];exact⟨j,by omega,rfl⟩);simpa using C
 simp[jiZ,h]
theorem jqg {α:Type} {p:α->Bool} {l:List α} (A:l.all (fun y => !p y)=true):jiZ p l = -1:=by
 have h:l.findIdx? p=none:=by
  rw[List.findIdx?_eq_none_iff];intro x B;simpa using List.all_eq_true.1 A x B
 simp[jiZ,h]
def jlw (fid:Nat) (capt:Array Value) (p:Gr->Bool) (w:World) (l:List Gr):Prop :=
 ∀ x∈l,∀ W,Bw w W->Calls Tryz.prog fid (#[x.agg]++capt) W fun e w'=>e=.returned (.bool (p x))/\Bw W w'
theorem jhj (a:Option Addr) (len cap:Nat) (l:List Gr) (C:Nat) (D:Array Value) (p:Gr->Bool) (w:World) (I:Grs w.heap.size w (.slice a len cap) l) (T:l.length<4294967281)
  (Z:∀ args w,(callFunc C args).run Tryz.prog w=.ok (.enter C args) w)
  (Q:jlw C D p w l) :
  CR 88 #[.slice a len cap,.func (.func C) #[] D] w (.int .i64 (jiZ p l)):=by
 obtain⟨H,-⟩:=SlAt.elems jcg I;subst H;have R:=Lib.hid Q;clear Q;go_enter Tryz.func88,Tryz.ntmps88;go_wp2_with fail;go_loopw [8] (fun i wr=>∃ k:Nat,i=.int .i64 k/\k<=l.length/\Bw w wr/\Hid ((l.take k).all (fun y => !p y)=true)) (fun i _=>l.length-(intOf i).toNat)
 case atStart=>exact⟨0,rfl,Nat.zero_le _,Below.refl _ _,rfl⟩
 case round =>
  obtain⟨k,rfl,c,F,M⟩:=hrel;by_cases N:k<l.length
  ·obtain⟨x,L⟩:∃ x,l[k]? = some x:=⟨_,List.getElem?_eq_getElem N⟩
   obtain⟨b,off,rfl,S,J⟩:=(SlAt.elems jcg (SlAt.below F I)).2 k x L;have V:wr.cell? ⟨b,off+k*3,none⟩=some (.int .u64 x.id):=J 0 (by omega);have X:wr.cell? ⟨b,off+k*3+1,none⟩=some (.int .u64 x.tnt):=J 1 (by omega);have Y:wr.cell? ⟨b,off+k*3+2,none⟩=some (.string x.scope.1):=J 2 (by omega);have A:=R.out x (List.mem_of_getElem? L) wr F;have O:=Lib.hid L;clear J L I;unfold Gr.agg at A
   cases B:p x with
   | true =>
    rw[B] at A;have E:=Lib.hid B;clear B;go_wp2_with fail;refine A.mono ?_;rintro e U ⟨rfl,G⟩;go_wp2_with fail;go_ret;exact⟨by rw[jrE O.out E.out M.out];rfl,F.trans (G.mono F.size)⟩
   | false =>
    rw[B] at A;have E:=Lib.hid B;clear B;go_wp2_with fail;refine A.mono ?_;rintro e U ⟨rfl,G⟩;go_wp2_with fail;go_roundw
    case rel=>exact⟨k+1,by go_num,by omega,F.trans (G.mono F.size),jvm l _ k x (jai O.out) (by simp[E.out]) M.out⟩
    case measure=>simp[intOf];omega
  ·obtain rfl:k=l.length:=by omega
   clear I;go_wp2_with fail;go_ret;have P:=M.out;rw[List.take_length] at P;exact⟨by rw[jqg P];rfl,F⟩
theorem jra {α:Type} (p:α->Bool) (l:List α):decide (0<=jiZ p l)=l.any p:=by
 unfold jiZ
 cases h:l.findIdx? p with
 | none =>
  rw[List.findIdx?_eq_none_iff] at h;have:l.any p=false:=by rw[List.any_eq_false];intro x C;simp[h x C]
  simp[this]
 | some i =>
  obtain⟨A,B,_⟩:=List.findIdx?_eq_some_iff_getElem.1 h;have:l.any p=true:=List.any_eq_true.2 ⟨_,List.getElem_mem A,B⟩;simp[this]
theorem jiS (a:Option Addr) (len cap:Nat) (l:List Gr) (B:Nat) (A:Array Value) (p:Gr->Bool) (w:World) (F:Grs w.heap.size w (.slice a len cap) l) (D:l.length<4294967281)
  (E:∀ args w,(callFunc B args).run Tryz.prog w=.ok (.enter B args) w)
  (G:jlw B A p w l) :
  CR 92 #[.slice a len cap,.func (.func B) #[] A] w (.bool (l.any p)):=by
 have I:=jhj a len cap l B A p w F D E G;have H:=Lib.hid (jra p l);clear G F E;go_enter Tryz.func92,Tryz.ntmps92;go_wp2_with (go_at_call 88;refine I.mono ?_;rintro e J ⟨rfl,C⟩);go_ret;exact⟨by rw[<- H.out];rfl,C⟩
def jfG (tnt:Int) (ls:List Lab) (x:Gr):Bool:=x.tnt==tnt&&((jbM x.scope ls).2==0&&(jbM x.scope ls).1)
theorem jqn (x:Gr) (A:Int) (Q R:Nat) (M:Option Addr) (cap:Nat) (C:List ji3) (w:World) (G:Boxed w Q 48 (.int .u64 A)) (H:Boxed w R 58 (.slice M C.length cap)) (N:Labs w.heap.size w (.slice M C.length cap) (C.map (·.1))) (T:GW w) (S:C.length<4294967281) :
  Calls Tryz.prog 93 (#[x.agg]++#[.pointer (some ⟨Q,0,none⟩),.pointer (some ⟨R,0,none⟩)]) w fun e w'=>e=.returned (.bool (jfG A (C.map (·.1)) x))/\Bw w w':=by
 have V:=G.cell;have X:=H.cell;have Y:=G.lt;have Z:=H.lt;have D:Bw w (w.alloc (.cells #[.int .u64 x.id,.int .u64 x.tnt,.string x.scope.1] 85)):=(Below.refl _ w).alloc (Nat.le_refl _) _;have I:=jqb x.scope M cap C _ ((SlAt.below D N).mono D.size) (T.below D) S;unfold Gr.agg;simp only[List.append_toArray,List.cons_append,List.nil_append];by_cases ht:x.tnt=A
 ·have O:(x.tnt != A)=false:=by simp[ht]
  have L:=Lib.hid ht;clear ht G H N;generalize hmm:jbM x.scope (C.map (·.1))=mm at I;have P:=Lib.hid hmm;clear hmm;by_cases E:mm.2=0
  ·have F:(mm.2==0)=true:=by simp[E]
   have J:=Lib.hid E;clear E;go_enter Tryz.func93,Tryz.ntmps93;go_wp2_with (go_at_call 29;refine I.mono ?_;rintro e U ⟨rfl,B⟩);go_ret;exact⟨by simp only[jfG,P.out,L.out,J.out];simp,D.trans (B.mono (by simp))⟩
  ·have F:(mm.2==0)=false:=by rw[beq_eq_false_iff_ne];exact E
   have J:=Lib.hid F;clear E;go_enter Tryz.func93,Tryz.ntmps93;go_wp2_with (go_at_call 29;refine I.mono ?_;rintro e U ⟨rfl,B⟩);go_ret;exact⟨by simp only[jfG,P.out,J.out];simp,D.trans (B.mono (by simp))⟩
 ·have O:(x.tnt != A)=true:=by simp[ht]
  have L:Hid ((x.tnt==A)=false):=by rw[Hid,beq_eq_false_iff_ne];exact ht
  clear ht G H N I;go_enter Tryz.func93,Tryz.ntmps93;go_wp2_with fail;go_ret;exact⟨by simp[jfG,L.out],D⟩
def jhW (g:jcs) (tnt:Int) (ls:List Lab):Bool:=jcK g&&g.l.any (jfG tnt ls)
theorem jgK {g:jcs} (h:jcK g=true):g.l.length<=10/\1<=g.next:=by
 simp only[jcK,Bool.and_eq_true,decide_eq_true_eq,Bool.not_eq_true',decide_eq_false_iff_not] at h;exact⟨h.1.2,by omega⟩
theorem jiR (g:jcs) (a:Option Addr) (len cap:Nat) (D:Int) (I:Option Addr) (C:Nat) (E:List ji3) (w:World) (i:Grs w.heap.size w (.slice a len cap) g.l) (T:Labs w.heap.size w (.slice I E.length C) (E.map (·.1))) (h:GW w) (q:E.length<4294967281) :
  CR 48 #[.agg #[.int .u64 g.next,.slice a len cap],.int .u64 D,.slice I E.length C] w (.bool (jhW g D (E.map (·.1)))):=by
 have A:Bw w (w.alloc (.cells #[.int .u64 g.next,.slice a len cap] 51)):=(Below.refl _ w).alloc (Nat.le_refl _) _;have k:=World.alloc_heap_new w (.cells #[.int .u64 g.next,.slice a len cap] 51);obtain⟨b,V,P,Q,B,Z⟩:=jxF (w.alloc (.cells #[.int .u64 g.next,.slice a len cap] 51)) (.int .u64 D) 48 (.slice I E.length C) 58;rw[World.size_alloc] at P Q Z B;have G:Bw w b:=A.trans (B.mono (by omega));have H:=(B.block w.heap.size (by omega)).trans k;have o:=cCc H 0;have c:=cCc H 1;have j:=jed g a len cap b ((SlAt.below G i).mono G.size) (h.below G);simp at o c;clear A k B H;go_enter Tryz.func48,Tryz.ntmps48;go_wp2_with fail;refine j.mono ?_;rintro e M ⟨rfl,F⟩;clear V j;have t:=(F.cell (p:=⟨w.heap.size,1,none⟩) (by show w.heap.size<_;omega)).trans c;have d:=jcT F P.lt P;have f:=jcT F Q.lt Q;have A:Bw w M:=G.trans (F.mono (by omega));have s:=F.size
 cases hr:jcK g with
 | false =>
  have O:=Lib.hid hr;clear hr;go_wp2_with fail;go_ret;exact⟨by simp[jhW,O.out],A⟩
 | true =>
  have O:=Lib.hid hr;have N:=(jgK hr).1
  have m:jlw 93 #[.pointer (some ⟨w.heap.size+1,0,none⟩),.pointer (some ⟨w.heap.size+1+1,0,none⟩)] (jfG D (E.map (·.1))) M g.l:=by
   intro x _ W U;have B:Bw w W:=A.trans (U.mono A.size);have S:Labs W.heap.size W (.slice I E.length C) (E.map (·.1)):=(SlAt.below B T).mono B.size;exact jqn x D (w.heap.size+1) (w.heap.size+1+1) I C E W (jcT U d.lt d) (jcT U f.lt f) S (h.below B) q
  have Y:g.l.length<4294967281:=by omega
  have R:Grs M.heap.size M (.slice a len cap) g.l:=(SlAt.below A i).mono A.size;have L:∀ args w,(callFunc 93 args).run Tryz.prog w=.ok (.enter 93 args) w:=enters_of Tryz.func93 (by kernel_rfl) rfl;have J:=jiS a len cap g.l _ _ _ M R Y L m;have n:=Lib.hid J;clear m L J;clear hr;go_wp2_with (go_at_call 92;refine n.out.mono ?_;rintro e u ⟨rfl,X⟩);go_ret;have r:jhW g D (E.map (·.1))=g.l.any (jfG D (E.map (·.1))):=by simp only[jhW,O.out,Bool.true_and]
  exact⟨by rw[r];rfl,A.trans (X.mono A.size)⟩
end Go.Proofs.YtafhpamnegmilaaGreatDoor
