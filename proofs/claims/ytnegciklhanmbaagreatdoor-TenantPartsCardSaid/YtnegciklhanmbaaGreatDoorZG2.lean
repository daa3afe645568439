/- strings.SplitSeq at a separator of one byte ';'. Package scope: read, Right. Package scope: Means. The plain law of tables: labels are in a strict order; a series put in is inserted; two of different labels may be put in either way about. No program. series.Meant; what a scope means, in plain data. Package grant: Right, New, the library's IndexFunc, ContainsFunc; May. -/
import Derived.Test.YtnegciklhanmbaaGreatDoorZS4
import Derived.Test.YtnegciklhanmbaaGreatDoorZA2
set_option maxHeartbeats 4000000
set_option maxRecDepth 100000
namespace Go.Proofs.YtnegciklhanmbaaGreatDoor
open Go Go.RowKit Go.Shelf
section
attribute [local go_sem] Oper.semAt_some
abbrev jcL:={ s:ByteArray // s.size<4294967281 }
def jx5:ByteArray:=⟨#[59]⟩
def jgM (s:ByteArray):Option Nat:=if Lib.indexByte s.data.toList 59<0 then none else some (Lib.indexByte s.data.toList 59).toNat
theorem jgC:∀ (l:List UInt8) (c:UInt8),Lib.indexByte l c<l.length
 | [],_=>by simp[Lib.indexByte]
 | b::l,c=>by
  have:=jgC l c;simp only[Lib.indexByte,List.length_cons];split
  ·omega
  ·split<;>omega
theorem jfp {s:ByteArray} {k:Nat} (h:jgM s=some k):Lib.indexByte s.data.toList 59=(k:Int)/\k<s.size:=by
 unfold jgM at h;split at h
 ·cases h
 ·cases h
  have:=jgC s.data.toList 59;rw[Lib.size_eq];omega
theorem jmY {s:ByteArray} (h:jgM s=none):Lib.indexByte s.data.toList 59<0:=by
 unfold jgM at h;split at h
 ·assumption
 ·cases h
theorem jdo (s:ByteArray) (a b:Nat):(s.extract a b).size<=s.size:=by simp[ByteArray.size_extract];omega
def jfq:Nat->jcL->List jcL
 | 0,s=>[s]
 | f+1,s=>match jgM s.1 with
  | none=>[s]
  | some k=>⟨s.1.extract 0 k,Nat.lt_of_le_of_lt (jdo _ _ _) s.2⟩::jfq f ⟨s.1.extract (k+1) s.1.size,Nat.lt_of_le_of_lt (jdo _ _ _) s.2⟩
theorem jgN:∀ (f g:Nat) (s:jcL),s.1.size<f->s.1.size<g->jfq f s=jfq g s
 | 0,_,_,h,_=>by omega
 | _,0,_,_,h=>by omega
 | f+1,g+1,s,hf,hg=>by
  simp only[jfq];split
  ·rfl
  ·rename_i k A
   have:=(jfp A).2;rw[jgN f g _ (by simp[ByteArray.size_extract];omega) (by simp[ByteArray.size_extract];omega)]
def jeF (s:jcL):List jcL:=jfq (s.1.size+1) s
theorem jm9 (s:jcL) (h:jgM s.1=none):jeF s=[s]:=by simp[jeF,jfq,h]
theorem jna (s:jcL) (k:Nat) (h:jgM s.1=some k):jeF s=⟨s.1.extract 0 k,Nat.lt_of_le_of_lt (jdo _ _ _) s.2⟩::jeF ⟨s.1.extract (k+1) s.1.size,Nat.lt_of_le_of_lt (jdo _ _ _) s.2⟩:=by
 have:=(jfp h).2;have e:=jgN s.1.size ((s.1.extract (k+1) s.1.size).size+1) ⟨s.1.extract (k+1) s.1.size,Nat.lt_of_le_of_lt (jdo _ _ _) s.2⟩ (by simp[ByteArray.size_extract];omega) (by simp);unfold jeF;rw[<- e];simp only[jfq,h]
def jql (b:Nat) (w:World):Nat:=match w.cell? ⟨b,0,none⟩ with | some (.string s)=>s.size | _=>0
theorem jkU {b t:Nat} {w:World} {s:ByteArray} (h:Boxed w b t (.string s)):jql b w=s.size:=by simp[jql,h.cell]
def jfy (b:Nat) (W W':World):Prop:=W'.heap[b]? = W.heap[b]? /\ W'.heap[b+1]? = W.heap[b+1]? /\ W'.heap[b+2]? = W.heap[b+2]?
theorem jfY {b:Nat} {A B C:World} (h:jfy b A B) (k:jfy b B C):jfy b A C:=⟨k.1.trans h.1,k.2.1.trans h.2.1,k.2.2.trans h.2.2⟩
theorem jkE (s A:ByteArray) (w:World):Calls Tryz.prog 131 #[.string s,.string A] w fun e w' =>
  e=.returned (.func (.func 203) #[] #[.pointer (some ⟨w.heap.size+1,0,none⟩),.pointer (some ⟨w.heap.size,0,none⟩),.pointer (some ⟨w.heap.size+1+1,0,none⟩)]) /\
   w'=((w.alloc (.cells #[.string s] 9)).alloc (.cells #[.string A] 9)).alloc (.cells #[.int .i64 0] 3):=by
 go_enter Tryz.func131,Tryz.ntmps131;go_wp2;go_ret;exact⟨rfl,rfl⟩
theorem jiw (b:Nat) (s:jcL) (w:World) (Y:Boxed w b 9 (.string s.1)) (Z:Boxed w (b+1) 9 (.string jx5)) (a:Boxed w (b+2) 3 (.int .i64 0)) :
  jhe Tryz.prog 203 #[.pointer (some ⟨b+1,0,none⟩),.pointer (some ⟨b,0,none⟩),.pointer (some ⟨b+2,0,none⟩)] (fun x:jcL=>#[.string x.1]) (jfy b) b (jeF s) w:=fun l J Jx W d q t m c=>by
 have M:=jcA d Y.lt Y;have D:=jcA d Z.lt Z;have N:=jcA d a.lt a;have c1:=D.cell;clear Y Z a;refine callsIn_of_wp Tryz.func203 rfl trivial ?_ rfl;simp only[Tryz.ntmps203,List.size_toArray,List.length_cons,List.length_nil,Nat.reduceAdd,Nat.reduceSub,Array.replicate_succ,Array.replicate_zero,List.push_toArray,List.append_toArray,List.nil_append,List.cons_append];unfold jx5 at c1 D;gi_wp2_with fail;gi_loopw [] (fun wr=>∃ (A:jcL) (B:List jcL),Boxed wr b 9 (.string A.1)/\Boxed wr (b+1) 9 (.string ⟨#[59]⟩)/\Boxed wr (b+2) 3 (.int .i64 0)/\J B wr/\jeF s=B++jeF A/\W.heap.size<=wr.heap.size) (fun wr=>jql b wr)
 case atStart=>exact⟨s,[],M,D,N,c,rfl,Nat.le_refl _⟩
 case round =>
  obtain⟨A,B,U,i,j,G,Q,R⟩:=hrel;have X:=Lib.hid Q;have z:=U.cell;have q1:=i.cell;have q2:=j.cell;have f:=jkU U;have E:=Tryz.strings_Index_one A.1 59 wr;clear M D N c1 Q
  cases I:jgM A.1 with
  | none =>
   have n:=jmY I;have S:=Lib.hid (jm9 A I);obtain⟨p,tmps,assign,body,g,T⟩:=m B A wr G R;clear I;have P:Hid (B++[A]=jeF s):=by rw[X.out,S.out];rfl
   gi_wp2_with fail
   refine⟨trivial,(callsIn_wide.2 E).mono ?_⟩;rintro e w' ⟨rfl,rfl⟩;gi_wp2_with fail;refine T.mono ?_;rintro e L (⟨rfl,F,_,_⟩ | ⟨rfl,C,_⟩)
   ·gi_wp2_with fail
    go_end0;exact⟨⟨_,rfl⟩,.inl (by rw[<- P.out];exact F)⟩
   ·gi_wp2_with fail
    go_end0;exact⟨⟨_,rfl⟩,.inr ⟨_,by rw[P.out];exact List.prefix_refl _,C⟩⟩
  | some k =>
   obtain⟨O,v⟩:=jfp I;have S:=Lib.hid (jna A k I);have u:=A.2;obtain⟨p,tmps,assign,body,g,T⟩:=m B ⟨A.1.extract 0 k,Nat.lt_of_le_of_lt (jdo _ _ _) A.2⟩ wr G R;rw[O] at E;clear I O;dsimp only at g;gi_wp2_with fail;refine⟨trivial,(callsIn_wide.2 E).mono ?_⟩;rintro e w' ⟨rfl,rfl⟩;clear E;gi_wp2_with fail;refine T.mono ?_;rintro e L (⟨rfl,F,H,h⟩ | ⟨rfl,C,h⟩)
   ·have V:Boxed L b 9 (.string A.1):=H.1.trans U
    have o:Boxed L (b+1) 9 (.string ⟨#[59]⟩):=H.2.1.trans i;have y:Boxed L (b+2) 3 (.int .i64 0):=H.2.2.trans j;have r0:=V.cell;have r1:=o.cell;have r2:=V.frozen;clear U i j z q1 q2 g T G;gi_wp2_with fail;go_roundw
    case rel =>
     refine⟨⟨A.1.extract (k+1) A.1.size,Nat.lt_of_le_of_lt (jdo _ _ _) A.2⟩,B++[⟨A.1.extract 0 k,Nat.lt_of_le_of_lt (jdo _ _ _) A.2⟩],V.set _,o.other (by omega) _,y.other (by omega) _,q _ _ _ (some b) F (grownBy_setCell' _ _ _) (fun r e=>by cases e;rfl) (by omega),?_,?_⟩
     ·rw[X.out,S.out];simp
     ·have:=(KeepsWalks.setCell L ⟨b,0,none⟩ (.string (A.1.extract (k+1) A.1.size))).size;omega
    case measure =>
     rw[jkU (V.set _),f];simp[ByteArray.size_extract];omega
   ·gi_wp2_with fail
    refine bodyPost_ret (results_none rfl _ _ _) rfl ?_;exact⟨⟨_,rfl⟩,.inr ⟨_,by rw[X.out,S.out];simp,C⟩⟩
end
section
attribute [local go_sem] Oper.semAt_some
def jig (s:ByteArray):ByteArray × ByteArray × Bool:=(⟨(Lib.cut s.data.toList [61]).1.toArray⟩,⟨(Lib.cut s.data.toList [61]).2.1.toArray⟩,(Lib.cut s.data.toList [61]).2.2)
theorem jk6 (s:ByteArray):(jig s).1.size<=s.size/\(jig s).2.1.size<=s.size:=by
 have e:=Lib.size_eq s
 have A:(Lib.cut s.data.toList [61]).1.length<=s.data.toList.length/\(Lib.cut s.data.toList [61]).2.1.length<=s.data.toList.length:=by
  unfold Lib.cut;split
  ·simp only[List.length_take,List.length_drop];omega
  ·simp
 rw[e];exact⟨by show Array.size _<=_;rw[List.size_toArray];exact A.1,by show Array.size _<=_;rw[List.size_toArray];exact A.2⟩
theorem jvM (s:ByteArray) (w:World) (C:s.size<4294967281) (A:GW w):CR 132 #[.string s,.string ⟨#[61]⟩] w (.tuple #[.string (jig s).1,.string (jig s).2.1,.bool (jig s).2.2]):=by
 obtain⟨m,B⟩:=A.maxLen;refine (Tryz.strings_Cut s ⟨#[61]⟩ m w C B).mono ?_;rintro e w' ⟨rfl,n,rfl⟩;exact⟨rfl,bDr (Below.refl _ _) n⟩
structure Term where
 name:ByteArray
 pat:ByteArray
def Term.enc (t:Term):List Value:=[.string t.name,.string t.pat]
def jbQ (x:jcL) (st:List Term × ByteArray):Option (List Term × ByteArray) :=
 if !(jig x.1).2.2||(st.1.length:Int)==4 || !jnZ (jig x.1).1||jkk (jig x.1).1 st.2 || !jnK (jig x.1).2.1 then none else some (st.1++[⟨(jig x.1).1,(jig x.1).2.1⟩],(jig x.1).1)
def jea (l:List jcL):Option (List Term × ByteArray):=l.foldl (fun st x=>st.bind (jbQ x)) (some ([],⟨#[]⟩))
theorem jmV (l:List jcL) (x:jcL):jea (l++[x])=(jea l).bind (jbQ x):=by simp[jea]
theorem jgb (l:List jcL):l.foldl (fun A x=>A.bind (jbQ x)) none=none:=by
 induction l with
 | nil=>rfl
 | cons x xs ih=>exact ih
theorem jka (B A:List jcL) (C:B <+: A) (h:jea B=none):jea A=none:=by
 obtain⟨t,rfl⟩:=C;unfold jea at h ⊢;rw[List.foldl_append,h,jgb]
def jfV (s:jcL):Option (List Term):=if s.1.size==0 then some [] else (jea (jeF s)).map (·.1)
theorem jlJ {x:jcL} {B A:List Term × ByteArray} (h:jbQ x B=some A) (D:B.1.length<=4):A.1.length<=4:=by
 unfold jbQ at h;split at h
 ·cases h
 ·rename_i C
  cases h
  simp at C;simp;omega
theorem ji6 (l:List jcL):∀ (A B:List Term × ByteArray),A.1.length<=4->l.foldl (fun B x=>B.bind (jbQ x)) (some A)=some B->B.1.length<=4:=by
 induction l with
 | nil=>intro A B C h;cases h;exact C
 | cons x xs ih =>
  intro A B C h;simp only[List.foldl_cons,Option.bind_some] at h
  cases D:jbQ x A with
  | none=>rw[D,jgb] at h;cases h
  | some st1=>rw[D] at h;exact ih st1 B (jlJ D C) h
def TermsAt (n₀:Nat) (w:World) (sv:Value) (l:List Term):Prop:=SlAt n₀ w sv l.length (l.flatMap Term.enc)
def jgZ (s:jcL) (w:World) (e:Ending) (w':World):Prop :=
 ∃ a len cap,e=.returned (.tuple #[.slice a len cap,.bool (jfV s).isSome])/\TermsAt w'.heap.size w' (.slice a len cap) ((jfV s).getD [])/\Bw w w'
theorem jq0:(Tryz.prog.info? 252).map (fun i=>(i.zero,i.size,i.bytes))=some (some (.agg #[.string ⟨#[]⟩,.string ⟨#[]⟩]),2,32):=by kernel_rfl
theorem jsL:Tryz.prog.underlying 183=some (.slice 252):=by kernel_rfl
def jw1 (n:Nat) (w:World) (pre:List jcL) (W:World):Prop :=
 ∃ v acc before,Boxed W n 183 v/\W.ownsRow (n+6) 252 2 v acc.length (acc.flatMap Term.enc)/\Boxed W (n+1) 4 (.bool true)/\Boxed W (n+2) 9 (.string before)/\jea pre=some (acc,before)/\Below n w W
theorem jr1 {n N:Nat} {w:World} (S:n<=w.heap.size) (P:n<=N):OwnX N (n+3) (jw1 n w):=fun s X Y row T B hr=>by
 obtain⟨v,C,A,I,E,J,L,M,O⟩:=T;refine⟨v,C,A,jg7 N (n+3) n _ (fun _:Unit=>v) (by omega) () X Y row I B hr,E.kept B ?_,jg7 N (n+3) (n+1) _ (fun _:Unit=>.bool true) (by omega) () X Y row J B hr,jg7 N (n+3) (n+2) _ (fun _:Unit=>.string A) (by omega) () X Y row L B hr,M,jiZ S P (by omega) () X Y row O B hr⟩;rcases E.2 with⟨rfl,_⟩ | ⟨g,cap,G,rfl,R,D,_⟩
 ·exact .inl rfl
 ·refine .inr (fun e=>?_)
  have H:row=some g:=by rw[<- e];rfl
  rcases hr g H with h | ⟨_,o,F,Q⟩
  ·omega
  ·rw[D] at F;cases F;cases Q
def jvV (n:Nat) (w:World) (c:Code) (pre:List jcL) (W:World):Prop:=Boxed W (n+1) 4 (.bool false)/\(c=.exit 0/\jea pre=none)/\Below n w W
theorem jr2 {n N:Nat} {w:World} (B:n<=w.heap.size) (A:n<=N) (c:Code):OwnX N (n+3) (jvV n w c) :=
 (jg7 _ _ _ _ _ (by omega)).and ((jrF _ _ _).and (jiZ B A (by omega)))
def RB (n:Nat) (w:World) (v:Value) (acc:List Term) (before:ByteArray) (W:World):Prop :=
 Boxed W n 183 v/\W.ownsRow (n+6) 252 2 v acc.length (acc.flatMap Term.enc)/\Boxed W (n+1) 4 (.bool true)/\Boxed W (n+2) 9 (.string before)/\Below n w W
theorem RB.below {n:Nat} {w:World} {v:Value} {B:List Term} {A:ByteArray} {W D:World} (h:RB n w v B A W) (hb:Bw W D):RB n w v B A D:=by
 obtain⟨C,G,E,F,H⟩:=h;have:=C.lt;exact⟨jcA hb C.lt C,jbp G (fun j _ I=>hb.block j I),jcA hb E.lt E,jcA hb F.lt F,H.trans (hb.mono (by omega))⟩
theorem jeB {b N:Nat} {W A:World} (h:Below N W A) (B:b+2<N):jfy b W A:=⟨h.block _ (by omega),h.block _ (by omega),h.block _ (by omega)⟩
theorem jeA {n N:Nat} {w:World} {v:Value} {D:List Term} {A:ByteArray} {W C:World} {B:List jcL} {x:jcL} (h:RB n w v D A C) (hK:KeepsFrom N W C) (E:jea (B++[x])=none) :
  KeepsFrom N W (C.setCell ⟨n+1,0,none⟩ (.bool false))/\jvV n w (.exit 0) (B++[x]) (C.setCell ⟨n+1,0,none⟩ (.bool false)) :=
 ⟨hK.trans ((KeepsOthers.setCell _ _ _).from _),h.2.2.1.set _,⟨rfl,E⟩,h.2.2.2.2.setCell (p:=⟨n+1,0,none⟩) (Nat.le_succ _) _⟩
theorem jte {W E:World} {B A e size n:Nat} {v:Value} {xs:List Value} (C:W.ownsRow A e size v n xs) (J:W.heap.size<=E.heap.size) (G:∀ k,k<W.heap.size->some k≠v.ownBlock->E.heap[k]? = W.heap[k]?):KeepsFrom B W E :=
 ⟨J,fun k o _ D I=>by
  refine (G k (Array.getElem?_eq_some_iff.1 D).1 (fun e=>?_)).trans D;rcases C.2 with⟨rfl,_⟩ | ⟨g,cap,F,rfl,_,H,_⟩
  ·cases e
  ·have:k=g:=by cases e;rfl
   subst this;rw[H] at D;cases D;cases I⟩
theorem jlD {w:World} {A e size n:Nat} {v:Value} {xs:List Value} (h:w.ownsRow A e size v n xs):∃ a cap,v=.slice a n cap:=by
 rcases h.2 with⟨rfl,rfl⟩ | ⟨g,cap,B,rfl,_⟩
 ·exact⟨none,0,rfl⟩
 ·exact⟨_,cap,rfl⟩
theorem juG (s:jcL) (w:World) (hG:GW w) (h0:¬ s.1.size=0):Calls Tryz.prog 90 #[.string s.1] w (jgZ s w):=by
 have az:s.1.toList.isEmpty=false:=by rw[jcz];simp[h0]
 have aA:¬ s.1.toList=[]:=by simpa using az
 refine jaq Tryz.func90 rfl ?_;simp only[Tryz.ntmps90,List.size_toArray,List.length_cons,List.length_nil,Nat.reduceAdd,Nat.reduceSub,Array.replicate_succ,Array.replicate_zero,List.push_toArray,List.append_toArray,List.nil_append,List.cons_append];go_wp2_with fail;go_step3;go_wp2_with fail;go_step3;go_wp2_with (go_at_call 131;refine (jkE _ _ _).mono ?_;rintro e w' ⟨rfl,rfl⟩);obtain⟨X,hX,b0,b1,b2,Z,al⟩:=jxS w (.slice none 0 0) 183 (.bool true) 4 (.string ⟨#[]⟩) 9;rw[hX];clear hX;obtain⟨q,af,d0,d1,d2,N,k⟩:=jxS X (.string s.1) 9 (.string ⟨#[59]⟩) 9 (.int .i64 0) 3;rw[af];clear af;rw[al] at d0 d1 d2 k;have z:=jcA N b0.lt b0;have aa:=jcA N b1.lt b1;have ab:=jcA N b2.lt b2;have Y:Bw w q:=Z.trans (N.mono Z.size);clear b0 b1 b2 Z N al;have ao:=hG.below Y
 refine jpI 7 (fun x:jcL=>.string x.1) (gf:=203) (lb:=#[.pointer (some ⟨w.heap.size+3+1,0,none⟩),.pointer (some ⟨w.heap.size+3,0,none⟩),.pointer (some ⟨w.heap.size+3+2,0,none⟩)]) rfl (enters_of Tryz.func203 (by kernel_rfl) rfl)
  (jiw (w.heap.size+3) s q d0 d1 d2) (by omega) jfY (fun W l o o' hl ho hc hw => ?kb) (fun _=>rfl) (jw1 w.heap.size w) (jvV w.heap.size w) (jr1 (Nat.le_refl _) (by omega)) (jr2 (Nat.le_refl _) (by omega))
  ⟨_,[],⟨#[]⟩,z,World.ownsRow_nil _ _ _ _,aa,ab,rfl,Y⟩ ?assign ?body ?done ?stop
 case kb=>exact⟨World.putObj_heap_other (by omega),World.putObj_heap_other (by omega),World.putObj_heap_other (by omega)⟩
 case assign =>
  rintro l x W K hK;simp only[List.zip_toArray,List.zip_cons_cons,List.zip_nil_right,List.size_toArray,List.foldl_toArray',List.foldl_cons,List.foldl_nil,List.setIfInBounds_toArray,List.set_cons_succ,List.set_cons_zero] at hK ⊢;gi_wp2;exact hK
 case body =>
  rintro l n x W ⟨v,B,A,k0,r,t,k3,H,V⟩ aC;simp only[List.zip_toArray,List.zip_cons_cons,List.zip_nil_right,List.size_toArray,List.foldl_toArray',List.foldl_cons,List.foldl_nil,List.setIfInBounds_toArray,List.set_cons_succ,List.set_cons_zero];have hcut:=jvM x.1 W x.2 (hG.below V);have C:Hid (jea (n++[x])=jbQ x (B,A)):=by rw[jmV,H];rfl
  have aj:=ji6 n _ _ (by simp) H;dsimp only at aj;obtain⟨va,vc,rfl⟩:=jlD r;have am:RB w.heap.size w _ B A W:=⟨k0,r,t,k3,V⟩;have aq:=hG.below V;have ag:=jk6 x.1;have aD:=x.2;have G:Hid (∀ b,b=(!(jig x.1).2.2||(B.length:Int)==4 || !jnZ (jig x.1).1||jkk (jig x.1).1 A || !jnK (jig x.1).2.1)->jbQ x (B,A)=if b then none else some (B++[⟨(jig x.1).1,(jig x.1).2.1⟩],(jig x.1).1)):=fun b hb=>by subst hb;rfl
  clear k0 r t k3 H d0 d1 d2 z aa ab Y ao;generalize (jig x.1).1=nm at hcut ag G;generalize (jig x.1).2.1=pt at hcut ag G;generalize (jig x.1).2.2=fd at hcut G;have aB:=am.2.2.2.1.lt;gi_wp2_with fail;refine⟨trivial,(CallsIn.inRound l (callsIn_wide.2 hcut)).mono ?_⟩;rintro e w1 ⟨rfl,L⟩;have I:=am.below L;have f:KeepsFrom q.heap.size W w1:=jgw L (Nat.le_refl _);have au:jfy (w.heap.size+3) W w1:=jeB L (by omega);have ad:=aq.below L;have aE:=L.size;clear hcut L;have z0:=I.1.cell;have u:=I.2.2.1.cell;have z2:=I.2.2.1.frozen;have z3:=I.2.2.2.1.cell;have z4:=I.2.2.2.1.frozen;have z5:=I.1.frozen
  cases fd with
  | false =>
   gi_wp2_with fail
   refine⟨trivial,?_⟩;gi_wp2_with fail;refine⟨trivial,?_⟩;gi_wp2_with fail;exact jeA I f (C.out.trans (G.out true (by simp)))
  | true =>
   by_cases h4:B.length=4
   ·have U:((B.length:Int)==4)=true:=by simp[h4]
    have H4:=Lib.hid U;clear h4;gi_wp2_with fail;refine⟨trivial,?_⟩;gi_wp2_with fail;refine⟨trivial,?_⟩;gi_wp2_with fail;exact jeA I f (C.out.trans (G.out true (by rw[H4.out];simp)))
   ·have U:((B.length:Int)==4)=false:=by rw[beq_eq_false_iff_ne];omega
    have H4:=Lib.hid U;have ah:=jlO nm w1 (by omega) ad;clear h4;gi_wp2_with fail;refine⟨trivial,(CallsIn.inRound l (callsIn_wide.2 ah)).mono ?_⟩;rintro e w2 ⟨rfl,M⟩;have J:=I.below M;have h:KeepsFrom q.heap.size W w2:=f.trans (jgw M (Nat.le_refl _));have av:jfy (w.heap.size+3) W w2:=jfY au (jeB M (by omega));have ap:=ad.below M;have aF:=M.size;clear ah M z0 u z2 z3 z4 z5;have z0:=J.1.cell;have u:=J.2.2.1.cell;have z2:=J.2.2.1.frozen;have z3:=J.2.2.2.1.cell;have z4:=J.2.2.2.1.frozen;have z5:=J.1.frozen
    cases S:jnZ nm with
    | false =>
     have HN:=Lib.hid S;clear S;gi_wp2_with fail;refine⟨trivial,?_⟩;gi_wp2_with fail;exact jeA J h (C.out.trans (G.out true (by rw[HN.out];simp)))
    | true =>
     have HN:=Lib.hid S;clear S
     cases P:jkk nm A with
     | true =>
      have HL:=Lib.hid P;unfold jkk at P;gi_wp2_with fail;refine⟨trivial,?_⟩;gi_wp2_with fail;exact jeA J h (C.out.trans (G.out true (by rw[HL.out];simp)))
     | false =>
      have HL:=Lib.hid P;unfold jkk at P;have ai:=jjm pt w2 (by omega) ap;gi_wp2_with fail;refine⟨trivial,(CallsIn.inRound l (callsIn_wide.2 ai)).mono ?_⟩;rintro e w3 ⟨rfl,O⟩;have E:=J.below O;have ae:KeepsFrom q.heap.size W w3:=h.trans (jgw O (Nat.le_refl _));have aw:jfy (w.heap.size+3) W w3:=jfY av (jeB O (by omega));have aG:=O.size;clear ai O z0 u z2 z3 z4 z5 P;have z0:=E.1.cell;have u:=E.2.2.1.cell;have z2:=E.2.2.1.frozen;have z3:=E.2.2.2.1.cell;have z4:=E.2.2.2.1.frozen;have z5:=E.1.frozen
      cases T:jnK pt with
      | false =>
       have HP:=Lib.hid T;clear T;gi_wp2_with fail;exact jeA E ae (C.out.trans (G.out true (by rw[HP.out];simp)))
      | true =>
       have HP:=Lib.hid T;clear T;have m:=Lib.hid (C.out.trans (G.out false (by rw[H4.out,HN.out,HL.out,HP.out];rfl)));obtain⟨g,ac,w4,ay,i,an,aH,F,Q⟩:=jap Tryz.prog 183 jsL jq0 rfl (by decide) E.2.1 E.2.2.2.2 (by omega) (by omega) [.string nm,.string pt] rfl (by simp[Value.oneCell']) (by omega) (by decide);have e0:Boxed w4 w.heap.size 183 _:=(F _ (by omega)).trans E.1;have e1:Boxed w4 (w.heap.size+1) 4 _:=(F _ (by omega)).trans E.2.2.1;have e2:Boxed w4 (w.heap.size+2) 9 _:=(F _ (by omega)).trans E.2.2.2.1;have ax:jfy (w.heap.size+3) w3 w4:=⟨F _ (by omega),F _ (by omega),F _ (by omega)⟩;have ar:KeepsFrom q.heap.size w3 w4:=jte E.2.1 (by omega) Q;have y0:=e0.cell;have y1:=e0.frozen;have y2:=e2.cell;have y3:=e2.frozen;clear F Q;gi_wp2_with (gi_at_builtin;refine jiA rfl _ _ _ rfl rfl rfl ay ?_);refine⟨(ae.trans ar).trans (((KeepsOthers.setCell _ _ _).from _).trans ((KeepsOthers.setCell _ _ _).from _)),jfY (jfY aw ax) ⟨?_,?_,?_⟩,_,B++[⟨nm,pt⟩],nm,(e0.set _).other (by omega) _,?_,(e1.other (by omega) _).other (by omega) _,(e2.other (by omega) _).set _,by simpa using m.out,(an.setCell (p:=⟨w.heap.size,0,none⟩) (Nat.le_refl _) _).setCell (p:=⟨w.heap.size+1+1,0,none⟩) (by show w.heap.size<=w.heap.size+1+1;omega) _⟩
       ·exact (Below.heap_setCell _ _ _ _ (by show w.heap.size+3≠w.heap.size+1+1;omega)).trans (Below.heap_setCell _ _ _ _ (by show w.heap.size+3≠w.heap.size;omega))
       ·exact (Below.heap_setCell _ _ _ _ (by show w.heap.size+3+1≠w.heap.size+1+1;omega)).trans (Below.heap_setCell _ _ _ _ (by show w.heap.size+3+1≠w.heap.size;omega))
       ·exact (Below.heap_setCell _ _ _ _ (by show w.heap.size+3+2≠w.heap.size+1+1;omega)).trans (Below.heap_setCell _ _ _ _ (by show w.heap.size+3+2≠w.heap.size;omega))
       ·have hq:=ownsRow_setCell_below (ownsRow_setCell_below i (a:=⟨w.heap.size,0,none⟩) (by show w.heap.size<_;omega) (.slice (some ⟨g,0,none⟩) (B.length+1) ac)) (a:=⟨w.heap.size+1+1,0,none⟩) (by show w.heap.size+1+1<_;omega) (.string nm)
        simpa [Term.enc] using hq
 case done =>
  rintro D W hD ⟨v,B,A,k0,r,t,k3,H,V⟩ hK;obtain⟨va,vc,rfl⟩:=jlD r;have z0:=k0.cell;have u:=t.cell;have d:w.heap.size<=D:=by omega
  have R:jfV s=some B:=by simp[jfV,h0,H]
  have y:=Lib.hid R;have j:=jee V d hK;have ak:=ownsRow_putObj r (.deferred none) hK rfl;clear k R H;go_wp2_with fail;rw[Exit.noGoto_ret];refine jau hK (results_tmp2 rfl _ _ _) ⟨va,B.length,vc,by rw[y.out];rfl,?_,j⟩;rw[y.out];exact jeD ak
 case stop =>
  rintro D c n W hD hp ⟨t,⟨rfl,H⟩,V⟩ hK;have u:=t.cell;have d:w.heap.size<=D:=by omega
  have R:jfV s=none:=by simp[jfV,h0,jka _ _ hp H]
  have y:=Lib.hid R;have j:=jee V d hK;clear k R H;go_wp2_with fail;rw[Exit.noGoto_ret];exact jau hK (results_tmp2 rfl _ _ _) ⟨none,0,0,by rw[y.out];rfl,by rw[y.out];exact .inl ⟨rfl,rfl,rfl⟩,j⟩
theorem jnX (s:jcL) (w:World) (E:GW w):Calls Tryz.prog 90 #[.string s.1] w (jgZ s w):=by
 by_cases B:s.1.size=0
 ·have C:s.1.toList.isEmpty=true:=by rw[jcz];simp[B]
  have F:s.1.toList=[]:=by simpa using C
  have A:jfV s=some []:=by simp[jfV,B]
  have D:=Lib.hid A;clear A B;refine jaq Tryz.func90 rfl ?_;simp only[Tryz.ntmps90,List.size_toArray,List.length_cons,List.length_nil,Nat.reduceAdd,Nat.reduceSub,Array.replicate_succ,Array.replicate_zero,List.push_toArray,List.append_toArray,List.nil_append,List.cons_append];go_wp2_with fail;go_step3;go_wp2_with fail;rw[Exit.noGoto_ret];exact jb1 (results_tmp2 rfl _ _ _) rfl ⟨none,0,0,by rw[D.out];rfl,by rw[D.out];exact .inl ⟨rfl,rfl,rfl⟩,Below.refl _ _⟩
 ·exact juG s w E B
def jfo (s:jcL):Bool:=(jfV s).isSome
theorem jmX (s:jcL) (w:World) (B:GW w):CR 49 #[.string s.1] w (.bool (jfo s)):=by
 have hr:=jnX s w B;go_enter Tryz.func49,Tryz.ntmps49;go_wp2_with (go_at_call 90;refine hr.mono ?_;rintro e C ⟨a,len,cap,rfl,-,A⟩);go_ret;exact⟨rfl,A⟩
end
theorem jpA (A:List Term) (j:Nat) (x:Term) (h:A[j]? = some x):(A.flatMap Term.enc)[j*2]? = some (.string x.name)/\(A.flatMap Term.enc)[j*2+1]? = some (.string x.pat):=by
 induction A generalizing j with
 | nil=>simp at h
 | cons y ys ih =>
  cases j with
  | zero=>simp at h;subst h;simp[Term.enc]
  | succ j =>
   have:=ih j (by simpa using h);rw[show (j+1)*2=j*2+2 by omega];simp only[List.flatMap_cons,Term.enc,List.cons_append,List.nil_append,List.getElem?_cons_succ];exact this
theorem jsv (A:List Term):(A.flatMap Term.enc).length=A.length*2:=by
 induction A with
 | nil=>rfl
 | cons y ys ih=>simp[List.flatMap_cons,Term.enc,ih];omega
theorem TermsAt.cells {F:Nat} {w:World} {a:Option Addr} {len cap:Nat} {A:List Term} (h:TermsAt F w (.slice a len cap) A):len=A.length/\∀ j x,A[j]? = some x ->
  ∃ b off,a=some ⟨b,off,none⟩/\b<F/\w.cell? ⟨b,off+j*2,none⟩=some (.string x.name)/\w.cell? ⟨b,off+j*2+1,none⟩=some (.string x.pat):=by
 rcases h with⟨h,G,_⟩ | ⟨b,off,B,e,hb,D⟩
 ·obtain⟨rfl,rfl,rfl⟩:a=none/\len=0/\cap=0:=by simpa using h
  have:A=[]:=by simpa using G
  subst this;exact⟨rfl,fun i x C=>by simp at C⟩
 ·obtain⟨rfl,rfl,rfl⟩:a=some ⟨b,off,none⟩/\len=A.length/\cap=B:=by simpa using e
  refine⟨rfl,fun j x C=>⟨b,off,rfl,hb,?_⟩⟩;have H:=(List.getElem?_eq_some_iff.1 C).1;have E:=jpA A j x C;rw[jsv] at D;exact⟨(D (j*2) (by omega)).trans E.1,(D (j*2+1) (by omega)).trans E.2⟩
theorem jva {α:Type} (l:List α) (f:α->Bool) (k:Nat) (x:α) (h:l.take (k+1)=l.take k++[x]) (B:f x=false):l.all f=false:=by
 have A:=List.take_append_drop (k+1) l;rw[<- A,List.all_append,h,List.all_append,List.all_cons,B];simp
theorem jv2 {α:Type} (l:List α) (f:α->Bool) (k:Nat) (x:α) (h:l.take (k+1)=l.take k++[x]) (A:f x=true) (ht:(l.take k).all f=true):(l.take (k+1)).all f=true:=by
 rw[h,List.all_append,ht,List.all_cons,A];rfl
def jh9 (ls:List Lab) (t:Term):Bool:=match jcD ls t.name with
 | none=>false
 | some v=>jin t.pat v
def jc7 (s:jcL) (ls:List Lab):Bool × Int:=match jfV s with
 | none=>(false,50)
 | some ts=>if jai ls then (ts.all (jh9 ls),0) else (false,50)
theorem jlI (l:List jcL):∀ (A B:List Term × ByteArray),(∀ t∈A.1,t.name.size<4294967281/\t.pat.size<4294967281)->l.foldl (fun B x=>B.bind (jbQ x)) (some A)=some B->∀ t∈B.1,t.name.size<4294967281/\t.pat.size<4294967281:=by
 induction l with
 | nil=>intro A B D h;cases h;exact D
 | cons x xs ih =>
  intro A B D h;simp only[List.foldl_cons,Option.bind_some] at h
  cases C:jbQ x A with
  | none=>rw[C,jgb] at h;cases h
  | some st1 =>
   rw[C] at h;refine ih st1 B ?_ h;unfold jbQ at C;split at C
   ·cases C
   ·cases C
    intro t ht;simp only[List.mem_append,List.mem_singleton] at ht;rcases ht with ht | rfl
    ·exact D t ht
    ·have:=jk6 x.1;have:=x.2;exact⟨by dsimp only;omega,by dsimp only;omega⟩
theorem jmU (s:jcL) (A:List Term) (h:jfV s=some A):A.length<=4/\∀ t∈A,t.name.size<4294967281/\t.pat.size<4294967281:=by
 unfold jfV at h;split at h
 ·cases h;simp
 ·cases hr:jea (jeF s) with
  | none=>rw[hr] at h;cases h
  | some st =>
   rw[hr] at h
   cases h
   exact⟨ji6 _ _ _ (by simp) hr,jlI _ _ _ (by simp) hr⟩
theorem jhJ:∀ (A:List jif) (n v:ByteArray),jcD (A.map (·.1)) n=some v->v.size<4294967281
 | [],_,_,h=>by simp[jcD] at h
 | x::xs,n,v,h=>by
  simp only[List.map_cons,jcD] at h;split at h
  ·cases h;exact x.2.2
  ·exact jhJ xs n v h
theorem jpR (s:jcL) (o:Option Addr) (cap:Nat) (B:List jif) (w:World) (hL:Labs w.heap.size w (.slice o B.length cap) (B.map (·.1))) (z:GW w) (h3:B.length<4294967281) :
  CR 93 #[.string s.1,.slice o B.length cap] w (.tuple #[.bool (jc7 s (B.map (·.1))).1,.int .i64 (jc7 s (B.map (·.1))).2]):=by
 have hr:=jnX s w z
 cases D:jfV s with
 | none =>
  have V:=Lib.hid D;unfold jgZ at hr;rw[D] at hr;clear D;go_enter Tryz.func93,Tryz.ntmps93;go_wp2_with (go_at_call 90;refine hr.mono ?_;rintro e t ⟨a,len,cap,rfl,-,A⟩);go_ret2;exact⟨by simp[jc7,V.out],A⟩
 | some ts =>
  obtain⟨ai,g⟩:=jmU s ts D;have V:=Lib.hid D;have HZ:=Lib.hid g;unfold jgZ at hr;rw[D] at hr;clear D g;go_enter Tryz.func93,Tryz.ntmps93;go_wp2_with (go_at_call 90;refine hr.mono ?_;rintro e t ⟨a,len,ae,rfl,U,A⟩);have f:=jbf o cap B t ((SlAt.below A hL).mono A.size) (z.below A) h3;simp only[Option.getD_some] at U;clear hr;refine f.mono ?_;rintro e m ⟨rfl,F⟩;clear f;obtain⟨d,-⟩:=U.cells;subst d
  cases L:jai (B.map (·.1)) with
  | false =>
   have Y:=Lib.hid L;clear L;go_wp2_with fail;go_ret2;exact⟨by simp only[jc7,V.out,Y.out];rfl,A.trans (F.mono A.size)⟩
  | true =>
   have Y:=Lib.hid L;clear L;go_wp2_with fail;have N:=A.size;have h:=F.size;have J:TermsAt t.heap.size m _ ts:=SlAt.below F U;have R:Labs w.heap.size m _ _:=SlAt.below (A.trans (F.mono N)) hL;have aa:=(z.below A).below F;have H:=A.trans (F.mono N);go_loopw [26] (fun i wr=>∃ k:Nat,i=.int .i64 k/\k<=ts.length/\Bw m wr/\Hid ((ts.take k).all (jh9 (B.map (·.1)))=true)) (fun i _=>ts.length-(intOf i).toNat)
   case atStart=>exact⟨0,rfl,Nat.zero_le _,Below.refl _ _,rfl⟩
   case round =>
    obtain⟨k,rfl,hk,q,HA⟩:=hrel;have j:=q.size;by_cases ab:k<ts.length
    ·obtain⟨x,r⟩:∃ x,ts[k]? = some x:=⟨_,List.getElem?_eq_getElem ab⟩
     have l:TermsAt t.heap.size wr _ ts:=SlAt.below (q.mono h) J;obtain⟨b,off,rfl,af,ag,ah⟩:=l.cells.2 k x r;have M:x∈ts:=List.mem_of_getElem? r;obtain⟨aj,ad⟩:=HZ.out x M;have y:Hid (ts.take (k+1)=ts.take k++[x]):=by rw[Hid,List.take_add_one,r];rfl
     have Q:Bw m (wr.alloc (.cells #[.string x.name,.string x.pat] 252)):=q.alloc j _;have C:=jjT o cap B x.name _ ((SlAt.below (Q.mono (by omega)) R).mono (by simp;omega)) h3;have Z:=cCc (World.alloc_heap_new wr (.cells #[.string x.name,.string x.pat] 252)) 1;clear r l J R M
     cases T:jcD (B.map (·.1)) x.name with
     | none =>
      have n:Hid (jh9 (B.map (·.1)) x=false):=by simp only[Hid,jh9,T]
      rw[T] at C;clear T;go_wp2_with (go_at_call 138;refine C.mono ?_;rintro e u ⟨rfl,I⟩);go_ret2;refine⟨?_,H.trans ((Q.trans (I.mono (by simp;omega))).mono (by omega))⟩;have c:=jva ts (jh9 (B.map (·.1))) k x y.out n.out;simp only[jc7,V.out,Y.out,c];rfl
     | some v =>
      have ac:=jhJ B x.name v T;have n:Hid (jh9 (B.map (·.1)) x=jin x.pat v):=by simp only[Hid,jh9,T]
      rw[T] at C;clear T;go_wp2_with fail;refine C.mono ?_;rintro e u ⟨rfl,I⟩;have O:(wr.alloc (.cells #[.string x.name,.string x.pat] 252)).heap.size=wr.heap.size+1:=by simp
      rw[O] at I;have d1:u.cell? ⟨wr.heap.size,1,none⟩=some (.string x.pat):=(I.cell (p:=⟨wr.heap.size,1,none⟩) (Nat.lt_succ_self _)).trans Z;have G:Bw m u:=Q.trans (I.mono (by omega));have E:=js2 x.pat v u ad ac (aa.below G);clear C O Z
      cases X:jin x.pat v with
      | false =>
       rw[X] at E;have P:Hid (jh9 (B.map (·.1)) x=false):=by rw[Hid,n.out,X]
       clear X;go_wp2_with (go_at_call 139;refine E.mono ?_;rintro e w5 ⟨rfl,S⟩);go_ret2;have c:=jva ts (jh9 (B.map (·.1))) k x y.out P.out;refine⟨?_,H.trans ((G.trans (S.mono G.size)).mono (by omega))⟩;simp only[jc7,V.out,Y.out,c];rfl
      | true =>
       rw[X] at E;have P:Hid (jh9 (B.map (·.1)) x=true):=by rw[Hid,n.out,X]
       clear X;go_wp2_with (go_at_call 139;refine E.mono ?_;rintro e w5 ⟨rfl,S⟩);go_roundw
       case rel=>exact⟨k+1,by go_num,by omega,G.trans (S.mono G.size),jv2 ts _ k x y.out P.out HA.out⟩
       case measure=>simp[intOf];omega
    ·obtain rfl:k=ts.length:=by omega
     clear J R;go_wp2_with fail;go_ret2;have c:ts.all (jh9 (B.map (·.1)))=true:=by have:=HA.out;rwa [List.take_length] at this
     exact⟨by simp only[jc7,V.out,Y.out,c];rfl,H.trans (q.mono (by omega))⟩
theorem jns:∀ a:List UInt8,Op.bytesLess a a=false
 | []=>rfl
 | a::x=>by simp[Op.bytesLess,jns x]
theorem jqi:∀ a b c:List UInt8,Op.bytesLess a b=true->Op.bytesLess b c=true->Op.bytesLess a c=true
 | _,[],_,h,_=>by rename_i x _;cases x<;>simp[Op.bytesLess] at h
 | _,_::_,[],_,h=>by simp[Op.bytesLess] at h
 | [],_::_,_::_,_,_=>by simp[Op.bytesLess]
 | a::x,b::y,c::z,B,A=>by
  simp only[Op.bytesLess,Bool.or_eq_true,Bool.and_eq_true,decide_eq_true_eq,beq_iff_eq] at B A ⊢;rcases B with B | ⟨rfl,B⟩
  ·rcases A with A | ⟨rfl,A⟩
   ·exact .inl (UInt8.lt_trans B A)
   ·exact .inl B
  ·rcases A with A | ⟨rfl,A⟩
   ·exact .inl A
   ·exact .inr ⟨rfl,jqi x y z B A⟩
theorem jnt:∀ a b:List UInt8,Op.bytesLess a b=false->Op.bytesLess b a=false->a=b
 | [],[],_,_=>rfl
 | [],_::_,h,_=>by simp[Op.bytesLess] at h
 | _::_,[],_,h=>by simp[Op.bytesLess] at h
 | a::x,b::y,h1,h2=>by
  simp only[Op.bytesLess,Bool.or_eq_false_iff,decide_eq_false_iff_not] at h1 h2;have A:a=b:=UInt8.le_antisymm (UInt8.not_lt.1 h2.1) (UInt8.not_lt.1 h1.1);subst A;simp only[BEq.rfl,Bool.true_and] at h1 h2;rw[jnt x y h1.2 h2.2]
theorem jqc {a b:ByteArray} (h:a.toList=b.toList):a=b:=by
 rw[Lib.toList_data,Lib.toList_data] at h
 cases a;cases b
 simp only[ByteArray.mk.injEq];exact Array.toList_inj.1 h
theorem jxl {x y:Lab} (A:x.name=y.name) (B:x.value=y.value):x=y:=by cases x;cases y;simp_all
theorem jiU:∀ a:List Lab,jak a a=false
 | []=>rfl
 | x::a=>by simp[jak,jiU a]
theorem jvk:∀ a b:List Lab,jak a b=false->jak b a=false->a=b
 | [],[],_,_=>rfl
 | [],_::_,h,_=>by simp[jak] at h
 | _::_,[],_,h=>by simp[jak] at h
 | x::a,y::b,h1,h2=>by
  simp only[jak] at h1 h2;by_cases h:x.name=y.name/\x.value=y.value
  ·rw[if_pos h] at h1
   rw[if_pos ⟨h.1.symm,h.2.symm⟩] at h2;rw[jvk a b h1 h2,jxl h.1 h.2]
  ·rw[if_neg h] at h1
   rw[if_neg (fun k=>h ⟨k.1.symm,k.2.symm⟩)] at h2;by_cases A:x.name=y.name
   ·rw[if_neg (by simp[A])] at h1
    rw[if_neg (by simp[A])] at h2;exact absurd ⟨A,jqc (jnt _ _ h1 h2)⟩ h
   ·rw[if_pos A] at h1
    rw[if_pos (fun k=>A k.symm)] at h2;exact absurd (jqc (jnt _ _ h1 h2)) A
theorem jmH:∀ a b c:List Lab,jak a b=true->jak b c=true->jak a c=true
 | _::_,[],_,h,_=>by simp[jak] at h
 | [],[],_,h,_=>by simp[jak] at h
 | _,_::_,[],_,h=>by simp[jak] at h
 | [],_::_,_::_,_,_=>by simp[jak]
 | x::a,y::b,z::c,h1,h2=>by
  simp only[jak] at h1 h2 ⊢;by_cases B:x.name=y.name
  ·by_cases C:x.value=y.value
   ·rw[if_pos ⟨B,C⟩] at h1
    rw[B,C];by_cases F:y.name=z.name/\y.value=z.value
    ·rw[if_pos F] at h2 ⊢
     exact jmH a b c h1 h2
    ·rw[if_neg F] at h2 ⊢
     exact h2
   ·rw[if_neg (fun k=>C k.2),if_neg (by simp[B])] at h1
    rw[B];by_cases A:y.name=z.name
    ·by_cases E:y.value=z.value
     ·rw[<- E,if_neg (fun k=>C k.2),if_neg (by simp[A])]
      exact h1
     ·rw[if_neg (fun k=>E k.2),if_neg (by simp[A])] at h2
      have D:=jqi _ _ _ h1 h2;rw[if_neg (fun k=>by rw[k.2,jns] at D;cases D),if_neg (by simp[A])];exact D
    ·rw[if_neg (fun k=>A k.1),if_pos A] at h2
     rw[if_neg (fun k=>A k.1),if_pos A];exact h2
  ·rw[if_neg (fun k=>B k.1),if_pos B] at h1
   by_cases A:y.name=z.name
   ·rw[<- A,if_neg (fun k=>B k.1),if_pos B]
    exact h1
   ·rw[if_neg (fun k=>A k.1),if_pos A] at h2
    have D:=jqi _ _ _ h1 h2;have G:x.name≠z.name:=fun k=>by rw[k,jns] at D;cases D
    rw[if_neg (fun k=>G k.1),if_pos G];exact D
theorem jwt {a b:List Lab} (h:jak a b=true):jak b a=false:=by
 cases A:jak b a with
 | false=>rfl
 | true=>have:=jmH _ _ _ h A;rw[jiU] at this;cases this
theorem joI (a b:List Lab):(a==b)=decide (a=b):=by
 by_cases h:a=b<;>simp[h]
def Sorted (l:List Ser):Prop:=l.Pairwise (fun x y=>jak x.l y.l=true)
theorem jje:∀ (l:List Ser) (q:List Lab),jdd (some q) l=true↔(∀ x∈l,jaI x=true)/\(∀ x∈l,jak q x.l=true)/\Sorted l
 | [],q=>by simp[jdd,Sorted]
 | y::r,q=>by
  simp only[jdd,Bool.and_eq_true,jje r,Sorted,List.pairwise_cons,List.mem_cons,forall_eq_or_imp];constructor
  ·rintro⟨⟨C,A⟩,D,B,E⟩
   exact⟨⟨C,D⟩,⟨A,fun x F=>jmH _ _ _ A (B x F)⟩,B,E⟩
  ·rintro⟨⟨C,D⟩,⟨A,G⟩,B,E⟩
   exact⟨⟨C,A⟩,D,B,E⟩
theorem jaS (l:List Ser):jaj l=true↔l.length<=20/\(∀ x∈l,jaI x=true)/\Sorted l:=by
 unfold jaj;rw[Bool.and_eq_true,decide_eq_true_eq]
 cases l with
 | nil=>simp[jdd,Sorted]
 | cons y r=>simp only[jdd,Bool.and_eq_true,jje r,Sorted,List.pairwise_cons,List.mem_cons,forall_eq_or_imp,and_true];constructor<;>(intro h;simp_all)
def jxI (l:List Ser) (x:Ser):List Ser:=l.filter (fun y=>jak y.l x.l)++x::l.filter (fun y=>jak x.l y.l)
theorem jhu (q:List Lab):∀ l:List Ser,Sorted l->l.take (jam l q)=l.filter (fun y=>jak y.l q)/\l.drop (jam l q+(if jax l q then 1 else 0))=l.filter (fun y=>jak q y.l)/\(jax l q=true↔∃ x∈l,x.l=q)
 | [],_=>by simp[jam,jax]
 | y::r,h=>by
  obtain⟨G,hr⟩:=List.pairwise_cons.1 h;by_cases B:jak y.l q=true
  ·obtain⟨O,P,Q⟩:=jhu q r hr
   have A:jam (y::r) q=jam r q+1:=by simp[jam,B]
   have ht:jax (y::r) q=jax r q:=by unfold jax;rw[A,List.getElem?_cons_succ]
   have I:y.l≠q:=fun e=>by rw[e,jiU] at B;cases B
   refine⟨?_,?_,?_⟩
   ·rw[A,List.take_succ_cons,O,List.filter_cons,if_pos B]
   ·rw[A,ht,List.filter_cons_of_neg (by rw[jwt B];simp),<- P,show jam r q+1+(if jax r q=true then 1 else 0)=(jam r q+(if jax r q=true then 1 else 0))+1 by omega,List.drop_succ_cons]
   ·rw[ht,Q];simp[I]
  ·have F:jak y.l q=false:=by simpa using B
   have A:jam (y::r) q=0:=by simp[jam,F]
   have ht:jax (y::r) q=decide (y.l=q):=by unfold jax;rw[A,List.getElem?_cons_zero];exact joI _ _
   have E:∀ z∈r,jak z.l q=false:=fun z C=>by
    cases L:jak z.l q with
    | false=>rfl
    | true=>exact absurd (jmH _ _ _ (G z C) L) B
   have M:r.filter (fun y=>jak y.l q)=[]:=List.filter_eq_nil_iff.2 (fun z C=>by rw[E z C];simp);by_cases D:y.l=q
   ·have H:r.filter (fun y=>jak q y.l)=r:=List.filter_eq_self.2 (fun z C=>by rw[<- D];exact G z C)
    refine⟨by rw[A,List.filter_cons,if_neg B,M];rfl,?_,by rw[ht];simp[D]⟩;rw[A,ht,List.filter_cons_of_neg (by rw[D,jiU];simp),H];simp[D]
   ·have J:jak q y.l=true:=by
     cases N:jak q y.l with
     | true=>rfl
     | false=>exact absurd (jvk _ _ F N) D
    have H:r.filter (fun y=>jak q y.l)=r:=List.filter_eq_self.2 (fun z C=>jmH _ _ _ J (G z C));refine⟨by rw[A,List.filter_cons,if_neg B,M];rfl,?_,?_⟩
    ·rw[A,ht,List.filter_cons_of_pos (by exact J),H];simp[D]
    ·rw[ht]
     simp only[D,decide_false,Bool.false_eq_true,List.mem_cons,exists_eq_or_imp,false_or,false_iff];rintro⟨z,C,e⟩;have:=jmH _ _ _ J (G z C);rw[e,jiU] at this
     cases this
theorem jnV {l:List Ser} (h:Sorted l) (x:Ser):jf3 l x=jxI l x:=by
 obtain⟨A,B,-⟩:=jhu x.l l h;rw[jf3,A,B];rfl
theorem jwz {l:List Ser} {x y:Ser}:y∈jxI l x↔(y∈l/\(jak y.l x.l=true\/jak x.l y.l=true))\/y=x:=by
 simp only[jxI,List.mem_append,List.mem_filter,List.mem_cons];constructor
 ·rintro (⟨B,A⟩ | h | ⟨B,A⟩)
  ·exact .inl ⟨B,.inl A⟩
  ·exact .inr h
  ·exact .inl ⟨B,.inr A⟩
 ·rintro (⟨B,A | A⟩ | h)
  ·exact .inl ⟨B,A⟩
  ·exact .inr (.inr ⟨B,A⟩)
  ·exact .inr (.inl h)
theorem jpw {l:List Ser} (h:Sorted l) (x:Ser):Sorted (jxI l x):=by
 refine List.pairwise_append.2 ⟨h.filter _,List.pairwise_cons.2 ⟨fun y B=>(List.mem_filter.1 B).2,h.filter _⟩,fun a ha b hb=>?_⟩;have A:=(List.mem_filter.1 ha).2;rcases List.mem_cons.1 hb with rfl | hb
 ·exact A
 ·exact jmH _ _ _ A (List.mem_filter.1 hb).2
theorem jwr {l:List Ser} (x:Ser):(jf3 l x).length+(if jax l x.l then 1 else 0)=l.length+1:=by
 have C:jam l x.l<=l.length:=(List.takeWhile_prefix _).length_le
 have B:jax l x.l=true->jam l x.l<l.length:=fun h=>by
  unfold jax at h
  cases A:l[jam l x.l]? with
  | none=>rw[A] at h;cases h
  | some y=>exact (List.getElem?_eq_some_iff.1 A).1
 unfold jf3;rw[List.length_append,List.length_take,List.length_cons,List.length_drop]
 cases ht:jax l x.l with
 | false=>simp;omega
 | true=>have:=B ht;simp;omega
theorem jr5 {l:List Ser} {x:Ser} (h:jce l x=true):jaj (jf3 l x)=true:=by
 simp only[jce,Bool.and_eq_true,Bool.or_eq_true,Bool.not_eq_true'] at h;obtain⟨⟨D,E⟩,B⟩:=h;obtain⟨H,ha,C⟩:=(jaS l).1 D;have A:=jwr (l:=l) x;refine (jaS _).2 ⟨?_,?_,?_⟩
 ·rcases B with B | B
  ·rw[if_pos B] at A;omega
  ·have:l.length≠20:=by simpa using B
   split at A<;>omega
 ·rw[jnV C]
  intro y G;rcases jwz.1 G with⟨F,-⟩ | rfl
  ·exact ha y F
  ·exact E
 ·rw[jnV C];exact jpw C x
section
theorem jvQ (s:jcL) (a:Option Addr) (len cap:Nat) (l:List Lab) (w:World) (h:SlE Lab.enc 2 w.heap.size w a len l) (F:jcK l) (hr:jai l=true) (D:GW w) (E:len<4294967281) :
  CR 93 #[.string s.1,.slice a len cap] w (.tuple #[.bool (jc7 s l).1,.int .i64 (jc7 s l).2]):=by
 have C:=h.1
 have A:0<len:=by
  rcases Nat.eq_zero_or_pos len with A | A
  ·subst A
   obtain rfl:l=[]:=List.eq_nil_of_length_eq_zero C.symm
   cases hr
  ·exact A
 have B:=h.to_at (cap:=cap) jgi A;obtain⟨G,rfl⟩:=jjR l F;rw[List.length_map] at C;subst C;exact jpR s a cap G w B D E
def jcc (s:jcL):Nat->List Ser->List Nat
 | _,[]=>[]
 | k,x::r=>if (jc7 s x.l).1 then k::jcc s (k+1) r else jcc s (k+1) r
def jjY (L:List Ser) (s:jcL):Bool:=jaj L&&jfo s
def jbm (L:List Ser) (s:jcL):Int:=if jaj L then (if jfo s then 0 else 50) else 120
def jbb (L:List Ser) (s:jcL):List Nat:=if jjY L s then jcc s 0 L else []
theorem jgG (s:jcL) (x:Ser):∀ (l:List Ser) (k:Nat),jcc s k (l++[x])=jcc s k l++(if (jc7 s x.l).1 then [k+l.length] else [])
 | [],k=>by simp[jcc]
 | y::l,k=>by
  simp only[List.cons_append,jcc,jgG s x l,List.length_cons];have e:k+1+l.length=k+(l.length+1):=by omega
  split<;>simp[e]
def jhr (n:Nat):List Value:=[.int .i64 n]
theorem jtY (n:Nat):(jhr n).length=1:=rfl
theorem jnw (n:Nat):∀ u∈jhr n,u.oneCell'=true:=by
 intro u A;simp only[jhr,List.mem_singleton] at A;subst A;rfl
theorem jkq:Tryz.prog.underlying 25=some (.slice 3):=by kernel_rfl
theorem jjK:(Tryz.prog.info? 3).map (fun i=>(i.zero,i.size,i.bytes))=some (some (.int .i64 0),1,8):=by kernel_rfl
theorem jpa {s:jcL} {l:List Lab} (A:jfo s=true) (B:jai l=true):(jc7 s l).2=0:=by
 unfold jfo at A;unfold jc7
 cases C:jfV s with
 | none=>rw[C] at A;cases A
 | some ts=>simp[B]
theorem jd3 {A B:World} {C e size n:Nat} {v:Value} {xs:List Value} (h:A.ownsRow C e size v n xs) (hb:Bw A B):B.ownsRow C e size v n xs :=
 ⟨h.1,h.2.imp id (fun ⟨g,cap,D,E,F,G,H⟩=>⟨g,cap,D,E,F,known hb (Nat.le_refl _) G,H⟩)⟩
def jha (L:List Ser) (s:jcL) (w:World) (e:Ending) (w':World):Prop :=
 ∃ a cap,e=.returned (.tuple #[.slice a (jbb L s).length cap,.int .i64 (jbm L s)])/\SlC jhr 1 w'.heap.size w' a (jbb L s).length cap (jbb L s)/\Bw w w'
attribute [-go_sem] Builtin.append_
theorem jpS (s:jcL) (l:List (Ser × SerP)) (a:Option Addr) (len cap:Nat) (w:World) (d:Tab w.heap.size w a len cap l) (z:jdl l) (hG:GW w) :
  Calls Tryz.prog 52 #[.slice a len cap,.string s.1] w (jha (l.map (·.1)) s w):=by
 have c:=jaU l a len cap w d z hG;have n:=d.row.1.1;subst n;have HT:=Lib.hid d;have HF:=Lib.hid z;have HG:=Lib.hid hG;have hm:l.length<=maxLen:=Nat.le_trans d.row.2.1 d.row.2.2.1;unfold maxLen at hm;clear d z hG
 cases hr:jaj (l.map (·.1)) with
 | false =>
  rw[hr] at c;have J:Hid (jbm (l.map (·.1)) s=120/\jbb (l.map (·.1)) s=[]):=⟨by rw[jbm,hr];rfl,by rw[jbb,jjY,hr];rfl⟩;clear hr;go_enter Tryz.func52,Tryz.ntmps52;go_wp2_with (go_at_call 57;refine c.mono ?_;rintro e w1 ⟨rfl,A⟩);go_ret2;exact⟨none,0,by rw[J.out.1,J.out.2];rfl,by rw[J.out.2];exact SlC.nil,A⟩
 | true =>
  rw[hr] at c;have M:Hid (∀ w',Bw w w'->Calls Tryz.prog 49 #[.string s.1] w' fun e ae=>e=.returned (.bool (jfo s))/\Bw w' ae):=fun w' hb=>jmX s w' (HG.out.below hb)
  cases P:jfo s with
  | false =>
   rw[P] at M;have J:Hid (jbm (l.map (·.1)) s=50/\jbb (l.map (·.1)) s=[]):=⟨by rw[jbm,hr,P];rfl,by rw[jbb,jjY,hr,P];rfl⟩;clear hr P;go_enter Tryz.func52,Tryz.ntmps52
   go_wp2_with (first
    | (go_at_call 57;refine c.mono ?_;rintro e w1 ⟨rfl,A⟩)
    | (go_at_call 49;refine (M.out _ A).mono ?_;rintro e w2 ⟨rfl,V⟩))
   go_ret2;exact⟨none,0,by rw[J.out.1,J.out.2];rfl,by rw[J.out.2];exact SlC.nil,A.trans (V.mono A.size)⟩
  | true =>
   rw[P] at M;have J:Hid (jbm (l.map (·.1)) s=0/\jbb (l.map (·.1)) s=jcc s 0 (l.map (·.1))):=⟨by rw[jbm,hr,P];rfl,by rw[jbb,jjY,hr,P];rfl⟩
   have q:Hid (∀ x∈l.map (·.1),jai x.l=true):=fun x Z=>by
    have:=((jaS _).1 hr).2.1 x Z;simp only[jaI,Bool.and_eq_true] at this;exact this.1
   have ai:l.length<=20:=by have:=((jaS _).1 hr).1;rwa [List.length_map] at this
   have u:=Lib.hid P;clear hr P;go_enter Tryz.func52,Tryz.ntmps52
   go_wp2_with (first
    | (go_at_call 57;refine c.mono ?_;rintro e w1 ⟨rfl,A⟩)
    | (go_at_call 49;refine (M.out _ A).mono ?_;rintro e w2 ⟨rfl,V⟩))
   clear c;have m:=A.trans (V.mono A.size);go_loopw [6,19] (fun v i wr=>∃ (k:Nat) (I:List Nat),i=.int .i64 k/\k<=l.length/\Hid (I=jcc s 0 ((l.map (·.1)).take k))/\Hid (I.length<=k)/\wr.ownsRow w.heap.size 3 1 v I.length (I.flatMap jhr)/\Bw w wr) (fun _ i _=>l.length-(intOf i).toNat)
   case atStart=>exact⟨0,[],rfl,Nat.zero_le _,rfl,Nat.le_refl _,World.ownsRow_nil _ _ _ _,m⟩
   case round =>
    obtain⟨k,I,rfl,hk,g,S,H,U⟩:=hrel;have Q:=U.size;obtain⟨va,vc,rfl⟩:=jbD H;have T:=Lib.hid H;have ac:I.length<4294967:=by have:=S.out;omega
    obtain⟨np,C⟩:∃ np,Hid (I.length=np):=⟨_,rfl⟩;rw[C.out] at ac ⊢;clear H;by_cases ab:k<l.length
    ·obtain⟨⟨x,p⟩,Z⟩:∃ x,l[k]? = some x:=⟨_,List.getElem?_eq_getElem ab⟩
     obtain⟨b,off,rfl,ak,E⟩:=(HT.out.below U).row.1.2 k (x,p) Z;have c0:wr.cell? ⟨b,off+k*12,none⟩=some (.slice p.la p.ll p.lc):=E 0 (by omega);have c1:wr.cell? ⟨b,off+k*12+1,none⟩=some (.int .i64 x.sk.kind):=E 1 (by omega);have c2:wr.cell? ⟨b,off+k*12+2,none⟩=some (.int .i64 x.sk.level):=E 2 (by omega);have c3:wr.cell? ⟨b,off+k*12+3,none⟩=some (.slice p.ss.ea p.ss.el p.ss.ec):=E 3 (by omega);have c4:wr.cell? ⟨b,off+k*12+4,none⟩=some (.int .i64 x.sk.hb):=E 4 (by omega);have c5:wr.cell? ⟨b,off+k*12+5,none⟩=some (.string x.sk.hr):=E 5 (by omega);have c6:wr.cell? ⟨b,off+k*12+6,none⟩=some (.int .i64 x.sk.cr):=E 6 (by omega);have c7:wr.cell? ⟨b,off+k*12+7,none⟩=some (.int .i64 x.sk.cc):=E 7 (by omega);have c8:wr.cell? ⟨b,off+k*12+8,none⟩=some (.slice p.ss.ca p.ss.cl p.ss.cc):=E 8 (by omega);have c9:wr.cell? ⟨b,off+k*12+9,none⟩=some (.int .i64 x.sk.gf):=E 9 (by omega);have ag:wr.cell? ⟨b,off+k*12+10,none⟩=some (.slice p.ss.ga p.ss.gl p.ss.gc):=E 10 (by omega);have ah:wr.cell? ⟨b,off+k*12+11,none⟩=some (.int .u64 x.seen):=E 11 (by omega);have HX:Hid ((l.map (·.1))[k]? = some x):=by rw[Hid,List.getElem?_map,Z];rfl
     have HP:Hid (p.At wr.heap.size wr x):=((HT.out.at_ _ (List.mem_of_getElem? Z)).below U).mono Q;have f:=Lib.hid (HF.out _ (List.mem_of_getElem? Z));obtain⟨h,aj,aa,N,ad⟩:=jab wr #[.slice p.la p.ll p.lc,.int .i64 x.sk.kind,.int .i64 x.sk.level,.slice p.ss.ea p.ss.el p.ss.ec,.int .i64 x.sk.hb,.string x.sk.hr,.int .i64 x.sk.cr,.int .i64 x.sk.cc,.slice p.ss.ca p.ss.cl p.ss.cc,.int .i64 x.sk.gf,.slice p.ss.ga p.ss.gl p.ss.gc,.int .u64 x.seen] 90;obtain⟨r0,r1,r2,r3,r4,r5,r6,r7,r8,r9,an,ao⟩:=jkX aa;have t:Hid (p.At h.heap.size h x):=HP.out.go N;have o:Hid (GW h):=HG.out.below (U.trans (N.mono Q));have al:wr.heap.size<h.heap.size:=by omega
     have Y:jai x.l=true:=q.out x (List.mem_of_getElem? HX.out);have F:=jvQ s p.la p.ll p.lc x.l h t.out.l.1 f.out.lab Y o.out f.out.ll;rw[jpa u.out Y] at F
     have L:Hid (jcc s 0 ((l.map (·.1)).take (k+1))=I++(if (jc7 s x.l).1 then [k] else [])):=by
      rw[Hid,jaf HX.out,jgG,<- g.out,List.length_take,List.length_map,Nat.min_eq_left hk,Nat.zero_add]
     clear E Z ad Y
     cases O:(jc7 s x.l).1 with
     | false =>
      rw[O] at F L;clear O;go_wp2_with (go_at_call 93;refine F.mono ?_;rintro e w4 ⟨rfl,X⟩);have B:=N.trans (X.mono (by omega));go_roundw
      case rel=>exact⟨k+1,I,by go_num,by omega,by rw[Hid,L.out];simp,by have:=S.out;rw[Hid];omega,by rw[<- C.out];exact jd3 T.out B,U.trans (B.mono Q)⟩
      case measure=>simp[intOf];omega
     | true =>
      rw[O] at F L;clear O;go_wp2_with (go_at_call 93;refine F.mono ?_;rintro e w4 ⟨rfl,X⟩;have B:=N.trans (X.mono (by omega));have R:=U.trans (B.mono Q);obtain⟨g5,af,w5,j,D,y,am,-⟩:=jap Tryz.prog 25 jkq jjK rfl (by decide) (W:=w4) (jd3 T.out B) R (Nat.le_refl _) (by have:=R.size;omega) [.int .i64 (k:Int)] rfl (by simp[Value.oneCell']) (by rw[C.out];omega) (by decide);rw[C.out] at j D;have r:=Lib.hid D;clear D);go_roundw
      case rel=>exact⟨k+1,I++[k],by go_num,by omega,by rw[Hid,L.out];simp,by have:=S.out;rw[Hid,List.length_append];simp;omega,by rw[List.length_append,C.out,List.flatMap_append];exact r.out,y⟩
      case measure=>simp[intOf];omega
    ·obtain rfl:k=l.length:=by omega
     have G:I=jbb (l.map (·.1)) s:=by rw[J.out.2,g.out,List.take_of_length_le (by rw[List.length_map];exact Nat.le_refl _)]
     have FI:Hid (jha (l.map (·.1)) s w (.returned (.tuple #[.slice va np vc,.int .i64 0])) wr):=by
      obtain⟨a',c',e1,h1,-⟩:=jaM (enc:=jhr) (fun _=>rfl) T.out;rw[C.out] at e1;refine⟨a',c',?_,?_,U⟩
      ·rw[<- G,C.out,J.out.1,e1]
      ·rw[<- G];exact h1
     clear G;go_wp2_with fail;go_ret2;exact FI.out
end
theorem jnO (s:jcL):∀ (l:List Ser) (k:Nat),(∀ i∈jcc s k l,k<=i/\i<k+l.length)/\(jcc s k l).Pairwise (· < ·)
 | [],k=>⟨(fun i h=>by cases h),List.Pairwise.nil⟩
 | x::r,k=>by
  obtain⟨C,D⟩:=jnO s r (k+1);have B:∀ i∈jcc s (k+1) r,k<=i/\i<k+(r.length+1):=fun i A=>by have:=C i A;omega
  simp only[jcc,List.length_cons];split
  ·refine⟨fun i A=>?_,List.pairwise_cons.2 ⟨fun i A=>by have:=C i A;omega,D⟩⟩
   rcases List.mem_cons.1 A with rfl | A
   ·omega
   ·exact B i A
  ·exact⟨B,D⟩
theorem jjF (w:World):CR 36 #[] w (.agg #[.int .u64 1,.slice none 0 0]):=by
 go_enter Tryz.func36,Tryz.ntmps36;go_wp2_with fail;exact bodyPost_ret (v:=.agg #[.int .u64 1,.slice none 0 0]) (by simp[results,Tryz.results36,go_sem]) rfl ⟨rfl,(Below.refl _ _).alloc (Nat.le_refl _) _⟩
end Go.Proofs.YtnegciklhanmbaaGreatDoor
