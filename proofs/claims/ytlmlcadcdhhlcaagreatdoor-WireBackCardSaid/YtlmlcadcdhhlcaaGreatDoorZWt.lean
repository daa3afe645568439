/- Package wire: GetReq. Printed by gen_wc.py. Package collector: find where there is none, Key, New of one config. Printed by gen_wt.py. -/
import Derived.Test.YtlmlcadcdhhlcaaGreatDoorZWb
set_option maxHeartbeats 4000000
set_option maxRecDepth 100000
namespace Go.Proofs.YtlmlcadcdhhlcaaGreatDoor
open Go Go.RowKit Go.Shelf
section
theorem jcw (A:Rd):U64 (jaA A).1:=by
 unfold jaA;split
 ·exact⟨by decide,by decide⟩
 ·split
  ·rename_i e;exact (jaS e).1
  ·exact⟨by decide,by decide⟩
  ·exact⟨by decide,by decide⟩
theorem ja7 {m:Int} (B:0<=m) (A:Rd):0<=(jan m A).1/\(jan m A).1<=m:=by
 have h:=(jcw A).1;unfold jan;split
 ·exact⟨Int.le_refl 0,B⟩
 ·rename_i C;exact⟨h,by omega⟩
def rqZ:Array Value:=#[.int .i64 0,.int .u64 0,.string ⟨#[]⟩,.string ⟨#[]⟩,.int .i64 0,.slice none 0 0,.int .u64 0,.int .u64 0,.int .u64 0,.slice none 0 0]
def jil (o:Option Rq) (w:World) (e:Ending) (w':World):Prop:=(match o with
   | some q=>∃ ia ic ta tc,e=.returned (.tuple #[.agg (rqV q ia ic ta tc),.int .i64 0])/\SlE ja1 2 w'.heap.size w' ia q.items.length q.items/\SlE jca 1 w'.heap.size w' ta q.tens.length q.tens
   | none=>e=.returned (.tuple #[.agg rqZ,.int .i64 200]))/\Bw w w'
def GrowE {α:Type} (enc:α->List Value) (W:World) (base:Nat) (t:TypeId) (size:Nat) (v:Value) (l:List α):Prop:=W.ownsRow base t size v l.length (l.flatMap enc)
section
variable {α:Type} {enc:α->List Value} {A B W:World} {base size:Nat} {t:TypeId} {v:Value} {l:List α}
theorem GrowE.nil (enc:α->List Value) (W:World) (base:Nat) (t:TypeId) (A:Nat):GrowE enc W base t A (.slice none 0 0) []:=World.ownsRow_nil _ _ _ _
theorem GrowE.keep {q:Nat->Prop} (h:GrowE enc A base t size v l) (H:Kept q A B) (I:∀ k,base<=k->q k):GrowE enc B base t size v l :=
 ⟨h.1,by
  rcases h.2 with E | ⟨g,cap,C,rfl,D,F,G⟩
  ·exact .inl E
  ·exact .inr ⟨g,cap,C,rfl,D,H.known (I _ D) F,G⟩⟩
theorem GrowE.push {z:Value} {C:Nat} {w0:World} {B:Nat} (h:GrowE enc W base t size v l) (G:TypeId) (ht:Tryz.prog.underlying G=some (.slice t)) (E:(Tryz.prog.info? t).map (fun i=>(i.zero,i.size,i.bytes))=some (some z,size,C)) (L:z.cells.size=size) (J:0<size)
  (x:α) (A:List Value) (V:A=enc x) (S:Below B w0 W) (H:B<=base) (D:base<=W.heap.size) (R:∀ u∈A,u.oneCell'=true) (U:l.length<4294967281) (I:C<=4096) (T:A.length=size:=by rfl) :
  ∃ g cap F,(Builtin.append_ #[G,G] G #[v,.slice (some ⟨W.heap.size,0,none⟩) 1 1]).run Tryz.prog (W.alloc (.cells A.toArray t))=.ok (.slice (some ⟨g,0,none⟩) (l.length+1) cap) F /\
   GrowE enc F base t size (.slice (some ⟨g,0,none⟩) (l.length+1) cap) (l++[x])/\Below B w0 F/\W.heap.size<F.heap.size/\(∀ k,k<base->F.heap[k]? = W.heap[k]?):=by
 obtain⟨g,cap,F,M,N,O,P,Q,-⟩:=jam Tryz.prog G ht E L J (W:=W) h S H D A T R U I;refine⟨g,cap,F,M,?_,O,P,Q⟩;unfold GrowE;rw[List.length_append,List.flatMap_append];subst V;simpa using N
theorem GrowE.sl (h:GrowE enc W base t size v l) (E:∀ x,(enc x).length=size):∃ a c,v=.slice a l.length c/\SlE enc size W.heap.size W a l.length l:=by
 have C:=jcl h
 have D:∃ a c,v=.slice a l.length c:=by
  rcases h.2 with⟨rfl,B⟩ | ⟨g,cap,A,rfl,_⟩
  ·exact⟨none,0,by rw[B]⟩
  ·exact⟨_,_,rfl⟩
 obtain⟨a,c,rfl⟩:=D;exact⟨a,c,rfl,.of_at E C⟩
end
theorem jek {w W:World} {b:Nat} {c Z U S R Q O M J H:Value} (A B C D F G I L N P:Value) {t:TypeId} (h:W.heap[b]? = some (.cells #[c,Z,U,S,R,Q,O,M,J,H] t (0,0))) {n:Nat} (Y:Below n w W) (a:n<=b) :
  ∃ V,(((((((((W.setCell ⟨b,0,none⟩ A).setCell ⟨b,1,none⟩ B).setCell ⟨b,2,none⟩ C).setCell ⟨b,3,none⟩ D).setCell ⟨b,4,none⟩ F).setCell ⟨b,5,none⟩ G).setCell ⟨b,6,none⟩ I).setCell ⟨b,7,none⟩ L).setCell ⟨b,8,none⟩ N).setCell ⟨b,9,none⟩ P=V /\
   V.heap[b]? = some (.cells #[A,B,C,D,F,G,I,L,N,P] t (0,0))/\Below n w V/\Kept (· ≠ b) W V:=by
 refine⟨_,rfl,?_⟩;have hK:∀ X,Kept (· ≠ b) W X->∀ i v,Kept (· ≠ b) W (X.setCell ⟨b,i,none⟩ v):=fun X T i v=>T.set (fun _ h=>h rfl) _ _
 have E:∀ X,Below n w X->∀ i v,Below n w (X.setCell ⟨b,i,none⟩ v):=fun X T i v=>T.setCell (p:=⟨b,i,none⟩) a _
 refine⟨?_,E _ (E _ (E _ (E _ (E _ (E _ (E _ (E _ (E _ (E _ Y _ _) _ _) _ _) _ _) _ _) _ _) _ _) _ _) _ _) _ _,hK _ (hK _ (hK _ (hK _ (hK _ (hK _ (hK _ (hK _ (hK _ (hK _ Kept.refl _ _) _ _) _ _) _ _) _ _) _ _) _ _) _ _) _ _) _ _⟩;clear hK E Y;replace h:(W.setCell ⟨b,0,none⟩ A).heap[b]? = some (.cells #[A,Z,U,S,R,Q,O,M,J,H] t (0,0)):=hSk h A;generalize W.setCell ⟨b,0,none⟩ A=W at h ⊢;replace h:(W.setCell ⟨b,1,none⟩ B).heap[b]? = some (.cells #[A,B,U,S,R,Q,O,M,J,H] t (0,0)):=hSk h B;generalize W.setCell ⟨b,1,none⟩ B=W at h ⊢;replace h:(W.setCell ⟨b,2,none⟩ C).heap[b]? = some (.cells #[A,B,C,S,R,Q,O,M,J,H] t (0,0)):=hSk h C;generalize W.setCell ⟨b,2,none⟩ C=W at h ⊢;replace h:(W.setCell ⟨b,3,none⟩ D).heap[b]? = some (.cells #[A,B,C,D,R,Q,O,M,J,H] t (0,0)):=hSk h D;generalize W.setCell ⟨b,3,none⟩ D=W at h ⊢;replace h:(W.setCell ⟨b,4,none⟩ F).heap[b]? = some (.cells #[A,B,C,D,F,Q,O,M,J,H] t (0,0)):=hSk h F;generalize W.setCell ⟨b,4,none⟩ F=W at h ⊢;replace h:(W.setCell ⟨b,5,none⟩ G).heap[b]? = some (.cells #[A,B,C,D,F,G,O,M,J,H] t (0,0)):=hSk h G;generalize W.setCell ⟨b,5,none⟩ G=W at h ⊢;replace h:(W.setCell ⟨b,6,none⟩ I).heap[b]? = some (.cells #[A,B,C,D,F,G,I,M,J,H] t (0,0)):=hSk h I;generalize W.setCell ⟨b,6,none⟩ I=W at h ⊢;replace h:(W.setCell ⟨b,7,none⟩ L).heap[b]? = some (.cells #[A,B,C,D,F,G,I,L,J,H] t (0,0)):=hSk h L;generalize W.setCell ⟨b,7,none⟩ L=W at h ⊢;replace h:(W.setCell ⟨b,8,none⟩ N).heap[b]? = some (.cells #[A,B,C,D,F,G,I,L,N,H] t (0,0)):=hSk h N
 generalize W.setCell ⟨b,8,none⟩ N=W at h ⊢;replace h:(W.setCell ⟨b,9,none⟩ P).heap[b]? = some (.cells #[A,B,C,D,F,G,I,L,N,P] t (0,0)):=hSk h P;generalize W.setCell ⟨b,9,none⟩ P=W at h ⊢;exact h
section
variable {l:List UInt8} {a0 a1 a4 a5 a6 a7 a8 a9:Int} {a2 a3:ByteArray} {s0 s1 s2 s3 s4 s5 s6 s7 s8 s9 st sz:Rd} {its:List (Nat × Int)} {ts:List Int}
theorem jgu (A:jan 255 (some l)=(a0,s0)) (B:jaA s0=(a1,s1)) (C:jaW s1=(a2,s2)) (D:jaW s2=(a3,s3)) (E:jan 255 s3=(a4,s4)) (F:jan 50 s4=(a5,s5))
  (L:jba (jar jcf) a5.toNat ([],s5)=(its,st)) (G:jaA st=(a6,s6)) (H:jaA s6=(a7,s7)) (I:jaA s7=(a8,s8)) (J:jan 8 s8=(a9,s9)) (ht:jba (jar jaA) a9.toNat ([],s9)=(ts,sz)) :
  jh8 l=(⟨a0,a1,a2,a3,a4,its,a6,a7,a8,ts⟩,sz):=by
 unfold jh8;simp only[A,B,C,D,E,F,L,G,H,I,J,ht]
theorem jfj (L:sz=some []) (A:jan 255 (some l)=(a0,s0)) (B:jaA s0=(a1,s1)) (C:jaW s1=(a2,s2)) (D:jaW s2=(a3,s3)) (E:jan 255 s3=(a4,s4)) (F:jan 50 s4=(a5,s5))
  (M:jba (jar jcf) a5.toNat ([],s5)=(its,st)) (G:jaA st=(a6,s6)) (H:jaA s6=(a7,s7)) (I:jaA s7=(a8,s8)) (J:jan 8 s8=(a9,s9)) (ht:jba (jar jaA) a9.toNat ([],s9)=(ts,sz)) :
  jbj l=some ⟨a0,a1,a2,a3,a4,its,a6,a7,a8,ts⟩:=by
 unfold jbj;rw[jgu A B C D E F M G H I J ht,if_pos L]
theorem jfi (L:sz≠some []) (A:jan 255 (some l)=(a0,s0)) (B:jaA s0=(a1,s1)) (C:jaW s1=(a2,s2)) (D:jaW s2=(a3,s3)) (E:jan 255 s3=(a4,s4)) (F:jan 50 s4=(a5,s5))
  (M:jba (jar jcf) a5.toNat ([],s5)=(its,st)) (G:jaA st=(a6,s6)) (H:jaA s6=(a7,s7)) (I:jaA s7=(a8,s8)) (J:jan 8 s8=(a9,s9)) (ht:jba (jar jaA) a9.toNat ([],s9)=(ts,sz)) :
  jbj l=none:=by
 unfold jbj;rw[jgu A B C D E F M G H I J ht,if_neg L]
end
theorem jg3:(Tryz.prog.info? 110).map (fun i=>(i.zero,i.size,i.bytes))=some (some (.agg #[.int .u64 0,.int .u64 0]),2,16):=by kernel_rfl
attribute [-go_sem] Builtin.append_
theorem jc3 (s:ByteArray) (fm ff:Addr) (w:World) (hs:s.size<4294967281) (hE:∀ W,Bw w W->GF fm ff W) :
  Calls Tryz.prog 16 #[.string s] w (jil (jbj s.data.toList) w):=by
 obtain⟨E,cC,b0,ak,cu⟩:=jab w #[.int .i64 0,.int .u64 0,.string ⟨#[]⟩,.string ⟨#[]⟩,.int .i64 0,.slice none 0 0,.int .u64 0,.int .u64 0,.int .u64 0,.slice none 0 0] 48;obtain⟨C,cA,bY,aN,cr⟩:=jab E #[.string s,.bool false] 116;obtain⟨W1,cB,bZ,aO,cs⟩:=jab C #[.int .i64 0,.int .u64 0,.string ⟨#[]⟩,.string ⟨#[]⟩,.int .i64 0,.slice none 0 0,.int .u64 0,.int .u64 0,.int .u64 0,.slice none 0 0] 48;have aJ:=known aO (Nat.le_refl _) bY;have b5:C.heap.size≠E.heap.size:=by omega
 have b6:E.heap.size<=C.heap.size:=by omega
 obtain⟨l,hl⟩:∃ l,s.data.toList=l:=⟨_,rfl⟩;have b3:l.length<4294967281:=by rw[<- hl,Array.length_toList];exact hs
 have b7:s=⟨l.toArray⟩:=by rw[<- hl]
 rw[hl];have bH:Hid (RdAt E.heap.size (some l) W1):=⟨b3,by rw[<- b7];exact aJ⟩;have bw:Hid (W1.heap[C.heap.size]? = some (.cells #[.int .i64 0,.int .u64 0,.string ⟨#[]⟩,.string ⟨#[]⟩,.int .i64 0,.slice none 0 0,.int .u64 0,.int .u64 0,.int .u64 0,.slice none 0 0] 48 (0,0))):=bZ;have aw:Hid (Bw E W1):=aN.trans (aO.mono aN.size);have HE:Hid (∀ W,Bw E W->GF fm ff W):=fun W R=>hE W (ak.trans (R.mono ak.size))
 have bQ:Hid (∀ W,Bw E W->W.heap[w.heap.size]? = some (.cells #[.int .i64 0,.int .u64 0,.string ⟨#[]⟩,.string ⟨#[]⟩,.int .i64 0,.slice none 0 0,.int .u64 0,.int .u64 0,.int .u64 0,.slice none 0 0] 48 (0,0))/\Bw w W):=fun W R=>⟨known R (Nat.le_refl _) b0,ak.trans (R.mono ak.size)⟩
 have J:=Lib.hid b5;have bR:Hid (w.heap.size<E.heap.size):=by rw[Hid];omega
 have H:=Lib.hid b6;clear bY bZ aJ b0 aN aO ak cr cs cu hE b3 b7 hl hs b5 b6;go_enter Tryz.func16,Tryz.ntmps16;obtain⟨S,s0,ha⟩:∃ a s,jan 255 (some l)=(a,s):=⟨_,_,rfl⟩;have I:=ja8 255 E.heap.size (some l) fm ff W1 ⟨by decide,by decide⟩ bH.out (HE.out _ aw.out);have hm:=ja7 (m:=255) (by decide) (some l);rw[ha] at I hm;obtain⟨cG,cI⟩:0<=S/\S<=255:=hm;have bd:=Lib.hid ha;have T:=Lib.hid I;clear I ha;go_wp2_with fail;refine T.out.mono ?_;rintro e w1 ⟨rfl,Q,A⟩;clear T;have L:w1.heap[C.heap.size]? = some (.cells #[.int .i64 0,.int .u64 0,.string ⟨#[]⟩,.string ⟨#[]⟩,.int .i64 0,.slice none 0 0,.int .u64 0,.int .u64 0,.int .u64 0,.slice none 0 0] 48 (0,0)):=A.known J.out bw.out;have R:Bw E w1:=aw.out.trans (A.below (fun k A=>Nat.ne_of_lt A) aw.out.size);have c0:w1.cell? ⟨C.heap.size,0,none⟩=some (.int .i64 0):=cCc L 0;have f0:w1.frozen? ⟨C.heap.size,0,none⟩=false:=cFz L 0;obtain⟨V1,ck,G,P,F,-⟩:=jat (i:=0) L (.int .i64 S);have bx:Hid (V1.heap[C.heap.size]? = some (.cells #[.int .i64 S,.int .u64 0,.string ⟨#[]⟩,.string ⟨#[]⟩,.int .i64 0,.slice none 0 0,.int .u64 0,.int .u64 0,.int .u64 0,.slice none 0 0] 48 (0,0))):=G;have bI:Hid (RdAt E.heap.size s0 V1):=by rw[Hid,<- ck];exact Q.keep (Kept.refl.set (q:=(· ≠ C.heap.size)) (fun _ h=>h rfl) _ _) (Ne.symm J.out)
 have ax:Hid (Bw E V1):=F _ _ H.out R;clear Q A L G P F R bw bH aw;obtain⟨U,s1,ha⟩:∃ a s,jaA s0=(a,s):=⟨_,_,rfl⟩;have I:=jaR E.heap.size s0 fm ff V1 bI.out (HE.out _ ax.out);rw[ha] at I;have be:=Lib.hid ha;have T:=Lib.hid I;clear I ha;go_wp2_with fail;refine T.out.mono ?_;rintro e w2 ⟨rfl,Q,A⟩;clear T;have L:w2.heap[C.heap.size]? = some (.cells #[.int .i64 S,.int .u64 0,.string ⟨#[]⟩,.string ⟨#[]⟩,.int .i64 0,.slice none 0 0,.int .u64 0,.int .u64 0,.int .u64 0,.slice none 0 0] 48 (0,0)):=A.known J.out bx.out;have R:Bw E w2:=ax.out.trans (A.below (fun k A=>Nat.ne_of_lt A) ax.out.size);have c1:w2.cell? ⟨C.heap.size,1,none⟩=some (.int .u64 0):=cCc L 1;have f1:w2.frozen? ⟨C.heap.size,1,none⟩=false:=cFz L 1;obtain⟨V2,cl,G,P,F,-⟩:=jat (i:=1) L (.int .u64 U);have bz:Hid (V2.heap[C.heap.size]? = some (.cells #[.int .i64 S,.int .u64 U,.string ⟨#[]⟩,.string ⟨#[]⟩,.int .i64 0,.slice none 0 0,.int .u64 0,.int .u64 0,.int .u64 0,.slice none 0 0] 48 (0,0))):=G;have bJ:Hid (RdAt E.heap.size s1 V2):=by rw[Hid,<- cl];exact Q.keep (Kept.refl.set (q:=(· ≠ C.heap.size)) (fun _ h=>h rfl) _ _) (Ne.symm J.out)
 have ah:Hid (Bw E V2):=F _ _ H.out R;clear Q A L G P F R bx bI ax;obtain⟨X,s2,ha⟩:∃ a s,jaW s1=(a,s):=⟨_,_,rfl⟩;have I:=jcx E.heap.size s1 fm ff V2 bJ.out (fun W R=>HE.out W (ah.out.trans (R.mono ah.out.size)));rw[ha] at I;have bf:=Lib.hid ha;have T:=Lib.hid I;clear I ha;go_wp2_with fail;refine T.out.mono ?_;rintro e w3 ⟨rfl,Q,A⟩;clear T;have L:w3.heap[C.heap.size]? = some (.cells #[.int .i64 S,.int .u64 U,.string ⟨#[]⟩,.string ⟨#[]⟩,.int .i64 0,.slice none 0 0,.int .u64 0,.int .u64 0,.int .u64 0,.slice none 0 0] 48 (0,0)):=A.known J.out bz.out;have R:Bw E w3:=ah.out.trans (A.below (fun k A=>Nat.ne_of_lt A) ah.out.size);have c2:w3.cell? ⟨C.heap.size,2,none⟩=some (.string ⟨#[]⟩):=cCc L 2;have f2:w3.frozen? ⟨C.heap.size,2,none⟩=false:=cFz L 2;obtain⟨V3,cm,G,P,F,-⟩:=jat (i:=2) L (.string X);have bA:Hid (V3.heap[C.heap.size]? = some (.cells #[.int .i64 S,.int .u64 U,.string X,.string ⟨#[]⟩,.int .i64 0,.slice none 0 0,.int .u64 0,.int .u64 0,.int .u64 0,.slice none 0 0] 48 (0,0))):=G;have bK:Hid (RdAt E.heap.size s2 V3):=by rw[Hid,<- cm];exact Q.keep (Kept.refl.set (q:=(· ≠ C.heap.size)) (fun _ h=>h rfl) _ _) (Ne.symm J.out)
 have ai:Hid (Bw E V3):=F _ _ H.out R;clear Q A L G P F R bz bJ ah;obtain⟨Y,s3,ha⟩:∃ a s,jaW s2=(a,s):=⟨_,_,rfl⟩;have I:=jcx E.heap.size s2 fm ff V3 bK.out (fun W R=>HE.out W (ai.out.trans (R.mono ai.out.size)));rw[ha] at I;have bg:=Lib.hid ha;have T:=Lib.hid I;clear I ha;go_wp2_with fail;refine T.out.mono ?_;rintro e w4 ⟨rfl,Q,A⟩;clear T;have L:w4.heap[C.heap.size]? = some (.cells #[.int .i64 S,.int .u64 U,.string X,.string ⟨#[]⟩,.int .i64 0,.slice none 0 0,.int .u64 0,.int .u64 0,.int .u64 0,.slice none 0 0] 48 (0,0)):=A.known J.out bA.out;have R:Bw E w4:=ai.out.trans (A.below (fun k A=>Nat.ne_of_lt A) ai.out.size);have c3:w4.cell? ⟨C.heap.size,3,none⟩=some (.string ⟨#[]⟩):=cCc L 3;have f3:w4.frozen? ⟨C.heap.size,3,none⟩=false:=cFz L 3;obtain⟨V4,cn,G,P,F,-⟩:=jat (i:=3) L (.string Y);have bB:Hid (V4.heap[C.heap.size]? = some (.cells #[.int .i64 S,.int .u64 U,.string X,.string Y,.int .i64 0,.slice none 0 0,.int .u64 0,.int .u64 0,.int .u64 0,.slice none 0 0] 48 (0,0))):=G;have bL:Hid (RdAt E.heap.size s3 V4):=by rw[Hid,<- cn];exact Q.keep (Kept.refl.set (q:=(· ≠ C.heap.size)) (fun _ h=>h rfl) _ _) (Ne.symm J.out)
 have ay:Hid (Bw E V4):=F _ _ H.out R;clear Q A L G P F R bA bK ai;obtain⟨c,s4,ha⟩:∃ a s,jan 255 s3=(a,s):=⟨_,_,rfl⟩;have I:=ja8 255 E.heap.size s3 fm ff V4 ⟨by decide,by decide⟩ bL.out (HE.out _ ay.out);have hm:=ja7 (m:=255) (by decide) s3;rw[ha] at I hm;obtain⟨cH,cJ⟩:0<=c/\c<=255:=hm;have bh:=Lib.hid ha;have T:=Lib.hid I;clear I ha;go_wp2_with fail;refine T.out.mono ?_;rintro e w5 ⟨rfl,Q,A⟩;clear T;have L:w5.heap[C.heap.size]? = some (.cells #[.int .i64 S,.int .u64 U,.string X,.string Y,.int .i64 0,.slice none 0 0,.int .u64 0,.int .u64 0,.int .u64 0,.slice none 0 0] 48 (0,0)):=A.known J.out bB.out;have R:Bw E w5:=ay.out.trans (A.below (fun k A=>Nat.ne_of_lt A) ay.out.size);have c4:w5.cell? ⟨C.heap.size,4,none⟩=some (.int .i64 0):=cCc L 4;have f4:w5.frozen? ⟨C.heap.size,4,none⟩=false:=cFz L 4;obtain⟨V5,co,G,P,F,-⟩:=jat (i:=4) L (.int .i64 c);have bC:Hid (V5.heap[C.heap.size]? = some (.cells #[.int .i64 S,.int .u64 U,.string X,.string Y,.int .i64 c,.slice none 0 0,.int .u64 0,.int .u64 0,.int .u64 0,.slice none 0 0] 48 (0,0))):=G;have bM:Hid (RdAt E.heap.size s4 V5):=by rw[Hid,<- co];exact Q.keep (Kept.refl.set (q:=(· ≠ C.heap.size)) (fun _ h=>h rfl) _ _) (Ne.symm J.out)
 have az:Hid (Bw E V5):=F _ _ H.out R;clear Q A L G P F R bB bL ay;obtain⟨a5,s5,ha⟩:∃ a s,jan 50 s4=(a,s):=⟨_,_,rfl⟩;have I:=ja8 50 E.heap.size s4 fm ff V5 ⟨by decide,by decide⟩ bM.out (HE.out _ az.out);have hm:=ja7 (m:=50) (by decide) s4;rw[ha] at I hm;obtain⟨cw,cK⟩:0<=a5/\a5<=50:=hm;have bi:=Lib.hid ha;have T:=Lib.hid I;clear I ha;go_wp2_with fail;refine T.out.mono ?_;rintro e w6 ⟨rfl,Q,A⟩;clear T;have L:w6.heap[C.heap.size]? = some (.cells #[.int .i64 S,.int .u64 U,.string X,.string Y,.int .i64 c,.slice none 0 0,.int .u64 0,.int .u64 0,.int .u64 0,.slice none 0 0] 48 (0,0)):=A.known J.out bC.out;have R:Bw E w6:=az.out.trans (A.below (fun k A=>Nat.ne_of_lt A) az.out.size);obtain⟨nI,cp⟩:∃ nI:Nat,a5=(nI:Int):=⟨a5.toNat,by omega⟩;subst cp;have aE:Hid (w6.heap[C.heap.size]? = some (.cells #[.int .i64 S,.int .u64 U,.string X,.string Y,.int .i64 c,.slice none 0 0,.int .u64 0,.int .u64 0,.int .u64 0,.slice none 0 0] 48 (0,0))):=L;have aF:Hid (RdAt E.heap.size s5 w6):=Q;have ad:Hid (Bw E w6):=R;have cz:Hid (C.heap.size+1<=w6.heap.size):=by have:=(Array.getElem?_eq_some_iff.1 L).1;rw[Hid];omega
 clear Q A L R bC bM az cw;go_wp2_with fail;go_loopw [31] (fun i wr=>∃ (k:Nat) (v:Value) (p:List (Nat × Int)) (st:Rd),i=.int .u64 k/\k<=nI/\Hid (jba (jar jcf) k ([],s5)=(p,st))/\Hid (RdAt E.heap.size st wr)/\Hid (wr.heap[C.heap.size]? = some (.cells #[.int .i64 S,.int .u64 U,.string X,.string Y,.int .i64 c,v,.int .u64 0,.int .u64 0,.int .u64 0,.slice none 0 0] 48 (0,0)))/\Hid (GrowE ja1 wr (C.heap.size+1) 110 2 v p)/\Hid (p.length=k)/\Hid (Bw E wr)) (fun i _=>nI-(intOf i).toNat)
 case atStart=>exact⟨0,.slice none 0 0,[],s5,rfl,Nat.zero_le _,rfl,aF,aE,GrowE.nil ..,rfl,ad⟩
 case round =>
  obtain⟨k,v,p,st,rfl,A,aL,HR,HQ,HG,HL,HB⟩:=hrel;by_cases cD:k<nI
  ·obtain⟨a,t1,ha⟩:∃ a s,jaA st=(a,s):=⟨_,_,rfl⟩
   obtain⟨b,t2,R⟩:∃ a s,jaA t1=(a,s):=⟨_,_,rfl⟩;have ac:=jcw st;have aQ:=jcw t1;rw[ha] at ac;rw[R] at aQ;have I:=jaR E.heap.size st fm ff wr HR.out (HE.out _ HB.out);rw[ha] at I;have T:=Lib.hid I;have HA:=Lib.hid ha;have bo:=Lib.hid R;have bn:=Lib.hid ac;have cy:=Lib.hid aQ;clear I ha R ac aQ;go_wp2_with fail;refine T.out.mono ?_;rintro e y ⟨rfl,Q,N⟩;have aa:Hid (RdAt E.heap.size t1 y):=Q;have cf:Hid (y.heap[C.heap.size]? = some (.cells #[.int .i64 S,.int .u64 U,.string X,.string Y,.int .i64 c,v,.int .u64 0,.int .u64 0,.int .u64 0,.slice none 0 0] 48 (0,0))):=N.known J.out HQ.out;have aK:Hid (Bw E y):=HB.out.trans (N.below (fun k A=>Nat.ne_of_lt A) HB.out.size);have cb:Hid (GrowE ja1 y (C.heap.size+1) 110 2 v p):=HG.out.keep N (fun k A=>by have:=H.out;show k≠E.heap.size;omega);have I:=jaR E.heap.size t1 fm ff y aa.out (HE.out _ aK.out);rw[bo.out] at I;have bp:=Lib.hid I;clear I Q N T;go_wp2_with fail;refine bp.out.mono ?_;rintro e x2 ⟨rfl,Q,N⟩;have aG:Hid (RdAt E.heap.size t2 x2):=Q;have aI:x2.heap[C.heap.size]? = some (.cells #[.int .i64 S,.int .u64 U,.string X,.string Y,.int .i64 c,v,.int .u64 0,.int .u64 0,.int .u64 0,.slice none 0 0] 48 (0,0)):=N.known J.out cf.out;have b1:Bw E x2:=aK.out.trans (N.below (fun k A=>Nat.ne_of_lt A) aK.out.size);have b2:=cb.out.keep N (fun k A=>by have:=H.out;show k≠E.heap.size;omega);have c5:x2.cell? ⟨C.heap.size,5,none⟩=some v:=cCc aI 5;have b4:=(Array.getElem?_eq_some_iff.1 aI).1
   obtain⟨g,cap,x3,am,r,d,ar,M⟩:=b2.push (w0:=E) (B:=E.heap.size) 45 jer jg3 rfl (by decide) (a.toNat,b) [.int .u64 a,.int .u64 b] (by show [Value.int .u64 a,.int .u64 b]=[.int .u64 ((a.toNat:Nat):Int),.int .u64 b];rw[Int.toNat_of_nonneg bn.out.1]) b1 (by have:=H.out;omega) (by omega) (by simp[Value.oneCell']) (by rw[HL.out];omega) (by decide);rw[HL.out] at am r;have f:x3.heap[C.heap.size]? = some (.cells #[.int .i64 S,.int .u64 U,.string X,.string Y,.int .i64 c,v,.int .u64 0,.int .u64 0,.int .u64 0,.slice none 0 0] 48 (0,0)):=(M _ (by omega)).trans aI;have c6:x3.cell? ⟨C.heap.size,5,none⟩=some v:=cCc f 5;have f6:x3.frozen? ⟨C.heap.size,5,none⟩=false:=cFz f 5;obtain⟨V,hV,G,P,F,-⟩:=jat (i:=5) f (.slice (some ⟨g,0,none⟩) (k+1) cap);have n:Kept (· ≠ C.heap.size) x3 V:=by rw[<- hV];exact Kept.refl.set (fun _ h=>h rfl) _ _
   have FI:Hid (jba (jar jcf) (k+1) ([],s5)=(p++[(a.toNat,b)],t2)/\RdAt E.heap.size t2 V/\V.heap[C.heap.size]? = some (.cells #[.int .i64 S,.int .u64 U,.string X,.string Y,.int .i64 c,.slice (some ⟨g,0,none⟩) (k+1) cap,.int .u64 0,.int .u64 0,.int .u64 0,.slice none 0 0] 48 (0,0))/\GrowE ja1 V (C.heap.size+1) 110 2 (.slice (some ⟨g,0,none⟩) (k+1) cap) (p++[(a.toNat,b)])/\(p++[(a.toNat,b)]).length=k+1/\Bw E V):=by
    refine⟨?_,?_,G,r.keep n (fun k A=>by show k≠C.heap.size;omega),by rw[List.length_append,HL.out];rfl,F _ _ H.out d⟩
    ·show jar jcf (jba (jar jcf) k ([],s5))=_
     rw[aL.out];unfold jar jcf;dsimp only;rw[HA.out];dsimp only;rw[bo.out]
    ·refine RdAt.keep (q:=(· ≠ C.heap.size)) ?_ n (Ne.symm J.out)
     have cF:=aG.out.lt
     cases t2 with
     | none=>obtain⟨z,h⟩:=aG.out;exact⟨z,(M _ (by have:=H.out;omega)).trans h⟩
     | some z=>exact⟨aG.out.1,(M _ (by have:=H.out;omega)).trans aG.out.2⟩
   clear Q N aI b1 b2 b4 r d ar M f G P F n bp;go_wp2_with fail;go_roundw
   case rel =>
    obtain⟨h1,h2,h3,h4,h5,h6⟩:=FI.out;exact⟨k+1,_,_,_,by go_num,by omega,h1,h2,h3,h4,h5,h6⟩
   case measure=>simp[intOf];omega
  ·obtain rfl:k=nI:=by omega
   have aF:=HR;have aE:=HQ;have ad:=HB;have br:Hid (Kept (fun k=>C.heap.size+1<=k) wr wr):=Kept.refl;obtain⟨a6,s6,ha⟩:∃ a s,jaA st=(a,s):=⟨_,_,rfl⟩;have I:=jaR E.heap.size st fm ff wr aF.out (HE.out _ ad.out);rw[ha] at I;have bj:=Lib.hid ha;have T:=Lib.hid I;clear I ha;go_wp2_with fail;refine T.out.mono ?_;rintro e w7 ⟨rfl,Q,A⟩;clear T;have L:w7.heap[C.heap.size]? = some (.cells #[.int .i64 S,.int .u64 U,.string X,.string Y,.int .i64 c,v,.int .u64 0,.int .u64 0,.int .u64 0,.slice none 0 0] 48 (0,0)):=A.known J.out aE.out;have R:Bw E w7:=ad.out.trans (A.below (fun k A=>Nat.ne_of_lt A) ad.out.size);have c6:w7.cell? ⟨C.heap.size,6,none⟩=some (.int .u64 0):=cCc L 6;have f6:w7.frozen? ⟨C.heap.size,6,none⟩=false:=cFz L 6;obtain⟨V7,bV,G,P,F,-⟩:=jat (i:=6) L (.int .u64 a6);have bD:Hid (V7.heap[C.heap.size]? = some (.cells #[.int .i64 S,.int .u64 U,.string X,.string Y,.int .i64 c,v,.int .u64 a6,.int .u64 0,.int .u64 0,.slice none 0 0] 48 (0,0))):=G;have bN:Hid (RdAt E.heap.size s6 V7):=by rw[Hid,<- bV];exact Q.keep (Kept.refl.set (q:=(· ≠ C.heap.size)) (fun _ h=>h rfl) _ _) (Ne.symm J.out)
   have aA:Hid (Bw E V7):=F _ _ H.out R;have bs:Hid (Kept (fun k=>C.heap.size+1<=k) wr V7):=by rw[Hid,<- bV];exact (br.out.trans (A.mono (fun k A=>by have:=H.out;show k≠E.heap.size;omega))).set (fun _ h=>by have h:C.heap.size+1<=C.heap.size:=h;omega) _ _
   clear Q A L G P F R aE aF ad br;obtain⟨a7,s7,ha⟩:∃ a s,jaA s6=(a,s):=⟨_,_,rfl⟩;have I:=jaR E.heap.size s6 fm ff V7 bN.out (HE.out _ aA.out);rw[ha] at I;have bk:=Lib.hid ha;have T:=Lib.hid I;clear I ha;go_wp2_with fail;refine T.out.mono ?_;rintro e w8 ⟨rfl,Q,A⟩;clear T;have L:w8.heap[C.heap.size]? = some (.cells #[.int .i64 S,.int .u64 U,.string X,.string Y,.int .i64 c,v,.int .u64 a6,.int .u64 0,.int .u64 0,.slice none 0 0] 48 (0,0)):=A.known J.out bD.out;have R:Bw E w8:=aA.out.trans (A.below (fun k A=>Nat.ne_of_lt A) aA.out.size);have c7:w8.cell? ⟨C.heap.size,7,none⟩=some (.int .u64 0):=cCc L 7;have f7:w8.frozen? ⟨C.heap.size,7,none⟩=false:=cFz L 7;obtain⟨V8,bW,G,P,F,-⟩:=jat (i:=7) L (.int .u64 a7);have bE:Hid (V8.heap[C.heap.size]? = some (.cells #[.int .i64 S,.int .u64 U,.string X,.string Y,.int .i64 c,v,.int .u64 a6,.int .u64 a7,.int .u64 0,.slice none 0 0] 48 (0,0))):=G;have bO:Hid (RdAt E.heap.size s7 V8):=by rw[Hid,<- bW];exact Q.keep (Kept.refl.set (q:=(· ≠ C.heap.size)) (fun _ h=>h rfl) _ _) (Ne.symm J.out)
   have aB:Hid (Bw E V8):=F _ _ H.out R;have bt:Hid (Kept (fun k=>C.heap.size+1<=k) wr V8):=by rw[Hid,<- bW];exact (bs.out.trans (A.mono (fun k A=>by have:=H.out;show k≠E.heap.size;omega))).set (fun _ h=>by have h:C.heap.size+1<=C.heap.size:=h;omega) _ _
   clear Q A L G P F R bD bN aA bs;obtain⟨a8,s8,ha⟩:∃ a s,jaA s7=(a,s):=⟨_,_,rfl⟩;have I:=jaR E.heap.size s7 fm ff V8 bO.out (HE.out _ aB.out);rw[ha] at I;have bl:=Lib.hid ha;have T:=Lib.hid I;clear I ha;go_wp2_with fail;refine T.out.mono ?_;rintro e w9 ⟨rfl,Q,A⟩;clear T;have L:w9.heap[C.heap.size]? = some (.cells #[.int .i64 S,.int .u64 U,.string X,.string Y,.int .i64 c,v,.int .u64 a6,.int .u64 a7,.int .u64 0,.slice none 0 0] 48 (0,0)):=A.known J.out bE.out;have R:Bw E w9:=aB.out.trans (A.below (fun k A=>Nat.ne_of_lt A) aB.out.size);have c8:w9.cell? ⟨C.heap.size,8,none⟩=some (.int .u64 0):=cCc L 8;have f8:w9.frozen? ⟨C.heap.size,8,none⟩=false:=cFz L 8;obtain⟨V9,bX,G,P,F,-⟩:=jat (i:=8) L (.int .u64 a8);have bF:Hid (V9.heap[C.heap.size]? = some (.cells #[.int .i64 S,.int .u64 U,.string X,.string Y,.int .i64 c,v,.int .u64 a6,.int .u64 a7,.int .u64 a8,.slice none 0 0] 48 (0,0))):=G;have bP:Hid (RdAt E.heap.size s8 V9):=by rw[Hid,<- bX];exact Q.keep (Kept.refl.set (q:=(· ≠ C.heap.size)) (fun _ h=>h rfl) _ _) (Ne.symm J.out)
   have aC:Hid (Bw E V9):=F _ _ H.out R;have bu:Hid (Kept (fun k=>C.heap.size+1<=k) wr V9):=by rw[Hid,<- bX];exact (bt.out.trans (A.mono (fun k A=>by have:=H.out;show k≠E.heap.size;omega))).set (fun _ h=>by have h:C.heap.size+1<=C.heap.size:=h;omega) _ _
   clear Q A L G P F R bE bO aB bt;obtain⟨a9,s9,ha⟩:∃ a s,jan 8 s8=(a,s):=⟨_,_,rfl⟩;have I:=ja8 8 E.heap.size s8 fm ff V9 ⟨by decide,by decide⟩ bP.out (HE.out _ aC.out);have hm:=ja7 (m:=8) (by decide) s8;rw[ha] at I hm;obtain⟨cx,cL⟩:0<=a9/\a9<=8:=hm;have bm:=Lib.hid ha;have T:=Lib.hid I;clear I ha;go_wp2_with fail;refine T.out.mono ?_;rintro e O ⟨rfl,Q,A⟩;clear T;have L:O.heap[C.heap.size]? = some (.cells #[.int .i64 S,.int .u64 U,.string X,.string Y,.int .i64 c,v,.int .u64 a6,.int .u64 a7,.int .u64 a8,.slice none 0 0] 48 (0,0)):=A.known J.out bF.out;have R:Bw E O:=aC.out.trans (A.below (fun k A=>Nat.ne_of_lt A) aC.out.size);obtain⟨nT,cq⟩:∃ nT:Nat,a9=(nT:Int):=⟨a9.toNat,by omega⟩;subst cq;have cd:Hid (O.heap[C.heap.size]? = some (.cells #[.int .i64 S,.int .u64 U,.string X,.string Y,.int .i64 c,v,.int .u64 a6,.int .u64 a7,.int .u64 a8,.slice none 0 0] 48 (0,0))):=L;have ch:Hid (RdAt E.heap.size s9 O):=Q;have ab:Hid (Bw E O):=R;have b9:Hid (GrowE ja1 O (C.heap.size+1) 110 2 v p):=HG.out.keep (bu.out.trans (A.mono (fun k A=>by have:=H.out;show k≠E.heap.size;omega))) (fun k A=>A);have o:Hid (C.heap.size+1<=O.heap.size):=by have:=(Array.getElem?_eq_some_iff.1 L).1;rw[Hid];omega
   clear Q A L R bF bP aC bu cx HG HR HQ HB;go_wp2_with fail;go_loopw [57] (fun i wt=>∃ (j:Nat) (u:Value) (ts:List Int) (st:Rd),i=.int .u64 j/\j<=nT/\Hid (jba (jar jaA) j ([],s9)=(ts,st))/\Hid (RdAt E.heap.size st wt)/\Hid (wt.heap[C.heap.size]? = some (.cells #[.int .i64 S,.int .u64 U,.string X,.string Y,.int .i64 c,v,.int .u64 a6,.int .u64 a7,.int .u64 a8,u] 48 (0,0)))/\Hid (GrowE jca wt O.heap.size 22 1 u ts)/\Hid (ts.length=j)/\Hid (Bw E wt)/\Hid (Kept (fun k=>k≠E.heap.size/\k≠C.heap.size) O wt)) (fun i _=>nT-(intOf i).toNat)
   case atStart=>exact⟨0,.slice none 0 0,[],s9,rfl,Nat.zero_le _,rfl,ch,cd,GrowE.nil ..,rfl,ab,Kept.refl⟩
   case round =>
    obtain⟨j,u,ts,ag,rfl,hj,aD,HR,HQ,HG,HL,HB,aM⟩:=hrel;by_cases cE:j<nT
    ·obtain⟨a,t2,ha⟩:∃ a s,jaA ag=(a,s):=⟨_,_,rfl⟩
     have ac:=jcw ag;rw[ha] at ac;obtain⟨D,hD⟩:∃ D,wr.drew=D:=⟨_,rfl⟩;have ap:∀ q:Nat->Prop,Kept q wr D:=fun q=>by rw[<- hD];exact Kept.refl.drew
     have cg:Hid (RdAt E.heap.size ag D):=HR.out.keep (ap fun _=>True) trivial;have aS:D.heap[C.heap.size]? = some (.cells #[.int .i64 S,.int .u64 U,.string X,.string Y,.int .i64 c,v,.int .u64 a6,.int .u64 a7,.int .u64 a8,u] 48 (0,0)):=(ap fun _=>True).known trivial HQ.out;have aj:Hid (Bw E D):=by rw[Hid,<- hD];exact HB.out.drew
     have bq:Hid (GrowE jca D O.heap.size 22 1 u ts):=HG.out.keep (ap fun _=>True) (fun _ _=>trivial);have ae:Hid (Kept (fun k=>k≠E.heap.size/\k≠C.heap.size) O D):=aM.out.trans (ap _);have c9:D.cell? ⟨C.heap.size,9,none⟩=some u:=cCc aS 9;have bG:=Lib.hid aS;have I:=jaR E.heap.size ag fm ff D cg.out (HE.out _ aj.out);rw[ha] at I;have T:=Lib.hid I;have HA:=Lib.hid ha;have bn:=Lib.hid ac;have HD:=Lib.hid hD;clear I ha ac ap aS hD;go_wp2_with fail;refine wp_region_any (by kernel_rfl) ?_;change wpAny _ _ _ _ _ _ _ (World.drew _);rw[HD.out]
     ·
      refine ta 0 ?_;refine ta 2 ?_;refine rd [1,3] (.cons rfl (fun K hK=>?_) (.cons rfl (fun K hK=>?_) .nil))
      all_goals go_simp
      all_goals first
       |
        refine T.out.mono ?_;rintro e y ⟨rfl,Q,N⟩;have aa:Hid (RdAt E.heap.size t2 y):=Q;have t:y.heap[C.heap.size]? = some (.cells #[.int .i64 S,.int .u64 U,.string X,.string Y,.int .i64 c,v,.int .u64 a6,.int .u64 a7,.int .u64 a8,u] 48 (0,0)):=N.known J.out bG.out;have an:Bw E y:=aj.out.trans (N.below (fun k A=>Nat.ne_of_lt A) aj.out.size);have au:O.heap.size<=y.heap.size:=Nat.le_trans ae.out.size N.size;have ao:=bq.out.keep N (fun k A=>by have:=o.out;have:=H.out;show k≠E.heap.size;omega);have d9:y.cell? ⟨C.heap.size,9,none⟩=some u:=cCc t 9
        have e9:(y.alloc (.cells #[.int .u64 a] 22)).cell? ⟨C.heap.size,9,none⟩=some u:=by
         obtain⟨Z,hZ,-,aP,-⟩:=jab y #[.int .u64 a] 22;rw[hZ];exact cCc (known aP (by have:=(Array.getElem?_eq_some_iff.1 t).1;omega) t) 9
        obtain⟨g,cap,x3,am,r,d,ar,M⟩:=ao.push (w0:=E) (B:=E.heap.size) 46 jdA jdp rfl (by decide) a [.int .u64 a] rfl an (by have:=H.out;have:=o.out;omega) au (by simp[Value.oneCell']) (by rw[HL.out];omega) (by decide);rw[HL.out] at am r;have f:x3.heap[C.heap.size]? = some (.cells #[.int .i64 S,.int .u64 U,.string X,.string Y,.int .i64 c,v,.int .u64 a6,.int .u64 a7,.int .u64 a8,u] 48 (0,0)):=(M _ (by have:=o.out;omega)).trans t;have c6:x3.cell? ⟨C.heap.size,9,none⟩=some u:=cCc f 9;have f6:x3.frozen? ⟨C.heap.size,9,none⟩=false:=cFz f 9;obtain⟨V,hV,G,P,F,-⟩:=jat (i:=9) f (.slice (some ⟨g,0,none⟩) (j+1) cap);have n:Kept (· ≠ C.heap.size) x3 V:=by rw[<- hV];exact Kept.refl.set (fun _ h=>h rfl) _ _
        have aq:Kept (fun k=>k≠E.heap.size/\k≠C.heap.size) O x3:=⟨d.os.trans ab.out.os.symm,d.tape.trans ab.out.tape.symm,d.output.trans ab.out.output.symm,by omega,fun k A L=>(M k A).trans ((N.block k (Nat.lt_of_lt_of_le A ae.out.size) L.1).trans (ae.out.block k A L))⟩
        have FI:Hid (jba (jar jaA) (j+1) ([],s9)=(ts++[a],t2)/\RdAt E.heap.size t2 V/\V.heap[C.heap.size]? = some (.cells #[.int .i64 S,.int .u64 U,.string X,.string Y,.int .i64 c,v,.int .u64 a6,.int .u64 a7,.int .u64 a8,.slice (some ⟨g,0,none⟩) (j+1) cap] 48 (0,0))/\GrowE jca V O.heap.size 22 1 (.slice (some ⟨g,0,none⟩) (j+1) cap) (ts++[a])/\(ts++[a]).length=j+1/\Bw E V/\Kept (fun k=>k≠E.heap.size/\k≠C.heap.size) O V):=by
         refine⟨?_,?_,G,r.keep n (fun k A=>by have:=o.out;show k≠C.heap.size;omega),by rw[List.length_append,HL.out];rfl,F _ _ H.out d,aq.trans (n.mono fun k A=>A.2)⟩
         ·show jar jaA (jba (jar jaA) j ([],s9))=_
          rw[aD.out];unfold jar;dsimp only;rw[HA.out]
         ·refine RdAt.keep (q:=(· ≠ C.heap.size)) ?_ n (Ne.symm J.out)
          have ci:=H.out;have cj:=o.out
          cases t2 with
          | none=>obtain⟨z,h⟩:=aa.out;exact⟨z,(M _ (by omega)).trans h⟩
          | some z=>exact⟨aa.out.1,(M _ (by omega)).trans aa.out.2⟩
        clear Q N t an au ao r d ar M f G P F n aq;refine hK _ _ ?_;clear hK K
       | (refine hK _ _ ?_;clear hK K)
      all_goals first
       | (refine rq [3] (.cons rfl (fun K hK=>?_) .nil))
       | (refine rq [1,4] (.cons rfl (fun K hK=>?_) (.cons rfl (fun K hK=>?_) .nil)))
      all_goals go_simp
      all_goals first
       |
        refine T.out.mono ?_;rintro e y ⟨rfl,Q,N⟩;have aa:Hid (RdAt E.heap.size t2 y):=Q;have t:y.heap[C.heap.size]? = some (.cells #[.int .i64 S,.int .u64 U,.string X,.string Y,.int .i64 c,v,.int .u64 a6,.int .u64 a7,.int .u64 a8,u] 48 (0,0)):=N.known J.out bG.out;have an:Bw E y:=aj.out.trans (N.below (fun k A=>Nat.ne_of_lt A) aj.out.size);have au:O.heap.size<=y.heap.size:=Nat.le_trans ae.out.size N.size;have ao:=bq.out.keep N (fun k A=>by have:=o.out;have:=H.out;show k≠E.heap.size;omega);have d9:y.cell? ⟨C.heap.size,9,none⟩=some u:=cCc t 9
        have e9:(y.alloc (.cells #[.int .u64 a] 22)).cell? ⟨C.heap.size,9,none⟩=some u:=by
         obtain⟨Z,hZ,-,aP,-⟩:=jab y #[.int .u64 a] 22;rw[hZ];exact cCc (known aP (by have:=(Array.getElem?_eq_some_iff.1 t).1;omega) t) 9
        obtain⟨g,cap,x3,am,r,d,ar,M⟩:=ao.push (w0:=E) (B:=E.heap.size) 46 jdA jdp rfl (by decide) a [.int .u64 a] rfl an (by have:=H.out;have:=o.out;omega) au (by simp[Value.oneCell']) (by rw[HL.out];omega) (by decide);rw[HL.out] at am r;have f:x3.heap[C.heap.size]? = some (.cells #[.int .i64 S,.int .u64 U,.string X,.string Y,.int .i64 c,v,.int .u64 a6,.int .u64 a7,.int .u64 a8,u] 48 (0,0)):=(M _ (by have:=o.out;omega)).trans t;have c6:x3.cell? ⟨C.heap.size,9,none⟩=some u:=cCc f 9;have f6:x3.frozen? ⟨C.heap.size,9,none⟩=false:=cFz f 9;obtain⟨V,hV,G,P,F,-⟩:=jat (i:=9) f (.slice (some ⟨g,0,none⟩) (j+1) cap);have n:Kept (· ≠ C.heap.size) x3 V:=by rw[<- hV];exact Kept.refl.set (fun _ h=>h rfl) _ _
        have aq:Kept (fun k=>k≠E.heap.size/\k≠C.heap.size) O x3:=⟨d.os.trans ab.out.os.symm,d.tape.trans ab.out.tape.symm,d.output.trans ab.out.output.symm,by omega,fun k A L=>(M k A).trans ((N.block k (Nat.lt_of_lt_of_le A ae.out.size) L.1).trans (ae.out.block k A L))⟩
        have FI:Hid (jba (jar jaA) (j+1) ([],s9)=(ts++[a],t2)/\RdAt E.heap.size t2 V/\V.heap[C.heap.size]? = some (.cells #[.int .i64 S,.int .u64 U,.string X,.string Y,.int .i64 c,v,.int .u64 a6,.int .u64 a7,.int .u64 a8,.slice (some ⟨g,0,none⟩) (j+1) cap] 48 (0,0))/\GrowE jca V O.heap.size 22 1 (.slice (some ⟨g,0,none⟩) (j+1) cap) (ts++[a])/\(ts++[a]).length=j+1/\Bw E V/\Kept (fun k=>k≠E.heap.size/\k≠C.heap.size) O V):=by
         refine⟨?_,?_,G,r.keep n (fun k A=>by have:=o.out;show k≠C.heap.size;omega),by rw[List.length_append,HL.out];rfl,F _ _ H.out d,aq.trans (n.mono fun k A=>A.2)⟩
         ·show jar jaA (jba (jar jaA) j ([],s9))=_
          rw[aD.out];unfold jar;dsimp only;rw[HA.out]
         ·refine RdAt.keep (q:=(· ≠ C.heap.size)) ?_ n (Ne.symm J.out)
          have ci:=H.out;have cj:=o.out
          cases t2 with
          | none=>obtain⟨z,h⟩:=aa.out;exact⟨z,(M _ (by omega)).trans h⟩
          | some z=>exact⟨aa.out.1,(M _ (by omega)).trans aa.out.2⟩
        clear Q N t an au ao r d ar M f G P F n aq;refine hK _ _ ?_;clear hK K
       | (refine hK _ _ ?_;clear hK K)
      all_goals first
       | (refine rq [4] (.cons rfl (fun K hK=>?_) .nil))
       | (refine rq [1] (.cons rfl (fun K hK=>?_) .nil))
      all_goals go_simp
      all_goals (refine hK _ _ ?_;clear hK K)
      all_goals (refine rd [5] (.cons rfl (fun K hK=>?_) .nil))
      all_goals go_simp
      all_goals (refine hK _ _ ?_;clear hK K)
      all_goals (refine ta 6 ?_;refine rd [7] (.cons rfl (fun K hK=>?_) .nil))
      all_goals go_simp
      all_goals (refine hK _ _ ?_;clear hK K)
      all_goals (refine wpAny_done (by kernel_rfl) ?_ _)
      all_goals
       go_wp2_with fail;go_roundw
       case rel =>
        obtain⟨h1,h2,h3,h4,h5,h6,h7⟩:=FI.out;exact⟨j+1,_,_,_,by go_num,by omega,h1,h2,h3,h4,h5,h6,h7⟩
       case measure=>simp[intOf];omega
    ·obtain rfl:j=nT:=by omega
     obtain⟨ok,aR⟩:∃ ok,decide (ag=some [])=ok:=⟨_,rfl⟩;have I:=jcR E.heap.size ag wr HR.out;rw[aR] at I;have T:=Lib.hid I;have bv:=Lib.hid aR;clear I aR;go_wp2_with fail;refine T.out.mono ?_;rintro e av ⟨rfl,A,Q⟩;have ce:Hid (av.heap[C.heap.size]? = some (.cells #[.int .i64 S,.int .u64 U,.string X,.string Y,.int .i64 c,v,.int .u64 a6,.int .u64 a7,.int .u64 a8,u] 48 (0,0))):=A.known J.out HQ.out;have b8:Hid (Bw E av):=HB.out.trans (A.below (fun k A=>Nat.ne_of_lt A) HB.out.size);have ca:Hid (GrowE jca av O.heap.size 22 1 u ts):=HG.out.keep A (fun k A=>by have:=o.out;have:=H.out;show k≠E.heap.size;omega);have cc:Hid (Kept (fun k=>k≠E.heap.size/\k≠C.heap.size) O av):=aM.out.trans (A.mono fun k A=>A.1);clear Q A T HQ HB HG aM;obtain⟨af,aH⟩:=bQ.out av b8.out;obtain⟨dg,dh,di,dj,dk,dl,dm,dn,dp,dq⟩:=jiM af;obtain⟨cW,cX,cY,cZ,da,db,dc,dd,de,df⟩:=jb3 af
     cases ok with
     | true =>
      have bU:=ce.out;obtain⟨cM,cN,cO,cP,cQ,cR,cS,cT,cU,cV⟩:=jb3 bU;obtain⟨V,hV,G,F,al⟩:=jek (.int .i64 S) (.int .u64 U) (.string X) (.string Y) (.int .i64 c) (v) (.int .u64 a6) (.int .u64 a7) (.int .u64 a8) (u) af aH (Nat.le_refl _);obtain⟨aT,aU,aV,aW,aX,aY,aZ,ba,bb,bc⟩:=jb3 G;have HF:=Lib.hid F;have bS:GrowE ja1 V (C.heap.size+1) 110 2 v p:=((b9.out.keep cc.out (fun k A=>by have:=H.out;constructor<;>omega)).keep al (fun k A=>by have:=H.out;have:=bR.out;show k≠w.heap.size;omega));have bT:GrowE jca V O.heap.size 22 1 u ts:=ca.out.keep al (fun k A=>by have:=H.out;have:=bR.out;have:=o.out;show k≠w.heap.size;omega);obtain⟨ia,ic,rfl,ct⟩:=bS.sl (fun x=>rfl);obtain⟨ta,tc,rfl,cv⟩:=bT.sl (fun x=>rfl);have hg:jbj l=some ⟨S,U,X,Y,c,p,a6,a7,a8,ts⟩:=jfj (decide_eq_true_iff.1 bv.out) bd.out be.out bf.out bg.out bh.out bi.out (by simpa using aL.out) bj.out bk.out bl.out bm.out (by simpa using aD.out);clear af aH bU G F al bS bT;go_wp2_with fail;refine bodyPost_ret (v:=.tuple #[.agg (rqV ⟨S,U,X,Y,c,p,a6,a7,a8,ts⟩ ia ic ta tc),.int .i64 0]) (by simp[results,rqV,Tryz.f16,go_sem,aT,aU,aV,aW,aX,aY,aZ,ba,bb,bc]) rfl ?_;rw[hg];exact⟨⟨_,_,_,_,rfl,ct,cv⟩,HF.out⟩
     | false =>
      obtain⟨V,hV,G,F,al⟩:=jek (.int .i64 0) (.int .u64 0) (.string ⟨#[]⟩) (.string ⟨#[]⟩) (.int .i64 0) (.slice none 0 0) (.int .u64 0) (.int .u64 0) (.int .u64 0) (.slice none 0 0) af aH (Nat.le_refl _);obtain⟨aT,aU,aV,aW,aX,aY,aZ,ba,bb,bc⟩:=jb3 G;have HF:=Lib.hid F;have hg:jbj l=none:=jfi (decide_eq_false_iff_not.1 bv.out) bd.out be.out bf.out bg.out bh.out bi.out (by simpa using aL.out) bj.out bk.out bl.out bm.out (by simpa using aD.out);clear af aH G F al;go_wp2_with fail;refine bodyPost_ret (v:=.tuple #[.agg rqZ,.int .i64 200]) (by simp[results,rqZ,Tryz.f16,go_sem,aT,aU,aV,aW,aX,aY,aZ,ba,bb,bc]) rfl ?_;rw[hg];exact⟨rfl,HF.out⟩
end
theorem jfm (n:Int) (w:World):Calls Tryz.prog 72 #[.slice none 0 0,.int .u64 n] w fun e A=>e=.returned (.int .i64 (-1))/\A=w:=by
 go_enter Tryz.func72,Tryz.ntmps72;go_wp2_with fail;go_loopw [8] (fun i wr=>i=.int .i64 0/\wr=w) (fun _ _=>0)
 case atStart=>exact⟨rfl,rfl⟩
 case round =>
  obtain⟨rfl,rfl⟩:=hrel;go_wp2_with fail;go_ret;exact⟨rfl,rfl⟩
theorem jf8 (b:Nat) (n:Int) (w:World) (h:w.cell? ⟨b,2,none⟩=some (.slice none 0 0)):Calls Tryz.prog 47 #[.pointer (some ⟨b,0,none⟩),.int .u64 n] w fun e C=>e=.returned (.pointer none)/\C=w:=by
 have B:=Lib.hid fun V=>jfm n V
 go_enter Tryz.func47,Tryz.ntmps47;go_wp2_with fail;refine (B.out _).mono ?_;rintro e D ⟨rfl,A⟩;have A:=A.symm;subst A;go_wp2_with fail;go_ret;exact⟨rfl,rfl⟩
def jiV (A B id:Int):Int × Int:=jdQ A B (jdy++strOfNums (jaa id))
theorem jhJ (A B H:Int) (w:World) (c:U64 H):CR 49 #[.agg #[.int .u64 A,.int .u64 B],.int .u64 H] w (.agg #[.int .u64 (jiV A B H).1,.int .u64 (jiV A B H).2]):=by
 unfold jiV;obtain⟨p,Q⟩:∃ p,strOfNums (jaa H)=p:=⟨_,rfl⟩;have X:p.size<=9:=by rw[<- Q,jaf];have:=jae H;rw[jbu,List.length_map] at this;exact this.2
 have b:Hid (∀ W,CR 54 #[.int .u64 H] W (.string p)):=fun W=>by rw[<- Q];exact jaw H W c
 have y:¬ 9223372036854775807<6+p.size:=by omega
 have d:(jdy++p).size<4294967280:=by rw[ByteArray.size_append];show 6+p.size<_;omega
 rw[Q];obtain⟨⟨F,J⟩,T⟩:∃ S,jdQ A B (jdy++p)=S:=⟨_,rfl⟩
 have j:Hid (∀ W,CR 74 #[.agg #[.int .u64 A,.int .u64 B],.string (⟨#[116,101,110,97,110,116]⟩++p)] W (.agg #[.int .u64 F,.int .u64 J])):=fun W=>by
  have h:=jfJ A B (jdy++p) W d;rw[T] at h;exact h
 rw[T];obtain⟨W,x,O,P,M,o⟩:=jbq w #[.int .u64 A,.int .u64 B] 24 #[.int .u64 0,.int .u64 0] 24;obtain⟨D,N⟩:∃ D,W.drew=D:=⟨_,rfl⟩;have L:Bw w D:=by rw[<- N];exact M.drew
 have C:D.heap[w.heap.size]? = some (.cells #[.int .u64 A,.int .u64 B] 24 (0,0)):=by rw[<- N];exact O
 have G:D.heap[w.heap.size+1]? = some (.cells #[.int .u64 0,.int .u64 0] 24 (0,0)):=by rw[<- N];exact P
 obtain⟨t,u⟩:=cl2 C
 have R:Hid (∀ V,Bw D V->V.cell? ⟨w.heap.size,0,none⟩=some (.int .u64 A)/\V.cell? ⟨w.heap.size,1,none⟩=some (.int .u64 B) /\
   (V.cell? ⟨w.heap.size+1,0,none⟩=some (.int .u64 0)/\V.frozen? ⟨w.heap.size+1,0,none⟩=false) /\
   ((V.setCell ⟨w.heap.size+1,0,none⟩ (.int .u64 F)).cell? ⟨w.heap.size+1,1,none⟩=some (.int .u64 0))/\(V.setCell ⟨w.heap.size+1,0,none⟩ (.int .u64 F)).frozen? ⟨w.heap.size+1,1,none⟩=false /\
   ((V.setCell ⟨w.heap.size+1,0,none⟩ (.int .u64 F)).setCell ⟨w.heap.size+1,1,none⟩ (.int .u64 J)).cell? ⟨w.heap.size+1,0,none⟩=some (.int .u64 F)/\((V.setCell ⟨w.heap.size+1,0,none⟩ (.int .u64 F)).setCell ⟨w.heap.size+1,1,none⟩ (.int .u64 J)).cell? ⟨w.heap.size+1,1,none⟩=some (.int .u64 J) /\
   Hid (Bw w ((V.setCell ⟨w.heap.size+1,0,none⟩ (.int .u64 F)).setCell ⟨w.heap.size+1,1,none⟩ (.int .u64 J)))):=fun V U=>by
  have f:=known U (Nat.le_refl _) C;have Z:=known U (Nat.le_refl _) G;have a:=hSk Z (i:=0) (.int .u64 F);have g:=hSk a (i:=1) (.int .u64 J);exact⟨cCc f 0,cCc f 1,⟨cCc Z 0,cFz Z 0⟩,cCc a 1,cFz a 1,cCc g 0,cCc g 1,((L.trans (U.mono L.size)).setCell (p:=⟨w.heap.size+1,0,none⟩) (Nat.le_succ _) _).setCell (p:=⟨w.heap.size+1,1,none⟩) (Nat.le_succ _) _⟩
 have k:=Lib.hid N;clear O P M N L C G T Q X d c;go_enter Tryz.func49,Tryz.ntmps49;go_wp2_with fail;refine wp_region_any (by kernel_rfl) ?_;change wpAny _ _ _ _ _ _ _ (World.drew _);rw[k.out]
 ·
  refine ta 1 ?_;refine rd [0,2] (.cons rfl (fun K hK=>?_) (.cons rfl (fun K hK=>?_) .nil))
  all_goals go_simp
  all_goals first
   |
    refine (b.out _).mono ?_;rintro e Y ⟨rfl,E⟩;obtain⟨m,n,-⟩:=R.out Y E;have I:=Lib.hid E;clear E;refine hK _ _ ?_;clear hK K
   | (refine hK _ _ ?_;clear hK K)
  all_goals first
   | (refine rq [2] (.cons rfl (fun K hK=>?_) .nil))
   | (refine taq 3 ?_;refine rq [0] (.cons rfl (fun K hK=>?_) .nil))
  all_goals go_simp
  all_goals first
   |
    refine (b.out _).mono ?_;rintro e Y ⟨rfl,E⟩;obtain⟨m,n,-⟩:=R.out Y E;have I:=Lib.hid E;clear E;refine hK _ _ ?_;clear hK K
   | (refine hK _ _ ?_;clear hK K)
  all_goals first
   | (refine taq 3 ?_;refine rq [4] (.cons rfl (fun K hK=>?_) .nil))
   | (refine rq [4] (.cons rfl (fun K hK=>?_) .nil))
  all_goals go_simp
  all_goals
   refine (j.out _).mono ?_;rintro e s ⟨rfl,E⟩;obtain⟨-,-,⟨z,r1⟩,r2,r3,q,r,l⟩:=R.out s (I.out.trans (E.mono I.out.size));clear E;refine hK _ _ ?_;clear hK K
  all_goals (refine rd [5] (.cons rfl (fun K hK=>?_) .nil))
  all_goals go_simp
  all_goals (refine hK _ _ ?_;clear hK K)
  all_goals (refine wpAny_done (by kernel_rfl) ?_ _)
  all_goals
   go_wp2_with fail;exact bodyPost_ret (v:=.agg #[.int .u64 F,.int .u64 J]) (by simp[results,Tryz.results49,go_sem,q,r]) rfl ⟨rfl,l.out⟩
end Go.Proofs.YtlmlcadcdhhlcaaGreatDoor
