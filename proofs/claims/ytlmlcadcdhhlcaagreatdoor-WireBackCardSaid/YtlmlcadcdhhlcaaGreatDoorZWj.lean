/- Package wire: GetReply. Printed by gen_wd.py. References: aviaryref12.Ints, aviaryref16.Entries, aviaryref19.Same, of what is the same. Package frame: number, Check. Package frame: Make. Package wire: made, Ask. Package wire: framed. -/
import Derived.Test.YtlmlcadcdhhlcaaGreatDoorZWt
set_option maxHeartbeats 4000000
set_option maxRecDepth 100000
namespace Go.Proofs.YtlmlcadcdhhlcaaGreatDoor
open Go Go.RowKit Go.Shelf
section
def ryZ:Array Value:=#[.int .i64 0,.int .u64 0,.slice none 0 0,.slice none 0 0]
def jim (o:Option Ry) (w:World) (e:Ending) (w':World):Prop:=(match o with
   | some q=>∃ na nc ea ec,e=.returned (.tuple #[.agg (ryV q na nc ea ec),.int .i64 0])/\SlE jct 1 w'.heap.size w' na q.nots.length q.nots/\SlE Ent.enc 4 w'.heap.size w' ea q.ents.length q.ents
   | none=>e=.returned (.tuple #[.agg ryZ,.int .i64 200]))/\Bw w w'
theorem jfB {w W:World} {b:Nat} {M J H E:Value} (A B C G:Value) {t:TypeId} (h:W.heap[b]? = some (.cells #[M,J,H,E] t (0,0))) {n:Nat} (I:Below n w W) (L:n<=b) :
  ∃ V,(((W.setCell ⟨b,0,none⟩ A).setCell ⟨b,1,none⟩ B).setCell ⟨b,2,none⟩ C).setCell ⟨b,3,none⟩ G=V /\
   V.heap[b]? = some (.cells #[A,B,C,G] t (0,0))/\Below n w V/\Kept (· ≠ b) W V:=by
 refine⟨_,rfl,?_⟩;have hK:∀ X,Kept (· ≠ b) W X->∀ i v,Kept (· ≠ b) W (X.setCell ⟨b,i,none⟩ v):=fun X F i v=>F.set (fun _ h=>h rfl) _ _
 have D:∀ X,Below n w X->∀ i v,Below n w (X.setCell ⟨b,i,none⟩ v):=fun X F i v=>F.setCell (p:=⟨b,i,none⟩) L _
 refine⟨?_,D _ (D _ (D _ (D _ I _ _) _ _) _ _) _ _,hK _ (hK _ (hK _ (hK _ Kept.refl _ _) _ _) _ _) _ _⟩;clear hK D I;replace h:(W.setCell ⟨b,0,none⟩ A).heap[b]? = some (.cells #[A,J,H,E] t (0,0)):=hSk h A;generalize W.setCell ⟨b,0,none⟩ A=W at h ⊢;replace h:(W.setCell ⟨b,1,none⟩ B).heap[b]? = some (.cells #[A,B,H,E] t (0,0)):=hSk h B;generalize W.setCell ⟨b,1,none⟩ B=W at h ⊢;replace h:(W.setCell ⟨b,2,none⟩ C).heap[b]? = some (.cells #[A,B,C,E] t (0,0)):=hSk h C;generalize W.setCell ⟨b,2,none⟩ C=W at h ⊢;exact hSk h G
section
variable {l:List UInt8} {a0 a1 a2 a3:Int} {s0 s1 s2 s3 st sz:Rd} {ns:List Int} {es:List Ent}
theorem jgv (A:jan 4611686018427387904 (some l)=(a0,s0)) (B:jaA s0=(a1,s1)) (C:jan 100 s1=(a2,s2)) (E:jba (jar (jan 4611686018427387904)) a2.toNat ([],s2)=(ns,st)) (D:jan 100 st=(a3,s3)) (ht:jba (jar jfy) a3.toNat ([],s3)=(es,sz)) :
  jh9 l=(⟨a0,a1,ns,es⟩,sz):=by
 unfold jh9;simp only[A,B,C,E,D,ht]
theorem jfl (E:sz=some []) (A:jan 4611686018427387904 (some l)=(a0,s0)) (B:jaA s0=(a1,s1)) (C:jan 100 s1=(a2,s2)) (F:jba (jar (jan 4611686018427387904)) a2.toNat ([],s2)=(ns,st)) (D:jan 100 st=(a3,s3)) (ht:jba (jar jfy) a3.toNat ([],s3)=(es,sz)) :
  jbJ l=some ⟨a0,a1,ns,es⟩:=by
 unfold jbJ;rw[jgv A B C F D ht,if_pos E]
theorem jfk (E:sz≠some []) (A:jan 4611686018427387904 (some l)=(a0,s0)) (B:jaA s0=(a1,s1)) (C:jan 100 s1=(a2,s2)) (F:jba (jar (jan 4611686018427387904)) a2.toNat ([],s2)=(ns,st)) (D:jan 100 st=(a3,s3)) (ht:jba (jar jfy) a3.toNat ([],s3)=(es,sz)) :
  jbJ l=none:=by
 unfold jbJ;rw[jgv A B C F D ht,if_neg E]
end
theorem jbz {a:Int} (A:0<=a) (B:a<9223372036854775808):IntKind.i64.wrap a=a:=by
 have:¬ (a < -9223372036854775808\/9223372036854775807<a):=by omega
 simp only[IntKind.wrap,IntKind.signed,IntKind.bits];simp;omega
theorem jeq:Tryz.prog.underlying 49=some (.slice 3):=by kernel_rfl
theorem jd1:(Tryz.prog.info? 3).map (fun i=>(i.zero,i.size,i.bytes))=some (some (.int .i64 0),1,8):=by kernel_rfl
theorem jep:Tryz.prog.underlying 50=some (.slice 103):=by kernel_rfl
theorem jd0:(Tryz.prog.info? 103).map (fun i=>(i.zero,i.size,i.bytes))=some (some (.agg #[.int .u64 0,.int .u64 0,.string ⟨#[]⟩,.int .u64 0]),4,40):=by kernel_rfl
attribute [-go_sem] Builtin.append_
theorem jdG (s:ByteArray) (fm ff:Addr) (w:World) (hs:s.size<4294967281) (hE:∀ W,Bw w W->GF fm ff W) :
  Calls Tryz.prog 18 #[.string s] w (jim (jbJ s.data.toList) w):=by
 obtain⟨C,ci,bq,ai,b1⟩:=jab w #[.int .i64 0,.int .u64 0,.slice none 0 0,.slice none 0 0] 52;obtain⟨E,cg,aS,aO,bY⟩:=jab C #[.string s,.bool false] 116;obtain⟨W1,ch,bp,aP,bZ⟩:=jab E #[.int .i64 0,.int .u64 0,.slice none 0 0,.slice none 0 0] 52;have aH:=known aP (Nat.le_refl _) aS;have bw:E.heap.size≠C.heap.size:=by omega
 have bx:C.heap.size<=E.heap.size:=by omega
 obtain⟨l,hl⟩:∃ l,s.data.toList=l:=⟨_,rfl⟩;have bv:l.length<4294967281:=by rw[<- hl,Array.length_toList];exact hs
 have bz:s=⟨l.toArray⟩:=by rw[<- hl]
 rw[hl];have ae:Hid (RdAt C.heap.size (some l) W1):=⟨bv,by rw[<- bz];exact aH⟩;have ba:Hid (W1.heap[E.heap.size]? = some (.cells #[.int .i64 0,.int .u64 0,.slice none 0 0,.slice none 0 0] 52 (0,0))):=bp;have ar:Hid (Bw C W1):=aO.trans (aP.mono aO.size);have HE:Hid (∀ W,Bw C W->GF fm ff W):=fun W f=>hE W (ai.trans (f.mono ai.size))
 have bf:Hid (∀ W,Bw C W->W.heap[w.heap.size]? = some (.cells #[.int .i64 0,.int .u64 0,.slice none 0 0,.slice none 0 0] 52 (0,0))/\Bw w W):=fun W f=>⟨known f (Nat.le_refl _) bq,ai.trans (f.mono ai.size)⟩
 have P:=Lib.hid bw;have bg:Hid (w.heap.size<C.heap.size):=by rw[Hid];omega
 have I:=Lib.hid bx;clear aS bp aH bq aO aP ai bY bZ b1 hE bv bz hl hs bw bx;go_enter Tryz.func18,Tryz.ntmps18;obtain⟨R,s0,ha⟩:∃ a s,jan 4611686018427387904 (some l)=(a,s):=⟨_,_,rfl⟩;have J:=ja8 4611686018427387904 C.heap.size (some l) fm ff W1 ⟨by decide,by decide⟩ ae.out (HE.out _ ar.out);have hm:=ja7 (m:=4611686018427387904) (by decide) (some l);rw[ha] at J hm;obtain⟨cj,ck⟩:0<=R/\R<=4611686018427387904:=hm;have a4:=Lib.hid ha;have N:=Lib.hid J;clear J ha;go_wp2_with fail;refine N.out.mono ?_;rintro e w1 ⟨rfl,M,A⟩;clear N;have Y:w1.heap[E.heap.size]? = some (.cells #[.int .i64 0,.int .u64 0,.slice none 0 0,.slice none 0 0] 52 (0,0)):=A.known P.out ba.out;have f:Bw C w1:=ar.out.trans (A.below (fun k A=>Nat.ne_of_lt A) ar.out.size);have c0:w1.cell? ⟨E.heap.size,0,none⟩=some (.int .i64 0):=cCc Y 0;have f0:w1.frozen? ⟨E.heap.size,0,none⟩=false:=cFz Y 0;obtain⟨V1,bT,F,L,G,-⟩:=jat (i:=0) Y (.int .i64 R);have bb:Hid (V1.heap[E.heap.size]? = some (.cells #[.int .i64 R,.int .u64 0,.slice none 0 0,.slice none 0 0] 52 (0,0))):=F;have af:Hid (RdAt C.heap.size s0 V1):=by rw[Hid,<- bT];exact M.keep (Kept.refl.set (q:=(· ≠ E.heap.size)) (fun _ h=>h rfl) _ _) (Ne.symm P.out)
 have au:Hid (Bw C V1):=G _ _ I.out f;clear M A Y F L G f ba ae ar;obtain⟨X,s1,ha⟩:∃ a s,jaA s0=(a,s):=⟨_,_,rfl⟩;have J:=jaR C.heap.size s0 fm ff V1 af.out (HE.out _ au.out);rw[ha] at J;have a5:=Lib.hid ha;have N:=Lib.hid J;clear J ha;go_wp2_with fail;refine N.out.mono ?_;rintro e w2 ⟨rfl,M,A⟩;clear N;have Y:w2.heap[E.heap.size]? = some (.cells #[.int .i64 R,.int .u64 0,.slice none 0 0,.slice none 0 0] 52 (0,0)):=A.known P.out bb.out;have f:Bw C w2:=au.out.trans (A.below (fun k A=>Nat.ne_of_lt A) au.out.size);have c1:w2.cell? ⟨E.heap.size,1,none⟩=some (.int .u64 0):=cCc Y 1;have f1:w2.frozen? ⟨E.heap.size,1,none⟩=false:=cFz Y 1;obtain⟨V2,bU,F,L,G,-⟩:=jat (i:=1) Y (.int .u64 X);have bc:Hid (V2.heap[E.heap.size]? = some (.cells #[.int .i64 R,.int .u64 X,.slice none 0 0,.slice none 0 0] 52 (0,0))):=F;have ag:Hid (RdAt C.heap.size s1 V2):=by rw[Hid,<- bU];exact M.keep (Kept.refl.set (q:=(· ≠ E.heap.size)) (fun _ h=>h rfl) _ _) (Ne.symm P.out)
 have av:Hid (Bw C V2):=G _ _ I.out f;clear M A Y F L G f bb af au;obtain⟨a2,s2,ha⟩:∃ a s,jan 100 s1=(a,s):=⟨_,_,rfl⟩;have J:=ja8 100 C.heap.size s1 fm ff V2 ⟨by decide,by decide⟩ ag.out (HE.out _ av.out);have hm:=ja7 (m:=100) (by decide) s1;rw[ha] at J hm;obtain⟨b3,cl⟩:0<=a2/\a2<=100:=hm;have a6:=Lib.hid ha;have N:=Lib.hid J;clear J ha;go_wp2_with fail;refine N.out.mono ?_;rintro e w3 ⟨rfl,M,A⟩;clear N;have Y:w3.heap[E.heap.size]? = some (.cells #[.int .i64 R,.int .u64 X,.slice none 0 0,.slice none 0 0] 52 (0,0)):=A.known P.out bc.out;have f:Bw C w3:=av.out.trans (A.below (fun k A=>Nat.ne_of_lt A) av.out.size);obtain⟨nI,bW⟩:∃ nI:Nat,a2=(nI:Int):=⟨a2.toNat,by omega⟩;subst bW;have bL:Hid (w3.heap[E.heap.size]? = some (.cells #[.int .i64 R,.int .u64 X,.slice none 0 0,.slice none 0 0] 52 (0,0))):=Y;have bQ:Hid (RdAt C.heap.size s2 w3):=M;have bC:Hid (Bw C w3):=f;have b5:Hid (E.heap.size+1<=w3.heap.size):=by have:=(Array.getElem?_eq_some_iff.1 Y).1;rw[Hid];omega
 clear M A Y f bc ag av b3;go_wp2_with fail;go_loopw [20] (fun i wt=>∃ (j:Nat) (u:Value) (y:List Int) (st:Rd),i=.int .u64 j/\j<=nI/\Hid (jba (jar (jan 4611686018427387904)) j ([],s2)=(y,st))/\Hid (RdAt C.heap.size st wt)/\Hid (wt.heap[E.heap.size]? = some (.cells #[.int .i64 R,.int .u64 X,u,.slice none 0 0] 52 (0,0)))/\Hid (GrowE jct wt (E.heap.size+1) 3 1 u y)/\Hid (y.length=j)/\Hid (Bw C wt)) (fun i _=>nI-(intOf i).toNat)
 case atStart=>exact⟨0,.slice none 0 0,[],s2,rfl,Nat.zero_le _,rfl,bQ,bL,GrowE.nil ..,rfl,bC⟩
 case round =>
  obtain⟨j,u,y,t,rfl,hj,ay,HR,HQ,HG,HL,b⟩:=hrel;by_cases bV:j<nI
  ·obtain⟨a,t2,ha⟩:∃ a s,jan 4611686018427387904 t=(a,s):=⟨_,_,rfl⟩
   have br:=ja7 (m:=4611686018427387904) (by decide) t;rw[ha] at br;obtain⟨ml,mu⟩:0<=a/\a<=4611686018427387904:=br;obtain⟨D,hD⟩:∃ D,wr.drew=D:=⟨_,rfl⟩;have aC:∀ q:Nat->Prop,Kept q wr D:=fun q=>by rw[<- hD];exact Kept.refl.drew
   have bP:Hid (RdAt C.heap.size t D):=HR.out.keep (aC fun _=>True) trivial;have aU:D.heap[E.heap.size]? = some (.cells #[.int .i64 R,.int .u64 X,u,.slice none 0 0] 52 (0,0)):=(aC fun _=>True).known trivial HQ.out;have ac:Hid (Bw C D):=by rw[Hid,<- hD];exact b.out.drew
   have a8:Hid (GrowE jct D (E.heap.size+1) 3 1 u y):=HG.out.keep (aC fun _=>True) (fun _ _=>trivial);have b6:Hid (w3.heap.size<=D.heap.size\/True):=.inr trivial;have c9:D.cell? ⟨E.heap.size,2,none⟩=some u:=cCc aU 2;have be:=Lib.hid aU;have J:=ja8 4611686018427387904 C.heap.size t fm ff D ⟨by decide,by decide⟩ bP.out (HE.out _ ac.out);rw[ha] at J;have N:=Lib.hid J;have HA:=Lib.hid ha;have HD:=Lib.hid hD;clear J ha aC aU hD;go_wp2_with fail;refine wp_region_any (by kernel_rfl) ?_;change wpAny _ _ _ _ _ _ _ (World.drew _);rw[HD.out]
   ·
    refine ta 0 ?_;refine ta 2 ?_;refine rd [1,3] (.cons rfl (fun K hK=>?_) (.cons rfl (fun K hK=>?_) .nil))
    all_goals go_simp
    all_goals first
     |
      refine N.out.mono ?_;rintro e x1 ⟨rfl,M,c⟩;have bA:IntKind.i64.wrap a=a:=jbz ml (by omega);have p:Hid (RdAt C.heap.size t2 x1):=M;have Q:x1.heap[E.heap.size]? = some (.cells #[.int .i64 R,.int .u64 X,u,.slice none 0 0] 52 (0,0)):=c.known P.out be.out;have am:Bw C x1:=ac.out.trans (c.below (fun k A=>Nat.ne_of_lt A) ac.out.size);have ap:E.heap.size+1<=x1.heap.size:=(Array.getElem?_eq_some_iff.1 Q).1;have an:=a8.out.keep c (fun k A=>by have:=I.out;show k≠C.heap.size;omega);have d9:x1.cell? ⟨E.heap.size,2,none⟩=some u:=cCc Q 2
      have e9:(x1.alloc (.cells #[.int .i64 a] 3)).cell? ⟨E.heap.size,2,none⟩=some u:=by
       obtain⟨Z,hZ,-,aQ,-⟩:=jab x1 #[.int .i64 a] 3;rw[hZ];exact cCc (known aQ (by have:=(Array.getElem?_eq_some_iff.1 Q).1;omega) Q) 2
      obtain⟨g,cap,x3,al,U,T,ao,H⟩:=an.push (w0:=C) (B:=C.heap.size) 49 jeq jd1 rfl (by decide) a [.int .i64 a] rfl am (by have:=I.out;omega) ap (by simp[Value.oneCell']) (by rw[HL.out];omega) (by decide);rw[HL.out] at al U;have O:x3.heap[E.heap.size]? = some (.cells #[.int .i64 R,.int .u64 X,u,.slice none 0 0] 52 (0,0)):=(H _ (by omega)).trans Q;have c6:x3.cell? ⟨E.heap.size,2,none⟩=some u:=cCc O 2;have f6:x3.frozen? ⟨E.heap.size,2,none⟩=false:=cFz O 2;obtain⟨V,hV,F,L,G,-⟩:=jat (i:=2) O (.slice (some ⟨g,0,none⟩) (j+1) cap);have S:Kept (· ≠ E.heap.size) x3 V:=by rw[<- hV];exact Kept.refl.set (fun _ h=>h rfl) _ _
      have FI:Hid (jba (jar (jan 4611686018427387904)) (j+1) ([],s2)=(y++[a],t2)/\RdAt C.heap.size t2 V/\V.heap[E.heap.size]? = some (.cells #[.int .i64 R,.int .u64 X,.slice (some ⟨g,0,none⟩) (j+1) cap,.slice none 0 0] 52 (0,0))/\GrowE jct V (E.heap.size+1) 3 1 (.slice (some ⟨g,0,none⟩) (j+1) cap) (y++[a])/\(y++[a]).length=j+1/\Bw C V):=by
       refine⟨?_,?_,F,U.keep S (fun k A=>by show k≠E.heap.size;omega),by rw[List.length_append,HL.out];rfl,G _ _ I.out T⟩
       ·show jar (jan 4611686018427387904) (jba (jar (jan 4611686018427387904)) j ([],s2))=_
        rw[ay.out];unfold jar;dsimp only;rw[HA.out]
       ·refine RdAt.keep (q:=(· ≠ E.heap.size)) ?_ S (Ne.symm P.out)
        have bo:=I.out
        cases t2 with
        | none=>obtain⟨z,h⟩:=p.out;exact⟨z,(H _ (by omega)).trans h⟩
        | some z=>exact⟨p.out.1,(H _ (by omega)).trans p.out.2⟩
      clear M c Q am ap an U T ao H O F L G S;refine hK _ _ ?_;clear hK K
     | (refine hK _ _ ?_;clear hK K)
    all_goals first
     | (refine rq [3] (.cons rfl (fun K hK=>?_) .nil))
     | (refine rq [1,4] (.cons rfl (fun K hK=>?_) (.cons rfl (fun K hK=>?_) .nil)))
    all_goals go_simp
    all_goals first
     |
      refine N.out.mono ?_;rintro e x1 ⟨rfl,M,c⟩;have bA:IntKind.i64.wrap a=a:=jbz ml (by omega);have p:Hid (RdAt C.heap.size t2 x1):=M;have Q:x1.heap[E.heap.size]? = some (.cells #[.int .i64 R,.int .u64 X,u,.slice none 0 0] 52 (0,0)):=c.known P.out be.out;have am:Bw C x1:=ac.out.trans (c.below (fun k A=>Nat.ne_of_lt A) ac.out.size);have ap:E.heap.size+1<=x1.heap.size:=(Array.getElem?_eq_some_iff.1 Q).1;have an:=a8.out.keep c (fun k A=>by have:=I.out;show k≠C.heap.size;omega);have d9:x1.cell? ⟨E.heap.size,2,none⟩=some u:=cCc Q 2
      have e9:(x1.alloc (.cells #[.int .i64 a] 3)).cell? ⟨E.heap.size,2,none⟩=some u:=by
       obtain⟨Z,hZ,-,aQ,-⟩:=jab x1 #[.int .i64 a] 3;rw[hZ];exact cCc (known aQ (by have:=(Array.getElem?_eq_some_iff.1 Q).1;omega) Q) 2
      obtain⟨g,cap,x3,al,U,T,ao,H⟩:=an.push (w0:=C) (B:=C.heap.size) 49 jeq jd1 rfl (by decide) a [.int .i64 a] rfl am (by have:=I.out;omega) ap (by simp[Value.oneCell']) (by rw[HL.out];omega) (by decide);rw[HL.out] at al U;have O:x3.heap[E.heap.size]? = some (.cells #[.int .i64 R,.int .u64 X,u,.slice none 0 0] 52 (0,0)):=(H _ (by omega)).trans Q;have c6:x3.cell? ⟨E.heap.size,2,none⟩=some u:=cCc O 2;have f6:x3.frozen? ⟨E.heap.size,2,none⟩=false:=cFz O 2;obtain⟨V,hV,F,L,G,-⟩:=jat (i:=2) O (.slice (some ⟨g,0,none⟩) (j+1) cap);have S:Kept (· ≠ E.heap.size) x3 V:=by rw[<- hV];exact Kept.refl.set (fun _ h=>h rfl) _ _
      have FI:Hid (jba (jar (jan 4611686018427387904)) (j+1) ([],s2)=(y++[a],t2)/\RdAt C.heap.size t2 V/\V.heap[E.heap.size]? = some (.cells #[.int .i64 R,.int .u64 X,.slice (some ⟨g,0,none⟩) (j+1) cap,.slice none 0 0] 52 (0,0))/\GrowE jct V (E.heap.size+1) 3 1 (.slice (some ⟨g,0,none⟩) (j+1) cap) (y++[a])/\(y++[a]).length=j+1/\Bw C V):=by
       refine⟨?_,?_,F,U.keep S (fun k A=>by show k≠E.heap.size;omega),by rw[List.length_append,HL.out];rfl,G _ _ I.out T⟩
       ·show jar (jan 4611686018427387904) (jba (jar (jan 4611686018427387904)) j ([],s2))=_
        rw[ay.out];unfold jar;dsimp only;rw[HA.out]
       ·refine RdAt.keep (q:=(· ≠ E.heap.size)) ?_ S (Ne.symm P.out)
        have bo:=I.out
        cases t2 with
        | none=>obtain⟨z,h⟩:=p.out;exact⟨z,(H _ (by omega)).trans h⟩
        | some z=>exact⟨p.out.1,(H _ (by omega)).trans p.out.2⟩
      clear M c Q am ap an U T ao H O F L G S;refine hK _ _ ?_;clear hK K
     | (refine hK _ _ ?_;clear hK K)
    all_goals first
     | (refine rq [4] (.cons rfl (fun K hK=>?_) .nil))
     | (refine rq [1,5] (.cons rfl (fun K hK=>?_) (.cons rfl (fun K hK=>?_) .nil)))
    all_goals go_simp
    all_goals (refine hK _ _ ?_;clear hK K)
    all_goals first
     | (refine rq [5] (.cons rfl (fun K hK=>?_) .nil))
     | (refine rq [1] (.cons rfl (fun K hK=>?_) .nil))
    all_goals go_simp
    all_goals (refine hK _ _ ?_;clear hK K)
    all_goals (refine rd [6] (.cons rfl (fun K hK=>?_) .nil))
    all_goals go_simp
    all_goals (refine hK _ _ ?_;clear hK K)
    all_goals (refine ta 7 ?_;refine rd [8] (.cons rfl (fun K hK=>?_) .nil))
    all_goals go_simp
    all_goals (refine hK _ _ ?_;clear hK K)
    all_goals (refine wpAny_done (by kernel_rfl) ?_ _)
    all_goals
     go_wp2_with fail;go_roundw
     case rel =>
      obtain⟨h1,h2,h3,h4,h5,h6⟩:=FI.out;exact⟨j+1,_,_,_,by go_num,by omega,h1,h2,h3,h4,h5,h6⟩
     case measure=>simp[intOf];omega
  ·obtain rfl:j=nI:=by omega
   have ah:=HR;have bd:=HQ;have aw:=b;have ad:Hid (Kept (fun k=>E.heap.size+1<=k) wr wr):=Kept.refl;obtain⟨a3,s3,ha⟩:∃ a s,jan 100 t=(a,s):=⟨_,_,rfl⟩;have J:=ja8 100 C.heap.size t fm ff wr ⟨by decide,by decide⟩ ah.out (HE.out _ aw.out);have hm:=ja7 (m:=100) (by decide) t;rw[ha] at J hm;obtain⟨b4,cm⟩:0<=a3/\a3<=100:=hm;have a7:=Lib.hid ha;have N:=Lib.hid J;clear J ha;go_wp2_with fail;refine N.out.mono ?_;rintro e o ⟨rfl,M,A⟩;clear N;have Y:o.heap[E.heap.size]? = some (.cells #[.int .i64 R,.int .u64 X,u,.slice none 0 0] 52 (0,0)):=A.known P.out bd.out;have f:Bw C o:=aw.out.trans (A.below (fun k A=>Nat.ne_of_lt A) aw.out.size);obtain⟨nT,bX⟩:∃ nT:Nat,a3=(nT:Int):=⟨a3.toNat,by omega⟩;subst bX;have bM:Hid (o.heap[E.heap.size]? = some (.cells #[.int .i64 R,.int .u64 X,u,.slice none 0 0] 52 (0,0))):=Y;have bR:Hid (RdAt C.heap.size s3 o):=M;have ax:Hid (Bw C o):=f;have bI:Hid (GrowE jct o (E.heap.size+1) 3 1 u y):=HG.out.keep A (fun k A=>by have:=I.out;show k≠C.heap.size;omega);have r:Hid (E.heap.size+1<=o.heap.size):=by have:=(Array.getElem?_eq_some_iff.1 Y).1;rw[Hid];omega
   clear M A Y f bd ah aw ad b4 HG HR HQ b;go_wp2_with fail;go_loopw [33] (fun i wt=>∃ (j:Nat) (v:Value) (es:List Ent) (st:Rd),i=.int .u64 j/\j<=nT/\Hid (jba (jar jfy) j ([],s3)=(es,st))/\Hid (RdAt C.heap.size st wt)/\Hid (wt.heap[E.heap.size]? = some (.cells #[.int .i64 R,.int .u64 X,u,v] 52 (0,0)))/\Hid (GrowE Ent.enc wt o.heap.size 103 4 v es)/\Hid (es.length=j)/\Hid (Bw C wt)/\Hid (Kept (fun k=>k≠C.heap.size/\k≠E.heap.size) o wt)) (fun i _=>nT-(intOf i).toNat)
   case atStart=>exact⟨0,.slice none 0 0,[],s3,rfl,Nat.zero_le _,rfl,bR,bM,GrowE.nil ..,rfl,ax,Kept.refl⟩
   case round =>
    obtain⟨j,v,es,aq,rfl,hj,aJ,HR,HQ,HG,aM,b,aA⟩:=hrel;by_cases bV:j<nT
    ·have n:Hid (C.heap.size<wr.heap.size):=HR.out.lt
     have aN:Hid (o.heap.size<=wr.heap.size):=aA.out.size;obtain⟨X0,aS,aI,ak,-⟩:=jab wr #[.int .u64 0,.int .u64 0,.string ⟨#[]⟩,.int .u64 0] 103;have bh:Hid (X0.heap[wr.heap.size]? = some (.cells #[.int .u64 0,.int .u64 0,.string ⟨#[]⟩,.int .u64 0] 103 (0,0))):=aI;have ae:Hid (RdAt C.heap.size aq X0):=HR.out.keep (q:=fun _=>True) (Kept.of ak) trivial;have aK:Hid (Kept (· ≠ C.heap.size) wr X0):=Kept.of ak;clear aI ak;obtain⟨e0,r0,ha⟩:∃ a s,jaA aq=(a,s):=⟨_,_,rfl⟩;have J:=jaR C.heap.size aq fm ff X0 ae.out (HE.out _ (b.out.trans (aK.out.below (fun k A=>Nat.ne_of_lt A) b.out.size)));rw[ha] at J;have bE:=Lib.hid ha;have N:=Lib.hid J;clear J ha;go_wp2_with fail;refine N.out.mono ?_;rintro e Y0 ⟨rfl,M,A⟩;clear N;have d:Y0.heap[wr.heap.size]? = some (.cells #[.int .u64 0,.int .u64 0,.string ⟨#[]⟩,.int .u64 0] 103 (0,0)):=A.known (Nat.ne_of_gt n.out) bh.out;have b7:Y0.cell? ⟨wr.heap.size,0,none⟩=some (.int .u64 0):=cCc d 0;have cb:Y0.frozen? ⟨wr.heap.size,0,none⟩=false:=cFz d 0;obtain⟨X1,aD,F,L,G,-⟩:=jat (i:=0) d (.int .u64 e0);have bi:Hid (X1.heap[wr.heap.size]? = some (.cells #[.int .u64 e0,.int .u64 0,.string ⟨#[]⟩,.int .u64 0] 103 (0,0))):=F;have af:Hid (RdAt C.heap.size r0 X1):=by rw[Hid,<- aD];exact RdAt.keep (q:=(· ≠ wr.heap.size)) M (Kept.refl.set (fun _ h=>h rfl) _ _) (Nat.ne_of_lt n.out)
     have aL:Hid (Kept (· ≠ C.heap.size) wr X1):=by rw[Hid,<- aD];exact (aK.out.trans A).set (fun h=>absurd h (Nat.lt_irrefl _)) _ _
     clear M A d F L G bh ae aK;obtain⟨e1,r1,ha⟩:∃ a s,jaA r0=(a,s):=⟨_,_,rfl⟩;have J:=jaR C.heap.size r0 fm ff X1 af.out (HE.out _ (b.out.trans (aL.out.below (fun k A=>Nat.ne_of_lt A) b.out.size)));rw[ha] at J;have bF:=Lib.hid ha;have N:=Lib.hid J;clear J ha;go_wp2_with fail;refine N.out.mono ?_;rintro e Y1 ⟨rfl,M,A⟩;clear N;have d:Y1.heap[wr.heap.size]? = some (.cells #[.int .u64 e0,.int .u64 0,.string ⟨#[]⟩,.int .u64 0] 103 (0,0)):=A.known (Nat.ne_of_gt n.out) bi.out;have b8:Y1.cell? ⟨wr.heap.size,1,none⟩=some (.int .u64 0):=cCc d 1;have cc:Y1.frozen? ⟨wr.heap.size,1,none⟩=false:=cFz d 1;obtain⟨X2,aE,F,L,G,-⟩:=jat (i:=1) d (.int .u64 e1);have bj:Hid (X2.heap[wr.heap.size]? = some (.cells #[.int .u64 e0,.int .u64 e1,.string ⟨#[]⟩,.int .u64 0] 103 (0,0))):=F;have ag:Hid (RdAt C.heap.size r1 X2):=by rw[Hid,<- aE];exact RdAt.keep (q:=(· ≠ wr.heap.size)) M (Kept.refl.set (fun _ h=>h rfl) _ _) (Nat.ne_of_lt n.out)
     have az:Hid (Kept (· ≠ C.heap.size) wr X2):=by rw[Hid,<- aE];exact (aL.out.trans A).set (fun h=>absurd h (Nat.lt_irrefl _)) _ _
     clear M A d F L G bi af aL;obtain⟨e2,r2,ha⟩:∃ a s,jaW r1=(a,s):=⟨_,_,rfl⟩;have J:=jcx C.heap.size r1 fm ff X2 ag.out (fun W f=>HE.out W ((b.out.trans (az.out.below (fun k A=>Nat.ne_of_lt A) b.out.size)).trans (f.mono (b.out.trans (az.out.below (fun k A=>Nat.ne_of_lt A) b.out.size)).size)));rw[ha] at J;have bG:=Lib.hid ha;have N:=Lib.hid J;clear J ha;go_wp2_with fail;refine N.out.mono ?_;rintro e Y2 ⟨rfl,M,A⟩;clear N;have d:Y2.heap[wr.heap.size]? = some (.cells #[.int .u64 e0,.int .u64 e1,.string ⟨#[]⟩,.int .u64 0] 103 (0,0)):=A.known (Nat.ne_of_gt n.out) bj.out;have b9:Y2.cell? ⟨wr.heap.size,2,none⟩=some (.string ⟨#[]⟩):=cCc d 2;have cd:Y2.frozen? ⟨wr.heap.size,2,none⟩=false:=cFz d 2;obtain⟨X3,aF,F,L,G,-⟩:=jat (i:=2) d (.string e2);have bk:Hid (X3.heap[wr.heap.size]? = some (.cells #[.int .u64 e0,.int .u64 e1,.string e2,.int .u64 0] 103 (0,0))):=F;have ah:Hid (RdAt C.heap.size r2 X3):=by rw[Hid,<- aF];exact RdAt.keep (q:=(· ≠ wr.heap.size)) M (Kept.refl.set (fun _ h=>h rfl) _ _) (Nat.ne_of_lt n.out)
     have ad:Hid (Kept (· ≠ C.heap.size) wr X3):=by rw[Hid,<- aF];exact (az.out.trans A).set (fun h=>absurd h (Nat.lt_irrefl _)) _ _
     clear M A d F L G bj ag az;obtain⟨e3,r3,ha⟩:∃ a s,jaA r2=(a,s):=⟨_,_,rfl⟩;have J:=jaR C.heap.size r2 fm ff X3 ah.out (HE.out _ (b.out.trans (ad.out.below (fun k A=>Nat.ne_of_lt A) b.out.size)));rw[ha] at J;have bH:=Lib.hid ha;have N:=Lib.hid J;clear J ha;go_wp2_with fail;refine N.out.mono ?_;rintro e Y3 ⟨rfl,M,A⟩;clear N;have d:Y3.heap[wr.heap.size]? = some (.cells #[.int .u64 e0,.int .u64 e1,.string e2,.int .u64 0] 103 (0,0)):=A.known (Nat.ne_of_gt n.out) bk.out;have ca:Y3.cell? ⟨wr.heap.size,3,none⟩=some (.int .u64 0):=cCc d 3;have ce:Y3.frozen? ⟨wr.heap.size,3,none⟩=false:=cFz d 3;obtain⟨X4,aG,F,L,G,-⟩:=jat (i:=3) d (.int .u64 e3);have bS:Hid (X4.heap[wr.heap.size]? = some (.cells #[.int .u64 e0,.int .u64 e1,.string e2,.int .u64 e3] 103 (0,0))):=F;have bO:Hid (RdAt C.heap.size r3 X4):=by rw[Hid,<- aG];exact RdAt.keep (q:=(· ≠ wr.heap.size)) M (Kept.refl.set (fun _ h=>h rfl) _ _) (Nat.ne_of_lt n.out)
     have aa:Hid (Kept (· ≠ C.heap.size) wr X4):=by rw[Hid,<- aG];exact (ad.out.trans A).set (fun h=>absurd h (Nat.lt_irrefl _)) _ _
     clear M A d F L G bk ah ad;have aV:X4.heap[E.heap.size]? = some (.cells #[.int .i64 R,.int .u64 X,u,v] 52 (0,0)):=aa.out.known P.out HQ.out;have bs:Bw C X4:=b.out.trans (aa.out.below (fun k A=>Nat.ne_of_lt A) b.out.size);have bt:=HG.out.keep aa.out (fun k A=>by have:=I.out;have:=r.out;show k≠C.heap.size;omega);have c5:X4.cell? ⟨E.heap.size,3,none⟩=some v:=cCc aV 3;have bB:=bS.out;obtain⟨z0,z1,z2,z3⟩:=cl4 bB;obtain⟨g,cap,x3,al,U,T,ao,H⟩:=bt.push (w0:=C) (B:=C.heap.size) 50 jep jd0 rfl (by decide) (⟨e0,e1,e2,e3⟩:Ent) [.int .u64 e0,.int .u64 e1,.string e2,.int .u64 e3] rfl bs (by have:=I.out;have:=r.out;omega) (Nat.le_trans aN.out aa.out.size) (by simp[Value.oneCell']) (by rw[aM.out];omega) (by decide);rw[aM.out] at al U;have O:x3.heap[E.heap.size]? = some (.cells #[.int .i64 R,.int .u64 X,u,v] 52 (0,0)):=(H _ (by have:=r.out;omega)).trans aV;have c6:x3.cell? ⟨E.heap.size,3,none⟩=some v:=cCc O 3;have f6:x3.frozen? ⟨E.heap.size,3,none⟩=false:=cFz O 3;obtain⟨V,hV,F,L,G,-⟩:=jat (i:=3) O (.slice (some ⟨g,0,none⟩) (j+1) cap);have S:Kept (· ≠ E.heap.size) x3 V:=by rw[<- hV];exact Kept.refl.set (fun _ h=>h rfl) _ _
     have bu:Kept (fun k=>k≠C.heap.size/\k≠E.heap.size) o x3:=⟨T.os.trans ax.out.os.symm,T.tape.trans ax.out.tape.symm,T.output.trans ax.out.output.symm,by have:=aN.out;have:=aa.out.size;omega,fun k A Y=>(H k A).trans ((aa.out.block k (Nat.lt_of_lt_of_le A aN.out) Y.1).trans (aA.out.block k A Y))⟩
     have FI:Hid (jba (jar jfy) (j+1) ([],s3)=(es++[(⟨e0,e1,e2,e3⟩:Ent)],r3)/\RdAt C.heap.size r3 V/\V.heap[E.heap.size]? = some (.cells #[.int .i64 R,.int .u64 X,u,.slice (some ⟨g,0,none⟩) (j+1) cap] 52 (0,0))/\GrowE Ent.enc V o.heap.size 103 4 (.slice (some ⟨g,0,none⟩) (j+1) cap) (es++[(⟨e0,e1,e2,e3⟩:Ent)])/\(es++[(⟨e0,e1,e2,e3⟩:Ent)]).length=j+1/\Bw C V/\Kept (fun k=>k≠C.heap.size/\k≠E.heap.size) o V):=by
      refine⟨?_,?_,F,U.keep S (fun k A=>by have:=r.out;show k≠E.heap.size;omega),by rw[List.length_append,aM.out];rfl,G _ _ I.out T,bu.trans (S.mono fun k A=>A.2)⟩
      ·show jar jfy (jba (jar jfy) j ([],s3))=_
       rw[aJ.out];unfold jar jfy;dsimp only;rw[bE.out];dsimp only;rw[bF.out];dsimp only;rw[bG.out];dsimp only;rw[bH.out]
      ·refine RdAt.keep (q:=(· ≠ E.heap.size)) ?_ S (Ne.symm P.out)
       have bo:=I.out;have cf:=r.out;have aR:=bO.out
       cases r3 with
       | none=>obtain⟨z,h⟩:=aR;exact⟨z,(H _ (by omega)).trans h⟩
       | some z=>exact⟨aR.1,(H _ (by omega)).trans aR.2⟩
     clear aV bs bt bB U T ao H O F L G S bu;go_wp2_with fail;go_roundw
     case rel =>
      obtain⟨h1,h2,h3,h4,h5,h6,h7⟩:=FI.out;exact⟨j+1,_,_,_,by go_num,by omega,h1,h2,h3,h4,h5,h6,h7⟩
     case measure=>simp[intOf];omega
    ·obtain rfl:j=nT:=by omega
     obtain⟨ok,aT⟩:∃ ok,decide (aq=some [])=ok:=⟨_,rfl⟩;have J:=jcR C.heap.size aq wr HR.out;rw[aT] at J;have N:=Lib.hid J;have a9:=Lib.hid aT;clear J aT;go_wp2_with fail;refine N.out.mono ?_;rintro e w5 ⟨rfl,A,M⟩;have bN:Hid (w5.heap[E.heap.size]? = some (.cells #[.int .i64 R,.int .u64 X,u,v] 52 (0,0))):=A.known P.out HQ.out;have bD:Hid (Bw C w5):=b.out.trans (A.below (fun k A=>Nat.ne_of_lt A) b.out.size);have bJ:Hid (GrowE Ent.enc w5 o.heap.size 103 4 v es):=HG.out.keep A (fun k A=>by have:=r.out;have:=I.out;show k≠C.heap.size;omega);have bK:Hid (Kept (fun k=>k≠C.heap.size/\k≠E.heap.size) o w5):=aA.out.trans (A.mono fun k A=>A.1);clear M A N HQ b HG aA;obtain⟨ab,aB⟩:=bf.out w5 bD.out;obtain⟨cv,cw,cx,cy⟩:=cz4 ab;obtain⟨cr,cs,ct,cu⟩:=cl4 ab
     cases ok with
     | true =>
      have bn:=bN.out;obtain⟨cn,co,cp,cq⟩:=cl4 bn;obtain⟨V,hV,F,G,aj⟩:=jfB (.int .i64 R) (.int .u64 X) (u) (v) ab aB (Nat.le_refl _);obtain⟨aW,aX,aY,aZ⟩:=cl4 F;have HF:=Lib.hid G;have bl:GrowE jct V (E.heap.size+1) 3 1 u y:=((bI.out.keep bK.out (fun k A=>by have:=I.out;constructor<;>omega)).keep aj (fun k A=>by have:=I.out;have:=bg.out;show k≠w.heap.size;omega));have bm:GrowE Ent.enc V o.heap.size 103 4 v es:=bJ.out.keep aj (fun k A=>by have:=I.out;have:=bg.out;have:=r.out;show k≠w.heap.size;omega);obtain⟨ia,ic,rfl,b0⟩:=bl.sl (fun x=>rfl);obtain⟨ta,tc,rfl,b2⟩:=bm.sl (fun x=>rfl);have hg:jbJ l=some ⟨R,X,y,es⟩:=jfl (decide_eq_true_iff.1 a9.out) a4.out a5.out a6.out (by simpa using ay.out) a7.out (by simpa using aJ.out);clear ab aB bn F G aj bl bm;go_wp2_with fail;refine bodyPost_ret (v:=.tuple #[.agg (ryV ⟨R,X,y,es⟩ ia ic ta tc),.int .i64 0]) (by simp[results,ryV,Tryz.f18,go_sem,aW,aX,aY,aZ]) rfl ?_;rw[hg];exact⟨⟨_,_,_,_,rfl,b0,b2⟩,HF.out⟩
     | false =>
      obtain⟨V,hV,F,G,aj⟩:=jfB (.int .i64 0) (.int .u64 0) (.slice none 0 0) (.slice none 0 0) ab aB (Nat.le_refl _);obtain⟨aW,aX,aY,aZ⟩:=cl4 F;have HF:=Lib.hid G;have hg:jbJ l=none:=jfk (decide_eq_false_iff_not.1 a9.out) a4.out a5.out a6.out (by simpa using ay.out) a7.out (by simpa using aJ.out);clear ab aB F G aj;go_wp2_with fail;refine bodyPost_ret (v:=.tuple #[.agg ryZ,.int .i64 200]) (by simp[results,ryZ,Tryz.f18,go_sem,aW,aX,aY,aZ]) rfl ?_;rw[hg];exact⟨rfl,HF.out⟩
end
theorem jhT (L:Option Addr) (len A:Nat) (l:List Int) (M:Option Addr) (B:Nat) (w:World) (I:SlE jct 1 w.heap.size w L len l) (J:SlE jct 1 w.heap.size w M len l) (T:len<=maxLen) :
  CR 45 #[.slice L len A,.slice M len B] w (.bool true):=by
 unfold maxLen at T;have d:((len:Int) != (len:Int))=false:=by simp
 go_enter Tryz.func45,Tryz.ntmps45;go_wp2_with fail;go_loopw [5] (fun i wr=>∃ (k:Nat),i=.int .i64 k/\k<=len/\Bw w wr) (fun i _=>len-(intOf i).toNat)
 case atStart=>exact⟨0,rfl,Nat.zero_le _,Below.refl _ _⟩
 case round =>
  obtain⟨k,rfl,Z,F⟩:=hrel;by_cases E:k<len
  ·obtain⟨x,P,U,N,G,R,C⟩:=(I.below F).at E
   obtain⟨y,Q,V,O,H,S,D⟩:=(J.below F).at E;subst G;subst H;obtain rfl:x=y:=Option.some.inj (N.symm.trans O);have X:wr.cell? ⟨P,U+k*1+0,none⟩=some (.int .i64 x):=C 0 (by omega);have Y:wr.cell? ⟨Q,V+k*1+0,none⟩=some (.int .i64 x):=D 0 (by omega);simp only[Nat.mul_one,Nat.add_zero] at X Y;have a:(0:Int)<=(k:Int):=by omega
   have b:(k:Int)<(len:Int):=by omega
   have c:(x != x)=false:=by simp
   clear C D N O I J;go_wp2_with fail;go_quiet (fail);go_wp2_with fail;go_roundw
   case rel=>exact⟨k+1,by go_num,by omega,bDr F _⟩
   case measure=>simp[intOf];omega
  ·obtain rfl:k=len:=by omega
   clear I J;go_wp2_with fail;go_ret;exact⟨rfl,F⟩
theorem jhM (P:Option Addr) (len C:Nat) (l:List Ent) (Q:Option Addr) (D:Nat) (w:World) (N:SlE Ent.enc 4 w.heap.size w P len l) (O:SlE Ent.enc 4 w.heap.size w Q len l) (V:len<=maxLen) :
  CR 46 #[.slice P len C,.slice Q len D] w (.bool true):=by
 unfold maxLen at V;have j:((len:Int) != (len:Int))=false:=by simp
 go_enter Tryz.func46,Tryz.ntmps46;go_wp2_with fail;go_loopw [5] (fun i wr=>∃ (k:Nat),i=.int .i64 k/\k<=len/\Bw w wr) (fun i _=>len-(intOf i).toNat)
 case atStart=>exact⟨0,rfl,Nat.zero_le _,Below.refl _ _⟩
 case round =>
  obtain⟨k,rfl,X,H⟩:=hrel;by_cases E:k<len
  ·obtain⟨x,F,I,R,L,T,A⟩:=(N.below H).at E
   obtain⟨y,G,J,S,M,U,B⟩:=(O.below H).at E;subst L;subst M;obtain rfl:x=y:=Option.some.inj (R.symm.trans S);have a:wr.cell? ⟨F,I+k*4,none⟩=some (.int .u64 x.seq):=A 0 (by omega);have b:wr.cell? ⟨F,I+k*4+1,none⟩=some (.int .u64 x.tm):=A 1 (by omega);have c:wr.cell? ⟨F,I+k*4+2,none⟩=some (.string x.text):=A 2 (by omega);have d:wr.cell? ⟨F,I+k*4+3,none⟩=some (.int .u64 x.sum):=A 3 (by omega);have e:wr.cell? ⟨G,J+k*4,none⟩=some (.int .u64 x.seq):=B 0 (by omega);have f:wr.cell? ⟨G,J+k*4+1,none⟩=some (.int .u64 x.tm):=B 1 (by omega);have g:wr.cell? ⟨G,J+k*4+2,none⟩=some (.string x.text):=B 2 (by omega);have h:wr.cell? ⟨G,J+k*4+3,none⟩=some (.int .u64 x.sum):=B 3 (by omega);have Y:(0:Int)<=(k:Int):=by omega
   have Z:(k:Int)<(len:Int):=by omega
   clear A B R S N O;go_wp2_with fail;go_quiet (fail);go_wp2_with fail;go_roundw
   case rel=>exact⟨k+1,by go_num,by omega,bDr H _⟩
   case measure=>simp[intOf];omega
  ·obtain rfl:k=len:=by omega
   clear N O;go_wp2_with fail;go_ret;exact⟨rfl,H⟩
theorem jib (y:Ry) (Q:Option Addr) (U:Nat) (F:Option Addr) (M:Nat) (R:Option Addr) (X:Nat) (G:Option Addr) (N:Nat) (w:World) (Z:y.nots.length<=maxLen) (Y:y.ents.length<=maxLen) (J:SlE jct 1 w.heap.size w Q y.nots.length y.nots) (H:SlE Ent.enc 4 w.heap.size w F y.ents.length y.ents) (L:SlE jct 1 w.heap.size w R y.nots.length y.nots) (I:SlE Ent.enc 4 w.heap.size w G y.ents.length y.ents) :
  CR 20 #[.agg (ryV y Q U F M),.agg (ryV y R X G N)] w (.bool true):=by
 obtain⟨W,d,O,P,D,f⟩:=jbq w (ryV y Q U F M) 52 (ryV y R X G N) 52;have c:=Lib.hid fun (V:World) (A:Bw W V)=>jhT Q y.nots.length U y.nots R X V ((J.go D).go A) ((L.go D).go A) Z
 have a:=Lib.hid fun (V:World) (A:Bw W V)=>jhM F y.ents.length M y.ents G N V ((H.go D).go A) ((I.go D).go A) Y
 unfold ryV at O P d ⊢;obtain⟨m,o,p,q⟩:=cl4 O;obtain⟨r,s,t,u⟩:=cl4 P;have b:=Lib.hid fun (V:World) (A:Bw W V)=>And.intro (cCc (known A (Nat.le_refl _) O) 3:V.cell? ⟨w.heap.size,3,none⟩=some (.slice F y.ents.length M)) (cCc (known A (Nat.le_refl _) P) 3:V.cell? ⟨w.heap.size+1,3,none⟩=some (.slice G y.ents.length N))
 have B:=Lib.hid D;have j:(y.e==y.e)=true:=by simp
 have k:(y.n==y.n)=true:=by simp
 clear O P D f J H L I Z Y;go_enter Tryz.func20,Tryz.ntmps20;go_wp2_with fail;refine (c.out W (Below.refl _ _)).mono ?_;rintro e l ⟨rfl,C⟩;obtain⟨h,i⟩:=b.out _ C;have T:=Lib.hid (a.out _ C);have E:=Lib.hid C;clear C;go_wp2_with fail;refine T.out.mono ?_;rintro e g ⟨rfl,C⟩;have S:Hid (Bw w g):=(B.out.trans (E.out.mono B.out.size)).trans (C.mono (Nat.le_trans B.out.size E.out.size));clear C;go_wp2_with fail;go_ret;exact⟨rfl,S.out⟩
theorem jhP (n b:Nat) (J:b<256):bits .or .u32 ((n:Int)*256 % 4294967296) ((b:Int) % 4294967296)=(((n*256+b) % 4294967296:Nat):Int):=by
 have B:(n:Int)*256 % 4294967296=((n*256 % 4294967296:Nat):Int):=by omega
 have D:(b:Int) % 4294967296=(b:Int):=by omega
 have C:n*256 % 4294967296=(n % 16777216) <<< 8:=by rw[Nat.shiftLeft_eq];omega
 rw[B,D]
 have E:bits .or .u32 ((n*256 % 4294967296:Nat):Int) (b:Int)=(((n*256 % 4294967296) ||| b:Nat):Int):=by
  have I:n*256 % 4294967296 ||| b<2^32:=Nat.or_lt_two_pow (by omega) (by omega)
  have F:IntKind.u32.wrap ((n*256 % 4294967296 ||| b:Nat):Int)=((n*256 % 4294967296 ||| b:Nat):Int):=by rw[IntKind.wrap_u32];omega
  have A:IntKind.u32.bits=32:=rfl;have G:(((n*256 % 4294967296:Nat):Int) % ((2^IntKind.u32.bits:Nat):Int)).toNat=n*256 % 4294967296:=by rw[A];omega
  have H:((b:Int) % ((2^IntKind.u32.bits:Nat):Int)).toNat=b:=by rw[A];omega
  unfold bits;dsimp only;rw[BitVec.toNat_or,BitVec.toNat_ofInt,BitVec.toNat_ofInt,G,H,F]
 rw[E,C,<- Nat.shiftLeft_add_eq_or_of_lt (by omega:b<2^8),Nat.shiftLeft_eq];omega
theorem jem (s:ByteArray) (k:Nat) (h:k<s.size):s.data.toList.take (k+1)=s.data.toList.take k++[s[k]'h]:=by
 have A:k<s.data.toList.length:=by rw[Array.length_toList];exact h
 rw[List.take_succ_eq_append_getElem A];rfl
theorem jcO (s:ByteArray) (D:s.size<4294967281) (w:World) :
  Calls Tryz.prog 82 #[.string s] w fun e B=>e=.returned (.int .u32 (jbX s.data.toList))/\B=w:=by
 go_enter Tryz.func82,Tryz.ntmps82;go_wp2_with fail;go_loopw [3,7] (fun n i wr=>∃ k:Nat,n=.int .u32 (jbX (s.data.toList.take k))/\i=.int .i64 k/\k<=s.size/\wr=w) (fun _ i _=>s.size-(intOf i).toNat)
 case atStart=>exact⟨0,rfl,rfl,Nat.zero_le _,rfl⟩
 case round =>
  obtain⟨k,rfl,rfl,C,rfl⟩:=hrel;by_cases A:k<s.size
  ·go_wp2_with fail
   refine⟨⟨k+1,?_,by go_num,by omega,trivial⟩,by simp[intOf];omega⟩;rw[jhP _ _ (UInt8.toNat_lt _),jem s k A,jff];rfl
  ·obtain rfl:k=s.size:=by omega
   go_wp2_with fail;go_ret;exact⟨by show Ending.returned (.int .u32 _)=_;rw[List.take_of_length_le (by rw[Array.length_toList];exact Nat.le_refl _)],rfl⟩
theorem jgK (b g:Nat) (x:UInt8) (p:Nat × Nat) (W:World) (d:p.1<65521/\p.2<65521) (h:W.heap[b]? = some (.cells #[.int .u32 p.1,.int .u32 p.2] 218 (0,0))) (T:W.heap[g]? = some (.cells #[.int .u8 x.toNat] 5 (0,0))) :
  Calls Tryz.prog 102 #[.pointer (some ⟨b,0,none⟩),.slice (some ⟨g,0,none⟩) 1 1] W fun e P=>e=.returned (.tuple #[])/\P.heap[b]? = some (.cells #[.int .u32 (jaM p x).1,.int .u32 (jaM p x).2] 218 (0,0))/\Kept (· ≠ b) W P:=by
 go_enter Tryz.func102,Tryz.ntmps102;go_wp2_with fail;go_loopw [8] (fun i wr=>(i=.int .i64 0/\wr=W)\/(i=.int .i64 1/\Hid (wr.heap[b]? = some (.cells #[.int .u32 (jaM p x).1,.int .u32 (jaM p x).2] 218 (0,0)))/\Hid (Kept (· ≠ b) W wr))) (fun i _=>1-(intOf i).toNat)
 case atStart=>exact .inl ⟨rfl,rfl⟩
 case round =>
  rcases hrel with⟨rfl,rfl⟩ | ⟨rfl,R,J⟩
  ·have X:wr.cell? ⟨g,0,none⟩=some (.int .u8 x.toNat):=cCc T 0
   obtain⟨U,V⟩:=cl2 h;have a:wr.frozen? ⟨b,0,none⟩=false:=cFz h 0;have M:=UInt8.toNat_lt x;have O:((p.1:Int)+(x.toNat:Int)) % 65521=((jaM p x).1:Int):=by show _=(((p.1+x.toNat) % 65521:Nat):Int);omega
   have S:(jaM p x).1<65521:=Nat.mod_lt _ (by decide)
   have B:((p.2:Int)+((jaM p x).1:Int)) % 65521=((jaM p x).2:Int):=by
    show _=(((p.2+(jaM p x).1) % 65521:Nat):Int);omega
   obtain⟨I,L,E,-,-,-⟩:=jat (i:=0) h (.int .u32 (((p.1:Int)+(x.toNat:Int)) % 65521));have F:I.heap[b]? = some (.cells #[.int .u32 ((jaM p x).1:Int),.int .u32 (p.2:Int)] 218 (0,0)):=by rw[E,<- O];rfl
   have C:Kept (· ≠ b) wr I:=by rw[<- L];exact Kept.refl.set (fun _ h=>h rfl) _ _
   obtain⟨D,G⟩:∃ D,I.drew=D:=⟨_,rfl⟩;have A:D.heap[b]? = some (.cells #[.int .u32 ((jaM p x).1:Int),.int .u32 (p.2:Int)] 218 (0,0)):=by rw[<- G];exact F
   obtain⟨Y,Z⟩:=cl2 A;have c:D.frozen? ⟨b,1,none⟩=false:=cFz A 1;have N:Hid (∀ v,(D.setCell ⟨b,1,none⟩ v).heap[b]? = some (.cells #[.int .u32 ((jaM p x).1:Int),v] 218 (0,0))/\Kept (· ≠ b) wr (D.setCell ⟨b,1,none⟩ v)):=fun v=>⟨hSk A v,by rw[<- G];exact C.drew.set (fun _ h=>h rfl) _ _⟩
   have Q:=Lib.hid G;have H:=Lib.hid B;clear O B E F C G A;go_wp2_with fail;refine wp_region_any (by kernel_rfl) ?_;change wpAny _ _ _ _ _ _ _ (World.drew _);rw[Q.out]
   ·
    refine ta 0 ?_;refine ta 1 ?_;refine ta 2 ?_;refine ta 3 ?_;refine ta 4 ?_;refine ta 6 ?_;refine ta 7 ?_;refine ta 8 ?_;refine ta 9 ?_;refine rd [5,10] (.cons rfl (fun K hK=>?_) (.cons rfl (fun K hK=>?_) .nil))
    all_goals go_simp
    all_goals (refine hK _ _ ?_;clear hK K)
    all_goals first
     | (refine rq [10] (.cons rfl (fun K hK=>?_) .nil))
     | (refine rq [5] (.cons rfl (fun K hK=>?_) .nil))
    all_goals go_simp
    all_goals (refine hK _ _ ?_;clear hK K)
    all_goals (refine ta 11 ?_;refine ta 12 ?_;refine ta 13 ?_;refine ta 14 ?_;refine ta 15 ?_;refine rd [16] (.cons rfl (fun K hK=>?_) .nil))
    all_goals go_simp
    all_goals (refine hK _ _ ?_;clear hK K)
    all_goals (refine wpAny_done (by kernel_rfl) ?_ _)
    all_goals
     go_wp2_with fail;go_roundw
     case rel=>exact .inr ⟨by go_num,by rw[Hid,(N.out _).1];have J:((p.2:Int)+((jaM p x).1:Int)) % 65521=((jaM p x).2:Int):=H.out;rw[J],Lib.hid (N.out _).2⟩
     case measure=>simp[intOf]
  ·go_wp2_with fail
   go_end0;exact⟨rfl,R.out,J.out⟩
theorem jcB (s:ByteArray) (d:s.size<4294967281) (w:World) :
  CR 81 #[.string s] w (.int .u32 (jaL s.data.toList)):=by
 obtain⟨W,c,H,R,J⟩:=jab w #[.int .u32 1,.int .u32 0] 218;obtain⟨U,Y⟩:=cl2 H;obtain⟨Z,a⟩:=cz2 H;obtain⟨V,b,G,-,F,-⟩:=jat (i:=1) H (.int .u32 0);have D:Hid (V.heap[w.heap.size]? = some (.cells #[.int .u32 ((jbc (s.data.toList.take 0)).1:Int),.int .u32 ((jbc (s.data.toList.take 0)).2:Int)] 218 (0,0))):=G;have C:Hid (Bw w V):=F _ _ (Nat.le_refl _) R;clear H R J G F;go_enter Tryz.func81,Tryz.ntmps81;go_wp2_with fail;go_loopw [9] (fun i wr=>∃ k:Nat,i=.int .i64 k/\k<=s.size/\Hid (wr.heap[w.heap.size]? = some (.cells #[.int .u32 ((jbc (s.data.toList.take k)).1:Int),.int .u32 ((jbc (s.data.toList.take k)).2:Int)] 218 (0,0)))/\Hid (Bw w wr)) (fun i _=>s.size-(intOf i).toNat)
 case atStart=>exact⟨0,rfl,Nat.zero_le _,D,C⟩
 case round =>
  obtain⟨k,rfl,S,D,C⟩:=hrel;by_cases B:k<s.size
  ·obtain⟨X,H,I,A,-⟩:=jab wr #[.int .u8 ((s[k]'B).toNat)] 5
   have N:=Lib.hid (jgK w.heap.size wr.heap.size (s[k]'B) _ X (jcK _) (known A (Nat.le_refl _) D.out) I);have E:Hid (Bw w X):=C.out.trans (A.mono C.out.size);clear I A D C;go_wp2_with fail;refine N.out.mono ?_;rintro e O ⟨rfl,P,Q⟩;have M:Hid (O.heap[w.heap.size]? = some (.cells #[.int .u32 ((jbc (s.data.toList.take (k+1))).1:Int),.int .u32 ((jbc (s.data.toList.take (k+1))).2:Int)] 218 (0,0))/\Bw w O):=⟨by rw[jem s k B,jeD];exact P,E.out.trans (Q.below (fun k S=>Nat.ne_of_lt S) E.out.size)⟩;clear P Q N;go_wp2_with fail;go_roundw
   case rel=>exact⟨k+1,by go_num,by omega,Lib.hid M.out.1,Lib.hid M.out.2⟩
   case measure=>simp[intOf];omega
  ·obtain rfl:k=s.size:=by omega
   have L:=D.out;rw[List.take_of_length_le (by rw[Array.length_toList];exact Nat.le_refl _)] at L;have T:=(jcK s.data.toList);obtain⟨U,Y⟩:=cl2 L;clear L D;go_wp2_with fail;go_ret;refine⟨?_,C.out⟩;show Ending.returned (.int .u32 _)=Ending.returned (.int .u32 _);congr 2
section
theorem jcg:Tryz.prog.underlying 84=some (.slice 5):=by kernel_rfl
theorem jcX:Tryz.prog.underlying 9=some .string:=by kernel_rfl
theorem jeZ:(Tryz.prog.info? 5).map (fun i=>(i.zero,i.size,i.bytes))=some (some (.int .u8 0),1,1):=by kernel_rfl
def jis (x:UInt8):List Value:=[.int .u8 x.toNat]
theorem jfd (l:List UInt8):l.flatMap jis=Lib.byteCells l:=by
 induction l with
 | nil=>rfl
 | cons x l ih=>rw[List.flatMap_cons,ih];rfl
theorem jfg (n:Nat) (D:n<4294967296):#[Value.int .u8 ((n:Int) / 16777216),.int .u8 ((n:Int) / 65536 % 256),.int .u8 ((n:Int) / 256 % 256),.int .u8 ((n:Int) % 256)]=(Lib.byteCells (jcc n)).toArray:=by
 have e:(n:Int) / 16777216=((n / 16777216 % 256:Nat):Int):=by omega
 have A:(n:Int) / 65536 % 256=((n / 65536 % 256:Nat):Int):=by omega
 have B:(n:Int) / 256 % 256=((n / 256 % 256:Nat):Int):=by omega
 have C:(n:Int) % 256=((n % 256:Nat):Int):=by omega
 rw[e,A,B,C,<- jgO (n / 16777216),<- jgO (n / 65536),<- jgO (n / 256),<- jgO n];rfl
theorem jfr (l:List UInt8):strOfNums (l.map fun b=>(b.toNat:Int))=⟨l.toArray⟩:=by
 have h:((fun n:Int=>UInt8.ofNat n.toNat) ∘ fun b:UInt8=>(b.toNat:Int))=id:=funext fun b=>by
  show UInt8.ofNat ((b.toNat:Int)).toNat=b;rw[Int.toNat_natCast];exact UInt8.ofNat_toNat
 unfold strOfNums;rw[List.map_map,h,List.map_id]
attribute [-go_sem] Builtin.append_
theorem jfN (s:ByteArray) (h1:0<s.size) (h2:s.size<=2000) (w:World) :
  CR 61 #[.string s] w (.tuple #[.string ⟨(mkF s.data.toList).toArray⟩,.int .i64 0]):=by
 have a:s.toList.isEmpty=false:=by
  rw[jag,beq_eq_false_iff_ne];omega
 have ae:¬ s.toList=[]:=by
  intro e;rw[e] at a
  cases a
 obtain⟨W,hW,hX,hB,y⟩:=jab w #[.int .u8 167] 5;have hP:=jaw (s.size:Int) W ⟨by omega,by omega⟩;have HP:=Lib.hid hP;have G:W.ownsRow w.heap.size 5 1 (.slice (some ⟨w.heap.size,0,none⟩) 1 1) 1 (Lib.byteCells [167]):=⟨rfl,.inr ⟨w.heap.size,1,#[.int .u8 167],rfl,Nat.le_refl _,hX,Nat.le_refl _,by unfold maxLen;omega,rfl,rfl⟩⟩;have HO:=Lib.hid G;have HB:=Lib.hid hB;have HZ:Hid (w.heap.size<=W.heap.size):=by rw[Hid];omega
 clear hX hB y hP G;have ad:¬ (2000<(s.size:Int)):=by omega
 go_enter Tryz.func61,Tryz.ntmps61;go_wp2_with fail;refine HP.out.mono ?_;rintro e w1 ⟨rfl,A⟩;obtain⟨iu,l,O,Q,R⟩:=info_parts jeZ;have af:(strOfNums (jaa s.size)).size<=9:=by rw[jaf];have:=jae (s.size:Int);rw[jbu,List.length_map] at this;exact this.2
 obtain⟨v1,z,aa,f,c,-⟩:=Lib.run_append_own_string (P:=Tryz.prog) w1 w.heap.size 84 9 84 5 iu jcg jcX l O Q R _ 1 _ (jaT HO.out A) (strOfNums (jaa s.size)) (by unfold maxLen;omega) (by omega) (Nat.le_trans HZ.out A.size);have U:=Lib.hid f;have C:Bw w w1:=HB.out.trans (A.mono HZ.out);have I:Hid (Bw w z):=C.grown c C.size (fun k v=>((jaT HO.out A).lt k v).1);have p:Hid (w.heap.size<=z.heap.size):=I.out.size;obtain⟨v2,w3,ab,g,d,-⟩:=Lib.run_append_own_string (P:=Tryz.prog) z w.heap.size 84 9 84 5 iu jcg jcX l O Q R _ _ _ U.out s (by unfold maxLen;omega) (by omega) p.out;have o:=Lib.hid g;have S:Hid (Bw w w3):=I.out.grown d I.out.size (fun k v=>(U.out.lt k v).1);have q:Hid (w.heap.size<=w3.heap.size):=S.out.size;have HC:=Lib.hid (jcB s (by omega) w3);clear A f c g d C l O Q R;go_wp2_with fail;refine HC.out.mono ?_;rintro e w4 ⟨rfl,M⟩;have hn:=jdP s.data.toList;obtain⟨n,Y⟩:∃ n,jaL s.data.toList=n:=⟨_,rfl⟩;rw[Y] at hn ⊢;have T:Hid (Bw w w4):=S.out.trans (M.mono q.out);have X:=jaT o.out M;obtain⟨Z,hZ,L,J,r⟩:=jab w4 #[.int .u8 ((n:Int) / 16777216),.int .u8 ((n:Int) / 65536 % 256),.int .u8 ((n:Int) / 256 % 256),.int .u8 ((n:Int) % 256)] 5;rw[jfg n hn] at L
 have H:SlE jis 1 Z.heap.size Z (some ⟨w4.heap.size,0,none⟩) 4 (jcc n):=⟨rfl,fun j x hx=>⟨_,0,rfl,by omega,fun i l=>by
  obtain rfl:i=0:=by omega
  rw[show 0+j*1+0=j by omega,cCc L j];unfold Lib.byteCells;simp[jis,hx]⟩⟩
 have N:Bw w Z:=T.out.trans (J.mono T.out.size);obtain⟨v5,w5,ac,D,V,-⟩:=jdL Tryz.prog (w0:=w) (B:=w.heap.size) (base:=w.heap.size) (cap:=4) 84 jcg jeZ rfl (by decide) (jaT X J) N (Nat.le_refl _) N.size (fun x=>rfl) H (fun x u hu=>by simp[jis] at hu;subst hu;rfl) (by omega) (by omega) (by decide)
 have E:Lib.byteCells [167]++Lib.strCells (strOfNums (jaa s.size))++Lib.strCells s++(jcc n).flatMap jis=((mkF s.data.toList).map fun b=>(b.toNat:Int)).map (Value.int .u8):=by
  rw[jfd,jbZ,Lib.strCells_eq,<- Lib.byteCells_append,<- Lib.byteCells_append,<- Lib.byteCells_append];unfold mkF Lib.byteCells;rw[Y,jbu,List.map_map,Array.length_toList,List.append_assoc,List.append_assoc];rfl
 rw[E] at D
 have F:1+(strOfNums (jaa s.size)).size+s.size+4=((mkF s.data.toList).map fun b=>(b.toNat:Int)).length:=by
  have:=D.1;rw[List.length_map] at this;omega
 have t:=jbh _ F (by omega) D;have h:strOfNums ((mkF s.data.toList).map fun b=>(b.toNat:Int))=⟨(mkF s.data.toList).toArray⟩:=jfr _;rw[h] at t;have m:=Lib.hid V;clear M HC X L J r H N D V E F h;go_wp2_with fail;go_ret2;exact⟨rfl,m.out⟩
end
theorem jhZ (s:ByteArray) (D:0<s.size) (E:s.size<=2000) (w:World) :
  CR 53 #[.string s] w (.tuple #[.string ⟨(mkF s.data.toList).toArray⟩,.int .i64 0]):=by
 have A:=Lib.hid (jfN s D E w);go_enter Tryz.func53,Tryz.ntmps53;go_wp2_with fail;refine A.out.mono ?_;rintro e F ⟨rfl,B⟩;have C:=Lib.hid B;clear B A;go_wp2_with fail;go_ret2;exact⟨rfl,C.out⟩
theorem jcr {r:Rq} (h:r.ok=true):0<(jcY r).length/\(jcY r).length<=2000:=by
 unfold Rq.ok at h;simp only[Bool.and_eq_true,decide_eq_true_eq] at h;obtain⟨⟨⟨⟨⟨⟨⟨_,_⟩,_⟩,_⟩,O⟩,P⟩,Q⟩,R⟩:=h;have E:=(jae r.op).2;have F:=(jae r.now).2;have G:=jb0 r.labels;have H:=jb0 r.scope;have I:=(jae r.kind).2;have J:=(jae (r.items.length:Int)).2;have L:=jce r.items;have M:=(jae r.h).2;have N:=(jae r.tnt).2;have A:=(jae r.id).2;have C:=(jae (r.tens.length:Int)).2;have D:=(jao r.tens).2;unfold jcY Rq.B;simp only[List.length_cons,List.length_append];omega
theorem jik (r:Rq) (J:Option Addr) (S:Nat) (ta:Option Addr) (T:Nat) (w:World) (g:r.Wf) (c:r.labels.size<4294967281) (f:r.scope.size<4294967281) (Y:SlE ja1 2 w.heap.size w J r.items.length r.items) (a:SlE jca 1 w.heap.size w ta r.tens.length r.tens) (H:r.ok=true) :
  CR 25 #[.agg (rqV r J S ta T)] w (.tuple #[.string ⟨(mkF (jcY r)).toArray⟩,.int .i64 0]):=by
 obtain⟨W,b,O,I,R⟩:=jab w (rqV r J S ta T) 48;have F:=jc4 r J S ta T W g c f (Y.go I) (a.go I);rw[H] at F;change CR 15 _ W (.tuple #[.string ⟨r.B.toArray⟩,.int .i64 0]) at F;unfold rqV at F O b ⊢;obtain⟨k,l,m,c3,c4,c5,n,o,p,q⟩:=jb3 O;have V:=Lib.hid F;have D:=Lib.hid I;clear F O I R Y a;go_enter Tryz.func25,Tryz.ntmps25;go_wp2_with fail;refine V.out.mono ?_;rintro e A ⟨rfl,G⟩;have U:Hid (Bw w A):=D.out.trans (G.mono D.out.size);clear G V;obtain⟨X,N,-,E,-⟩:=jab A #[.int .u8 2] 5;have P:(convert 84 9 (.slice (some ⟨A.heap.size,0,none⟩) 1 1)).run Tryz.prog (A.alloc (.cells #[.int .u8 2] 5))=.ok (.string ⟨#[2]⟩) (A.alloc (.cells #[.int .u8 2] 5)):=jaG A [2] 1;rw[N] at P;have C:Hid (Bw w X):=U.out.trans (E.mono U.out.size);have Z:=jcr H;have Q:((⟨#[2]⟩:ByteArray)++⟨r.B.toArray⟩).data.toList=jcY r:=by rw[ByteArray.data_append];simp[jcY]
 have i:((⟨#[2]⟩:ByteArray)++⟨r.B.toArray⟩).size=(jcY r).length:=by rw[<- Q];exact Array.length_toList.symm
 have M:=Lib.hid (jhZ ((⟨#[2]⟩:ByteArray)++⟨r.B.toArray⟩) (by omega) (by omega) X);rw[Q] at M;have d:¬ 9223372036854775807<1+r.B.length:=by have h:=Z.2;unfold jcY at h;rw[List.length_cons] at h;omega
 clear E Q i Z;go_wp2_with fail;refine M.out.mono ?_;rintro e j ⟨rfl,G⟩;have L:Hid (Bw w j):=C.out.trans (G.mono C.out.size);clear G M;go_wp2_with fail;go_ret2;exact⟨rfl,L.out⟩
theorem jga (y:Ry) (G:Option Addr) (N:Nat) (E:Option Addr) (I:Nat) (w:World) (Y:U64 y.n) (X:∀ x∈y.ents,(U64 x.seq/\U64 x.tm/\U64 x.sum)/\x.text.size<4294967281) (U:SlE jct 1 w.heap.size w G y.nots.length y.nots) (T:SlE Ent.enc 4 w.heap.size w E y.ents.length y.ents) (L:y.ok=true) (R:0<y.B.length) (S:y.B.length<=2000) :
  CR 31 #[.agg (ryV y G N E I)] w (.string ⟨(mkF y.B).toArray⟩):=by
 obtain⟨W,V,J,F,M⟩:=jab w (ryV y G N E I) 52;have C:=jci y G N E I W Y X (U.go F) (T.go F);rw[L] at C;change CR 17 _ W (.tuple #[.string ⟨y.B.toArray⟩,.int .i64 0]) at C;unfold ryV at C J V ⊢;obtain⟨b,c,d,c3⟩:=cl4 J;have Q:=Lib.hid C;have A:=Lib.hid F;have P:Hid (∀ W,CR 61 #[.string ⟨y.B.toArray⟩] W (.tuple #[.string ⟨(mkF y.B).toArray⟩,.int .i64 0])):=fun W=>jfN ⟨y.B.toArray⟩ R S W
 clear C J F M U T R S;go_enter Tryz.func31,Tryz.ntmps31;go_wp2_with fail;refine Q.out.mono ?_;rintro e Z ⟨rfl,D⟩;have O:Hid (Bw w Z):=A.out.trans (D.mono A.out.size);clear D Q;go_wp2_with fail;refine (P.out _).mono ?_;rintro e a ⟨rfl,D⟩;have H:Hid (Bw w a):=O.out.trans (D.mono O.out.size);clear D P;go_wp2_with fail;go_ret;exact⟨rfl,H.out⟩
end Go.Proofs.YtlmlcadcdhhlcaaGreatDoor
