/- slices.Values at uint64; package exact: each; a copy of numbers. Package hist: Same. Packages cms, hll, hist: shapes; cms.Right; hist.Bounds. Packages hist, cms: Bounds whole, Right. Package hll: ranks, Right. -/
import Derived.Laws.CopyRow
import Derived.Laws.CopyOwn
import Derived.Laws.Tables
import Derived.Laws.BitsAllLaws
import Derived.Test.YtafhpamnegmilaaGreatDoorYC0
set_option maxHeartbeats 2000000
set_option maxRecDepth 100000
namespace Go.Proofs.YtafhpamnegmilaaGreatDoor
open Go Go.RowKit
section
open Go.Shelf
attribute [local go_sem] Oper.semAt_some
theorem joc {W:World} {g len cap Z:Nat} {A:Array Value} {a:Option Addr} {l:List Int} (L:W.heap[g]? = some (.cells A 48 (0,0))) (B:A.size=len) (I:SlE jaG 1 Z W a len l) (f:a=none->len=0) :
  ∃ D,(Builtin.copy_ #[30,30] 3 #[.slice (some ⟨g,0,none⟩) len len,.slice a len cap]).run Tryz.prog W=.ok (.int .i64 len) D/\D.heap[g]? = some (.cells (l.flatMap jaG).toArray 48 (0,0))/\Below g W D/\D.heap.size=W.heap.size/\∀ k,k≠g->D.heap[k]? = W.heap[k]? := by
 have E:=I.1;have C:(l.flatMap jaG).length=len:=by rw[jgb jaG 1 (fun _=>rfl),Nat.mul_one,E]
 have R:(Tryz.prog.info? 48).map (·.size)=some 1:=by kernel_rfl
 rcases Nat.eq_zero_or_pos len with T | F
 ·subst T
  have X:l=[]:=List.eq_nil_of_length_eq_zero E.symm;subst X;have J:A=#[]:=Array.eq_empty_of_size_eq_zero B;subst J;exact⟨W,by rw[run_copy_none W _ _ _ 48 _ _ _ _ _ _ jbs R (by simp)];rfl,L,Below.refl _ _,rfl,fun _ _=>rfl⟩
 ·obtain⟨x,b,off,i,rfl,d,-⟩:=I.at F
  have hr:=run_copy_row (P:=Tryz.prog) W 30 30 3 48 g 0 len len ⟨b,off,none⟩ len cap A 48 (l.flatMap jaG) jbs R L (by rw[C];simp)
   (fun j v M=>by
    have N:j<l.length:=by have h:=(List.getElem?_eq_some_iff.1 M).1;rw[C] at h;omega
    obtain⟨y,H⟩:∃ y,l[j]? = some y:=⟨_,List.getElem?_eq_getElem N⟩;obtain⟨c,S,e,U,J⟩:=I.2 j y H
    cases e
    have O:=jeB jaG 1 (fun _=>rfl) l j 0 y H (by omega);rw[Nat.mul_one,Nat.add_zero] at O;rw[O] at M;have Q:=J 0 (by omega);rw[Nat.mul_one,Nat.add_zero] at Q;rw[show (⟨b,off,none⟩:Addr).add j=⟨b,off+j,none⟩ by unfold Addr.add;split<;>simp_all];exact Q.trans M) (by rw[C,B];omega) (fun v Y=>by
    obtain⟨y,-,H⟩:=List.mem_flatMap.1 Y;exact jen y v H)
  have G:(A.toList.take 0++l.flatMap jaG++A.toList.drop (0+(l.flatMap jaG).length)).toArray=(l.flatMap jaG).toArray:=by
   rw[List.take_zero,List.nil_append,Nat.zero_add,C,List.drop_eq_nil_of_le (by rw[Array.length_toList,B];exact Nat.le_refl _),List.append_nil]
  rw[G] at hr;exact⟨_,by rw[hr,C];rfl,setRow_heap W g A _ _ _ L,below_setRow (Below.refl _ _) (Nat.le_refl _) _,size_setRow _ _ _,fun k V=>setRow_other W g k _ V⟩
theorem jew (a:Option Addr) (len cap:Nat) (w:World) :
  Calls Tryz.prog 245 #[.slice a len cap] w fun e w'=>e=.returned (.func (.func 250) #[] #[.pointer (some ⟨w.heap.size,0,none⟩)])/\w'=w.alloc (.cells #[.slice a len cap] 30):=by
 go_enter Tryz.func245,Tryz.ntmps245;go_wp2;go_ret;exact⟨rfl,rfl⟩
theorem jpa (a:Option Addr) (len cap:Nat) (w:World) :
  Calls Tryz.prog 248 #[.slice a len cap] w fun e w'=>e=.returned (.func (.func 250) #[] #[.pointer (some ⟨w.heap.size,0,none⟩)])/\w'=w.alloc (.cells #[.slice a len cap] 30):=by
 go_enter Tryz.func248,Tryz.ntmps248;go_wp2_with (go_at_call 245;refine (jew a len cap w).mono ?_;rintro e w' ⟨rfl,rfl⟩);go_ret;exact⟨rfl,rfl⟩
theorem jn2 (l P O b off cap:Nat) (B:List Int) (H:B.length<4294967281) (J R:List Int->World->Prop)
  (a:∀ A x W,J A W->A.length<B.length->YieldAt Fence.wide 7 Tryz.prog l #[.int .u64 x] W fun e C =>
   (e=.returned (.bool true)/\J (A++[x]) C/\Below O W C)\/(e=.returned (.bool false)/\R (A++[x]) C))
  (W:World) (Y:W.cell? ⟨P,0,none⟩=some (.slice (some ⟨b,off,none⟩) B.length cap)) (c:SlE jaG 1 O W (some ⟨b,off,none⟩) B.length B) (V:J [] W) :
  CallsIn Fence.wide 8 Tryz.prog 250 #[.func (.yield l) #[] #[],.pointer (some ⟨P,0,none⟩)] W fun e C=>(∃ v,e=.returned v) /\
   ((∃ T,T=B/\J T C)\/(∃ A,A <+: B/\R A C)):=by
 refine callsIn_of_wp Tryz.func250 rfl trivial ?_ rfl;simp only[Tryz.ntmps250,List.size_toArray,List.length_cons,List.length_nil,Nat.reduceAdd,Nat.reduceSub,Array.replicate_succ,Array.replicate_zero,List.push_toArray,List.append_toArray,List.nil_append,List.cons_append];gi_wp2;gi_loopw [7] (fun i wr=>∃ k:Nat,k<=B.length/\i=.int .i64 k/\J (B.take k) wr/\Below O W wr) (fun i _=>B.length-(intOf i).toNat)
 case atStart=>exact⟨0,Nat.zero_le _,rfl,V,Below.refl _ _⟩
 case round =>
  obtain⟨k,n,rfl,D,G⟩:=hrel;by_cases M:k<B.length
  ·obtain⟨x,N⟩:∃ x,B[k]? = some x:=⟨_,List.getElem?_eq_getElem M⟩
   obtain⟨f,S,U,m,F⟩:=(SlE.below G c).2 k x N
   cases U
   have g:wr.cell? ⟨b,off+k,none⟩=some (.int .u64 x):=by have X:=F 0 (by omega);rwa [Nat.mul_one] at X
   obtain⟨j,tmps,assign,body,o,Z⟩:=a _ x _ D (by simp;omega);clear F;have Q:=Lib.hid N;clear N;gi_wp2;refine Z.mono ?_;rintro e d (⟨rfl,I,L⟩ | ⟨rfl,E⟩)
   ·gi_wp2
    go_roundw
    case rel=>exact⟨k+1,by omega,by simp,by rw[List.take_add_one,Q.out];exact I,G.trans L⟩
    case measure=>simp[intOf];omega
   ·gi_wp2
    refine bodyPost_ret (results_none rfl _ _ _) rfl ?_;exact⟨⟨_,rfl⟩,.inr ⟨_,by have h:=List.take_prefix (k+1) B;rwa [List.take_add_one,Q.out] at h,E⟩⟩
  ·obtain rfl:k=B.length:=by omega
   gi_wp2
   go_end0;exact⟨⟨_,rfl⟩,.inl ⟨_,List.take_length,D⟩⟩
theorem je7 (l B:Nat) (a:Option Addr) (cap:Nat) (J:List Int->World->Prop) (W:World) (E:W.cell? ⟨B,0,none⟩=some (.slice a 0 cap)) (D:J [] W) :
  CallsIn Fence.wide 8 Tryz.prog 250 #[.func (.yield l) #[] #[],.pointer (some ⟨B,0,none⟩)] W fun e C=>(∃ v,e=.returned v)/\J [] C:=by
 refine callsIn_of_wp Tryz.func250 rfl trivial ?_ rfl;simp only[Tryz.ntmps250,List.size_toArray,List.length_cons,List.length_nil,Nat.reduceAdd,Nat.reduceSub,Array.replicate_succ,Array.replicate_zero,List.push_toArray,List.append_toArray,List.nil_append,List.cons_append];gi_wp2;gi_loopw [7] (fun i wr=>i=.int .i64 0/\J [] wr) (fun _ _=>0)
 case atStart=>exact⟨rfl,D⟩
 case round =>
  obtain⟨rfl,A⟩:=hrel;gi_wp2;go_end0;exact⟨⟨_,rfl⟩,A⟩
theorem jp3 (D E:Nat) (a:Option Addr) (len cap:Nat) (C:List Int) (F:len<4294967281) (w:World) (G:D<w.heap.size) (I:E<=w.heap.size)
  (R:w.cell? ⟨D,0,none⟩=some (.slice a len cap)) (P:SlE jaG 1 E w a len C) :
  SeqStopsK Fence.wide 8 Tryz.prog 250 #[.pointer (some ⟨D,0,none⟩)] (fun x:Int=>#[.int .u64 x]) (Below E) (fun U=>U=C) (fun L=>L <+: C) C.length w:=fun l J O W N _ _ Q M=>by
 have B:=(N.cell (p:=⟨D,0,none⟩) G).trans R;have A:SlE jaG 1 E W a len C:=P.below (N.mono I);have H:=A.1;rcases Nat.eq_zero_or_pos len with h | h
 ·obtain rfl:C=[]:=List.eq_nil_of_length_eq_zero (by omega)
  rw[h] at B;exact (je7 l D a cap J W B M).mono fun e V ⟨S,T⟩=>⟨S,.inl ⟨_,rfl,T⟩⟩
 ·obtain⟨x,b,off,-,rfl,-,-⟩:=A.at h
  rw[H] at B A;exact jn2 l D E b off cap C (by omega) J O Q W B A M
end
theorem jdU {B:Nat} {w:World} {a:Option Addr} {len:Nat} {l:List (Int × Int)} (h:SlE jbO 2 B w a len l) {j:Nat} (D:j<len) :
  ∃ x b off,l[j]? = some x/\a=some ⟨b,off,none⟩/\b<B/\w.cell? ⟨b,off+j*2,none⟩=some (.int .i64 x.1)/\w.cell? ⟨b,off+j*2+1,none⟩=some (.int .u64 x.2):=by
 obtain⟨x,b,off,E,e,C,A⟩:=h.at D;exact⟨x,b,off,E,e,C,A 0 (by omega),A 1 (by omega)⟩
theorem jwG:Tryz.prog.eqGuardType Tryz.prog.depth 132=false:=by kernel_rfl
theorem jrF (A B C D:Int) (w:World):(binOp .neq 132 (.agg #[.int .i64 A,.int .u64 B]) (.agg #[.int .i64 C,.int .u64 D])).run Tryz.prog w=.ok (.bool (!(A==C&&B==D))) w:=by
 have E:Tryz.prog.underlying 132=some (.struct (Tryz.prog.fieldsOf 132)):=by kernel_rfl
 have F:Tryz.prog.stoodInHeld 132=false:=by kernel_rfl
 have G : (Tryz.prog.fieldsOf 132).toList = [{ name := "At", type := 3, offset := 0, embedded := false, tag := "", pkgPath := "", byteOffset := 0 }, { name := "N", type := 48, offset := 1, embedded := false, tag := "", pkgPath := "", byteOffset := 8 }] := by kernel_rfl
 rw[run_neq_struct,run_equalIn_agg w 9999 _ _ _ E F,G]
 cases ha:(A==C)<;>cases H:(B==D)<;>simp[go_sem,ha,H,Tryz.underlying3,Tryz.underlying48]
theorem jkl (J:Int) (o:Option Addr) (A I:Nat) (b:List (Int × Int)) (L:Int) (q:Option Addr) (C E:Nat) (c:List (Int × Int)) (w:World) (P:SlE jbO 2 w.heap.size w o A b) (Q:SlE jbO 2 w.heap.size w q C c) (hm:A<=maxLen) :
  CR 86 #[.agg #[.int .i64 J,.slice o A I],.agg #[.int .i64 L,.slice q C E]] w (.bool (J==L&&b==c)):=by
 unfold maxLen at hm;obtain⟨n,v,V,X,B,O⟩:=jaI w #[.int .i64 J,.slice o A I] 39 #[.int .i64 L,.slice q C E] 39;obtain⟨c0,c1⟩:=cl2 V;obtain⟨d0,d1⟩:=cl2 X;have aa:w.heap.size+1<n.heap.size:=by omega
 by_cases S:J=L
 ·have t1:(J != L)=false:=by simp[S]
  have M:Hid ((J==L)=true):=by simp[Hid,S]
  clear S;by_cases z:A=C
  ·subst z
   have t0:((A:Int) != (A:Int))=false:=by simp
   have E1:=Lib.hid P.1;have E2:=Lib.hid Q.1;have t:=P.below B;have u:=Q.below B;clear P Q O;go_enter Tryz.func86,Tryz.ntmps86;go_wp2_with fail;clear v;go_loopw [5,6,24] (fun _ _ i wr=>∃ (k:Nat),i=.int .i64 k/\k<=A/\Bw n wr/\Hid (b.take k=c.take k)) (fun _ _ i _=>A-(intOf i).toNat)
   case atStart=>exact⟨0,rfl,Nat.zero_le _,Below.refl _ _,rfl⟩
   case round =>
    obtain⟨k,rfl,hk,R,HF⟩:=hrel;have ab:=R.size;by_cases Z:k<A
    ·obtain⟨x,b1,o1,a,r,ad,p0,p1⟩:=jdU (t.below (R.mono B.size)) Z
     obtain⟨y,H,T,hy,s,ae,q0,q1⟩:=jdU (u.below (R.mono B.size)) Z;subst r;subst s;obtain⟨d,f⟩:=x;obtain⟨g,j⟩:=y;dsimp only at p0 p1 q0 q1;have i0:(0:Int)<=(k:Int):=by omega
     have i1:(k:Int)<(A:Int):=by omega
     have m:wr.cell? ⟨w.heap.size+1,1,none⟩=some (.slice (some ⟨H,T,none⟩) A E):=(R.cell (p:=⟨w.heap.size+1,1,none⟩) aa).trans d1;have HX:=Lib.hid a;have HY:=Lib.hid hy;obtain⟨l,ac,Y,G,af⟩:=jaf wr #[.int .i64 d,.int .u64 f] 132;obtain⟨r0,r1⟩:=cl2 Y;have u0:l.cell? ⟨H,T+k*2,none⟩=some (.int .i64 g):=(G.cell (p:=⟨H,T+k*2,none⟩) (by show H<_;omega)).trans q0;have u1:l.cell? ⟨H,T+k*2+1,none⟩=some (.int .u64 j):=(G.cell (p:=⟨H,T+k*2+1,none⟩) (by show H<_;omega)).trans q1;have u2:l.cell? ⟨w.heap.size+1,1,none⟩=some (.slice (some ⟨H,T,none⟩) A E):=(G.cell (p:=⟨w.heap.size+1,1,none⟩) (by show w.heap.size+1<_;omega)).trans m;have U:Bw n l:=R.trans (G.mono ab);have n2:=jwG;clear a hy t u Y q0 q1 c0 c1 d0 d1 V X;by_cases D:d=g/\f=j
     ·have n1:∀ w,(binOp .neq 132 (.agg #[.int .i64 d,.int .u64 f]) (.agg #[.int .i64 g,.int .u64 j])).run Tryz.prog w=.ok (.bool false) w:=fun w=>by rw[jrF];simp[D.1,D.2]
      have F:=Lib.hid D;clear D;go_wp2_with fail;go_quiet (fail);go_wp2_with fail;go_roundw
      case rel=>exact⟨k+1,by go_num,by omega,bDr U _,by rw[Hid,jai HX.out,jai HY.out,HF.out,F.out.1,F.out.2]⟩
      case measure=>simp[intOf];omega
     ·have n1:∀ w,(binOp .neq 132 (.agg #[.int .i64 d,.int .u64 f]) (.agg #[.int .i64 g,.int .u64 j])).run Tryz.prog w=.ok (.bool true) w:=fun w=>by
       rw[jrF];have:(d==g&&f==j)=false:=by rw[Bool.eq_false_iff];intro h;simp at h;exact D h
       rw[this];rfl
      have F:=Lib.hid D;clear D;go_wp2_with fail;go_quiet (fail);go_wp2_with fail;go_ret
      have N:(b==c)=false:=by
       rw[beq_eq_false_iff_ne];intro e;have a:=HX.out;rw[e,HY.out] at a;have:=Option.some.inj a;simp only[Prod.mk.injEq] at this;exact F.out ⟨this.1.symm,this.2.symm⟩
      exact⟨by rw[N];simp,B.trans ((bDr U _).mono B.size)⟩
    ·obtain rfl:k=A:=by omega
     clear t u;go_wp2_with fail;go_ret;have h9:=HF.out;rw[List.take_of_length_le (by rw[<- E1.out];omega),List.take_of_length_le (by rw[<- E2.out];omega)] at h9;exact⟨by rw[h9,M.out];simp,B.trans (R.mono B.size)⟩
  ·have t0:((A:Int) != (C:Int))=true:=by rw[bne_iff_ne];omega
   have N:Hid ((b==c)=false):=by
    rw[Hid,beq_eq_false_iff_ne];intro e;have m:=P.1;rw[e,<- Q.1] at m;exact z m
   clear P Q z O;go_enter Tryz.func86,Tryz.ntmps86;go_wp2_with fail;go_ret;exact⟨by rw[N.out];simp,B⟩
 ·have t1:(J != L)=true:=by simp[S]
  have M:Hid ((J==L)=false):=by simp[Hid,S]
  clear S P Q O;go_enter Tryz.func86,Tryz.ntmps86;go_wp2_with fail;go_ret;exact⟨by rw[M.out];rfl,B⟩
theorem jd3 (n:Int) (w:World):Calls Tryz.prog 195 #[.int .i64 n] w fun e w'=>e=.returned (.bool (jbP n))/\w=w':=by
 by_cases A:3<=n
 ·go_enter Tryz.func195,Tryz.ntmps195
  go_wp2;go_ret;exact⟨by simp[jbP,A],rfl⟩
 ·go_enter Tryz.func195,Tryz.ntmps195
  go_wp2;go_ret;exact⟨by simp[jbP];omega,rfl⟩
theorem jaj (n:Int) (w:World):Calls Tryz.prog 197 #[.int .i64 n] w fun e w'=>e=.returned (.bool (jaq n))/\w=w':=by
 by_cases A:0<=n
 ·go_enter Tryz.func197,Tryz.ntmps197
  go_wp2;go_ret;exact⟨by simp[jaq,A],rfl⟩
 ·go_enter Tryz.func197,Tryz.ntmps197
  go_wp2;go_ret;exact⟨by simp[jaq];omega,rfl⟩
theorem jie (r c:Int) (w:World):Calls Tryz.prog 158 #[.int .i64 r,.int .i64 c] w fun e w'=>e=.returned (.bool (jbn r c))/\w=w':=by
 by_cases C:r<1
 ·go_enter Tryz.func158,Tryz.ntmps158
  go_wp2;go_ret;exact⟨by simp[jbn];omega,rfl⟩
 by_cases D:4<r
 ·go_enter Tryz.func158,Tryz.ntmps158
  go_wp2;go_ret;exact⟨by simp[jbn];omega,rfl⟩
 by_cases A:4<=c
 ·by_cases B:c<=32
  ·go_enter Tryz.func158,Tryz.ntmps158
   go_wp2;go_ret;exact⟨by simp[jbn,A,B];omega,rfl⟩
  ·go_enter Tryz.func158,Tryz.ntmps158
   go_wp2;go_ret;exact⟨by simp[jbn];intros;omega,rfl⟩
 ·go_enter Tryz.func158,Tryz.ntmps158
  go_wp2;go_ret;exact⟨by simp[jbn];intros;omega,rfl⟩
theorem jb1 (k:Int) (w:World):Calls Tryz.prog 126 #[.int .i64 k] w fun e w'=>e=.returned (.int .i64 (jaF k))/\w=w':=by
 cases A:(k==1) with
 | true =>
  go_enter Tryz.func126,Tryz.ntmps126;go_wp2;go_ret;exact⟨by simp[jaF,A],rfl⟩
 | false =>
  cases B:(k==2) with
  | true =>
   go_enter Tryz.func126,Tryz.ntmps126;go_wp2;go_ret;exact⟨by simp[jaF,A,B],rfl⟩
  | false =>
   cases C:(k==3) with
   | true =>
    go_enter Tryz.func126,Tryz.ntmps126;go_wp2;go_ret;exact⟨by simp[jaF,A,B,C],rfl⟩
   | false =>
    go_enter Tryz.func126,Tryz.ntmps126;go_wp2;go_ret;exact⟨by simp[jaF,A,B,C],rfl⟩
def jci (b:Bool) (w:World) (e:Ending) (w':World):Prop:=∃ lo hi:Int,e=.returned (.tuple #[.int .u64 lo,.int .u64 hi,.bool b])/\Bw w w'
theorem jqt (fine n:Int) (w:World) (A:jao fine n=false) (h:jaq fine=false\/n<0):Calls Tryz.prog 198 #[.int .i64 fine,.int .i64 n] w (jci (jao fine n) w):=by
 rw[A];clear A;rcases h with h | h
 ·go_enter Tryz.func198,Tryz.ntmps198
  go_wp2_with fail;refine jag 0 rfl ?_;go_wp2_with (go_at_call 197;refine (jaj _ _).mono ?_;rintro e w' ⟨rfl,rfl⟩)
  first | rw[jah] | (go_step3;refine And.intro (rfl:(0:Nat)=0) ?_;go_wp2_with fail;go_wp2_with fail;rw[Exit.noGoto_ret]) | (go_step3;go_wp2_with fail;rw[jah])
  go_ret3;exact⟨_,_,rfl,Below.refl _ _⟩
 ·cases B:jaq fine with
  | true =>
   go_enter Tryz.func198,Tryz.ntmps198;go_wp2_with fail;refine jag 0 rfl ?_;go_wp2_with (go_at_call 197;refine (jaj _ _).mono ?_;rintro e w' ⟨rfl,rfl⟩)
   first | rw[jah] | (go_step3;refine And.intro (rfl:(0:Nat)=0) ?_;go_wp2_with fail;go_wp2_with fail;rw[Exit.noGoto_ret]) | (go_step3;go_wp2_with fail;rw[jah])
   go_ret3;exact⟨_,_,rfl,Below.refl _ _⟩
  | false =>
   go_enter Tryz.func198,Tryz.ntmps198;go_wp2_with fail;refine jag 0 rfl ?_;go_wp2_with (go_at_call 197;refine (jaj _ _).mono ?_;rintro e w' ⟨rfl,rfl⟩)
   first | rw[jah] | (go_step3;refine And.intro (rfl:(0:Nat)=0) ?_;go_wp2_with fail;go_wp2_with fail;rw[Exit.noGoto_ret]) | (go_step3;go_wp2_with fail;rw[jah])
   go_ret3;exact⟨_,_,rfl,Below.refl _ _⟩
theorem js8 (w:World):Calls Tryz.prog 198 #[.int .i64 0,.int .i64 0] w (jci true w):=by
 have A:jaq 0=true:=rfl;go_enter Tryz.func198,Tryz.ntmps198;go_wp2_with fail;refine jag 0 rfl ?_;go_wp2_with (go_at_call 197;refine (jaj _ _).mono ?_;rintro e w' ⟨rfl,rfl⟩)
 first | rw[jah] | (go_step3;refine And.intro (rfl:(0:Nat)=0) ?_;go_wp2_with fail;go_wp2_with fail;rw[Exit.noGoto_ret]) | (go_step3;go_wp2_with fail;rw[jah])
 go_ret3;exact⟨_,_,rfl,Below.refl _ _⟩
theorem jvs (n:Int) (w:World) (A:1<=n) (B:n<=9223372036854775807) (C:64<=(n-1)):Calls Tryz.prog 198 #[.int .i64 0,.int .i64 n] w (jci false w):=by
 have E:(n==0)=false:=by rw[beq_eq_false_iff_ne];omega
 have D:jaq 0=true:=rfl;go_enter Tryz.func198,Tryz.ntmps198;go_wp2_with fail;refine jag 0 rfl ?_;go_wp2_with (go_at_call 197;refine (jaj _ _).mono ?_;rintro e w' ⟨rfl,rfl⟩);go_quiet (fail);go_wp2_with fail
 first | rw[jah] | (go_step3;refine And.intro (rfl:(0:Nat)=0) ?_;go_wp2_with fail;go_wp2_with fail;rw[Exit.noGoto_ret]) | (go_step3;go_wp2_with fail;rw[jah])
 go_ret3;exact⟨_,_,rfl,bDr (Below.refl _ _) _⟩
theorem js4 (n:Int) (w:World) (A:1<=n) (B:n<=9223372036854775807) (C:(n-1)<64) (_h4:0<=(n-1)):Calls Tryz.prog 198 #[.int .i64 0,.int .i64 n] w (jci true w):=by
 have E:(n==0)=false:=by rw[beq_eq_false_iff_ne];omega
 have D:jaq 0=true:=rfl;go_enter Tryz.func198,Tryz.ntmps198;go_wp2_with fail;refine jag 0 rfl ?_;go_wp2_with (go_at_call 197;refine (jaj _ _).mono ?_;rintro e w' ⟨rfl,rfl⟩);go_quiet (fail);go_wp2_with fail;go_quiet (fail);go_wp2_with fail
 first | rw[jah] | (go_step3;refine And.intro (rfl:(0:Nat)=0) ?_;go_wp2_with fail;go_wp2_with fail;rw[Exit.noGoto_ret]) | (go_step3;go_wp2_with fail;rw[jah])
 go_ret3;exact⟨_,_,rfl,bDr (bDr (Below.refl _ _) _) _⟩
theorem js9 (w:World):Calls Tryz.prog 198 #[.int .i64 1,.int .i64 0] w (jci true w):=by
 have A:jaq 1=true:=rfl;go_enter Tryz.func198,Tryz.ntmps198;go_wp2_with fail;refine jag 0 rfl ?_;go_wp2_with (go_at_call 197;refine (jaj _ _).mono ?_;rintro e w' ⟨rfl,rfl⟩)
 first | rw[jah] | (go_step3;refine And.intro (rfl:(0:Nat)=0) ?_;go_wp2_with fail;go_wp2_with fail;rw[Exit.noGoto_ret]) | (go_step3;go_wp2_with fail;rw[jah])
 go_ret3;exact⟨_,_,rfl,Below.refl _ _⟩
theorem jvt (n:Int) (w:World) (A:1<=n) (B:n<=9223372036854775807) (C:64<=(n-1) / 2):Calls Tryz.prog 198 #[.int .i64 1,.int .i64 n] w (jci false w):=by
 have E:(n==0)=false:=by rw[beq_eq_false_iff_ne];omega
 have D:jaq 1=true:=rfl;go_enter Tryz.func198,Tryz.ntmps198;go_wp2_with fail;refine jag 0 rfl ?_;go_wp2_with (go_at_call 197;refine (jaj _ _).mono ?_;rintro e w' ⟨rfl,rfl⟩);go_quiet (fail);go_wp2_with fail
 first | rw[jah] | (go_step3;refine And.intro (rfl:(0:Nat)=0) ?_;go_wp2_with fail;go_wp2_with fail;rw[Exit.noGoto_ret]) | (go_step3;go_wp2_with fail;rw[jah])
 go_ret3;exact⟨_,_,rfl,bDr (Below.refl _ _) _⟩
theorem js5 (n:Int) (w:World) (A:1<=n) (B:n<=9223372036854775807) (C:(n-1) / 2<64) (D:1<=(n-1) / 2):Calls Tryz.prog 198 #[.int .i64 1,.int .i64 n] w (jci true w):=by
 have F:(n==0)=false:=by rw[beq_eq_false_iff_ne];omega
 have E:jaq 1=true:=rfl;go_enter Tryz.func198,Tryz.ntmps198;go_wp2_with fail;refine jag 0 rfl ?_;go_wp2_with (go_at_call 197;refine (jaj _ _).mono ?_;rintro e w' ⟨rfl,rfl⟩);go_quiet (fail);go_wp2_with fail;go_quiet (fail);go_wp2_with fail
 first | rw[jah] | (go_step3;refine And.intro (rfl:(0:Nat)=0) ?_;go_wp2_with fail;go_wp2_with fail;rw[Exit.noGoto_ret]) | (go_step3;go_wp2_with fail;rw[jah])
 go_ret3;exact⟨_,_,rfl,bDr (bDr (Below.refl _ _) _) _⟩
theorem jta (w:World):Calls Tryz.prog 198 #[.int .i64 2,.int .i64 0] w (jci true w):=by
 have A:jaq 2=true:=rfl;go_enter Tryz.func198,Tryz.ntmps198;go_wp2_with fail;refine jag 0 rfl ?_;go_wp2_with (go_at_call 197;refine (jaj _ _).mono ?_;rintro e w' ⟨rfl,rfl⟩)
 first | rw[jah] | (go_step3;refine And.intro (rfl:(0:Nat)=0) ?_;go_wp2_with fail;go_wp2_with fail;rw[Exit.noGoto_ret]) | (go_step3;go_wp2_with fail;rw[jah])
 go_ret3;exact⟨_,_,rfl,Below.refl _ _⟩
theorem jvu (n:Int) (w:World) (A:1<=n) (B:n<=9223372036854775807) (C:64<=(n-1) / 4):Calls Tryz.prog 198 #[.int .i64 2,.int .i64 n] w (jci false w):=by
 have E:(n==0)=false:=by rw[beq_eq_false_iff_ne];omega
 have D:jaq 2=true:=rfl;go_enter Tryz.func198,Tryz.ntmps198;go_wp2_with fail;refine jag 0 rfl ?_;go_wp2_with (go_at_call 197;refine (jaj _ _).mono ?_;rintro e w' ⟨rfl,rfl⟩);go_quiet (fail);go_wp2_with fail
 first | rw[jah] | (go_step3;refine And.intro (rfl:(0:Nat)=0) ?_;go_wp2_with fail;go_wp2_with fail;rw[Exit.noGoto_ret]) | (go_step3;go_wp2_with fail;rw[jah])
 go_ret3;exact⟨_,_,rfl,bDr (Below.refl _ _) _⟩
theorem js6 (n:Int) (w:World) (A:1<=n) (B:n<=9223372036854775807) (C:(n-1) / 4<64) (D:2<=(n-1) / 4):Calls Tryz.prog 198 #[.int .i64 2,.int .i64 n] w (jci true w):=by
 have F:(n==0)=false:=by rw[beq_eq_false_iff_ne];omega
 have E:jaq 2=true:=rfl;go_enter Tryz.func198,Tryz.ntmps198;go_wp2_with fail;refine jag 0 rfl ?_;go_wp2_with (go_at_call 197;refine (jaj _ _).mono ?_;rintro e w' ⟨rfl,rfl⟩);go_quiet (fail);go_wp2_with fail;go_quiet (fail);go_wp2_with fail
 first | rw[jah] | (go_step3;refine And.intro (rfl:(0:Nat)=0) ?_;go_wp2_with fail;go_wp2_with fail;rw[Exit.noGoto_ret]) | (go_step3;go_wp2_with fail;rw[jah])
 go_ret3;exact⟨_,_,rfl,bDr (bDr (Below.refl _ _) _) _⟩
theorem jtb (w:World):Calls Tryz.prog 198 #[.int .i64 3,.int .i64 0] w (jci true w):=by
 have A:jaq 3=true:=rfl;go_enter Tryz.func198,Tryz.ntmps198;go_wp2_with fail;refine jag 0 rfl ?_;go_wp2_with (go_at_call 197;refine (jaj _ _).mono ?_;rintro e w' ⟨rfl,rfl⟩)
 first | rw[jah] | (go_step3;refine And.intro (rfl:(0:Nat)=0) ?_;go_wp2_with fail;go_wp2_with fail;rw[Exit.noGoto_ret]) | (go_step3;go_wp2_with fail;rw[jah])
 go_ret3;exact⟨_,_,rfl,Below.refl _ _⟩
theorem jvv (n:Int) (w:World) (A:1<=n) (B:n<=9223372036854775807) (C:64<=(n-1) / 8):Calls Tryz.prog 198 #[.int .i64 3,.int .i64 n] w (jci false w):=by
 have E:(n==0)=false:=by rw[beq_eq_false_iff_ne];omega
 have D:jaq 3=true:=rfl;go_enter Tryz.func198,Tryz.ntmps198;go_wp2_with fail;refine jag 0 rfl ?_;go_wp2_with (go_at_call 197;refine (jaj _ _).mono ?_;rintro e w' ⟨rfl,rfl⟩);go_quiet (fail);go_wp2_with fail
 first | rw[jah] | (go_step3;refine And.intro (rfl:(0:Nat)=0) ?_;go_wp2_with fail;go_wp2_with fail;rw[Exit.noGoto_ret]) | (go_step3;go_wp2_with fail;rw[jah])
 go_ret3;exact⟨_,_,rfl,bDr (Below.refl _ _) _⟩
theorem js7 (n:Int) (w:World) (A:1<=n) (B:n<=9223372036854775807) (C:(n-1) / 8<64) (D:3<=(n-1) / 8):Calls Tryz.prog 198 #[.int .i64 3,.int .i64 n] w (jci true w):=by
 have F:(n==0)=false:=by rw[beq_eq_false_iff_ne];omega
 have E:jaq 3=true:=rfl;go_enter Tryz.func198,Tryz.ntmps198;go_wp2_with fail;refine jag 0 rfl ?_;go_wp2_with (go_at_call 197;refine (jaj _ _).mono ?_;rintro e w' ⟨rfl,rfl⟩);go_quiet (fail);go_wp2_with fail;go_quiet (fail);go_wp2_with fail
 first | rw[jah] | (go_step3;refine And.intro (rfl:(0:Nat)=0) ?_;go_wp2_with fail;go_wp2_with fail;rw[Exit.noGoto_ret]) | (go_step3;go_wp2_with fail;rw[jah])
 go_ret3;exact⟨_,_,rfl,bDr (bDr (Below.refl _ _) _) _⟩
theorem jsY (n:Int) (w:World) (A:1<=n) (B:n<=9223372036854775807) (C:(n-1) / 2=0) (c:Bool) (E:(bits .and .i64 (bits .and .i64 (n-1) 1) 1==0)=c):Calls Tryz.prog 198 #[.int .i64 1,.int .i64 n] w (jci c w):=by
 have F:(n==0)=false:=by rw[beq_eq_false_iff_ne];omega
 have D:jaq 1=true:=rfl
 cases c
 ·go_enter Tryz.func198,Tryz.ntmps198
  go_wp2_with fail;refine jag 0 rfl ?_;go_wp2_with (go_at_call 197;refine (jaj _ _).mono ?_;rintro e w' ⟨rfl,rfl⟩);go_quiet (fail);go_wp2_with fail
  first | rw[jah] | (go_step3;refine And.intro (rfl:(0:Nat)=0) ?_;go_wp2_with fail;go_wp2_with fail;rw[Exit.noGoto_ret]) | (go_step3;go_wp2_with fail;rw[jah])
  go_ret3;exact⟨_,_,rfl,bDr (Below.refl _ _) _⟩
 ·go_enter Tryz.func198,Tryz.ntmps198
  go_wp2_with fail;refine jag 0 rfl ?_;go_wp2_with (go_at_call 197;refine (jaj _ _).mono ?_;rintro e w' ⟨rfl,rfl⟩);go_quiet (fail);go_wp2_with fail
  first | rw[jah] | (go_step3;refine And.intro (rfl:(0:Nat)=0) ?_;go_wp2_with fail;go_wp2_with fail;rw[Exit.noGoto_ret]) | (go_step3;go_wp2_with fail;rw[jah])
  go_ret3;exact⟨_,_,rfl,bDr (Below.refl _ _) _⟩
theorem jsZ (n:Int) (w:World) (A:1<=n) (B:n<=9223372036854775807) (C:(n-1) / 4=0) (c:Bool) (E:(bits .and .i64 (bits .and .i64 (n-1) 3) 3==0)=c):Calls Tryz.prog 198 #[.int .i64 2,.int .i64 n] w (jci c w):=by
 have F:(n==0)=false:=by rw[beq_eq_false_iff_ne];omega
 have D:jaq 2=true:=rfl
 cases c
 ·go_enter Tryz.func198,Tryz.ntmps198
  go_wp2_with fail;refine jag 0 rfl ?_;go_wp2_with (go_at_call 197;refine (jaj _ _).mono ?_;rintro e w' ⟨rfl,rfl⟩);go_quiet (fail);go_wp2_with fail
  first | rw[jah] | (go_step3;refine And.intro (rfl:(0:Nat)=0) ?_;go_wp2_with fail;go_wp2_with fail;rw[Exit.noGoto_ret]) | (go_step3;go_wp2_with fail;rw[jah])
  go_ret3;exact⟨_,_,rfl,bDr (Below.refl _ _) _⟩
 ·go_enter Tryz.func198,Tryz.ntmps198
  go_wp2_with fail;refine jag 0 rfl ?_;go_wp2_with (go_at_call 197;refine (jaj _ _).mono ?_;rintro e w' ⟨rfl,rfl⟩);go_quiet (fail);go_wp2_with fail
  first | rw[jah] | (go_step3;refine And.intro (rfl:(0:Nat)=0) ?_;go_wp2_with fail;go_wp2_with fail;rw[Exit.noGoto_ret]) | (go_step3;go_wp2_with fail;rw[jah])
  go_ret3;exact⟨_,_,rfl,bDr (Below.refl _ _) _⟩
theorem js0 (n:Int) (w:World) (A:1<=n) (B:n<=9223372036854775807) (C:(n-1) / 4=1) (c:Bool) (E:(bits .and .i64 (bits .and .i64 (n-1) 3) 1==0)=c):Calls Tryz.prog 198 #[.int .i64 2,.int .i64 n] w (jci c w):=by
 have F:(n==0)=false:=by rw[beq_eq_false_iff_ne];omega
 have D:jaq 2=true:=rfl
 cases c
 ·go_enter Tryz.func198,Tryz.ntmps198
  go_wp2_with fail;refine jag 0 rfl ?_;go_wp2_with (go_at_call 197;refine (jaj _ _).mono ?_;rintro e w' ⟨rfl,rfl⟩);go_quiet (fail);go_wp2_with fail
  first | rw[jah] | (go_step3;refine And.intro (rfl:(0:Nat)=0) ?_;go_wp2_with fail;go_wp2_with fail;rw[Exit.noGoto_ret]) | (go_step3;go_wp2_with fail;rw[jah])
  go_ret3;exact⟨_,_,rfl,bDr (Below.refl _ _) _⟩
 ·go_enter Tryz.func198,Tryz.ntmps198
  go_wp2_with fail;refine jag 0 rfl ?_;go_wp2_with (go_at_call 197;refine (jaj _ _).mono ?_;rintro e w' ⟨rfl,rfl⟩);go_quiet (fail);go_wp2_with fail
  first | rw[jah] | (go_step3;refine And.intro (rfl:(0:Nat)=0) ?_;go_wp2_with fail;go_wp2_with fail;rw[Exit.noGoto_ret]) | (go_step3;go_wp2_with fail;rw[jah])
  go_ret3;exact⟨_,_,rfl,bDr (Below.refl _ _) _⟩
theorem js1 (n:Int) (w:World) (A:1<=n) (B:n<=9223372036854775807) (C:(n-1) / 8=0) (c:Bool) (E:(bits .and .i64 (bits .and .i64 (n-1) 7) 7==0)=c):Calls Tryz.prog 198 #[.int .i64 3,.int .i64 n] w (jci c w):=by
 have F:(n==0)=false:=by rw[beq_eq_false_iff_ne];omega
 have D:jaq 3=true:=rfl
 cases c
 ·go_enter Tryz.func198,Tryz.ntmps198
  go_wp2_with fail;refine jag 0 rfl ?_;go_wp2_with (go_at_call 197;refine (jaj _ _).mono ?_;rintro e w' ⟨rfl,rfl⟩);go_quiet (fail);go_wp2_with fail
  first | rw[jah] | (go_step3;refine And.intro (rfl:(0:Nat)=0) ?_;go_wp2_with fail;go_wp2_with fail;rw[Exit.noGoto_ret]) | (go_step3;go_wp2_with fail;rw[jah])
  go_ret3;exact⟨_,_,rfl,bDr (Below.refl _ _) _⟩
 ·go_enter Tryz.func198,Tryz.ntmps198
  go_wp2_with fail;refine jag 0 rfl ?_;go_wp2_with (go_at_call 197;refine (jaj _ _).mono ?_;rintro e w' ⟨rfl,rfl⟩);go_quiet (fail);go_wp2_with fail
  first | rw[jah] | (go_step3;refine And.intro (rfl:(0:Nat)=0) ?_;go_wp2_with fail;go_wp2_with fail;rw[Exit.noGoto_ret]) | (go_step3;go_wp2_with fail;rw[jah])
  go_ret3;exact⟨_,_,rfl,bDr (Below.refl _ _) _⟩
theorem js2 (n:Int) (w:World) (A:1<=n) (B:n<=9223372036854775807) (C:(n-1) / 8=1) (c:Bool) (E:(bits .and .i64 (bits .and .i64 (n-1) 7) 3==0)=c):Calls Tryz.prog 198 #[.int .i64 3,.int .i64 n] w (jci c w):=by
 have F:(n==0)=false:=by rw[beq_eq_false_iff_ne];omega
 have D:jaq 3=true:=rfl
 cases c
 ·go_enter Tryz.func198,Tryz.ntmps198
  go_wp2_with fail;refine jag 0 rfl ?_;go_wp2_with (go_at_call 197;refine (jaj _ _).mono ?_;rintro e w' ⟨rfl,rfl⟩);go_quiet (fail);go_wp2_with fail
  first | rw[jah] | (go_step3;refine And.intro (rfl:(0:Nat)=0) ?_;go_wp2_with fail;go_wp2_with fail;rw[Exit.noGoto_ret]) | (go_step3;go_wp2_with fail;rw[jah])
  go_ret3;exact⟨_,_,rfl,bDr (Below.refl _ _) _⟩
 ·go_enter Tryz.func198,Tryz.ntmps198
  go_wp2_with fail;refine jag 0 rfl ?_;go_wp2_with (go_at_call 197;refine (jaj _ _).mono ?_;rintro e w' ⟨rfl,rfl⟩);go_quiet (fail);go_wp2_with fail
  first | rw[jah] | (go_step3;refine And.intro (rfl:(0:Nat)=0) ?_;go_wp2_with fail;go_wp2_with fail;rw[Exit.noGoto_ret]) | (go_step3;go_wp2_with fail;rw[jah])
  go_ret3;exact⟨_,_,rfl,bDr (Below.refl _ _) _⟩
theorem js3 (n:Int) (w:World) (A:1<=n) (B:n<=9223372036854775807) (C:(n-1) / 8=2) (c:Bool) (E:(bits .and .i64 (bits .and .i64 (n-1) 7) 1==0)=c):Calls Tryz.prog 198 #[.int .i64 3,.int .i64 n] w (jci c w):=by
 have F:(n==0)=false:=by rw[beq_eq_false_iff_ne];omega
 have D:jaq 3=true:=rfl
 cases c
 ·go_enter Tryz.func198,Tryz.ntmps198
  go_wp2_with fail;refine jag 0 rfl ?_;go_wp2_with (go_at_call 197;refine (jaj _ _).mono ?_;rintro e w' ⟨rfl,rfl⟩);go_quiet (fail);go_wp2_with fail
  first | rw[jah] | (go_step3;refine And.intro (rfl:(0:Nat)=0) ?_;go_wp2_with fail;go_wp2_with fail;rw[Exit.noGoto_ret]) | (go_step3;go_wp2_with fail;rw[jah])
  go_ret3;exact⟨_,_,rfl,bDr (Below.refl _ _) _⟩
 ·go_enter Tryz.func198,Tryz.ntmps198
  go_wp2_with fail;refine jag 0 rfl ?_;go_wp2_with (go_at_call 197;refine (jaj _ _).mono ?_;rintro e w' ⟨rfl,rfl⟩);go_quiet (fail);go_wp2_with fail
  first | rw[jah] | (go_step3;refine And.intro (rfl:(0:Nat)=0) ?_;go_wp2_with fail;go_wp2_with fail;rw[Exit.noGoto_ret]) | (go_step3;go_wp2_with fail;rw[jah])
  go_ret3;exact⟨_,_,rfl,bDr (Below.refl _ _) _⟩
theorem jdV (fine n:Int) (D:1<=n) (C:jaq fine=true):jao fine n=(if 64<=(n-1) / 2^fine.toNat then false else if fine<=(n-1) / 2^fine.toNat then true
   else bits .and .i64 (bits .and .i64 (n-1) (2^fine.toNat-1)) (2^(fine-(n-1) / 2^fine.toNat).toNat-1)==0):=by
 unfold jao;have A:decide (0<=n)=true:=decide_eq_true (by omega);have B:(n==0)=false:=beq_eq_false_iff_ne.2 (by omega);rw[C,A,B];rfl
theorem joQ (fine n:Int) (B:n<=9223372036854775807) (w:World):Calls Tryz.prog 198 #[.int .i64 fine,.int .i64 n] w (jci (jao fine n) w):=by
 cases D:jaq fine with
 | false=>exact jqt fine n w (by simp[jao,D]) (.inl D)
 | true =>
  by_cases E:n<0
  ·exact jqt fine n w (by simp[jao];intros;omega) (.inr E)
  by_cases G:n=0
  ·subst G
   have F:jao fine 0=true:=by simp[jao,D]
   rw[F];have hr:0<=fine/\fine<=3:=by simpa [jaq] using D
   rcases (by omega:fine=0\/fine=1\/fine=2\/fine=3) with rfl | rfl | rfl | rfl
   ·exact js8 w
   ·exact js9 w
   ·exact jta w
   ·exact jtb w
  have hr:0<=fine/\fine<=3:=by simpa [jaq] using D
  rw[jdV fine n (by omega) D];rcases (by omega:fine=0\/fine=1\/fine=2\/fine=3) with rfl | rfl | rfl | rfl
  ·rw[show (2:Int)^(0:Int).toNat=1 from rfl,Int.ediv_one]
   by_cases A:64<=n-1
   ·rw[if_pos A];exact jvs n w (by omega) B A
   ·rw[if_neg A,if_pos (by omega)];exact js4 n w (by omega) B (by omega) (by omega)
  ·rw[show (2:Int)^(1:Int).toNat=2 from rfl]
   by_cases A:64<=(n-1) / 2
   ·rw[if_pos A];exact jvt n w (by omega) B A
   rw[if_neg A];by_cases C:1<=(n-1) / 2
   ·rw[if_pos C];exact js5 n w (by omega) B (by omega) C
   rw[if_neg C];have e:(n-1) / 2=0:=by omega
   rw[e];exact jsY n w (by omega) B e _ rfl
  ·rw[show (2:Int)^(2:Int).toNat=4 from rfl]
   by_cases A:64<=(n-1) / 4
   ·rw[if_pos A];exact jvu n w (by omega) B A
   rw[if_neg A];by_cases C:2<=(n-1) / 4
   ·rw[if_pos C];exact js6 n w (by omega) B (by omega) C
   rw[if_neg C];rcases (by omega:(n-1) / 4=0\/(n-1) / 4=1) with e | e<;>rw[e]
   ·exact jsZ n w (by omega) B e _ rfl
   ·exact js0 n w (by omega) B e _ rfl
  ·rw[show (2:Int)^(3:Int).toNat=8 from rfl]
   by_cases A:64<=(n-1) / 8
   ·rw[if_pos A];exact jvv n w (by omega) B A
   rw[if_neg A];by_cases C:3<=(n-1) / 8
   ·rw[if_pos C];exact js7 n w (by omega) B (by omega) C
   rw[if_neg C];rcases (by omega:(n-1) / 8=0\/(n-1) / 8=1\/(n-1) / 8=2) with e | e | e<;>rw[e]
   ·exact js1 n w (by omega) B e _ rfl
   ·exact js2 n w (by omega) B e _ rfl
   ·exact js3 n w (by omega) B e _ rfl
theorem jdc (r c:Int) (l:List Int) (a:Option Addr) (len cap:Nat) (w:World) (E:len=l.length) :
  CR 178 #[.agg #[.int .i64 r,.int .i64 c,.slice a len cap]] w (.bool (jaN r c l)):=by
 have B:Bw w (w.alloc (.cells #[.int .i64 r,.int .i64 c,.slice a len cap] 36)):=(Below.refl _ w).alloc (Nat.le_refl _) _;have F:=Lib.hid E;clear E;have C:=fun w=>jie r c w
 cases A:jbn r c with
 | false =>
  rw[A] at C;have D:=Lib.hid A;clear A;go_enter Tryz.func178,Tryz.ntmps178;go_wp2_with (go_at_call 158;refine (C _).mono ?_;rintro e w' ⟨rfl,rfl⟩);go_ret;exact⟨by simp[jaN,D.out],B⟩
 | true =>
  rw[A] at C;have hr:(1<=r/\r<=4)/\4<=c/\c<=32:=by simp[jbn] at A;omega
  obtain⟨⟨M,I⟩,N,J⟩:=hr;have H:r*c<=4*32:=Int.mul_le_mul I J (by omega) (by omega);have G:0<=r*c:=Int.mul_nonneg (by omega) (by omega);have L:IntKind.i64.wrap (r*c)=r*c:=IntWalk.i64_in _ (by omega);have D:=Lib.hid A;clear A;go_enter Tryz.func178,Tryz.ntmps178;go_wp2_with (go_at_call 158;refine (C _).mono ?_;rintro e w' ⟨rfl,rfl⟩);go_ret;exact⟨by simp[jaN,D.out,<- F.out],B⟩
theorem jcN (fine:Int) (l:List (Int × Int)) (a:Option Addr) (len cap:Nat) (w:World) (g:SlE jbO 2 w.heap.size w a len l) (hm:len<=maxLen) (hb:∀ b∈l,b.1<=9223372036854775807) :
  CR 179 #[.agg #[.int .i64 fine,.slice a len cap]] w (.bool (jaP fine l)):=by
 unfold maxLen at hm;obtain⟨d,j,Q,A,o⟩:=jaf w #[.int .i64 fine,.slice a len cap] 39;obtain⟨y,c1⟩:=cl2 Q;have s:w.heap.size<d.heap.size:=by omega
 have HL:=Lib.hid g.1;have Y:=g.below A;have U:=fun w=>jaj fine w
 have c:=Lib.hid hb;clear g Q o hb
 cases J:jaq fine with
 | false =>
  rw[J] at U;have X:=Lib.hid J;clear J Y;go_enter Tryz.func179,Tryz.ntmps179;go_wp2_with (go_at_call 197;refine (U _).mono ?_;rintro e w' ⟨rfl,rfl⟩);go_ret;exact⟨by simp[jaP,X.out],A⟩
 | true =>
  rw[J] at U;have u:Hid (jaP fine l=(jb7 (jbw fine) (-1) l).isSome):=by simp[Hid,jaP,J]
  clear J;go_enter Tryz.func179,Tryz.ntmps179;go_wp2_with (go_at_call 197;refine (U _).mono ?_;rintro e w' ⟨rfl,rfl⟩);clear j U;go_loopw [3,16] (fun la i wr=>∃ (k:Nat) (B:Int),i=.int .i64 k/\la=.int .i64 B/\k<=len/\Bw d wr/\Hid (jb7 (jbw fine) (-1) (l.take k)=some B)) (fun _ i _=>len-(intOf i).toNat)
  case atStart=>exact⟨0,-1,rfl,rfl,Nat.zero_le _,Below.refl _ _,rfl⟩
  case round =>
   obtain⟨k,B,rfl,rfl,hk,O,X⟩:=hrel;have t:=O.size;by_cases n:k<len
   ·obtain⟨x,b1,o1,r,ea,aa,p0,p1⟩:=jdU (Y.below (O.mono A.size)) n
    subst ea;have V:x.1<=9223372036854775807:=c.out x (List.mem_of_getElem? r);have v:=Lib.hid (jjx r X.out);obtain⟨E,Z⟩:=x;dsimp only at p0 p1 V;have z:wr.cell? ⟨w.heap.size,0,none⟩=some (.int .i64 fine):=(O.cell (p:=⟨w.heap.size,0,none⟩) s).trans y;obtain⟨f,m,H,P,q⟩:=jaf wr #[.int .i64 E,.int .u64 Z] 132;have r0:f.cell? ⟨wr.heap.size,0,none⟩=some (.int .i64 E):=cCc H 0;have f0:f.cell? ⟨w.heap.size,0,none⟩=some (.int .i64 fine):=(P.cell (p:=⟨w.heap.size,0,none⟩) (by show w.heap.size<_;omega)).trans z;have T:=joQ fine E V f;clear r Y y c1 z;go_wp2_with fail;refine T.mono ?_;rintro e w3 ⟨lo,hi,rfl,S⟩;have R:=jab S (Nat.le_refl _) H;obtain⟨s0,s1⟩:=cl2 R;have F:Bw d w3:=O.trans ((P.mono t).trans (S.mono (by omega)));have M:Hid (∀ G,((Z==0) || !jao fine E||decide (E<=B))=G->jb7 (jbw fine) (-1) (l.take (k+1))=if G then none else some E):=fun G h=>by rw[v.out,<- h];rfl
    clear m H R r0 f0 T q v
    have D:Hid (∀ G,((Z==0) || !jao fine E||decide (E<=B))=G->G=true->jaP fine l=false):=fun G I N=>by
     rw[u.out,jjw (k:=k+1) (by rw[M.out G I,N];rfl)];rfl
    cases I:(Z==0) with
    | true =>
     have C:=D.out true (by rw[I];rfl) rfl;have L:=Lib.hid C;clear C;go_wp2_with fail;go_ret;exact⟨by rw[L.out];rfl,A.trans (F.mono A.size)⟩
    | false =>
     cases N:jao fine E with
     | false =>
      have C:=D.out true (by rw[I,N];rfl) rfl;have L:=Lib.hid C;clear C;go_wp2_with fail;go_ret;exact⟨by rw[L.out];rfl,A.trans (F.mono A.size)⟩
     | true =>
      by_cases h3:E<=B
      ·have C:=D.out true (by rw[I,N,decide_eq_true h3];rfl) rfl
       have L:=Lib.hid C;clear C;go_wp2_with fail;go_ret;exact⟨by rw[L.out];rfl,A.trans (F.mono A.size)⟩
      ·have H8:=Lib.hid (M.out false (by rw[I,N,decide_eq_false h3];rfl))
       go_wp2_with fail;go_roundw
       case rel=>exact⟨k+1,E,by go_num,rfl,by omega,F,H8.out⟩
       case measure=>simp[intOf];omega
   ·obtain rfl:k=len:=by omega
    clear Y;go_wp2_with fail;go_ret;have C:=X.out;rw[List.take_of_length_le (by rw[<- HL.out];omega)] at C;exact⟨by rw[u.out,C];rfl,A.trans (O.mono A.size)⟩
section
open Go.Shelf
attribute [local go_sem] Oper.semAt_some
theorem jmc (s:ByteArray) (w:World) :
  Calls Tryz.prog 196 #[.string s] w fun e w'=>e=.returned (.func (.func 205) #[] #[.pointer (some ⟨w.heap.size,0,none⟩)])/\w'=w.alloc (.cells #[.string s] 9):=by
 go_enter Tryz.func196,Tryz.ntmps196;go_wp2;go_ret;exact⟨rfl,rfl⟩
theorem jhg {α:Type} {P:Program} {g:Operand} {H:Array Tmp} {assign body:Code} {Q:Exit->Act->World->Prop} {a:Act} {w:World} (s:Nat) (val:α->Value)
  {gf:Nat} {lb:Array Value} (h:a.eval g=.func (.func gf) #[] lb) (d:∀ args w,(callFunc gf args).run P w=.ok (.enter gf args) w)
  {B:α->Array Value} {Y:Nat} {xs:List α} {N:Nat} {b:World} (J:SeqStopsK Fence.wide 8 P gf lb B (Below Y) (fun i=>i=xs) (fun A=>A <+: xs) N b)
  (V:Y<=w.heap.size) (R:Bw b w) (X:∀ x,(B x).size=H.size)
  (I:List α->World->Prop) (L:Code->List α->World->Prop) (f:OwnFrom w.heap.size I) (M:∀ c,OwnFrom w.heap.size (L c)) (e:I [] w)
  (C:∀ (l:Nat) (A:List α) (x:α) (W:World) (K:Act->World->Prop),I A W ->
   (I A W->K { tmps:=((H.zip (B x)).foldl (fun t (p,v)=>t.setIfInBounds p v) a.tmps).setIfInBounds s (val x),defers:=[] } W) ->
   assign.wpIn (Fence.wide.inRound l) 7 P (Exit.then K (fun _ _ _=>False)) { tmps:=(H.zip (B x)).foldl (fun t (p,v)=>t.setIfInBounds p v) a.tmps,defers:=[] } W)
  (E:∀ (l:Nat) (A:List α) (x:α) (W:World),I A W->A.length<N ->
   body.wpIn (Fence.wide.inRound l) 7 P (ownPostG w.heap.size (Below Y) I L (A++[x]) W) { tmps:=((H.zip (B x)).foldl (fun t (p,v)=>t.setIfInBounds p v) a.tmps).setIfInBounds s (val x),defers:=[] } W)
  (F:∀ (D:Nat) (W:World),w.heap.size<=D->I xs W->W.heap[D]? = some (.deferred (some []))->Q .normal { a with defers:={ target:=.collected D,args:=#[] }::a.defers } W)
  (G:∀ (D:Nat) (c:Code) (A:List α) (W:World),w.heap.size<=D->A <+: xs->L c A W->W.heap[D]? = some (.deferred (some []))->c.wp P Q { a with defers:={ target:=.collected D,args:=#[] }::a.defers } W) :
  (Code.rangeFunc g H assign body).wp P Q a w :=
 joO h d J V R X I L f M e
  (fun x Z _=>Z = { tmps:=((H.zip (B x)).foldl (fun t (p,v)=>t.setIfInBounds p v) a.tmps).setIfInBounds s (val x),defers:=[] }) (fun _ _=>ownFrom_pure _ _)
  (fun l A x W K S hK=>C l A x W K S (fun T=>hK _ _ (KeepsFrom.refl _ _) (Below.refl _ _) T rfl))
  (fun l A x Z W S O U=>by subst O;exact E l A x W S U) F G
def jeM (s:ByteArray):List (Nat × UInt8):=(List.range s.size).map fun i=>(i,s.data.toList.getD i 0)
def jcB (b:Int) (l:List (Nat × UInt8)):Bool:=l.all fun p => !decide (65-b<(p.2.toNat:Int))
theorem jcu (b:Int) (l m:List (Nat × UInt8)):jcB b (l++m)=(jcB b l&&jcB b m):=List.all_append
theorem jgJ (b:Int) (x:Nat × UInt8):jcB b [x] = !decide (65-b<(x.2.toNat:Int)):=by simp[jcB]
theorem jov (b:Int) (s:ByteArray):jcB b (jeM s)=jcC b s:=by
 have h:s.data.toList=(jeM s).map (·.2):=by
  apply List.ext_getElem?;intro i;by_cases A:i<s.size
  ·simp[jeM,A]
  ·simp[jeM,A]
 unfold jcC jcB;rw[h,List.all_map];rfl
theorem jkF (s:ByteArray):(jeM s).length=s.size:=by simp[jeM]
theorem jnp (s:ByteArray) (k:Nat) (h:k<s.size):(jeM s)[k]? = some (k,s[k]'h):=by
 simp[jeM,h];rfl
theorem jwX (l C P:Nat) (s:ByteArray) (I:s.size<4294967281) (J S:List (Nat × UInt8)->World->Prop)
  (Y:∀ A x W,J A W->A.length<(jeM s).length->YieldAt Fence.wide 7 Tryz.prog l #[.int .i64 x.1,.int .u8 x.2.toNat] W fun e B =>
   (e=.returned (.bool true)/\J (A++[x]) B/\Below P W B)\/(e=.returned (.bool false)/\S (A++[x]) B))
  (W:World) (O:C<P) (L:W.cell? ⟨C,0,none⟩=some (.string s)) (V:J [] W) :
  CallsIn Fence.wide 8 Tryz.prog 205 #[.func (.yield l) #[] #[],.pointer (some ⟨C,0,none⟩)] W fun e B=>(∃ v,e=.returned v) /\
   ((∃ U,U=jeM s/\J U B)\/(∃ A,A <+: jeM s/\S A B)):=by
 have H:=jkF s;refine callsIn_of_wp Tryz.func205 rfl trivial ?_ rfl;simp only[Tryz.ntmps205,List.size_toArray,List.length_cons,List.length_nil,Nat.reduceAdd,Nat.reduceSub,Array.replicate_succ,Array.replicate_zero,List.push_toArray,List.append_toArray,List.nil_append,List.cons_append];have Q:=Lib.hid H;clear H;gi_wp2;gi_loopw [3,6] (fun _ i wr=>∃ k:Nat,k<=s.size/\i=.int .i64 k/\J ((jeM s).take k) wr/\Below P W wr) (fun _ i _=>s.size-(intOf i).toNat)
 case atStart=>exact⟨0,Nat.zero_le _,rfl,V,Below.refl _ _⟩
 case round =>
  obtain⟨k,c,rfl,D,G⟩:=hrel;by_cases F:k<s.size
  ·have T:=jnp s k F
   obtain⟨b,tmps,assign,body,d,X⟩:=Y _ (k,s[k]'F) _ D (by rw[List.length_take,Q.out];omega);have R:=Lib.hid T;have a:wr.cell? ⟨C,0,none⟩=some (.string s):=(G.cell (p:=⟨C,0,none⟩) O).trans L;clear T;gi_wp2;refine X.mono ?_;rintro e Z (⟨rfl,M,N⟩ | ⟨rfl,E⟩)
   ·gi_wp2
    go_roundw
    case rel=>exact⟨k+1,by omega,by simp,by rw[jai R.out];exact M,G.trans N⟩
    case measure=>simp[intOf];omega
   ·gi_wp2
    refine bodyPost_ret (results_none rfl _ _ _) rfl ?_;exact⟨⟨_,rfl⟩,.inr ⟨_,by have h:=List.take_prefix (k+1) (jeM s);rwa [jai R.out] at h,E⟩⟩
  ·obtain rfl:k=s.size:=by omega
   gi_wp2
   go_end0;exact⟨⟨_,rfl⟩,.inl ⟨_,List.take_of_length_le (by rw[Q.out];omega),D⟩⟩
theorem jrR (B E:Nat) (s:ByteArray) (A:s.size<4294967281) (w:World) (C:B<w.heap.size) (D:B<E) (M:w.cell? ⟨B,0,none⟩=some (.string s)) :
  SeqStopsK Fence.wide 8 Tryz.prog 205 #[.pointer (some ⟨B,0,none⟩)] (fun x:Nat × UInt8=>#[.int .i64 x.1,.int .u8 x.2.toNat]) (Below E) (fun N=>N=jeM s) (fun F=>F <+: jeM s) (jeM s).length w:=fun l J G W I _ _ L H =>
 jwX l B E s A J G L W D ((I.cell (p:=⟨B,0,none⟩) C).trans M) H
theorem jko (b:Int) (s:ByteArray) (w:World) (n:3<=b) (o:b<=8) (hs:(s.size:Int)=2^b.toNat) :
  CR 177 #[.agg #[.int .i64 b,.string s]] w (.bool (jcC b s)):=by
 obtain⟨h,m,Q,j,a⟩:=jaf w #[.int .i64 b,.string s] 34;obtain⟨y,i⟩:=cl2 Q;refine jay Tryz.func177 rfl ?_;simp only[Tryz.ntmps177,List.size_toArray,List.length_cons,List.length_nil,Nat.reduceAdd,Nat.reduceSub,Array.replicate_succ,Array.replicate_zero,List.push_toArray,List.append_toArray,List.nil_append,List.cons_append];have Z:∀ w,Calls Tryz.prog 195 #[.int .i64 b] w fun e w'=>e=.returned (.bool true)/\w'=w:=fun w=>(jd3 b w).mono fun e w' ⟨z,h2⟩=>⟨by rw[z];simp[jbP,n,o],h2.symm⟩
 have r:s.size<=256:=by
  have z:(2:Int)^b.toNat<=2^8:=by
   have:(2:Nat)^b.toNat<=2^8:=Nat.pow_le_pow_right (by omega) (by omega);exact_mod_cast this
  omega
 have hw:IntKind.i64.wrap (2^b.toNat)=(s.size:Int):=by rw[<- hs];exact IntWalk.i64_in _ (by omega)
 have t0:((s.size:Int) != (s.size:Int))=false:=by simp
 have g:=Lib.hid Z;clear hs Z;go_wp2_with fail;go_step3;go_wp2_with fail;go_quiet ((go_at_call 195;exact Calls.quiet_of_same (g.out _)));go_wp2_with fail;go_step3;have k:Bw w (h.drewN nq):=bDr j nq;obtain⟨f,X,R,O,M⟩:=jaf (h.drewN nq) #[.bool true] 4;have hz:(h.drewN nq).heap.size=w.heap.size+1:=a;rw[hz] at R O M;have S:f.heap[w.heap.size]? = some (.cells #[.int .i64 b,.string s] 34 (0,0)):=(O.block _ (by omega)).trans Q;have ca:f.cell? ⟨w.heap.size,1,none⟩=some (.string s):=cCc S 1;obtain⟨U,V,E,H,L⟩:=jaf f #[.string s] 9;rw[M] at E H L;have J:=(H.block _ (by omega)).trans S;have C:=(H.block _ (by omega)).trans R;have I:Bw w U:=(k.trans (O.mono (by omega))).trans (H.mono (by omega));have v:=Lib.hid V;have d:w.heap.size+1+1<=f.heap.size:=by omega
 rw[X];clear m Q a V X hz R S;go_wp2_with fail;refine (jmc _ _).mono ?_;rintro e w' ⟨rfl,rfl⟩;rw[M,v.out];clear M d ca;go_wp2_with fail;have q:U.cell? ⟨w.heap.size+1+1,0,none⟩=some (.string s):=cCc E 0;clear y i v
 refine jhg 5 (fun x:Nat × UInt8=>.int .u8 x.2.toNat) (gf:=205) (lb:=#[.pointer (some ⟨w.heap.size+1+1,0,none⟩)]) rfl (enters_of Tryz.func205 (by kernel_rfl) rfl)
  (jrR (w.heap.size+1+1) U.heap.size s (by omega) U (by omega) (by omega) q) (Nat.le_refl _) (Below.refl _ _) (fun _=>rfl)
  (fun B W=>Bw U W/\jcB b B=true)
  (fun c B W=>Boxed W (w.heap.size+1) 4 (.bool false)/\(c=.exit 0/\jcB b B=false)/\Bw w W)
  ((ownFrom_below (Nat.le_refl _) (Nat.le_refl _)).and (ownFrom_pure _ _))
  (fun c=>(jdq _ _ _ _).and ((ownFrom_pure _ _).and (ownFrom_below (Nat.le_refl _) (by omega))))
  ⟨Below.refl _ _,rfl⟩ ?assign ?body ?done ?stop
 case assign =>
  rintro l B x W K hI hK;simp only[List.zip_toArray,List.zip_cons_cons,List.zip_nil_right,List.size_toArray,List.foldl_toArray',List.foldl_cons,List.foldl_nil,List.setIfInBounds_toArray,List.set_cons_succ,List.set_cons_zero] at hK ⊢;gi_wp2;exact hI
 case body =>
  rintro l B x W ⟨G,T⟩ aa;simp only[List.zip_toArray,List.zip_cons_cons,List.zip_nil_right,List.size_toArray,List.foldl_toArray',List.foldl_cons,List.foldl_nil,List.setIfInBounds_toArray,List.set_cons_succ,List.set_cons_zero];have Y:=(G.block _ (by omega)).trans J;have A:=(G.block _ (by omega)).trans C;have y:W.cell? ⟨w.heap.size,0,none⟩=some (.int .i64 b):=cCc Y 0;have i:W.cell? ⟨w.heap.size+1,0,none⟩=some (.bool true):=cCc A 0;have c2:W.frozen? ⟨w.heap.size+1,0,none⟩=false:=cFz A 0;have F:Boxed W (w.heap.size+1) 4 (.bool true):=A;have N:Bw w W:=I.trans (G.mono I.size);have u:=Lib.hid T;have hx:=UInt8.toNat_lt x.2;have ab:wrap64 (x.2.toNat:Int)=(x.2.toNat:Int):=by unfold wrap64;omega
  clear T Y A C E J L;by_cases ht:65-b<(x.2.toNat:Int)
  ·gi_wp2_with fail
   exact⟨(KeepsOthers.setCell _ _ _).from _,F.set _,⟨rfl,by rw[jcu,u.out,jgJ,decide_eq_true ht];rfl⟩,N.setCell (p:=⟨w.heap.size+1,0,none⟩) (Nat.le_succ _) _⟩
  ·gi_wp2_with fail
   exact⟨KeepsFrom.refl _ _,Below.refl _ _,G,by rw[jcu,u.out,jgJ,decide_eq_false (by omega)];rfl⟩
 case done =>
  rintro D W hD ⟨G,T⟩ hK;have A:=(G.block _ (by omega)).trans C;have i:W.cell? ⟨w.heap.size+1,0,none⟩=some (.bool true):=cCc A 0;have N:Bw w W:=I.trans (G.mono I.size);have P:w.heap.size<=D:=by omega
  clear C E J L A;go_wp2_with fail;refine jaX hK (results_tmp rfl _ _ _) ⟨by rw[<- jov,T];rfl,jgy N P hK⟩
 case stop =>
  rintro D c B W hD hp ⟨F,⟨rfl,T⟩,G⟩ hK;have c3:=F.cell;have P:w.heap.size<=D:=by omega
  clear C E J L;go_wp2_with fail
  have h9:jcC b s=false:=by
   rw[<- jov];obtain⟨t,ht⟩:=hp;rw[<- ht,jcu,T];rfl
  refine jaX hK (results_tmp rfl _ _ _) ⟨by rw[h9];rfl,jgy G P hK⟩
theorem jdd (b:Int) (s:ByteArray) (w:World) :
  CR 177 #[.agg #[.int .i64 b,.string s]] w (.bool (jaT b s)):=by
 cases F:jbP b with
 | true =>
  have hr:3<=b/\b<=8:=by simpa [jbP] using F
  by_cases H:(s.size:Int)=2^b.toNat
  ·refine (jko b s w hr.1 hr.2 H).mono ?_
   rintro e w' ⟨rfl,h⟩;have D:((s.size:Int)==2^b.toNat)=true:=beq_iff_eq.2 H;exact⟨by simp only[jaT,F,D,Bool.true_and],h⟩
  ·obtain⟨N,L,A,E,G⟩:=jaf w #[.int .i64 b,.string s] 34
   obtain⟨O,S⟩:=cl2 A;have B:∀ w,Calls Tryz.prog 195 #[.int .i64 b] w fun e w'=>e=.returned (.bool true)/\w'=w:=fun w=>(jd3 b w).mono fun e w' ⟨J,D⟩=>⟨by rw[J,F],D.symm⟩
   have C:=Lib.hid B
   have P:(2:Int)^b.toNat<=256:=by
    have:(2:Nat)^b.toNat<=2^8:=Nat.pow_le_pow_right (by omega) (by omega);exact_mod_cast this
   have M:(0:Int)<=2^b.toNat:=by
    have:(0:Nat)<=2^b.toNat:=Nat.zero_le _;exact_mod_cast this
   generalize hq:(2:Int)^b.toNat=q at H P M;have T:IntKind.i64.wrap (2^b.toNat)=q:=by rw[hq];exact IntWalk.i64_in _ (by omega)
   have U:((s.size:Int) != q)=true:=by rw[bne_iff_ne];exact H
   have I:Hid (jaT b s=false):=by
    have D:((s.size:Int)==2^b.toNat)=false:=by rw[hq,beq_eq_false_iff_ne];exact H
    simp only[Hid,jaT,D,Bool.and_false,Bool.false_and]
   obtain⟨Q,R⟩:=hr;clear F B hq H A G;refine jay Tryz.func177 rfl ?_;simp only[Tryz.ntmps177,List.size_toArray,List.length_cons,List.length_nil,Nat.reduceAdd,Nat.reduceSub,Array.replicate_succ,Array.replicate_zero,List.push_toArray,List.append_toArray,List.nil_append,List.cons_append];go_wp2_with fail;go_step3;go_wp2_with fail;go_quiet ((go_at_call 195;exact Calls.quiet_of_same (C.out _)));go_wp2_with fail;exact jck (results_tmp rfl _ _ _) rfl ⟨by rw[I.out];rfl,bDr E _⟩
 | false =>
  obtain⟨N,L,A,E,G⟩:=jaf w #[.int .i64 b,.string s] 34;have O:N.cell? ⟨w.heap.size,0,none⟩=some (.int .i64 b):=cCc A 0;have B:∀ w,Calls Tryz.prog 195 #[.int .i64 b] w fun e w'=>e=.returned (.bool false)/\w'=w:=fun w=>(jd3 b w).mono fun e w' ⟨J,D⟩=>⟨by rw[J,F],D.symm⟩
  have C:=Lib.hid B;have I:Hid (jaT b s=false):=by simp only[Hid,jaT,F,Bool.false_and]
  clear F B A G;refine jay Tryz.func177 rfl ?_;simp only[Tryz.ntmps177,List.size_toArray,List.length_cons,List.length_nil,Nat.reduceAdd,Nat.reduceSub,Array.replicate_succ,Array.replicate_zero,List.push_toArray,List.append_toArray,List.nil_append,List.cons_append];go_wp2_with fail;go_step3;go_wp2_with fail;go_quiet ((go_at_call 195;exact Calls.quiet_of_same (C.out _)));go_wp2_with fail;exact jck (results_tmp rfl _ _ _) rfl ⟨by rw[I.out];rfl,bDr E _⟩
end
end Go.Proofs.YtafhpamnegmilaaGreatDoor
