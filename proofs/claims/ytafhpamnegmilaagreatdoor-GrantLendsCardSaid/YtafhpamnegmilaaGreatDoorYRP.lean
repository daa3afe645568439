/- The reference of layer 5: Means. The reference of layer 15: Right, May. The reference of layer 9: Right, Same. The reference of layer 9: Same. The reference of layer 10: Bottom; Same at equal sketches. The reference of layer 10: Same, at any sketches. -/
import Derived.Test.YtafhpamnegmilaaGreatDoorYI4
set_option maxHeartbeats 4000000
set_option maxRecDepth 100000
namespace Go.Proofs.YtafhpamnegmilaaGreatDoor
open Go Go.RowKit Go.Shelf
theorem jgG:∀ (A:List Lab) (n v:ByteArray),ja5 A n=some v->∃ x∈A,x.value=v
 | [],n,v,h=>by simp[ja5] at h
 | x::xs,n,v,h=>by
  unfold ja5 at h;split at h
  ·cases h
   exact⟨x,List.mem_cons_self,rfl⟩
  ·obtain⟨y,B,C⟩:=jgG xs n v h
   exact⟨y,List.mem_cons_of_mem _ B,C⟩
theorem jih:∀ (B:List Lab) (b:ByteArray),jdF b B=true->∀ x∈B,jbc x.value=true
 | [],_,_,x,A=>by cases A
 | y::ys,b,h,x,A=>by
  unfold jdF at h;simp only[Bool.and_eq_true] at h;rcases List.mem_cons.1 A with rfl | A
  ·exact h.1.2
  ·exact jih ys _ h.2 x A
theorem jn0 {v:ByteArray} (h:jbc v=true):(jaJ v 0).length<=900:=by
 unfold jbc at h;simp only[Bool.and_eq_true,decide_eq_true_eq] at h;have A:=h.1.2;unfold jcW at A;rw[h.1.1] at A;simp at A;rw[jaJ,List.length_map];omega
theorem jik {A:List Lab} (h:jal A=true) {n v:ByteArray} (B:ja5 A n=some v):(jaJ v 0).length<=900:=by
 unfold jal at h;simp only[Bool.and_eq_true] at h;obtain⟨x,C,rfl⟩:=jgG A n v B;exact jn0 (jih A _ h.2 x C)
def jfx (x:jb4):Term:=⟨(jbo x.1).1,(jbo x.1).2⟩
theorem jrD {s:jb4} {A:List Lab} (h:(jce s&&jal A)=false):jbM s A=(false,50):=by
 unfold jbM;rw[jnt]
 cases B:jce s with
 | false=>rfl
 | true =>
  rw[B,Bool.true_and] at h;rw[if_pos rfl];show (if jal A=true then _ else _)=_;rw[h];rfl
theorem jpv {s:jb4} {A:List Lab} (h:(jce s&&jal A)=true):jbM s A=(if s.1.size==0 then true else ((jbC s).map jfx).all (jdB A),0):=by
 obtain⟨B,C⟩:=Bool.and_eq_true_iff.1 h;unfold jbM;rw[jnt,if_pos B];show (if jal A=true then _ else _)=_;rw[if_pos C]
 cases D:(s.1.size==0) with
 | true=>rfl
 | false=>rfl
theorem jsQ {α:Type} {f:α->Bool} {l:List α} {k:Nat} {x:α} (h:l[k]? = some x):(l.drop k).all f=(f x&&(l.drop (k+1)).all f):=by
 rw[jat h];rfl
theorem jiu (s:jb4) (a:Option Addr) (len cap:Nat) (l:List Lab) (w:World) (h:SlE Lab.enc 2 w.heap.size w a len l) (ho:jfs l) (hm:len<=maxLen) :
  CR 32 #[.string s.1,.slice a len cap] w (.tuple #[.bool (jbM s l).1,.int .i64 (jbM s l).2]):=by
 have B:=Lib.hid (jeO s w);have D:Hid (∀ W,Bw w W->CR 64 #[.slice a len cap] W (.bool (jal l))):=fun W y=>jcw a len cap l W (h.go y) ho hm
 have ah:Hid (∀ (n:ByteArray) W,Bw w W->CR 71 #[.slice a len cap,.string n] W (.tuple #[.string ((ja5 l n).getD ⟨#[]⟩),.bool (ja5 l n).isSome])):=fun n W y=>jkI a len cap l n W (h.go y) hm
 have M:Hid (∀ W,Calls Tryz.prog 67 #[.string s.1] W (jhL ((jbC s).map (·.1)) W)):=fun W=>jeP s W
 have J:∀ (L:List ByteArray) W e w',jhL L W e w'=∃ a cap,e=.returned (.slice a L.length cap)/\SlC jf6 1 w'.heap.size w' a L.length cap L/\Bw W w':=fun _ _ _ _=>rfl
 have J:=Lib.hid J;have ai:=Lib.hid ho;clear h ho hm
 cases C:(jce s&&jal l) with
 | false =>
  have F:=jrD C;rw[F];clear F
  cases S:jce s with
  | false =>
   rw[S] at B;obtain⟨t,ht⟩:=s;dsimp only at B ⊢;clear C S;go_enter Tryz.func32,Tryz.ntmps32;go_wp2_with fail;refine B.out.mono ?_;rintro e d ⟨rfl,A⟩;go_wp2_with fail;go_ret2;exact⟨rfl,A⟩
  | true =>
   rw[S] at B C;rw[Bool.true_and] at C;rw[C] at D;obtain⟨t,ht⟩:=s;dsimp only at B ⊢;clear C S;go_enter Tryz.func32,Tryz.ntmps32;go_wp2_with fail;refine B.out.mono ?_;rintro e d ⟨rfl,A⟩;go_wp2_with fail;refine (D.out d A).mono ?_;rintro e w2 ⟨rfl,E⟩;go_wp2_with fail;go_ret2;exact⟨rfl,A.trans (E.mono A.size)⟩
 | true =>
  rw[jpv C];obtain⟨S,Z⟩:=Bool.and_eq_true_iff.1 C;rw[S] at B;rw[Z] at D
  have aj:Hid (∀ n v,ja5 l n=some v->(jaJ v 0).length<=900/\v.size<4294967281):=fun n v Q=>⟨jik Z Q,by
   obtain⟨x,hx,rfl⟩:=jgG l n v Q;exact (ai.out x hx).2⟩
  cases c:(s.1.size==0) with
  | true =>
   have af:s.1.size=0:=beq_iff_eq.1 c
   have he:s.1=⟨#[]⟩:=by
    apply ByteArray.ext;apply Array.ext';have:=Array.length_toList (xs:=s.1.data);have Z:s.1.data.toList.length=0:=this.trans af;exact List.eq_nil_of_length_eq_zero Z
   rw[he] at B ⊢;clear c af he C S Z;go_enter Tryz.func32,Tryz.ntmps32;go_wp2_with fail;refine B.out.mono ?_;rintro e d ⟨rfl,A⟩;go_wp2_with fail;refine (D.out d A).mono ?_;rintro e w2 ⟨rfl,E⟩;go_wp2_with fail;go_ret2;exact⟨rfl,A.trans (E.mono A.size)⟩
  | false =>
   have he:(s.1.toList==(⟨#[]⟩:ByteArray).toList)=false:=by
    rw[jc0,decide_eq_false_iff_not];intro e;rw[e] at c
    cases c
   have aa:s.1.toList.isEmpty=false:=by rw[jbr];exact c
   obtain⟨xs,ae⟩:∃ xs,jbC s=xs:=⟨_,rfl⟩;rw[ae] at M ⊢;have j:Hid ((xs.map jfx).all (jdB l)=(xs.drop 0).all fun x=>jdB l (jfx x)):=by rw[Hid,List.drop_zero,List.all_map];rfl
   rw[if_neg (by decide)];generalize (xs.map jfx).all (jdB l)=R at j ⊢;obtain⟨t,ht⟩:=s;dsimp only at B M he aa ⊢;clear ae c C S Z ht;go_enter Tryz.func32,Tryz.ntmps32;go_wp2_with fail;refine B.out.mono ?_;rintro e d ⟨rfl,A⟩;go_wp2_with fail;refine (D.out d A).mono ?_;rintro e w2 ⟨rfl,E⟩;have g:Hid (Bw w w2):=A.trans (E.mono A.size);clear A E;go_wp2_with fail;refine (M.out w2).mono ?_;intro e f h;rw[J.out] at h;obtain⟨ta,tc,rfl,r,z⟩:=h;have Y:(xs.map (·.1)).length=xs.length:=List.length_map ..;have al:xs.length<=maxLen:=by rw[<- Y];exact Nat.le_trans r.2.1 r.2.2.1
   unfold maxLen at al;rw[Y] at r ⊢;have HS:=Lib.hid r;have T:Hid (Bw w f):=g.out.trans (z.mono g.out.size);have q:Hid (w.heap.size<=f.heap.size):=T.out.size;clear r z Y M B D J he aa;go_wp2_with fail;go_loopw [7] (fun i wr=>∃ (k:Nat),i=.int .i64 k/\k<=xs.length/\Bw f wr/\Hid (R=(xs.drop k).all fun x=>jdB l (jfx x))) (fun i _=>xs.length-(intOf i).toNat)
   case atStart=>exact⟨0,rfl,Nat.zero_le _,Below.refl _ _,j.out⟩
   case round =>
    obtain⟨k,rfl,hk,hB,HG⟩:=hrel;have i0:(0:Int)<=(k:Int):=Int.natCast_nonneg k;by_cases ab:k<xs.length
    ·obtain⟨x,hx⟩:∃ x,xs[k]? = some x:=⟨_,List.getElem?_eq_getElem ab⟩
     obtain⟨b,off,rfl,an,hc⟩:=(HS.out.1.below hB).2 k x.1 (by rw[List.getElem?_map,hx];rfl);have c0:wr.cell? ⟨b,off+k*1+0,none⟩=some (.string x.1):=hc 0 (by omega);simp only[Nat.mul_one,Nat.add_zero] at c0;have i1:(k:Int)<(xs.length:Int):=Int.ofNat_lt.2 ab;have o:Hid (R=(jdB l (jfx x)&&(xs.drop (k+1)).all fun x=>jdB l (jfx x))):=by rw[Hid,HG.out,jsQ hx]
     have m:=Lib.hid (fun W=>jfu x.1 W x.2);obtain⟨z1,z2⟩:=jjW x.1;have z3:=x.2;unfold jfx at o;obtain⟨n,hn⟩:∃ n,(jbo x.1).1=n:=⟨_,rfl⟩;obtain⟨p,hp⟩:∃ p,(jbo x.1).2=p:=⟨_,rfl⟩;rw[hn,hp] at o m;rw[hp] at z2;have am:p.size<4294967281:=by omega
     have U:Hid (∀ W,Bw f W->Bw w W):=fun W y=>T.out.trans (y.mono q.out)
     clear hc hx hn hp z1 z2 z3 HG;go_wp2_with fail;refine (m.out _).mono ?_;rintro e w4 ⟨rfl,m4,rfl⟩;have N:Bw f (wr.drewN m4):=bDr hB m4;obtain⟨W4,u⟩:∃ W4,wr.drewN m4=W4:=⟨_,rfl⟩;rw[u] at N ⊢;have I:=Lib.hid (ah.out n W4 (U.out W4 N));have G:=Lib.hid N;clear u N hB c0
     cases Q:ja5 l n with
     | none =>
      rw[Q] at I;have F:Hid (R=false):=by rw[Hid,o.out];unfold jdB;rw[Q];rfl
      go_wp2_with fail;refine I.out.mono ?_;rintro e w5 ⟨rfl,O⟩;go_wp2_with fail;go_ret2;exact⟨by rw[F.out];rfl,U.out _ (G.out.trans (O.mono G.out.size))⟩
     | some v =>
      rw[Q] at I;obtain⟨ac,ad⟩:=aj.out n v Q;have V:Hid (∀ W,CR 72 #[.string p,.string v] W (.bool (jdM p v))):=fun W=>jjd p v W am ad ac
      have X:Hid (R=(jdM p v&&(xs.drop (k+1)).all fun x=>jdB l (jfx x))):=by
       rw[Hid,o.out];show (jdB l ⟨n,p⟩&&_)=_;unfold jdB;rw[Q];rfl
      generalize jdM p v=fb at V X;clear Q ac ad o;go_wp2_with fail;refine I.out.mono ?_;rintro e w5 ⟨rfl,O⟩;have H:Hid (Bw f w5):=G.out.trans (O.mono G.out.size);clear O
      cases fb with
      | false =>
       have F:Hid (R=false):=X.out.trans (by simp);go_wp2_with fail;refine (V.out w5).mono ?_;rintro e w6 ⟨rfl,P⟩;go_wp2_with fail;go_ret2;exact⟨by rw[F.out];rfl,U.out _ (H.out.trans (P.mono H.out.size))⟩
      | true =>
       have F:Hid (R=(xs.drop (k+1)).all fun x=>jdB l (jfx x)):=X.out.trans (by simp);go_wp2_with fail;refine (V.out w5).mono ?_;rintro e w6 ⟨rfl,P⟩;have ak:=H.out.trans (P.mono H.out.size);clear P;go_wp2_with fail;go_roundw
       case rel=>exact⟨k+1,by go_num,by omega,ak,F.out⟩
       case measure=>simp[intOf];omega
    ·have i1:¬ (k:Int)<(xs.length:Int):=by omega
     have F:Hid (R=true):=by
      rw[Hid,HG.out,List.drop_of_length_le (by omega)];rfl
     have ag:=T.out.trans (hB.mono q.out);go_wp2_with fail;go_ret2;exact⟨by rw[F.out];rfl,ag⟩
theorem jqe {l:List Gr} {k:Nat} {x:Gr} {A:Int} (h:l[k]? = some x) (B:(decide (x.id<=A) || !jce x.scope)=true):jfw A (l.drop k)=none:=by
 rw[jat h,jfw,if_pos B]
theorem jqf {l:List Gr} {k:Nat} {x:Gr} {A:Int} (h:l[k]? = some x) (B:(decide (x.id<=A) || !jce x.scope)=false):jfw A (l.drop k)=jfw x.id (l.drop (k+1)):=by
 rw[jat h,jfw,if_neg (by rw[B];decide)]
theorem jfP (g:jcs) (a:Option Addr) (len cap:Nat) (w:World) (S:Grs w.heap.size w (.slice a len cap) g.l) (m:g.l.length<=maxLen) :
  CR 50 #[.agg #[.int .u64 g.next,.slice a len cap]] w (.bool (jcK g)):=by
 rw[<- jkB];have N:=(SlAt.elems jcg S).1;subst N;obtain⟨next,l⟩:=g;dsimp only at *;unfold maxLen at m;have r:=Lib.hid S;have V:Hid (∀ (x:jb4) W,CR 31 #[.string x.1] W (.bool (jce x))):=fun x W=>jeO x W
 have I:Hid (∀ z,jfw 0 l=z->jio ⟨next,l⟩=(decide (l.length<=10)&&z.any fun z=>decide (z<next))):=fun z h=>by rw[<- h];rfl
 generalize jio ⟨next,l⟩=R at I ⊢;obtain⟨Z,s⟩:∃ Z,Hid (Z=jfw 0 (l.drop 0)):=⟨_,rfl⟩;replace I:Hid (R=(decide (l.length<=10)&&Z.any fun z=>decide (z<next))):=I.out Z s.out.symm;obtain⟨Q,y,M,F,ab⟩:=jaf w #[.int .u64 next,.slice a l.length cap] 51;have X:=Lib.hid M;have B:=Lib.hid F;replace r:Hid (Grs Q.heap.size Q (.slice a l.length cap) l):=(SlAt.below F S).mono F.size;have ac:w.heap.size<Q.heap.size:=by omega
 clear S M F;go_enter Tryz.func50,Tryz.ntmps50;go_wp2_with fail;go_loopw [3,4] (fun la i wr=>∃ (k:Nat) (A:Int),i=.int .i64 k/\la=.int .u64 A/\k<=l.length/\Bw Q wr/\Hid (Z=jfw A (l.drop k))) (fun _ i _=>l.length-(intOf i).toNat)
 case atStart=>exact⟨0,0,rfl,rfl,Nat.zero_le _,Below.refl _ _,s.out⟩
 case round =>
  obtain⟨k,A,rfl,rfl,hk,D,L⟩:=hrel;have J:=jab D (Nat.le_refl _) X.out;have Y:=cCc J 0;have c:=cCc J 1;simp at Y c;have ad:=D.size;have i0:(0:Int)<=(k:Int):=Int.natCast_nonneg k;by_cases O:k<l.length
  ·obtain⟨x,T⟩:∃ x,l[k]? = some x:=⟨_,List.getElem?_eq_getElem O⟩
   obtain⟨b,off,rfl,aa,j⟩:=(SlAt.elems jcg (SlAt.below D r.out)).2 k x T;have t:wr.cell? ⟨b,off+k*3,none⟩=some (.int .u64 x.id):=j 0 (by omega);have v:wr.cell? ⟨b,off+k*3+2,none⟩=some (.string x.scope.1):=j 2 (by omega);have i1:(k:Int)<(l.length:Int):=Int.ofNat_lt.2 O;have E:Hid ((decide (x.id<=A) || !jce x.scope)=true->Z=none):=fun h=>L.out.trans (jqe T h)
   have H:Hid ((decide (x.id<=A) || !jce x.scope)=false->Z=jfw x.id (l.drop (k+1))):=fun h=>L.out.trans (jqf T h)
   clear j T L;by_cases o:x.id<=A
   ·have G:Hid (R=false):=by rw[Hid,I.out,E.out (by simp[o])];simp
    go_wp2_with fail;go_ret;exact⟨by rw[G.out];rfl,B.out.trans (D.mono B.out.size)⟩
   have U:=V.out x.scope wr;obtain⟨n,P⟩:∃ n,jce x.scope=n:=⟨_,rfl⟩;rw[P] at U E H;have ae:A<x.id:=by omega
   have u:decide (x.id<=A)=false:=decide_eq_false o;rw[u] at E H;clear o P u
   cases n with
   | false =>
    have G:Hid (R=false):=by rw[Hid,I.out,E.out rfl];simp
    go_wp2_with fail;refine U.mono ?_;rintro e w2 ⟨rfl,C⟩;go_wp2_with fail;go_ret;exact⟨by rw[G.out];rfl,B.out.trans ((D.trans (C.mono D.size)).mono B.out.size)⟩
   | true =>
    have G:=Lib.hid (H.out rfl);go_wp2_with fail;refine U.mono ?_;rintro e w2 ⟨rfl,C⟩;have f:=D.trans (C.mono D.size);have g2:=(C.cell (p:=⟨w.heap.size,0,none⟩) (by show w.heap.size<_;omega)).trans Y;have g3:=(C.cell (p:=⟨w.heap.size,1,none⟩) (by show w.heap.size<_;omega)).trans c;have c5:=(C.cell (p:=⟨b,off+k*3,none⟩) (by show b<_;omega)).trans t;clear C D t v Y c J;go_wp2_with fail;go_roundw
    case rel=>exact⟨k+1,x.id,by go_num,rfl,by omega,f,G.out⟩
    case measure=>simp[intOf];omega
  ·obtain rfl:k=l.length:=by omega
   have G:Hid (Z=some A):=by rw[Hid,L.out,List.drop_of_length_le (Nat.le_refl _)];rfl
   have q:Hid (R=(decide ((l.length:Int)<=10)&&decide (A<next))):=by
    rw[Hid,I.out,G.out];show (decide (l.length<=10)&&decide (A<next))=_;congr 1;exact decide_eq_decide.2 (by omega)
   have i1:¬ (l.length:Int)<(l.length:Int):=by omega
   clear I G L;by_cases d:(l.length:Int)<=10
   ·go_wp2_with fail
    go_ret;exact⟨by rw[q.out];simp[d],B.out.trans (D.mono B.out.size)⟩
   ·go_wp2_with fail
    go_ret;exact⟨by rw[q.out];simp;omega,B.out.trans (D.mono B.out.size)⟩
theorem jo8 {α:Type} {f:α->Bool} {l:List α} {k:Nat} {x:α} (h:l[k]? = some x):(l.drop k).any f=(f x||(l.drop (k+1)).any f):=by
 rw[jat h];rfl
theorem jqF (B:Int) (l:List Lab) (x:Gr):jfG B l x=(x.tnt==B&&(jbM x.scope l).1):=by
 unfold jfG
 cases h:((jbM x.scope l).2==0) with
 | true=>rw[Bool.true_and]
 | false =>
  have C:(jbM x.scope l).1=false:=by
   cases A:(jce x.scope&&jal l) with
   | false=>rw[jrD A]
   | true=>rw[jpv A] at h;cases h
  rw[C];rfl
theorem jj3 (g:jcs) (V:Option Addr) (gl X:Nat) (F:Int) (a:Option Addr) (len cap:Nat) (l:List Lab) (w:World) (o:Grs w.heap.size w (.slice V gl X) g.l) (c:g.l.length<=maxLen) (h:SlE Lab.enc 2 w.heap.size w a len l) (ho:jfs l) (hm:len<=maxLen) :
  CR 51 #[.agg #[.int .u64 g.next,.slice V gl X],.int .u64 F,.slice a len cap] w (.bool (jhW g F l)):=by
 have f:=(SlAt.elems jcg o).1;subst f;have S:Hid (∀ W,Bw w W->CR 50 #[.agg #[.int .u64 g.next,.slice V g.l.length X]] W (.bool (jcK g))):=fun W P=>jfP g V g.l.length X W ((SlAt.below P o).mono P.size) c
 have Q:Hid (∀ (x:jb4) W,Bw w W->CR 32 #[.string x.1,.slice a len cap] W (.tuple #[.bool (jbM x l).1,.int .i64 (jbM x l).2])):=fun x W P=>jiu x a len cap l W (h.go P) ho hm
 have HL:=Lib.hid o;have I:Hid (jhW g F l=(jcK g&&(g.l.drop 0).any (jfG F l))):=rfl;have C:=Lib.hid (fun x=>jqF F l x);generalize jhW g F l=R at I ⊢;generalize jfG F l=mo at I C;generalize jbM=ms at Q C;obtain⟨n,d⟩:∃ n,jcK g=n:=⟨_,rfl⟩;rw[d] at I S;obtain⟨next,D⟩:=g;dsimp only at *;unfold maxLen at c;obtain⟨t,ab,Y,J,ad⟩:=jaf w #[.int .u64 next,.slice V D.length X] 51;have s:=Lib.hid Y;have aa:=Lib.hid J;have B:Hid (∀ W,Bw t W->Bw w W):=fun W P=>J.trans (P.mono J.size)
 have ae:w.heap.size<t.heap.size:=by omega
 clear o h ho hm d Y J;go_enter Tryz.func51,Tryz.ntmps51;go_wp2_with fail;go_loopw [7] (fun i wr=>∃ (k:Nat),i=.int .i64 k/\k<=D.length/\Bw t wr/\Hid (R=(n&&(D.drop k).any mo))) (fun i _=>D.length-(intOf i).toNat)
 case atStart=>exact⟨0,rfl,Nat.zero_le _,Below.refl _ _,I.out⟩
 case round =>
  obtain⟨k,rfl,hk,G,m⟩:=hrel;have O:=jab G (Nat.le_refl _) s.out;have u:=cCc O 0;have v:=cCc O 1;simp at u v;have ag:=G.size;have i0:(0:Int)<=(k:Int):=Int.natCast_nonneg k;by_cases j:k<D.length
  ·obtain⟨x,q⟩:∃ x,D[k]? = some x:=⟨_,List.getElem?_eq_getElem j⟩
   have i1:(k:Int)<(D.length:Int):=Int.ofNat_lt.2 j;have T:=S.out wr (B.out _ G)
   cases n with
   | false =>
    have H:Hid (R=false):=by rw[Hid,m.out];rfl
    clear q;go_wp2_with fail;refine T.mono ?_;rintro e r ⟨rfl,A⟩;go_wp2_with fail;go_ret;exact⟨by rw[H.out];rfl,B.out _ (G.trans (A.mono G.size))⟩
   | true =>
    have U:Hid (R=((x.tnt==F&&(ms x.scope l).1)||(D.drop (k+1)).any mo)):=by rw[Hid,m.out,Bool.true_and,jo8 q,C.out]
    obtain⟨b,off,rfl,ac,y⟩:=(SlAt.elems jcg (SlAt.below (B.out _ G) HL.out)).2 k x q;clear q m;go_wp2_with fail;refine T.mono ?_;rintro e r ⟨rfl,A⟩;have L:=G.trans (A.mono G.size);have c2:r.cell? ⟨b,off+k*3+2,none⟩=some (.string x.scope.1):=(A.cell (p:=⟨b,off+k*3+2,none⟩) (by show b<_;omega)).trans (y 2 (by omega));have c1:r.cell? ⟨b,off+k*3+1,none⟩=some (.int .u64 x.tnt):=(A.cell (p:=⟨b,off+k*3+1,none⟩) (by show b<_;omega)).trans (y 1 (by omega));have af:=A.size;have g2:=(A.cell (p:=⟨w.heap.size,0,none⟩) (by show w.heap.size<_;omega)).trans u;have g3:=(A.cell (p:=⟨w.heap.size,1,none⟩) (by show w.heap.size<_;omega)).trans v;have M:=Q.out x.scope r (B.out _ L);obtain⟨z,Z⟩:∃ z,(ms x.scope l).1=z:=⟨_,rfl⟩;rw[Z] at M U;generalize (ms x.scope l).2=er at M;clear y Z A G u v O;go_wp2_with fail;refine M.mono ?_;rintro e w3 ⟨rfl,E⟩;have N:=L.trans (E.mono L.size);have d1:w3.cell? ⟨b,off+k*3+1,none⟩=some (.int .u64 x.tnt):=(E.cell (p:=⟨b,off+k*3+1,none⟩) (by show b<_;omega)).trans c1;have g4:=(E.cell (p:=⟨w.heap.size,0,none⟩) (by show w.heap.size<_;omega)).trans g2;have g5:=(E.cell (p:=⟨w.heap.size,1,none⟩) (by show w.heap.size<_;omega)).trans g3;clear E L c1 c2 M g2 g3;by_cases ht:x.tnt=F
    ·have t1:(x.tnt==F)=true:=by simp[ht]
     rw[t1,Bool.true_and] at U;clear ht
     cases z with
     | true =>
      have H:Hid (R=true):=by rw[Hid,U.out];rfl
      go_wp2_with fail;go_ret;exact⟨by rw[H.out];rfl,B.out _ N⟩
     | false =>
      have H:Hid (R=(true&&(D.drop (k+1)).any mo)):=by rw[Hid,U.out];simp
      go_wp2_with fail;go_roundw
      case rel=>exact⟨k+1,by go_num,by omega,N,H.out⟩
      case measure=>simp[intOf];omega
    ·have t1:(x.tnt==F)=false:=by rw[beq_eq_false_iff_ne];exact ht
     have H:Hid (R=(true&&(D.drop (k+1)).any mo)):=by rw[Hid,U.out,t1];simp
     clear ht;go_wp2_with fail;go_roundw
     case rel=>exact⟨k+1,by go_num,by omega,N,H.out⟩
     case measure=>simp[intOf];omega
  ·have i1:¬ (k:Int)<(D.length:Int):=by omega
   have H:Hid (R=false):=by rw[Hid,m.out,List.drop_of_length_le (by omega)];simp
   go_wp2_with fail;go_ret;exact⟨by rw[H.out];rfl,B.out _ G⟩
def jd6 (l:List (Int × Int)) (k:Nat):Int:=if k=0 then -1 else (l[k-1]?.map (·.1)).getD (-1)
theorem jis {l:List (Int × Int)} {k:Nat} {x:Int × Int} (h:l[k]? = some x):jd6 l (k+1)=x.1:=by simp[jd6,h]
theorem jq5 {f:Int} {l:List (Int × Int)} {k:Nat} {x:Int × Int} (h:l[k]? = some x):(jb7 (jbw f) (jd6 l k) (l.drop k)).isSome=(!(x.2==0 || !jao f x.1||decide (x.1<=jd6 l k))&&(jb7 (jbw f) (jd6 l (k+1)) (l.drop (k+1))).isSome):=by
 rw[jat h,jdj,jis h];unfold jbw
 cases A:(x.2==0 || !jao f x.1||decide (x.1<=jd6 l k)) with
 | true=>rfl
 | false=>rfl
theorem jeT (f:Int) (a:Option Addr) (len cap:Nat) (l:List (Int × Int)) (w:World) (g:SlE jbO 2 w.heap.size w a len l) (hm:len<=maxLen) (hU:jsG l) :
  CR 121 #[.agg #[.int .i64 f,.slice a len cap]] w (.bool (jaP f l)):=by
 have J:=g.1;unfold maxLen at hm;obtain⟨c,ac,U,N,ad⟩:=jaf w #[.int .i64 f,.slice a len cap] 39;have HL:=Lib.hid (g.go N);have HU:=Lib.hid hU;have HN:=Lib.hid J;have B:=Lib.hid N;have HE:Hid (jaP f l=(jaq f&&(jb7 (jbw f) (jd6 l 0) (l.drop 0)).isSome)):=rfl;have L:Hid (jaq f=(decide (0<=f)&&decide (f<=3))):=rfl;have H:w.heap.size<c.heap.size:=by omega
 clear g N J hU;generalize jaP f l=bR at HE ⊢;obtain⟨c0,c1⟩:=cl2 U;clear U;go_enter Tryz.func121,Tryz.ntmps121;go_wp2_with fail;go_loopw [3] (fun i wr=>∃ (k:Nat),i=.int .i64 k/\k<=len/\Bw c wr/\Hid (bR=(jaq f&&(jb7 (jbw f) (jd6 l k) (l.drop k)).isSome))) (fun i _=>len-(intOf i).toNat)
 case atStart=>exact⟨0,rfl,Nat.zero_le _,Below.refl _ _,HE.out⟩
 case round =>
  obtain⟨k,rfl,hk,I,Z⟩:=hrel;have G:=I.size;have r0:wr.cell? ⟨w.heap.size,0,none⟩=some (.int .i64 f):=(I.cell (p:=⟨w.heap.size,0,none⟩) H).trans c0;have r1:wr.cell? ⟨w.heap.size,1,none⟩=some (.slice a len cap):=(I.cell (p:=⟨w.heap.size,1,none⟩) H).trans c1;by_cases q:k<len
  ·obtain⟨x,b,off,r,rfl,F,n⟩:=HL.out.at (j:=k) q
   have P:∀ W,Bw wr W->W.cell? ⟨w.heap.size,0,none⟩=some (.int .i64 f)/\W.cell? ⟨w.heap.size,1,none⟩=some (.slice (some ⟨b,off,none⟩) len cap)/\W.cell? ⟨b,off+k*2,none⟩=some (.int .i64 x.1)/\Bw wr W:=fun W h =>
    ⟨(h.cell (p:=⟨w.heap.size,0,none⟩) (Nat.lt_of_lt_of_le H G)).trans r0,(h.cell (p:=⟨w.heap.size,1,none⟩) (Nat.lt_of_lt_of_le H G)).trans r1,(h.cell (p:=⟨b,off+k*2,none⟩) (Nat.lt_of_lt_of_le F G)).trans ((I.cell (p:=⟨b,off+k*2,none⟩) F).trans (n 0 (by omega))),h⟩
   have M:=Lib.hid P;obtain⟨q0,q1,q2,u⟩:=P wr (Below.refl _ _);obtain⟨⟨u1,u2⟩,v1,v2⟩:=HU.out x (List.mem_of_getElem? r);have R:Hid (∀ W,Calls Tryz.prog 156 #[.int .i64 f,.int .i64 x.1] W (BdR f x.1 W)):=fun W=>jes f x.1 ⟨u1,u2⟩ W
   have i1:(k:Int)<(len:Int):=by omega
   have HX:=Lib.hid r;have HC:Hid (c.cell? ⟨b,off+k*2+1,none⟩=some (.int .u64 x.2)):=n 1 (by omega);clear P n r r0 r1;go_wp2_with fail
   go_region_held3 (fun w'=>w'.cell? ⟨w.heap.size,0,none⟩=some (.int .i64 f)/\w'.cell? ⟨w.heap.size,1,none⟩=some (.slice (some ⟨b,off,none⟩) len cap)/\w'.cell? ⟨b,off+k*2,none⟩=some (.int .i64 x.1)/\Bw wr w')
    (first
     | with_reducible exact M.out _ u.drew
     | (go_split_ands;with_reducible refine M.out _ ?_;with_reducible first | exact Below.trans (by assumption) (Below.mono (by assumption) (Below.size (by assumption))) | assumption)
     | go_keep)
    (first | (go_at_call 156;refine (R.out _).mono ?_;rintro e w6 ⟨lo,hi,rfl,-,m⟩))
   rename_i O
   obtain⟨q0,q1,q2,u⟩:=O;have D:Bw c w6:=I.trans (u.mono G);have q3:w6.cell? ⟨b,off+k*2+1,none⟩=some (.int .u64 x.2):=(D.cell (p:=⟨b,off+k*2+1,none⟩) F).trans HC.out;have C:Hid ((x.2==0 || !jao f x.1||decide (x.1<=jd6 l k))=true->bR=false):=fun h=>by rw[Z.out,jq5 HX.out,h];simp
   have A:Hid ((x.2==0 || !jao f x.1||decide (x.1<=jd6 l k))=false->bR=(jaq f&&(jb7 (jbw f) (jd6 l (k+1)) (l.drop (k+1))).isSome)):=fun h=>by rw[Z.out,jq5 HX.out,h];rfl
   clear Z R HC m M
   have d:Hid (jao f x.1=true->0<=x.1):=fun h=>by
    unfold jao at h;split at h
    ·rename_i T
     simp only[Bool.and_eq_true,decide_eq_true_eq] at T;exact T.2
    ·cases h
   generalize jao f x.1=bo at *
   cases bo with
   | false =>
    have E:Hid (bR=false):=C.out (by simp);clear C A;go_wp2_with fail;go_quiet (fail);go_wp2_with fail;go_ret;exact⟨by rw[E.out];rfl,B.out.trans ((bDr D _).mono B.out.size)⟩
   | true =>
    by_cases t:x.2=0
    ·have E:Hid (bR=false):=C.out (by simp[t])
     have v:(x.2==0)=true:=by rw[t];rfl
     clear C A;go_wp2_with fail;go_quiet (fail);go_wp2_with fail;go_ret;exact⟨by rw[E.out];rfl,B.out.trans ((bDr D _).mono B.out.size)⟩
    have v:(x.2==0)=false:=beq_eq_false_iff_ne.2 t;by_cases o:k=0
    ·subst o
     have E:=Lib.hid (A.out (by rw[v];simp[jd6];have:=d.out rfl;omega));simp only[Nat.zero_mul,Nat.add_zero,Int.natCast_zero] at q2 q3 i1 ⊢;have i2:(0:Int)<=0:=by omega
     clear C A;go_wp2_with fail;go_quiet (fail);go_wp2_with fail;go_roundw
     case rel=>exact⟨1,by go_num,by omega,bDr D _,E.out⟩
     case measure=>simp[intOf];omega
    ·obtain⟨j,rfl⟩:∃ j,k=j+1:=⟨k-1,by omega⟩
     obtain⟨y,b',ab,s,S,aa,V⟩:=HL.out.at (j:=j) (by omega);injection S with S
     injection S with S e2
     subst S;subst e2;have q4:w6.cell? ⟨b,off+j*2,none⟩=some (.int .i64 y.1):=(D.cell (p:=⟨b,off+j*2,none⟩) F).trans (V 0 (by omega));have X:jd6 l (j+1)=y.1:=jis s;rw[X] at C A;obtain⟨⟨y1,y2⟩,-,-⟩:=HU.out y (List.mem_of_getElem? s);have i2:(0:Int)<(j:Int)+1:=by omega
     have i3:(j:Int)+1<(len:Int):=by omega
     have i4:(j:Int)<(len:Int):=by omega
     clear V s X;by_cases Y:x.1<=y.1
     ·have z:decide (x.1<=y.1)=true:=decide_eq_true Y
      have E:Hid (bR=false):=C.out (by rw[z];simp);clear C A;go_wp2_with fail;go_quiet (fail);go_wp2_with fail;go_ret;exact⟨by rw[E.out];rfl,B.out.trans ((bDr D _).mono B.out.size)⟩
     ·have z:decide (x.1<=y.1)=false:=decide_eq_false Y
      have E:=Lib.hid (A.out (by rw[z,v];rfl));clear C A;go_wp2_with fail;go_quiet (fail);go_wp2_with fail;go_roundw
      case rel=>exact⟨j+1+1,by go_num,by omega,bDr D _,E.out⟩
      case measure=>simp[intOf];omega
  ·obtain rfl:k=len:=by omega
   have E:Hid (bR=jaq f):=by rw[Hid,Z.out,List.drop_of_length_le (by rw[HN.out];exact Nat.le_refl _)];simp[jgc]
   by_cases h1:0<=f
   ·by_cases T:f<=3
    ·have Q:Hid (bR=true):=by rw[Hid,E.out,L.out,decide_eq_true h1,decide_eq_true T];rfl
     go_wp2_with fail;go_ret;exact⟨by rw[Q.out];rfl,B.out.trans (I.mono B.out.size)⟩
    ·have Q:Hid (bR=false):=by rw[Hid,E.out,L.out,decide_eq_false T,Bool.and_false]
     go_wp2_with fail;go_ret;exact⟨by rw[Q.out];rfl,B.out.trans (I.mono B.out.size)⟩
   ·have Q:Hid (bR=false):=by rw[Hid,E.out,L.out,decide_eq_false h1,Bool.false_and]
    go_wp2_with fail;go_ret;exact⟨by rw[Q.out];rfl,B.out.trans (I.mono B.out.size)⟩
theorem jjg (Q:Int) (Y:Option Addr) (A E:Nat) (O:List (Int × Int)) (R:Int) (Z:Option Addr) (C F:Nat) (P:List (Int × Int)) (w:World) (g:SlE jbO 2 w.heap.size w Y A O) (j:SlE jbO 2 w.heap.size w Z C P) (hm:A<=maxLen) :
  CR 39 #[.agg #[.int .i64 Q,.slice Y A E],.agg #[.int .i64 R,.slice Z C F]] w (.bool (Q==R&&O==P)):=by
 have S:=g.1;have a:=j.1;unfold maxLen at hm;obtain⟨c,aa,T,U,G,ad⟩:=jaI w #[.int .i64 Q,.slice Y A E] 39 #[.int .i64 R,.slice Z C F] 39;have H1:=Lib.hid (g.go G);have H2:=Lib.hid (j.go G);have B:=Lib.hid G;have l:w.heap.size<c.heap.size:=by omega
 have m:w.heap.size+1<c.heap.size:=by omega
 obtain⟨d0,d1⟩:=cl2 T;obtain⟨g0,g1⟩:=cl2 U;clear T U G g j
 cases hr:(Q==R) with
 | false =>
  have t0:(Q != R)=true:=by rw[bne,hr];rfl
  clear hr S a;go_enter Tryz.func39,Tryz.ntmps39;go_wp2_with fail;go_ret;exact⟨rfl,B.out⟩
 | true =>
  have t0:(Q != R)=false:=by rw[bne,hr];rfl
  rw[Bool.true_and];clear hr;by_cases hl:A=C
  ·subst hl
   have t1:((A:Int) != (A:Int))=false:=by simp
   have E1:=Lib.hid S;have E2:=Lib.hid a;clear S a;go_enter Tryz.func39,Tryz.ntmps39;go_wp2_with fail;go_loopw [5] (fun i wr=>∃ (k:Nat),i=.int .i64 k/\k<=A/\Bw c wr/\Hid (O.take k=P.take k)) (fun i _=>A-(intOf i).toNat)
   case atStart=>exact⟨0,rfl,Nat.zero_le _,Below.refl _ _,rfl⟩
   case round =>
    obtain⟨k,rfl,hk,I,s⟩:=hrel;have r0:wr.cell? ⟨w.heap.size,1,none⟩=some (.slice Y A E):=(I.cell (p:=⟨w.heap.size,1,none⟩) l).trans d1;have r1:wr.cell? ⟨w.heap.size+1,1,none⟩=some (.slice Z A F):=(I.cell (p:=⟨w.heap.size+1,1,none⟩) m).trans g1;by_cases V:k<A
    ·obtain⟨x,v,o1,X,d,ab,J⟩:=(H1.out.below I).at V
     obtain⟨y,z,o2,hy,f,ac,L⟩:=(H2.out.below I).at V;subst d;subst f;have p0:wr.cell? ⟨v,o1+k*2,none⟩=some (.int .i64 x.1):=J 0 (by omega);have p1:wr.cell? ⟨v,o1+k*2+1,none⟩=some (.int .u64 x.2):=J 1 (by omega);have q0:wr.cell? ⟨z,o2+k*2,none⟩=some (.int .i64 y.1):=L 0 (by omega);have q1:wr.cell? ⟨z,o2+k*2+1,none⟩=some (.int .u64 y.2):=L 1 (by omega);have i0:(0:Int)<=(k:Int):=by omega
     have i1:(k:Int)<(A:Int):=by omega
     have t:=Lib.hid X;have u:=Lib.hid hy;obtain⟨n,o⟩:=x;obtain⟨q,r⟩:=y;dsimp only at p0 p1 q0 q1;clear J L X hy
     have H:¬ (n=q/\o=r)->(O==P)=false:=fun h=>by
      rw[beq_eq_false_iff_ne];intro e;have X:=t.out;rw[e,u.out] at X;have h3:=Option.some.inj X;injection h3 with h4 h5
      exact h ⟨h4.symm,h5.symm⟩
     have D:=Lib.hid H;clear H;by_cases M:n=q
     ·by_cases N:o=r
      ·subst M;subst N
       clear D;go_wp2_with fail;go_quiet (fail);go_wp2_with fail;go_roundw
       case rel=>exact⟨k+1,by go_num,by omega,bDr I _,by rw[Hid,jai t.out,jai u.out,s.out]⟩
       case measure=>simp[intOf];omega
      ·have b:Hid ((O==P)=false):=D.out (fun h=>N h.2)
       have n2:(o==r)=false:=beq_eq_false_iff_ne.2 N;clear D;go_wp2_with fail;go_quiet (fail);go_wp2_with fail;go_ret;exact⟨by rw[b.out];rfl,B.out.trans ((bDr I _).mono B.out.size)⟩
     ·have b:Hid ((O==P)=false):=D.out (fun h=>M h.1)
      have n1:(n==q)=false:=beq_eq_false_iff_ne.2 M;clear D;go_wp2_with fail;go_quiet (fail);go_wp2_with fail;go_ret;exact⟨by rw[b.out];rfl,B.out.trans ((bDr I _).mono B.out.size)⟩
    ·obtain rfl:k=A:=by omega
     go_wp2_with fail;go_ret;have h9:=s.out;rw[List.take_of_length_le (by rw[<- E1.out];omega),List.take_of_length_le (by rw[<- E2.out];omega)] at h9;exact⟨by rw[h9];simp,B.out.trans (I.mono B.out.size)⟩
  ·have t1:((A:Int) != (C:Int))=true:=by rw[bne_iff_ne];omega
   have H:Hid ((O==P)=false):=by
    rw[Hid,beq_eq_false_iff_ne];intro e;rw[e] at S;omega
   clear S a;go_enter Tryz.func39,Tryz.ntmps39;go_wp2_with fail;go_ret;exact⟨by rw[H.out];rfl,B.out⟩
theorem jaO (k:Int) (w:World):Calls Tryz.prog 117 #[.int .i64 k] w fun e w'=>e=.returned (.int .i64 (jaF k))/\w=w':=by
 cases A:(k==1) with
 | true =>
  go_enter Tryz.func117,Tryz.ntmps117;go_wp2;go_ret;exact⟨by simp[jaF,A],rfl⟩
 | false =>
  cases B:(k==2) with
  | true =>
   go_enter Tryz.func117,Tryz.ntmps117;go_wp2;go_ret;exact⟨by simp[jaF,A,B],rfl⟩
  | false =>
   cases C:(k==3) with
   | true =>
    go_enter Tryz.func117,Tryz.ntmps117;go_wp2;go_ret;exact⟨by simp[jaF,A,B,C],rfl⟩
   | false =>
    go_enter Tryz.func117,Tryz.ntmps117;go_wp2;go_ret;exact⟨by simp[jaF,A,B,C],rfl⟩
theorem ja3 (x y:Sk) (s t:SS) (w:World) (k:s.At w.heap.size w x) (l:t.At w.heap.size w y) :
  CR 13 #[.agg #[.int .i64 x.kind,.int .i64 x.level,.slice s.ea s.el s.ec,.int .i64 x.hb,.string x.hr,.int .i64 x.cr,.int .i64 x.cc,.slice s.ca s.cl s.cc,.int .i64 x.gf,.slice s.ga s.gl s.gc],.agg #[.int .i64 y.kind,.int .i64 y.level,.slice t.ea t.el t.ec,.int .i64 y.hb,.string y.hr,.int .i64 y.cr,.int .i64 y.cc,.slice t.ca t.cl t.cc,.int .i64 y.gf,.slice t.ga t.gl t.gc]] w (.bool (jaw x y)):=by
 obtain⟨m,f,A,B,N,aa⟩:=jaI w #[.int .i64 x.kind,.int .i64 x.level,.slice s.ea s.el s.ec,.int .i64 x.hb,.string x.hr,.int .i64 x.cr,.int .i64 x.cc,.slice s.ca s.cl s.cc,.int .i64 x.gf,.slice s.ga s.gl s.gc] 41 #[.int .i64 y.kind,.int .i64 y.level,.slice t.ea t.el t.ec,.int .i64 y.hb,.string y.hr,.int .i64 y.cr,.int .i64 y.cc,.slice t.ca t.cl t.cc,.int .i64 y.gf,.slice t.ga t.gl t.gc] 41;have J:=Lib.hid N;have Y:=Lib.hid A;have Z:=Lib.hid B;obtain⟨n,o,p,q,r,u,v,z,c8,c9⟩:=jam A;obtain⟨d0,d1,d2,d3,d4,d5,d6,d7,d8,d9⟩:=jam B;have V:=jqM x.hb y.hb x.hr y.hr;have n2:=juW;have S:=k.go N;have a:=l.go N;clear k l A B N;have b:=Lib.hid (jd8 s.ea s.el s.ec x.e t.ea t.el t.ec y.e m S.e.1 a.e.1 (Nat.le_trans S.e.2.1 S.e.2.2.1));have G:=Lib.hid (And.intro S a);clear S a
 cases i:(x.kind==y.kind) with
 | false =>
  have E:Hid (jaw x y=false):=by simp[Hid,jaw,i]
  clear V;go_enter Tryz.func13,Tryz.ntmps13;go_wp2_with fail;go_ret;exact⟨by rw[E.out];rfl,J.out⟩
 | true =>
 cases j:(x.level==y.level) with
 | false =>
  have E:Hid (jaw x y=false):=by simp[Hid,jaw,j]
  clear V;go_enter Tryz.func13,Tryz.ntmps13;go_wp2_with fail;go_ret;exact⟨by rw[E.out];rfl,J.out⟩
 | true =>
 have E:Hid (jaw x y=((x.hb==y.hb&&x.hr.toList==y.hr.toList)&&x.e==y.e&&(x.cr==y.cr&&x.cc==y.cc&&x.cl==y.cl)&&(x.gf==y.gf&&x.gl==y.gl))):=by simp only[Hid,jaw,i,j,Bool.true_and]
 generalize hh:(x.hb==y.hb&&x.hr.toList==y.hr.toList)=bh at E V;generalize he:(x.e==y.e)=be at E b;clear hh he;go_enter Tryz.func13,Tryz.ntmps13;go_wp2_with fail;refine b.out.mono ?_;rintro e w1 ⟨rfl,C⟩;have H:=jab C (Nat.le_refl _) Y.out;have I:=jab C (Nat.le_refl _) Z.out;obtain⟨p0,p1,p2,p3,p4,p5,p6,p7,p8,p9⟩:=jam H;obtain⟨q0,q1,q2,q3,q4,q5,q6,q7,q8,q9⟩:=jam I;have F:=G.out.1.go C;have P:=G.out.2.go C;have U:=Lib.hid (jje x.cr x.cc s.ca s.cl s.cc x.cl y.cr y.cc t.ca t.cl t.cc y.cl w1 F.c.1 P.c.1 (Nat.le_trans F.c.2.1 F.c.2.2.1));have X:=Lib.hid (And.intro F P);have Q:=Lib.hid H;have R:=Lib.hid I;have L:=Lib.hid (J.out.trans (C.mono J.out.size));clear f b n o p q r u v z c8 c9 d0 d1 d2 d3 d4 d5 d6 d7 d8 d9 F P G H I C
 cases be with
 | false =>
  clear U V;go_wp2_with fail;go_ret;exact⟨by rw[E.out];simp,L.out⟩
 | true =>
 cases bh with
 | false =>
  clear U;go_wp2_with fail;go_ret;exact⟨by rw[E.out];simp,L.out⟩
 | true =>
 generalize hc:(x.cr==y.cr&&x.cc==y.cc&&x.cl==y.cl)=bc at E U;clear hc;go_wp2_with fail;refine U.out.mono ?_;rintro e w2 ⟨rfl,D⟩;have A:=jab D (Nat.le_refl _) Q.out;have B:=jab D (Nat.le_refl _) R.out;obtain⟨r0,r1,r2,r3,r4,r5,r6,r7,r8,r9⟩:=jam A;obtain⟨u0,u1,u2,u3,u4,u5,u6,u7,u8,u9⟩:=jam B;have M:=X.out.1.go D;have T:=X.out.2.go D;have d:=Lib.hid (jjg x.gf s.ga s.gl s.gc x.gl y.gf t.ga t.gl t.gc y.gl w2 M.g.1 T.g.1 (Nat.le_trans M.g.2.1 M.g.2.2.1));have O:=Lib.hid (L.out.trans (D.mono L.out.size));clear U p0 p1 p2 p3 p4 p5 p6 p7 p8 p9 q0 q1 q2 q3 q4 q5 q6 q7 q8 q9 M T X A B D
 cases bc with
 | false =>
  clear d;go_wp2_with fail;go_ret;exact⟨by rw[E.out];simp,O.out⟩
 | true =>
 go_wp2_with fail;refine d.out.mono ?_;rintro e w3 ⟨rfl,h⟩;clear d;go_wp2_with fail;go_ret;exact⟨by rw[E.out];simp,O.out.trans (h.mono O.out.size)⟩
end Go.Proofs.YtafhpamnegmilaaGreatDoor
