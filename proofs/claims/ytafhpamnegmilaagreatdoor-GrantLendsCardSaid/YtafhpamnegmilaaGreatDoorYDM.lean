/- The reference of layer 6: put, Of, Add, Merge, Count, at lists that are right. The reference of layer 6: Add, Merge, Count, at right lists. Printed by gen_db.py. The reference of layer 10: Add, at any sketch. Printed by gen_dm.py. -/
import Derived.Test.YtafhpamnegmilaaGreatDoorYDL
set_option maxHeartbeats 4000000
set_option maxRecDepth 100000
namespace Go.Proofs.YtafhpamnegmilaaGreatDoor
open Go Go.RowKit Go.Shelf
section
theorem juI (a:Option Addr) (len cap m:Nat) (w:World) (h:m<=cap):(Instr.slice 30 (.slice a len cap) none (some (.int .i64 (m:Int))) none).run Tryz.prog w=.ok (.slice a m cap) w:=by
 have B:=jfd a cap 1;unfold jef at B;have C:(sizeOf 48).run Tryz.prog w=.ok 1 w:=by kernel_rfl
 have A:Tryz.prog.elem 30=48:=by kernel_rfl
 rw[run_slice_h (t:=30) (a:=a) (len:=len) (cap:=cap) (w:=w) (ht:=by rw[A];exact jbs) (kh:=.i64) (h:=(m:Int)) (by omega) (by omega),A,C];simp only[Result.andThen,sliced,Int.toNat_natCast,Nat.sub_zero,B]
def jn6 (m:List Int) (w:World) (e:Ending) (w':World):Prop:=∃ a cap,e=.returned (.slice a m.length cap)/\SlC jaG 1 w'.heap.size w' a m.length cap m/\Bw w w'
theorem jrd {x n:Int} {r:List Int} (h:x<n):jff (x::r) n=x::jff r n:=by simp[jff,h]
theorem jvH {x n:Int} {r:List Int} (h:¬ x<n) (A:x≠n):jff (x::r) n=n::x::r:=by simp[jff,h,A]
attribute [-go_sem] Builtin.append_ run_slice_any run_slice_h run_slice_l
theorem jkJ (n:Int) (l:List Int) (a:Option Addr) (len cap:Nat) (w:World) (h:SlC jaG 1 w.heap.size w a len cap l) (Y:len<=1000) :
  Calls Tryz.prog 164 #[.slice a len cap,.int .u64 n] w (jn6 (jff l n) w):=by
 have Z:=h.1.1;have HL:=Lib.hid h;have D:=Lib.hid Z;have aa:len<=cap:=h.2.1;clear h Z;obtain⟨R,q⟩:∃ R,jff l n=R:=⟨_,rfl⟩;have HR:=Lib.hid q;rw[q];clear q;go_enter Tryz.func164,Tryz.ntmps164;go_wp2_with fail;go_loopw [5] (fun i wr=>∃ k:Nat,i=.int .i64 k/\k<=len/\Hid (R=l.take k++jff (l.drop k) n)/\Bw w wr) (fun i _=>len-(intOf i).toNat)
 case atStart=>exact⟨0,rfl,Nat.zero_le _,by rw[Hid,List.take_zero,List.drop_zero,List.nil_append,HR.out],Below.refl _ _⟩
 case round =>
  obtain⟨k,rfl,X,f,g⟩:=hrel;have S:=Lib.hid g;have C:=Lib.hid (HL.out.go g);have ad:=fun W=>juI a len cap k W (by omega)
  have t:=fun W=>joh a len cap k W X
  have i0:(0:Int)<=(k:Int):=by omega
  have ab:=Lib.hid Y;by_cases u:k<len
  ·obtain⟨x,j⟩:∃ x,l[k]? = some x:=⟨_,List.getElem?_eq_getElem (by rw[<- D.out];exact u)⟩
   obtain⟨b,off,rfl,ac,hc⟩:=C.out.1.2 k x j
   have c0:wr.cell? ⟨b,off+k,none⟩=some (.int .u64 x):=by
    have M:=hc 0 (by omega);simp only[Nat.mul_one,Nat.add_zero] at M;exact M
   have i1:(k:Int)<(len:Int):=by omega
   have e:=Lib.hid (jat j);have HX:=Lib.hid j;clear hc j g;by_cases c:x<n
   ·have HS:Hid (R=l.take (k+1)++jff (l.drop (k+1)) n):=by
     rw[Hid,f.out,e.out,jrd c,jai HX.out,List.append_assoc];rfl
    go_wp2_with fail;go_roundw
    case rel=>exact⟨k+1,by go_num,by omega,HS.out,S.out⟩
    case measure=>simp[intOf];omega
   ·by_cases J:x=n
    ·have T:Hid (R=l):=by
      rw[Hid,f.out,e.out,J]
      conv=>rhs;rw[<- List.take_append_drop k l,e.out,J]
      simp[jff]
     subst J;go_wp2_with fail;go_ret;rw[T.out];unfold jn6;rw[<- D.out];exact⟨_,cap,rfl,C.out,S.out⟩
    ·have T:Hid (R=l.take k++n::l.drop k):=by rw[Hid,f.out,e.out,jvH c J]
     have t1:(x==n)=false:=by rw[beq_eq_false_iff_ne];exact J
     obtain⟨v1,z,U,B,F,L,-,-⟩:=jaE Tryz.prog (cap:=cap) 30 jbs jbF rfl (by decide) (World.ownsRow_nil wr wr.heap.size 48 1) (Below.refl wr.heap.size wr) (Nat.le_refl _) (Nat.le_refl _) (fun _=>rfl) (C.out.take k X).1 jen (by omega) (by omega) (by decide);rw[List.nil_append,Nat.zero_add] at B;obtain⟨g2,c2,w2,V,H,A,Q,-,-⟩:=jaL Tryz.prog 30 jbs jbF rfl (by decide) (W:=z) B F (Nat.le_refl _) L [.int .u64 n] rfl (by simp[Value.oneCell']) (by omega) (by decide);obtain⟨v3,d,N,I,G,y,-,-⟩:=jaE Tryz.prog (cap:=cap-k) 30 jbs jbF rfl (by decide) H A (Nat.le_refl _) (Nat.le_of_lt (Nat.lt_of_le_of_lt L Q)) (fun _=>rfl) (((C.out.below A).mono A.size).drop k X).1 jen (by omega) (by omega) (by decide);have P:Hid (d.ownsRow wr.heap.size 48 1 v3 (k+1+(len-k)) (((l.take k).flatMap jaG++[n].flatMap jaG)++(l.drop k).flatMap jaG)):=I;have O:=Lib.hid G;clear B H I F A G;go_wp2_with fail;go_ret
     have p:d.ownsRow wr.heap.size 48 1 v3 (l.take k++n::l.drop k).length ((l.take k++n::l.drop k).flatMap jaG):=by
      have M:=P.out;rw[<- List.flatMap_append,<- List.flatMap_append,List.append_assoc,List.singleton_append] at M
      have o:(l.take k++n::l.drop k).length=k+1+(len-k):=by
       have:=D.out;rw[List.length_append,List.length_take,List.length_cons,List.length_drop];omega
      rw[o];exact M
     obtain⟨m,E,v,r,s⟩:=jaz (enc:=jaG) (fun _=>rfl) p;rw[T.out];exact⟨m,E,by rw[<- v];rfl,r,S.out.trans (O.out.mono S.out.size)⟩
  ·obtain rfl:k=len:=by omega
   have T:Hid (R=l.take k++n::l.drop k):=by
    rw[Hid,f.out,List.drop_of_length_le (by rw[<- D.out];exact Nat.le_refl _)];rfl
   clear g;obtain⟨v1,z,U,B,F,L,-,-⟩:=jaE Tryz.prog (cap:=cap) 30 jbs jbF rfl (by decide) (World.ownsRow_nil wr wr.heap.size 48 1) (Below.refl wr.heap.size wr) (Nat.le_refl _) (Nat.le_refl _) (fun _=>rfl) (C.out.take k X).1 jen (by omega) (by omega) (by decide);rw[List.nil_append,Nat.zero_add] at B;obtain⟨g2,c2,w2,V,H,A,Q,-,-⟩:=jaL Tryz.prog 30 jbs jbF rfl (by decide) (W:=z) B F (Nat.le_refl _) L [.int .u64 n] rfl (by simp[Value.oneCell']) (by omega) (by decide);obtain⟨v3,d,N,I,G,y,-,-⟩:=jaE Tryz.prog (cap:=cap-k) 30 jbs jbF rfl (by decide) H A (Nat.le_refl _) (Nat.le_of_lt (Nat.lt_of_le_of_lt L Q)) (fun _=>rfl) (((C.out.below A).mono A.size).drop k X).1 jen (by omega) (by omega) (by decide);have P:Hid (d.ownsRow wr.heap.size 48 1 v3 (k+1+(k-k)) (((l.take k).flatMap jaG++[n].flatMap jaG)++(l.drop k).flatMap jaG)):=I;have O:=Lib.hid G;clear B H I F A G;simp only[Nat.sub_self] at N t;go_wp2_with fail;go_ret
   have p:d.ownsRow wr.heap.size 48 1 v3 (l.take k++n::l.drop k).length ((l.take k++n::l.drop k).flatMap jaG):=by
    have M:=P.out;rw[<- List.flatMap_append,<- List.flatMap_append,List.append_assoc,List.singleton_append] at M
    have o:(l.take k++n::l.drop k).length=k+1+(k-k):=by
     have:=D.out;rw[List.length_append,List.length_take,List.length_cons,List.length_drop];omega
    rw[o];exact M
   obtain⟨m,E,v,r,s⟩:=jaz (enc:=jaG) (fun _=>rfl) p;rw[T.out];exact⟨m,E,by rw[<- v];rfl,r,S.out.trans (O.out.mono S.out.size)⟩
def jbt (l:List Int):List Int:=l.foldl jff []
theorem jnc (l:List Int) (x:Int):jbt (l++[x])=jff (jbt l) x:=by unfold jbt;rw[List.foldl_append];rfl
theorem jpk (l:List Int):(jbt l).length<=l.length:=by
 unfold jbt
 have h:∀ (l m:List Int),(l.foldl jff m).length<=m.length+l.length:=by
  intro l
  induction l with
  | nil=>intro m;simp
  | cons x l ih =>
   intro m;have A:=ih (jff m x);have B:=(jom m x).1;simp only[List.foldl_cons,List.length_cons];omega
 simpa using h l []
def jjZ (m:List Int) (w:World) (e:Ending) (w':World):Prop:=((64<m.length/\e=.returned (.tuple #[.agg #[.slice none 0 0],.int .i64 60]))\/(¬ 64<m.length/\∃ a cap,e=.returned (.tuple #[.agg #[.slice a m.length cap],.int .i64 0])/\SlC jaG 1 w'.heap.size w' a m.length cap m))/\Bw w w'
theorem jmg (l:List Int) (a:Option Addr) (len cap:Nat) (w:World) (q:SlC jaG 1 w.heap.size w a len cap l) (aa:len<=900) :
  Calls Tryz.prog 132 #[.slice a len cap] w (jjZ (jbt l) w):=by
 have T:=q.1.1;obtain⟨Y,ab,Q,H,ae⟩:=jaf w #[.slice none 0 0] 32;have HL:=Lib.hid (q.go H);have L:=Lib.hid T;have n:=Lib.hid Q;have D:=Lib.hid H;obtain⟨R,r⟩:∃ R,jbt l=R:=⟨_,rfl⟩;have HR:=Lib.hid r;rw[r];clear r q T Q H;go_enter Tryz.func132,Tryz.ntmps132;go_wp2_with fail;go_loopw [4,5] (fun o i wr=>∃ (k:Nat) (F:Option Addr) (C G:Nat),i=.int .i64 k/\k<=len/\o=.slice F C G/\C<=k/\Hid (C=(jbt (l.take k)).length)/\Hid (SlC jaG 1 wr.heap.size wr F C G (jbt (l.take k)))/\Bw Y wr) (fun _ i _=>len-(intOf i).toNat)
 case atStart=>exact⟨0,none,0,0,rfl,Nat.zero_le _,rfl,Nat.le_refl _,rfl,SlC.nil,Below.refl _ _⟩
 case round =>
  obtain⟨k,F,C,G,rfl,hk,rfl,ad,B,f,J⟩:=hrel;have X:=Lib.hid J;have i0:(0:Int)<=(k:Int):=by omega
  by_cases y:k<len
  ·obtain⟨x,z⟩:∃ x,l[k]? = some x:=⟨_,List.getElem?_eq_getElem (by rw[<- L.out];exact y)⟩
   obtain⟨b,off,rfl,ac,hc⟩:=(HL.out.go J).1.2 k x z
   have c0:wr.cell? ⟨b,off+k,none⟩=some (.int .u64 x):=by
    have h1:=hc 0 (by omega);simp only[Nat.mul_one,Nat.add_zero] at h1;exact h1
   have i1:(k:Int)<(len:Int):=by omega
   have HP:=Lib.hid (jkJ x (jbt (l.take k)) F C G wr f.out (by omega));have g:Hid (jbt (l.take (k+1))=jff (jbt (l.take k)) x):=by rw[Hid,jai z,jnc]
   have c:Hid ((jbt (l.take (k+1))).length<=k+1):=by have:=jpk (l.take (k+1));rw[List.length_take] at this;rw[Hid];omega
   clear hc z J;go_wp2_with fail;refine HP.out.mono ?_;rintro e w2 ⟨pa,pc,rfl,O,t⟩;have S:(jff (jbt (l.take k)) x).length<=k+1:=by rw[<- g.out];exact c.out
   obtain⟨U,E⟩:∃ U,(jff (jbt (l.take k)) x).length=U:=⟨_,rfl⟩;have d:Hid (U=(jbt (l.take (k+1))).length):=by rw[Hid,g.out];exact E.symm
   have j:Hid (SlC jaG 1 w2.heap.size w2 pa U pc (jbt (l.take (k+1)))):=by rw[Hid,g.out,<- E];exact O
   rw[E] at S ⊢;clear O E HP;go_wp2_with fail;go_roundw
   case rel=>exact⟨k+1,pa,U,pc,by go_num,by omega,rfl,S,d.out,j.out,X.out.trans (t.mono X.out.size)⟩
   case measure=>simp[intOf];omega
  ·obtain rfl:k=len:=by omega
   have HF:Hid (jbt (l.take k)=R):=by rw[Hid,List.take_of_length_le (by rw[L.out];exact Nat.le_refl _)];exact HR.out
   rw[HF.out] at f B;have I:=jab J (Nat.le_refl _) n.out;have r0:=cCc I 0;have f0:=cFz I 0;simp at r0;have hz:w.heap.size<Y.heap.size:=by omega
   by_cases M:64<C
   ·have e1:Y.heap.size=Y.heap.size:=rfl
    have d0:wr.setCell ⟨w.heap.size,0,none⟩ (.slice none 0 0)=wr:=jaa I rfl;have A:Hid (64<R.length):=by rw[Hid,<- B.out];exact M
    clear I J e1;go_wp2_with fail;refine bodyPost_ret (v:=.tuple #[.agg #[.slice none 0 0],.int .i64 60]) (by simp[results,Tryz.f132,go_sem,r0]) rfl ⟨.inl ⟨A.out,rfl⟩,D.out.trans (X.out.mono D.out.size)⟩
   ·obtain⟨V,s⟩:∃ V,wr.setCell ⟨w.heap.size,0,none⟩ (.slice F C G)=V:=⟨_,rfl⟩
    have P:V.heap[w.heap.size]? = some (.cells #[.slice F C G] 32 (0,0)):=by rw[<- s];exact hSk I _
    have o0:=cCc P 0;simp at o0;have A:Hid (¬ 64<R.length):=by rw[Hid,<- B.out];exact M
    have N:OnlyAt w.heap.size wr V:=by rw[<- s];exact (OnlyAt.refl _ _).set _ _
    have m:Hid (SlC jaG 1 V.heap.size V F C G R):=jaW (i0:=0) (by decide) (fun x=>⟨x,rfl⟩) I (fun i u h=>by rcases i with _ | i<;>simp at h) N f.out;have Z:Hid (Bw w V):=by rw[Hid,<- s];exact (D.out.trans (X.out.mono D.out.size)).setCell (p:=⟨w.heap.size,0,none⟩) (Nat.le_refl _) _
    clear I J P N;go_wp2_with fail;refine bodyPost_ret (v:=.tuple #[.agg #[.slice F C G],.int .i64 0]) (by simp[results,Tryz.f132,go_sem,o0]) rfl ⟨.inr ⟨A.out,F,G,?_,?_⟩,Z.out⟩
    ·rw[B.out]
    ·rw[<- B.out];exact m.out
end
section
theorem jjC (l:List Int) (y:Int):y∈jbt l↔y∈l:=by
 unfold jbt
 have h:∀ (l m:List Int),y∈l.foldl jff m↔y∈m\/y∈l:=by
  intro l
  induction l with
  | nil=>intro m;simp
  | cons x l ih =>
   intro m;rw[List.foldl_cons,ih,jfg,List.mem_cons];constructor
   ·rintro ((h | h) | h)
    ·exact .inr (.inl h)
    ·exact .inl h
    ·exact .inr (.inr h)
   ·rintro (h | h | h)
    ·exact .inl (.inr h)
    ·exact .inl (.inl h)
    ·exact .inr h
 simpa using h l []
theorem jlL (l:List Int):Up (jbt l):=by
 unfold jbt
 have h:∀ (l m:List Int),Up m->Up (l.foldl jff m):=by
  intro l
  induction l with
  | nil=>intro m h;exact h
  | cons x l ih=>intro m h;exact ih _ (jgF m x h)
 exact h l [] List.Pairwise.nil
theorem jkq {l m:List Int} (A:Up l) (B:l.length<=64):match jan l m with
  | some q=>jbt (l++m)=q/\¬ 64<(jbt (l++m)).length
  | none=>64<(jbt (l++m)).length:=by
 cases h:jan l m with
 | some q =>
  obtain⟨D,F,E⟩:=jfB m l q A B h;have e:jbt (l++m)=q:=jvc _ _ (jlL _) D (fun y=>by rw[jjC,E,List.mem_append]);exact⟨e,by rw[e];omega⟩
 | none=>exact jh6 m l A h _ (jlL _) (fun y C=>by rw[jjC,List.mem_append];exact C)
def jbU (r:Option (List Int)) (w:World) (e:Ending) (w':World):Prop:=(match r with
  | some q=>∃ a cap,e=.returned (.tuple #[.agg #[.slice a q.length cap],.int .i64 0])/\SlC jaG 1 w'.heap.size w' a q.length cap q
  | none=>e=.returned (.tuple #[.agg #[.slice none 0 0],.int .i64 60]))/\Bw w w'
theorem jtI {l m:List Int} (I:Up l) (H:l.length<=64) {w w':World} {e:Ending} (h:jjZ (jbt (l++m)) w e w'):jbU (jan l m) w e w':=by
 obtain⟨A,G⟩:=h;have B:=jkq (m:=m) I H;refine⟨?_,G⟩
 cases D:jan l m with
 | some q =>
  rw[D] at B;obtain⟨E,F⟩:=B;rcases A with⟨A,-⟩ | ⟨-,a,cap,A,C⟩
  ·exact absurd A F
  ·rw[E] at A C
   exact⟨a,cap,A,C⟩
 | none =>
  rw[D] at B;rcases A with⟨-,A⟩ | ⟨A,-⟩
  ·exact A
  ·exact absurd B A
attribute [-go_sem] Builtin.append_
theorem jlC {q:Option (List Int)} {w N D:World} {e:Ending} {rb:Nat} (h:jbU q N e D) (F:D.heap[rb]? = some (.cells #[.slice none 0 0] 32 (0,0))) (L:Bw w D) (M:w.heap.size<=rb) :
  ∃ A E B G V,e=.returned (.tuple #[.agg #[.slice A E B],.int .i64 G])/\D.setCell ⟨rb,0,none⟩ (.slice A E B)=V/\V.cell? ⟨rb,0,none⟩=some (.slice A E B)/\jbU q w (.returned (.tuple #[.agg #[.slice A E B],.int .i64 G])) V:=by
 obtain⟨H,-⟩:=h;have C:∀ v,Bw w (D.setCell ⟨rb,0,none⟩ v):=fun v=>L.setCell (p:=⟨rb,0,none⟩) M v
 cases q with
 | none=>exact⟨none,0,0,60,_,H,rfl,cCc (hSk F _) 0,rfl,C _⟩
 | some q =>
  obtain⟨A,B,I,J⟩:=H;refine⟨A,q.length,B,0,_,I,rfl,cCc (hSk F _) 0,⟨A,B,rfl,?_⟩,C _⟩;exact jaW (i0:=0) (by decide) (fun x=>⟨x,rfl⟩) F (fun i u h=>by rcases i with _ | i<;>simp at h) ((OnlyAt.refl _ _).set _ _) J
theorem jeQ (l m:List Int) (p:Option Addr) (len cap:Nat) (q:Option Addr) (B A:Nat) (w:World) (hL:SlC jaG 1 w.heap.size w p len cap l) (hM:SlC jaG 1 w.heap.size w q B A m) (hR:jaH l=true) (P:jaH m=true) (hU:jc8 l) (i:jc8 m) :
  Calls Tryz.prog 79 #[.agg #[.slice p len cap],.agg #[.slice q B A]] w (jbU (jan l m) w):=by
 obtain⟨y,c⟩:=jcE l hR;obtain⟨-,d⟩:=jcE m P;have ac:Hid (∀ w e w',jjZ (jbt (l++m)) w e w'->jbU (jan l m) w e w'):=fun w e w' h=>jtI y c h
 have t:=hL.1.1;have u:=hM.1.1;obtain⟨W0,ak,R,n,k,D,x⟩:=jbJ w #[.slice p len cap] 32 #[.slice q B A] 32 #[.slice none 0 0] 32;have Q:=jdv p len cap l W0 (hL.go D).1 (by unfold maxLen;omega) hU;rw[hR] at Q
 have Z:Hid (∀ W,Bw W0 W->CR 118 #[.agg #[.slice q B A]] W (.bool true)):=fun W hb=>by
  have h:=jdv q B A m W ((hM.go D).go hb).1 (by unfold maxLen;omega) i;rw[P] at h;exact h
 have HL:=Lib.hid (hL.go D);have HM:=Lib.hid (hM.go D);have L:=Lib.hid t;have M:=Lib.hid u;have ad:=Lib.hid R;have b:=Lib.hid n;have ae:=Lib.hid k;have X:=Lib.hid D;have aj:Hid (W0.heap.size=w.heap.size+3):=x;have ag:len<=64:=by omega
 have ah:B<=64:=by omega
 have c0:W0.cell? ⟨w.heap.size,0,none⟩=some (.slice p len cap):=cCc R 0;clear R n k D hL hM t u hR P hU i y c d x;go_enter Tryz.func79,Tryz.ntmps79;go_wp2_with fail;refine Q.mono ?_;rintro e w1 ⟨rfl,H⟩;have o:=jab H (Nat.le_refl _) b.out;have y0:w1.cell? ⟨w.heap.size+1,0,none⟩=some (.slice q B A):=cCc o 0;have J:=Z.out w1 H;have Y:=Lib.hid H;clear o H c0;go_wp2_with fail;refine J.mono ?_;rintro e U ⟨rfl,s⟩;have C:=(Y.out.trans (s.mono Y.out.size)).drew;have j:=jab C (Nat.le_refl _) ad.out;have S:=jab C (Nat.le_refl _) b.out;have d0:U.cell? ⟨w.heap.size,0,none⟩=some (.slice p len cap):=cCc j 0;have z0:U.cell? ⟨w.heap.size+1,0,none⟩=some (.slice q B A):=cCc S 0;obtain⟨v3,w3,ai,N,F,z,-,-⟩:=jaE Tryz.prog (cap:=cap) 30 jbs jbF rfl (by decide) (World.ownsRow_nil U.drew U.drew.heap.size 48 1) (Below.refl U.drew.heap.size U.drew) (Nat.le_refl _) (Nat.le_refl _) (fun _=>rfl) (HL.out.go C).1 jen (by omega) (by omega) (by decide);rw[List.nil_append,Nat.zero_add] at N;have z3:w3.cell? ⟨w.heap.size+1,0,none⟩=some (.slice q B A):=cCc (jab F (Nat.le_refl _) S) 0;obtain⟨v4,w4,r,g,f,al,-,-⟩:=jaE Tryz.prog (cap:=A) 30 jbs jbF rfl (by decide) N F (Nat.le_refl _) z (fun _=>rfl) (((HM.out.go C).below F).mono z).1 jen (by omega) (by omega) (by decide)
 have hO:w4.ownsRow U.drew.heap.size 48 1 v4 (l++m).length ((l++m).flatMap jaG):=by
  rw[List.length_append,List.flatMap_append,<- L.out,<- M.out];exact g
 obtain⟨a',af,hv,hS,-⟩:=jaz (enc:=jaG) (fun _=>rfl) hO;subst hv;have O:=jmg (l++m) _ _ _ w4 hS (by have:=L.out;have:=M.out;rw[List.length_append];omega);rw[List.length_append,<- L.out,<- M.out] at O r;have aa:=Lib.hid O;have E:=C.trans (f.mono C.size);have a:=Lib.hid (jab E (Nat.le_refl _) ae.out);have I:Hid (Bw w w4):=X.out.trans (E.mono X.out.size);clear j S N F g f hO hS O E C Q J y0 s;go_wp2_with fail;refine wp_region_any (by kernel_rfl) ?_;change wpAny _ _ _ _ _ _ _ (World.drew _)
 ·
  refine ta 0 ?_;refine ta 1 ?_;refine ta 4 ?_;refine rd [2,5] (.cons rfl (fun K hK=>?_) (.cons rfl (fun K hK=>?_) .nil))
  all_goals go_simp
  all_goals (refine hK _ _ ?_;clear hK K)
  all_goals first
   | (refine rq [3,5] (.cons rfl (fun K hK=>?_) (.cons rfl (fun K hK=>?_) .nil)))
   | (refine rq [2] (.cons rfl (fun K hK=>?_) .nil))
  all_goals go_simp
  all_goals (refine hK _ _ ?_;clear hK K)
  all_goals first
   | (refine rq [5] (.cons rfl (fun K hK=>?_) .nil))
   | (refine rq [3] (.cons rfl (fun K hK=>?_) .nil))
  all_goals go_simp
  all_goals (refine hK _ _ ?_;clear hK K)
  all_goals (refine rd [6] (.cons rfl (fun K hK=>?_) .nil))
  all_goals go_simp
  all_goals (refine hK _ _ ?_;clear hK K)
  all_goals (refine rd [7] (.cons rfl (fun K hK=>?_) .nil))
  all_goals go_simp
  all_goals
   refine aa.out.mono ?_;intro e w5 h5;have T:=h5.2;have G:=jab T (Nat.le_refl _) a.out;have f0:w5.frozen? ⟨w.heap.size+2,0,none⟩=false:=cFz G 0;have r0:w5.cell? ⟨w.heap.size+2,0,none⟩=some (.slice none 0 0):=cCc G 0;obtain⟨qa,ql,qc,ev,V,rfl,hV,o0,hP⟩:=jlC (w:=w) (ac.out _ _ _ h5) G (I.out.trans (T.mono I.out.size)) (by omega);have ab:=Lib.hid hP;clear G T hP h5;refine hK _ _ ?_;clear hK K
  all_goals (refine ta 8 ?_;refine ta 9 ?_;refine rd [10] (.cons rfl (fun K hK=>?_) .nil))
  all_goals go_simp
  all_goals (refine hK _ _ ?_;clear hK K)
  all_goals (refine rd [11] (.cons rfl (fun K hK=>?_) .nil))
  all_goals go_simp
  all_goals (refine hK _ _ ?_;clear hK K)
  all_goals (refine wpAny_done (by kernel_rfl) ?_ _)
  all_goals
   go_wp2_with fail;exact bodyPost_ret (v:=.tuple #[.agg #[.slice qa ql qc],.int .i64 ev]) (by simp[results,Tryz.f79,go_sem,o0]) rfl ab.out
end
theorem jrG {k L:Nat} {B:Bd} (C:B.Ok k L):jc8 (jbu k L B).e/\I64 (jbu k L B).cc/\jsG (jbu k L B).gl:=by
 have A:I64 0:=by unfold I64;omega
 have D:jc8 []:=fun _ h=>by cases h
 have E:jsG []:=fun _ h=>by cases h
 cases B with
 | num l=>exact⟨C.2.2.2.2,A,E⟩
 | reg b r=>exact⟨D,A,E⟩
 | cnt c l =>
  obtain⟨-,F,G,-,-⟩:=C;refine⟨D,?_,E⟩;show I64 (c:Int)
  have:c<=32:=by
   have:=Nat.le_mul_of_pos_right c (Nat.two_pow_pos L);omega
  unfold I64;omega
 | bkt f l =>
  obtain⟨-,F,G,H,I,J,M⟩:=C;exact⟨D,A,(BkR.mk (by omega) H I J M:BkR f l).b⟩
theorem jaS {k L:Nat} {B:Bd} (A:B.Ok k L) {x:Sk} (G:x=jbu k L B) {s:SS} {w:World} (F:s.At w.heap.size w x) :
  CR 65 #[.agg #[.int .i64 x.kind,.int .i64 x.level,.slice s.ea s.el s.ec,.int .i64 x.hb,.string x.hr,.int .i64 x.cr,.int .i64 x.cc,.slice s.ca s.cl s.cc,.int .i64 x.gf,.slice s.ga s.gl s.gc]] w (.bool true):=by
 subst G;obtain⟨C,D,E⟩:=jrG A;have:=jaU _ s w F C D E;rw[jgV A] at this;exact this
end Go.Proofs.YtafhpamnegmilaaGreatDoor
