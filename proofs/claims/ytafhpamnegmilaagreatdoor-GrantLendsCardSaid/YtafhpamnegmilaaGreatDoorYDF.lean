/- The reference of layer 9: put. Printed by gen_df.py. -/
import Derived.Test.YtafhpamnegmilaaGreatDoorYFB
set_option maxHeartbeats 4000000
set_option maxRecDepth 100000
namespace Go.Proofs.YtafhpamnegmilaaGreatDoor
open Go Go.RowKit Go.Shelf
section
theorem juH (a:Option Addr) (len cap m:Nat) (w:World) (h:m<=cap):(Instr.slice 37 (.slice a len cap) none (some (.int .i64 (m:Int))) none).run Tryz.prog w=.ok (.slice a m cap) w:=by
 have B:=jfd a cap 2;unfold jef at B;have C:(sizeOf 132).run Tryz.prog w=.ok 2 w:=by kernel_rfl
 have A:Tryz.prog.elem 37=132:=by kernel_rfl
 rw[run_slice_h (t:=37) (a:=a) (len:=len) (cap:=cap) (w:=w) (ht:=by rw[A];exact jcL) (kh:=.i64) (h:=(m:Int)) (by omega) (by omega),A,C];simp only[Result.andThen,sliced,Int.toNat_natCast,Nat.sub_zero,B]
theorem jog (a:Option Addr) (len cap k:Nat) (w:World) (h:k<=len):(Instr.slice 37 (.slice a len cap) (some (.int .i64 (k:Int))) none none).run Tryz.prog w=.ok (.slice (jef a cap k 2) (len-k) (cap-k)) w:=by
 have B:(sizeOf 132).run Tryz.prog w=.ok 2 w:=by kernel_rfl
 have A:Tryz.prog.elem 37=132:=by kernel_rfl
 rw[run_slice_l (t:=37) (a:=a) (len:=len) (cap:=cap) (w:=w) (ht:=by rw[A];exact jcL) (kl:=.i64) (l:=(k:Int)) (by omega) (by omega),A,B];simp only[Result.andThen,sliced,Int.toNat_natCast,jef]
def jsH (m:List (Int × Int)) (w:World) (e:Ending) (w':World):Prop:=∃ a cap,e=.returned (.slice a m.length cap)/\SlC jbO 2 w'.heap.size w' a m.length cap m/\Bw w w'
def jk7 (a0:Option Addr) (m:List (Int × Int)) (w:World) (e:Ending) (w':World):Prop:=∃ a cap,e=.returned (.slice a m.length cap)/\SlC jbO 2 w'.heap.size w' a m.length cap m/\(∀ z,a=some z->a0=some z\/w.heap.size<=z.block)/\Bw w w'
theorem jj7 {w w':World} {n:Nat} {v:Value} {m:List (Int × Int)} (h:w'.ownsRow w.heap.size 132 2 v n (m.flatMap jbO)) (F:n=m.length) (C:Bw w w'):jk7 none m w (.returned v) w':=by
 subst F;obtain⟨B,A,G,E,D⟩:=jaz (enc:=jbO) (fun _=>rfl) h;exact⟨B,A,by rw[G],E,fun z H=>.inr (D z H),C⟩
attribute [-go_sem] Builtin.append_ run_slice_any run_slice_h run_slice_l
theorem jfv (p n:Int) (l:List (Int × Int)) (a:Option Addr) (len cap:Nat) (w:World) (hL:SlC jbO 2 w.heap.size w a len cap l) (ac:len<=2000) (hn:U64 n) (hU:jbj l) :
  Calls Tryz.prog 138 #[.slice a len cap,.int .i64 p,.int .u64 n] w (jk7 a (jdb l p n) w):=by
 have ad:=hL.1.1;have HL:=Lib.hid hL;have L:=Lib.hid ad;have HU:=Lib.hid hU;have am:len<=cap:=hL.2.1;have ak:=hn.1;have al:=hn.2;clear hL ad hU;obtain⟨R,hR⟩:∃ R,jaC l p n=R:=⟨_,rfl⟩;have HR:=Lib.hid hR;obtain⟨N,d⟩:∃ R,jdb l p n=R:=⟨_,rfl⟩;rw[d];have c:Hid ((n=0->N=l)/\(¬ n=0->N=R)):=⟨fun h=>by rw[<- d];exact if_pos h,fun h=>by rw[<- d,<- hR];exact if_neg h⟩;clear hR d;go_enter Tryz.func138,Tryz.ntmps138;go_wp2_with fail;go_loopw [7] (fun i wr=>∃ k:Nat,i=.int .i64 k/\k<=len/\Hid (R=l.take k++jaC (l.drop k) p n)/\Bw w wr) (fun i _=>len-(intOf i).toNat)
 case atStart=>exact⟨0,rfl,Nat.zero_le _,by rw[Hid,List.take_zero,List.drop_zero,List.nil_append,HR.out],Below.refl _ _⟩
 case round =>
  obtain⟨k,rfl,hk,HK,hB⟩:=hrel;have P:=Lib.hid hB;have F:=Lib.hid (HL.out.go hB);have ar:=fun W=>juH a len cap k W (by omega)
  have aj:=fun W=>jog a len cap k W hk
  have i0:(0:Int)<=(k:Int):=Int.natCast_nonneg _;have ap:=Lib.hid ac;by_cases ae:k<len
  ·obtain⟨x,hx⟩:∃ x,l[k]? = some x:=⟨_,List.getElem?_eq_getElem (by rw[<- L.out];exact ae)⟩
   obtain⟨b,off,rfl,ab,hc⟩:=F.out.1.2 k x hx;have c0:wr.cell? ⟨b,off+k*2,none⟩=some (.int .i64 x.1):=hc 0 (by omega);have c1:wr.cell? ⟨b,off+k*2+1,none⟩=some (.int .u64 x.2):=hc 1 (by omega);have q:=Lib.hid ab;have i1:(k:Int)<(len:Int):=by omega
   have HD:=Lib.hid (jat hx);have HX:=Lib.hid hx;obtain⟨r,o⟩:=x;dsimp only at c0 c1;clear hc hx hB ab;by_cases af:r<p
   ·have HS:Hid (R=l.take (k+1)++jaC (l.drop (k+1)) p n):=by
     rw[Hid,HK.out,HD.out,jmR af,jai HX.out,List.append_assoc];rfl
    go_wp2_with fail;go_roundw
    case rel=>exact⟨k+1,by go_num,by omega,HS.out,P.out⟩
    case measure=>simp[intOf];omega
   ·by_cases B:n=0
    ·have Q:Hid (N=l):=c.out.1 B
     subst B;go_wp2_with fail;go_ret;rw[Q.out];unfold jk7;rw[<- L.out];exact⟨_,cap,rfl,F.out,fun z g=>.inl g,P.out⟩
    ·have t0:(n==0)=false:=by rw[beq_eq_false_iff_ne];exact B
     have Z:Hid (N=R):=c.out.2 B;obtain⟨v1,O,aa,E,D,M,f,-⟩:=jaE Tryz.prog (cap:=cap) 37 jcL jcO rfl (by decide) (World.ownsRow_nil wr wr.heap.size 132 2) (Below.refl wr.heap.size wr) (Nat.le_refl _) (Nat.le_refl _) (fun _=>rfl) (F.out.take k hk).1 jdO (by omega) (by omega) (by decide);rw[List.nil_append,Nat.zero_add] at E;by_cases X:r=p
     ·have u2:U64 o:=HU.out (r,o) (List.mem_of_getElem? HX.out)
      have Q:Hid (N=l.take k++(p,jdf o n)::l.drop (k+1)):=by rw[Hid,Z.out,HK.out,HD.out,X,jqu]
      have HP:Hid (∀ W,Calls Tryz.prog 137 #[.int .u64 o,.int .u64 n] W fun e w'=>e=.returned (.int .u64 (jdf o n))/\w'=W):=fun W=>jdP o n W u2 ⟨ak,al⟩
      have an:∀ W,(Instr.slice 37 (.slice (some ⟨b,off,none⟩) len cap) (some (.int .i64 (IntKind.i64.wrap ((k:Int)+1)))) none none).run Tryz.prog W=.ok (.slice (jef (some ⟨b,off,none⟩) cap (k+1) 2) (len-(k+1)) (cap-(k+1))) W:=fun W=>by rw[show IntKind.i64.wrap ((k:Int)+1)=((k+1:Nat):Int) from by rw[IntWalk.i64_in _ (by omega)];rfl];exact jog (some ⟨b,off,none⟩) len cap (k+1) W (by omega)
      have aq:O.cell? ⟨b,off+k*2+1,none⟩=some (.int .u64 o):=(D.cell (p:=⟨b,off+k*2+1,none⟩) q.out).trans c1;have ai:O.cell? ⟨b,off+k*2,none⟩=some (.int .i64 r):=(D.cell (p:=⟨b,off+k*2,none⟩) q.out).trans c0;generalize jdf o n=s at Q HP;obtain⟨y,v,w2,C,I,A,Y,-,-⟩:=jaL Tryz.prog 37 jcL jcO rfl (by decide) (W:=O.drew) (jgq E (Below.refl _ _).drew) D.drew (Nat.le_refl _) M (jbO (p,s)) rfl (jdO _) (by omega) (by decide);have C:(Builtin.append_ #[37,37] 37 #[v1,.slice (some ⟨O.heap.size,0,none⟩) 1 1]).run Tryz.prog (O.alloc (.cells #[.int .i64 p,.int .u64 s] 132)).drew=.ok (.slice (some ⟨y,0,none⟩) (k+1) v) w2:=C;obtain⟨v3,j,V,J,H,ag,-,-⟩:=jaE Tryz.prog (cap:=cap-(k+1)) 37 jcL jcO rfl (by decide) I A (Nat.le_refl _) (Nat.le_of_lt (Nat.lt_of_le_of_lt M Y)) (fun _=>rfl) (((F.out.below A).mono A.size).drop (k+1) ae).1 jdO (by omega) (by omega) (by decide);have T:Hid (j.ownsRow wr.heap.size 132 2 v3 (k+1+(len-(k+1))) (((l.take k).flatMap jbO++jbO (p,s))++(l.drop (k+1)).flatMap jbO)):=J;have S:=Lib.hid H;have ao:(r==p)=true:=by rw[beq_iff_eq];exact X
      subst X;clear E I J D A H f;go_wp2_with fail;refine wp_region_any (by kernel_rfl) ?_;change wpAny _ _ _ _ _ _ _ (World.drew _)
      ·
       refine ta 0 ?_;refine ta 1 ?_;refine ta 2 ?_;refine ta 3 ?_;refine ta 4 ?_;refine ta 5 ?_;refine ta 7 ?_;refine ta 12 ?_;refine ta 13 ?_;refine ta 14 ?_;refine ta 15 ?_;refine rd [6] (.cons rfl (fun K hK=>?_) .nil)
       all_goals go_simp
       all_goals (refine hK _ _ ?_;clear hK K)
       all_goals (refine rd [8] (.cons rfl (fun K hK=>?_) .nil))
       all_goals go_simp
       all_goals
        refine (HP.out _).mono ?_;rintro e w' ⟨rfl,h9⟩;subst w';refine hK _ _ ?_;clear hK K
       all_goals (refine ta 9 ?_;refine rd [10] (.cons rfl (fun K hK=>?_) .nil))
       all_goals go_simp
       all_goals (refine hK _ _ ?_;clear hK K)
       all_goals (refine rd [11] (.cons rfl (fun K hK=>?_) .nil))
       all_goals go_simp
       all_goals (refine hK _ _ ?_;clear hK K)
       all_goals (refine rd [16] (.cons rfl (fun K hK=>?_) .nil))
       all_goals go_simp
       all_goals (refine hK _ _ ?_;clear hK K)
       all_goals (refine rd [17] (.cons rfl (fun K hK=>?_) .nil))
       all_goals go_simp
       all_goals (refine hK _ _ ?_;clear hK K)
       all_goals (refine wpAny_done (by kernel_rfl) ?_ _)
       all_goals
        go_wp2_with fail;go_ret;have t:jk7 none N wr (.returned v3) j:=jj7 (w:=wr) (m:=N) (by have U:=T.out;rw[Q.out,List.flatMap_append,List.flatMap_cons,<- List.append_assoc];exact U) (by have:=L.out;rw[Q.out,List.length_append,List.length_take,List.length_cons,List.length_drop];omega) S.out;obtain⟨u,G,U,h2,h4,h3⟩:=t;exact⟨u,G,U,h2,fun z g=>.inr (Nat.le_trans P.out.size ((h4 z g).resolve_left (by simp))),P.out.trans (h3.mono P.out.size)⟩
     ·have t1:(r==p)=false:=by rw[beq_eq_false_iff_ne];exact X
      have Q:Hid (N=l.take k++(p,n)::l.drop k):=by rw[Hid,Z.out,HK.out,HD.out,jmS af X]
      have ai:O.cell? ⟨b,off+k*2,none⟩=some (.int .i64 r):=(D.cell (p:=⟨b,off+k*2,none⟩) q.out).trans c0;obtain⟨y,v,w2,C,I,A,Y,-,-⟩:=jaL Tryz.prog 37 jcL jcO rfl (by decide) (W:=O.drew) (jgq E (Below.refl _ _).drew) D.drew (Nat.le_refl _) M (jbO (p,n)) rfl (jdO _) (by omega) (by decide);have C:(Builtin.append_ #[37,37] 37 #[v1,.slice (some ⟨O.heap.size,0,none⟩) 1 1]).run Tryz.prog (O.alloc (.cells #[.int .i64 p,.int .u64 n] 132)).drew=.ok (.slice (some ⟨y,0,none⟩) (k+1) v) w2:=C;obtain⟨v3,j,V,J,H,ag,-,-⟩:=jaE Tryz.prog (cap:=cap-k) 37 jcL jcO rfl (by decide) I A (Nat.le_refl _) (Nat.le_of_lt (Nat.lt_of_le_of_lt M Y)) (fun _=>rfl) (((F.out.below A).mono A.size).drop k hk).1 jdO (by omega) (by omega) (by decide);have T:Hid (j.ownsRow wr.heap.size 132 2 v3 (k+1+(len-k)) (((l.take k).flatMap jbO++jbO (p,n))++(l.drop k).flatMap jbO)):=J;have S:=Lib.hid H;clear E I J D A H f;go_wp2_with fail;refine wp_region_any (by kernel_rfl) ?_;change wpAny _ _ _ _ _ _ _ (World.drew _)
      ·
       refine ta 0 ?_;refine ta 1 ?_;refine ta 2 ?_;refine ta 3 ?_;refine ta 6 ?_;refine ta 7 ?_;refine ta 8 ?_;refine rd [4] (.cons rfl (fun K hK=>?_) .nil)
       all_goals go_simp
       all_goals (refine hK _ _ ?_;clear hK K)
       all_goals (refine rd [5] (.cons rfl (fun K hK=>?_) .nil))
       all_goals go_simp
       all_goals (refine hK _ _ ?_;clear hK K)
       all_goals (refine rd [9] (.cons rfl (fun K hK=>?_) .nil))
       all_goals go_simp
       all_goals (refine hK _ _ ?_;clear hK K)
       all_goals (refine rd [10] (.cons rfl (fun K hK=>?_) .nil))
       all_goals go_simp
       all_goals (refine hK _ _ ?_;clear hK K)
       all_goals (refine wpAny_done (by kernel_rfl) ?_ _)
       all_goals
        go_wp2_with fail;go_ret;have t:jk7 none N wr (.returned v3) j:=jj7 (w:=wr) (m:=N) (by have U:=T.out;rw[Q.out,List.flatMap_append,List.flatMap_cons,<- List.append_assoc];exact U) (by have:=L.out;rw[Q.out,List.length_append,List.length_take,List.length_cons,List.length_drop];omega) S.out;obtain⟨u,G,U,h2,h4,h3⟩:=t;exact⟨u,G,U,h2,fun z g=>.inr (Nat.le_trans P.out.size ((h4 z g).resolve_left (by simp))),P.out.trans (h3.mono P.out.size)⟩
  ·obtain rfl:k=len:=by omega
   have Q:Hid (R=l.take k++(p,n)::l.drop k):=by
    rw[Hid,HK.out,List.drop_of_length_le (by rw[<- L.out];exact Nat.le_refl _)];rfl
   clear hB;by_cases B:n=0
   ·have ah:Hid (N=l):=c.out.1 B
    subst B;go_wp2_with fail;go_ret;rw[ah.out];unfold jk7;rw[<- L.out];exact⟨_,cap,rfl,F.out,fun z g=>.inl g,P.out⟩
   ·have t0:(n==0)=false:=by rw[beq_eq_false_iff_ne];exact B
    have Z:Hid (N=R):=c.out.2 B;rw[<- Z.out] at Q;obtain⟨v1,O,aa,E,D,M,f,-⟩:=jaE Tryz.prog (cap:=cap) 37 jcL jcO rfl (by decide) (World.ownsRow_nil wr wr.heap.size 132 2) (Below.refl wr.heap.size wr) (Nat.le_refl _) (Nat.le_refl _) (fun _=>rfl) (F.out.take k hk).1 jdO (by omega) (by omega) (by decide);rw[List.nil_append,Nat.zero_add] at E;obtain⟨y,v,w2,C,I,A,Y,-,-⟩:=jaL Tryz.prog 37 jcL jcO rfl (by decide) (W:=O.drew) (jgq E (Below.refl _ _).drew) D.drew (Nat.le_refl _) M (jbO (p,n)) rfl (jdO _) (by omega) (by decide);have C:(Builtin.append_ #[37,37] 37 #[v1,.slice (some ⟨O.heap.size,0,none⟩) 1 1]).run Tryz.prog (O.alloc (.cells #[.int .i64 p,.int .u64 n] 132)).drew=.ok (.slice (some ⟨y,0,none⟩) (k+1) v) w2:=C;obtain⟨v3,j,V,J,H,ag,-,-⟩:=jaE Tryz.prog (cap:=cap-k) 37 jcL jcO rfl (by decide) I A (Nat.le_refl _) (Nat.le_of_lt (Nat.lt_of_le_of_lt M Y)) (fun _=>rfl) (((F.out.below A).mono A.size).drop k hk).1 jdO (by omega) (by omega) (by decide);have T:Hid (j.ownsRow wr.heap.size 132 2 v3 (k+1+(k-k)) (((l.take k).flatMap jbO++jbO (p,n))++(l.drop k).flatMap jbO)):=J;have S:=Lib.hid H;clear E I J D A H f;simp only[Nat.sub_self] at V aj;go_wp2_with fail;refine wp_region_any (by kernel_rfl) ?_;change wpAny _ _ _ _ _ _ _ (World.drew _)
    ·
     refine ta 0 ?_;refine ta 1 ?_;refine ta 2 ?_;refine ta 3 ?_;refine ta 6 ?_;refine ta 7 ?_;refine ta 8 ?_;refine rd [4] (.cons rfl (fun K hK=>?_) .nil)
     all_goals go_simp
     all_goals (refine hK _ _ ?_;clear hK K)
     all_goals (refine rd [5] (.cons rfl (fun K hK=>?_) .nil))
     all_goals go_simp
     all_goals (refine hK _ _ ?_;clear hK K)
     all_goals (refine rd [9] (.cons rfl (fun K hK=>?_) .nil))
     all_goals go_simp
     all_goals (refine hK _ _ ?_;clear hK K)
     all_goals (refine rd [10] (.cons rfl (fun K hK=>?_) .nil))
     all_goals go_simp
     all_goals (refine hK _ _ ?_;clear hK K)
     all_goals (refine wpAny_done (by kernel_rfl) ?_ _)
     all_goals
      go_wp2_with fail;go_ret;have t:jk7 none N wr (.returned v3) j:=jj7 (w:=wr) (m:=N) (by have U:=T.out;rw[Q.out,List.flatMap_append,List.flatMap_cons,<- List.append_assoc];exact U) (by have:=L.out;rw[Q.out,List.length_append,List.length_take,List.length_cons,List.length_drop];omega) S.out;obtain⟨u,G,U,h2,h4,h3⟩:=t;exact⟨u,G,U,h2,fun z g=>.inr (Nat.le_trans P.out.size ((h4 z g).resolve_left (by simp))),P.out.trans (h3.mono P.out.size)⟩
theorem jkN (p n:Int) (l:List (Int × Int)) (a:Option Addr) (len cap:Nat) (w:World) (F:SlC jbO 2 w.heap.size w a len cap l) (A:len<=2000) (H:U64 n) (G:jbj l) :
  Calls Tryz.prog 138 #[.slice a len cap,.int .i64 p,.int .u64 n] w (jsH (jdb l p n) w) :=
 (jfv p n l a len cap w F A H G).mono fun _ _ ⟨B,c,C,D,_,E⟩=>⟨B,c,C,D,E⟩
end
end Go.Proofs.YtafhpamnegmilaaGreatDoor
