/- Package aviarylaw20: few. Printed by gen_wbb.py. Package wire: messageOf. errors.As at a target of type **frame.fault: lines of the worked example ToyasAs turned to this program; frame.errno, isFull. Package frame: read. -/
import Derived.Test.YtlmlcadcdhhlcaaGreatDoorZWba
set_option maxHeartbeats 4000000
set_option maxRecDepth 100000
namespace Go.Proofs.YtlmlcadcdhhlcaaGreatDoor
open Go Go.RowKit Go.Shelf
def jbL (x:Ent):Ent:=⟨x.seq,x.tm,jf2 410 x.text,x.sum⟩
def ja2 (y:Ry):Ry:={ y with nots:=y.nots.take 102,ents:=(y.ents.take 102).map jbL }
theorem jf6 (y:Ry):(ja2 y).e=y.e:=rfl
theorem jf7 (y:Ry):(ja2 y).n=y.n:=rfl
theorem jgQ:Tryz.prog.underlying 49=some (.slice 3):=by kernel_rfl
theorem jfC (a:Option Addr) (len cap m:Nat) (w:World) (h:m<=cap):(Instr.slice 49 (.slice a len cap) none (some (.int .i64 (m:Int))) none).run Tryz.prog w=.ok (.slice a m cap) w:=by
 have B:=jb8 a cap 1;unfold jdj at B;have C:(sizeOf 3).run Tryz.prog w=.ok 1 w:=by kernel_rfl
 have A:Tryz.prog.elem 49=3:=by kernel_rfl
 rw[run_slice_h (t:=49) (a:=a) (len:=len) (cap:=cap) (w:=w) (ht:=by rw[A];exact jgQ) (kh:=.i64) (h:=(m:Int)) (by omega) (by omega),A,C];simp only[Result.andThen,sliced,Int.toNat_natCast,Nat.sub_zero,B]
attribute [-go_sem] Builtin.append_
theorem jf4 (y:Ry) (G:Option Addr) (F:Nat) (ea:Option Addr) (ec:Nat) (w:World) (aO:y.nots.length<=F) (hE:SlE Ent.enc 4 w.heap.size w ea y.ents.length y.ents) :
  Calls Tryz.prog 14 #[.agg (ryV y G F ea ec)] w fun e w'=>∃ ae aH,e=.returned (.agg (ryV (ja2 y) G F ae aH))/\SlE Ent.enc 4 w'.heap.size w' ae (ja2 y).ents.length (ja2 y).ents/\(∀ x,ae=some x->w.heap.size<=x.block)/\Bw w w':=by
 obtain⟨m,hm⟩:∃ m,min y.nots.length 102=m:=⟨_,rfl⟩;have e1:min (y.nots.length:Int) 102=(m:Int):=by omega
 have t1:=fun W=>jfC G y.nots.length F m W (by omega)
 have HM:=Lib.hid hm;obtain⟨W,hW,aj,ak,L,aF⟩:=jbq w (ryV y G F ea ec) 52 #[.int .i64 0,.int .u64 0,.slice none 0 0,.slice none 0 0] 52;unfold ryV at aj hW ⊢;obtain⟨D,hD⟩:∃ D,W.drew=D:=⟨_,rfl⟩;have aq:D.heap.size=w.heap.size+2:=by rw[<- hD];exact aF
 have P:D.heap[w.heap.size]? = some (.cells #[.int .i64 y.e,.int .u64 y.n,.slice G y.nots.length F,.slice ea y.ents.length ec] 52 (0,0)):=by rw[<- hD];exact aj
 have ap:D.heap[w.heap.size+1]? = some (.cells #[.int .i64 0,.int .u64 0,.slice none 0 0,.slice none 0 0] 52 (0,0)):=by rw[<- hD];exact ak
 have af:Bw w D:=by rw[<- hD];exact L.drew
 obtain⟨V,hV,d,l,aP⟩:=jab D #[.int .i64 0,.int .u64 0,.slice none 0 0,.slice none 0 0] 52;rw[aq] at d;have b:=known l (Nat.le_refl _) P;have aC:=known l (Nat.le_refl _) ap;obtain⟨ba,bb,bc,bd⟩:=cz4 d;obtain⟨a6,a7,a8,a9⟩:=cl4 d;obtain⟨U,hU,aD,an,ah⟩:=jfB (.int .i64 y.e) (.int .u64 y.n) (.slice G m F) (.slice none 0 0) d (af.trans (l.mono af.size)) (Nat.le_add_right _ 2);have R:=ah.known (show w.heap.size≠w.heap.size+2 by omega) b;have aB:=ah.known (show w.heap.size+1≠w.heap.size+2 by omega) aC;have ax:D.cell? ⟨w.heap.size,0,none⟩=some (.int .i64 y.e)/\D.cell? ⟨w.heap.size,1,none⟩=some (.int .u64 y.n)/\D.cell? ⟨w.heap.size,2,none⟩=some (.slice G y.nots.length F):=⟨cCc P 0,cCc P 1,cCc P 2⟩;have az:V.cell? ⟨w.heap.size,0,none⟩=some (.int .i64 y.e)/\V.cell? ⟨w.heap.size,1,none⟩=some (.int .u64 y.n)/\V.cell? ⟨w.heap.size,2,none⟩=some (.slice G y.nots.length F):=⟨cCc b 0,cCc b 1,cCc b 2⟩;have ay:U.cell? ⟨w.heap.size,0,none⟩=some (.int .i64 y.e)/\U.cell? ⟨w.heap.size,1,none⟩=some (.int .u64 y.n)/\U.cell? ⟨w.heap.size,2,none⟩=some (.slice G y.nots.length F):=⟨cCc R 0,cCc R 1,cCc R 2⟩
 have H0:Hid (Bw w U/\U.heap[w.heap.size]? = some (.cells #[.int .i64 y.e,.int .u64 y.n,.slice G y.nots.length F,.slice ea y.ents.length ec] 52 (0,0))/\U.heap[w.heap.size+1]? = some (.cells #[.int .i64 0,.int .u64 0,.slice none 0 0,.slice none 0 0] 52 (0,0))/\U.heap[w.heap.size+2]? = some (.cells #[.int .i64 y.e,.int .u64 y.n,.slice G m F,.slice none 0 0] 52 (0,0))/\GrowE Ent.enc U (w.heap.size+3) 103 4 (.slice none 0 0) ((y.ents.take 0).map jbL)):=⟨an,R,aB,aD,GrowE.nil _ _ _ _ _⟩;have HE:=Lib.hid hE;have HD:=Lib.hid hD;have a1:=Lib.hid aq;clear aj ak L aF P ap af d l aP b aC aD an ah R aB hE hm aO hD;go_enter Tryz.func14,Tryz.ntmps14;go_wp2_with fail;refine wp_region_held_drew (S:=fun w'=>w'.cell? ⟨w.heap.size,0,none⟩=some (.int .i64 y.e)/\w'.cell? ⟨w.heap.size,1,none⟩=some (.int .u64 y.n)/\w'.cell? ⟨w.heap.size,2,none⟩=some (.slice G y.nots.length F)) (by kernel_rfl) (by rw[HD.out];exact ax) (fun hS=>?_);rw[HD.out] at hS ⊢;refine wpAnyH_take (i:=0) (v:=?_) rfl (by kernel_rfl) (by kernel_rfl) (by kernel_rfl) (fun _ _ _ h=>h) (Or.inl ⟨by rfl,?_⟩) (by assumption) ?_;rotate_left
 ·intro w E;go_simp;with_reducible rfl
 refine wpAnyH_take (i:=1) (v:=?_) rfl (by kernel_rfl) (by kernel_rfl) (by kernel_rfl) (fun _ _ _ h=>h) (Or.inl ⟨by rfl,?_⟩) (by assumption) ?_;rotate_left
 ·intro w E;go_split_ands;go_simp;with_reducible rfl
 refine wpAnyH_take (i:=2) (v:=?_) rfl (by kernel_rfl) (by kernel_rfl) (by kernel_rfl) (fun _ _ _ h=>h) (Or.inl ⟨by rfl,?_⟩) (by assumption) ?_;rotate_left
 ·intro w E;go_simp;with_reducible rfl
 refine wpAnyH_take (i:=3) (v:=?_) rfl (by kernel_rfl) (by kernel_rfl) (by kernel_rfl) (fun _ _ _ h=>h) (Or.inl ⟨by rfl,?_⟩) (by assumption) ?_;rotate_left
 ·intro w E;go_split_ands;go_simp;with_reducible rfl
 refine wpAnyH_take (i:=4) (v:=?_) rfl (by kernel_rfl) (by kernel_rfl) (by kernel_rfl) (fun _ _ _ h=>h) (Or.inl ⟨by rfl,?_⟩) (by assumption) ?_;rotate_left
 ·intro w E;go_simp;with_reducible rfl
 refine wpAnyH_take (i:=5) (v:=?_) rfl (by kernel_rfl) (by kernel_rfl) (by kernel_rfl) (fun _ _ _ h=>h) (Or.inl ⟨by rfl,?_⟩) (by assumption) ?_;rotate_left
 ·intro w E;go_split_ands;go_simp;with_reducible rfl
 refine wpAnyH_take (i:=6) (v:=?_) rfl (by kernel_rfl) (by kernel_rfl) (by kernel_rfl) (fun _ _ _ h=>h) (Or.inl ⟨by rfl,?_⟩) (by assumption) ?_;rotate_left
 ·intro w E;go_simp;with_reducible rfl
 refine wpAnyH_take (i:=7) (v:=?_) rfl (by kernel_rfl) (by kernel_rfl) (by kernel_rfl) (fun _ _ _ h=>h) (Or.inl ⟨by rfl,?_⟩) (by assumption) ?_;rotate_left
 ·intro w E;go_split_ands;go_simp;with_reducible rfl
 refine wpAnyH_take (i:=8) (v:=?_) rfl (by kernel_rfl) (by kernel_rfl) (by kernel_rfl) (fun _ _ _ h=>h) (Or.inl ⟨by rfl,?_⟩) (by assumption) ?_;rotate_left
 ·intro w E;go_simp;with_reducible rfl
 refine wpAnyH_take (i:=9) (v:=?_) rfl (by kernel_rfl) (by kernel_rfl) (by kernel_rfl) (fun _ _ _ h=>h) (Or.inl ⟨by rfl,?_⟩) (by assumption) ?_;rotate_left
 ·intro w E;go_simp;with_reducible rfl
 refine wpAnyH_take (i:=10) (v:=?_) rfl (by kernel_rfl) (by kernel_rfl) (by kernel_rfl) (fun _ _ _ h=>h) (Or.inl ⟨by rfl,?_⟩) (by assumption) ?_;rotate_left
 ·intro w E;go_simp;with_reducible rfl
 refine wpAnyH_take (i:=11) (v:=?_) rfl (by kernel_rfl) (by kernel_rfl) (by kernel_rfl) (fun _ _ _ h=>h) (Or.inl ⟨by rfl,?_⟩) (by assumption) ?_;rotate_left
 ·intro w E;go_simp;with_reducible rfl
 refine wpAnyH_ready (rs:=[12]) (by kernel_rfl) (by simp) ?_;refine AllReadyH.cons rfl (fun K hK=>?_) ?_
 ·go_simp
  refine hK.out _ _ ?_ (fun Q=>?_)
  ·exact az
  clear hK K hS;have hS:=Q;clear Q;refine wpAnyH_ready (rs:=[13]) (by kernel_rfl) (by simp) ?_;refine AllReadyH.cons rfl (fun K hK=>?_) ?_
  ·go_simp
   refine hK.out _ _ ?_ (fun Q=>?_)
   ·exact ay
   clear hK K hS;have hS:=Q;clear Q;refine wpAnyH_done (by kernel_rfl) ?_ _;clear hS ax az ay;go_wp2_with fail;go_loopw [4] (fun i wr=>∃ (k:Nat) (v:Value),i=.int .i64 k/\k<=y.ents.length/\k<=102/\Hid (Bw w wr/\wr.heap[w.heap.size]? = some (.cells #[.int .i64 y.e,.int .u64 y.n,.slice G y.nots.length F,.slice ea y.ents.length ec] 52 (0,0))/\wr.heap[w.heap.size+1]? = some (.cells #[.int .i64 0,.int .u64 0,.slice none 0 0,.slice none 0 0] 52 (0,0))/\wr.heap[w.heap.size+2]? = some (.cells #[.int .i64 y.e,.int .u64 y.n,.slice G m F,v] 52 (0,0))/\GrowE Ent.enc wr (w.heap.size+3) 103 4 v ((y.ents.take k).map jbL))) (fun i _=>y.ents.length-(intOf i).toNat)
   case atStart=>exact⟨0,_,rfl,Nat.zero_le _,Nat.zero_le _,H0.out⟩
   case round =>
    obtain⟨k,v,rfl,hk,aM,HH⟩:=hrel;have p3:wr.cell? ⟨w.heap.size,3,none⟩=some (.slice ea y.ents.length ec):=cCc HH.out.2.1 3;by_cases aN:k<y.ents.length
    ·by_cases a4:k<102
     ·obtain⟨L,hP,M,p,j⟩:=HH.out
      obtain⟨x,b1,o1,N,rfl,aL,f⟩:=(HE.out.below L).at aN;have x0:wr.cell? ⟨b1,o1+k*4,none⟩=some (.int .u64 x.seq):=f 0 (by omega);have x1:wr.cell? ⟨b1,o1+k*4+1,none⟩=some (.int .u64 x.tm):=f 1 (by omega);have x2:wr.cell? ⟨b1,o1+k*4+2,none⟩=some (.string x.text):=f 2 (by omega);have x3:wr.cell? ⟨b1,o1+k*4+3,none⟩=some (.int .u64 x.sum):=f 3 (by omega);have i0:(0:Int)<=(k:Int):=by omega
      have i1:(k:Int)<(y.ents.length:Int):=by omega
      have i2:(k:Int)<102:=by omega
      obtain⟨X1,ak,s,ao,aQ⟩:=jab wr #[.int .u64 x.seq,.int .u64 x.tm,.string x.text,.int .u64 x.sum] 103;have c2:X1.cell? ⟨wr.heap.size,2,none⟩=some (.string x.text):=cCc s 2;have f2:X1.frozen? ⟨wr.heap.size,2,none⟩=false:=cFz s 2;obtain⟨T,hT⟩:∃ T,jf2 410 x.text=T:=⟨_,rfl⟩;have aA:=hT;unfold jf2 at aA;obtain⟨q,hq⟩:∃ q,min x.text.size 410=q:=⟨_,rfl⟩;rw[hq] at aA;have e2:(min (x.text.size:Int) 410).toNat=q:=by omega
      have a2:min x.text.size 410=q:=hq;have a5:q<=x.text.size:=by omega
      obtain⟨X2,a3,ab,-,al,-,aR⟩:=jat (i:=2) s (.string T);have C:Bw wr X2:=al _ _ (Nat.le_refl _) ao;have ai:=known C (Nat.le_refl _) p;have ar:=known C (Nat.le_refl _) hP;have av:=known C (Nat.le_refl _) M;have aI:=(Array.getElem?_eq_some_iff.1 p).1;have ac:X2.heap[wr.heap.size]? = some (.cells #[.int .u64 x.seq,.int .u64 x.tm,.string T,.int .u64 x.sum] 103 (0,0)):=ab;have u:=L.trans (C.mono L.size);have A:((y.ents.take k).map jbL).length=k:=by rw[List.length_map,List.length_take];omega
      obtain⟨g,cap,w5,aE,ag,am,aS,J⟩:=(j.keep (q:=fun _=>True) (Kept.of C) (fun _ _=>trivial)).push (w0:=w) (B:=w.heap.size) 50 jep jd0 rfl (by decide) (jbL x) [.int .u64 x.seq,.int .u64 x.tm,.string T,.int .u64 x.sum] (by rw[<- hT];rfl) u (Nat.le_add_right _ 3) (by have:=C.size;omega) (by simp[Value.oneCell']) (by rw[A];omega) (by decide);rw[A] at aE ag;have r:=(J _ (by omega)).trans ai;have au:=(J _ (by omega)).trans ar;have aw:=(J _ (by omega)).trans av;obtain⟨z0,z1,z2,z3⟩:=cl4 ac;have c3:X2.cell? ⟨w.heap.size+2,3,none⟩=some v:=cCc ai 3;have c5:w5.cell? ⟨w.heap.size+2,3,none⟩=some v:=cCc r 3;have f5:w5.frozen? ⟨w.heap.size+2,3,none⟩=false:=cFz r 3;obtain⟨V6,aK,aa,-,z,-⟩:=jat (i:=3) r (.slice (some ⟨g,0,none⟩) (k+1) cap);have o:Kept (· ≠ w.heap.size+2) w5 V6:=by rw[<- aK];exact Kept.refl.set (fun _ h=>h rfl) _ _
      have HN:Hid (Bw w V6/\V6.heap[w.heap.size]? = some (.cells #[.int .i64 y.e,.int .u64 y.n,.slice G y.nots.length F,.slice (some ⟨b1,o1,none⟩) y.ents.length ec] 52 (0,0))/\V6.heap[w.heap.size+1]? = some (.cells #[.int .i64 0,.int .u64 0,.slice none 0 0,.slice none 0 0] 52 (0,0))/\V6.heap[w.heap.size+2]? = some (.cells #[.int .i64 y.e,.int .u64 y.n,.slice G m F,.slice (some ⟨g,0,none⟩) (k+1) cap] 52 (0,0))/\GrowE Ent.enc V6 (w.heap.size+3) 103 4 (.slice (some ⟨g,0,none⟩) (k+1) cap) ((y.ents.take (k+1)).map jbL)):=by
       refine⟨z _ _ (Nat.le_add_right _ 2) am,o.known (show w.heap.size≠w.heap.size+2 by omega) au,o.known (show w.heap.size+1≠w.heap.size+2 by omega) aw,aa,?_⟩;rw[jaq N,List.map_append];exact ag.keep o (fun k hk=>by show k≠w.heap.size+2;omega)
      clear HH L hP M p j N aL f s ao aQ ab al aR C ai ar av aI ac u A ag am aS J r au aw aa z o hT hq;go_wp2_with (at_builtin;refine jby rfl _ _ _ rfl rfl rfl aE ?_);exact⟨⟨k+1,_,by go_num,by omega,by omega,HN.out⟩,by simp[intOf];omega⟩
     ·obtain rfl:k=102:=by omega
      have i1:((102:Nat):Int)<(y.ents.length:Int):=by omega
      obtain⟨L,hP,M,p,j⟩:=HH.out;obtain⟨o0,o1,o2,o3⟩:=cl4 p;obtain⟨aX,aY,aZ,a0⟩:=cz4 M;obtain⟨aT,aU,aV,aW⟩:=cl4 M;obtain⟨U4,aJ,Z,X,Y⟩:=jfB (.int .i64 y.e) (.int .u64 y.n) (.slice G m F) v M L (Nat.le_succ _);obtain⟨u0,u1,u2,u3⟩:=cl4 Z;obtain⟨a,c,t,I⟩:=(j.keep Y (fun k hk=>by show k≠w.heap.size+1;omega)).sl (fun x=>rfl)
      have H:∀ x,a=some x->w.heap.size<=x.block:=fun x N=>by
       rcases j.2 with⟨h1,-⟩ | ⟨g,cap,aG,h1,h2,-⟩
       ·injection t.symm.trans h1 with h3
        rw[h3] at N
        cases N
       ·injection t.symm.trans h1 with h3
        rw[h3] at N
        cases N
        show w.heap.size<=g;omega
      have O:=Lib.hid H;have A:((y.ents.take 102).map jbL).length=102:=by rw[List.length_map,List.length_take];omega
      rw[A] at t I;subst t
      have HF:Hid (SlE Ent.enc 4 U4.heap.size U4 a (ja2 y).ents.length (ja2 y).ents/\(ja2 y).ents.length=102/\(ja2 y).nots.length=m):=by
       have e:(ja2 y).ents=(y.ents.take 102).map jbL:=by unfold ja2;dsimp only
       refine⟨?_,by rw[e,A],by unfold ja2;dsimp only;rw[List.length_take,Nat.min_comm];exact HM.out⟩;rw[e,A];exact I
      have ad:=Lib.hid X;clear L hP M p j Z X Y I H;go_wp2_with fail;refine bodyPost_ret (v:=.agg (ryV (ja2 y) G F a c)) (by simp[results,ryV,jf6,jf7,HF.out.2.1,HF.out.2.2,Tryz.results14,go_sem,u0,u1,u2,u3]) rfl ⟨a,c,rfl,HF.out.1,O.out,ad.out⟩
    ·obtain rfl:k=y.ents.length:=by omega
     obtain⟨L,hP,M,p,j⟩:=HH.out;obtain⟨o0,o1,o2,o3⟩:=cl4 p;obtain⟨aX,aY,aZ,a0⟩:=cz4 M;obtain⟨aT,aU,aV,aW⟩:=cl4 M;obtain⟨U4,aJ,Z,X,Y⟩:=jfB (.int .i64 y.e) (.int .u64 y.n) (.slice G m F) v M L (Nat.le_succ _);obtain⟨u0,u1,u2,u3⟩:=cl4 Z;obtain⟨a,c,t,I⟩:=(j.keep Y (fun k hk=>by show k≠w.heap.size+1;omega)).sl (fun x=>rfl)
     have H:∀ x,a=some x->w.heap.size<=x.block:=fun x N=>by
      rcases j.2 with⟨h1,-⟩ | ⟨g,cap,aG,h1,h2,-⟩
      ·injection t.symm.trans h1 with h3
       rw[h3] at N
       cases N
      ·injection t.symm.trans h1 with h3
       rw[h3] at N
       cases N
       show w.heap.size<=g;omega
     have O:=Lib.hid H;have A:((y.ents.take y.ents.length).map jbL).length=y.ents.length:=by rw[List.length_map,List.length_take];omega
     rw[A] at t I;subst t
     have HF:Hid (SlE Ent.enc 4 U4.heap.size U4 a (ja2 y).ents.length (ja2 y).ents/\(ja2 y).ents.length=y.ents.length/\(ja2 y).nots.length=m):=by
      have e:(ja2 y).ents=(y.ents.take y.ents.length).map jbL:=by unfold ja2;dsimp only;rw[List.take_of_length_le (show y.ents.length<=102 from aM),List.take_of_length_le (Nat.le_refl _)]
      refine⟨?_,by rw[e,A],by unfold ja2;dsimp only;rw[List.length_take,Nat.min_comm];exact HM.out⟩;rw[e,A];exact I
     have ad:=Lib.hid X;clear L hP M p j Z X Y I H;go_wp2_with fail;refine bodyPost_ret (v:=.agg (ryV (ja2 y) G F a c)) (by simp[results,ryV,jf6,jf7,HF.out.2.1,HF.out.2.2,Tryz.results14,go_sem,u0,u1,u2,u3]) rfl ⟨a,c,rfl,HF.out.1,O.out,ad.out⟩
  exact AllReadyH.nil
 exact AllReadyH.nil
end Go.Proofs.YtlmlcadcdhhlcaaGreatDoor
namespace Go.Proofs.YtlmlcadcdhhlcaaGreatDoor
open Go Go.RowKit Go.Shelf
def jaY (m:Msg) (w:World) (e:Ending) (w':World):Prop:=(match m with
 | .hello now tok=>e=.returned (.iface 146 (.agg #[.int .u64 now,.string tok]))
 | .ask q=>∃ ia ic ta tc,e=.returned (.iface 148 (.agg (rqV q ia ic ta tc)))/\SlE ja1 2 w'.heap.size w' ia q.items.length q.items/\SlE jca 1 w'.heap.size w' ta q.tens.length q.tens
 | .noise=>e=.returned (.iface 194 (.agg #[])))/\Bw w w'
theorem jd3 (s:ByteArray) (h:s.size=0) (w:World):Calls Tryz.prog 62 #[.string s] w (jaY .noise w):=by
 have A:s.toList.isEmpty=true:=by rw[jag,h];rfl
 have B:s.toList=[]:=List.isEmpty_iff.1 A;go_enter Tryz.func62,Tryz.ntmps62;go_wp2_with fail;go_ret;exact⟨rfl,Below.refl _ _⟩
theorem jdr (s t:ByteArray) (f:UInt8) (B:0<s.size) (H:s[0]'B=f) (_ht:s.extract 1 s.size=t) (C:f≠1) (D:f≠2) (w:World):Calls Tryz.prog 62 #[.string s] w (jaY .noise w):=by
 have A:s.toList.isEmpty=false:=by
  rw[jag,beq_eq_false_iff_ne];omega
 have E:¬ s.toList=[]:=by
  intro e;rw[e] at A
  cases A
 have F:¬ (f.toNat:Int)=1:=fun e=>C (UInt8.toNat_inj.1 (by have h:(1:UInt8).toNat=1:=rfl;omega))
 have G:¬ (f.toNat:Int)=2:=fun e=>D (UInt8.toNat_inj.1 (by have h:(2:UInt8).toNat=2:=rfl;omega))
 go_enter Tryz.func62,Tryz.ntmps62;go_wp2_with fail;go_ret;exact⟨rfl,Below.refl _ _⟩
theorem jeJ (s t:ByteArray) (Q O:Addr) (M:0<s.size) (hf:s[0]'M=2) (ht:s.extract 1 s.size=t) (Z:t.size<4294967281) (w:World) (T:∀ W,Bw w W->GF Q O W):Calls Tryz.prog 62 #[.string s] w (jaY (match jbj t.data.toList with | some q=>.ask q | none=>.noise) w):=by
 have F:s.toList.isEmpty=false:=by
  rw[jag,beq_eq_false_iff_ne];omega
 have p:¬ s.toList=[]:=by
  intro e;rw[e] at F
  cases F
 have I:=Lib.hid (jc3 t Q O w Z T);obtain⟨o,Y⟩:∃ o,jbj t.data.toList=o:=⟨_,rfl⟩;rw[Y] at I ⊢;obtain⟨P,J⟩:∃ P,jaY (match o with | some q=>.ask q | none=>.noise) w=P:=⟨_,rfl⟩;rw[J];have G:=Lib.hid J;clear J T Y Z;go_enter Tryz.func62,Tryz.ntmps62;go_wp2_with fail;refine I.out.mono ?_;rintro e d ⟨h,U⟩;have D:=Lib.hid U;clear U I
 cases o with
 | none =>
  obtain rfl:=h;have H:Hid (P=jaY .noise w):=G.out.symm;obtain⟨X,n,B,A,-⟩:=jab d #[.int .i64 0,.int .u64 0,.string ⟨#[]⟩,.string ⟨#[]⟩,.int .i64 0,.slice none 0 0,.int .u64 0,.int .u64 0,.int .u64 0,.slice none 0 0] 48;obtain⟨f,g,i,c3,c4,c5,j,k,l,m⟩:=jb3 B;obtain⟨r,u,v,x,y,z,f6,f7,f8,f9⟩:=jiM B;obtain⟨V,hV,L,E,-⟩:=jek (.int .i64 0) (.int .u64 0) (.string ⟨#[]⟩) (.string ⟨#[]⟩) (.int .i64 0) (.slice none 0 0) (.int .u64 0) (.int .u64 0) (.int .u64 0) (.slice none 0 0) B (D.out.trans (A.mono D.out.size)) D.out.size;have C:Hid (Bw w V):=E;clear G B A L E;unfold rqZ;go_wp2_with fail;rw[H.out];exact⟨rfl,C.out⟩
 | some q =>
  obtain⟨a,b,ta,c,rfl,R,S⟩:=h;have H:Hid (P=jaY (.ask q) w):=G.out.symm;obtain⟨X,n,B,A,-⟩:=jab d #[.int .i64 q.op,.int .u64 q.now,.string q.labels,.string q.scope,.int .i64 q.kind,.slice a q.items.length b,.int .u64 q.h,.int .u64 q.tnt,.int .u64 q.id,.slice ta q.tens.length c] 48;obtain⟨f,g,i,c3,c4,c5,j,k,l,m⟩:=jb3 B;have C:Hid (Bw w X):=D.out.trans (A.mono D.out.size);have N:=Lib.hid (And.intro (R.go A) (S.go A));clear G R S B A;unfold rqV;go_wp2_with fail;rw[H.out];exact⟨⟨a,b,ta,c,rfl,N.out.1,N.out.2⟩,C.out⟩
theorem jdq (s t:ByteArray) (b Z:Addr) (g:0<s.size) (hf:s[0]'g=1) (ht:s.extract 1 s.size=t) (hz:t.size<4294967281) (w:World) (d:∀ W,Bw w W->GF b Z W):Calls Tryz.prog 62 #[.string s] w (jaY (if (jcQ t.data.toList).2=some [] then .hello (jcQ t.data.toList).1.1 (jcQ t.data.toList).1.2 else .noise) w):=by
 have M:s.toList.isEmpty=false:=by
  rw[jag,beq_eq_false_iff_ne];omega
 have z:¬ s.toList=[]:=by
  intro e;rw[e] at M
  cases M
 obtain⟨P,f⟩:∃ P,jaY (if (jcQ t.data.toList).2=some [] then .hello (jcQ t.data.toList).1.1 (jcQ t.data.toList).1.2 else .noise) w=P:=⟨_,rfl⟩;rw[f];have V:=Lib.hid f;clear f;obtain⟨W,hW,p,c,h⟩:=jab w #[.string t,.bool false] 116;obtain⟨l,R⟩:∃ l,t.data.toList=l:=⟨_,rfl⟩;have N:l.length<4294967281:=by rw[<- R,Array.length_toList];exact hz
 have O:t=⟨l.toArray⟩:=by rw[<- R]
 have x:Hid (RdAt w.heap.size (some l) W):=⟨N,by rw[<- O];exact p⟩;have j:=Lib.hid c;have v:=Lib.hid d;rw[R] at V;obtain⟨n,q,ha⟩:∃ a s,jaA (some l)=(a,s):=⟨_,_,rfl⟩;have B:=jaR w.heap.size (some l) b Z W x.out (d _ c);rw[ha] at B;have S:=Lib.hid ha;have m:=Lib.hid B;clear p c h R N O d ha B;go_enter Tryz.func62,Tryz.ntmps62;go_wp2_with fail;refine m.out.mono ?_;rintro e r ⟨rfl,F,A⟩;have Y:=Lib.hid F;have D:Hid (Bw w r):=j.out.trans (A.below (fun k A=>Nat.ne_of_lt A) j.out.size);obtain⟨o,i,ha⟩:∃ a s,jaW q=(a,s):=⟨_,_,rfl⟩;have B:=jcx w.heap.size q b Z r Y.out (fun X y=>v.out X (D.out.trans (y.mono D.out.size)));rw[ha] at B;have T:=Lib.hid ha;have I:=Lib.hid B;clear F A m ha B;go_wp2_with fail;refine I.out.mono ?_;rintro e u ⟨rfl,F,A⟩;have G:Hid (Bw w u):=D.out.trans (A.below (fun k A=>Nat.ne_of_lt A) D.out.size);obtain⟨ok,E⟩:∃ ok,decide (i=some [])=ok:=⟨_,rfl⟩;have B:=jcR w.heap.size i u F;rw[E] at B;have J:=Lib.hid B;have L:=Lib.hid E;clear F A I B E;go_wp2_with fail;refine J.out.mono ?_;rintro e w3 ⟨rfl,A,F⟩;have H:Hid (Bw w w3):=G.out.trans (A.below (fun k A=>Nat.ne_of_lt A) G.out.size);clear F A J
 have Q:jcQ l=((n,o),i):=by
  unfold jcQ;simp only[S.out,T.out]
 cases ok with
 | true =>
  have C:=decide_eq_true_iff.1 L.out;have U:Hid (P=jaY (.hello n o) w):=by rw[Hid,<- V.out,Q,C];rfl
  clear Q C;go_wp2_with fail;rw[U.out];exact⟨rfl,H.out⟩
 | false =>
  have C:=decide_eq_false_iff_not.1 L.out;have U:Hid (P=jaY .noise w):=by rw[Hid,<- V.out,Q,if_neg C]
  clear Q C;go_wp2_with fail;rw[U.out];exact⟨rfl,H.out⟩
theorem jdZ (s t:ByteArray) (f:UInt8) (A:0<s.size) (D:s[0]'A=f) (ht:s.extract 1 s.size=t):s.data.toList=f::t.data.toList:=by
 rw[<- ht,jbr];have B:0<s.data.toList.length:=by rw[Array.length_toList];exact A
 have C:s.data.toList[0]'B=f:=by rw[<- D];rfl
 generalize s.data.toList=q at B C ⊢
 cases q with
 | nil=>simp at B
 | cons x q=>simp at C;rw[C];rfl
theorem jeI (s:ByteArray) (C B:Addr) (I:s.size<4294967281) (w:World) (G:∀ W,Bw w W->GF C B W):Calls Tryz.prog 62 #[.string s] w (jaY (jfo s.data.toList) w):=by
 by_cases F:s.size=0
 ·have e:s.data.toList=[]:=List.eq_nil_of_length_eq_zero (by rw[Array.length_toList];exact F)
  rw[e];exact jd3 s F w
 ·have A:0<s.size:=by omega
  have e:=jdZ s _ _ A rfl rfl;have H:(s.extract 1 s.size).size<4294967281:=by rw[ByteArray.size_extract];omega
  rw[e];unfold jfo;dsimp only;split
  ·rename_i D
   exact jdq s _ C B A D rfl H w G
  ·rename_i D
   split
   ·rename_i E
    exact jeJ s _ C B A E rfl H w G
   ·rename_i E
    exact jdr s _ _ A rfl rfl D E w
end Go.Proofs.YtlmlcadcdhhlcaaGreatDoor
namespace Go.Proofs.YtlmlcadcdhhlcaaGreatDoor.Fr
open Go Go.RowKit Go.Extern.Stop Go.Stop Go.Extern
def FaultAt (W:World) (v:Value) (no:Int):Prop:=∃ b,v=.iface 185 (.pointer (some ⟨b,0,none⟩))/\W.heap[b]? = some (.cells #[.int .i64 no] 187 (0,0))
theorem jfS (t:Value) (w:World) :
  Calls Tryz.prog 83 #[.nilIface,t] w fun e A=>e=.returned (.bool false)/\A=w:=by
 go_enter Tryz.func83,Tryz.ntmps83;go_wp2;go_ret;exact⟨rfl,rfl⟩
theorem jbp (t:Addr) (w:World):(ReflectliteValue.unpack (.iface 189 (.pointer (some t)))).run Tryz.prog w
  = .ok (.agg #[.pointer (some ⟨6,189,none⟩),.pointer (some ⟨w.heap.size,0,none⟩),.int .u64 150]) (w.alloc (.cells #[.pointer (some t)] 189)):=by kernel_rfl
theorem jcJ (a : Addr) (w : World) : (ReflectliteValue.methodAny (ReflectliteValue.valueError "reflectlite.Value.Type" 0) (fun t _ _ _ => ReflectliteType.toType t) #[.agg #[.pointer (some ⟨6, 189, none⟩), .pointer (some a), .int .u64 150]]).run Tryz.prog w
  = .ok (.iface 277 (.agg #[.pointer (some ⟨6,189,none⟩)])) w:=by kernel_rfl
theorem jbg (h : Value) (w : World) : (Go.method 738 277 (.agg #[h]) "Kind").run Tryz.prog w = .ok (325, h) w := by kernel_rfl
theorem jcI (w:World):((ReflectliteType.abiMethod fun t=>(fun a:Nat=>Value.int IntKind.u8 (a:Int)) <$> Rtype.kind t) #[.pointer (some ⟨6,189,none⟩)]).run Tryz.prog w=.ok (.int .u8 22) w:=by kernel_rfl
theorem jcH (w:World):((ReflectliteType.abiMethod fun t=>(fun a:Nat=>Value.int IntKind.u8 (a:Int)) <$> Rtype.kind t) #[.pointer (some ⟨6,185,none⟩)]).run Tryz.prog w=.ok (.int .u8 22) w:=by kernel_rfl
theorem rlm (z:Sem Value) (f:TypeId->Addr->Nat->Nat->Sem Value) (v:Value) :
  ReflectliteValue.method z f #[v]=(do match <- ReflectliteValue.parts v with | none=>z | some (t,a,fl)=>f t a fl (fl % 32)):=rfl
theorem jbb (a:Addr) (w:World):(ReflectliteValue.parts (.agg #[.pointer (some ⟨6,189,none⟩),.pointer (some a),.int .u64 150])).run Tryz.prog w=.ok (some (189,a,150)) w:=by kernel_rfl
theorem jb5 (a p:Addr) (W:World) (ha:W.cell? a=some (.pointer (some p))) :
  (ReflectliteValue.method (ReflectliteValue.valueError "reflectlite.Value.IsNil" 0) ReflectliteValue.isNil #[.agg #[.pointer (some ⟨6, 189, none⟩), .pointer (some a), .int .u64 150]]).run Tryz.prog W = .ok (.bool false) W := by
 rw[rlm];simp only[Sem.run_bind,jbb,Result.andThen];simp[ReflectliteValue.isNil,loadVar,isAgg,underlying,Tryz.underlying189,ha,Result.andThen]
theorem jbf (h : Value) (w : World) : (Go.method 738 277 (.agg #[h]) "Elem").run Tryz.prog w = .ok (341, .agg #[h]) w := by kernel_rfl
theorem jaI (h : Value) (w : World) : (Go.method 738 277 (.agg #[h]) "Implements").run Tryz.prog w = .ok (342, .agg #[h]) w := by kernel_rfl
theorem jaE (h : Value) (w : World) : (Go.method 738 277 (.agg #[h]) "AssignableTo").run Tryz.prog w = .ok (339, .agg #[h]) w := by kernel_rfl
theorem jcG (w:World):(ReflectliteType.method ReflectliteType.elem #[.agg #[.pointer (some ⟨6,189,none⟩)]]).run Tryz.prog w=.ok (.iface 277 (.agg #[.pointer (some ⟨6,185,none⟩)])) w:=by kernel_rfl
theorem ja0 (w : World) : (ReflectliteType.relation "Implements" ReflectliteType.implements_ #[.agg #[.pointer (some ⟨6, 185, none⟩)], .iface 277 (.agg #[.pointer (some ⟨6, 88, none⟩)])]).run Tryz.prog w = .ok (.bool true) w := by kernel_rfl
theorem jbR (v:Value) (w:World):(ReflectliteType.typeOf #[.iface 185 v]).run Tryz.prog w=.ok (.iface 277 (.agg #[.pointer (some ⟨6,185,none⟩)])) w:=by kernel_rfl
theorem jaZ (w : World) : (ReflectliteType.relation "AssignableTo" ReflectliteType.assignableTo #[.agg #[.pointer (some ⟨6, 185, none⟩)], .iface 277 (.agg #[.pointer (some ⟨6, 185, none⟩)])]).run Tryz.prog w = .ok (.bool true) w := by kernel_rfl
theorem jbo (e:Addr) (w:World):(ReflectliteValue.unpack (.iface 185 (.pointer (some e)))).run Tryz.prog w
  = .ok (.agg #[.pointer (some ⟨6,185,none⟩),.pointer (some ⟨w.heap.size,0,none⟩),.int .u64 150]) (w.alloc (.cells #[.pointer (some e)] 185)):=by kernel_rfl
theorem jbP (w:World):(Rtype.elem? 189).run Tryz.prog w=.ok (some 185) w:=by kernel_rfl
theorem jez (p:Addr) (w:World):(ReflectliteValue.mk 185 p ReflectliteValue.flagAddr).run Tryz.prog w=.ok (.agg #[.pointer (some ⟨6,185,none⟩),.pointer (some p),.int .u64 406]) w:=by kernel_rfl
theorem jb4 (a p:Addr) (W:World) (ha:W.cell? a=some (.pointer (some p))) :
  (ReflectliteValue.method (ReflectliteValue.valueError "reflectlite.Value.Elem" 0) ReflectliteValue.elem #[.agg #[.pointer (some ⟨6, 189, none⟩), .pointer (some a), .int .u64 150]]).run Tryz.prog W
   = .ok (.agg #[.pointer (some ⟨6,185,none⟩),.pointer (some p),.int .u64 406]) W:=by
 rw[rlm];simp only[Sem.run_bind,jbb,Result.andThen];simp[ReflectliteValue.elem,loadVar,isAgg,underlying,Tryz.underlying189,ha,Result.andThen,jbP,jez]
theorem rls (v x:Value):ReflectliteValue.set #[v,x]=(do
  let (some (dst,a,fl),some (src,b,_)):=(<- ReflectliteValue.parts v,<- ReflectliteValue.parts x)
   | unsupported (.noEntry "extern/(internal/reflectlite.Value).Set.zeroValue")
  if fl / ReflectliteValue.flagAddr % 2 == 0 then unsupported (.noEntry "extern/(internal/reflectlite.Value).Set.unaddressable")
  let val <- loadVar src b;if <- Rtype.directlyAssignable dst src then storeVar dst a val
  else if <- Rtype.implements dst src then
   if (<- Rtype.kind src)==20 then
    match val with
    | .nilIface => unsupported (.noEntry "extern/reflectlite: a nil value of one interface type handed on as a value of another")
    | _=>storeVar dst a val
   else storeVar dst a (.iface src val)
  else panicString ("reflectlite.Set: value of type " ++ (<- Rtype.spelt src) ++ " is not assignable to type " ++ (<- Rtype.spelt dst))
  pure (.tuple #[])):=rfl
theorem jbQ (a:Addr) (w:World):(ReflectliteValue.parts (.agg #[.pointer (some ⟨6,185,none⟩),.pointer (some a),.int .u64 406])).run Tryz.prog w=.ok (some (185,a,406)) w:=by kernel_rfl
theorem jb6 (a:Addr) (w:World):(ReflectliteValue.parts (.agg #[.pointer (some ⟨6,185,none⟩),.pointer (some a),.int .u64 150])).run Tryz.prog w=.ok (some (185,a,150)) w:=by kernel_rfl
theorem jbO (w:World):(Rtype.directlyAssignable 185 185).run Tryz.prog w=.ok true w:=by kernel_rfl
theorem jdh (ta b e:Addr) (A:Value) (W:World) (B:W.cell? b=some (.pointer (some e))) (ht:W.cell? ta=some A) (C:W.frozen? ta=false) :
  (ReflectliteValue.set #[.agg #[.pointer (some ⟨6,185,none⟩),.pointer (some ta),.int .u64 406],.agg #[.pointer (some ⟨6,185,none⟩),.pointer (some b),.int .u64 150]]).run Tryz.prog W
   = .ok (.tuple #[]) (W.setCell ta (.pointer (some e))):=by
 rw[rls];simp only[Sem.run_bind,jbQ,jb6,Result.andThen];simp[ReflectliteValue.flagAddr,loadVar,isAgg,underlying,Tryz.underlying185,B,Result.andThen,jbO,storeVar,Value.cells,storeCells,Addr.add];rw[run_store Tryz.prog W ta _ _ (by rfl)];simp[ht,C]
theorem jfR (e t:Addr) (C:Value) (w:World) (F:w.cell? ⟨0,0,none⟩=some (.iface 277 (.agg #[.pointer (some ⟨6,88,none⟩)]))) (A:w.cell? t=some C) (D:w.frozen? t=false) :
  Calls Tryz.prog 83 #[.iface 185 (.pointer (some e)),.iface 189 (.pointer (some t))] w fun I X=>I=.returned (.bool true)/\X=((((w.alloc (.cells #[.pointer (some t)] 189)).alloc (.cells #[.pointer (some ⟨6,189,none⟩),.pointer (some ⟨w.heap.size,0,none⟩),.int .u64 150] 222)).alloc (.cells #[.pointer (some ⟨6,189,none⟩),.pointer (some ⟨w.heap.size,0,none⟩),.int .u64 150] 222)).alloc (.cells #[.pointer (some e)] 185)).setCell t (.pointer (some e)):=by
 have b:=@run_callFunc_extern Tryz.prog 103 _ (fun args=>ReflectliteValue.unpack (args.getD 0 (.tuple #[]))) Tryz.func103 (by kernel_rfl) (by kernel_rfl) (by kernel_rfl) (by kernel_rfl);have c := @run_callFunc_extern Tryz.prog 104 _ (ReflectliteValue.methodAny (ReflectliteValue.valueError "reflectlite.Value.Type" 0) (fun t _ _ _ => ReflectliteType.toType t)) Tryz.func104 (by kernel_rfl) (by kernel_rfl) (by kernel_rfl) (by kernel_rfl);have d := @run_callFunc_extern Tryz.prog 105 _ (ReflectliteValue.method (ReflectliteValue.valueError "reflectlite.Value.IsNil" 0) ReflectliteValue.isNil) Tryz.func105 (by kernel_rfl) (by kernel_rfl) (by kernel_rfl) (by kernel_rfl);have N:=@run_callFunc_extern Tryz.prog 325 _ (ReflectliteType.abiMethod fun t=>do pure (.int .u8 (<- Rtype.kind t))) Tryz.func325 (by kernel_rfl) (by kernel_rfl) (by kernel_rfl) (by kernel_rfl);have P:=@run_callFunc_extern Tryz.prog 341 _ (ReflectliteType.method ReflectliteType.elem) Tryz.func341 (by kernel_rfl) (by kernel_rfl) (by kernel_rfl) (by kernel_rfl);have Q := @run_callFunc_extern Tryz.prog 342 _ (ReflectliteType.relation "Implements" ReflectliteType.implements_) Tryz.func342 (by kernel_rfl) (by kernel_rfl) (by kernel_rfl) (by kernel_rfl);have J:=@run_callFunc_extern Tryz.prog 128 _ ReflectliteType.typeOf Tryz.func128 (by kernel_rfl) (by kernel_rfl) (by kernel_rfl) (by kernel_rfl)
 have O := @run_callFunc_extern Tryz.prog 339 _ (ReflectliteType.relation "AssignableTo" ReflectliteType.assignableTo) Tryz.func339 (by kernel_rfl) (by kernel_rfl) (by kernel_rfl) (by kernel_rfl);have L := @run_callFunc_extern Tryz.prog 129 _ (ReflectliteValue.method (ReflectliteValue.valueError "reflectlite.Value.Elem" 0) ReflectliteValue.elem) Tryz.func129 (by kernel_rfl) (by kernel_rfl) (by kernel_rfl) (by kernel_rfl);have M:=@run_callFunc_extern Tryz.prog 130 _ ReflectliteValue.set Tryz.func130 (by kernel_rfl) (by kernel_rfl) (by kernel_rfl) (by kernel_rfl);have m:=jbR;have f:=jaE;have G:=jaZ;have V:=jbo;have Z:=jbp;have a:=jcJ;have j:=jbg;have g:=jbf;have i:=jaI;have U:=jcI;have T:=jcH;have H:=jcG;have S:=ja0;have k:=jb5 ⟨w.heap.size,0,none⟩ t ((w.alloc (.cells #[.pointer (some t)] 189)).alloc (.cells #[.pointer (some ⟨6,189,none⟩),.pointer (some ⟨w.heap.size,0,none⟩),.int .u64 150] 222)) (by simp);have E:0<w.heap.size:=World.block_lt_of_cell? w _ F
 have R:((w.alloc (.cells #[.pointer (some t)] 189)).alloc (.cells #[.pointer (some ⟨6,189,none⟩),.pointer (some ⟨w.heap.size,0,none⟩),.int .u64 150] 222)).cell? ⟨0,0,none⟩=some (.iface 277 (.agg #[.pointer (some ⟨6,88,none⟩)])):=by
  rw[World.cell?_alloc_lt _ _ ⟨0,0,none⟩ (by simp<;>omega),World.cell?_alloc_lt _ _ ⟨0,0,none⟩ E];exact F
 have B:t.block<w.heap.size:=by
  rcases Nat.lt_or_ge t.block w.heap.size with h | h
  ·exact h
  ·simp[World.cell?,Array.getElem?_eq_none h] at A
 have Y:=jb4 ⟨w.heap.size,0,none⟩ t (((w.alloc (.cells #[.pointer (some t)] 189)).alloc (.cells #[.pointer (some ⟨6,189,none⟩),.pointer (some ⟨w.heap.size,0,none⟩),.int .u64 150] 222)).alloc (.cells #[.pointer (some ⟨6,189,none⟩),.pointer (some ⟨w.heap.size,0,none⟩),.int .u64 150] 222)) (by rw[World.cell?_alloc_lt _ _ ⟨w.heap.size,0,none⟩ (by simp;omega)];simp)
 have l:=jdh t ⟨w.heap.size+1+1+1,0,none⟩ e C ((((w.alloc (.cells #[.pointer (some t)] 189)).alloc (.cells #[.pointer (some ⟨6,189,none⟩),.pointer (some ⟨w.heap.size,0,none⟩),.int .u64 150] 222)).alloc (.cells #[.pointer (some ⟨6,189,none⟩),.pointer (some ⟨w.heap.size,0,none⟩),.int .u64 150] 222)).alloc (.cells #[.pointer (some e)] 185))
  (by rw[World.cell?_alloc_at _ _ _ _ (by simp)];rfl)
  (by rw[World.cell?_alloc_lt _ _ t (by simp;omega),World.cell?_alloc_lt _ _ t (by simp;omega),World.cell?_alloc_lt _ _ t (by simp;omega),World.cell?_alloc_lt _ _ t B];exact A)
  (by rw[World.frozen?_alloc_old _ _ t (by simp;omega),World.frozen?_alloc_old _ _ t (by simp;omega),World.frozen?_alloc_old _ _ t (by simp;omega),World.frozen?_alloc_old _ _ t (Nat.ne_of_lt B)];exact D)
 go_enter Tryz.func83,Tryz.ntmps83;go_wp2;refine wp_loop_rounds 1 ?_;rw[rounds_succ];go_wp2;go_ret;exact⟨rfl,rfl⟩
def GT (w:World):Prop:=w.cell? ⟨0,0,none⟩=some (.iface 277 (.agg #[.pointer (some ⟨6,88,none⟩)]))
theorem GT.lt {w:World} (h:GT w):0<w.heap.size:=World.block_lt_of_cell? w _ h
theorem GT.go {w A:World} (h:GT w) (B:Bw w A):GT A:=(B.cell (p:=⟨0,0,none⟩) h.lt).trans h
theorem errno_nil (w:World):CR 58 #[.nilIface] w (.int .i64 0):=by
 have A:=fun t=>jfS t (w.alloc (.cells #[.pointer none] 185))
 go_enter Tryz.func58,Tryz.ntmps58;go_wp2_with fail;refine (A _).mono ?_;rintro e B ⟨rfl,rfl⟩;go_wp2_with fail;go_ret;exact⟨rfl,(Below.refl _ w).alloc (Nat.le_refl _) _⟩
theorem errno_fault (v:Value) (R:Int) (w:World) (S:GT w) (V:FaultAt w v R):CR 58 #[v] w (.int .i64 R):=by
 obtain⟨b,rfl,Q⟩:=V;obtain⟨I,T,C,A,X⟩:=jab w #[.pointer none] 185;have P:=jfR ⟨b,0,none⟩ ⟨w.heap.size,0,none⟩ (.pointer none) I (S.go A) (cCc C 0) (cFz C 0);obtain⟨D,F⟩:∃ D,(((I.alloc (.cells #[.pointer (some ⟨w.heap.size,0,none⟩)] 189)).alloc (.cells #[.pointer (some ⟨6,189,none⟩),.pointer (some ⟨I.heap.size,0,none⟩),.int .u64 150] 222)).alloc (.cells #[.pointer (some ⟨6,189,none⟩),.pointer (some ⟨I.heap.size,0,none⟩),.int .u64 150] 222)).alloc (.cells #[.pointer (some ⟨b,0,none⟩)] 185)=D:=⟨_,rfl⟩
 have B:Bw I D:=by
  rw[<- F];exact ((((Below.refl _ I).alloc (Nat.le_refl _) _).alloc (by simp<;>omega) _).alloc (by simp<;>omega) _).alloc (by simp<;>omega) _
 rw[F] at P;have L:=known B (Nat.le_refl _) C;have U:=(Array.getElem?_eq_some_iff.1 Q).1;have M:=known (A.trans (B.mono A.size)) (Nat.le_refl _) Q;have G:(D.setCell ⟨w.heap.size,0,none⟩ (.pointer (some ⟨b,0,none⟩))).heap[w.heap.size]? = some (.cells #[.pointer (some ⟨b,0,none⟩)] 185 (0,0)):=hSk L _;have H:=(jay (W:=D) (p:=⟨w.heap.size,0,none⟩) (b:=b) (by show w.heap.size≠b;omega) (.pointer (some ⟨b,0,none⟩))).trans M;have E:Bw w (D.setCell ⟨w.heap.size,0,none⟩ (.pointer (some ⟨b,0,none⟩))):=(A.trans (B.mono A.size)).setCell (p:=⟨w.heap.size,0,none⟩) (Nat.le_refl _) _;obtain⟨N,J⟩:∃ N,D.setCell ⟨w.heap.size,0,none⟩ (.pointer (some ⟨b,0,none⟩))=N:=⟨_,rfl⟩;rw[J] at P G H E;have Y:N.cell? ⟨w.heap.size,0,none⟩=some (.pointer (some ⟨b,0,none⟩)):=cCc G 0;have Z:N.cell? ⟨b,0,none⟩=some (.int .i64 R):=cCc H 0;have O:=Lib.hid E;clear S Q C A F B L M G H E J;go_enter Tryz.func58,Tryz.ntmps58;go_wp2_with fail;refine P.mono ?_;rintro e a ⟨rfl,rfl⟩;go_wp2_with fail;go_ret;exact⟨rfl,O.out⟩
end Go.Proofs.YtlmlcadcdhhlcaaGreatDoor.Fr
namespace Go.Proofs.YtlmlcadcdhhlcaaGreatDoor
open Go Go.RowKit Go.Shelf
theorem jfz (s:ByteArray) (h:s.size=0) (w:World):Calls Tryz.prog 57 #[.string s] w fun e E=>∃ v,e=.returned (.tuple #[.string ⟨#[]⟩,.string s,v])/\Fr.FaultAt E v 20/\Bw w E:=by
 have A:s.toList.isEmpty=true:=by rw[jag,h];rfl
 have F:s.toList=[]:=List.isEmpty_iff.1 A;obtain⟨W,G,D,C,-⟩:=jab w #[.int .i64 20] 187;have B:Hid (Fr.FaultAt W (.iface 185 (.pointer (some ⟨w.heap.size,0,none⟩))) 20/\Bw w W):=⟨⟨_,rfl,D⟩,C⟩;clear D C;go_enter Tryz.func57,Tryz.ntmps57;go_wp2_with fail;refine jau 0 rfl ?_;go_wp2_with fail;go_step3;refine And.intro (rfl:(0:Nat)=0) ?_;go_wp2_with fail;rw[Exit.noGoto_ret];go_ret3;exact⟨_,rfl,B.out.1,B.out.2⟩
theorem jgx (s:ByteArray) (f:UInt8) (B:0<s.size) (L:s[0]'B=f) (h:f≠167) (w:World):Calls Tryz.prog 57 #[.string s] w fun e F=>∃ v,e=.returned (.tuple #[.string ⟨#[]⟩,.string s,v])/\Fr.FaultAt F v 30/\Bw w F:=by
 have A:s.toList.isEmpty=false:=by
  rw[jag,beq_eq_false_iff_ne];omega
 have H:¬ s.toList=[]:=by
  intro e;rw[e] at A
  cases A
 have G:¬ (f.toNat:Int)=167:=fun e=>h (UInt8.toNat_inj.1 (by have h:(167:UInt8).toNat=167:=rfl;omega))
 have I:((f.toNat:Int)==167)=false:=by rw[beq_eq_false_iff_ne];exact G
 obtain⟨W,J,E,D,-⟩:=jab w #[.int .i64 30] 187;have C:Hid (Fr.FaultAt W (.iface 185 (.pointer (some ⟨w.heap.size,0,none⟩))) 30/\Bw w W):=⟨⟨_,rfl,E⟩,D⟩;clear E D;go_enter Tryz.func57,Tryz.ntmps57;go_wp2_with fail;refine jau 0 rfl ?_;go_wp2_with fail;go_step3;refine And.intro (rfl:(0:Nat)=0) ?_;go_wp2_with fail;rw[Exit.noGoto_ret];go_ret3;exact⟨_,rfl,C.out.1,C.out.2⟩
theorem jgy (s t:ByteArray) (H G:Addr) (D:0<s.size) (S:s[0]'D=167) (ht:s.extract 1 s.size=t) (N:t.size<4294967281) (M:jbA t.data.toList=.more) (w:World) (J:GF H G w):Calls Tryz.prog 57 #[.string s] w fun e O=>∃ v,e=.returned (.tuple #[.string ⟨#[]⟩,.string s,v])/\Fr.FaultAt O v 20/\Bw w O:=by
 have B:s.toList.isEmpty=false:=by
  rw[jag,beq_eq_false_iff_ne];omega
 have Q:¬ s.toList=[]:=by
  intro e;rw[e] at B
  cases B
 have A:=jbm t H G w N J;rw[M] at A;unfold jbt at A;dsimp only at A;have F:=Lib.hid A;clear A M J N;go_enter Tryz.func57,Tryz.ntmps57;go_wp2_with fail;refine jau 0 rfl ?_;go_wp2_with fail;refine F.out.mono ?_;rintro e P ⟨rfl,C⟩;obtain⟨W,R,L,I,-⟩:=jab P #[.int .i64 20] 187;have E:Hid (Fr.FaultAt W (.iface 185 (.pointer (some ⟨P.heap.size,0,none⟩))) 20/\Bw w W):=⟨⟨_,rfl,L⟩,C.trans (I.mono C.size)⟩;clear L I C F;go_wp2_with fail;go_step3;refine And.intro (rfl:(0:Nat)=0) ?_;go_wp2_with fail;rw[Exit.noGoto_ret];go_ret3;exact⟨_,rfl,E.out.1,E.out.2⟩
theorem jhm (s t:ByteArray) (H G:Addr) (D:0<s.size) (S:s[0]'D=167) (ht:s.extract 1 s.size=t) (N:t.size<4294967281) (M:jbA t.data.toList=.bad) (w:World) (J:GF H G w):Calls Tryz.prog 57 #[.string s] w fun e O=>∃ v,e=.returned (.tuple #[.string ⟨#[]⟩,.string s,v])/\Fr.FaultAt O v 30/\Bw w O:=by
 have B:s.toList.isEmpty=false:=by
  rw[jag,beq_eq_false_iff_ne];omega
 have Q:¬ s.toList=[]:=by
  intro e;rw[e] at B
  cases B
 have A:=jbm t H G w N J;rw[M] at A;unfold jbt at A;dsimp only at A;have F:=Lib.hid A;clear A M J N;go_enter Tryz.func57,Tryz.ntmps57;go_wp2_with fail;refine jau 0 rfl ?_;go_wp2_with fail;refine F.out.mono ?_;rintro e P ⟨rfl,C⟩;obtain⟨W,R,L,I,-⟩:=jab P #[.int .i64 30] 187;have E:Hid (Fr.FaultAt W (.iface 185 (.pointer (some ⟨P.heap.size,0,none⟩))) 30/\Bw w W):=⟨⟨_,rfl,L⟩,C.trans (I.mono C.size)⟩;clear L I C F;go_wp2_with fail;go_step3;refine And.intro (rfl:(0:Nat)=0) ?_;go_wp2_with fail;rw[Exit.noGoto_ret];go_ret3;exact⟨_,rfl,E.out.1,E.out.2⟩
theorem jgz (s t:ByteArray) (H G:Addr) (n:Int) (r:List UInt8) (D:0<s.size) (X:s[0]'D=167) (ht:s.extract 1 s.size=t) (N:t.size<4294967281) (M:jbA t.data.toList=.got n r) (S:U64 n) (Q:n=0) (w:World) (J:GF H G w):Calls Tryz.prog 57 #[.string s] w fun e O=>∃ v,e=.returned (.tuple #[.string ⟨#[]⟩,.string s,v])/\Fr.FaultAt O v 30/\Bw w O:=by
 have B:s.toList.isEmpty=false:=by
  rw[jag,beq_eq_false_iff_ne];omega
 have R:¬ s.toList=[]:=by
  intro e;rw[e] at B
  cases B
 have A:=jbm t H G w N J;rw[M] at A;unfold jbt at A;dsimp only at A;have F:=Lib.hid A;obtain⟨T,U⟩:=S;subst Q;clear A M J N;go_enter Tryz.func57,Tryz.ntmps57;go_wp2_with fail;refine jau 0 rfl ?_;go_wp2_with fail;refine F.out.mono ?_;rintro e P ⟨rfl,C⟩;obtain⟨W,V,L,I,-⟩:=jab P #[.int .i64 30] 187;have E:Hid (Fr.FaultAt W (.iface 185 (.pointer (some ⟨P.heap.size,0,none⟩))) 30/\Bw w W):=⟨⟨_,rfl,L⟩,C.trans (I.mono C.size)⟩;clear L I C F;go_wp2_with fail;go_step3;refine And.intro (rfl:(0:Nat)=0) ?_;go_wp2_with fail;rw[Exit.noGoto_ret];go_ret3;exact⟨_,rfl,E.out.1,E.out.2⟩
theorem jgw (s t:ByteArray) (H G:Addr) (n:Int) (r:List UInt8) (D:0<s.size) (Y:s[0]'D=167) (ht:s.extract 1 s.size=t) (N:t.size<4294967281) (M:jbA t.data.toList=.got n r) (S:U64 n) (V:2000<n) (w:World) (J:GF H G w):Calls Tryz.prog 57 #[.string s] w fun e O=>∃ v,e=.returned (.tuple #[.string ⟨#[]⟩,.string s,v])/\Fr.FaultAt O v 30/\Bw w O:=by
 have B:s.toList.isEmpty=false:=by
  rw[jag,beq_eq_false_iff_ne];omega
 have R:¬ s.toList=[]:=by
  intro e;rw[e] at B
  cases B
 have A:=jbm t H G w N J;rw[M] at A;unfold jbt at A;dsimp only at A;have F:=Lib.hid A;obtain⟨T,U⟩:=S;have Q:¬ n=0:=by omega
 clear A M J N;go_enter Tryz.func57,Tryz.ntmps57;go_wp2_with fail;refine jau 0 rfl ?_;go_wp2_with fail;refine F.out.mono ?_;rintro e P ⟨rfl,C⟩;obtain⟨W,X,L,I,-⟩:=jab P #[.int .i64 30] 187;have E:Hid (Fr.FaultAt W (.iface 185 (.pointer (some ⟨P.heap.size,0,none⟩))) 30/\Bw w W):=⟨⟨_,rfl,L⟩,C.trans (I.mono C.size)⟩;clear L I C F;go_wp2_with fail;go_step3;refine And.intro (rfl:(0:Nat)=0) ?_;go_wp2_with fail;rw[Exit.noGoto_ret];go_ret3;exact⟨_,rfl,E.out.1,E.out.2⟩
theorem jfA (s t:ByteArray) (J I:Addr) (n:Int) (r:List UInt8) (D:0<s.size) (d:s[0]'D=167) (ht:s.extract 1 s.size=t) (P:t.size<4294967281) (O:jbA t.data.toList=.got n r) (V:U64 n) (Z:0<n) (a:n<=2000) (f:r.length<4294967281) (b:(r.length:Int)<n+4) (w:World) (M:GF J I w):Calls Tryz.prog 57 #[.string s] w fun e Q=>∃ v,e=.returned (.tuple #[.string ⟨#[]⟩,.string s,v])/\Fr.FaultAt Q v 20/\Bw w Q:=by
 have B:s.toList.isEmpty=false:=by
  rw[jag,beq_eq_false_iff_ne];omega
 have U:¬ s.toList=[]:=by
  intro e;rw[e] at B
  cases B
 have A:=jbm t J I w P M;rw[O] at A;unfold jbt at A;dsimp only at A;have H:=Lib.hid A;obtain⟨X,Y⟩:=V;have S:¬ n=0:=by omega
 have E:¬ 2000<n:=by omega
 have F:(n==0)=false:=by rw[beq_eq_false_iff_ne];omega
 have T:(n==0||decide (2000<n))=false:=by rw[F,decide_eq_false E];rfl
 clear A O M P;go_enter Tryz.func57,Tryz.ntmps57;go_wp2_with fail;refine jau 0 rfl ?_;go_wp2_with fail;refine H.out.mono ?_;rintro e R ⟨rfl,C⟩;obtain⟨W,c,N,L,-⟩:=jab R #[.int .i64 20] 187;have G:Hid (Fr.FaultAt W (.iface 185 (.pointer (some ⟨R.heap.size,0,none⟩))) 20/\Bw w W):=⟨⟨_,rfl,N⟩,C.trans (L.mono C.size)⟩;clear N L C H;go_wp2_with fail;go_step3;refine And.intro (rfl:(0:Nat)=0) ?_;go_wp2_with fail;rw[Exit.noGoto_ret];go_ret3;exact⟨_,rfl,G.out.1,G.out.2⟩
end Go.Proofs.YtlmlcadcdhhlcaaGreatDoor
