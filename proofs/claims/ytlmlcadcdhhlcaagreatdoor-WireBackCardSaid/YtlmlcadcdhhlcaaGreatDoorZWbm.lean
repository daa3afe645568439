/- Package collector: New of one config. Printed by gen_wtn.py. Package aviarylaw20: shown. Law WireBack: what is put and got, as functions of the plain data. Law WireBack. Printed by gen_wbl.py. Law WireBack, in the card's order. -/
import Derived.Test.YtlmlcadcdhhlcaaGreatDoorZWz
set_option maxHeartbeats 16000000
set_option maxRecDepth 100000
namespace Go.Proofs.YtlmlcadcdhhlcaaGreatDoor
open Go Go.RowKit Go.Shelf
section
theorem jhz:Tryz.prog.underlying 121=some (.slice 124):=by kernel_rfl
theorem jge:(Tryz.prog.info? 124).map (fun i=>(i.zero,i.size,i.bytes))=some (some (.pointer none),1,8):=by kernel_rfl
attribute [-go_sem] Builtin.append_
theorem jeE (A B H G E:Int) (g c:Nat) (w:World) (hu:U64 H) (ah:0<=G) (ai:G<=1000000) (h0:w.heap[g]? = some (.cells #[.int .u64 H,.int .i64 G,.int .u64 E] 41 (0,0))) :
  Calls Tryz.prog 21 #[.agg #[.int .u64 A,.int .u64 B],.slice (some ⟨g,0,none⟩) 1 c] w fun e Z=>∃ b,e=.returned (.tuple #[.pointer (some ⟨b,0,none⟩),.int .i64 0])/\Bw w Z:=by
 have HN:=Lib.hid fun X Y V=>jhv H G E X Y V ah ai
 have HK:=Lib.hid fun V=>jhJ A B H V hu
 obtain⟨W,hW,J,L,m,hs⟩:=jbq w #[.int .u64 A,.int .u64 B] 24 #[.int .u64 A,.int .u64 B,.slice none 0 0,.slice none 0 0] 123;have ad:=known m (Nat.le_refl _) h0;obtain⟨l0,l1,l2⟩:=cl3 ad;obtain⟨k0,k1⟩:=cl2 J;have HX:=Lib.hid (And.intro J (And.intro L (And.intro m hs)));clear J L m hs h0 ad hu ah ai;go_enter Tryz.func21,Tryz.ntmps21;go_wp2_with fail;go_loopw [24] (fun i wr=>(i=.int .i64 0/\wr=W)\/(i=.int .i64 1/\Hid (Bw w wr))) (fun i _=>1-(intOf i).toNat)
 case atStart=>exact .inl ⟨rfl,rfl⟩
 case round =>
  rcases hrel with⟨rfl,rfl⟩ | ⟨rfl,h1⟩
  ·obtain⟨J,L,m,hs⟩:=HX.out
   have ak:Hid (w.heap.size+1<wr.heap.size):=by rw[Hid];omega
   obtain⟨V,hV,s,T,am⟩:=jab wr #[.int .u64 H,.int .i64 G,.int .u64 E] 41;have q:=known T (Nat.le_refl _) L;have v2:V.cell? ⟨w.heap.size+1,2,none⟩=some (.slice none 0 0):=cCc q 2;obtain⟨m0,m1,m2⟩:=cl3 s;have aj:=Lib.hid (jf8 (w.heap.size+1) H V v2);obtain⟨D,t⟩:∃ D,V.drew=D:=⟨_,rfl⟩;have r:D.heap[wr.heap.size]? = some (.cells #[.int .u64 H,.int .i64 G,.int .u64 E] 41 (0,0)):=by rw[<- t];exact s
   have a:D.heap[w.heap.size]? = some (.cells #[.int .u64 A,.int .u64 B] 24 (0,0)):=by rw[<- t];exact (known T (Nat.le_refl _) J:V.heap[w.heap.size]? = _)
   have d:D.heap[w.heap.size+1]? = some (.cells #[.int .u64 A,.int .u64 B,.slice none 0 0,.slice none 0 0] 123 (0,0)):=by rw[<- t];exact q
   have n:Bw w D:=by rw[<- t];exact (m.trans (T.mono m.size)).drew
   have HF:Hid (∀ Y,Bw D Y->Y.cell? ⟨wr.heap.size,0,none⟩=some (.int .u64 H)/\Y.cell? ⟨wr.heap.size,1,none⟩=some (.int .i64 G)/\Y.cell? ⟨wr.heap.size,2,none⟩=some (.int .u64 E)/\Y.cell? ⟨w.heap.size,0,none⟩=some (.int .u64 A)/\Y.cell? ⟨w.heap.size,1,none⟩=some (.int .u64 B)):=fun Y u=>by
    have O:=known u (Nat.le_refl _) r;have Q:=known u (Nat.le_refl _) a;exact⟨cCc O 0,cCc O 1,cCc O 2,cCc Q 0,cCc Q 1⟩
   have HG:Hid (∀ Y,Bw D Y->Y.drew.heap[wr.heap.size]? = some (.cells #[.int .u64 H,.int .i64 G,.int .u64 E] 41 (0,0))/\Y.drew.heap[w.heap.size+1]? = some (.cells #[.int .u64 A,.int .u64 B,.slice none 0 0,.slice none 0 0] 123 (0,0))/\w.heap.size+1<Y.drew.heap.size/\Hid (Bw w Y.drew/\w.heap.size<=Y.drew.heap.size)):=fun Y u=>by
    have O:=known u (Nat.le_refl _) r;have Q:=known u (Nat.le_refl _) d;have f:=(n.trans (u.mono n.size)).drew;exact⟨O,Q,(Array.getElem?_eq_some_iff.1 Q).1,f,f.size⟩
   obtain⟨d0,d1,d2,d3,d4⟩:=HF.out D (Below.refl _ _);have HD:=Lib.hid t;clear J L m hs s T am q t r a d n v2;go_wp2_with fail;refine aj.out.mono ?_;rintro e w1 ⟨rfl,hw⟩;have hw:=hw.symm;subst hw;go_wp2_with fail;refine wp_region_held_drew (S:=fun Z=>Z.cell? ⟨wr.heap.size,0,none⟩=some (.int .u64 H)/\Z.cell? ⟨wr.heap.size,1,none⟩=some (.int .i64 G)/\Z.cell? ⟨wr.heap.size,2,none⟩=some (.int .u64 E)/\Z.cell? ⟨w.heap.size,0,none⟩=some (.int .u64 A)/\Z.cell? ⟨w.heap.size,1,none⟩=some (.int .u64 B)) (by kernel_rfl) (by rw[HD.out];exact⟨d0,d1,d2,d3,d4⟩) (fun F=>?_);rw[HD.out] at F ⊢;refine wpAnyH_take (i:=0) (v:=?_) rfl (by kernel_rfl) (by kernel_rfl) (by kernel_rfl) (fun _ _ _ h=>h) (Or.inl ⟨by rfl,?_⟩) (by assumption) ?_;rotate_left
   ·intro w C;go_split_ands;go_simp;with_reducible rfl
   refine wpAnyH_take (i:=1) (v:=?_) rfl (by kernel_rfl) (by kernel_rfl) (by kernel_rfl) (fun _ _ _ h=>h) (Or.inl ⟨by rfl,?_⟩) (by assumption) ?_;rotate_left
   ·intro w C;go_split_ands;go_simp;with_reducible rfl
   refine wpAnyH_take (i:=2) (v:=?_) rfl (by kernel_rfl) (by kernel_rfl) (by kernel_rfl) (fun _ _ _ h=>h) (Or.inl ⟨by rfl,?_⟩) (by assumption) ?_;rotate_left
   ·intro w C;go_simp;with_reducible rfl
   refine wpAnyH_take (i:=3) (v:=?_) rfl (by kernel_rfl) (by kernel_rfl) (by kernel_rfl) (fun _ _ _ h=>h) (Or.inl ⟨by rfl,?_⟩) (by assumption) ?_;rotate_left
   ·intro w C;go_split_ands;go_simp;with_reducible rfl
   refine wpAnyH_ready (rs:=[4]) (by kernel_rfl) (by simp) ?_;refine AllReadyH.cons rfl (fun K hK=>?_) ?_
   ·go_simp
    refine (HK.out _).mono ?_;rintro e x1 ⟨rfl,f⟩;have k:=Lib.hid f;clear f;refine hK.out _ _ ?_ (fun F=>?_)
    ·exact HF.out _ k.out
    clear hK K;refine wpAnyH_ready (rs:=[5]) (by kernel_rfl) (by simp) ?_;refine AllReadyH.cons rfl (fun K hK=>?_) ?_
    ·go_simp
     refine (HN.out _ _ _).mono ?_;rintro e x2 ⟨tb,rfl,f⟩;have ab:Hid (Bw D x2):=k.out.trans (f.mono k.out.size);clear f;refine hK.out _ _ ?_ (fun F=>?_)
     ·exact HF.out _ ab.out
     clear hK K;refine wpAnyH_take (i:=6) (v:=?_) rfl (by kernel_rfl) (by kernel_rfl) (by kernel_rfl) (fun _ _ _ h=>h) (Or.inl ⟨by rfl,?_⟩) (by assumption) ?_;rotate_left
     ·intro w C;go_simp;with_reducible rfl
     refine wpAnyH_take (i:=7) (v:=?_) rfl (by kernel_rfl) (by kernel_rfl) (by kernel_rfl) (fun _ _ _ h=>h) (Or.inl ⟨by rfl,?_⟩) (by assumption) ?_;rotate_left
     ·intro w C;go_simp;with_reducible rfl
     refine wpAnyH_take (i:=8) (v:=?_) rfl (by kernel_rfl) (by kernel_rfl) (by kernel_rfl) (fun _ _ _ h=>h) (Or.inl ⟨by rfl,?_⟩) (by assumption) ?_;rotate_left
     ·intro w C;go_simp;with_reducible rfl
     refine wpAnyH_ready (rs:=[9]) (by kernel_rfl) (by simp) ?_;refine AllReadyH.cons rfl (fun K hK=>?_) ?_
     ·go_simp
      refine hK.out _ _ ?_ (fun F=>?_)
      ·exact F
      clear hK K;refine wpAnyH_ready (rs:=[10]) (by kernel_rfl) (by simp) ?_;refine AllReadyH.cons rfl (fun K hK=>?_) ?_
      ·go_simp
       refine hK.out _ _ ?_ (fun F=>?_)
       ·exact F
       clear hK K;refine wpAnyH_done (by kernel_rfl) ?_ _;clear F d0 d1 d2 d3 d4;obtain⟨y,O,Q,HT⟩:=HG.out x2 ab.out;obtain⟨P,o⟩:∃ P,x2.drew=P:=⟨_,rfl⟩;rw[o] at y O Q HT;have z:=Lib.hid o;clear o;obtain⟨g4,I,x,al,-,ae,an,N,-⟩:=jam Tryz.prog 46 jdA jdp rfl (by decide) (World.ownsRow_nil P P.heap.size 22 1) (Below.refl w.heap.size P) (HT.out.2) (Nat.le_refl _) [.int .u64 H] rfl (by simp[Value.oneCell']) (by decide) (by decide);simp only[Nat.zero_add] at al;have c2:P.cell? ⟨w.heap.size+1,2,none⟩=some (.slice none 0 0):=cCc O 2;have ap:(P.alloc (.cells #[.int .u64 H] 22)).cell? ⟨w.heap.size+1,2,none⟩=some (.slice none 0 0):=cCc ((Below.heap_alloc _ _ _ Q).trans O) 2;have i0:P.cell? ⟨wr.heap.size,0,none⟩=some (.int .u64 H):=cCc y 0;have yl:=(Array.getElem?_eq_some_iff.1 y).1;have j0:(P.alloc (.cells #[.int .u64 H] 22)).cell? ⟨wr.heap.size,0,none⟩=some (.int .u64 H):=cCc ((Below.heap_alloc _ _ _ yl).trans y) 0;have z1:x.heap[w.heap.size+1]? = some (.cells #[.int .u64 A,.int .u64 B,.slice none 0 0,.slice none 0 0] 123 (0,0)):=(N _ Q).trans O;have z0:=(N _ yl).trans y;have j4:x.cell? ⟨wr.heap.size,0,none⟩=some (.int .u64 H):=cCc z0 0;have c4:x.cell? ⟨w.heap.size+1,2,none⟩=some (.slice none 0 0):=cCc z1 2;have f4:x.frozen? ⟨w.heap.size+1,2,none⟩=false:=cFz z1 2;obtain⟨R,U⟩:∃ R,x.setCell ⟨w.heap.size+1,2,none⟩ (.slice (some ⟨g4,0,none⟩) 1 I)=R:=⟨_,rfl⟩
       have j5:(x.setCell ⟨w.heap.size+1,2,none⟩ (.slice (some ⟨g4,0,none⟩) 1 I)).cell? ⟨wr.heap.size,0,none⟩=some (.int .u64 H):=cCc ((Below.heap_setCell _ _ _ _ (by have:=ak.out;show wr.heap.size≠w.heap.size+1;omega)).trans z0) 0;have z2:R.heap[w.heap.size+1]? = some (.cells #[.int .u64 A,.int .u64 B,.slice (some ⟨g4,0,none⟩) 1 I,.slice none 0 0] 123 (0,0)):=by rw[<- U];exact hSk z1 _
       have af:Below w.heap.size P R:=by rw[<- U];exact ae.setCell (p:=⟨w.heap.size+1,2,none⟩) (Nat.le_succ _) _
       have c5:R.cell? ⟨w.heap.size+1,3,none⟩=some (.slice none 0 0):=cCc z2 3;have l:w.heap.size+1<R.heap.size:=(Array.getElem?_eq_some_iff.1 z2).1;obtain⟨g6,ac,w6,M,-,ag,ao,j,-⟩:=jam Tryz.prog 121 jhz jge rfl (by decide) (World.ownsRow_nil R R.heap.size 124 1) (Below.refl w.heap.size R) (Nat.le_of_lt (Nat.lt_of_succ_lt l)) (Nat.le_refl _) [.pointer (some ⟨tb,0,none⟩)] rfl (by simp[Value.oneCell']) (by decide) (by decide);simp only[Nat.zero_add] at M;have z3:w6.heap[w.heap.size+1]? = some (.cells #[.int .u64 A,.int .u64 B,.slice (some ⟨g4,0,none⟩) 1 I,.slice none 0 0] 123 (0,0)):=(j _ l).trans z2;have c6:w6.cell? ⟨w.heap.size+1,3,none⟩=some (.slice none 0 0):=cCc z3 3;have f6:w6.frozen? ⟨w.heap.size+1,3,none⟩=false:=cFz z3 3;have HE:Hid (Bw w (w6.setCell ⟨w.heap.size+1,3,none⟩ (.slice (some ⟨g6,0,none⟩) 1 ac))):=(HT.out.1.trans (af.trans ag)).setCell (p:=⟨w.heap.size+1,3,none⟩) (Nat.le_succ _) _;have aa:=Lib.hid U;clear y O Q HT ae an N z0 z1 z2 af l ag ao j z3 U yl;go_wp2_with fail;refine wp_region_held_drew (S:=fun Z=>Z.cell? ⟨wr.heap.size,0,none⟩=some (.int .u64 H)) (by kernel_rfl) (by rw[z.out];exact i0) (fun F=>?_);rw[z.out] at F ⊢;refine wpAnyH_take (i:=0) (v:=?_) rfl (by kernel_rfl) (by kernel_rfl) (by kernel_rfl) (fun _ _ _ h=>h) (Or.inl ⟨by rfl,?_⟩) (by assumption) ?_;rotate_left
       ·intro w C;go_simp;with_reducible rfl
       refine wpAnyH_take (i:=1) (v:=?_) rfl (by kernel_rfl) (by kernel_rfl) (by kernel_rfl) (fun _ _ _ h=>h) (Or.inl ⟨by rfl,?_⟩) (by assumption) ?_;rotate_left
       ·intro w C;go_simp;with_reducible rfl
       refine wpAnyH_take (i:=2) (v:=?_) rfl (by kernel_rfl) (by kernel_rfl) (by kernel_rfl) (fun _ _ _ h=>h) (Or.inl ⟨by rfl,?_⟩) (by assumption) ?_;rotate_left
       ·intro w C;go_simp;with_reducible rfl
       refine wpAnyH_take (i:=3) (v:=?_) rfl (by kernel_rfl) (by kernel_rfl) (by kernel_rfl) (fun _ _ _ h=>h) (Or.inl ⟨by rfl,?_⟩) (by assumption) ?_;rotate_left
       ·intro w C;go_simp;with_reducible rfl
       refine wpAnyH_take (i:=5) (v:=?_) rfl (by kernel_rfl) (by kernel_rfl) (by kernel_rfl) (fun _ _ _ h=>h) (Or.inl ⟨by rfl,?_⟩) (by assumption) ?_;rotate_left
       ·intro w C;go_simp;with_reducible rfl
       refine wpAnyH_take (i:=6) (v:=?_) rfl (by kernel_rfl) (by kernel_rfl) (by kernel_rfl) (fun _ _ _ h=>h) (Or.inl ⟨by rfl,?_⟩) (by assumption) ?_;rotate_left
       ·intro w C;go_split_ands;go_simp;with_reducible rfl
       refine wpAnyH_ready (rs:=[4,7]) (by kernel_rfl) (by simp) ?_;refine AllReadyH.cons rfl (fun K hK=>?_) ?_
       ·go_simp
        refine hK.out _ _ ?_ (fun F=>?_)
        ·exact F
        clear hK K;refine wpAnyH_ready (rs:=[7]) (by kernel_rfl) (by simp) ?_;refine AllReadyH.cons rfl (fun K hK=>?_) ?_
        ·go_simp
         refine hK.out _ _ ?_ (fun F=>?_)
         ·exact j0
         clear hK K;refine wpAnyH_ready (rs:=[8]) (by kernel_rfl) (by simp) ?_;refine AllReadyH.cons rfl (fun K hK=>?_) ?_
         ·go_simp
          refine hK.out _ _ ?_ (fun F=>?_)
          ·exact j4
          clear hK K;refine wpAnyH_take (i:=9) (v:=?_) rfl (by kernel_rfl) (by kernel_rfl) (by kernel_rfl) (fun _ _ _ h=>h) (Or.inl ⟨by rfl,?_⟩) (by assumption) ?_;rotate_left
          ·intro w C;go_simp;with_reducible rfl
          refine wpAnyH_take (i:=10) (v:=?_) rfl (by kernel_rfl) (by kernel_rfl) (by kernel_rfl) (fun _ _ _ h=>h) (Or.inl ⟨by rfl,?_⟩) (by assumption) ?_;rotate_left
          ·intro w C;go_simp;with_reducible rfl
          refine wpAnyH_ready (rs:=[11]) (by kernel_rfl) (by simp) ?_;refine AllReadyH.cons rfl (fun K hK=>?_) ?_
          ·go_simp
           refine hK.out _ _ ?_ (fun F=>?_)
           ·exact j5
           clear hK K;refine wpAnyH_done (by kernel_rfl) ?_ _;rw[aa.out];go_wp2_with (at_builtin;refine jby rfl _ _ _ rfl rfl rfl M ?_);refine⟨.inr ⟨rfl,HE.out⟩,by simp[intOf]⟩
          exact AllReadyH.nil
         exact AllReadyH.nil
        exact AllReadyH.nil
       refine AllReadyH.cons rfl (fun K hK=>?_) ?_
       ·go_simp
        refine hK.out _ _ ?_ (fun F=>?_)
        ·exact j0
        clear hK K;refine wpAnyH_ready (rs:=[4]) (by kernel_rfl) (by simp) ?_;refine AllReadyH.cons rfl (fun K hK=>?_) ?_
        ·go_simp
         refine hK.out _ _ ?_ (fun F=>?_)
         ·exact F
         clear hK K;refine wpAnyH_ready (rs:=[8]) (by kernel_rfl) (by simp) ?_;refine AllReadyH.cons rfl (fun K hK=>?_) ?_
         ·go_simp
          refine hK.out _ _ ?_ (fun F=>?_)
          ·exact j4
          clear hK K;refine wpAnyH_take (i:=9) (v:=?_) rfl (by kernel_rfl) (by kernel_rfl) (by kernel_rfl) (fun _ _ _ h=>h) (Or.inl ⟨by rfl,?_⟩) (by assumption) ?_;rotate_left
          ·intro w C;go_simp;with_reducible rfl
          refine wpAnyH_take (i:=10) (v:=?_) rfl (by kernel_rfl) (by kernel_rfl) (by kernel_rfl) (fun _ _ _ h=>h) (Or.inl ⟨by rfl,?_⟩) (by assumption) ?_;rotate_left
          ·intro w C;go_simp;with_reducible rfl
          refine wpAnyH_ready (rs:=[11]) (by kernel_rfl) (by simp) ?_;refine AllReadyH.cons rfl (fun K hK=>?_) ?_
          ·go_simp
           refine hK.out _ _ ?_ (fun F=>?_)
           ·exact j5
           clear hK K;refine wpAnyH_done (by kernel_rfl) ?_ _;rw[aa.out];go_wp2_with (at_builtin;refine jby rfl _ _ _ rfl rfl rfl M ?_);refine⟨.inr ⟨rfl,HE.out⟩,by simp[intOf]⟩
          exact AllReadyH.nil
         exact AllReadyH.nil
        exact AllReadyH.nil
       exact AllReadyH.nil
      exact AllReadyH.nil
     exact AllReadyH.nil
    exact AllReadyH.nil
   exact AllReadyH.nil
  ·go_wp2_with fail
   go_ret2;exact⟨_,rfl,h1.out⟩
end
def rqCost:Rq:=⟨7,0,⟨#[]⟩,⟨#[]⟩,0,[],0,0,0,[]⟩
theorem jbY:rqCost.ok=true:=by decide
theorem jei:rqCost.Wf:=⟨⟨by decide,by decide⟩,(fun i A=>by cases A),⟨by decide,by decide⟩,⟨by decide,by decide⟩,⟨by decide,by decide⟩,(fun i A=>by cases A)⟩
theorem jeN (m i:Addr) (w:World) (t:GF m i w) (hT:Fr.GT w) :
  CR 6 #[] w (.bool true):=by
 obtain⟨W,hW,hX,z,hs⟩:=jab w #[.int .u64 1,.int .i64 1000,.int .u64 9] 41;have HC:=Lib.hid (jeE 1 2 1 1000 9 w.heap.size 1 W ⟨by decide,by decide⟩ (by decide) (by decide) hX);have S:=Lib.hid z;clear hX z hs;go_enter Tryz.func6,Tryz.ntmps6;go_wp2_with fail;refine HC.out.mono ?_;rintro e H ⟨b,rfl,Z⟩;have HN:=Lib.hid (jeR ⟨b,0,none⟩ H);have C:Hid (Bw w H):=S.out.trans (Z.mono S.out.size);clear Z;go_wp2_with fail;refine HN.out.mono ?_;rintro e w2 ⟨rfl,Y,a⟩;have s:=Lib.hid Y;have N:Hid (Bw w w2):=C.out.trans (a.mono C.out.size);have HA:=Lib.hid (jik rqCost none 0 none 0 w2 jei (by decide) (by decide) ⟨rfl,fun j x u=>by cases u⟩ ⟨rfl,fun j x u=>by cases u⟩ jbY);clear a Y;go_wp2_with fail;refine HA.out.mono ?_;rintro e w3 ⟨rfl,J⟩;have A:Hid (Bw w w3):=N.out.trans (J.mono N.out.size);have T:=Lib.hid (s.out.go J)
 have X:Frames (mkF (jcY rqCost)) [jcY rqCost] [] 20:=by
  have h:=jcr jbY;have e:=jhF (l:=jcY rqCost) (fun e=>by rw[e] at h;exact absurd h.1 (by decide)) h.2 [];rw[List.append_nil] at e;exact .step e (.stop rfl)
 have o:=Lib.hid (jfK H.heap.size (.pointer (some ⟨b,0,none⟩)) ln0 ln0 ln0 ⟨(mkF (jcY rqCost)).toArray⟩ rqCost m i w3 (by decide) (fun V hV=>t.below (A.out.trans (hV.mono A.out.size))) (hT.go A.out) X jbY (jgj jbY jei) T.out rfl rfl rfl);clear J X;go_wp2_with fail;refine o.out.mono ?_;rintro e w4 ⟨rfl,F,d⟩;have D:Bw w w4:=A.out.trans (d.below (fun k hk=>by have:=C.out.size;omega) A.out.size);have O:=Lib.hid D;have p:=Lib.hid (jfL H.heap.size (.pointer (some ⟨b,0,none⟩)) ln0 ln0 ln0 ⟨#[120]⟩ ⟨#[120]⟩ 30 m i w4 (by decide) (by decide) (t.below D) (hT.go D) (.stop rfl) (by decide) F rfl rfl);clear F d D;go_wp2_with fail;refine p.out.mono ?_;rintro e w5 ⟨rfl,G,f⟩;have I:Bw w w5:=O.out.trans (f.below (fun k hk=>by have:=C.out.size;omega) O.out.size);have P:=Lib.hid I;have U:=Lib.hid G
 have g:rdF (mkF (Ry.B ⟨201,0,[],[]⟩))=.got (Ry.B ⟨201,0,[],[]⟩) []:=by
  have e:=jhF (l:=Ry.B ⟨201,0,[],[]⟩) (by decide) (by decide) [];rwa [List.append_nil] at e
 have HR:=Lib.hid (jgU ⟨(mkF (Ry.B ⟨201,0,[],[]⟩)).toArray⟩ _ _ m i w5 (by decide) (t.below I) g);clear G f I g;go_wp2_with fail;refine HR.out.mono ?_;rintro e v ⟨rfl,L⟩;have Q:Hid (Bw w v):=P.out.trans (L.mono P.out.size);have E:=Lib.hid (U.out.go L);have q:Hid (CR 12 #[.pointer (some ⟨H.heap.size,0,none⟩),.int .i64 0] v (.bool true)):=ji0 H.heap.size _ _ _ _ v E.out;have hz:(mkF (Ry.B ⟨200,0,[],[]⟩)).length=10:=by decide
 have aa:(⟨(mkF (Ry.B ⟨200,0,[],[]⟩)).toArray⟩:ByteArray).size=10:=by decide
 clear L;go_wp2_with fail;refine q.out.mono ?_;rintro e y ⟨rfl,M⟩;have R:Hid (Bw w y):=Q.out.trans (M.mono Q.out.size);have r:Hid (CR 12 #[.pointer (some ⟨H.heap.size,0,none⟩),.int .i64 1] y (.bool false)):=ji1 H.heap.size _ _ _ _ y (E.out.go M);clear M;go_wp2_with fail;refine r.out.mono ?_;rintro e w8 ⟨rfl,c⟩;have n:Hid (Bw w w8):=R.out.trans (c.mono R.out.size);clear c;go_wp2_with fail;go_ret;exact⟨rfl,n.out⟩
def zRq:Rq:=⟨0,0,⟨#[]⟩,⟨#[]⟩,0,[],0,0,0,[]⟩
def zRy:Ry:=⟨0,0,[],[]⟩
def prA (r:Rq):ByteArray:=if r.ok then ⟨r.B.toArray⟩ else ⟨#[]⟩
def prE (r:Rq):Int:=if r.ok then 0 else 200
def pyA (y:Ry):ByteArray:=if y.ok then ⟨y.B.toArray⟩ else ⟨#[]⟩
def pyE (y:Ry):Int:=if y.ok then 0 else 200
def grQ (l:List UInt8):Rq:=(jbj l).getD zRq
def grE (l:List UInt8):Int:=if (jbj l).isSome then 0 else 200
def gyQ (l:List UInt8):Ry:=(jbJ l).getD zRy
def gyE (l:List UInt8):Int:=if (jbJ l).isSome then 0 else 200
theorem jb1:U64 0:=⟨by decide,by decide⟩
theorem jiL:zRq.Wf:=⟨jb1,(fun i A=>by cases A),jb1,jb1,jb1,(fun i A=>by cases A)⟩
structure Rq.Sm (r:Rq):Prop where
 wf:r.Wf
 l:r.labels.size<=410
 s:r.scope.size<=410
structure Ry.Sm (y:Ry):Prop where
 wf:y.Wf
 t:∀ x∈y.ents,x.text.size<=410
theorem jeM {r:Rq} (h:r.ok=true):r.labels.size<=400/\r.scope.size<=400/\r.items.length<=50/\r.tens.length<=8:=by
 unfold Rq.ok at h;simp only[Bool.and_eq_true,decide_eq_true_eq] at h;obtain⟨⟨⟨⟨⟨⟨⟨_,_⟩,_⟩,_⟩,A⟩,B⟩,C⟩,D⟩:=h;exact⟨C,D,A,B⟩
theorem jbV {y:Ry} (h:y.ok=true):y.nots.length<=100/\y.ents.length<=100/\∀ x∈y.ents,x.text.size<=400:=by
 simp only[Ry.ok,Bool.and_eq_true,decide_eq_true_eq,List.all_eq_true] at h;obtain⟨⟨⟨⟨D,A⟩,B⟩,E⟩,C⟩:=h;exact⟨A,B,C⟩
theorem jit (l:List UInt8):(grQ l).Sm:=by
 unfold grQ
 cases h:jbj l with
 | none=>exact⟨jiL,by decide,by decide⟩
 | some q =>
  obtain⟨A,B,-⟩:=jdV h;obtain⟨C,D,-,-⟩:=jeM A;exact⟨B,by show q.labels.size<=410;omega,by show q.scope.size<=410;omega⟩
theorem jiv (l:List UInt8):(gyQ l).Sm:=by
 unfold gyQ
 cases h:jbJ l with
 | none=>exact⟨⟨jb1,(fun i A=>by cases A)⟩,(fun i A=>by cases A)⟩
 | some q =>
  obtain⟨B,C,-⟩:=jdX h;obtain⟨-,-,D⟩:=jbV B;exact⟨C,fun x E=>by have:=D x E;omega⟩
theorem jiu {r:Rq} (h:r.ok=true) (A:r.Wf):grE (prA r).data.toList=0/\grQ (prA r).data.toList=r:=by
 have e:(prA r).data.toList=r.B:=by unfold prA;rw[if_pos h]
 unfold grE grQ;rw[e,jdW h A];exact⟨rfl,rfl⟩
theorem jiw {y:Ry} (h:y.ok=true) (A:y.Wf):gyE (pyA y).data.toList=0/\gyQ (pyA y).data.toList=y:=by
 have e:(pyA y).data.toList=y.B:=by unfold pyA;rw[if_pos h]
 unfold gyE gyQ;rw[e,jgb h A];exact⟨rfl,rfl⟩
theorem jgo (r:Rq):(prE r=0/\r.ok=true)\/prE r=200:=by
 unfold prE
 cases h:r.ok with
 | true=>exact .inl ⟨rfl,rfl⟩
 | false=>exact .inr rfl
theorem jgr (y:Ry):(pyE y=0/\y.ok=true)\/pyE y=200:=by
 unfold pyE
 cases h:y.ok with
 | true=>exact .inl ⟨rfl,rfl⟩
 | false=>exact .inr rfl
theorem jgc (s:ByteArray):(grE s.data.toList=0/\prE (grQ s.data.toList)=0/\prA (grQ s.data.toList)=s)\/grE s.data.toList=200:=by
 unfold grE grQ
 cases h:jbj s.data.toList with
 | none=>exact .inr rfl
 | some q =>
  obtain⟨A,-,B⟩:=jdV h;refine .inl ⟨rfl,?_,?_⟩
  ·show prE q=0
   unfold prE;rw[if_pos A]
  ·show prA q=s
   unfold prA;rw[if_pos A,B]
theorem jgd (s:ByteArray):(gyE s.data.toList=0/\pyE (gyQ s.data.toList)=0/\pyA (gyQ s.data.toList)=s)\/gyE s.data.toList=200:=by
 unfold gyE gyQ
 cases h:jbJ s.data.toList with
 | none=>exact .inr rfl
 | some q =>
  obtain⟨A,-,B⟩:=jdX h;refine .inl ⟨rfl,?_,?_⟩
  ·show pyE q=0
   unfold pyE;rw[if_pos A]
  ·show pyA q=s
   unfold pyA;rw[if_pos A,B]
theorem jhd (r:Rq):(prA r).size<4294967281:=by
 unfold prA;split
 ·rename_i h
  have:=jcr h;unfold jcY at this;rw[List.length_cons] at this;show r.B.toArray.size<_;rw[List.size_toArray];omega
 ·decide
theorem jeK (l:List Int):(jac l).length<=9*l.length:=(jao l).2
theorem jgY (x:Ent) (h:x.text.size<=400):(jgX x).length<=436:=by
 have A:=(jae x.seq).2;have B:=(jae x.tm).2;have C:=(jae x.sum).2;have D:=jb0 x.text;unfold jgX;simp only[List.length_append];omega
theorem jeV:∀ (l:List Ent),(∀ x∈l,x.text.size<=400)->(l.flatMap jgX).length<=436*l.length
 | [],_=>by simp
 | x::l,h=>by
  have B:=jgY x (h x (by simp));have C:=jeV l (fun z A=>h z (by simp[A]));rw[List.flatMap_cons,List.length_append,List.length_cons];omega
theorem jhk (y:Ry):(pyA y).size<4294967281:=by
 unfold pyA;split
 ·rename_i h
  obtain⟨A,C,D⟩:=jbV h;have E:=(jae y.e).2;have F:=(jae y.n).2;have G:=(jae (y.nots.length:Int)).2;have H:=jeK y.nots;have I:=(jae (y.ents.length:Int)).2;have J:=jeV y.ents D;have L:9*y.nots.length<=9*100:=Nat.mul_le_mul_left 9 A;have M:436*y.ents.length<=436*100:=Nat.mul_le_mul_left 436 C;show y.B.toArray.size<_;rw[List.size_toArray];unfold Ry.B;simp only[List.length_append];omega
 ·decide
theorem jdK (r:Rq) (A:Option Addr) (B:Nat) (ta:Option Addr) (C:Nat) (w:World) (h:r.Sm) (D:SlE ja1 2 w.heap.size w A r.items.length r.items) (E:SlE jca 1 w.heap.size w ta r.tens.length r.tens) :
  CR 15 #[.agg (rqV r A B ta C)] w (.tuple #[.string (prA r),.int .i64 (prE r)]):=jc4 r A B ta C w h.wf (by have:=h.l;omega) (by have:=h.s;omega) D E
theorem jcE (y:Ry) (B:Option Addr) (E:Nat) (A:Option Addr) (C:Nat) (w:World) (h:y.Sm) (G:SlE jct 1 w.heap.size w B y.nots.length y.nots) (F:SlE Ent.enc 4 w.heap.size w A y.ents.length y.ents) :
  CR 17 #[.agg (ryV y B E A C)] w (.tuple #[.string (pyA y),.int .i64 (pyE y)]):=jci y B E A C w h.wf.n (fun x D=>⟨h.wf.ents x D,by have:=h.t x D;omega⟩) G F
theorem jdH (s:ByteArray) (F E:Addr) (w:World) (M:s.size<4294967281) (L:∀ W,Bw w W->GF F E W) :
  Calls Tryz.prog 16 #[.string s] w fun e A=>∃ B C ta D,e=.returned (.tuple #[.agg (rqV (grQ s.data.toList) B C ta D),.int .i64 (grE s.data.toList)])/\SlE ja1 2 A.heap.size A B (grQ s.data.toList).items.length (grQ s.data.toList).items/\SlE jca 1 A.heap.size A ta (grQ s.data.toList).tens.length (grQ s.data.toList).tens/\Bw w A:=by
 refine (jc3 s F E w M L).mono ?_;rintro e A ⟨h,G⟩;unfold grQ grE
 cases H:jbj s.data.toList with
 | none =>
  rw[H] at h;obtain rfl:e=_:=h;exact⟨none,0,none,0,rfl,SlE.nil,SlE.nil,G⟩
 | some q =>
  rw[H] at h;obtain⟨B,C,ta,D,rfl,I,J⟩:=h;exact⟨B,C,ta,D,rfl,I,J,G⟩
theorem jcC (s:ByteArray) (G F:Addr) (w:World) (N:s.size<4294967281) (M:∀ W,Bw w W->GF G F W) :
  Calls Tryz.prog 18 #[.string s] w fun e A=>∃ C E B D,e=.returned (.tuple #[.agg (ryV (gyQ s.data.toList) C E B D),.int .i64 (gyE s.data.toList)])/\SlE jct 1 A.heap.size A C (gyQ s.data.toList).nots.length (gyQ s.data.toList).nots/\SlE Ent.enc 4 A.heap.size A B (gyQ s.data.toList).ents.length (gyQ s.data.toList).ents/\Bw w A:=by
 refine (jdG s G F w N M).mono ?_;rintro e A ⟨h,H⟩;unfold gyQ gyE
 cases I:jbJ s.data.toList with
 | none =>
  rw[I] at h;obtain rfl:e=_:=h;exact⟨none,0,none,0,rfl,SlE.nil,SlE.nil,H⟩
 | some q =>
  rw[I] at h;obtain⟨C,E,B,D,rfl,J,L⟩:=h;exact⟨C,E,B,D,rfl,J,L,H⟩
theorem jg0 {r:Rq} (h:r.Wf):(jf5 r).Sm:=⟨⟨h.now,(fun i A=>h.items i (List.mem_of_mem_take A)),h.h,h.tnt,h.id,fun n B=>h.tens n (List.mem_of_mem_take B)⟩,jbW _ _,jbW _ _⟩
theorem jg1 {y:Ry} (h:y.Wf):(ja2 y).Sm:=by
 refine⟨⟨h.n,fun x A=>?_⟩,fun x A=>?_⟩
 ·obtain⟨z,B,rfl⟩:=List.mem_map.1 A
  exact h.ents z (List.mem_of_mem_take B)
 ·obtain⟨z,-,rfl⟩:=List.mem_map.1 A
  exact jbW _ _
theorem jes (r:Rq) (y:Ry) (s:ByteArray) (fm ff:Addr) (ia:Option Addr) (ic:Nat) (ta:Option Addr) (tc:Nat) (na:Option Addr) (nc:Nat) (ea:Option Addr) (ec:Nat) (w:World) (hE:GF fm ff w) (hT:Fr.GT w) (H:r.Wf) (hv:y.Wf) (bG:r.items.length<=ic) (bN:r.tens.length<=tc) (bH:y.nots.length<=nc)
  (hI:SlE ja1 2 w.heap.size w ia r.items.length r.items) (bE:SlE jca 1 w.heap.size w ta r.tens.length r.tens) (hN:SlE jct 1 w.heap.size w na y.nots.length y.nots) (bz:SlE Ent.enc 4 w.heap.size w ea y.ents.length y.ents) :
  CR 4 #[.agg (rqV r ia ic ta tc),.agg (ryV y na nc ea ec),.string s] w (.bool true):=by
 obtain⟨W,hW,hX,hY,hB,bT⟩:=jbq w (rqV r ia ic ta tc) 48 (ryV y na nc ea ec) 52;obtain⟨E,az⟩:∃ E,jf5 r=E:=⟨_,rfl⟩;obtain⟨J,aH⟩:∃ J,ja2 y=J:=⟨_,rfl⟩;have ac:E.Sm:=az▸jg0 H;have ad:J.Sm:=aH▸jg1 hv;have HE:Hid (∀ V,Bw w V->GF fm ff V):=fun V F=>hE.below F
 have bP:=Lib.hid (jeN fm ff W (hE.below hB) (hT.go hB));have aW:=Lib.hid fun V=>jfM r ia ic ta tc V bG bN
 have aX:=Lib.hid fun V (F:Bw w V)=>jf4 y na nc ea ec V bH ((bz.below F).mono F.size)
 rw[az] at aW;rw[aH] at aX
 have bm:Hid (∀ V,Bw w V->SlE ja1 2 V.heap.size V ia E.items.length E.items/\SlE jca 1 V.heap.size V ta E.tens.length E.tens/\SlE jct 1 V.heap.size V na J.nots.length J.nots):=fun V F=>by
  have e1:E.items=r.items.take 52:=by rw[<- az];rfl
  have e2:E.tens=r.tens.take 10:=by rw[<- az];rfl
  have e3:J.nots=y.nots.take 102:=by rw[<- aH];rfl
  rw[e1,e2,e3];have h1:=((hI.below F).mono F.size);have h2:=((bE.below F).mono F.size);have h3:=((hN.below F).mono F.size)
  have tk:∀ {α:Type} {enc:α->List Value} {k:Nat} {a:Option Addr} {l:List α} (m:Nat),SlE enc k V.heap.size V a l.length l->SlE enc k V.heap.size V a (l.take m).length (l.take m):=fun {α enc k a l} m h=>by
   have h4:=h.take (min m l.length) (Nat.min_le_right _ _)
   have e:l.take (min m l.length)=l.take m:=by
    by_cases hm:m<=l.length
    ·rw[Nat.min_eq_left hm]
    ·rw[Nat.min_eq_right (by omega),List.take_of_length_le (Nat.le_refl _),List.take_of_length_le (by omega)]
   rw[e] at h4;rw[List.length_take];exact h4
  exact⟨tk 52 h1,tk 10 h2,tk 102 h3⟩
 unfold rqV at hX hW;unfold ryV at hY hW;have HX:=Lib.hid (And.intro hX (And.intro hY hB));have bn:=Lib.hid (And.intro ac ad);have bS:=Lib.hid (And.intro ac.wf ad.wf);unfold rqV at aW;unfold ryV at aX;unfold rqV ryV;clear hX hY hB bT hE hT bG bN bH hI bE hN bz az aH ac ad H hv;go_enter Tryz.func4,Tryz.ntmps4;go_wp2_with fail;refine bP.out.mono ?_;rintro e w1 ⟨rfl,aC⟩;obtain⟨hX,hY,hB⟩:=HX.out;have ah:=known aC (Nat.le_refl _) hX;have bh:=known aC (Nat.le_refl _) hY;obtain⟨a0,a1,a2,a3,a4,a5,a6,a7,a8,a9⟩:=jb3 ah;have HA:=Lib.hid (And.intro ah (And.intro bh (hB.trans (aC.mono hB.size))));clear hX hY hB aC ah bh;go_wp2_with fail;refine (aW.out _).mono ?_;rintro e w2 ⟨rfl,aD⟩;obtain⟨ah,bh,hB⟩:=HA.out;have ch:=known aD (Nat.le_refl _) ah;have dh:=known aD (Nat.le_refl _) bh;have bs:=hB.trans (aD.mono hB.size);obtain⟨c0,c1,c2,c3,c4,c5,c6,c7,c8,c9⟩:=jb3 ch;obtain⟨bY,bZ,b0,b1,b2,b3,b4,b5,b6,b7⟩:=jiM ch;obtain⟨V2,b8,eh,g,aN⟩:=jek (.int .i64 E.op) (.int .u64 E.now) (.string E.labels) (.string E.scope) (.int .i64 E.kind) (.slice ia E.items.length ic) (.int .u64 E.h) (.int .u64 E.tnt) (.int .u64 E.id) (.slice ta E.tens.length tc) ch bs (Nat.le_refl _);have fh:=aN.known (show w.heap.size+1≠w.heap.size by omega) dh;have bl:=Lib.hid (aX.out V2 g);obtain⟨f0,f1,f2,f3⟩:=cl4 fh;have bQ:=Lib.hid (And.intro eh (And.intro fh g));clear ah bh hB ch dh bs aD g aN eh fh a0 a1 a2 a3 a4 a5 a6 a7 a8 a9;go_wp2_with fail;refine bl.out.mono ?_;rintro e w3 ⟨fa,fc,rfl,bM,aQ,aE⟩;obtain⟨eh,fh,g⟩:=bQ.out
 have gh:=known aE (Nat.le_refl _) eh;have hh:=known aE (Nat.le_refl _) fh;have bt:=g.trans (aE.mono g.size);obtain⟨h0,h1,h2,h3⟩:=cl4 hh;obtain⟨cb,cc,cd,ce⟩:=cz4 hh;obtain⟨V3,bF,jh,aM,aw⟩:=jfB (.int .i64 J.e) (.int .u64 J.n) (.slice na J.nots.length nc) (.slice fa J.ents.length fc) hh bt (Nat.le_succ _);have ih:=aw.known (show w.heap.size≠w.heap.size+1 by omega) gh
 have aR:SlE Ent.enc 4 V3.heap.size V3 fa J.ents.length J.ents:=by
  have e:V3.heap.size=w3.heap.size:=Nat.le_antisymm (by rw[<- bF];simp) aw.size;rw[e,<- bF];have aG:∀ x,fa=some x->w.heap.size+1≠x.block:=fun x hx=>by have:=aQ x hx;have:=(Array.getElem?_eq_some_iff.1 fh).1;omega
  exact ((((bM.set_far (p:=⟨w.heap.size+1,0,none⟩) aG _).set_far (p:=⟨w.heap.size+1,1,none⟩) aG _).set_far (p:=⟨w.heap.size+1,2,none⟩) aG _).set_far (p:=⟨w.heap.size+1,3,none⟩) aG _)
 clear eh fh g gh hh bt aE aw bM aQ c0 c1 c2 c3 c4 c5 c6 c7 c8 c9 f0 f1 f2 f3;have bR:=Lib.hid (And.intro ih (And.intro jh (And.intro aM aR)));obtain⟨i0,i1,i2,i3,i4,i5,i6,i7,i8,i9⟩:=jb3 ih
 have u:Hid (∀ V,Bw V3 V->V.heap[w.heap.size]? = some (.cells #[.int .i64 E.op,.int .u64 E.now,.string E.labels,.string E.scope,.int .i64 E.kind,.slice ia E.items.length ic,.int .u64 E.h,.int .u64 E.tnt,.int .u64 E.id,.slice ta E.tens.length tc] 48 (0,0))/\V.heap[w.heap.size+1]? = some (.cells #[.int .i64 J.e,.int .u64 J.n,.slice na J.nots.length nc,.slice fa J.ents.length fc] 52 (0,0))/\(SlE ja1 2 V.heap.size V ia E.items.length E.items/\SlE jca 1 V.heap.size V ta E.tens.length E.tens/\SlE jct 1 V.heap.size V na J.nots.length J.nots)/\SlE Ent.enc 4 V.heap.size V fa J.ents.length J.ents/\Bw w V):=fun V F=>by
  obtain⟨h1,h2,h3,h4⟩:=bR.out;have G:=h3.trans (F.mono h3.size);exact⟨known F (Nat.le_refl _) h1,known F (Nat.le_refl _) h2,bm.out _ G,h4.go F,G⟩
 obtain⟨ac,ad⟩:=bn.out;have h0:=(u.out V3 (Below.refl _ _)).2.2.1;have R:=jdK E ia ic ta tc V3 ac h0.1 h0.2.1;have aq:=Lib.hid fun V F=>jdH (prA E) fm ff V (jhd E) F
 have au:=Lib.hid fun V hI hE=>jcE J na nc fa fc V ad hI hE
 have ar:=Lib.hid fun V F=>jcC (pyA J) fm ff V (jhk J) F
 have aU:Hid ((prE E=0/\grE (prA E).data.toList=0/\grQ (prA E).data.toList=E/\E.ok=true)\/prE E=200):=(jgo E).imp (fun h=>⟨h.1,(jiu h.2 ac.wf).1,(jiu h.2 ac.wf).2,h.2⟩) id;have aV:Hid ((pyE J=0/\gyE (pyA J).data.toList=0/\gyQ (pyA J).data.toList=J/\J.ok=true)\/pyE J=200):=(jgr J).imp (fun h=>⟨h.1,(jiw h.2 ad.wf).1,(jiw h.2 ad.wf).2,h.2⟩) id;obtain⟨I,bI⟩:∃ q,grQ (prA E).data.toList=q:=⟨_,rfl⟩;obtain⟨F1,bA⟩:∃ q,grE (prA E).data.toList=q:=⟨_,rfl⟩;obtain⟨t,bJ⟩:∃ q,gyQ (pyA J).data.toList=q:=⟨_,rfl⟩;obtain⟨F2,bB⟩:∃ q,gyE (pyA J).data.toList=q:=⟨_,rfl⟩;rw[bI,bA] at aq aU;rw[bJ,bB] at ar aV;obtain⟨A1,bo⟩:∃ q,prA E=q:=⟨_,rfl⟩;obtain⟨E1,bu⟩:∃ q,prE E=q:=⟨_,rfl⟩;obtain⟨A2,bp⟩:∃ q,pyA J=q:=⟨_,rfl⟩;obtain⟨E2,bv⟩:∃ q,pyE J=q:=⟨_,rfl⟩;rw[bo] at aq R;rw[bu] at aU R;rw[bp] at ar au;rw[bv] at aV au;unfold rqV at aq R;unfold ryV at ar au;have HP:=Lib.hid R;clear R ac ad h0 bI bA bJ bB bo bu bp bv ih jh aM aR bn bm;go_wp2_with fail;refine HP.out.mono ?_;rintro e w4 ⟨rfl,aF⟩;have aS:=Lib.hid aF;have aI:=Lib.hid (aq.out w4 (fun V F=>HE.out V ((u.out w4 aF).2.2.2.2.trans (F.mono (u.out w4 aF).2.2.2.2.size))));clear aF i0 i1 i2 i3 i4 i5 i6 i7 i8 i9;go_wp2_with fail;refine aI.out.mono ?_;rintro e w5 ⟨ja,jc,ka,kc,rfl,hJ,hK,ba⟩;obtain⟨X5,b9,aO,an,bV⟩:=jab w5 #[.int .i64 I.op,.int .u64 I.now,.string I.labels,.string I.scope,.int .i64 I.kind,.slice ja I.items.length jc,.int .u64 I.h,.int .u64 I.tnt,.int .u64 I.id,.slice ka I.tens.length kc] 48
 have ap:Bw V3 X5:=(aS.out.trans (ba.mono aS.out.size)).trans (an.mono (Nat.le_trans aS.out.size ba.size));have aB:Hid (∀ V,Bw X5 V->V.heap[w5.heap.size]? = some (.cells #[.int .i64 I.op,.int .u64 I.now,.string I.labels,.string I.scope,.int .i64 I.kind,.slice ja I.items.length jc,.int .u64 I.h,.int .u64 I.tnt,.int .u64 I.id,.slice ka I.tens.length kc] 48 (0,0))/\SlE ja1 2 V.heap.size V ja I.items.length I.items/\SlE jca 1 V.heap.size V ka I.tens.length I.tens/\Bw V3 V):=fun V F=>⟨known F (Nat.le_refl _) aO,(hJ.go an).go F,(hK.go an).go F,ap.trans (F.mono ap.size)⟩
 have h6:=u.out X5 ap;have mh:=h6.2.1;have aK:=Lib.hid (au.out X5 h6.2.2.1.2.2 h6.2.2.2.1);obtain⟨m0,m1,m2,m3⟩:=cl4 mh;clear hJ hK ba aO an bV ap h6 mh aq au aI;go_wp2_with fail;refine aK.out.mono ?_;rintro e w6 ⟨rfl,bb⟩;have aT:=Lib.hid bb
 have aJ:=Lib.hid (ar.out w6 (fun V F=>by
  have G:=(u.out w6 (aB.out w6 bb).2.2.2).2.2.2.2;exact HE.out V (G.trans (F.mono G.size))))
 clear bb m0 m1 m2 m3 aK HP;go_wp2_with fail;refine aJ.out.mono ?_;rintro e w7 ⟨ma,mc,ga,gc,rfl,hM,hN,bc⟩;obtain⟨v,ca,aP,ao,bW⟩:=jab w7 #[.int .i64 t.e,.int .u64 t.n,.slice ma t.nots.length mc,.slice ga t.ents.length gc] 52;have ax:Bw X5 v:=(aT.out.trans (bc.mono aT.out.size)).trans (ao.mono (Nat.le_trans aT.out.size bc.size));have aY:Hid (∀ V,Bw v V->V.heap[w7.heap.size]? = some (.cells #[.int .i64 t.e,.int .u64 t.n,.slice ma t.nots.length mc,.slice ga t.ents.length gc] 52 (0,0))/\SlE jct 1 V.heap.size V ma t.nots.length t.nots/\SlE Ent.enc 4 V.heap.size V ga t.ents.length t.ents/\Bw X5 V):=fun V F=>⟨known F (Nat.le_refl _) aP,(hM.go ao).go F,(hN.go ao).go F,ax.trans (F.mono ax.size)⟩
 clear hM hN bc aP ao bW ax ar aJ
 have ag:Hid (∀ V,Bw v V->Bw X5 V/\Bw V3 V/\Bw w V):=fun V F=>by
  have h1:=(aY.out V F).2.2.2;have h2:=(aB.out V h1).2.2.2;exact⟨h1,h2,(u.out V h2).2.2.2.2⟩
 have aL:Hid (E1=0->I=E->E.ok=true->CR 19 #[.agg #[.int .i64 I.op,.int .u64 I.now,.string I.labels,.string I.scope,.int .i64 I.kind,.slice ja I.items.length jc,.int .u64 I.h,.int .u64 I.tnt,.int .u64 I.id,.slice ka I.tens.length kc],.agg #[.int .i64 E.op,.int .u64 E.now,.string E.labels,.string E.scope,.int .i64 E.kind,.slice ia E.items.length ic,.int .u64 E.h,.int .u64 E.tnt,.int .u64 E.id,.slice ta E.tens.length tc]] v (.bool true)):=fun _ e bd=>by
  have h7:=ag.out v (Below.refl _ _);obtain⟨-,h1,h2,-⟩:=aB.out v h7.1;obtain⟨-,-,⟨h3,h4,-⟩,-⟩:=u.out v h7.2.1;subst e;exact jeh I ja jc ka kc ia ic ta tc v (bS.out.1) h1 h2 h3 h4 bd
 have av:Hid (∀ V,Bw v V->t=J->J.ok=true->CR 20 #[.agg #[.int .i64 t.e,.int .u64 t.n,.slice ma t.nots.length mc,.slice ga t.ents.length gc],.agg #[.int .i64 J.e,.int .u64 J.n,.slice na J.nots.length nc,.slice fa J.ents.length fc]] V (.bool true)):=fun V F e bd=>by
  have h7:=ag.out V F;obtain⟨-,h1,h2,-⟩:=aY.out V F;obtain⟨-,-,⟨-,-,h3⟩,h4,-⟩:=u.out V h7.2.1;obtain⟨z1,z2,-⟩:=jbV bd;subst e;exact jib t ma mc ga gc na nc fa fc V (by unfold maxLen;omega) (by unfold maxLen;omega) h1 h2 h3 h4
 have aa:Hid (∀ V,Bw v V->V.heap[w5.heap.size]? = some (.cells #[.int .i64 I.op,.int .u64 I.now,.string I.labels,.string I.scope,.int .i64 I.kind,.slice ja I.items.length jc,.int .u64 I.h,.int .u64 I.tnt,.int .u64 I.id,.slice ka I.tens.length kc] 48 (0,0))/\V.heap[w.heap.size]? = some (.cells #[.int .i64 E.op,.int .u64 E.now,.string E.labels,.string E.scope,.int .i64 E.kind,.slice ia E.items.length ic,.int .u64 E.h,.int .u64 E.tnt,.int .u64 E.id,.slice ta E.tens.length tc] 48 (0,0))/\V.heap[w7.heap.size]? = some (.cells #[.int .i64 t.e,.int .u64 t.n,.slice ma t.nots.length mc,.slice ga t.ents.length gc] 52 (0,0))/\V.heap[w.heap.size+1]? = some (.cells #[.int .i64 J.e,.int .u64 J.n,.slice na J.nots.length nc,.slice fa J.ents.length fc] 52 (0,0))):=fun V F=>by
  have h7:=ag.out V F;exact⟨(aB.out V h7.1).1,(u.out V h7.2.1).1,(aY.out V F).1,(u.out V h7.2.1).2.1⟩
 have bX:((200:Int)==0)=false:=rfl;have M:=Lib.hid fun V=>jf0 s V
 obtain⟨C,hC⟩:∃ C,jf2 2010 s=C:=⟨_,rfl⟩;have aZ:C.size<4294967281:=by have:=jbW 2010 s;rw[hC] at this;omega
 rw[hC] at M;have T:=Lib.hid fun V F=>jdH C fm ff V aZ F
 have U:=Lib.hid fun V F=>jcC C fm ff V aZ F
 have X:=Lib.hid fun pa pc qa qc V hI hT=>jdK (grQ C.data.toList) pa pc qa qc V (jit _) hI hT
 have Z:=Lib.hid fun pa pc qa qc V hI hT=>jcE (gyQ C.data.toList) pa pc qa qc V (jiv _) hI hT
 have ae:Hid _:=jgc C;have af:Hid _:=jgd C;obtain⟨L,bK⟩:∃ q,grQ C.data.toList=q:=⟨_,rfl⟩;obtain⟨F3,bC⟩:∃ q,grE C.data.toList=q:=⟨_,rfl⟩;obtain⟨z,bL⟩:∃ q,gyQ C.data.toList=q:=⟨_,rfl⟩;obtain⟨F4,bD⟩:∃ q,gyE C.data.toList=q:=⟨_,rfl⟩;rw[bK] at T X ae;rw[bC] at T ae;rw[bL] at U Z af;rw[bD] at U af;obtain⟨A3,bq⟩:∃ q,prA L=q:=⟨_,rfl⟩;obtain⟨E3,bw⟩:∃ q,prE L=q:=⟨_,rfl⟩;obtain⟨A4,br⟩:∃ q,pyA z=q:=⟨_,rfl⟩;obtain⟨E4,bx⟩:∃ q,pyE z=q:=⟨_,rfl⟩;rw[bq,bw] at X ae;rw[br,bx] at Z af;unfold rqV at T X;unfold ryV at U Z;clear hC aZ bK bC bL bD bq bw br bx;rcases aU.out with⟨rfl,rfl,e1,e2⟩ | rfl<;>rcases aV.out with⟨rfl,rfl,e3,e4⟩ | rfl
 ·have HR:=Lib.hid (aL.out rfl e1 e2)
  have bO:=Lib.hid fun V F=>av.out V F e3 e4
  clear e1 e2 e3 e4;have xh:=(aa.out v (Below.refl _ _)).1;obtain⟨x0,x1,x2,x3,x4,x5,x6,x7,x8,x9⟩:=jb3 xh;have uh:=(aa.out v (Below.refl _ _)).2.1;obtain⟨u0,u1,u2,u3,u4,u5,u6,u7,u8,u9⟩:=jb3 uh;clear xh uh;go_wp2_with fail;refine HR.out.mono ?_;rintro e w8 ⟨rfl,ay⟩;have HS:=Lib.hid (bO.out w8 ay);have aA:=(aa.out w8 ay).2.2.1;obtain⟨bf,bg,bi,bj⟩:=cl4 aA;have vh:=(aa.out w8 ay).2.2.2;obtain⟨v0,v1,v2,v3⟩:=cl4 vh;clear aA vh;clear x0 x1 x2 x3 x4 x5 x6 x7 x8 x9 u0 u1 u2 u3 u4 u5 u6 u7 u8 u9;have bk:=Lib.hid ay;clear ay;go_wp2_with fail;refine HS.out.mono ?_;rintro e w9 ⟨rfl,ab⟩;have S:Hid (Bw w w9):=(ag.out w9 (bk.out.trans (ab.mono bk.out.size))).2.2;clear ab bf bg bi bj v0 v1 v2 v3;go_wp2_with fail;refine (M.out _).mono ?_;rintro e ai ⟨rfl,H⟩;have H:=H.symm;subst H;have N:=Lib.hid (T.out _ (fun V F=>HE.out V (S.out.trans (F.mono S.out.size))));clear T;go_wp2_with fail;refine N.out.mono ?_;rintro e aj ⟨pa,pc,qa,qc,rfl,R,i,G⟩;obtain⟨d,j,kh,B,-⟩:=jab aj #[.int .i64 L.op,.int .u64 L.now,.string L.labels,.string L.scope,.int .i64 L.kind,.slice pa L.items.length pc,.int .u64 L.h,.int .u64 L.tnt,.int .u64 L.id,.slice qa L.tens.length qc] 48;have P:Hid (Bw w d):=(S.out.trans (G.mono S.out.size)).trans (B.mono (S.out.trans (G.mono S.out.size)).size);obtain⟨k0,k1,k2,k3,k4,k5,k6,k7,k8,k9⟩:=jb3 kh;have Y:=Lib.hid (X.out pa pc qa qc d (R.go B) (i.go B));clear R i G kh B N X;go_wp2_with fail;refine Y.out.mono ?_;rintro e ak ⟨rfl,G⟩;have A:Hid (Bw w ak):=P.out.trans (G.mono P.out.size)
  clear G k0 k1 k2 k3 k4 k5 k6 k7 k8 k9 j;go_wp2_with fail;refine (M.out _).mono ?_;rintro e ai ⟨rfl,H⟩;have H:=H.symm;subst H;have O:=Lib.hid (U.out _ (fun V F=>HE.out V (A.out.trans (F.mono A.out.size))));clear U;go_wp2_with fail;refine O.out.mono ?_;rintro e al ⟨sa,sc,va,vc,rfl,R,i,G⟩;obtain⟨f,o,lh,D,-⟩:=jab al #[.int .i64 z.e,.int .u64 z.n,.slice sa z.nots.length sc,.slice va z.ents.length vc] 52;have Q:Hid (Bw w f):=(A.out.trans (G.mono A.out.size)).trans (D.mono (A.out.trans (G.mono A.out.size)).size);obtain⟨l0,l1,l2,l3⟩:=cl4 lh;have b:=Lib.hid (Z.out sa sc va vc f (R.go D) (i.go D));clear R i G lh D O Z;go_wp2_with fail;refine b.out.mono ?_;rintro e am ⟨rfl,G⟩;have c:Hid (Bw w am):=Q.out.trans (G.mono Q.out.size);clear G l0 l1 l2 l3 o;rcases ae.out with⟨rfl,rfl,rfl⟩ | rfl<;>rcases af.out with⟨rfl,rfl,rfl⟩ | rfl
  all_goals
   go_wp2_with (go_at_call 9;refine (M.out _).mono ?_;rintro e be ⟨rfl,H⟩;have H:=H.symm;subst H);go_ret;exact⟨rfl,c.out⟩
 ·have HR:=Lib.hid (aL.out rfl e1 e2)
  clear e1 e2;have xh:=(aa.out v (Below.refl _ _)).1;obtain⟨x0,x1,x2,x3,x4,x5,x6,x7,x8,x9⟩:=jb3 xh;have uh:=(aa.out v (Below.refl _ _)).2.1;obtain⟨u0,u1,u2,u3,u4,u5,u6,u7,u8,u9⟩:=jb3 uh;clear xh uh;go_wp2_with fail;refine HR.out.mono ?_;rintro e w9 ⟨rfl,ab⟩;have S:Hid (Bw w w9):=(ag.out w9 ab).2.2;clear ab x0 x1 x2 x3 x4 x5 x6 x7 x8 x9 u0 u1 u2 u3 u4 u5 u6 u7 u8 u9;go_wp2_with fail;refine (M.out _).mono ?_;rintro e ai ⟨rfl,H⟩;have H:=H.symm;subst H;have N:=Lib.hid (T.out _ (fun V F=>HE.out V (S.out.trans (F.mono S.out.size))));clear T;go_wp2_with fail;refine N.out.mono ?_;rintro e aj ⟨pa,pc,qa,qc,rfl,R,i,G⟩;obtain⟨d,j,kh,B,-⟩:=jab aj #[.int .i64 L.op,.int .u64 L.now,.string L.labels,.string L.scope,.int .i64 L.kind,.slice pa L.items.length pc,.int .u64 L.h,.int .u64 L.tnt,.int .u64 L.id,.slice qa L.tens.length qc] 48;have P:Hid (Bw w d):=(S.out.trans (G.mono S.out.size)).trans (B.mono (S.out.trans (G.mono S.out.size)).size);obtain⟨k0,k1,k2,k3,k4,k5,k6,k7,k8,k9⟩:=jb3 kh;have Y:=Lib.hid (X.out pa pc qa qc d (R.go B) (i.go B));clear R i G kh B N X;go_wp2_with fail;refine Y.out.mono ?_;rintro e ak ⟨rfl,G⟩;have A:Hid (Bw w ak):=P.out.trans (G.mono P.out.size);clear G k0 k1 k2 k3 k4 k5 k6 k7 k8 k9 j;go_wp2_with fail;refine (M.out _).mono ?_;rintro e ai ⟨rfl,H⟩;have H:=H.symm;subst H;have O:=Lib.hid (U.out _ (fun V F=>HE.out V (A.out.trans (F.mono A.out.size))));clear U;go_wp2_with fail;refine O.out.mono ?_;rintro e al ⟨sa,sc,va,vc,rfl,R,i,G⟩
  obtain⟨f,o,lh,D,-⟩:=jab al #[.int .i64 z.e,.int .u64 z.n,.slice sa z.nots.length sc,.slice va z.ents.length vc] 52;have Q:Hid (Bw w f):=(A.out.trans (G.mono A.out.size)).trans (D.mono (A.out.trans (G.mono A.out.size)).size);obtain⟨l0,l1,l2,l3⟩:=cl4 lh;have b:=Lib.hid (Z.out sa sc va vc f (R.go D) (i.go D));clear R i G lh D O Z;go_wp2_with fail;refine b.out.mono ?_;rintro e am ⟨rfl,G⟩;have c:Hid (Bw w am):=Q.out.trans (G.mono Q.out.size);clear G l0 l1 l2 l3 o;rcases ae.out with⟨rfl,rfl,rfl⟩ | rfl<;>rcases af.out with⟨rfl,rfl,rfl⟩ | rfl
  all_goals
   go_wp2_with (go_at_call 9;refine (M.out _).mono ?_;rintro e be ⟨rfl,H⟩;have H:=H.symm;subst H);go_ret;exact⟨rfl,c.out⟩
 ·have HS:=Lib.hid (av.out v (Below.refl _ _) e3 e4)
  have aA:=(aa.out v (Below.refl _ _)).2.2.1;obtain⟨bf,bg,bi,bj⟩:=cl4 aA;have vh:=(aa.out v (Below.refl _ _)).2.2.2;obtain⟨v0,v1,v2,v3⟩:=cl4 vh;clear aA vh;clear e3 e4;go_wp2_with fail;refine HS.out.mono ?_;rintro e w9 ⟨rfl,ab⟩;have S:Hid (Bw w w9):=(ag.out w9 ab).2.2;clear ab bf bg bi bj v0 v1 v2 v3;go_wp2_with fail;refine (M.out _).mono ?_;rintro e ai ⟨rfl,H⟩;have H:=H.symm;subst H;have N:=Lib.hid (T.out _ (fun V F=>HE.out V (S.out.trans (F.mono S.out.size))));clear T;go_wp2_with fail;refine N.out.mono ?_;rintro e aj ⟨pa,pc,qa,qc,rfl,R,i,G⟩;obtain⟨d,j,kh,B,-⟩:=jab aj #[.int .i64 L.op,.int .u64 L.now,.string L.labels,.string L.scope,.int .i64 L.kind,.slice pa L.items.length pc,.int .u64 L.h,.int .u64 L.tnt,.int .u64 L.id,.slice qa L.tens.length qc] 48;have P:Hid (Bw w d):=(S.out.trans (G.mono S.out.size)).trans (B.mono (S.out.trans (G.mono S.out.size)).size);obtain⟨k0,k1,k2,k3,k4,k5,k6,k7,k8,k9⟩:=jb3 kh;have Y:=Lib.hid (X.out pa pc qa qc d (R.go B) (i.go B));clear R i G kh B N X;go_wp2_with fail;refine Y.out.mono ?_;rintro e ak ⟨rfl,G⟩;have A:Hid (Bw w ak):=P.out.trans (G.mono P.out.size);clear G k0 k1 k2 k3 k4 k5 k6 k7 k8 k9 j;go_wp2_with fail;refine (M.out _).mono ?_;rintro e ai ⟨rfl,H⟩;have H:=H.symm;subst H;have O:=Lib.hid (U.out _ (fun V F=>HE.out V (A.out.trans (F.mono A.out.size))));clear U;go_wp2_with fail;refine O.out.mono ?_;rintro e al ⟨sa,sc,va,vc,rfl,R,i,G⟩
  obtain⟨f,o,lh,D,-⟩:=jab al #[.int .i64 z.e,.int .u64 z.n,.slice sa z.nots.length sc,.slice va z.ents.length vc] 52;have Q:Hid (Bw w f):=(A.out.trans (G.mono A.out.size)).trans (D.mono (A.out.trans (G.mono A.out.size)).size);obtain⟨l0,l1,l2,l3⟩:=cl4 lh;have b:=Lib.hid (Z.out sa sc va vc f (R.go D) (i.go D));clear R i G lh D O Z;go_wp2_with fail;refine b.out.mono ?_;rintro e am ⟨rfl,G⟩;have c:Hid (Bw w am):=Q.out.trans (G.mono Q.out.size);clear G l0 l1 l2 l3 o;rcases ae.out with⟨rfl,rfl,rfl⟩ | rfl<;>rcases af.out with⟨rfl,rfl,rfl⟩ | rfl
  all_goals
   go_wp2_with (go_at_call 9;refine (M.out _).mono ?_;rintro e be ⟨rfl,H⟩;have H:=H.symm;subst H);go_ret;exact⟨rfl,c.out⟩
 ·have S:Hid (Bw w v):=(ag.out v (Below.refl _ _)).2.2
  obtain⟨w9,bU⟩:∃ w9,v=w9:=⟨_,rfl⟩;subst bU;go_wp2_with fail;refine (M.out _).mono ?_;rintro e ai ⟨rfl,H⟩;have H:=H.symm;subst H;have N:=Lib.hid (T.out _ (fun V F=>HE.out V (S.out.trans (F.mono S.out.size))));clear T;go_wp2_with fail;refine N.out.mono ?_;rintro e aj ⟨pa,pc,qa,qc,rfl,R,i,G⟩;obtain⟨d,j,kh,B,-⟩:=jab aj #[.int .i64 L.op,.int .u64 L.now,.string L.labels,.string L.scope,.int .i64 L.kind,.slice pa L.items.length pc,.int .u64 L.h,.int .u64 L.tnt,.int .u64 L.id,.slice qa L.tens.length qc] 48;have P:Hid (Bw w d):=(S.out.trans (G.mono S.out.size)).trans (B.mono (S.out.trans (G.mono S.out.size)).size);obtain⟨k0,k1,k2,k3,k4,k5,k6,k7,k8,k9⟩:=jb3 kh;have Y:=Lib.hid (X.out pa pc qa qc d (R.go B) (i.go B));clear R i G kh B N X;go_wp2_with fail;refine Y.out.mono ?_;rintro e ak ⟨rfl,G⟩;have A:Hid (Bw w ak):=P.out.trans (G.mono P.out.size);clear G k0 k1 k2 k3 k4 k5 k6 k7 k8 k9 j;go_wp2_with fail;refine (M.out _).mono ?_;rintro e ai ⟨rfl,H⟩;have H:=H.symm;subst H;have O:=Lib.hid (U.out _ (fun V F=>HE.out V (A.out.trans (F.mono A.out.size))));clear U;go_wp2_with fail;refine O.out.mono ?_;rintro e al ⟨sa,sc,va,vc,rfl,R,i,G⟩;obtain⟨f,o,lh,D,-⟩:=jab al #[.int .i64 z.e,.int .u64 z.n,.slice sa z.nots.length sc,.slice va z.ents.length vc] 52;have Q:Hid (Bw w f):=(A.out.trans (G.mono A.out.size)).trans (D.mono (A.out.trans (G.mono A.out.size)).size);obtain⟨l0,l1,l2,l3⟩:=cl4 lh;have b:=Lib.hid (Z.out sa sc va vc f (R.go D) (i.go D));clear R i G lh D O Z;go_wp2_with fail
  refine b.out.mono ?_;rintro e am ⟨rfl,G⟩;have c:Hid (Bw w am):=Q.out.trans (G.mono Q.out.size);clear G l0 l1 l2 l3 o;rcases ae.out with⟨rfl,rfl,rfl⟩ | rfl<;>rcases af.out with⟨rfl,rfl,rfl⟩ | rfl
  all_goals
   go_wp2_with (go_at_call 9;refine (M.out _).mono ?_;rintro e be ⟨rfl,H⟩;have H:=H.symm;subst H);go_ret;exact⟨rfl,c.out⟩
theorem jdB (r:Rq) (G:Option Addr) (H:Nat) (ta:Option Addr) (L:Nat) (y:Ry) (I:Option Addr) (J:Nat) (A:Option Addr) (M:Nat) (s:ByteArray) (O N:Addr) (w:World)
  (U:r.Wf) (D:r.items.length<=H) (F:r.tens.length<=L) (Q:SlE ja1 2 w.heap.size w G r.items.length r.items) (C:SlE jca 1 w.heap.size w ta r.tens.length r.tens) (T:y.Wf) (E:y.nots.length<=J) (R:SlE jct 1 w.heap.size w I y.nots.length y.nots) (B:SlE Ent.enc 4 w.heap.size w A y.ents.length y.ents) (P:GF O N w) (S:Fr.GT w) :
  CR 4 #[.agg (rqV r G H ta L),.agg (ryV y I J A M),.string s] w (.bool true) :=
 jes r y s O N G H ta L I J A M w P S U T D F E Q C R B
end Go.Proofs.YtlmlcadcdhhlcaaGreatDoor
