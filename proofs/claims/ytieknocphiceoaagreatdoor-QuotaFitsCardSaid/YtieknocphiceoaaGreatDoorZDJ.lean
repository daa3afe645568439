/- The reference of layer 9: Add, Merge, Lower, Rank, at bins that are right. Printed by gen_dj.py. -/
import Derived.Test.YtieknocphiceoaaGreatDoorZDF
namespace Go.Proofs.YtieknocphiceoaaGreatDoor
open Go Go.RowKit Go.Shelf
structure BkR (f:Nat) (l:List (Int × Int)):Prop where
 hf:f<=3
 up:jcr l
 pos:∀ b∈l,b.2≠0
 u:jbG l
 bd:∀ b∈l,jap f b.1=true
theorem BkR.r {f:Nat} {l:List (Int × Int)} (h:BkR f l):jaX f l=true:=je9 f l h.hf h.up h.pos h.bd
theorem BkR.len {f:Nat} {l:List (Int × Int)} (h:BkR f l):l.length<=513:=by have:=jfP f l h.hf h.up h.bd;omega
theorem BkR.b {f:Nat} {l:List (Int × Int)} (h:BkR f l):joi l:=fun b hb=>⟨jkP f l h.hf h.bd b hb,h.u b hb⟩
theorem BkR.right {f:Nat} {l:List (Int × Int)} (h:BkR f l) {a:Option Addr} {len cap:Nat} {w:World} (hL:SlC jb5 2 w.heap.size w a len cap l) :
  Calls Tryz.prog 143 #[.agg #[.int .i64 f,.slice a len cap]] w fun e w'=>e=.returned (.bool true)/\Below w.heap.size w w':=by
 have:=jdZ f a len cap l w hL.1 (Nat.le_trans hL.2.1 hL.2.2.1) h.b;rw[h.r] at this;exact this
theorem jgG:∀ (q p:List (Int × Int)),jbG p->jbG q->jbG (jda p q)
 | [],_,hp,_=>hp
 | x::q,p,hp,hq=>by
  refine jgG q (jc3 p x.1 x.2) ?_ (fun c hc=>hq c (List.mem_cons_of_mem _ hc));unfold jc3;split
  ·exact hp
  ·exact jd4 p x.1 x.2 hp (hq x List.mem_cons_self)
def jrz (f:Int) (m:List (Int × Int)) (w:World) (e:Ending) (w':World):Prop:=∃ a cap,e=.returned (.tuple #[.agg #[.int .i64 f,.slice a m.length cap],.int .i64 0])/\SlC jb5 2 w'.heap.size w' a m.length cap m/\(∀ z,a=some z->w.heap.size<=z.block)/\Below w.heap.size w w'
theorem jiu {W V:World} {b:Nat} {f:Int} {t:TypeId} {a:Option Addr} {len cap:Nat} {l:List (Int × Int)} (h:SlC jb5 2 W.heap.size W a len cap l) (hX:W.heap[b]? = some (.cells #[.int .i64 f,.slice none 0 0] t (0,0))) (hV:OnlyAt b W V):SlC jb5 2 V.heap.size V a len cap l :=
 jbd (i0:=1) (by decide) (fun x=>⟨x.2,rfl⟩) hX (fun i u h=>by rcases i with _ | _ | i<;>simp at h) hV h
theorem jrl {W:World} {b:Nat} {x y:Value} {t:TypeId} (u v:Value) (h:W.heap[b]? = some (.cells #[x,y] t (0,0))) :
  ∃ V,(W.setCell ⟨b,0,none⟩ u).setCell ⟨b,1,none⟩ v=V/\V.heap[b]? = some (.cells #[u,v] t (0,0))/\OnlyAt b W V/\(∀ n w0,Below n w0 W->n<=b->Below n w0 V) :=
 ⟨_,rfl,hSk (hSk h _) _,((OnlyAt.refl _ _).set _ _).set _ _,fun _ _ hb hn=>(hb.setCell (p:=⟨b,0,none⟩) hn _).setCell (p:=⟨b,1,none⟩) hn _⟩
set_option maxRecDepth 100000 in
set_option maxHeartbeats 8000000 in
theorem jfI (f:Nat) (l:List (Int × Int)) (a:Option Addr) (len cap:Nat) (w:World) (hk:BkR f l) (h1:1<=f) (hL:SlC jb5 2 w.heap.size w a len cap l) :
  Calls Tryz.prog 148 #[.agg #[.int .i64 f,.slice a len cap]] w (jrz ((f:Int)-1) (jeN l) w):=by
 have hll:=hL.1.1;obtain⟨W0,hW0,hX0,hXr,hB0,hs0⟩:=jaS w #[.int .i64 f,.slice a len cap] 48 #[.int .i64 0,.slice none 0 0] 48;have hRt:=hk.right (hL.go hB0);have HX:Hid (∀ W,Below W0.heap.size W0 W->W.heap[w.heap.size]? = some (.cells #[.int .i64 f,.slice a len cap] 48 (0,0))/\W.heap[w.heap.size+1]? = some (.cells #[.int .i64 0,.slice none 0 0] 48 (0,0))):=fun W hb=>⟨jak hb (Nat.le_refl _) hX0,jak hb (Nat.le_refl _) hXr⟩
 have HS:=Lib.hid (hL.go hB0);have hl5:len<=513:=by have:=hk.len;omega
 have hf3:f<=3:=hk.hf;have HLL:=Lib.hid hll;obtain⟨q,hq⟩:∃ q,(l.map fun b=>(jaQ b.1,b.2))=q:=⟨_,rfl⟩;have HQ:Hid (∀ (k:Nat) (x:Int × Int),l[k]? = some x->q[k]? = some (jaQ x.1,x.2)):=fun k x hx=>by rw[<- hq,List.getElem?_map,hx];rfl
 have hql:q.length=l.length:=by rw[<- hq,List.length_map]
 obtain⟨S,hS⟩:∃ S:Nat->List (Int × Int),∀ k,S k=jda [] (q.take k):=⟨_,fun _=>rfl⟩;have HS0:Hid (S 0=[]):=by rw[Hid,hS];rfl
 have HSn:Hid (∀ (k:Nat) (x:Int × Int),q[k]? = some x->S (k+1)=jc3 (S k) x.1 x.2):=fun k x hx=>by rw[hS,hS,jan hx,jjy]
 have HSl:Hid (∀ k,k<=len->(S k).length<=k):=fun k hk=>by
  have:=jgF (q.take k) [];rw[List.length_take] at this;rw[hS];simp only[List.length_nil] at this;omega
 have HEn:Hid (S len=jeN l):=by rw[Hid,hS,List.take_of_length_le (by omega),<- hq];exact (jm6 hk.pos hk.u).symm
 have hqu:jbG q:=by rw[<- hq];exact (jeM hk.pos hk.u).2
 have HU:=Lib.hid hqu
 have HUS:Hid (∀ k,jbG (S k)):=fun k=>by
  rw[hS];exact jgG _ _ (fun c hc=>by cases hc) (fun c hc=>hqu c (List.mem_of_mem_take hc))
 have HBd1:Hid (∀ b∈l,jap f b.1=true):=hk.bd;have HI:=Lib.hid hk.b;generalize jeN l=R at HEn ⊢;have HB0:=Lib.hid hB0;have hz0:w.heap.size+2=W0.heap.size:=hs0.symm;have HZ0:=Lib.hid hz0;have hf1:((f:Int)==0)=false:=by rw[beq_eq_false_iff_ne];omega
 have hfi:(f:Int)<=3:=by omega
 have hfj:(1:Int)<=(f:Int):=by omega
 have hwf:IntKind.i64.wrap ((f:Int)-1)=(f:Int)-1:=IntWalk.i64_in _ (by omega);obtain⟨c0,c1⟩:=cl2 hX0;clear hX0 hXr hB0 hL hll hk hS hq hql hqu hz0;go_enter Tryz.func148,Tryz.ntmps148;go_wp2_with fail;refine hRt.mono ?_;rintro e w1 ⟨rfl,hb1⟩;obtain⟨hX1,-⟩:=HX.out w1 hb1;obtain⟨d0,d1⟩:=cl2 hX1;have HB1:=Lib.hid hb1;clear hX1 hb1 hRt c0 c1;go_wp2_with fail;go_loopw [4,5] (fun lv i wr=>∃ (k:Nat) (oa:Option Addr) (ol oc:Nat),i=.int .i64 k/\k<=len/\lv=.slice oa ol oc/\ol<=2000/\Hid (ol=(S k).length)/\Hid (∀ z,oa=some z->W0.heap.size<=z.block)/\Hid (SlC jb5 2 wr.heap.size wr oa ol oc (S k))/\Hid (Below W0.heap.size W0 wr)) (fun _ i _=>len-(intOf i).toNat)
 case atStart=>exact⟨0,none,0,0,rfl,Nat.zero_le _,rfl,by omega,by rw[HS0.out];rfl,(fun z hz=>by cases hz),by rw[HS0.out];exact SlC.nil,HB1.out⟩
 case round =>
  obtain⟨k,oa,ol,oc,rfl,hk,rfl,hol,HOl,HFr,HO,HB⟩:=hrel;obtain⟨hX3,hXr3⟩:=HX.out wr HB.out;obtain⟨u0,u1⟩:=cl2 hX3;have i0:(0:Int)<=(k:Int):=Int.natCast_nonneg _;by_cases hlt:k<len
  ·obtain⟨x,hx⟩:∃ x,l[k]? = some x:=⟨_,List.getElem?_eq_getElem (by rw[<- HLL.out];exact hlt)⟩
   obtain⟨b,off,rfl,hbb,hc⟩:=HS.out.1.2 k x hx;have hsz:=HB.out.size
   have HKP:Hid (∀ W,Below wr.heap.size wr W->W.cell? ⟨w.heap.size,0,none⟩=some (.int .i64 f)/\W.cell? ⟨w.heap.size,1,none⟩=some (.slice (some ⟨b,off,none⟩) len cap)/\W.cell? ⟨b,off+k*2,none⟩=some (.int .i64 x.1)/\Below wr.heap.size wr W):=fun W h=>by
    have hb':=HB.out.trans (h.mono hsz);obtain⟨g1,-⟩:=HX.out W hb';exact⟨cCc g1 0,cCc g1 1,(hb'.cell (p:=⟨b,off+k*2,none⟩) hbb).trans (hc 0 (by omega)),h⟩
   obtain⟨q0,q1,q2,qB⟩:=HKP.out wr (Below.refl _ _);have HC:Hid (∀ W,Below W0.heap.size W0 W->W.cell? ⟨b,off+k*2+1,none⟩=some (.int .u64 x.2)):=fun W h=>(h.cell (p:=⟨b,off+k*2+1,none⟩) hbb).trans (hc 1 (by omega))
   have i1:(k:Int)<(len:Int):=by omega
   have hxm:=List.mem_of_getElem? hx;obtain⟨u1,u2⟩:=(HI.out x hxm).1;have HBd:Hid (∀ W,Calls Tryz.prog 180 #[.int .i64 f,.int .i64 x.1] W (BdR f x.1 W)):=fun W=>jdD f x.1 ⟨u1,u2⟩ W
   obtain⟨hhalf,hlu⟩:=jhw f h1 hf3 x.1 (HBd1.out x hxm);have hbx:=HBd1.out x hxm;have HT:Hid (S (k+1)=jc3 (S k) (jaQ x.1) x.2):=HSn.out k _ (HQ.out k x hx);have hle:=HSl.out (k+1) hlt;have hlk:=HSl.out k hk;have hux:U64 x.2:=(HI.out x hxm).2
   have HPut:Hid (∀ W,Below wr.heap.size wr W->Calls Tryz.prog 165 #[.slice oa ol oc,.int .i64 (jaQ x.1),.int .u64 x.2] W (jiE oa (S (k+1)) W)):=fun W hb=>by
    rw[HT.out];exact jg9 (jaQ x.1) x.2 (S k) oa ol oc W (HO.out.go hb) (by have:=HOl.out;omega) hux (HUS.out k)
   have HBkt:Hid (∀ W,Calls Tryz.prog 184 #[.int .i64 ((f:Int)-1),.int .u64 (jbR f x.1)] W fun e w'=>e=.returned (.int .i64 (jaQ x.1))/\w'=W):=fun W=>by
    obtain⟨lo,hlo⟩:=Int.eq_ofNat_of_zero_le hlu.1;have:=ja0 (f-1) lo (by omega) (by have:=hlu.2;omega) W;rw[<- hhalf,hlo,Int.toNat_natCast];rw[show (((f-1:Nat)):Int)=(f:Int)-1 by omega] at this;exact this
   have HLe:Hid (∀ lo:Int,(jap f x.1=true->1<=(f:Int)->lo=jbR (f:Int).toNat x.1)->lo=jbR f x.1):=fun lo h=>by have:=h hbx hfj;rw[Int.toNat_natCast] at this;exact this
   generalize jbR f x.1=low at HBkt HLe hlu;generalize jaQ x.1=hp at HPut HBkt;obtain⟨n2,hn2⟩:∃ n2,(S (k+1)).length=n2:=⟨_,rfl⟩;rw[hn2] at hle;have HN2:=Lib.hid hn2.symm;obtain⟨x1,x2⟩:=x;dsimp only at q2 HC HBd HPut HKP hux HLe;clear hc hx hX3 hXr3 hn2 hhalf hxm hbx u0 u1 u2;go_wp2_with fail
   go_region_held3 (fun w'=>w'.cell? ⟨w.heap.size,0,none⟩=some (.int .i64 f)/\w'.cell? ⟨w.heap.size,1,none⟩=some (.slice (some ⟨b,off,none⟩) len cap)/\w'.cell? ⟨b,off+k*2,none⟩=some (.int .i64 x1)/\Below wr.heap.size wr w')
    (first
     | with_reducible exact HKP.out _ qB.drew
     | (go_split_ands;with_reducible refine HKP.out _ ?_;with_reducible first | exact Below.trans (by assumption) (Below.mono (by assumption) (Below.size (by assumption))) | assumption)
     | go_keep)
    (first | (go_at_call 180;refine (HBd.out _).mono ?_;rintro e w6 ⟨lo,hi,rfl,hlo,hb6⟩;obtain rfl:=HLe.out lo hlo))
   rename_i hHeld
   obtain⟨q0,q1,q2,qB⟩:=hHeld;have hBd6:Below W0.heap.size W0 w6:=HB.out.trans (qB.mono hsz);have q3:=HC.out w6 hBd6;have HBw:=Lib.hid qB.drew;have HBd:=Lib.hid hBd6.drew;clear hb6 hBd6 hlo;go_wp2_with fail;refine wp_region_any (by kernel_rfl) ?_;change wpAny _ _ _ _ _ _ _ (World.drew _);refine tk 0 (v:=?_) rfl ?_ ?_;rotate_left
   ·intro w;go_simp;with_reducible rfl
   refine tk 1 (v:=?_) rfl ?_ ?_;rotate_left
   ·intro w;go_simp;with_reducible rfl
   refine tk 4 (v:=?_) rfl ?_ ?_;rotate_left
   ·intro w;go_simp;with_reducible rfl
   refine tk 6 (v:=?_) rfl ?_ ?_;rotate_left
   ·intro w;go_simp;with_reducible rfl
   refine tk 8 (v:=?_) rfl ?_ ?_;rotate_left
   ·intro w;go_simp;with_reducible rfl
   refine wpAny_ready (rs:=[2,7]) (by kernel_rfl) (by simp) ?_;refine AllReady.cons rfl (fun K hK=>?_) ?_
   ·go_simp
    refine hK _ _ ?_;clear hK K;refine tk 3 (v:=?_) rfl ?_ ?_;rotate_left
    ·intro w;go_simp;with_reducible rfl
    refine wpAny_ready (rs:=[5,7]) (by kernel_rfl) (by simp) ?_;refine AllReady.cons rfl (fun K hK=>?_) ?_
    ·go_simp
     refine (HBkt.out _).mono ?_;rintro e w' ⟨rfl,h9⟩;subst w';refine hK _ _ ?_;clear hK K;refine wpAny_ready (rs:=[7]) (by kernel_rfl) (by simp) ?_;refine AllReady.cons rfl (fun K hK=>?_) ?_
     ·go_simp
      refine hK _ _ ?_;clear hK K;refine tk 9 (v:=?_) rfl ?_ ?_;rotate_left
      ·intro w;go_simp;with_reducible rfl
      refine tk 10 (v:=?_) rfl ?_ ?_;rotate_left
      ·intro w;go_simp;with_reducible rfl
      refine wpAny_ready (rs:=[11]) (by kernel_rfl) (by simp) ?_;refine AllReady.cons rfl (fun K hK=>?_) ?_
      ·go_simp
       refine hK _ _ ?_;clear hK K;refine wpAny_ready (rs:=[12]) (by kernel_rfl) (by simp) ?_;refine AllReady.cons rfl (fun K hK=>?_) ?_
       ·go_simp
        refine (HPut.out _ HBw.out).mono ?_;rintro e w3 ⟨pa,pc,rfl,hS3,hF3,hb3⟩;have HF3:Hid (∀ z,pa=some z->W0.heap.size<=z.block):=fun z hz=>(hF3 z hz).elim (HFr.out z) (Nat.le_trans HBd.out.size)
        clear hF3;rw[HN2.out.symm] at hS3 ⊢;have HS3:=Lib.hid hS3;have HB3:=Lib.hid (HBd.out.trans (hb3.mono HBd.out.size));clear hS3 hb3;refine hK _ _ ?_;clear hK K;refine wpAny_ready (rs:=[13]) (by kernel_rfl) (by simp) ?_;refine AllReady.cons rfl (fun K hK=>?_) ?_
        ·go_simp
         refine hK _ _ ?_;clear hK K;refine wpAny_done (by kernel_rfl) ?_ _;go_wp2_with fail
         all_goals go_roundw
         case rel=>exact⟨k+1,pa,n2,pc,by go_num,by omega,rfl,by omega,HN2.out,HF3.out,HS3.out,HB3.out⟩
         case measure=>simp[intOf];try omega
        exact AllReady.nil
       exact AllReady.nil
      exact AllReady.nil
     exact AllReady.nil
    refine AllReady.cons rfl (fun K hK=>?_) ?_
    ·go_simp
     refine hK _ _ ?_;clear hK K;refine tk 9 (v:=?_) rfl ?_ ?_;rotate_left
     ·intro w;go_simp;with_reducible rfl
     refine tk 10 (v:=?_) rfl ?_ ?_;rotate_left
     ·intro w;go_simp;with_reducible rfl
     refine wpAny_ready (rs:=[5,11]) (by kernel_rfl) (by simp) ?_;refine AllReady.cons rfl (fun K hK=>?_) ?_
     ·go_simp
      refine (HBkt.out _).mono ?_;rintro e w' ⟨rfl,h9⟩;subst w';refine hK _ _ ?_;clear hK K;refine wpAny_ready (rs:=[11]) (by kernel_rfl) (by simp) ?_;refine AllReady.cons rfl (fun K hK=>?_) ?_
      ·go_simp
       refine hK _ _ ?_;clear hK K;refine wpAny_ready (rs:=[12]) (by kernel_rfl) (by simp) ?_;refine AllReady.cons rfl (fun K hK=>?_) ?_
       ·go_simp
        refine (HPut.out _ HBw.out).mono ?_;rintro e w3 ⟨pa,pc,rfl,hS3,hF3,hb3⟩;have HF3:Hid (∀ z,pa=some z->W0.heap.size<=z.block):=fun z hz=>(hF3 z hz).elim (HFr.out z) (Nat.le_trans HBd.out.size)
        clear hF3;rw[HN2.out.symm] at hS3 ⊢;have HS3:=Lib.hid hS3;have HB3:=Lib.hid (HBd.out.trans (hb3.mono HBd.out.size));clear hS3 hb3;refine hK _ _ ?_;clear hK K;refine wpAny_ready (rs:=[13]) (by kernel_rfl) (by simp) ?_;refine AllReady.cons rfl (fun K hK=>?_) ?_
        ·go_simp
         refine hK _ _ ?_;clear hK K;refine wpAny_done (by kernel_rfl) ?_ _;go_wp2_with fail
         all_goals go_roundw
         case rel=>exact⟨k+1,pa,n2,pc,by go_num,by omega,rfl,by omega,HN2.out,HF3.out,HS3.out,HB3.out⟩
         case measure=>simp[intOf];try omega
        exact AllReady.nil
       exact AllReady.nil
      exact AllReady.nil
     refine AllReady.cons rfl (fun K hK=>?_) ?_
     ·go_simp
      refine hK _ _ ?_;clear hK K;refine wpAny_ready (rs:=[5]) (by kernel_rfl) (by simp) ?_;refine AllReady.cons rfl (fun K hK=>?_) ?_
      ·go_simp
       refine (HBkt.out _).mono ?_;rintro e w' ⟨rfl,h9⟩;subst w';refine hK _ _ ?_;clear hK K;refine wpAny_ready (rs:=[12]) (by kernel_rfl) (by simp) ?_;refine AllReady.cons rfl (fun K hK=>?_) ?_
       ·go_simp
        refine (HPut.out _ HBw.out).mono ?_;rintro e w3 ⟨pa,pc,rfl,hS3,hF3,hb3⟩;have HF3:Hid (∀ z,pa=some z->W0.heap.size<=z.block):=fun z hz=>(hF3 z hz).elim (HFr.out z) (Nat.le_trans HBd.out.size)
        clear hF3;rw[HN2.out.symm] at hS3 ⊢;have HS3:=Lib.hid hS3;have HB3:=Lib.hid (HBd.out.trans (hb3.mono HBd.out.size));clear hS3 hb3;refine hK _ _ ?_;clear hK K;refine wpAny_ready (rs:=[13]) (by kernel_rfl) (by simp) ?_;refine AllReady.cons rfl (fun K hK=>?_) ?_
        ·go_simp
         refine hK _ _ ?_;clear hK K;refine wpAny_done (by kernel_rfl) ?_ _;go_wp2_with fail
         all_goals go_roundw
         case rel=>exact⟨k+1,pa,n2,pc,by go_num,by omega,rfl,by omega,HN2.out,HF3.out,HS3.out,HB3.out⟩
         case measure=>simp[intOf];try omega
        exact AllReady.nil
       exact AllReady.nil
      exact AllReady.nil
     exact AllReady.nil
    exact AllReady.nil
   refine AllReady.cons rfl (fun K hK=>?_) ?_
   ·go_simp
    refine hK _ _ ?_;clear hK K;refine tk 9 (v:=?_) rfl ?_ ?_;rotate_left
    ·intro w;go_simp;with_reducible rfl
    refine tk 10 (v:=?_) rfl ?_ ?_;rotate_left
    ·intro w;go_simp;with_reducible rfl
    refine wpAny_ready (rs:=[2,11]) (by kernel_rfl) (by simp) ?_;refine AllReady.cons rfl (fun K hK=>?_) ?_
    ·go_simp
     refine hK _ _ ?_;clear hK K;refine tk 3 (v:=?_) rfl ?_ ?_;rotate_left
     ·intro w;go_simp;with_reducible rfl
     refine wpAny_ready (rs:=[5,11]) (by kernel_rfl) (by simp) ?_;refine AllReady.cons rfl (fun K hK=>?_) ?_
     ·go_simp
      refine (HBkt.out _).mono ?_;rintro e w' ⟨rfl,h9⟩;subst w';refine hK _ _ ?_;clear hK K;refine wpAny_ready (rs:=[11]) (by kernel_rfl) (by simp) ?_;refine AllReady.cons rfl (fun K hK=>?_) ?_
      ·go_simp
       refine hK _ _ ?_;clear hK K;refine wpAny_ready (rs:=[12]) (by kernel_rfl) (by simp) ?_;refine AllReady.cons rfl (fun K hK=>?_) ?_
       ·go_simp
        refine (HPut.out _ HBw.out).mono ?_;rintro e w3 ⟨pa,pc,rfl,hS3,hF3,hb3⟩;have HF3:Hid (∀ z,pa=some z->W0.heap.size<=z.block):=fun z hz=>(hF3 z hz).elim (HFr.out z) (Nat.le_trans HBd.out.size)
        clear hF3;rw[HN2.out.symm] at hS3 ⊢;have HS3:=Lib.hid hS3;have HB3:=Lib.hid (HBd.out.trans (hb3.mono HBd.out.size));clear hS3 hb3;refine hK _ _ ?_;clear hK K;refine wpAny_ready (rs:=[13]) (by kernel_rfl) (by simp) ?_;refine AllReady.cons rfl (fun K hK=>?_) ?_
        ·go_simp
         refine hK _ _ ?_;clear hK K;refine wpAny_done (by kernel_rfl) ?_ _;go_wp2_with fail
         all_goals go_roundw
         case rel=>exact⟨k+1,pa,n2,pc,by go_num,by omega,rfl,by omega,HN2.out,HF3.out,HS3.out,HB3.out⟩
         case measure=>simp[intOf];try omega
        exact AllReady.nil
       exact AllReady.nil
      exact AllReady.nil
     refine AllReady.cons rfl (fun K hK=>?_) ?_
     ·go_simp
      refine hK _ _ ?_;clear hK K;refine wpAny_ready (rs:=[5]) (by kernel_rfl) (by simp) ?_;refine AllReady.cons rfl (fun K hK=>?_) ?_
      ·go_simp
       refine (HBkt.out _).mono ?_;rintro e w' ⟨rfl,h9⟩;subst w';refine hK _ _ ?_;clear hK K;refine wpAny_ready (rs:=[12]) (by kernel_rfl) (by simp) ?_;refine AllReady.cons rfl (fun K hK=>?_) ?_
       ·go_simp
        refine (HPut.out _ HBw.out).mono ?_;rintro e w3 ⟨pa,pc,rfl,hS3,hF3,hb3⟩;have HF3:Hid (∀ z,pa=some z->W0.heap.size<=z.block):=fun z hz=>(hF3 z hz).elim (HFr.out z) (Nat.le_trans HBd.out.size)
        clear hF3;rw[HN2.out.symm] at hS3 ⊢;have HS3:=Lib.hid hS3;have HB3:=Lib.hid (HBd.out.trans (hb3.mono HBd.out.size));clear hS3 hb3;refine hK _ _ ?_;clear hK K;refine wpAny_ready (rs:=[13]) (by kernel_rfl) (by simp) ?_;refine AllReady.cons rfl (fun K hK=>?_) ?_
        ·go_simp
         refine hK _ _ ?_;clear hK K;refine wpAny_done (by kernel_rfl) ?_ _;go_wp2_with fail
         all_goals go_roundw
         case rel=>exact⟨k+1,pa,n2,pc,by go_num,by omega,rfl,by omega,HN2.out,HF3.out,HS3.out,HB3.out⟩
         case measure=>simp[intOf];try omega
        exact AllReady.nil
       exact AllReady.nil
      exact AllReady.nil
     exact AllReady.nil
    refine AllReady.cons rfl (fun K hK=>?_) ?_
    ·go_simp
     refine hK _ _ ?_;clear hK K;refine wpAny_ready (rs:=[2]) (by kernel_rfl) (by simp) ?_;refine AllReady.cons rfl (fun K hK=>?_) ?_
     ·go_simp
      refine hK _ _ ?_;clear hK K;refine tk 3 (v:=?_) rfl ?_ ?_;rotate_left
      ·intro w;go_simp;with_reducible rfl
      refine wpAny_ready (rs:=[5]) (by kernel_rfl) (by simp) ?_;refine AllReady.cons rfl (fun K hK=>?_) ?_
      ·go_simp
       refine (HBkt.out _).mono ?_;rintro e w' ⟨rfl,h9⟩;subst w';refine hK _ _ ?_;clear hK K;refine wpAny_ready (rs:=[12]) (by kernel_rfl) (by simp) ?_;refine AllReady.cons rfl (fun K hK=>?_) ?_
       ·go_simp
        refine (HPut.out _ HBw.out).mono ?_;rintro e w3 ⟨pa,pc,rfl,hS3,hF3,hb3⟩;have HF3:Hid (∀ z,pa=some z->W0.heap.size<=z.block):=fun z hz=>(hF3 z hz).elim (HFr.out z) (Nat.le_trans HBd.out.size)
        clear hF3;rw[HN2.out.symm] at hS3 ⊢;have HS3:=Lib.hid hS3;have HB3:=Lib.hid (HBd.out.trans (hb3.mono HBd.out.size));clear hS3 hb3;refine hK _ _ ?_;clear hK K;refine wpAny_ready (rs:=[13]) (by kernel_rfl) (by simp) ?_;refine AllReady.cons rfl (fun K hK=>?_) ?_
        ·go_simp
         refine hK _ _ ?_;clear hK K;refine wpAny_done (by kernel_rfl) ?_ _;go_wp2_with fail
         all_goals go_roundw
         case rel=>exact⟨k+1,pa,n2,pc,by go_num,by omega,rfl,by omega,HN2.out,HF3.out,HS3.out,HB3.out⟩
         case measure=>simp[intOf];try omega
        exact AllReady.nil
       exact AllReady.nil
      exact AllReady.nil
     exact AllReady.nil
    exact AllReady.nil
   exact AllReady.nil
  ·obtain rfl:k=len:=by omega
   obtain⟨V,hV,hXV,hOV,hBV⟩:=jrl (.int .i64 ((f:Int)-1)) (.slice oa ol oc) hXr3;obtain⟨t0,t1⟩:=cl2 hXr3;obtain⟨f0,f1⟩:=cz2 hXr3;obtain⟨p0,p1⟩:=cl2 hXV;have HSV:=Lib.hid (jiu HO.out hXr3 hOV);have HBV:Hid (Below w.heap.size w V):=hBV _ _ (HB0.out.trans (HB.out.mono HB0.out.size)) (by omega);clear hX3 hXr3 hXV hOV hBV;go_wp2_with fail;refine bodyPost_ret (v:=.tuple #[.agg #[.int .i64 ((f:Int)-1),.slice oa ol oc],.int .i64 0]) (by simp[results,Tryz.f148,go_sem,p0,p1]) rfl ?_;rw[<- HEn.out];unfold jrz;rw[<- HOl.out];exact⟨oa,oc,rfl,HSV.out,fun z hz=>Nat.le_trans HB0.out.size (HFr.out z hz),HBV.out⟩
end Go.Proofs.YtieknocphiceoaaGreatDoor
