/- Package hist: Lower. Package cms: New, begin, Add, Lower. Package cms: Lower. Package ladder: the four bodies' add and lower; told. errors.As at a target of type **ladder.fault: lines of the worked example ToyasAs turned to this program; ladder.errno, isFull. -/
import Derived.LaidEql
import Derived.Stop.Asserts
import Derived.RowKitTokens
import Derived.Test.YtieknocphiceoaaGreatDoorZGG
namespace Go.Proofs.YtieknocphiceoaaGreatDoor
open Go Go.RowKit Go.Shelf Go.Maps Go.Sort
theorem jnF (l:List (Int × Int)) (a:List (Int × Int)) (c:Int × Int):jbn a (l++[c])=jaF (jbn a l) c.1 c.2:=by simp[jbn]
theorem jlg (l:List (Int × Int)) (k:Nat):jcr (jbn [] ((l.take k).map fun b=>(jaQ b.1,b.2))):=jgb _ [] List.Pairwise.nil
theorem jpf (l:List (Int × Int)) (f:Nat) (hf:f<=3) (hbd:∀ b∈l,jap f b.1=true) (hbu:jbG l):jbG (jbn [] (l.map fun b=>(jaQ b.1,b.2)))/\∀ c∈jbn [] (l.map fun b=>(jaQ b.1,b.2)),I64 c.1:=by
 refine⟨jd6 _ [] (fun b hb=>by cases hb) (fun c hc=>by obtain⟨d,hd,rfl⟩:=List.mem_map.1 hc;exact hbu d hd),fun c hc=>?_⟩;rcases je8 _ [] c hc with hd | ⟨d,hd,e⟩ | ⟨d,hd,e⟩
 ·cases hd
 ·cases hd
 ·obtain⟨x,hx,rfl⟩:=List.mem_map.1 hd
  rw[e];have:=jb7 f hf x.1 (hbd x hx);unfold jaQ I64;show _/\_;split<;>omega
set_option maxRecDepth 100000 in
set_option maxHeartbeats 4000000 in
theorem jj9 (f:Nat) (l:List (Int × Int)) (a:Option Addr) (len cap:Nat) (w:World) (h1:1<=f) (hf:f<=3) (hL:SlE jb5 2 w.heap.size w a len l) (hr:jaX f l=true) (hbd:∀ b∈l,jap f b.1=true) (hbu:jbG l) (hlen:len<=1000) :
  Calls Tryz.prog 306 #[.agg #[.int .i64 f,.slice a len cap]] w fun e w'=>∃ a' len' cap',e=.returned (.tuple #[.agg #[.int .i64 ((f:Int)-1),.slice a' len' cap'],.int .i64 0])/\SlC jb5 2 w'.heap.size w' a' len' cap' (jeN l)/\Below w.heap.size w w':=by
 have HLL:=Lib.hid hL.1;have hp:∀ b∈l,I64 b.1:=fun b hb=>by have:=jb7 f hf b.1 (hbd b hb);unfold I64;omega
 obtain⟨W0,hW0,hXp,hX0,hB0,hs0⟩:=jaS w #[.int .i64 f,.slice a len cap] 48 #[.int .i64 0,.slice none 0 0] 48;have HRt:=Lib.hid (jee f l a len cap W0 ((hL.below hB0).mono hB0.size) (by unfold maxLen;omega) (fun b hb=>(hp b hb).2));rw[hr] at HRt;obtain⟨z0,z1⟩:=cl2 hXp;have HX0:=Lib.hid hX0;have HXP:=Lib.hid hXp;have HB0:=Lib.hid hB0;have HL:=Lib.hid hL;have hw1:wrap64 ((f:Int)-1)=(f:Int)-1:=by unfold wrap64;omega
 have hw2:IntKind.i64.wrap ((f:Int)-1)=(f:Int)-1:=IntWalk.i64_in _ (by omega)
 have HBl:Hid (∀ w1,Calls Tryz.prog 308 #[.int .i64 ((f:Int)-1)] w1 fun e w'=>∃ b,e=.returned (.tuple #[.agg #[.map (some b),.int .i64 ((f:Int)-1)],.nilIface])/\MapIs w' b 0 []/\w1.heap.size<=b/\Below w1.heap.size w1 w'):=fun w1=>by
  have:=jlF (f-1) w1 (by omega);rwa [show ((f-1:Nat):Int)=(f:Int)-1 by omega] at this
 clear hL hr hX0 hB0 hXp;go_enter Tryz.func306,Tryz.ntmps306;go_wp2_with fail;refine HRt.out.mono ?_;rintro e w1 ⟨rfl,hb1⟩;have hXp1:=jak hb1 (Nat.le_refl _) HXP.out;obtain⟨y0,y1⟩:=cl2 hXp1;have HXP1:=Lib.hid hXp1;clear hXp1;go_wp2_with fail;refine (HBl.out _).mono ?_;rintro e w2 ⟨b,rfl,hm2,hb2,hB2⟩;obtain⟨W3,hW3,hX3,hB3,hs3⟩:=jah w2 #[.map (some b),.int .i64 ((f:Int)-1)] 362;have hB2s:=hB2.size;have hXp3:=jak (hB2.trans (hB3.mono hB2s)) (Nat.le_refl _) HXP1.out;have hXr3:=jak (hB2.trans (hB3.mono hB2s)) (Nat.le_refl _) (jak hb1 (Nat.le_refl _) HX0.out);have hM3:MapIs W3 b 0 []:=hm2.kept (jbe hB3 none) (by simp);have hb1s:=hb1.size;have hB03:Below w.heap.size w W3:=(HB0.out.trans (hb1.mono HB0.out.size)).trans ((hB2.mono (by omega)).trans (hB3.mono (by omega)));have HX3:=Lib.hid hX3;have HXR:=Lib.hid hXr3;have HXP3:=Lib.hid hXp3;have HB03:=Lib.hid hB03;have hbl:=hm2.lt;obtain⟨x0,x1⟩:=cl2 hX3;obtain⟨q0,q1⟩:=cl2 hXp3;clear hX3 hXr3 hXp3 hm2 hB2 hB3 hb1 hB03;go_wp2_with fail;go_loopw [7,8,9,10,30] (fun _ _ _ _ i wr=>∃ k:Nat,k<=len/\i=.int .i64 k/\MapIs wr b k (jbn [] ((l.take k).map fun b=>(jaQ b.1,b.2)))/\W3.grownBy wr (some b)) (fun _ _ _ _ i _=>len-(intOf i).toNat)
 case atStart=>exact⟨0,Nat.zero_le _,rfl,hM3,World.grownBy.refl _ _⟩
 case round =>
  obtain⟨k,hk,rfl,hM,hG⟩:=hrel;have hXw:=(hG.block _ (Array.getElem?_eq_some_iff.1 HXP3.out).1 (fun e=>by cases e;omega)).trans HXP3.out;have hXr:=(hG.block _ (Array.getElem?_eq_some_iff.1 HXR.out).1 (fun e=>by cases e;omega)).trans HXR.out;have hXx:=(hG.block _ (Array.getElem?_eq_some_iff.1 HX3.out).1 (fun e=>by cases e;omega)).trans HX3.out;have hBw:Below w.heap.size w wr:=HB03.out.grown hG HB03.out.size (fun j e=>by cases e;omega);have hGs:=hG.size;by_cases hlt:k<len
  ·obtain⟨c,b1,o1,hx,ea,hb1,p0,p1⟩:=jeD (HL.out.below hBw) hlt
   subst ea;have HX:=Lib.hid hx;have hcm:=List.mem_of_getElem? hx;have hxi:I64 c.1:=hp c hcm;have hxu:U64 c.2:=hbu c hcm;have hcb:=hbd c hcm;obtain⟨hlh,hlu⟩:=jhw f h1 hf c.1 hcb;have hhi:I64 (jaQ c.1):=by have:=jb7 f hf c.1 hcb;unfold jaQ I64;split<;>omega
   obtain⟨x1,x2⟩:=c;dsimp only at p0 p1 hxi hxu hcb hlh hlu hhi;obtain⟨W4,hW4,hX4,hB4,hs4⟩:=jah wr #[.int .i64 x1,.int .u64 x2] 118;have HBL:=Lib.hid (jiF f h1 hf x1 W4 hcb);obtain⟨lo,hlo⟩:∃ lo,jbR f x1=lo:=⟨_,rfl⟩;rw[hlo] at HBL hlu hlh;have hXw4:=jak hB4 (Nat.le_refl _) hXw;have hXx4:=jak hB4 (Nat.le_refl _) hXx;obtain⟨u0,u1⟩:=cl2 hX4;obtain⟨v0,v1⟩:=cl2 hXw4;have HM4:Hid (MapIs W4 b k (jbn [] ((l.take k).map fun b=>(jaQ b.1,b.2)))):=hM.kept (jbe hB4 none) (by simp);have HX4:=Lib.hid hX4;have HXx4:=Lib.hid hXx4;have HG4:=Lib.hid (hG.trans (jbe hB4 (some b)));clear hXw hXr hXx hX4 hXw4 hXx4 hM hB4 hG hx hBw;go_wp2_with fail;refine HBL.out.mono ?_;rintro e w5 ⟨hi,rfl,hb5⟩;have HXx5:Hid (w5.drew.heap[w2.heap.size]? = some (.cells #[.map (some b),.int .i64 ((f:Int)-1)] 362 (0,0))):=jak hb5.drew (Nat.le_refl _) HXx4.out;have HX5:Hid (w5.drew.heap[wr.heap.size]? = some (.cells #[.int .i64 x1,.int .u64 x2] 118 (0,0))):=jak hb5.drew (Nat.le_refl _) HX4.out;have HM5:Hid (MapIs w5.drew b k (jbn [] ((l.take k).map fun b=>(jaQ b.1,b.2)))):=HM4.out.kept (jen (jbe hb5 none)) (by simp);have HG5:Hid (W3.grownBy w5.drew (some b)):=HG4.out.trans (jen (jbe hb5 (some b)))
   have HBK:Hid (Calls Tryz.prog 311 #[.int .i64 ((f:Int)-1),.int .u64 lo] w5.drew fun e w'=>e=.returned (.int .i64 (jaQ x1))/\Below w5.drew.heap.size w5.drew w'):=by
    have:=jlp (f-1) lo.toNat w5.drew (by omega) (by unfold U64 at hlu;omega);rwa [show ((f-1:Nat):Int)=(f:Int)-1 by omega,show ((lo.toNat:Nat):Int)=lo by unfold U64 at hlu;omega,hlh] at this
   have HUP:=jlg l k
   have HP:Hid (∀ w4,Below w5.drew.heap.size w5.drew w4->Calls Tryz.prog 310 #[.agg #[.map (some b),.int .i64 ((f:Int)-1)],.int .i64 (jaQ x1),.int .u64 x2] w4 fun e w'=>e=.returned (.tuple #[])/\MapIs w' b (k+1) (jaF (jbn [] ((l.take k).map fun b=>(jaQ b.1,b.2))) (jaQ x1) x2)/\w4.grownBy w' (some b)):=fun w4 hb4 =>
    jre b k ((f:Int)-1) (jaQ x1) x2 _ w4 (HM5.out.kept (jbe hb4 none) (by simp)) hhi hxu (by omega) HUP (jd6 _ [] (fun b hb=>by cases hb) (fun c hc=>by obtain⟨d,hd,rfl⟩:=List.mem_map.1 hc;exact hbu d (List.mem_of_mem_take hd)))
   have HC:Hid (∀ w4,Below w5.drew.heap.size w5.drew w4->w4.cell? ⟨w2.heap.size,0,none⟩=some (.map (some b))/\w4.cell? ⟨w2.heap.size,1,none⟩=some (.int .i64 ((f:Int)-1))/\w4.cell? ⟨wr.heap.size,1,none⟩=some (.int .u64 x2)):=fun w4 hb4=>by
    have h1:=jak hb4 (Nat.le_refl _) HXx5.out;exact⟨cCc h1 0,cCc h1 1,cCc (jak hb4 (Nat.le_refl _) HX5.out) 1⟩
   have HRel:Hid (∀ w4 w6,Below w5.drew.heap.size w5.drew w4->MapIs w6 b (k+1) (jaF (jbn [] ((l.take k).map fun b=>(jaQ b.1,b.2))) (jaQ x1) x2)->w4.grownBy w6 (some b)->MapIs w6 b (k+1) (jbn [] ((l.take (k+1)).map fun b=>(jaQ b.1,b.2)))/\W3.grownBy w6 (some b)):=fun w4 w6 hb4 hm6 hg6=>by
    rw[jan HX.out,List.map_append];exact⟨by rw[List.map_singleton,jnF];exact hm6,(HG5.out.trans (jbe hb4 _)).trans hg6⟩
   obtain⟨y0,y1,y2⟩:=HC.out _ (Below.refl _ _);clear hb5 hxu hxi hhi hcb hlh hlu hlo u0 u1 v0 v1 p0 p1 q0 q1 x0 hcm;go_wp2_with fail
   -- REGION
   refine wp_region_any (by kernel_rfl) ?_;change wpAny _ _ _ _ _ _ _ (World.drew _);refine tk 1 (v:=?_) rfl ?_ ?_;rotate_left
   ·intro w;go_simp;with_reducible rfl
   refine tk 3 (v:=?_) rfl ?_ ?_;rotate_left
   ·intro w;go_simp;with_reducible rfl
   refine tk 5 (v:=?_) rfl ?_ ?_;rotate_left
   ·intro w;go_simp;with_reducible rfl
   refine wpAny_ready (rs:=[0,2,6]) (by kernel_rfl) (by simp) ?_;refine AllReady.cons rfl (fun K hK=>?_) ?_
   ·go_simp
    refine hK _ _ ?_;clear hK K;refine wpAny_ready (rs:=[2,6]) (by kernel_rfl) (by simp) ?_;refine AllReady.cons rfl (fun K hK=>?_) ?_
    ·go_simp
     refine hK _ _ ?_;clear hK K;refine wpAny_ready (rs:=[4,6]) (by kernel_rfl) (by simp) ?_;refine AllReady.cons rfl (fun K hK=>?_) ?_
     ·go_simp
      refine HBK.out.mono ?_;rintro e w4 ⟨rfl,hb4⟩;have hP:=HP.out w4 hb4;obtain⟨u0,u1,v1⟩:=HC.out w4 hb4;refine hK _ _ ?_;clear hK K;refine wpAny_ready (rs:=[6]) (by kernel_rfl) (by simp) ?_;refine AllReady.cons rfl (fun K hK=>?_) ?_
      ·go_simp
       refine hK _ _ ?_;clear hK K;refine wpAny_ready (rs:=[7]) (by kernel_rfl) (by simp) ?_;refine AllReady.cons rfl (fun K hK=>?_) ?_
       ·go_simp
        refine hP.mono ?_;rintro e w6 ⟨rfl,hm6,hg6⟩;refine hK _ _ ?_;clear hK K;refine wpAny_done (by kernel_rfl) ?_ _;obtain⟨hR1,hR2⟩:=HRel.out w4 w6 hb4 hm6 hg6;clear hm6 hg6 hP hb4 u0 u1 v1;go_wp2_with fail;go_roundw
        case rel=>exact⟨k+1,hlt,by simp,hR1,hR2⟩
        case measure=>simp[intOf];exact jbj hlt
       exact AllReady.nil
      exact AllReady.nil
     refine AllReady.cons rfl (fun K hK=>?_) ?_
     ·go_simp
      refine hK _ _ ?_;clear hK K;refine wpAny_ready (rs:=[4]) (by kernel_rfl) (by simp) ?_;refine AllReady.cons rfl (fun K hK=>?_) ?_
      ·go_simp
       refine HBK.out.mono ?_;rintro e w4 ⟨rfl,hb4⟩;have hP:=HP.out w4 hb4;obtain⟨u0,u1,v1⟩:=HC.out w4 hb4;refine hK _ _ ?_;clear hK K;refine wpAny_ready (rs:=[7]) (by kernel_rfl) (by simp) ?_;refine AllReady.cons rfl (fun K hK=>?_) ?_
       ·go_simp
        refine hP.mono ?_;rintro e w6 ⟨rfl,hm6,hg6⟩;refine hK _ _ ?_;clear hK K;refine wpAny_done (by kernel_rfl) ?_ _;obtain⟨hR1,hR2⟩:=HRel.out w4 w6 hb4 hm6 hg6;clear hm6 hg6 hP hb4 u0 u1 v1;go_wp2_with fail;go_roundw
        case rel=>exact⟨k+1,hlt,by simp,hR1,hR2⟩
        case measure=>simp[intOf];exact jbj hlt
       exact AllReady.nil
      exact AllReady.nil
     exact AllReady.nil
    refine AllReady.cons rfl (fun K hK=>?_) ?_
    ·go_simp
     refine hK _ _ ?_;clear hK K;refine wpAny_ready (rs:=[2]) (by kernel_rfl) (by simp) ?_;refine AllReady.cons rfl (fun K hK=>?_) ?_
     ·go_simp
      refine hK _ _ ?_;clear hK K;refine wpAny_ready (rs:=[4]) (by kernel_rfl) (by simp) ?_;refine AllReady.cons rfl (fun K hK=>?_) ?_
      ·go_simp
       refine HBK.out.mono ?_;rintro e w4 ⟨rfl,hb4⟩;have hP:=HP.out w4 hb4;obtain⟨u0,u1,v1⟩:=HC.out w4 hb4;refine hK _ _ ?_;clear hK K;refine wpAny_ready (rs:=[7]) (by kernel_rfl) (by simp) ?_;refine AllReady.cons rfl (fun K hK=>?_) ?_
       ·go_simp
        refine hP.mono ?_;rintro e w6 ⟨rfl,hm6,hg6⟩;refine hK _ _ ?_;clear hK K;refine wpAny_done (by kernel_rfl) ?_ _;obtain⟨hR1,hR2⟩:=HRel.out w4 w6 hb4 hm6 hg6;clear hm6 hg6 hP hb4 u0 u1 v1;go_wp2_with fail;go_roundw
        case rel=>exact⟨k+1,hlt,by simp,hR1,hR2⟩
        case measure=>simp[intOf];exact jbj hlt
       exact AllReady.nil
      exact AllReady.nil
     exact AllReady.nil
    exact AllReady.nil
   refine AllReady.cons rfl (fun K hK=>?_) ?_
   ·go_simp
    refine hK _ _ ?_;clear hK K;refine wpAny_ready (rs:=[0,4,6]) (by kernel_rfl) (by simp) ?_;refine AllReady.cons rfl (fun K hK=>?_) ?_
    ·go_simp
     refine hK _ _ ?_;clear hK K;refine wpAny_ready (rs:=[4,6]) (by kernel_rfl) (by simp) ?_;refine AllReady.cons rfl (fun K hK=>?_) ?_
     ·go_simp
      refine HBK.out.mono ?_;rintro e w4 ⟨rfl,hb4⟩;have hP:=HP.out w4 hb4;obtain⟨u0,u1,v1⟩:=HC.out w4 hb4;refine hK _ _ ?_;clear hK K;refine wpAny_ready (rs:=[6]) (by kernel_rfl) (by simp) ?_;refine AllReady.cons rfl (fun K hK=>?_) ?_
      ·go_simp
       refine hK _ _ ?_;clear hK K;refine wpAny_ready (rs:=[7]) (by kernel_rfl) (by simp) ?_;refine AllReady.cons rfl (fun K hK=>?_) ?_
       ·go_simp
        refine hP.mono ?_;rintro e w6 ⟨rfl,hm6,hg6⟩;refine hK _ _ ?_;clear hK K;refine wpAny_done (by kernel_rfl) ?_ _;obtain⟨hR1,hR2⟩:=HRel.out w4 w6 hb4 hm6 hg6;clear hm6 hg6 hP hb4 u0 u1 v1;go_wp2_with fail;go_roundw
        case rel=>exact⟨k+1,hlt,by simp,hR1,hR2⟩
        case measure=>simp[intOf];exact jbj hlt
       exact AllReady.nil
      exact AllReady.nil
     refine AllReady.cons rfl (fun K hK=>?_) ?_
     ·go_simp
      refine hK _ _ ?_;clear hK K;refine wpAny_ready (rs:=[4]) (by kernel_rfl) (by simp) ?_;refine AllReady.cons rfl (fun K hK=>?_) ?_
      ·go_simp
       refine HBK.out.mono ?_;rintro e w4 ⟨rfl,hb4⟩;have hP:=HP.out w4 hb4;obtain⟨u0,u1,v1⟩:=HC.out w4 hb4;refine hK _ _ ?_;clear hK K;refine wpAny_ready (rs:=[7]) (by kernel_rfl) (by simp) ?_;refine AllReady.cons rfl (fun K hK=>?_) ?_
       ·go_simp
        refine hP.mono ?_;rintro e w6 ⟨rfl,hm6,hg6⟩;refine hK _ _ ?_;clear hK K;refine wpAny_done (by kernel_rfl) ?_ _;obtain⟨hR1,hR2⟩:=HRel.out w4 w6 hb4 hm6 hg6;clear hm6 hg6 hP hb4 u0 u1 v1;go_wp2_with fail;go_roundw
        case rel=>exact⟨k+1,hlt,by simp,hR1,hR2⟩
        case measure=>simp[intOf];exact jbj hlt
       exact AllReady.nil
      exact AllReady.nil
     exact AllReady.nil
    refine AllReady.cons rfl (fun K hK=>?_) ?_
    ·go_simp
     refine HBK.out.mono ?_;rintro e w4 ⟨rfl,hb4⟩;have hP:=HP.out w4 hb4;obtain⟨u0,u1,v1⟩:=HC.out w4 hb4;refine hK _ _ ?_;clear hK K;refine wpAny_ready (rs:=[0,6]) (by kernel_rfl) (by simp) ?_;refine AllReady.cons rfl (fun K hK=>?_) ?_
     ·go_simp
      refine hK _ _ ?_;clear hK K;refine wpAny_ready (rs:=[6]) (by kernel_rfl) (by simp) ?_;refine AllReady.cons rfl (fun K hK=>?_) ?_
      ·go_simp
       refine hK _ _ ?_;clear hK K;refine wpAny_ready (rs:=[7]) (by kernel_rfl) (by simp) ?_;refine AllReady.cons rfl (fun K hK=>?_) ?_
       ·go_simp
        refine hP.mono ?_;rintro e w6 ⟨rfl,hm6,hg6⟩;refine hK _ _ ?_;clear hK K;refine wpAny_done (by kernel_rfl) ?_ _;obtain⟨hR1,hR2⟩:=HRel.out w4 w6 hb4 hm6 hg6;clear hm6 hg6 hP hb4 u0 u1 v1;go_wp2_with fail;go_roundw
        case rel=>exact⟨k+1,hlt,by simp,hR1,hR2⟩
        case measure=>simp[intOf];exact jbj hlt
       exact AllReady.nil
      exact AllReady.nil
     refine AllReady.cons rfl (fun K hK=>?_) ?_
     ·go_simp
      refine hK _ _ ?_;clear hK K;refine wpAny_ready (rs:=[0]) (by kernel_rfl) (by simp) ?_;refine AllReady.cons rfl (fun K hK=>?_) ?_
      ·go_simp
       refine hK _ _ ?_;clear hK K;refine wpAny_ready (rs:=[7]) (by kernel_rfl) (by simp) ?_;refine AllReady.cons rfl (fun K hK=>?_) ?_
       ·go_simp
        refine hP.mono ?_;rintro e w6 ⟨rfl,hm6,hg6⟩;refine hK _ _ ?_;clear hK K;refine wpAny_done (by kernel_rfl) ?_ _;obtain⟨hR1,hR2⟩:=HRel.out w4 w6 hb4 hm6 hg6;clear hm6 hg6 hP hb4 u0 u1 v1;go_wp2_with fail;go_roundw
        case rel=>exact⟨k+1,hlt,by simp,hR1,hR2⟩
        case measure=>simp[intOf];exact jbj hlt
       exact AllReady.nil
      exact AllReady.nil
     exact AllReady.nil
    refine AllReady.cons rfl (fun K hK=>?_) ?_
    ·go_simp
     refine hK _ _ ?_;clear hK K;refine wpAny_ready (rs:=[0,4]) (by kernel_rfl) (by simp) ?_;refine AllReady.cons rfl (fun K hK=>?_) ?_
     ·go_simp
      refine hK _ _ ?_;clear hK K;refine wpAny_ready (rs:=[4]) (by kernel_rfl) (by simp) ?_;refine AllReady.cons rfl (fun K hK=>?_) ?_
      ·go_simp
       refine HBK.out.mono ?_;rintro e w4 ⟨rfl,hb4⟩;have hP:=HP.out w4 hb4;obtain⟨u0,u1,v1⟩:=HC.out w4 hb4;refine hK _ _ ?_;clear hK K;refine wpAny_ready (rs:=[7]) (by kernel_rfl) (by simp) ?_;refine AllReady.cons rfl (fun K hK=>?_) ?_
       ·go_simp
        refine hP.mono ?_;rintro e w6 ⟨rfl,hm6,hg6⟩;refine hK _ _ ?_;clear hK K;refine wpAny_done (by kernel_rfl) ?_ _;obtain⟨hR1,hR2⟩:=HRel.out w4 w6 hb4 hm6 hg6;clear hm6 hg6 hP hb4 u0 u1 v1;go_wp2_with fail;go_roundw
        case rel=>exact⟨k+1,hlt,by simp,hR1,hR2⟩
        case measure=>simp[intOf];exact jbj hlt
       exact AllReady.nil
      exact AllReady.nil
     refine AllReady.cons rfl (fun K hK=>?_) ?_
     ·go_simp
      refine HBK.out.mono ?_;rintro e w4 ⟨rfl,hb4⟩;have hP:=HP.out w4 hb4;obtain⟨u0,u1,v1⟩:=HC.out w4 hb4;refine hK _ _ ?_;clear hK K;refine wpAny_ready (rs:=[0]) (by kernel_rfl) (by simp) ?_;refine AllReady.cons rfl (fun K hK=>?_) ?_
      ·go_simp
       refine hK _ _ ?_;clear hK K;refine wpAny_ready (rs:=[7]) (by kernel_rfl) (by simp) ?_;refine AllReady.cons rfl (fun K hK=>?_) ?_
       ·go_simp
        refine hP.mono ?_;rintro e w6 ⟨rfl,hm6,hg6⟩;refine hK _ _ ?_;clear hK K;refine wpAny_done (by kernel_rfl) ?_ _;obtain⟨hR1,hR2⟩:=HRel.out w4 w6 hb4 hm6 hg6;clear hm6 hg6 hP hb4 u0 u1 v1;go_wp2_with fail;go_roundw
        case rel=>exact⟨k+1,hlt,by simp,hR1,hR2⟩
        case measure=>simp[intOf];exact jbj hlt
       exact AllReady.nil
      exact AllReady.nil
     exact AllReady.nil
    exact AllReady.nil
   refine AllReady.cons rfl (fun K hK=>?_) ?_
   ·go_simp
    refine hK _ _ ?_;clear hK K;refine wpAny_ready (rs:=[0,2]) (by kernel_rfl) (by simp) ?_;refine AllReady.cons rfl (fun K hK=>?_) ?_
    ·go_simp
     refine hK _ _ ?_;clear hK K;refine wpAny_ready (rs:=[2]) (by kernel_rfl) (by simp) ?_;refine AllReady.cons rfl (fun K hK=>?_) ?_
     ·go_simp
      refine hK _ _ ?_;clear hK K;refine wpAny_ready (rs:=[4]) (by kernel_rfl) (by simp) ?_;refine AllReady.cons rfl (fun K hK=>?_) ?_
      ·go_simp
       refine HBK.out.mono ?_;rintro e w4 ⟨rfl,hb4⟩;have hP:=HP.out w4 hb4;obtain⟨u0,u1,v1⟩:=HC.out w4 hb4;refine hK _ _ ?_;clear hK K;refine wpAny_ready (rs:=[7]) (by kernel_rfl) (by simp) ?_;refine AllReady.cons rfl (fun K hK=>?_) ?_
       ·go_simp
        refine hP.mono ?_;rintro e w6 ⟨rfl,hm6,hg6⟩;refine hK _ _ ?_;clear hK K;refine wpAny_done (by kernel_rfl) ?_ _;obtain⟨hR1,hR2⟩:=HRel.out w4 w6 hb4 hm6 hg6;clear hm6 hg6 hP hb4 u0 u1 v1;go_wp2_with fail;go_roundw
        case rel=>exact⟨k+1,hlt,by simp,hR1,hR2⟩
        case measure=>simp[intOf];exact jbj hlt
       exact AllReady.nil
      exact AllReady.nil
     exact AllReady.nil
    refine AllReady.cons rfl (fun K hK=>?_) ?_
    ·go_simp
     refine hK _ _ ?_;clear hK K;refine wpAny_ready (rs:=[0,4]) (by kernel_rfl) (by simp) ?_;refine AllReady.cons rfl (fun K hK=>?_) ?_
     ·go_simp
      refine hK _ _ ?_;clear hK K;refine wpAny_ready (rs:=[4]) (by kernel_rfl) (by simp) ?_;refine AllReady.cons rfl (fun K hK=>?_) ?_
      ·go_simp
       refine HBK.out.mono ?_;rintro e w4 ⟨rfl,hb4⟩;have hP:=HP.out w4 hb4;obtain⟨u0,u1,v1⟩:=HC.out w4 hb4;refine hK _ _ ?_;clear hK K;refine wpAny_ready (rs:=[7]) (by kernel_rfl) (by simp) ?_;refine AllReady.cons rfl (fun K hK=>?_) ?_
       ·go_simp
        refine hP.mono ?_;rintro e w6 ⟨rfl,hm6,hg6⟩;refine hK _ _ ?_;clear hK K;refine wpAny_done (by kernel_rfl) ?_ _;obtain⟨hR1,hR2⟩:=HRel.out w4 w6 hb4 hm6 hg6;clear hm6 hg6 hP hb4 u0 u1 v1;go_wp2_with fail;go_roundw
        case rel=>exact⟨k+1,hlt,by simp,hR1,hR2⟩
        case measure=>simp[intOf];exact jbj hlt
       exact AllReady.nil
      exact AllReady.nil
     refine AllReady.cons rfl (fun K hK=>?_) ?_
     ·go_simp
      refine HBK.out.mono ?_;rintro e w4 ⟨rfl,hb4⟩;have hP:=HP.out w4 hb4;obtain⟨u0,u1,v1⟩:=HC.out w4 hb4;refine hK _ _ ?_;clear hK K;refine wpAny_ready (rs:=[0]) (by kernel_rfl) (by simp) ?_;refine AllReady.cons rfl (fun K hK=>?_) ?_
      ·go_simp
       refine hK _ _ ?_;clear hK K;refine wpAny_ready (rs:=[7]) (by kernel_rfl) (by simp) ?_;refine AllReady.cons rfl (fun K hK=>?_) ?_
       ·go_simp
        refine hP.mono ?_;rintro e w6 ⟨rfl,hm6,hg6⟩;refine hK _ _ ?_;clear hK K;refine wpAny_done (by kernel_rfl) ?_ _;obtain⟨hR1,hR2⟩:=HRel.out w4 w6 hb4 hm6 hg6;clear hm6 hg6 hP hb4 u0 u1 v1;go_wp2_with fail;go_roundw
        case rel=>exact⟨k+1,hlt,by simp,hR1,hR2⟩
        case measure=>simp[intOf];exact jbj hlt
       exact AllReady.nil
      exact AllReady.nil
     exact AllReady.nil
    exact AllReady.nil
   exact AllReady.nil
   -- END
  ·obtain rfl:k=len:=by omega
   have hMl:MapIs wr b k (jbn [] (l.map fun b=>(jaQ b.1,b.2))):=by have:=hM;rwa [List.take_of_length_le (by rw[<- HLL.out];exact Nat.le_refl _)] at this
   have hup:=jlg l k;rw[List.take_of_length_le (by rw[<- HLL.out];exact Nat.le_refl _)] at hup;obtain⟨hb1',hb2'⟩:=jpf l f hf hbd hbu;have HDn:=Lib.hid (jlG b k ((f:Int)-1) _ wr hMl hup hb1' hb2' (by have:=je7 (l.map fun b=>(jaQ b.1,b.2)) [];simp at this;have:=HLL.out;omega) (by omega));rw[show jbV (jbn [] (l.map fun b=>(jaQ b.1,b.2)))=jeN l from rfl] at HDn;have HE:=Lib.hid (fun w7 a' len' cap'=>jph (w:=w) (w6:=wr) (w7:=w7) (b:=b) (a:=a') (len:=len') (cap:=cap') (f:=(f:Int)-1) (l:=jeN l) (by omega) hXr hBw);obtain⟨u0,u1⟩:=cl2 hXx;clear hXw hXr hXx hM hMl hG hBw hup hb1' hb2';go_wp2_with fail;refine HDn.out.mono ?_;rintro e w7 ⟨a',len',cap',rfl,hS7,ha7,hg7⟩;obtain⟨hR7,hY7⟩:=HE.out w7 a' len' cap' hS7 ha7 hg7;obtain⟨m0,m1⟩:=cl2 hR7;obtain⟨n0,n1⟩:=cz2 hR7;have HY7:=Lib.hid hY7;clear hR7 hY7 hS7 ha7 hg7;go_wp2_with fail;obtain⟨hX8,hS8,hB8⟩:=HY7.out;generalize (w7.setCell ⟨w.heap.size+1,0,none⟩ (.int .i64 ((f:Int)-1))).setCell ⟨w.heap.size+1,1,none⟩ (.slice a' len' cap')=V at hX8 hS8 hB8 ⊢;obtain⟨q0,q1⟩:=cl2 hX8;exact bodyPost_ret (v:=.tuple #[.agg #[.int .i64 ((f:Int)-1),.slice a' len' cap'],.int .i64 0]) (by simp[results,Tryz.f306,go_sem,q0,q1]) rfl ⟨a',len',cap',rfl,hS8,hB8⟩
end Go.Proofs.YtieknocphiceoaaGreatDoor
namespace Go.Proofs.YtieknocphiceoaaGreatDoor
open Go Go.RowKit Go.Shelf
theorem jrG (w:World):(Instr.typeAssert .nilIface 124 226 true).run Tryz.prog w=.ok (.tuple #[.agg #[.string ⟨#[]⟩],.bool false]) w:=by kernel_rfl
theorem jhj (w:World):Calls Tryz.prog 126 #[.nilIface] w fun e w'=>e=.returned (.int .i64 0)/\Below w.heap.size w w':=by
 have h:=jrG w;go_enter Tryz.func126,Tryz.ntmps126;go_wp2;go_ret;exact⟨rfl,(Below.refl _ w).alloc (Nat.le_refl _) _⟩
theorem jkV (l:List Int):l.flatMap jbH=l.map (Value.int .u64):=by
 induction l with
 | nil=>rfl
 | cons x l ih=>rw[List.flatMap_cons,ih];rfl
theorem jnt (w:World) (len:Nat) (h:len<=1000):∃ w1,(Instr.makeSlice 39 (.int .i64 (len:Int)) (.int .i64 (len:Int))).run Tryz.prog w=.ok (.slice (some ⟨w.heap.size,0,none⟩) len len) w1/\NumsAt w1 w.heap.size (List.replicate len 0)/\Below w.heap.size w w1/\w1.heap.size=w.heap.size+1:=by
 obtain⟨i,hi,hz,hsize,hby⟩:=info_parts jh9;have hr:=run_makeSlice (P:=Tryz.prog) (w:=w) 39 55 i _ jiA hi hz .i64 .i64 (len:Int) (len:Int) (by omega) (Int.le_refl _) (by rw[hsize];omega) (by rw[hby];omega) (by omega);rw[Int.toNat_natCast] at hr;refine⟨_,hr,?_,(Below.refl _ w).alloc (Nat.le_refl _) _,by simp⟩
 have e:madeCells (Value.int .u64 0).cells (len*i.size)=((List.replicate len (0:Int)).map (Value.int .u64)).toArray:=by
  rw[hsize,Nat.mul_one];apply Array.ext
  ·rw[size_madeCells];simp
  ·intro j h1 h2
   simp[madeCells,Value.cells,Nat.mod_one]
 rw[e];exact World.alloc_heap_new _ _
set_option maxRecDepth 100000 in
set_option maxHeartbeats 1000000 in
theorem jhi (c:Nat) (w:World) (hs:jbr 2 c=true) (h2:c<=32) :
  Calls Tryz.prog 125 #[.int .i64 2,.int .i64 c] w fun e w'=>∃ g,e=.returned (.tuple #[.agg #[.int .i64 2,.int .i64 c,.slice (some ⟨g,0,none⟩) (2*c) (2*c)],.nilIface])/\NumsAt w' g (List.replicate (2*c) 0)/\w.heap.size<=g/\Below w.heap.size w w':=by
 have hib:=fun w=>jgd 2 c w
 rw[hs] at hib;obtain⟨W0,hW0,hX0,hB0,hs0⟩:=jah w #[.int .i64 0,.int .i64 0,.slice none 0 0] 161;obtain⟨W1,hmk,hr1,hB1,hs1⟩:=jnt W0 (2*c) (by omega);have hX1:=(hB1.block _ (by omega)).trans hX0;rw[hs0] at hmk hr1;rw[show (((2*c:Nat)):Int)=2*(c:Int) by omega] at hmk;obtain⟨d0,d1,d2⟩:=cl3 hX1;obtain⟨f0,f1,f2⟩:=cz3 hX1;have HR:=Lib.hid hr1;have hB:=hB0.trans (hB1.mono hB0.size);have HX:=Lib.hid hX1;clear hX0 hX1 hr1 hB0 hB1 hs1 hs;obtain⟨W4,hW4⟩:∃ W4,((W1.setCell ⟨w.heap.size,0,none⟩ (.int .i64 2)).setCell ⟨w.heap.size,1,none⟩ (.int .i64 c)).setCell ⟨w.heap.size,2,none⟩ (.slice (some ⟨w.heap.size+1,0,none⟩) (2*c) (2*c))=W4:=⟨_,rfl⟩;have hX4:W4.heap[w.heap.size]? = some (.cells #[.int .i64 2,.int .i64 c,.slice (some ⟨w.heap.size+1,0,none⟩) (2*c) (2*c)] 161 (0,0)):=by rw[<- hW4];exact hSk (hSk (hSk HX.out _) _) _
 have hB4:Below w.heap.size w W4:=by rw[<- hW4];exact ((hB.setCell (p:=⟨w.heap.size,0,none⟩) (Nat.le_refl _) _).setCell (p:=⟨w.heap.size,1,none⟩) (Nat.le_refl _) _).setCell (p:=⟨w.heap.size,2,none⟩) (Nat.le_refl _) _
 have hr4:NumsAt W4 (w.heap.size+1) (List.replicate (2*c) 0):=by
  rw[<- hW4];exact ((HR.out.block (jam (p:=⟨w.heap.size,0,none⟩) (by show w.heap.size≠_;omega) _)).block (jam (p:=⟨w.heap.size,1,none⟩) (by show w.heap.size≠_;omega) _)).block (jam (p:=⟨w.heap.size,2,none⟩) (by show w.heap.size≠_;omega) _)
 go_enter Tryz.func125,Tryz.ntmps125;go_wp2_with (first | (go_at_call 167;refine (hib _).mono ?_;rintro e w' ⟨rfl,rfl⟩) | fail);obtain⟨k0,k1,k2⟩:=cl3 hX4;exact bodyPost_ret (v:=.tuple #[.agg #[.int .i64 2,.int .i64 c,.slice (some ⟨w.heap.size+1,0,none⟩) (2*c) (2*c)],.nilIface]) (by simp[results,Tryz.f125,go_sem,k0,k1,k2]) rfl ⟨_,rfl,hr4,Nat.le_succ _,hB4⟩
set_option maxRecDepth 100000 in
set_option maxHeartbeats 1000000 in
theorem joX (w:World) :
  Calls Tryz.prog 75 #[.int .i64 2,.int .i64 32] w fun e w'=>∃ g,e=.returned (.tuple #[.agg #[.int .i64 2,.int .i64 32,.slice (some ⟨g,0,none⟩) 64 64],.int .i64 0])/\NumsAt w' g (List.replicate 64 0)/\w.heap.size<=g/\Below w.heap.size w w':=by
 have hB:=fun w=>jhi 32 w (by decide) (by omega)
 obtain⟨W0,hW0,hX0,hB0,hs0⟩:=jah w #[.int .i64 0,.int .i64 0,.slice none 0 0] 45;have HX0:=Lib.hid hX0;clear hX0;go_enter Tryz.func75,Tryz.ntmps75;go_wp2_with fail;refine (hB _).mono ?_;rintro e w1 ⟨g,rfl,hr1,hg1,hb1⟩;obtain⟨W2,hW2,hX2,hB2,hs2⟩:=jah w1 #[.int .i64 2,.int .i64 32,.slice (some ⟨g,0,none⟩) 64 64] 161;have hgl:=hr1.lt;have hB12:Below w.heap.size w W2.drew:=((hB0.trans (hb1.mono hB0.size)).trans (hB2.mono (by have:=hb1.size;omega))).drew;have hXR:W2.drew.heap[w.heap.size]? = some (.cells #[.int .i64 0,.int .i64 0,.slice none 0 0] 45 (0,0)):=jak (hb1.trans (hB2.drew.mono hb1.size)) (Nat.le_refl _) HX0.out;have hXB:W2.drew.heap[w1.heap.size]? = some (.cells #[.int .i64 2,.int .i64 32,.slice (some ⟨g,0,none⟩) 64 64] 161 (0,0)):=hX2;have HXB:=Lib.hid hXB;have HXR:=Lib.hid hXR;obtain⟨c0,c1,c2⟩:=cl3 hXB;obtain⟨o0,o1,o2⟩:=cl3 hXR;have hr2:NumsAt W2.drew g (List.replicate 64 0):=(hr1.block (hB2.block _ hgl)).block rfl;have hgw:w.heap.size≠g:=by omega
 have fin:∀ w5,Below W2.drew.heap.size W2.drew w5->∃ g',Ending.returned (.tuple #[.agg #[.int .i64 2,.int .i64 32,.slice (some ⟨g,0,none⟩) 64 64],.int .i64 0])=.returned (.tuple #[.agg #[.int .i64 2,.int .i64 32,.slice (some ⟨g',0,none⟩) 64 64],.int .i64 0])/\NumsAt (((w5.setCell ⟨w.heap.size,0,none⟩ (.int .i64 2)).setCell ⟨w.heap.size,1,none⟩ (.int .i64 32)).setCell ⟨w.heap.size,2,none⟩ (.slice (some ⟨g,0,none⟩) 64 64)) g' (List.replicate 64 0)/\w.heap.size<=g'/\Below w.heap.size w (((w5.setCell ⟨w.heap.size,0,none⟩ (.int .i64 2)).setCell ⟨w.heap.size,1,none⟩ (.int .i64 32)).setCell ⟨w.heap.size,2,none⟩ (.slice (some ⟨g,0,none⟩) 64 64)):=fun w5 hb5 =>
  ⟨g,rfl,(((hr2.block (hb5.block _ hr2.lt)).block (jam (p:=⟨w.heap.size,0,none⟩) hgw _)).block (jam (p:=⟨w.heap.size,1,none⟩) hgw _)).block (jam (p:=⟨w.heap.size,2,none⟩) hgw _),by omega,
   (((hB12.trans (hb5.mono hB12.size)).setCell (p:=⟨w.heap.size,0,none⟩) (Nat.le_refl _) _).setCell (p:=⟨w.heap.size,1,none⟩) (Nat.le_refl _) _).setCell (p:=⟨w.heap.size,2,none⟩) (Nat.le_refl _) _⟩
 clear hX2 hB2 hr1 hXB hXR hr2 hb1 hB12;go_wp2_with fail;refine wp_region_any (by kernel_rfl) ?_;change wpAny _ _ _ _ _ _ _ (World.drew _);refine tk 0 (v:=?_) rfl ?_ ?_;rotate_left
 ·intro w;go_simp;with_reducible rfl
 refine tk 2 (v:=?_) rfl ?_ ?_;rotate_left
 ·intro w;go_simp;with_reducible rfl
 refine wpAny_ready (rs:=[1,3]) (by kernel_rfl) (by simp) ?_;refine AllReady.cons rfl (fun K hK=>?_) ?_
 ·go_simp
  refine hK _ _ ?_;clear hK K;refine wpAny_ready (rs:=[3]) (by kernel_rfl) (by simp) ?_;refine AllReady.cons rfl (fun K hK=>?_) ?_
  ·go_simp
   refine (jhj _).mono ?_;rintro e w5 ⟨rfl,hb5⟩;have hX5:=jak hb5 (Nat.le_refl _) HXB.out;have hX05:=jak hb5 (Nat.le_refl _) HXR.out;obtain⟨u0,u1,u2⟩:=cl3 hX5;obtain⟨v0,v1,v2⟩:=cl3 hX05;obtain⟨f0,f1,f2⟩:=cz3 hX05;refine hK _ _ ?_;clear hK K hX5;refine wpAny_ready (rs:=[4]) (by kernel_rfl) (by simp) ?_;refine AllReady.cons rfl (fun K hK=>?_) ?_
   ·go_simp
    refine hK _ _ ?_;clear hK K;refine tk 5 (v:=?_) rfl ?_ ?_;rotate_left
    ·intro w;go_simp;with_reducible rfl
    refine wpAny_done (by kernel_rfl) ?_ _;go_wp2_with fail;refine bodyPost_ret (v:=.tuple #[.agg #[.int .i64 2,.int .i64 32,.slice (some ⟨g,0,none⟩) 64 64],.int .i64 0]) ?_ rfl (fin w5 hb5);have hX6:=jcH (u:=.int .i64 2) (v:=.int .i64 32) (q:=.slice (some ⟨g,0,none⟩) 64 64) hX05;have k0:=cCc hX6 0;have k1:=cCc hX6 1;have k2:=cCc hX6 2;simp at k0 k1 k2;simp[results,Tryz.f75,go_sem,k0,k1,k2]
   exact AllReady.nil
  exact AllReady.nil
 refine AllReady.cons rfl (fun K hK=>?_) ?_
 ·go_simp
  refine (jhj _).mono ?_;rintro e w5 ⟨rfl,hb5⟩;have hX5:=jak hb5 (Nat.le_refl _) HXB.out;have hX05:=jak hb5 (Nat.le_refl _) HXR.out;obtain⟨u0,u1,u2⟩:=cl3 hX5;obtain⟨v0,v1,v2⟩:=cl3 hX05;obtain⟨f0,f1,f2⟩:=cz3 hX05;refine hK _ _ ?_;clear hK K hX5;refine wpAny_ready (rs:=[1]) (by kernel_rfl) (by simp) ?_;refine AllReady.cons rfl (fun K hK=>?_) ?_
  ·go_simp
   refine hK _ _ ?_;clear hK K;refine wpAny_ready (rs:=[4]) (by kernel_rfl) (by simp) ?_;refine AllReady.cons rfl (fun K hK=>?_) ?_
   ·go_simp
    refine hK _ _ ?_;clear hK K;refine tk 5 (v:=?_) rfl ?_ ?_;rotate_left
    ·intro w;go_simp;with_reducible rfl
    refine wpAny_done (by kernel_rfl) ?_ _;go_wp2_with fail;refine bodyPost_ret (v:=.tuple #[.agg #[.int .i64 2,.int .i64 32,.slice (some ⟨g,0,none⟩) 64 64],.int .i64 0]) ?_ rfl (fin w5 hb5);have hX6:=jcH (u:=.int .i64 2) (v:=.int .i64 32) (q:=.slice (some ⟨g,0,none⟩) 64 64) hX05;have k0:=cCc hX6 0;have k1:=cCc hX6 1;have k2:=cCc hX6 2;simp at k0 k1 k2;simp[results,Tryz.f75,go_sem,k0,k1,k2]
   exact AllReady.nil
  exact AllReady.nil
 exact AllReady.nil
set_option maxRecDepth 100000 in
set_option maxHeartbeats 1000000 in
theorem jlt (c:Nat) (l:List Int) (a:Option Addr) (len cap:Nat) (w:World) (hs:jbr 2 c=true) (hs2:jbr 2 ((c / 2:Nat):Int)=true) (hc:c=8\/c=16\/c=32) (hL:SlE jbH 1 w.heap.size w a len l) (hl:l.length=2*c) (hlu:jdK l) :
  Calls Tryz.prog 292 #[.agg #[.int .i64 2,.int .i64 c,.slice a len cap]] w fun e w'=>∃ g,e=.returned (.tuple #[.agg #[.int .i64 2,.int .i64 ((c / 2:Nat):Int),.slice (some ⟨g,0,none⟩) (2*(c / 2)) (2*(c / 2))],.int .i64 0])/\NumsAt w' g (jdf c l)/\w.heap.size<=g/\Below w.heap.size w w':=by
 have hR:Hid (∀ w1,Calls Tryz.prog 201 #[.agg #[.int .i64 2,.int .i64 c,.slice a len cap]] w1 fun e w'=>e=.returned (.bool true)/\Below w1.heap.size w1 w'):=fun w1=>(jeG 2 c l a len cap w1 hL.1).mono fun e w' h=>⟨by rw[h.1];simp[jaN,hs,hl],h.2⟩
 obtain⟨d,hd⟩:∃ d,c / 2=d:=⟨_,rfl⟩;have hB:Hid (∀ w,Calls Tryz.prog 125 #[.int .i64 2,.int .i64 d] w fun e w'=>∃ g,e=.returned (.tuple #[.agg #[.int .i64 2,.int .i64 d,.slice (some ⟨g,0,none⟩) (2*d) (2*d)],.nilIface])/\NumsAt w' g (List.replicate (2*d) 0)/\w.heap.size<=g/\Below w.heap.size w w'):=fun w=>by rw[<- hd];exact jhi (c / 2) w hs2 (by omega)
 have HF:Hid (∀ (fb xb p:Nat) (old:Int) (v:Value) (w1:World),p<2*d->SlE jbH 1 w1.heap.size w1 a len l->w1.heap[fb]? = some (.cells #[.int .i64 2,.int .i64 d,v] 161 (0,0))->w1.heap[xb]? = some (.cells #[.int .i64 2,.int .i64 c,.slice a len cap] 45 (0,0)) ->
   Calls Tryz.prog 296 #[.int .i64 p,.int .u64 old,.pointer (some ⟨fb,0,none⟩),.pointer (some ⟨xb,0,none⟩)] w1 fun e w'=>e=.returned (.int .u64 (jqa c l p old))/\Below w1.heap.size w1 w'):=fun fb xb p old v w1 hp hL1 hf hx=>by rw[<- hd] at hp hf;exact jpw c fb xb p old l a len cap v w1 hc hp hl hlu hL1 hf hx
 have HE:Hid (jcK (fun x:Fin (2*d)=>x.1) (jqa c l) (List.replicate (2*d) 0) (List.finRange (2*d))=jdf c l):=by rw[Hid,<- hd];exact jlu c l
 have HU:Hid (∀ p x,U64 (jqa c l p x)):=fun p x=>jfU _ _ (jc1 l hlu _) (jc1 l hlu _)
 have hd16:d<=16:=by omega
 have hcd:((c:Int).tdiv 2)=(d:Int):=by rw[Int.tdiv_eq_ediv_of_nonneg (by omega)];omega
 have hcd2:((c:Int) / 2)=(d:Int):=by omega
 have hcw:wrap64 (d:Int)=d:=jbl d (by omega);rw[hd];have HL:=Lib.hid hL;obtain⟨W0,hW0,hXp,hXr,hB0,hs0⟩:=jaS w #[.int .i64 2,.int .i64 c,.slice a len cap] 45 #[.int .i64 0,.int .i64 0,.slice none 0 0] 45;have HXP:=Lib.hid hXp;have HXR:=Lib.hid hXr;obtain⟨x0,x1,x2⟩:=cl3 hXp;clear hXp hXr hL hl hlu hs hs2 hd hc;go_enter Tryz.func292,Tryz.ntmps292;go_wp2_with fail;refine (hR.out _).mono ?_;rintro e w1 ⟨rfl,hb1⟩;have hXp1:=jak hb1 (Nat.le_refl _) HXP.out;obtain⟨y0,y1,y2⟩:=cl3 hXp1;go_wp2_with fail;refine (hB.out _).mono ?_;rintro e w2 ⟨g,rfl,hr2,hg2,hb2⟩;obtain⟨W2,hW2,hX2,hB2,hs2⟩:=jah w2 #[.int .i64 2,.int .i64 d,.slice (some ⟨g,0,none⟩) (2*d) (2*d)] 161;obtain⟨W5,hW5,hY5,hB5,hs5⟩:=jah W2.drew #[.int .i64 2,.int .i64 d,.slice (some ⟨g,0,none⟩) (2*d) (2*d)] 161;have hzd:W2.drew.heap.size=w2.heap.size+1:=hs2;rw[hzd] at hY5 hB5 hs5;have hgl:=hr2.lt;have hb1s:=hb1.size;have hb2s:=hb2.size;have hB25:Below w2.heap.size w2 W5:=hB2.drew.trans (hB5.mono (by omega));have hr5:NumsAt W5 g (List.replicate (2*d) 0):=hr2.block (hB25.block _ hgl);have hX5:W5.heap[w2.heap.size]? = some (.cells #[.int .i64 2,.int .i64 d,.slice (some ⟨g,0,none⟩) (2*d) (2*d)] 161 (0,0)):=(hB5.block _ (by omega)).trans (show W2.drew.heap[w2.heap.size]? = _ from hX2);have hP5:W5.heap[w.heap.size]? = some (.cells #[.int .i64 2,.int .i64 c,.slice a len cap] 45 (0,0)):=jak ((hb1.trans (hb2.mono hb1s)).trans (hB25.mono (by omega))) (Nat.le_refl _) HXP.out
 have hR5:W5.heap[w.heap.size+1]? = some (.cells #[.int .i64 0,.int .i64 0,.slice none 0 0] 45 (0,0)):=jak ((hb1.trans (hb2.mono hb1s)).trans (hB25.mono (by omega))) (Nat.le_refl _) HXR.out;have hB05:Below w.heap.size w W5:=(hB0.trans (hb1.mono (by omega))).trans ((hb2.mono (by omega)).trans (hB25.mono (by omega)))
 have hCH:=jlv (jqa c l) (w2.heap.size+1) w2.heap.size w.heap.size g (2*d) (2*d) (2*d) (2*d) 2 d 2 d (some ⟨g,0,none⟩) (List.replicate (2*d) 0) W5 (by omega) hY5 hr5 (by simp) (fun x hx=>by rw[List.eq_of_mem_replicate hx];exact jnZ) (by intro k hk;simp at hk;omega)
  (fun W p x hG hx=>by
   have hBW:Below w.heap.size W5 W:=(Below.refl _ W5).grown hG hB05.size (fun k e=>by cases e;omega);have hbb:=hB05.trans hBW;exact HF.out w2.heap.size w.heap.size p.1 x (.slice (some ⟨g,0,none⟩) (2*d) (2*d)) W p.2 ((HL.out.below hbb).mono hbb.size) ((hG.block _ (Array.getElem?_eq_some_iff.1 hX5).1 (fun e=>by cases e;omega)).trans hX5) ((hG.block _ (Array.getElem?_eq_some_iff.1 hP5).1 (fun e=>by cases e;omega)).trans hP5)) (fun p x _=>HU.out p x) (fun p=>p.2)
 have HW5:=Lib.hid hW5;have HX5:=Lib.hid hX5;have HR5:=Lib.hid hR5;have HB05:=Lib.hid hB05;have hXd:W2.drew.heap[w2.heap.size]? = some (.cells #[.int .i64 2,.int .i64 d,.slice (some ⟨g,0,none⟩) (2*d) (2*d)] 161 (0,0)):=hX2;obtain⟨c0,c1,c2⟩:=cl3 hXd;obtain⟨z0,z1,z2⟩:=cl3 hX5;have hgw:w.heap.size+1<g:=by omega
 clear hW5 hX2 hXd hX5 hR5 hP5 hY5 hB2 hB5 hB25 hB05 hr2 hr5 hb1 hb2
 have fin:∀ w6,NumsAt w6 g (jdf c l)->W5.grownBy w6 (some g)->∃ V,((w6.setCell ⟨w.heap.size+1,0,none⟩ (.int .i64 2)).setCell ⟨w.heap.size+1,1,none⟩ (.int .i64 d)).setCell ⟨w.heap.size+1,2,none⟩ (.slice (some ⟨g,0,none⟩) (2*d) (2*d))=V/\V.heap[w.heap.size+1]? = some (.cells #[.int .i64 2,.int .i64 d,.slice (some ⟨g,0,none⟩) (2*d) (2*d)] 45 (0,0))/\NumsAt V g (jdf c l)/\Below w.heap.size w V:=fun w6 hN6 hG6=>by
  have hR6:=(hG6.block _ (Array.getElem?_eq_some_iff.1 HR5.out).1 (fun e=>by cases e;omega)).trans HR5.out;have hne:w.heap.size+1≠g:=by omega
  refine⟨_,rfl,jcH hR6,((hN6.block (jam (p:=⟨w.heap.size+1,0,none⟩) hne _)).block (jam (p:=⟨w.heap.size+1,1,none⟩) hne _)).block (jam (p:=⟨w.heap.size+1,2,none⟩) hne _),?_⟩;exact (((HB05.out.grown hG6 HB05.out.size (fun k e=>by cases e;omega)).setCell (p:=⟨w.heap.size+1,0,none⟩) (by show _<=_+1;omega) _).setCell (p:=⟨w.heap.size+1,1,none⟩) (by show _<=_+1;omega) _).setCell (p:=⟨w.heap.size+1,2,none⟩) (by show _<=_+1;omega) _
 go_wp2_with fail;refine wp_region_any (by kernel_rfl) ?_;change wpAny _ _ _ _ _ _ _ (World.drew _);refine tk 3 (v:=?_) rfl ?_ ?_;rotate_left
 ·intro w;go_simp;with_reducible rfl
 refine wpAny_ready (rs:=[0,1]) (by kernel_rfl) (by simp) ?_;refine AllReady.cons rfl (fun K hK=>?_) ?_
 ·go_simp
  refine hK _ _ ?_;clear hK K;refine wpAny_ready (rs:=[1]) (by kernel_rfl) (by simp) ?_;refine AllReady.cons rfl (fun K hK=>?_) ?_
  ·go_simp
   refine hK _ _ ?_;clear hK K;refine wpAny_ready (rs:=[2]) (by kernel_rfl) (by simp) ?_;refine AllReady.cons rfl (fun K hK=>?_) ?_
   ·go_simp
    refine (jjQ 2 d (.slice (some ⟨g,0,none⟩) (2*d) (2*d)) _).mono ?_;rintro e w5 ⟨rfl,rfl⟩;rw[HW5.out];refine hK _ _ ?_;clear hK K;refine wpAny_ready (rs:=[4]) (by kernel_rfl) (by simp) ?_;refine AllReady.cons rfl (fun K hK=>?_) ?_
    ·go_simp
     refine hCH.mono ?_;rintro e w6 ⟨rfl,hN6,hG6⟩;rw[HE.out] at hN6;refine hK _ _ ?_;clear hK K;refine wpAny_done (by kernel_rfl) ?_ _;have hX6:=(hG6.block _ (Array.getElem?_eq_some_iff.1 HX5.out).1 (fun e=>by cases e;omega)).trans HX5.out;have hR6:w6.heap[w.heap.size+1]? = _:=(hG6.block _ (Array.getElem?_eq_some_iff.1 HR5.out).1 (fun e=>by cases e;omega)).trans HR5.out;obtain⟨z0,z1,z2⟩:=cl3 hX6;obtain⟨v0,v1,v2⟩:=cl3 hR6;obtain⟨f0,f1,f2⟩:=cz3 hR6;obtain⟨V,hV,hXV,hNV,hBV⟩:=fin w6 hN6 hG6;clear fin hX6 hR6 hN6 hG6 hCH;go_wp2_with fail;have k0:=cCc hXV 0;have k1:=cCc hXV 1;have k2:=cCc hXV 2;simp at k0 k1 k2;exact bodyPost_ret (v:=.tuple #[.agg #[.int .i64 2,.int .i64 d,.slice (some ⟨g,0,none⟩) (2*d) (2*d)],.int .i64 0]) (by simp[results,Tryz.f292,go_sem,k0,k1,k2]) rfl ⟨g,rfl,hNV,by omega,hBV⟩
    exact AllReady.nil
   exact AllReady.nil
  exact AllReady.nil
 refine AllReady.cons rfl (fun K hK=>?_) ?_
 ·go_simp
  refine hK _ _ ?_;clear hK K;refine wpAny_ready (rs:=[0,2]) (by kernel_rfl) (by simp) ?_;refine AllReady.cons rfl (fun K hK=>?_) ?_
  ·go_simp
   refine hK _ _ ?_;clear hK K;refine wpAny_ready (rs:=[2]) (by kernel_rfl) (by simp) ?_;refine AllReady.cons rfl (fun K hK=>?_) ?_
   ·go_simp
    refine (jjQ 2 d (.slice (some ⟨g,0,none⟩) (2*d) (2*d)) _).mono ?_;rintro e w5 ⟨rfl,rfl⟩;rw[HW5.out];refine hK _ _ ?_;clear hK K;refine wpAny_ready (rs:=[4]) (by kernel_rfl) (by simp) ?_;refine AllReady.cons rfl (fun K hK=>?_) ?_
    ·go_simp
     refine hCH.mono ?_;rintro e w6 ⟨rfl,hN6,hG6⟩;rw[HE.out] at hN6;refine hK _ _ ?_;clear hK K;refine wpAny_done (by kernel_rfl) ?_ _;have hX6:=(hG6.block _ (Array.getElem?_eq_some_iff.1 HX5.out).1 (fun e=>by cases e;omega)).trans HX5.out;have hR6:w6.heap[w.heap.size+1]? = _:=(hG6.block _ (Array.getElem?_eq_some_iff.1 HR5.out).1 (fun e=>by cases e;omega)).trans HR5.out;obtain⟨z0,z1,z2⟩:=cl3 hX6;obtain⟨v0,v1,v2⟩:=cl3 hR6;obtain⟨f0,f1,f2⟩:=cz3 hR6;obtain⟨V,hV,hXV,hNV,hBV⟩:=fin w6 hN6 hG6;clear fin hX6 hR6 hN6 hG6 hCH;go_wp2_with fail;have k0:=cCc hXV 0;have k1:=cCc hXV 1;have k2:=cCc hXV 2;simp at k0 k1 k2;exact bodyPost_ret (v:=.tuple #[.agg #[.int .i64 2,.int .i64 d,.slice (some ⟨g,0,none⟩) (2*d) (2*d)],.int .i64 0]) (by simp[results,Tryz.f292,go_sem,k0,k1,k2]) rfl ⟨g,rfl,hNV,by omega,hBV⟩
    exact AllReady.nil
   exact AllReady.nil
  refine AllReady.cons rfl (fun K hK=>?_) ?_
  ·go_simp
   refine (jjQ 2 d (.slice (some ⟨g,0,none⟩) (2*d) (2*d)) _).mono ?_;rintro e w5 ⟨rfl,rfl⟩;rw[HW5.out];refine hK _ _ ?_;clear hK K;refine wpAny_ready (rs:=[0]) (by kernel_rfl) (by simp) ?_;refine AllReady.cons rfl (fun K hK=>?_) ?_
   ·go_simp
    refine hK _ _ ?_;clear hK K;refine wpAny_ready (rs:=[4]) (by kernel_rfl) (by simp) ?_;refine AllReady.cons rfl (fun K hK=>?_) ?_
    ·go_simp
     refine hCH.mono ?_;rintro e w6 ⟨rfl,hN6,hG6⟩;rw[HE.out] at hN6;refine hK _ _ ?_;clear hK K;refine wpAny_done (by kernel_rfl) ?_ _;have hX6:=(hG6.block _ (Array.getElem?_eq_some_iff.1 HX5.out).1 (fun e=>by cases e;omega)).trans HX5.out;have hR6:w6.heap[w.heap.size+1]? = _:=(hG6.block _ (Array.getElem?_eq_some_iff.1 HR5.out).1 (fun e=>by cases e;omega)).trans HR5.out;obtain⟨z0,z1,z2⟩:=cl3 hX6;obtain⟨v0,v1,v2⟩:=cl3 hR6;obtain⟨f0,f1,f2⟩:=cz3 hR6;obtain⟨V,hV,hXV,hNV,hBV⟩:=fin w6 hN6 hG6;clear fin hX6 hR6 hN6 hG6 hCH;go_wp2_with fail;have k0:=cCc hXV 0;have k1:=cCc hXV 1;have k2:=cCc hXV 2;simp at k0 k1 k2;exact bodyPost_ret (v:=.tuple #[.agg #[.int .i64 2,.int .i64 d,.slice (some ⟨g,0,none⟩) (2*d) (2*d)],.int .i64 0]) (by simp[results,Tryz.f292,go_sem,k0,k1,k2]) rfl ⟨g,rfl,hNV,by omega,hBV⟩
    exact AllReady.nil
   exact AllReady.nil
  exact AllReady.nil
 exact AllReady.nil
def BdAt (W:World) (v:Value):Bd->Prop
 | .num l=>∃ a len cap,v=.iface 239 (.agg #[.slice a len cap])/\SlC jbH 1 W.heap.size W a len cap l
 | .reg b r=>v=.iface 241 (.agg #[.int .i64 b,.string (jaA r)])
 | .cnt c l=>∃ a len cap,v=.iface 242 (.agg #[.int .i64 2,.int .i64 c,.slice a len cap])/\SlC jbH 1 W.heap.size W a len cap l
 | .bkt f l=>∃ a len cap,v=.iface 244 (.agg #[.int .i64 f,.slice a len cap])/\SlC jb5 2 W.heap.size W a len cap l
theorem BdAt.go {W W':World} {v:Value} {B:Bd} (h:BdAt W v B) (hb:Below W.heap.size W W'):BdAt W' v B:=by
 cases B with
 | num l=>obtain⟨a,len,cap,h1,h2⟩:=h;exact⟨a,len,cap,h1,h2.go hb⟩
 | reg b r=>exact h
 | cnt c l=>obtain⟨a,len,cap,h1,h2⟩:=h;exact⟨a,len,cap,h1,h2.go hb⟩
 | bkt f l=>obtain⟨a,len,cap,h1,h2⟩:=h;exact⟨a,len,cap,h1,h2.go hb⟩
def jqn (W:World) (v:Value) (no:Int):Prop:=∃ b,v=.iface 174 (.pointer (some ⟨b,0,none⟩))/\W.heap[b]? = some (.cells #[.int .i64 no] 176 (0,0))
def jey (o:Option Bd) (w:World) (e:Ending) (w':World):Prop:=Below w.heap.size w w'/\match o with
 | some B=>∃ v,e=.returned (.tuple #[v,.nilIface])/\BdAt w' v B
 | none=>∃ v,e=.returned (.tuple #[.nilIface,v])/\jqn w' v 60
theorem jiy (v:Value) (w:World):Calls Tryz.prog 257 #[v,.int .i64 0] w fun e w'=>e=.returned (.tuple #[v,.nilIface])/\w'=w:=by
 go_enter Tryz.func257,Tryz.ntmps257;go_wp2;exact bodyPost_ret (v:=.tuple #[v,.nilIface]) (by simp[results,Tryz.f257,go_sem]) rfl ⟨rfl,rfl⟩
theorem jeX (c:Nat) (hc:c=4\/c=8\/c=16\/c=32):jbr 2 (c:Int)=true:=by rcases hc with rfl | rfl | rfl | rfl<;>decide +kernel
theorem jk5 {W:World} {g n:Nat} {l:List Int} (h:NumsAt W g l) (hn:l.length=n) (hm:n<=maxLen):SlC jbH 1 W.heap.size W (some ⟨g,0,none⟩) n n l:=by
 refine⟨⟨hn.symm,fun j x hx=>⟨g,0,rfl,h.lt,fun i hi=>?_⟩⟩,Nat.le_refl _,hm,(fun e=>by cases e),fun x hx _=>by cases hx;exact⟨rfl,h.lt⟩⟩;obtain rfl:i=0:=by omega
 have hj:j<l.length:=(List.getElem?_eq_some_iff.1 hx).1;rw[show (0+j*1+0)=j by omega,h.cell hj];have:l.getD j 0=x:=by rw[List.getD_eq_getElem?_getD,hx];rfl
 rw[this];rfl
-- METHODS
set_option maxRecDepth 100000 in
set_option maxHeartbeats 1000000 in
theorem jqZ (l:List Int) (a:Option Addr) (len cap:Nat) (w:World) (hS:SlC jbH 1 w.heap.size w a len cap l) (hu:jdK l) (hlen:l.length<=1000) :
  Calls Tryz.prog 254 #[.agg #[.slice a len cap]] w (jey (some (Bd.num l).low) w):=by
 obtain⟨W0,hW0,hXb,hB0,hs0⟩:=jah w #[.slice a len cap] 239;have c0:W0.cell? ⟨w.heap.size,0,none⟩=some (.slice a len cap):=cCc hXb 0;have HA:=Lib.hid (jqM 7 l a len cap W0 (by decide) (by decide) ((hS.1.below hB0).mono hB0.size) hu (by have:=hS.1.1;omega));have HB0:=Lib.hid hB0;clear hXb hB0;obtain⟨s,hst⟩:∃ s,jaA (jct 7 (jaY 7) (l.map Int.toNat))=s:=⟨_,rfl⟩;rw[hst] at HA;have HSt:=Lib.hid hst;clear hst hS hu hlen;go_enter Tryz.func254,Tryz.ntmps254;go_wp2_with fail;refine HA.out.mono ?_;rintro e w1 ⟨rfl,hb1⟩;obtain⟨W2,hW2,hX2,hB2,hs2⟩:=jah w1 #[.int .i64 7,.string s] 43;obtain⟨q0,q1⟩:=cl2 hX2;have HT:=Lib.hid (jiy (.iface 241 (.agg #[.int .i64 7,.string s])) W2);have HB2:=Lib.hid hB2;have HB1:=Lib.hid hb1;clear hX2 hB2 hb1;go_wp2_with fail;refine HT.out.mono ?_;rintro e w3 ⟨rfl,rfl⟩;go_wp2_with fail;have hB12:=HB1.out.trans (HB2.out.mono HB1.out.size);refine bodyPost_ret (v:=.tuple #[.iface 241 (.agg #[.int .i64 7,.string s]),.nilIface]) (by simp[results,Tryz.f254,go_sem]) rfl ⟨HB0.out.trans (hB12.mono HB0.out.size),?_⟩;exact⟨_,rfl,by rw[<- HSt.out];rfl⟩
set_option maxRecDepth 100000 in
set_option maxHeartbeats 1000000 in
theorem jq0 (b:Nat) (r:List Nat) (w:World) (h1:4<=b) (h2:b<=8) (hl:r.length=2^b) (hr:∀ i,r.getD i 0<=65-b) :
  Calls Tryz.prog 282 #[.agg #[.int .i64 b,.string (jaA r)]] w (jey (some (Bd.reg b r).low) w):=by
 obtain⟨W0,hW0,hXb,hB0,hs0⟩:=jah w #[.int .i64 b,.string (jaA r)] 241;obtain⟨c0,c1⟩:=cl2 hXb;have HA:=Lib.hid (jlD b r W0 h1 h2 hl hr);have HB0:=Lib.hid hB0;clear hXb hB0;obtain⟨s,hst⟩:∃ s,jaA (jeo b r)=s:=⟨_,rfl⟩;rw[hst] at HA;have HSt:=Lib.hid hst;clear hst hl hr h1 h2;go_enter Tryz.func282,Tryz.ntmps282;go_wp2_with fail;refine HA.out.mono ?_;rintro e w1 ⟨rfl,hb1⟩;obtain⟨W2,hW2,hX2,hB2,hs2⟩:=jah w1 #[.int .i64 ((b-1:Nat):Int),.string s] 43;obtain⟨q0,q1⟩:=cl2 hX2;have HT:=Lib.hid (jiy (.iface 241 (.agg #[.int .i64 ((b-1:Nat):Int),.string s])) W2);have HB2:=Lib.hid hB2;have HB1:=Lib.hid hb1;clear hX2 hB2 hb1;go_wp2_with fail;refine HT.out.mono ?_;rintro e w3 ⟨rfl,rfl⟩;go_wp2_with fail;have hB12:=HB1.out.trans (HB2.out.mono HB1.out.size);refine bodyPost_ret (v:=.tuple #[.iface 241 (.agg #[.int .i64 ((b-1:Nat):Int),.string s]),.nilIface]) (by simp[results,Tryz.f282,go_sem]) rfl ⟨HB0.out.trans (hB12.mono HB0.out.size),?_⟩;exact⟨_,rfl,by rw[<- HSt.out];rfl⟩
set_option maxRecDepth 100000 in
set_option maxHeartbeats 1000000 in
theorem jqX (c:Nat) (l:List Int) (a:Option Addr) (len cap:Nat) (w:World) (hc:c=8\/c=16\/c=32) (hS:SlC jbH 1 w.heap.size w a len cap l) (hl:l.length=c+c) (hlu:jdK l) :
  Calls Tryz.prog 290 #[.agg #[.int .i64 2,.int .i64 c,.slice a len cap]] w (jey (some (Bd.cnt c l).low) w):=by
 obtain⟨W0,hW0,hXb,hB0,hs0⟩:=jah w #[.int .i64 2,.int .i64 c,.slice a len cap] 242;obtain⟨c0,c1,c2⟩:=cl3 hXb;have HA:=Lib.hid (jlt c l a len cap W0 (jeX c (by omega)) (jeX (c / 2) (by omega)) hc ((hS.1.below hB0).mono hB0.size) (by omega) hlu);have HB0:=Lib.hid hB0;clear hXb hB0;obtain⟨d,hd⟩:∃ d,c / 2=d:=⟨_,rfl⟩;rw[hd] at HA;have HD:=Lib.hid hd;have HC:Hid (2*d<=64):=(by omega:2*d<=64);have HLen:Hid ((jdf c l).length=2*d):=by rw[Hid,jeF];omega
 clear hS hl hlu hc hd;go_enter Tryz.func290,Tryz.ntmps290;go_wp2_with fail;refine HA.out.mono ?_;rintro e w1 ⟨g,rfl,hN1,hg1,hb1⟩;have HN:=Lib.hid (jk5 hN1 HLen.out (by have:=HC.out;unfold maxLen;omega));clear hN1;obtain⟨W2,hW2,hX2,hB2,hs2⟩:=jah w1 #[.int .i64 2,.int .i64 d,.slice (some ⟨g,0,none⟩) (2*d) (2*d)] 45;obtain⟨q0,q1,q2⟩:=cl3 hX2;have HT:=Lib.hid (jiy (.iface 242 (.agg #[.int .i64 2,.int .i64 d,.slice (some ⟨g,0,none⟩) (2*d) (2*d)])) W2);have HB2:=Lib.hid hB2;have HB1:=Lib.hid hb1;clear hX2 hB2 hb1;go_wp2_with fail;refine HT.out.mono ?_;rintro e w3 ⟨rfl,rfl⟩;go_wp2_with fail;have hB12:=HB1.out.trans (HB2.out.mono HB1.out.size);refine bodyPost_ret (v:=.tuple #[.iface 242 (.agg #[.int .i64 2,.int .i64 d,.slice (some ⟨g,0,none⟩) (2*d) (2*d)]),.nilIface]) (by simp[results,Tryz.f290,go_sem]) rfl ⟨HB0.out.trans (hB12.mono HB0.out.size),?_⟩;exact⟨_,rfl,by show BdAt _ _ (.cnt (c / 2) (jdf c l));rw[HD.out];exact⟨_,_,_,rfl,HN.out.go HB2.out⟩⟩
set_option maxRecDepth 100000 in
set_option maxHeartbeats 1000000 in
theorem jqW (f:Nat) (l:List (Int × Int)) (a:Option Addr) (len cap:Nat) (w:World) (h1:1<=f) (hf:f<=3) (hS:SlC jb5 2 w.heap.size w a len cap l) (hr:jaX f l=true) (hbd:∀ b∈l,jap f b.1=true) (hbu:jbG l) (hlen:l.length<=1000) :
  Calls Tryz.prog 304 #[.agg #[.int .i64 f,.slice a len cap]] w (jey (some (Bd.bkt f l).low) w):=by
 obtain⟨W0,hW0,hXb,hB0,hs0⟩:=jah w #[.int .i64 f,.slice a len cap] 244;obtain⟨c0,c1⟩:=cl2 hXb;have HA:=Lib.hid (jj9 f l a len cap W0 h1 hf ((hS.1.below hB0).mono hB0.size) hr hbd hbu (by have:=hS.1.1;omega));have HB0:=Lib.hid hB0;clear hXb hB0;have HF:Hid (1<=f):=h1;clear hS hr hbd hbu hlen hf h1;go_enter Tryz.func304,Tryz.ntmps304;go_wp2_with fail;refine HA.out.mono ?_;rintro e w1 ⟨a',len',cap',rfl,hS1,hb1⟩;have HN:=Lib.hid hS1;clear hS1;obtain⟨W2,hW2,hX2,hB2,hs2⟩:=jah w1 #[.int .i64 ((f:Int)-1),.slice a' len' cap'] 48;obtain⟨q0,q1⟩:=cl2 hX2;have HT:=Lib.hid (jiy (.iface 244 (.agg #[.int .i64 ((f:Int)-1),.slice a' len' cap'])) W2);have HB2:=Lib.hid hB2;have HB1:=Lib.hid hb1;clear hX2 hB2 hb1;go_wp2_with fail;refine HT.out.mono ?_;rintro e w3 ⟨rfl,rfl⟩;go_wp2_with fail;have hB12:=HB1.out.trans (HB2.out.mono HB1.out.size);refine bodyPost_ret (v:=.tuple #[.iface 244 (.agg #[.int .i64 ((f:Int)-1),.slice a' len' cap']),.nilIface]) (by simp[results,Tryz.f304,go_sem]) rfl ⟨HB0.out.trans (hB12.mono HB0.out.size),?_⟩;exact⟨_,rfl,_,_,_,by rw[show ((f-1:Nat):Int)=(f:Int)-1 by have:=HF.out;omega],HN.out.go HB2.out⟩
end Go.Proofs.YtieknocphiceoaaGreatDoor
namespace Go.Proofs.YtieknocphiceoaaGreatDoor
open Go Go.RowKit Go.Extern.Stop Go.Stop Go.Extern
def GT (w:World):Prop:=w.cell? ⟨0,0,none⟩=some (.iface 292 (.agg #[.pointer (some ⟨4,124,none⟩)]))
theorem GT.lt {w:World} (h:GT w):0<w.heap.size:=World.block_lt_of_cell? w _ h
theorem GT.go {w w':World} (h:GT w) (hb:Below w.heap.size w w'):GT w':=(hb.cell (p:=⟨0,0,none⟩) h.lt).trans h
end Go.Proofs.YtieknocphiceoaaGreatDoor
