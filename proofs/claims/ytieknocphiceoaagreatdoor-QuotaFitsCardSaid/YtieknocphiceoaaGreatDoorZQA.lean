/- The reference of layer 10: New, Lower, To, at any sketch. Printed by gen_dl.py. The reference of layer 10: Add, at any sketch. Printed by gen_dm.py. The reference of layer 10: Merge, at any sketches. Printed by gen_dn.py. The reference of layer 10: Cost, Ask, at any sketch. Printed by gen_ep.py. quota.Victim. -/
import Derived.Test.YtieknocphiceoaaGreatDoorZRT
import Derived.Test.YtieknocphiceoaaGreatDoorZLIM
namespace Go.Proofs.YtieknocphiceoaaGreatDoor
open Go Go.RowKit Go.Shelf
theorem jjw {x:Sk} {s:SS} {w:World} (hx:s.At w.heap.size w x) (hl:x.lim) (ok:jcd x=true) (hb:x.level≠jal x.kind) :
  Calls Tryz.prog 99 #[.agg #[.int .i64 x.kind,.int .i64 x.level,.slice s.ea s.el s.ec,.int .i64 x.hb,.string x.hr,.int .i64 x.cr,.int .i64 x.cc,.slice s.ca s.cl s.cc,.int .i64 x.gf,.slice s.ga s.gl s.gc]] w (LowF (jeY x) w):=by
 obtain⟨k,L,B,rfl,hB⟩:=hl.bd ok;rw[jfV hB];refine jdE hB ?_ _ rfl s w hx;have h1:=jny hB;have h2:=jp6 hB;rw[(jaD k L B).2,h2] at hb;omega
def SkF (s0:SS) (r:Sk × Int) (w:World) (e:Ending) (w':World):Prop:=∃ s:SS,e=.returned (.tuple #[.agg #[.int .i64 r.1.kind,.int .i64 r.1.level,.slice s.ea s.el s.ec,.int .i64 r.1.hb,.string r.1.hr,.int .i64 r.1.cr,.int .i64 r.1.cc,.slice s.ca s.cl s.cc,.int .i64 r.1.gf,.slice s.ga s.gl s.gc],.int .i64 r.2])/\s.At w'.heap.size w' r.1/\(s=s0\/s.From w.heap.size)/\Below w.heap.size w w'
def SkG (r:Sk × Int) (w:World) (e:Ending) (w':World):Prop:=∃ s:SS,e=.returned (.tuple #[.agg #[.int .i64 r.1.kind,.int .i64 r.1.level,.slice s.ea s.el s.ec,.int .i64 r.1.hb,.string r.1.hr,.int .i64 r.1.cr,.int .i64 r.1.cc,.slice s.ca s.cl s.cc,.int .i64 r.1.gf,.slice s.ga s.gl s.gc],.int .i64 r.2])/\s.At w'.heap.size w' r.1/\s.From w.heap.size/\Below w.heap.size w w'
set_option maxRecDepth 100000 in
set_option maxHeartbeats 4000000 in
theorem jgw {x:Sk} {s:SS} {w:World} (hx:s.At w.heap.size w x) (hl:x.lim) (ok:jcd x=true) (hb:x.level≠jal x.kind) :
  Calls Tryz.prog 96 #[.agg #[.int .i64 x.kind,.int .i64 x.level,.slice s.ea s.el s.ec,.int .i64 x.hb,.string x.hr,.int .i64 x.cr,.int .i64 x.cc,.slice s.ca s.cl s.cc,.int .i64 x.gf,.slice s.ga s.gl s.gc]] w (SkG (jeY x,0) w):=by
 have HL:Hid (∀ W,Below w.heap.size w W->Calls Tryz.prog 99 #[.agg #[.int .i64 x.kind,.int .i64 x.level,.slice s.ea s.el s.ec,.int .i64 x.hb,.string x.hr,.int .i64 x.cr,.int .i64 x.cc,.slice s.ca s.cl s.cc,.int .i64 x.gf,.slice s.ga s.gl s.gc]] W (LowF (jeY x) W)):=fun W h=>jjw (hx.go h) hl ok hb
 have HBT:Hid (∀ W,Calls Tryz.prog 49 #[.int .i64 x.kind] W fun e w'=>e=.returned (.int .i64 (jal x.kind))/\w'=W):=fun W=>(jat x.kind W).mono fun e w' ⟨h1,h2⟩=>⟨h1,h2.symm⟩
 have hbb:(x.level==jal x.kind)=false:=by rw[beq_eq_false_iff_ne];exact hb
 generalize jal x.kind=bt at HBT hbb hb;generalize jeY x=y at HL ⊢;obtain⟨W0,hW0,hX0,hXr,hB0,hs0⟩:=jaS w #[.int .i64 x.kind,.int .i64 x.level,.slice s.ea s.el s.ec,.int .i64 x.hb,.string x.hr,.int .i64 x.cr,.int .i64 x.cc,.slice s.ca s.cl s.cc,.int .i64 x.gf,.slice s.ga s.gl s.gc] 50 #[.int .i64 0,.int .i64 0,.slice none 0 0,.int .i64 0,.string ⟨#[]⟩,.int .i64 0,.int .i64 0,.slice none 0 0,.int .i64 0,.slice none 0 0] 50;have HX:Hid (∀ W,Below W0.heap.size W0 W->W.heap[w.heap.size]? = some (.cells #[.int .i64 x.kind,.int .i64 x.level,.slice s.ea s.el s.ec,.int .i64 x.hb,.string x.hr,.int .i64 x.cr,.int .i64 x.cc,.slice s.ca s.cl s.cc,.int .i64 x.gf,.slice s.ga s.gl s.gc] 50 (0,0))/\W.heap[w.heap.size+1]? = some (.cells #[.int .i64 0,.int .i64 0,.slice none 0 0,.int .i64 0,.string ⟨#[]⟩,.int .i64 0,.int .i64 0,.slice none 0 0,.int .i64 0,.slice none 0 0] 50 (0,0))):=fun W hb=>⟨jak hb (Nat.le_refl _) hX0,jak hb (Nat.le_refl _) hXr⟩
 have hRt:=jbF x s W0 (hx.go hB0) hl.e hl.cc hl.g;rw[ok] at hRt;clear hb;have HB0:=Lib.hid hB0;have HS0:Hid (W0.heap.size=w.heap.size+2):=hs0;obtain⟨c0,c1,c2,c3,c4,c5,c6,c7,c8,c9⟩:=jaL hX0;clear hX0 hXr hB0 hx hl ok hs0;go_enter Tryz.func96,Tryz.ntmps96;go_wp2_with fail;refine hRt.mono ?_;rintro e w1 ⟨rfl,hb1⟩;obtain⟨hX1,hR1⟩:=HX.out w1 hb1;obtain⟨d0,d1,d2,d3,d4,d5,d6,d7,d8,d9⟩:=jaL hX1;have HB1:=Lib.hid hb1;clear hRt c0 c1 c2 c3 c4 c5 c6 c7 c8 c9;clear hX1 hR1 hb1;go_wp2_with fail;go_quiet ((go_at_call 49;exact Calls.quiet_of_same (HBT.out _)));obtain⟨Wd,hWd⟩:∃ Wd,w1.drewN nq=Wd:=⟨_,rfl⟩;have HBd:Hid (Below W0.heap.size W0 Wd):=by rw[<- hWd];exact bDr HB1.out _
 rw[hWd];obtain⟨hX2,-⟩:=HX.out Wd HBd.out;obtain⟨e0,e1,e2,e3,e4,e5,e6,e7,e8,e9⟩:=jaL hX2;clear hX2 hWd d0 d1 d2 d3 d4 d5 d6 d7 d8 d9;go_wp2_with fail;refine (HL.out Wd (HB0.out.trans (HBd.out.mono HB0.out.size))).mono ?_;rintro e w3 ⟨p,rfl,hA3,hF3,hb3⟩;have HF3:Hid (p.From w.heap.size):=hF3.mono (HB0.out.trans (HBd.out.mono HB0.out.size)).size;clear hF3;have hb03:=HBd.out.trans (hb3.mono HBd.out.size);obtain⟨-,hR3⟩:=HX.out w3 hb03;obtain⟨r0,r1,r2,r3,r4,r5,r6,r7,r8,r9⟩:=jaL hR3;obtain⟨g0,g1,g2,g3,g4,g5,g6,g7,g8,g9⟩:=jdJ hR3;obtain⟨U,hU,hUX,hUO,hUB⟩:=jcl (.int .i64 y.kind) (.int .i64 y.level) (.slice p.ea p.el p.ec) (.int .i64 y.hb) (.string y.hr) (.int .i64 y.cr) (.int .i64 y.cc) (.slice p.ca p.cl p.cc) (.int .i64 y.gf) (.slice p.ga p.gl p.gc) hR3;obtain⟨k0,k1,k2,k3,k4,k5,k6,k7,k8,k9⟩:=jaL hUX;have HAU:=Lib.hid (hA3.apart hR3 (fun i u=>jd8 u) hUO);have HBU:Hid (Below w.heap.size w U):=hUB _ _ (HB0.out.trans (hb03.mono HB0.out.size)) (Nat.le_succ _);clear hA3 hb3 hb03 hR3 hUX hUO hUB;go_wp2_with fail;exact bodyPost_ret (v:=.tuple #[.agg #[.int .i64 y.kind,.int .i64 y.level,.slice p.ea p.el p.ec,.int .i64 y.hb,.string y.hr,.int .i64 y.cr,.int .i64 y.cc,.slice p.ca p.cl p.cc,.int .i64 y.gf,.slice p.ga p.gl p.gc],.int .i64 0]) (by simp[results,Tryz.f96,go_sem,k0,k1,k2,k3,k4,k5,k6,k7,k8,k9]) rfl ⟨p,rfl,HAU.out,HF3.out,HBU.out⟩
def jrP (b:Nat) (w:World):Int:=match w.cell? ⟨b,1,none⟩ with
 | some (.int _ n)=>n
 | _=>0
theorem joe {L t:Nat} {B:Bd} (h:L<t):jdG (L,B) t=jdG (L+1,B.low) t:=by
 unfold jdG;obtain⟨n,hn⟩:∃ n,t-L=n+1:=⟨t-L-1,by omega⟩;show jc4 (t-L) (L,B)=jc4 (t-(L+1)) (L+1,B.low);rw[hn,show t-(L+1)=n by omega];rfl
theorem jof {L t:Nat} {B:Bd} (h:t<=L):jdG (L,B) t=(L,B):=by
 unfold jdG;show jc4 (t-L) (L,B)=(L,B);rw[show t-L=0 by omega];rfl
set_option maxRecDepth 100000 in
set_option maxHeartbeats 4000000 in
theorem jjv {x:Sk} {s:SS} {w:World} (t:Int) (hx:s.At w.heap.size w x) (hl:x.lim) (ok:jcd x=true) (hb:¬ jal x.kind<t) :
  Calls Tryz.prog 52 #[.agg #[.int .i64 x.kind,.int .i64 x.level,.slice s.ea s.el s.ec,.int .i64 x.hb,.string x.hr,.int .i64 x.cr,.int .i64 x.cc,.slice s.ca s.cl s.cc,.int .i64 x.gf,.slice s.ga s.gl s.gc],.int .i64 t] w (SkF s (jrx x t.toNat,0) w):=by
 obtain⟨k0',L0,B0,hxe,hB0'⟩:=hl.bd ok;have HR:Hid (jrx x t.toNat=jb6 k0' (jdG (L0,B0) t.toNat).1 (jdG (L0,B0) t.toNat).2):=by rw[hxe];exact jkt hB0' _
 have hbt:t<=(jdr k0':Int):=by rw[hxe,jp6 hB0'] at hb;omega
 have hbt4:jdr k0'<=4:=by unfold jdr;split<;>omega
 generalize jrx x t.toNat=R at HR ⊢;have HST:Hid (∀ (L:Nat) (B:Bd) (y y3:Sk) (p:SS) W,y=jb6 k0' L B->y3=jb6 k0' (L+1) B.low->B.Ok k0' L->(L:Int)<t->p.At W.heap.size W y->Calls Tryz.prog 99 #[.agg #[.int .i64 y.kind,.int .i64 y.level,.slice p.ea p.el p.ec,.int .i64 y.hb,.string y.hr,.int .i64 y.cr,.int .i64 y.cc,.slice p.ca p.cl p.cc,.int .i64 y.gf,.slice p.ga p.gl p.gc]] W (LowF y3 W)):=fun L B y y3 p W hy hy3 hB hlt hA=>by rw[hy3];exact jdE hB (by omega) y hy p W hA
 have HBdl:Hid (∀ (L:Nat) (B:Bd),B.Ok k0' L->(L:Int)<t->B.low.Ok k0' (L+1)):=fun L B hB hlt=>jeC hB (by omega)
 have HBT:Hid (∀ W,Calls Tryz.prog 49 #[.int .i64 x.kind] W fun e w'=>e=.returned (.int .i64 (jal x.kind))/\w'=W):=fun W=>(jat x.kind W).mono fun e w' ⟨h1,h2⟩=>⟨h1,h2.symm⟩
 generalize jal x.kind=bt at HBT hb;obtain⟨W0,hW0,hX0,hXr,hB0,hs0⟩:=jaS w #[.int .i64 x.kind,.int .i64 x.level,.slice s.ea s.el s.ec,.int .i64 x.hb,.string x.hr,.int .i64 x.cr,.int .i64 x.cc,.slice s.ca s.cl s.cc,.int .i64 x.gf,.slice s.ga s.gl s.gc] 50 #[.int .i64 0,.int .i64 0,.slice none 0 0,.int .i64 0,.string ⟨#[]⟩,.int .i64 0,.int .i64 0,.slice none 0 0,.int .i64 0,.slice none 0 0] 50;have HX:Hid (∀ W,Below W0.heap.size W0 W->W.heap[w.heap.size]? = some (.cells #[.int .i64 x.kind,.int .i64 x.level,.slice s.ea s.el s.ec,.int .i64 x.hb,.string x.hr,.int .i64 x.cr,.int .i64 x.cc,.slice s.ca s.cl s.cc,.int .i64 x.gf,.slice s.ga s.gl s.gc] 50 (0,0))/\W.heap[w.heap.size+1]? = some (.cells #[.int .i64 0,.int .i64 0,.slice none 0 0,.int .i64 0,.string ⟨#[]⟩,.int .i64 0,.int .i64 0,.slice none 0 0,.int .i64 0,.slice none 0 0] 50 (0,0))):=fun W hb=>⟨jak hb (Nat.le_refl _) hX0,jak hb (Nat.le_refl _) hXr⟩
 have hRt:=jbF x s W0 (hx.go hB0) hl.e hl.cc hl.g;rw[ok] at hRt;have hA0:=hx.go hB0;have HOk:Hid (Bd.Ok k0' L0 B0):=hB0';have HXE:=Lib.hid hxe;have HBT2:=Lib.hid hbt;have HAW:=Lib.hid hA0;have HB0:=Lib.hid hB0;have HS0:Hid (W0.heap.size=w.heap.size+2):=hs0;obtain⟨c0,c1,c2,c3,c4,c5,c6,c7,c8,c9⟩:=jaL hX0;clear hX0 hXr hB0 hx hl ok hs0 hA0 hB0' hxe;go_enter Tryz.func52,Tryz.ntmps52;go_wp2_with fail;refine hRt.mono ?_;rintro e w1 ⟨rfl,hb1⟩;obtain⟨hX1,hR1⟩:=HX.out w1 hb1;obtain⟨d0,d1,d2,d3,d4,d5,d6,d7,d8,d9⟩:=jaL hX1;have HB1:=Lib.hid hb1;clear hRt c0 c1 c2 c3 c4 c5 c6 c7 c8 c9;clear hX1 hR1 hb1;go_wp2_with (go_at_call 49;refine (HBT.out _).mono ?_;rintro e w' ⟨rfl,h9⟩;subst w');go_loopw [] (fun wr=>∃ (L:Nat) (B:Bd) (y:Sk) (p:SS),Hid (y=jb6 k0' L B)/\Hid (B.Ok k0' L)/\Hid (jdG (L,B) t.toNat=jdG (L0,B0) t.toNat)/\y.level=(L:Int)/\L<=4/\Hid (wr.heap[w.heap.size]? = some (.cells #[.int .i64 y.kind,.int .i64 y.level,.slice p.ea p.el p.ec,.int .i64 y.hb,.string y.hr,.int .i64 y.cr,.int .i64 y.cc,.slice p.ca p.cl p.cc,.int .i64 y.gf,.slice p.ga p.gl p.gc] 50 (0,0)))/\Hid (p.At wr.heap.size wr y)/\Hid (p=s\/p.From w.heap.size)/\Hid (wr.heap[w.heap.size+1]? = some (.cells #[.int .i64 0,.int .i64 0,.slice none 0 0,.int .i64 0,.string ⟨#[]⟩,.int .i64 0,.int .i64 0,.slice none 0 0,.int .i64 0,.slice none 0 0] 50 (0,0)))/\Hid (Below w.heap.size w wr)) (fun wr=>(t-jrP w.heap.size wr).toNat)
 case atStart =>
  obtain⟨h1,h2⟩:=HX.out w1 HB1.out;have h3:=HXE.out;exact⟨L0,B0,x,s,h3,HOk.out,rfl,by rw[h3];exact (jaD _ _ _).2,by have:=jny HOk.out;omega,h1,HAW.out.go HB1.out,.inl rfl,h2,HB0.out.trans (HB1.out.mono HB0.out.size)⟩
 case round =>
  obtain⟨L,B,y,p,HY,HBk,HW,hlv,hL4,HXb,HA,HFp,HRb,HBw⟩:=hrel;have hXb:=HXb.out;obtain⟨u0,u1,u2,u3,u4,u5,u6,u7,u8,u9⟩:=jaL hXb;have hlev:jrP w.heap.size wr=(L:Int):=by unfold jrP;rw[u1];exact hlv
  have HLev:=Lib.hid hlev;have HLv:=Lib.hid hlv;by_cases hlt:(L:Int)<t
  ·have hlt2:y.level<t:=by rw[hlv];exact hlt
   obtain⟨y3,hy3⟩:∃ y3,y3=jb6 k0' (L+1) B.low:=⟨_,rfl⟩;have HY3:=Lib.hid hy3;have HLt:=Lib.hid hlt;clear hlev hlv hy3 hXb hlt;go_wp2_with fail;refine (HST.out L B y y3 p _ HY.out HY3.out HBk.out HLt.out HA.out).mono ?_;rintro e w3 ⟨p3,rfl,hA3,hF3,hb3⟩;have HF3:Hid (p3.From w.heap.size):=hF3.mono HBw.out.size;clear hF3;have hX3:=jak hb3 (Nat.le_refl _) HXb.out;have hR3:=jak hb3 (Nat.le_refl _) HRb.out;obtain⟨v0,v1,v2,v3,v4,v5,v6,v7,v8,v9⟩:=jaL hX3;obtain⟨g0,g1,g2,g3,g4,g5,g6,g7,g8,g9⟩:=jdJ hX3;obtain⟨V,hV,hVX,hVO,hVB⟩:=jcl (.int .i64 y3.kind) (.int .i64 y3.level) (.slice p3.ea p3.el p3.ec) (.int .i64 y3.hb) (.string y3.hr) (.int .i64 y3.cr) (.int .i64 y3.cc) (.slice p3.ca p3.cl p3.cc) (.int .i64 y3.gf) (.slice p3.ga p3.gl p3.gc) hX3;have HVX:=Lib.hid hVX;have HA3:=Lib.hid (hA3.apart hX3 (jil _ _ _ _ _ _ _ _ _ _ _ _ _ _ _ _) hVO);have HR3:=Lib.hid ((hVO.2 (w.heap.size+1) (by omega)).trans hR3);have HBV:Hid (Below w.heap.size w V):=hVB _ _ (HBw.out.trans (hb3.mono HBw.out.size)) (Nat.le_refl _);clear hX3 hR3 hVX hVO hVB hA3 hb3;go_wp2_with fail;go_roundw
   case rel=>exact⟨L+1,B.low,y3,p3,HY3.out,HBdl.out L B HBk.out HLt.out,by rw[<- HW.out];exact (joe (by have:=HLt.out;omega)).symm,by rw[HY3.out];exact (jaD _ _ _).2,by have:=HLt.out;have:=HBT2.out;omega,HVX.out,HA3.out,.inr HF3.out,HR3.out,HBV.out⟩
   case measure =>
    have h1:jrP w.heap.size V=(L:Int)+1:=by
     unfold jrP;rw[cCc HVX.out 1];show y3.level=_;rw[HY3.out];exact (jaD _ _ _).2
    have h2:=HLt.out;rw[h1,HLev.out];omega
  ·have hlt2:¬ y.level<t:=by rw[hlv];exact hlt
   have hRy:R=y:=by rw[HR.out,<- HW.out,jof (by omega),HY.out]
   have HRy:=Lib.hid hRy;have hRb:=HRb.out;obtain⟨r0,r1,r2,r3,r4,r5,r6,r7,r8,r9⟩:=jaL hRb;obtain⟨g0,g1,g2,g3,g4,g5,g6,g7,g8,g9⟩:=jdJ hRb;obtain⟨U,hU,hUX,hUO,hUB⟩:=jcl (.int .i64 y.kind) (.int .i64 y.level) (.slice p.ea p.el p.ec) (.int .i64 y.hb) (.string y.hr) (.int .i64 y.cr) (.int .i64 y.cc) (.slice p.ca p.cl p.cc) (.int .i64 y.gf) (.slice p.ga p.gl p.gc) hRb;obtain⟨k0,k1,k2,k3,k4,k5,k6,k7,k8,k9⟩:=jaL hUX;have HAU:=Lib.hid (HA.out.apart hRb (fun i u=>jd8 u) hUO);have HBU:Hid (Below w.heap.size w U):=hUB _ _ HBw.out (Nat.le_succ _);clear hlev hlv hXb hlt hRy hRb hUX hUO hUB;go_wp2_with fail;exact bodyPost_ret (v:=.tuple #[.agg #[.int .i64 y.kind,.int .i64 y.level,.slice p.ea p.el p.ec,.int .i64 y.hb,.string y.hr,.int .i64 y.cr,.int .i64 y.cc,.slice p.ca p.cl p.cc,.int .i64 y.gf,.slice p.ga p.gl p.gc],.int .i64 0]) (by simp[results,Tryz.f52,go_sem,k0,k1,k2,k3,k4,k5,k6,k7,k8,k9]) rfl ⟨p,by rw[HRy.out],by rw[HRy.out];exact HAU.out,HFp.out,HBU.out⟩
theorem jq3 {k L:Nat} {B:Bd} (hB:B.Ok k L):jdK (jb6 k L B).e/\I64 (jb6 k L B).cc/\joi (jb6 k L B).gl:=by
 have h0:I64 0:=by unfold I64;omega
 have he:jdK []:=fun _ h=>by cases h
 have hg:joi []:=fun _ h=>by cases h
 cases B with
 | num l=>exact⟨hB.2.2.2.2,h0,hg⟩
 | reg b r=>exact⟨he,h0,hg⟩
 | cnt c l =>
  obtain⟨-,h2,h3,-,-⟩:=hB;refine⟨he,?_,hg⟩;show I64 (c:Int)
  have:c<=32:=by
   have:=Nat.le_mul_of_pos_right c (Nat.two_pow_pos L);omega
  unfold I64;omega
 | bkt f l =>
  obtain⟨-,h2,h3,h4,h5,h6,h7⟩:=hB;exact⟨he,h0,(BkR.mk (by omega) h4 h5 h6 h7:BkR f l).b⟩
theorem jpS {k L:Nat} {B:Bd} (hB:B.Ok k L):(jb6 k L B).lim:=by
 obtain⟨h1,h2,h3⟩:=jq3 hB;have hz:([]:List Int).length<2147483648:=by decide
 have hz2:([]:List (Int × Int)).length<2147483648:=by decide
 have hc:jdK []:=fun _ h=>by cases h
 cases B with
 | num l=>exact⟨h1,hc,h3,h2,jdB hB,(by have:=hB.2.2.2.1;show l.length<_;omega),hz,hz2⟩
 | reg b r=>exact⟨h1,hc,h3,h2,jdB hB,hz,hz,hz2⟩
 | cnt c l =>
  obtain⟨-,g2,g3,g4,g5⟩:=id hB
  have:c<=32:=by
   have:=Nat.le_mul_of_pos_right c (Nat.two_pow_pos L);omega
  exact⟨h1,g5,h3,h2,jdB hB,hz,(by show l.length<_;omega),hz2⟩
 | bkt f l =>
  obtain⟨-,g2,g3,g4,g5,g6,g7⟩:=id hB;have:=(BkR.mk (by omega) g4 g5 g6 g7:BkR f l).len;exact⟨h1,hc,h3,h2,jdB hB,hz,hz,(by show l.length<_;omega)⟩
set_option maxRecDepth 100000 in
set_option maxHeartbeats 8000000 in
theorem jip {x:Sk} {s:SS} {w:World} (hx:s.At w.heap.size w x) (hl:x.lim) (ok:jcd x=false) :
  Calls Tryz.prog 95 #[.agg #[.int .i64 x.kind,.int .i64 x.level,.slice s.ea s.el s.ec,.int .i64 x.hb,.string x.hr,.int .i64 x.cr,.int .i64 x.cc,.slice s.ca s.cl s.cc,.int .i64 x.gf,.slice s.ga s.gl s.gc]] w fun e w'=>e=.returned (.int .i64 0)/\Below w.heap.size w w':=by
 obtain⟨W0,hW0,hX0,hB0,hs0⟩:=jah w #[.int .i64 x.kind,.int .i64 x.level,.slice s.ea s.el s.ec,.int .i64 x.hb,.string x.hr,.int .i64 x.cr,.int .i64 x.cc,.slice s.ca s.cl s.cc,.int .i64 x.gf,.slice s.ga s.gl s.gc] 50;have hRt:=jbF x s W0 (hx.go hB0) hl.e hl.cc hl.g;rw[ok] at hRt;have HB0:=Lib.hid hB0;obtain⟨c0,c1,c2,c3,c4,c5,c6,c7,c8,c9⟩:=jaL hX0;clear hX0 hB0 hx hl ok hs0;go_enter Tryz.func95,Tryz.ntmps95;go_wp2_with fail;refine hRt.mono ?_;rintro e w1 ⟨rfl,hb1⟩;have HB1:=Lib.hid hb1;clear hRt hb1;go_wp2_with fail;go_ret;exact⟨rfl,HB0.out.trans (HB1.out.mono HB0.out.size)⟩
set_option maxRecDepth 100000 in
set_option maxHeartbeats 8000000 in
theorem jiq {x:Sk} {s:SS} {w:World} (hx:s.At w.heap.size w x) (hl:x.lim) (ok:jcd x=true) (b1:s.el<=1000) (b2:x.hr.size<=1000) (b3:s.cl<=1000) (b4:s.gl<=1000) :
  Calls Tryz.prog 95 #[.agg #[.int .i64 x.kind,.int .i64 x.level,.slice s.ea s.el s.ec,.int .i64 x.hb,.string x.hr,.int .i64 x.cr,.int .i64 x.cc,.slice s.ca s.cl s.cc,.int .i64 x.gf,.slice s.ga s.gl s.gc]] w fun e w'=>e=.returned (.int .i64 (16+8*(s.el:Int)+(x.hr.size:Int)+8*(s.cl:Int)+16*(s.gl:Int)))/\Below w.heap.size w w':=by
 obtain⟨W0,hW0,hX0,hB0,hs0⟩:=jah w #[.int .i64 x.kind,.int .i64 x.level,.slice s.ea s.el s.ec,.int .i64 x.hb,.string x.hr,.int .i64 x.cr,.int .i64 x.cc,.slice s.ca s.cl s.cc,.int .i64 x.gf,.slice s.ga s.gl s.gc] 50;have hRt:=jbF x s W0 (hx.go hB0) hl.e hl.cc hl.g;rw[ok] at hRt;have HX0:=Lib.hid hX0;have HB0:=Lib.hid hB0;obtain⟨c0,c1,c2,c3,c4,c5,c6,c7,c8,c9⟩:=jaL hX0;clear hX0 hB0 hx hl ok hs0;go_enter Tryz.func95,Tryz.ntmps95;go_wp2_with fail;refine hRt.mono ?_;rintro e w1 ⟨rfl,hb1⟩;have hX1:=jak hb1 (Nat.le_refl _) HX0.out;obtain⟨d0,d1,d2,d3,d4,d5,d6,d7,d8,d9⟩:=jaL hX1;have HB1:=Lib.hid hb1;clear hRt hb1 hX1 c0 c1 c2 c3 c4 c5 c6 c7 c8 c9;go_wp2_with fail;go_ret;refine⟨?_,HB0.out.trans (HB1.out.mono HB0.out.size)⟩;show Ending.returned (Value.int .i64 _)=Ending.returned (Value.int .i64 _);congr 2
theorem jo6 {k L:Nat} {B:Bd} (hB:B.Ok k L):16+8*((jb6 k L B).e.length:Int)+((jb6 k L B).hr.size:Int)+8*((jb6 k L B).cl.length:Int)+16*((jb6 k L B).gl.length:Int)=(jp4 B:Int)+16:=by
 cases B with
 | num l=>show 16+8*(l.length:Int)+0+8*0+16*0=((8*l.length:Nat):Int)+16;omega
 | reg b r=>show 16+8*0+((jaA r).size:Int)+8*0+16*0=(r.length:Int)+16;rw[jbW];omega
 | cnt c l=>show 16+8*0+0+8*(l.length:Int)+16*0=((8*l.length:Nat):Int)+16;omega
 | bkt f l=>show 16+8*0+0+8*0+16*(l.length:Int)=((16*l.length:Nat):Int)+16;omega
theorem jpR {k L:Nat} {B:Bd} (hB:B.Ok k L):(jb6 k L B).e.length<=1000/\(jb6 k L B).hr.size<=1000/\(jb6 k L B).cl.length<=1000/\(jb6 k L B).gl.length<=1000:=by
 cases B with
 | num l=>exact⟨by have:=hB.2.2.2.1;show l.length<=_;omega,Nat.zero_le _,Nat.zero_le _,Nat.zero_le _⟩
 | reg b r =>
  obtain⟨-,g2,g3,g4,g5,-⟩:=hB;have:2^b<=2^8:=Nat.pow_le_pow_right (by omega) (by omega);exact⟨Nat.zero_le _,by show (jaA r).size<=_;rw[jbW];omega,Nat.zero_le _,Nat.zero_le _⟩
 | cnt c l =>
  obtain⟨-,g2,g3,g4,-⟩:=hB
  have:c<=32:=by
   have:=Nat.le_mul_of_pos_right c (Nat.two_pow_pos L);omega
  exact⟨Nat.zero_le _,Nat.zero_le _,by show l.length<=_;omega,Nat.zero_le _⟩
 | bkt f l =>
  obtain⟨-,g2,g3,g4,g5,g6,g7⟩:=hB;have:=(BkR.mk (by omega) g4 g5 g6 g7:BkR f l).len;exact⟨Nat.zero_le _,Nat.zero_le _,Nat.zero_le _,by show l.length<=_;omega⟩
theorem jju {x:Sk} {s:SS} {w:World} (hx:s.At w.heap.size w x) (hl:x.lim) :
  Calls Tryz.prog 95 #[.agg #[.int .i64 x.kind,.int .i64 x.level,.slice s.ea s.el s.ec,.int .i64 x.hb,.string x.hr,.int .i64 x.cr,.int .i64 x.cc,.slice s.ca s.cl s.cc,.int .i64 x.gf,.slice s.ga s.gl s.gc]] w fun e w'=>e=.returned (.int .i64 (jbm x))/\Below w.heap.size w w':=by
 cases ok:jcd x with
 | false =>
  have:jbm x=0:=by unfold jbm;rw[ok];rfl
  rw[this];exact jip hx hl ok
 | true =>
  obtain⟨k,L,B,hxe,hB⟩:=hl.bd ok;have h1:=hx.e.1.1;have h2:=hx.c.1.1;have h3:=hx.g.1.1;obtain⟨z1,z2,z3,z4⟩:=jpR hB;rw[<- hxe] at z1 z2 z3 z4;have h:=jiq hx hl ok (by omega) z2 (by omega) (by omega);have hc:=jo6 hB;rw[<- hxe,<- h1,<- h2,<- h3] at hc;rw[hc] at h;rw[hxe,jmI hB,<- hxe];exact h
theorem jjD (a:Option Addr) (len cap k:Nat) (w:World) (h:k<cap):(Instr.slice 22 (.slice a len cap) (some (.int .i64 (k:Int))) (some (.int .i64 ((k:Int)+1))) none).run Tryz.prog w=.ok (.slice (jc6 a cap k 12) 1 (cap-k)) w:=by
 have hs:(sizeOf 70).run Tryz.prog w=.ok 12 w:=by kernel_rfl
 have he:Tryz.prog.elem 22=70:=by kernel_rfl
 rw[run_slice_lh (t:=22) (a:=a) (len:=len) (cap:=cap) (w:=w) (ht:=by rw[he];exact jbx) (kl:=.i64) (kh:=.i64) (l:=(k:Int)) (h:=(k:Int)+1) (by omega) (by omega) (by omega),he,hs];have e1:((k:Int)+1).toNat=k+1:=by omega
 simp only[Result.andThen,sliced,Int.toNat_natCast,jc6,e1];rw[show k+1-k=1 by omega]
theorem Tab.mid {n₀:Nat} {w:World} {a:Option Addr} {len cap:Nat} {l:List (Ser × SerP)} (h:Tab n₀ w a len cap l) {k:Nat} {e:Ser × SerP} (he:l[k]? = some e):Tab n₀ w (jc6 a cap k 12) 1 (cap-k) [e]:=by
 have hk:=(List.getElem?_eq_some_iff.1 he).1;have hlen:=h.row.1.1;have h1:=(h.drop k (by omega)).take 1 (by omega);have h2:(l.drop k).take 1=[e]:=by rw[jaJ he];rfl
 rw[h2] at h1;exact h1
theorem jgN {x:Ser} (h:jaM x=true):jaz [x]=jaB x:=by
 unfold jaz;have:jag [x]=true:=by simp[jag,jbJ,h]
 rw[this,if_pos rfl];show jaB x+0=jaB x;omega
def jhL (l:List Ser):Int:=if jag l then ((vic l).1:Int) else 0
def jgU (l:List Ser):Bool:=jag l&&(vic l).2.2
set_option maxRecDepth 100000 in
set_option maxHeartbeats 4000000 in
theorem jhd (l:List (Ser × SerP)) (a:Option Addr) (len cap:Nat) (w:World) (hT:Tab w.heap.size w a len cap l) (hF:jbu l) (hG:GW w) :
  Calls Tryz.prog 10 #[.slice a len cap] w fun e w'=>e=.returned (.tuple #[.int .i64 (jhL (l.map (·.1))),.bool (jgU (l.map (·.1)))])/\Below w.heap.size w w':=by
 have hR:=ja2 l a len cap w hT hF hG;have hlen:=hT.row.1.1;subst hlen;have HT:=Lib.hid hT;have HF:=Lib.hid hF;have HG:=Lib.hid hG;have hm:l.length<=maxLen:=Nat.le_trans hT.row.2.1 hT.row.2.2.1;have hcap:l.length<=cap:=hT.row.2.1;unfold maxLen at hm;clear hT hF hG
 cases hr:jag (l.map (·.1)) with
 | false =>
  rw[hr] at hR;have HR:Hid (jhL (l.map (·.1))=0/\jgU (l.map (·.1))=false):=by rw[Hid,jhL,jgU,hr];exact⟨rfl,rfl⟩
  generalize jhL (l.map (·.1))=cR at HR ⊢;generalize jgU (l.map (·.1))=bR at HR ⊢;clear hr;go_enter Tryz.func10,Tryz.ntmps10;go_wp2_with (go_at_call 39;refine hR.mono ?_;rintro e w1 ⟨rfl,hb1⟩);go_ret2;exact⟨by rw[HR.out.1,HR.out.2];rfl,hb1⟩
 | true =>
  rw[hr] at hR;have HS:=Lib.hid ((jaK _).1 hr).2.1;have h20:l.length<=20:=by have:=((jaK _).1 hr).1;rwa [List.length_map] at this
  have HR:Hid (jhL (l.map (·.1))=((vic (l.map (·.1))).1:Int)/\jgU (l.map (·.1))=(vic (l.map (·.1))).2.2):=by rw[Hid,jhL,jgU,hr];exact⟨rfl,rfl⟩
  generalize jhL (l.map (·.1))=cR at HR ⊢;generalize jgU (l.map (·.1))=bR at HR ⊢;clear hr;go_enter Tryz.func10,Tryz.ntmps10;go_wp2_with (go_at_call 39;refine hR.mono ?_;rintro e w1 ⟨rfl,hb1⟩);clear hR;go_loopw [4,5,6,15] (fun v c f i wr=>∃ (k p:Nat) (s:Int) (b:Bool),i=.int .i64 k/\v=.int .i64 p/\c=.int .i64 s/\f=.bool b/\k<=l.length/\Below w.heap.size w wr/\Hid ((p,s,b)=jcy (l.map (·.1)) k)/\p<=k) (fun _ _ _ i _=>l.length-(intOf i).toNat)
  case atStart=>exact⟨0,0,0,false,rfl,rfl,rfl,rfl,Nat.zero_le _,hb1,rfl,Nat.le_refl _⟩
  case round =>
   obtain⟨k,q,s,b,rfl,rfl,rfl,rfl,hk,hB,HV,hq⟩:=hrel;have hsz:=hB.size;by_cases hlt:k<l.length
   ·obtain⟨⟨x,p⟩,hx⟩:∃ x,l[k]? = some x:=⟨_,List.getElem?_eq_getElem hlt⟩
    have HMd:Hid (∀ W,Below w.heap.size w W->Tab W.heap.size W (jc6 a cap k 12) 1 (cap-k) [(x,p)]):=fun W hW=>((HT.out.below hW).mono hW.size).mid hx
    have HF1:Hid (jbu [(x,p)]):=fun e he=>by rw[List.mem_singleton] at he;subst he;exact HF.out _ (List.mem_of_getElem? hx)
    have hsl:=fun W=>jjD a l.length cap k W (by omega)
    obtain⟨bb,off,rfl,hbb,hc⟩:=(HT.out.below hB).row.1.2 k (x,p) hx;have c0:wr.cell? ⟨bb,off+k*12,none⟩=some (.slice p.la p.ll p.lc):=hc 0 (by omega);have c1:wr.cell? ⟨bb,off+k*12+1,none⟩=some (.int .i64 x.sk.kind):=hc 1 (by omega);have c2:wr.cell? ⟨bb,off+k*12+2,none⟩=some (.int .i64 x.sk.level):=hc 2 (by omega);have c3:wr.cell? ⟨bb,off+k*12+3,none⟩=some (.slice p.ss.ea p.ss.el p.ss.ec):=hc 3 (by omega);have c4:wr.cell? ⟨bb,off+k*12+4,none⟩=some (.int .i64 x.sk.hb):=hc 4 (by omega);have c5:wr.cell? ⟨bb,off+k*12+5,none⟩=some (.string x.sk.hr):=hc 5 (by omega);have c6:wr.cell? ⟨bb,off+k*12+6,none⟩=some (.int .i64 x.sk.cr):=hc 6 (by omega);have c7:wr.cell? ⟨bb,off+k*12+7,none⟩=some (.int .i64 x.sk.cc):=hc 7 (by omega);have c8:wr.cell? ⟨bb,off+k*12+8,none⟩=some (.slice p.ss.ca p.ss.cl p.ss.cc):=hc 8 (by omega);have c9:wr.cell? ⟨bb,off+k*12+9,none⟩=some (.int .i64 x.sk.gf):=hc 9 (by omega);have c10:wr.cell? ⟨bb,off+k*12+10,none⟩=some (.slice p.ss.ga p.ss.gl p.ss.gc):=hc 10 (by omega);have c11:wr.cell? ⟨bb,off+k*12+11,none⟩=some (.int .u64 x.seen):=hc 11 (by omega);have HX:Hid ((l.map (·.1))[k]? = some x):=by rw[Hid,List.getElem?_map,hx];rfl
    have HSx:Hid (jaz [x]=jaB x):=jgN (HS.out x (List.mem_of_getElem? HX.out));have HSm:Hid (0<=jaB x/\jaB x<=220000000000):=jdz (HT.out.at_ _ (List.mem_of_getElem? hx)) (HF.out _ (List.mem_of_getElem? hx));obtain⟨W1,hW1,hX1,hB1,hzz⟩:=jah wr #[.slice p.la p.ll p.lc,.int .i64 x.sk.kind,.int .i64 x.sk.level,.slice p.ss.ea p.ss.el p.ss.ec,.int .i64 x.sk.hb,.string x.sk.hr,.int .i64 x.sk.cr,.int .i64 x.sk.cc,.slice p.ss.ca p.ss.cl p.ss.cc,.int .i64 x.sk.gf,.slice p.ss.ga p.ss.gl p.ss.gc,.int .u64 x.seen] 70;obtain⟨r0,r1,r2,r3,r4,r5,r6,r7,r8,r9,r10,r11⟩:=jbU hX1;have hBW:Below w.heap.size w W1:=hB.trans (hB1.mono hsz);have HBT:Hid (∀ w,Calls Tryz.prog 48 #[.int .i64 x.sk.kind] w fun e w'=>e=.returned (.int .i64 (jal x.sk.kind))/\w'=w):=fun w=>(jbi x.sk.kind w).mono fun e w' ⟨h1,h2⟩=>⟨h1,h2.symm⟩
    have HVs:=Lib.hid (jfn HX.out);have hbt : -1<=jal x.sk.kind/\jal x.sk.kind<=4:=by unfold jal;repeat' split;all_goals omega
    have HM:Hid (jbv x=decide (x.sk.level<jal x.sk.kind)):=rfl;generalize jal x.sk.kind=bt at HBT HM hbt;clear hc hx;by_cases hm:x.sk.level<bt
    case neg =>
     have H9:Hid ((q,s,b)=jcy (l.map (·.1)) (k+1)):=by rw[Hid,HVs.out,<- HV.out,jcV,HM.out,decide_eq_false hm];rfl
     go_wp2_with fail;go_quiet ((go_at_call 48;exact Calls.quiet_of_same (HBT.out _)));go_wp2_with fail
     all_goals go_roundw
     case rel=>exact⟨k+1,q,s,b,by go_num,rfl,rfl,rfl,by omega,hBW.trans ((jbB nq).mono hBW.size),H9.out,by omega⟩
     case measure=>simp[intOf];omega
    case pos =>
     have HCo:Hid (∀ W,Below w.heap.size w W->Calls Tryz.prog 37 #[.slice (jc6 (some ⟨bb,off,none⟩) cap k 12) 1 (cap-k)] W fun e w'=>e=.returned (.int .i64 (jaB x))/\Below W.heap.size W w'):=fun W hW=>by
      have:=jbk _ _ _ _ W (HMd.out W hW) HF1.out (HG.out.below hW);rw[show ([(x,p)]:List (Ser × SerP)).map (·.1)=[x] from rfl,HSx.out] at this;exact this
     have H9:Hid (jcy (l.map (·.1)) (k+1)=if (!b||decide (s<jaB x))=true then (k,jaB x,true) else (q,s,b)):=by
      rw[Hid,HVs.out,<- HV.out,jcV,HM.out,decide_eq_true hm];rfl
     obtain⟨hc0,hc1⟩:=HSm.out;generalize jaB x=sc at HCo H9 hc0 hc1;clear HSm HSx HMd;go_wp2_with fail;go_quiet ((go_at_call 48;exact Calls.quiet_of_same (HBT.out _)));have hsl2:=hsl (W1.drewN nq);have hBq:=hBW.trans ((jbB nq).mono hBW.size)
     cases b with
     | false =>
      have H8:Hid ((k,sc,true)=jcy (l.map (·.1)) (k+1)):=by rw[Hid,H9.out];rfl
      go_wp2_with (go_at_call 37;refine (HCo.out _ hBq).mono ?_;rintro e w3 ⟨rfl,hb3⟩)
      all_goals go_roundw
      case rel=>exact⟨k+1,k,sc,true,by go_num,rfl,rfl,rfl,by omega,hBq.trans (hb3.mono hBq.size),H8.out,by omega⟩
      case measure=>simp[intOf];omega
     | true =>
      by_cases hg:s<sc
      ·have H8:Hid ((k,sc,true)=jcy (l.map (·.1)) (k+1)):=by rw[Hid,H9.out,decide_eq_true hg];rfl
       go_wp2_with (go_at_call 37;refine (HCo.out _ hBq).mono ?_;rintro e w3 ⟨rfl,hb3⟩)
       all_goals go_roundw
       case rel=>exact⟨k+1,k,sc,true,by go_num,rfl,rfl,rfl,by omega,hBq.trans (hb3.mono hBq.size),H8.out,by omega⟩
       case measure=>simp[intOf];omega
      ·have H8:Hid ((q,s,true)=jcy (l.map (·.1)) (k+1)):=by rw[Hid,H9.out,decide_eq_false hg];rfl
       go_wp2_with (go_at_call 37;refine (HCo.out _ hBq).mono ?_;rintro e w3 ⟨rfl,hb3⟩)
       all_goals go_roundw
       case rel=>exact⟨k+1,q,s,true,by go_num,rfl,rfl,rfl,by omega,hBq.trans (hb3.mono hBq.size),H8.out,by omega⟩
       case measure=>simp[intOf];omega
   ·obtain rfl:k=l.length:=by omega
    have H9:Hid (cR=(q:Int)/\bR=b):=by
     have e:vic (l.map (·.1))=(q,s,b):=by rw[HV.out,vic,List.length_map]
     rw[Hid,HR.out.1,HR.out.2,e];exact⟨rfl,rfl⟩
    go_wp2_with fail;go_ret2;exact⟨by rw[H9.out.1,H9.out.2];rfl,hB⟩
end Go.Proofs.YtieknocphiceoaaGreatDoor
