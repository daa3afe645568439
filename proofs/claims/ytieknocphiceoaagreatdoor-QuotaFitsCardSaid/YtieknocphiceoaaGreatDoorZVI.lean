/- aviaryref13.Least. Printed by gen_vi.py. -/
import Derived.Test.YtieknocphiceoaaGreatDoorZVG
import Derived.Test.YtieknocphiceoaaGreatDoorZQI
namespace Go.Proofs.YtieknocphiceoaaGreatDoor
open Go Go.RowKit Go.Shelf
theorem jr2 {W:World} {B:Nat} {x0 x1 x2 x3 x4 x5 x6 x7 x8 x9 x10 x11 v1 v2 v3 v4 v5 v6 v7 v8 v9 v10:Value} {t:TypeId} (h:W.heap[B]? = some (.cells #[x0,x1,x2,x3,x4,x5,x6,x7,x8,x9,x10,x11] t (0,0))) :
  ((((((((((W.setCell ⟨B,1,none⟩ v1).setCell ⟨B,2,none⟩ v2).setCell ⟨B,3,none⟩ v3).setCell ⟨B,4,none⟩ v4).setCell ⟨B,5,none⟩ v5).setCell ⟨B,6,none⟩ v6).setCell ⟨B,7,none⟩ v7).setCell ⟨B,8,none⟩ v8).setCell ⟨B,9,none⟩ v9).setCell ⟨B,10,none⟩ v10).heap[B]? = some (.cells #[x0,v1,v2,v3,v4,v5,v6,v7,v8,v9,v10,x11] t (0,0)):=by
 replace h:(W.setCell ⟨B,1,none⟩ v1).heap[B]? = some (.cells #[x0,v1,x2,x3,x4,x5,x6,x7,x8,x9,x10,x11] t (0,0)):=hSk h v1;generalize W.setCell ⟨B,1,none⟩ v1=W at h ⊢;replace h:(W.setCell ⟨B,2,none⟩ v2).heap[B]? = some (.cells #[x0,v1,v2,x3,x4,x5,x6,x7,x8,x9,x10,x11] t (0,0)):=hSk h v2;generalize W.setCell ⟨B,2,none⟩ v2=W at h ⊢;replace h:(W.setCell ⟨B,3,none⟩ v3).heap[B]? = some (.cells #[x0,v1,v2,v3,x4,x5,x6,x7,x8,x9,x10,x11] t (0,0)):=hSk h v3;generalize W.setCell ⟨B,3,none⟩ v3=W at h ⊢;replace h:(W.setCell ⟨B,4,none⟩ v4).heap[B]? = some (.cells #[x0,v1,v2,v3,v4,x5,x6,x7,x8,x9,x10,x11] t (0,0)):=hSk h v4;generalize W.setCell ⟨B,4,none⟩ v4=W at h ⊢;replace h:(W.setCell ⟨B,5,none⟩ v5).heap[B]? = some (.cells #[x0,v1,v2,v3,v4,v5,x6,x7,x8,x9,x10,x11] t (0,0)):=hSk h v5;generalize W.setCell ⟨B,5,none⟩ v5=W at h ⊢;replace h:(W.setCell ⟨B,6,none⟩ v6).heap[B]? = some (.cells #[x0,v1,v2,v3,v4,v5,v6,x7,x8,x9,x10,x11] t (0,0)):=hSk h v6;generalize W.setCell ⟨B,6,none⟩ v6=W at h ⊢;replace h:(W.setCell ⟨B,7,none⟩ v7).heap[B]? = some (.cells #[x0,v1,v2,v3,v4,v5,v6,v7,x8,x9,x10,x11] t (0,0)):=hSk h v7;generalize W.setCell ⟨B,7,none⟩ v7=W at h ⊢;replace h:(W.setCell ⟨B,8,none⟩ v8).heap[B]? = some (.cells #[x0,v1,v2,v3,v4,v5,v6,v7,v8,x9,x10,x11] t (0,0)):=hSk h v8;generalize W.setCell ⟨B,8,none⟩ v8=W at h ⊢;replace h:(W.setCell ⟨B,9,none⟩ v9).heap[B]? = some (.cells #[x0,v1,v2,v3,v4,v5,v6,v7,v8,v9,x10,x11] t (0,0)):=hSk h v9;generalize W.setCell ⟨B,9,none⟩ v9=W at h ⊢
 replace h:(W.setCell ⟨B,10,none⟩ v10).heap[B]? = some (.cells #[x0,v1,v2,v3,v4,v5,v6,v7,v8,v9,v10,x11] t (0,0)):=hSk h v10;exact h
theorem jmB {W:World} {B:Nat} {x0 x1 x2 x3 x4 x5 x6 x7 x8 x9 x10 x11:Value} {t:TypeId} (h:W.heap[B]? = some (.cells #[x0,x1,x2,x3,x4,x5,x6,x7,x8,x9,x10,x11] t (0,0))) (v1 v2 v3 v4 v5 v6 v7 v8 v9 v10:Value) :
  ∃ V,((((((((((W.setCell ⟨B,1,none⟩ v1).setCell ⟨B,2,none⟩ v2).setCell ⟨B,3,none⟩ v3).setCell ⟨B,4,none⟩ v4).setCell ⟨B,5,none⟩ v5).setCell ⟨B,6,none⟩ v6).setCell ⟨B,7,none⟩ v7).setCell ⟨B,8,none⟩ v8).setCell ⟨B,9,none⟩ v9).setCell ⟨B,10,none⟩ v10)=V/\V.heap[B]? = some (.cells #[x0,v1,v2,v3,v4,v5,v6,v7,v8,v9,v10,x11] t (0,0))/\Apart B W V/\(∀ n w0,n<=B->Below n w0 W->Below n w0 V) :=
 ⟨_,rfl,jr2 h,((((((((((Apart.set 1 v1).trans (Apart.set 2 v2)).trans (Apart.set 3 v3)).trans (Apart.set 4 v4)).trans (Apart.set 5 v5)).trans (Apart.set 6 v6)).trans (Apart.set 7 v7)).trans (Apart.set 8 v8)).trans (Apart.set 9 v9)).trans (Apart.set 10 v10)),fun _ _ hn hb=>((((((((((hb.setCell (p:=⟨B,1,none⟩) hn v1).setCell (p:=⟨B,2,none⟩) hn v2).setCell (p:=⟨B,3,none⟩) hn v3).setCell (p:=⟨B,4,none⟩) hn v4).setCell (p:=⟨B,5,none⟩) hn v5).setCell (p:=⟨B,6,none⟩) hn v6).setCell (p:=⟨B,7,none⟩) hn v7).setCell (p:=⟨B,8,none⟩) hn v8).setCell (p:=⟨B,9,none⟩) hn v9).setCell (p:=⟨B,10,none⟩) hn v10)⟩
theorem jma {x:Ser} {p:SerP} {W:World} (hx:x.good) (hp:p.ss.At W.heap.size W x.sk) :
  Calls Tryz.prog 52 #[.agg #[.int .i64 x.sk.kind,.int .i64 x.sk.level,.slice p.ss.ea p.ss.el p.ss.ec,.int .i64 x.sk.hb,.string x.sk.hr,.int .i64 x.sk.cr,.int .i64 x.sk.cc,.slice p.ss.ca p.ss.cl p.ss.cc,.int .i64 x.sk.gf,.slice p.ss.ga p.ss.gl p.ss.gc],.int .i64 (jal x.sk.kind)] W (SkF p.ss ((ja5 x).sk,0) W):=by
 have h:=jjv (jal x.sk.kind) hp (jh2 hx.sk) hx.sk.ok (by omega);exact h
theorem jeq {w wr V w6 U:World} {m:List (Ser × SerP)} {oa:Option Addr} {oc:Nat} {x:Ser} {p:SerP} {y:Sk} {s:SS} (hG:GrowS w.heap.size (fun _=>True) wr (.slice oa m.length oc) m) (hm:m.length<=20) (hB:Below w.heap.size w wr) (hP:∀ W,Below w.heap.size w W->p.At W.heap.size W x) (hPo:p.Off (· < w.heap.size))
  (hSV:wr.heap.size<V.heap.size) (hBV:Below w.heap.size w V) (hB6:Below V.heap.size V w6) (hA6:s.At w6.heap.size w6 y) (hor:s=p.ss\/s.From V.heap.size) (hAU:Apart wr.heap.size w6 U) (hBU:Below wr.heap.size wr U) :
  ∃ g cap w7,(Builtin.append_ #[22,22] 22 #[.slice oa m.length oc,.slice (some ⟨U.heap.size,0,none⟩) 1 1]).run Tryz.prog (U.alloc (.cells (ja1 ⟨x.l,y,x.seen⟩ ⟨p.la,p.ll,p.lc,s⟩).toArray 70))=.ok (.slice (some ⟨g,0,none⟩) (m.length+1) cap) w7 /\
   GrowS w.heap.size (fun _=>True) w7 (.slice (some ⟨g,0,none⟩) (m.length+1) cap) (m++[(⟨x.l,y,x.seen⟩,⟨p.la,p.ll,p.lc,s⟩)])/\Below w.heap.size w w7:=by
 have hsz:=hB.size;have hB06:Below w.heap.size w w6:=hBV.trans (hB6.mono hBV.size);have hp6:(⟨p.la,p.ll,p.lc,s⟩:SerP).At w6.heap.size w6 ⟨x.l,y,x.seen⟩:=⟨(hP w6 hB06).l,hA6⟩
 have hoff:∀ (q:Nat->Prop),(∀ b,b<w.heap.size->q b)->(∀ b,V.heap.size<=b->q b)->(⟨p.la,p.ll,p.lc,s⟩:SerP).Off q:=fun q h1 h2=>by
  rcases hor with rfl | h
  ·exact hPo.imp h1
  ·exact⟨fun z hz hc=>h1 _ (hPo.l z hz hc),fun z hz _=>h2 _ (h.1 z hz),fun z hz _=>h2 _ (h.2.1 z hz),fun z hz _=>h2 _ (h.2.2 z hz)⟩
 have hpU:=hp6.apart (hoff (· ≠ wr.heap.size) (fun b hb=>by omega) (fun b hb=>by omega)) hAU;have hGU:=hG.go hBU;have hown:∀ b,Value.ownBlock (.slice oa m.length oc)=some b->w.heap.size<=b/\b<wr.heap.size:=fun b hb=>hG.own.lt b hb
 obtain⟨g,cap,w7,h1,h2,h3,-,-⟩:=hGU.push (hB.trans (hBU.mono hsz)) (Nat.le_refl _) (Nat.le_trans hsz hBU.size) (by omega) hpU (hoff _ (fun b hb=>⟨trivial,fun e=>by have:=(hown b e.symm).1;omega⟩) (fun b hb=>⟨trivial,fun e=>by have:=(hown b e.symm).2;omega⟩));exact⟨g,cap,w7,h1,h2,h3⟩
attribute [-go_sem] Builtin.append_
set_option maxRecDepth 100000 in
set_option maxHeartbeats 8000000 in
theorem jgD (l:List (Ser × SerP)) (a:Option Addr) (len cap:Nat) (w:World) (hT:Tab w.heap.size w a len cap l) (hF:jbu l) (hL:jdC (l.map (·.1))) (hQ:jag (l.map (·.1))=true->QT (l.map (·.1))) :
  Calls Tryz.prog 19 #[.slice a len cap] w fun e w'=>e=.returned (.int .i64 (jcM (l.map (·.1))))/\Below w.heap.size w w':=by
 have hR:=jcc l a len cap w hT hF hL;have hlen:=hT.row.1.1;subst hlen;have HT:=Lib.hid hT;clear hT hF hL;obtain⟨L,hL⟩:∃ L,l.map (·.1)=L:=⟨_,rfl⟩;rw[hL] at hR hQ ⊢
 cases hr:jag L with
 | false =>
  rw[hr] at hR;have H9:Hid (jcM L=0):=by unfold jcM;rw[Hid,hr];rfl
  generalize jcM L=c9 at H9 ⊢;clear hr hQ;go_enter Tryz.func19,Tryz.ntmps19;go_wp2_with (go_at_call 44;refine hR.mono ?_;rintro e w1 ⟨rfl,hb1⟩);go_ret;exact⟨by rw[H9.out];rfl,hb1⟩
 | true =>
  rw[hr] at hR;have H9:Hid (jcM L=jaw (L.map ja5)):=by unfold jcM;rw[Hid,hr];rfl
  have HQ:=Lib.hid (hQ hr);have HL:=Lib.hid hL;have h20:L.length<=20:=HQ.out.len;have hll:l.length=L.length:=by rw[<- hL,List.length_map]
  have hl20:l.length<=20:=by omega
  have HLl:=Lib.hid hll;generalize jcM L=c9 at H9 ⊢;clear hr hQ hL hll;go_enter Tryz.func19,Tryz.ntmps19;go_wp2_with (go_at_call 44;refine hR.mono ?_;rintro e w1 ⟨rfl,hb1⟩);have HB1:=Lib.hid hb1;clear hR hb1;go_loopw [3,4] (fun ov i wr=>∃ (k:Nat) (m:List (Ser × SerP)) (oa:Option Addr) (oc:Nat),i=.int .i64 k/\ov=.slice oa m.length oc/\k<=l.length/\m.length<=20/\Hid (m.length=k)/\Hid (GrowS w.heap.size (fun _=>True) wr (.slice oa m.length oc) m)/\Hid (m.map (·.1)=(L.take k).map ja5)/\Hid (Below w.heap.size w wr)) (fun _ i _=>l.length-(intOf i).toNat)
  case atStart=>exact⟨0,[],none,0,rfl,rfl,Nat.zero_le _,Nat.zero_le _,rfl,GrowS.nil _ _ _,rfl,HB1.out⟩
  case round =>
   obtain⟨k,m,oa,oc,rfl,rfl,hk,hm20,HMl,HGr,HM,HB⟩:=hrel;by_cases hlt:k<l.length
   ·obtain⟨⟨x,p⟩,hx⟩:∃ x,l[k]? = some x:=⟨_,List.getElem?_eq_getElem hlt⟩
    have HX:Hid (L[k]? = some x):=by rw[Hid,<- HL.out,List.getElem?_map,hx];rfl
    obtain⟨b,off,ea,hbb,hc⟩:=HT.out.row.1.2 k (x,p) hx;replace hc:∀ i,i<12->wr.cell? ⟨b,off+k*12+i,none⟩=(ja4 (x,p))[i]? := fun i hi=>(HB.out.cell (p:=⟨b,off+k*12+i,none⟩) hbb).trans (hc i hi)
    have c0:wr.cell? ⟨b,off+k*12,none⟩=some (.slice p.la p.ll p.lc):=hc 0 (by omega);have c1:wr.cell? ⟨b,off+k*12+1,none⟩=some (.int .i64 x.sk.kind):=hc 1 (by omega);have c2:wr.cell? ⟨b,off+k*12+2,none⟩=some (.int .i64 x.sk.level):=hc 2 (by omega);have c3:wr.cell? ⟨b,off+k*12+3,none⟩=some (.slice p.ss.ea p.ss.el p.ss.ec):=hc 3 (by omega);have c4:wr.cell? ⟨b,off+k*12+4,none⟩=some (.int .i64 x.sk.hb):=hc 4 (by omega);have c5:wr.cell? ⟨b,off+k*12+5,none⟩=some (.string x.sk.hr):=hc 5 (by omega);have c6:wr.cell? ⟨b,off+k*12+6,none⟩=some (.int .i64 x.sk.cr):=hc 6 (by omega);have c7:wr.cell? ⟨b,off+k*12+7,none⟩=some (.int .i64 x.sk.cc):=hc 7 (by omega);have c8:wr.cell? ⟨b,off+k*12+8,none⟩=some (.slice p.ss.ca p.ss.cl p.ss.cc):=hc 8 (by omega);have c9:wr.cell? ⟨b,off+k*12+9,none⟩=some (.int .i64 x.sk.gf):=hc 9 (by omega);have c10:wr.cell? ⟨b,off+k*12+10,none⟩=some (.slice p.ss.ga p.ss.gl p.ss.gc):=hc 10 (by omega);have c11:wr.cell? ⟨b,off+k*12+11,none⟩=some (.int .u64 x.seen):=hc 11 (by omega);have hP0:=HT.out.at_ _ (List.mem_of_getElem? hx);have HP:Hid (∀ W,Below w.heap.size w W->p.At W.heap.size W x):=fun W hbw=>(hP0.below hbw).mono hbw.size
    have HPo:Hid (p.Off (· < w.heap.size)):=hP0.off;subst ea;have i1:(k:Int)<(l.length:Int):=by omega
    have i0:(0:Int)<=(k:Int):=by omega
    have hsz:=HB.out.size;obtain⟨W1,hW1,hX1,hB1,hs1⟩:=jah wr #[.slice none 0 0,.int .i64 0,.int .i64 0,.slice none 0 0,.int .i64 0,.string ⟨#[]⟩,.int .i64 0,.int .i64 0,.slice none 0 0,.int .i64 0,.slice none 0 0,.int .u64 0] 70;obtain⟨z0,z1,z2,z3,z4,z5,z6,z7,z8,z9,z10,z11⟩:=jbU hX1;obtain⟨f0,f1,f2,f3,f4,f5,f6,f7,f8,f9,f10,f11⟩:=jhU hX1;obtain⟨V,hV,hXV,hAp,hBV,hs2,hs3⟩:=jsk hX1 (.slice p.la p.ll p.lc) (.int .i64 x.sk.kind) (.int .i64 x.sk.level) (.slice p.ss.ea p.ss.el p.ss.ec) (.int .i64 x.sk.hb) (.string x.sk.hr) (.int .i64 x.sk.cr) (.int .i64 x.sk.cc) (.slice p.ss.ca p.ss.cl p.ss.cc) (.int .i64 x.sk.gf) (.slice p.ss.ga p.ss.gl p.ss.gc) (.int .u64 x.seen);have hBwV:Below wr.heap.size wr V:=hBV _ _ (Nat.le_refl _) hB1;have HBwV:=Lib.hid hBwV;have HBV:Hid (Below w.heap.size w V):=HB.out.trans (hBwV.mono hsz);have HXV:=Lib.hid hXV;have HSV:Hid (wr.heap.size<V.heap.size):=by rw[Hid];omega
    obtain⟨r0,r1,r2,r3,r4,r5,r6,r7,r8,r9,r10,r11⟩:=jbU hXV;have HBT:Hid (∀ W,Calls Tryz.prog 49 #[.int .i64 x.sk.kind] W fun e w'=>e=.returned (.int .i64 (jal x.sk.kind))/\w'=W):=fun W=>(jat x.sk.kind W).mono fun e w' ⟨h1,h2⟩=>⟨h1,h2.symm⟩
    have hgd:=HQ.out.good x (List.mem_of_getElem? HX.out);have HTo:Hid (∀ W,Below w.heap.size w W->Calls Tryz.prog 52 #[.agg #[.int .i64 x.sk.kind,.int .i64 x.sk.level,.slice p.ss.ea p.ss.el p.ss.ec,.int .i64 x.sk.hb,.string x.sk.hr,.int .i64 x.sk.cr,.int .i64 x.sk.cc,.slice p.ss.ca p.ss.cl p.ss.cc,.int .i64 x.sk.gf,.slice p.ss.ga p.ss.gl p.ss.gc],.int .i64 (jal x.sk.kind)] W (SkF p.ss ((ja5 x).sk,0) W)):=fun W hbw=>jma hgd (HP.out W hbw).s
    have HY:Hid ((⟨x.l,(ja5 x).sk,x.seen⟩:Ser)=ja5 x):=rfl;generalize jal x.sk.kind=bt at HBT HTo;generalize (ja5 x).sk=y at HTo HY;clear hc hx hP0 hX1 hB1 hXV hAp hBV hBwV hgd hs2 hs3;go_wp2_with fail;clear z0 z1 z2 z3 z4 z5 z6 z7 z8 z9 z10 z11 f0 f1 f2 f3 f4 f5 f6 f7 f8 f9 f10 f11 c0 c1 c2 c3 c4 c5 c6 c7 c8 c9 c10 c11 hW1;refine wp_region_any (by kernel_rfl) ?_;change wpAny _ _ _ _ _ _ _ (World.drew _);refine tk 0 (v:=?_) rfl ?_ ?_;rotate_left
    ·intro w;go_simp;with_reducible rfl
    refine tk 2 (v:=?_) rfl ?_ ?_;rotate_left
    ·intro w;go_simp;with_reducible rfl
    refine tk 3 (v:=?_) rfl ?_ ?_;rotate_left
    ·intro w;go_simp;with_reducible rfl
    refine wpAny_ready (rs:=[1,4]) (by kernel_rfl) (by simp) ?_;refine AllReady.cons rfl (fun K hK=>?_) ?_
    ·go_simp
     refine hK _ _ ?_;clear hK K;refine wpAny_ready (rs:=[4]) (by kernel_rfl) (by simp) ?_;refine AllReady.cons rfl (fun K hK=>?_) ?_
     ·go_simp
      refine hK _ _ ?_;clear hK K;refine wpAny_ready (rs:=[5]) (by kernel_rfl) (by simp) ?_;refine AllReady.cons rfl (fun K hK=>?_) ?_
      ·go_simp
       refine (HBT.out _).mono ?_;rintro e w' ⟨rfl,h9⟩;subst w';refine hK _ _ ?_;clear hK K;refine wpAny_ready (rs:=[6]) (by kernel_rfl) (by simp) ?_;refine AllReady.cons rfl (fun K hK=>?_) ?_
       ·go_simp
        refine (HTo.out _ HBV.out.drew).mono ?_;rintro e w6 ⟨s,rfl,hA6,hor,hb6⟩;have hb6:Below V.heap.size V w6:=(Below.refl _ V).drew.trans hb6;have hX6:=jak hb6 (Nat.le_refl _) HXV.out;obtain⟨g0,g1,g2,g3,g4,g5,g6,g7,g8,g9,g10,g11⟩:=jhU hX6;obtain⟨q0,q1,q2,q3,q4,q5,q6,q7,q8,q9,q10,q11⟩:=jbU hX6;obtain⟨U,hU,hXU,hAU,hBU⟩:=jmB hX6 (.int .i64 y.kind) (.int .i64 y.level) (.slice s.ea s.el s.ec) (.int .i64 y.hb) (.string y.hr) (.int .i64 y.cr) (.int .i64 y.cc) (.slice s.ca s.cl s.cc) (.int .i64 y.gf) (.slice s.ga s.gl s.gc);have HXU:=Lib.hid hXU;have HAU:=Lib.hid hAU;have HA6:=Lib.hid hA6;have HOr:=Lib.hid hor;have HB6:=Lib.hid hb6;have HBU:Hid (Below wr.heap.size wr U):=hBU _ _ (Nat.le_refl _) (HBwV.out.trans (hb6.mono HBwV.out.size));clear hX6 hXU hAU hBU hA6 hor hb6;refine hK _ _ ?_;clear hK K;refine tk 7 (v:=?_) rfl ?_ ?_;rotate_left
        ·intro w;go_simp;with_reducible rfl
        refine tk 8 (v:=?_) rfl ?_ ?_;rotate_left
        ·intro w;go_simp;with_reducible rfl
        refine tk 9 (v:=?_) rfl ?_ ?_;rotate_left
        ·intro w;go_simp;with_reducible rfl
        refine tk 10 (v:=?_) rfl ?_ ?_;rotate_left
        ·intro w;go_simp;with_reducible rfl
        refine wpAny_ready (rs:=[11]) (by kernel_rfl) (by simp) ?_;refine AllReady.cons rfl (fun K hK=>?_) ?_
        ·go_simp
         refine hK _ _ ?_;clear hK K;refine wpAny_done (by kernel_rfl) ?_ _;obtain⟨g',cap',w7,hap,hG7,hB7⟩:=jeq HGr.out hm20 HB.out HP.out HPo.out HSV.out HBV.out HB6.out HA6.out HOr.out HAU.out HBU.out;unfold ja1 at hap;dsimp only at hap;have hXU:=HXU.out;obtain⟨n0,n1,n2,n3,n4,n5,n6,n7,n8,n9,n10,n11⟩:=jbU hXU;have HG7:=Lib.hid hG7;have HB7:=Lib.hid hB7;clear hXU hG7 hB7;go_wp2_with fail;exact⟨⟨k+1,m++[(⟨x.l,y,x.seen⟩,⟨p.la,p.ll,p.lc,s⟩)],some ⟨g',0,none⟩,cap',by go_num,by rw[List.length_append];rfl,by omega,by rw[List.length_append];have:=HMl.out;simp only[List.length_singleton];omega,by rw[Hid,List.length_append,HMl.out];rfl,by rw[Hid,List.length_append];exact HG7.out,by rw[Hid,List.map_append,HM.out,jan HX.out,List.map_append];show _++[(⟨x.l,y,x.seen⟩:Ser)]=_++[ja5 x];rw[HY.out],HB7.out⟩,by simp[intOf];omega⟩
        exact AllReady.nil
       exact AllReady.nil
      exact AllReady.nil
     exact AllReady.nil
    refine AllReady.cons rfl (fun K hK=>?_) ?_
    ·go_simp
     refine hK _ _ ?_;clear hK K;refine wpAny_ready (rs:=[1,5]) (by kernel_rfl) (by simp) ?_;refine AllReady.cons rfl (fun K hK=>?_) ?_
     ·go_simp
      refine hK _ _ ?_;clear hK K;refine wpAny_ready (rs:=[5]) (by kernel_rfl) (by simp) ?_;refine AllReady.cons rfl (fun K hK=>?_) ?_
      ·go_simp
       refine (HBT.out _).mono ?_;rintro e w' ⟨rfl,h9⟩;subst w';refine hK _ _ ?_;clear hK K;refine wpAny_ready (rs:=[6]) (by kernel_rfl) (by simp) ?_;refine AllReady.cons rfl (fun K hK=>?_) ?_
       ·go_simp
        refine (HTo.out _ HBV.out.drew).mono ?_;rintro e w6 ⟨s,rfl,hA6,hor,hb6⟩;have hb6:Below V.heap.size V w6:=(Below.refl _ V).drew.trans hb6;have hX6:=jak hb6 (Nat.le_refl _) HXV.out;obtain⟨g0,g1,g2,g3,g4,g5,g6,g7,g8,g9,g10,g11⟩:=jhU hX6;obtain⟨q0,q1,q2,q3,q4,q5,q6,q7,q8,q9,q10,q11⟩:=jbU hX6;obtain⟨U,hU,hXU,hAU,hBU⟩:=jmB hX6 (.int .i64 y.kind) (.int .i64 y.level) (.slice s.ea s.el s.ec) (.int .i64 y.hb) (.string y.hr) (.int .i64 y.cr) (.int .i64 y.cc) (.slice s.ca s.cl s.cc) (.int .i64 y.gf) (.slice s.ga s.gl s.gc);have HXU:=Lib.hid hXU;have HAU:=Lib.hid hAU;have HA6:=Lib.hid hA6;have HOr:=Lib.hid hor;have HB6:=Lib.hid hb6;have HBU:Hid (Below wr.heap.size wr U):=hBU _ _ (Nat.le_refl _) (HBwV.out.trans (hb6.mono HBwV.out.size));clear hX6 hXU hAU hBU hA6 hor hb6;refine hK _ _ ?_;clear hK K;refine tk 7 (v:=?_) rfl ?_ ?_;rotate_left
        ·intro w;go_simp;with_reducible rfl
        refine tk 8 (v:=?_) rfl ?_ ?_;rotate_left
        ·intro w;go_simp;with_reducible rfl
        refine tk 9 (v:=?_) rfl ?_ ?_;rotate_left
        ·intro w;go_simp;with_reducible rfl
        refine tk 10 (v:=?_) rfl ?_ ?_;rotate_left
        ·intro w;go_simp;with_reducible rfl
        refine wpAny_ready (rs:=[11]) (by kernel_rfl) (by simp) ?_;refine AllReady.cons rfl (fun K hK=>?_) ?_
        ·go_simp
         refine hK _ _ ?_;clear hK K;refine wpAny_done (by kernel_rfl) ?_ _;obtain⟨g',cap',w7,hap,hG7,hB7⟩:=jeq HGr.out hm20 HB.out HP.out HPo.out HSV.out HBV.out HB6.out HA6.out HOr.out HAU.out HBU.out;unfold ja1 at hap;dsimp only at hap;have hXU:=HXU.out;obtain⟨n0,n1,n2,n3,n4,n5,n6,n7,n8,n9,n10,n11⟩:=jbU hXU;have HG7:=Lib.hid hG7;have HB7:=Lib.hid hB7;clear hXU hG7 hB7;go_wp2_with fail;exact⟨⟨k+1,m++[(⟨x.l,y,x.seen⟩,⟨p.la,p.ll,p.lc,s⟩)],some ⟨g',0,none⟩,cap',by go_num,by rw[List.length_append];rfl,by omega,by rw[List.length_append];have:=HMl.out;simp only[List.length_singleton];omega,by rw[Hid,List.length_append,HMl.out];rfl,by rw[Hid,List.length_append];exact HG7.out,by rw[Hid,List.map_append,HM.out,jan HX.out,List.map_append];show _++[(⟨x.l,y,x.seen⟩:Ser)]=_++[ja5 x];rw[HY.out],HB7.out⟩,by simp[intOf];omega⟩
        exact AllReady.nil
       exact AllReady.nil
      exact AllReady.nil
     refine AllReady.cons rfl (fun K hK=>?_) ?_
     ·go_simp
      refine (HBT.out _).mono ?_;rintro e w' ⟨rfl,h9⟩;subst w';refine hK _ _ ?_;clear hK K;refine wpAny_ready (rs:=[1]) (by kernel_rfl) (by simp) ?_;refine AllReady.cons rfl (fun K hK=>?_) ?_
      ·go_simp
       refine hK _ _ ?_;clear hK K;refine wpAny_ready (rs:=[6]) (by kernel_rfl) (by simp) ?_;refine AllReady.cons rfl (fun K hK=>?_) ?_
       ·go_simp
        refine (HTo.out _ HBV.out.drew).mono ?_;rintro e w6 ⟨s,rfl,hA6,hor,hb6⟩;have hb6:Below V.heap.size V w6:=(Below.refl _ V).drew.trans hb6;have hX6:=jak hb6 (Nat.le_refl _) HXV.out;obtain⟨g0,g1,g2,g3,g4,g5,g6,g7,g8,g9,g10,g11⟩:=jhU hX6;obtain⟨q0,q1,q2,q3,q4,q5,q6,q7,q8,q9,q10,q11⟩:=jbU hX6;obtain⟨U,hU,hXU,hAU,hBU⟩:=jmB hX6 (.int .i64 y.kind) (.int .i64 y.level) (.slice s.ea s.el s.ec) (.int .i64 y.hb) (.string y.hr) (.int .i64 y.cr) (.int .i64 y.cc) (.slice s.ca s.cl s.cc) (.int .i64 y.gf) (.slice s.ga s.gl s.gc);have HXU:=Lib.hid hXU;have HAU:=Lib.hid hAU;have HA6:=Lib.hid hA6;have HOr:=Lib.hid hor;have HB6:=Lib.hid hb6;have HBU:Hid (Below wr.heap.size wr U):=hBU _ _ (Nat.le_refl _) (HBwV.out.trans (hb6.mono HBwV.out.size));clear hX6 hXU hAU hBU hA6 hor hb6;refine hK _ _ ?_;clear hK K;refine tk 7 (v:=?_) rfl ?_ ?_;rotate_left
        ·intro w;go_simp;with_reducible rfl
        refine tk 8 (v:=?_) rfl ?_ ?_;rotate_left
        ·intro w;go_simp;with_reducible rfl
        refine tk 9 (v:=?_) rfl ?_ ?_;rotate_left
        ·intro w;go_simp;with_reducible rfl
        refine tk 10 (v:=?_) rfl ?_ ?_;rotate_left
        ·intro w;go_simp;with_reducible rfl
        refine wpAny_ready (rs:=[11]) (by kernel_rfl) (by simp) ?_;refine AllReady.cons rfl (fun K hK=>?_) ?_
        ·go_simp
         refine hK _ _ ?_;clear hK K;refine wpAny_done (by kernel_rfl) ?_ _;obtain⟨g',cap',w7,hap,hG7,hB7⟩:=jeq HGr.out hm20 HB.out HP.out HPo.out HSV.out HBV.out HB6.out HA6.out HOr.out HAU.out HBU.out;unfold ja1 at hap;dsimp only at hap;have hXU:=HXU.out;obtain⟨n0,n1,n2,n3,n4,n5,n6,n7,n8,n9,n10,n11⟩:=jbU hXU;have HG7:=Lib.hid hG7;have HB7:=Lib.hid hB7;clear hXU hG7 hB7;go_wp2_with fail;exact⟨⟨k+1,m++[(⟨x.l,y,x.seen⟩,⟨p.la,p.ll,p.lc,s⟩)],some ⟨g',0,none⟩,cap',by go_num,by rw[List.length_append];rfl,by omega,by rw[List.length_append];have:=HMl.out;simp only[List.length_singleton];omega,by rw[Hid,List.length_append,HMl.out];rfl,by rw[Hid,List.length_append];exact HG7.out,by rw[Hid,List.map_append,HM.out,jan HX.out,List.map_append];show _++[(⟨x.l,y,x.seen⟩:Ser)]=_++[ja5 x];rw[HY.out],HB7.out⟩,by simp[intOf];omega⟩
        exact AllReady.nil
       exact AllReady.nil
      exact AllReady.nil
     exact AllReady.nil
    exact AllReady.nil
   ·have i1:¬ (k:Int)<(l.length:Int):=by omega
    obtain⟨oa',oc',ev,hTb,-,-⟩:=HGr.out.tab;have hmb:m.map (·.1)=L.map ja5:=by rw[HM.out,List.take_of_length_le (by have:=HLl.out;omega)]
    have hqt:=jqf HQ.out;rw[<- hmb] at hqt;have hCo:=jbO m oa' m.length oc' wr hTb (jbw hTb hqt.fine) (jqg hqt);have htc:jaz (m.map (·.1))=jaw (L.map ja5):=by rw[jaz,hqt.right,if_pos rfl,hmb]
    rw[htc,<- H9.out] at hCo
    cases ev
    clear hTb hmb hqt htc;go_wp2_with fail;refine hCo.mono ?_;rintro e w5 ⟨rfl,hb5⟩;go_wp2_with fail;go_ret;exact⟨rfl,HB.out.trans (hb5.mono HB.out.size)⟩
end Go.Proofs.YtieknocphiceoaaGreatDoor
