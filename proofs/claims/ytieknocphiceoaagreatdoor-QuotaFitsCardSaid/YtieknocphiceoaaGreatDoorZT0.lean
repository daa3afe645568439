/- aviarylaw04.Few over slices by their elements. aviarylaw12: One: printed by wip/tools/gen_f8.py. Tables of series in memory. -/
import Derived.Test.YtieknocphiceoaaGreatDoorZL7
namespace Go.Proofs.YtieknocphiceoaaGreatDoor
open Go Go.RowKit Go.Shelf
theorem jmb:Tryz.prog.underlying 68=some (.slice 67):=by kernel_rfl
theorem jlI:(Tryz.prog.info? 67).map (fun i=>(i.zero,i.size,i.bytes))=some (some (.agg #[.string ⟨#[]⟩,.string ⟨#[]⟩]),2,32):=by kernel_rfl
def jhv (x:Lab):jiD:=⟨⟨jmh 20 x.name,jmh 120 x.value⟩,jmK 20 (by decide) _,jmK 120 (by decide) _⟩
def jdt (l:List Lab):List jiD:=(l.take 10).map jhv
theorem jlB {l:List Lab} {k:Nat} {x:Lab} (hx:l[k]? = some x):((l.take (k+1)).map jhv).flatMap (fun y=>y.1.enc)=((l.take k).map jhv).flatMap (fun y=>y.1.enc)++[.string (jmh 20 x.name),.string (jmh 120 x.value)]:=by
 rw[jan hx];simp[jhv,Lab.enc]
set_option maxRecDepth 100000 in
set_option maxHeartbeats 2000000 in
theorem jbC (l:List Lab) (a:Option Addr) (len cap:Nat) (w:World) (hL:SlE Lab.enc 2 w.heap.size w a len l) :
  Calls Tryz.prog 81 #[.slice a len cap] w fun e w'=>∃ a' cap',e=.returned (.slice a' (jdt l).length cap')/\SlC Lab.enc 2 w'.heap.size w' a' (jdt l).length cap' ((jdt l).map (·.1))/\(∀ x,a'=some x->w.heap.size<=x.block)/\Below w.heap.size w w':=by
 have hlen:=hL.1;subst hlen;have hown0:w.ownsRow w.heap.size 67 2 (.slice none 0 0) 0 []:=World.ownsRow_nil _ _ _ _;go_enter Tryz.func81,Tryz.ntmps81;go_wp2_with fail;go_loopw [3,4] (fun v i wr=>∃ (k:Nat),i=.int .i64 k/\k<=l.length/\k<=10/\Below w.heap.size w wr/\wr.ownsRow w.heap.size 67 2 v k (((l.take k).map jhv).flatMap (fun y=>y.1.enc))) (fun _ i _=>l.length-(intOf i).toNat)
 case atStart=>exact⟨0,rfl,Nat.zero_le _,by omega,Below.refl _ _,hown0⟩
 case round =>
  obtain⟨k,rfl,hk,hk10,hB,hown⟩:=hrel;have hsz:=hB.size;by_cases hlt:k<l.length/\k<10
  ·obtain⟨hlt,hlt10⟩:=hlt
   obtain⟨x,hx⟩:∃ x,l[k]? = some x:=⟨_,List.getElem?_eq_getElem hlt⟩;obtain⟨b,off,rfl,hbb,hc⟩:=(hL.below hB).2 k x hx;have c0:wr.cell? ⟨b,off+k*2,none⟩=some (.string x.name):=hc 0 (by omega);have c1:wr.cell? ⟨b,off+k*2+1,none⟩=some (.string x.value):=hc 1 (by omega);have HS:=Lib.hid (jlB hx);obtain⟨g5,cap5,w5,hap5,hown5,hB5,hz5,hbl5,-⟩:=jax Tryz.prog 68 jmb jlI rfl (by decide) (W:=wr.drew) hown hB.drew (Nat.le_refl _) hsz [.string (x.name.extract 0 (min (x.name.size:Int) 20).toNat),.string (x.value.extract 0 (min (x.value.size:Int) 120).toNat)] rfl (by simp[Value.oneCell']) (by omega) (by decide);obtain⟨va,vc,rfl⟩:=jcj hown;have HO:=Lib.hid hown5;have e4:(k:Int)<10:=by omega
   have k0:w5.cell? ⟨b,off+k*2,none⟩=some (.string x.name):=(hB5.cell (p:=⟨b,off+k*2,none⟩) hbb).trans ((hB.cell (p:=⟨b,off+k*2,none⟩) hbb).symm.trans c0);have k1:w5.cell? ⟨b,off+k*2+1,none⟩=some (.string x.value):=(hB5.cell (p:=⟨b,off+k*2+1,none⟩) hbb).trans ((hB.cell (p:=⟨b,off+k*2+1,none⟩) hbb).symm.trans c1);have e5:b<wr.heap.size:=by omega
   have m1:0<=min (x.name.size:Int) 20:=by omega
   have m2:min (x.name.size:Int) 20<=x.name.size:=by omega
   have m3:0<=min (x.value.size:Int) 120:=by omega
   have m4:min (x.value.size:Int) 120<=x.value.size:=by omega
   clear hc hx hL hown hown5 hbl5 hown0;go_wp2_with fail
   go_region_held3 (fun w'=>w'.cell? ⟨b,off+k*2,none⟩=some (.string x.name)/\w'.cell? ⟨b,off+k*2+1,none⟩=some (.string x.value))
    (first
     | go_keep
     | exact⟨k0,k1⟩)
    ((refine jel (v:=.slice va k vc) (xv:=.slice (some ⟨wr.heap.size,0,none⟩) 1 1) (v':=.slice (some ⟨g5,0,none⟩) (k+1) cap5) (w':=w5) rfl (.tmp 15) (.tmp 43) 68 rfl rfl rfl hap5 ?_))
   all_goals go_wp2_with fail
   all_goals exact⟨⟨k+1,by go_num,by omega,by omega,hB5,by rw[HS.out];exact HO.out⟩,by simp[intOf];omega⟩
  ·have HK:Hid (k=min l.length 10):=by rw[Hid];omega
   have hT:Hid (((l.take k).map jhv)=jdt l):=by
    rw[HK.out,jdt,Hid];rw[Nat.min_comm];exact congrArg _ List.take_eq_take_min.symm
   have HL:Hid ((jdt l).length=k):=by rw[Hid,<- hT.out,List.length_map,List.length_take];omega
   obtain⟨va,vc,rfl⟩:=jcj hown
   have hsl:Hid (SlC Lab.enc 2 wr.heap.size wr va (jdt l).length vc ((jdt l).map (·.1))/\∀ x,va=some x->w.heap.size<=x.block):=by
    have hlm:k=((jdt l).map (·.1)).length:=by rw[List.length_map,HL.out]
    have hown':wr.ownsRow w.heap.size 67 2 (.slice va k vc) ((jdt l).map (·.1)).length (((jdt l).map (·.1)).flatMap Lab.enc):=by
     rw[<- hlm,List.flatMap_map];rw[hT.out] at hown;exact hown
    obtain⟨a9,c9,e9,h9,g9⟩:=jaE (enc:=Lab.enc) jfb hown';injection e9 with e1 e2 e3
    subst e1;subst e3;rw[Hid,HL.out];rw[<- hlm] at h9;exact⟨h9,g9⟩
   clear hL hown HK;have FI:Hid (∃ a' cap',Ending.returned (.slice va k vc)=.returned (.slice a' (jdt l).length cap')/\SlC Lab.enc 2 wr.heap.size wr a' (jdt l).length cap' ((jdt l).map (·.1))/\(∀ x,a'=some x->w.heap.size<=x.block)/\Below w.heap.size w wr):=⟨va,vc,by rw[HL.out],hsl.out.1,hsl.out.2,hB⟩;go_wp2_with fail
   all_goals go_ret
   all_goals exact FI.out
end Go.Proofs.YtieknocphiceoaaGreatDoor
namespace Go.Proofs.YtieknocphiceoaaGreatDoor
open Go Go.RowKit
structure Ser where
 l:List Lab
 sk:Sk
 seen:Int
structure SerP where
 la:Option Addr
 ll:Nat
 lc:Nat
 ss:SS
structure SerP.At (p:SerP) (n₀:Nat) (w:World) (x:Ser):Prop where
 l:SlC Lab.enc 2 n₀ w p.la p.ll p.lc x.l
 s:p.ss.At n₀ w x.sk
def ja1 (x:Ser) (p:SerP):List Value:=[.slice p.la p.ll p.lc,.int .i64 x.sk.kind,.int .i64 x.sk.level,.slice p.ss.ea p.ss.el p.ss.ec,.int .i64 x.sk.hb,.string x.sk.hr,.int .i64 x.sk.cr,.int .i64 x.sk.cc,.slice p.ss.ca p.ss.cl p.ss.cc,.int .i64 x.sk.gf,.slice p.ss.ga p.ss.gl p.ss.gc,.int .u64 x.seen]
def Ser.cut (x:Ser):Ser:=⟨(jdt x.l).map (·.1),x.sk.cut,x.seen⟩
theorem jaV:Tryz.prog.underlying 70=some (.struct (Tryz.prog.fieldsOf 70)):=by kernel_rfl
theorem jaI:(Tryz.prog.info? 70).map (·.size)=some 12:=by kernel_rfl
def sets12 (W:World) (B:Nat) (v0 v1 v2 v3 v4 v5 v6 v7 v8 v9 v10 v11:Value):World:=((((((((((((W.setCell ⟨B,0,none⟩ v0).setCell ⟨B,1,none⟩ v1).setCell ⟨B,2,none⟩ v2).setCell ⟨B,3,none⟩ v3).setCell ⟨B,4,none⟩ v4).setCell ⟨B,5,none⟩ v5).setCell ⟨B,6,none⟩ v6).setCell ⟨B,7,none⟩ v7).setCell ⟨B,8,none⟩ v8).setCell ⟨B,9,none⟩ v9).setCell ⟨B,10,none⟩ v10).setCell ⟨B,11,none⟩ v11)
theorem jec {W:World} {B:Nat} {x0 x1 x2 x3 x4 x5 x6 x7 x8 x9 x10 x11 v0 v1 v2 v3 v4 v5 v6 v7 v8 v9 v10 v11:Value} {t:TypeId} (h:W.heap[B]? = some (.cells #[x0,x1,x2,x3,x4,x5,x6,x7,x8,x9,x10,x11] t (0,0))) :
  (sets12 W B v0 v1 v2 v3 v4 v5 v6 v7 v8 v9 v10 v11).heap[B]? = some (.cells #[v0,v1,v2,v3,v4,v5,v6,v7,v8,v9,v10,v11] t (0,0)):=by
 unfold sets12;replace h:(W.setCell ⟨B,0,none⟩ v0).heap[B]? = some (.cells #[v0,x1,x2,x3,x4,x5,x6,x7,x8,x9,x10,x11] t (0,0)):=hSk h v0;generalize W.setCell ⟨B,0,none⟩ v0=W at h ⊢;replace h:(W.setCell ⟨B,1,none⟩ v1).heap[B]? = some (.cells #[v0,v1,x2,x3,x4,x5,x6,x7,x8,x9,x10,x11] t (0,0)):=hSk h v1;generalize W.setCell ⟨B,1,none⟩ v1=W at h ⊢;replace h:(W.setCell ⟨B,2,none⟩ v2).heap[B]? = some (.cells #[v0,v1,v2,x3,x4,x5,x6,x7,x8,x9,x10,x11] t (0,0)):=hSk h v2;generalize W.setCell ⟨B,2,none⟩ v2=W at h ⊢;replace h:(W.setCell ⟨B,3,none⟩ v3).heap[B]? = some (.cells #[v0,v1,v2,v3,x4,x5,x6,x7,x8,x9,x10,x11] t (0,0)):=hSk h v3;generalize W.setCell ⟨B,3,none⟩ v3=W at h ⊢;replace h:(W.setCell ⟨B,4,none⟩ v4).heap[B]? = some (.cells #[v0,v1,v2,v3,v4,x5,x6,x7,x8,x9,x10,x11] t (0,0)):=hSk h v4;generalize W.setCell ⟨B,4,none⟩ v4=W at h ⊢;replace h:(W.setCell ⟨B,5,none⟩ v5).heap[B]? = some (.cells #[v0,v1,v2,v3,v4,v5,x6,x7,x8,x9,x10,x11] t (0,0)):=hSk h v5;generalize W.setCell ⟨B,5,none⟩ v5=W at h ⊢;replace h:(W.setCell ⟨B,6,none⟩ v6).heap[B]? = some (.cells #[v0,v1,v2,v3,v4,v5,v6,x7,x8,x9,x10,x11] t (0,0)):=hSk h v6;generalize W.setCell ⟨B,6,none⟩ v6=W at h ⊢;replace h:(W.setCell ⟨B,7,none⟩ v7).heap[B]? = some (.cells #[v0,v1,v2,v3,v4,v5,v6,v7,x8,x9,x10,x11] t (0,0)):=hSk h v7;generalize W.setCell ⟨B,7,none⟩ v7=W at h ⊢;replace h:(W.setCell ⟨B,8,none⟩ v8).heap[B]? = some (.cells #[v0,v1,v2,v3,v4,v5,v6,v7,v8,x9,x10,x11] t (0,0)):=hSk h v8;generalize W.setCell ⟨B,8,none⟩ v8=W at h ⊢
 replace h:(W.setCell ⟨B,9,none⟩ v9).heap[B]? = some (.cells #[v0,v1,v2,v3,v4,v5,v6,v7,v8,v9,x10,x11] t (0,0)):=hSk h v9;generalize W.setCell ⟨B,9,none⟩ v9=W at h ⊢;replace h:(W.setCell ⟨B,10,none⟩ v10).heap[B]? = some (.cells #[v0,v1,v2,v3,v4,v5,v6,v7,v8,v9,v10,x11] t (0,0)):=hSk h v10;generalize W.setCell ⟨B,10,none⟩ v10=W at h ⊢;replace h:(W.setCell ⟨B,11,none⟩ v11).heap[B]? = some (.cells #[v0,v1,v2,v3,v4,v5,v6,v7,v8,v9,v10,v11] t (0,0)):=hSk h v11;exact h
theorem jfo {n B:Nat} {w W:World} (h:Below n w W) (hn:n<=B) (v0 v1 v2 v3 v4 v5 v6 v7 v8 v9 v10 v11:Value):Below n w (sets12 W B v0 v1 v2 v3 v4 v5 v6 v7 v8 v9 v10 v11) :=
 (((((((((((h.setCell (p:=⟨B,0,none⟩) hn _).setCell (p:=⟨B,1,none⟩) hn _).setCell (p:=⟨B,2,none⟩) hn _).setCell (p:=⟨B,3,none⟩) hn _).setCell (p:=⟨B,4,none⟩) hn _).setCell (p:=⟨B,5,none⟩) hn _).setCell (p:=⟨B,6,none⟩) hn _).setCell (p:=⟨B,7,none⟩) hn _).setCell (p:=⟨B,8,none⟩) hn _).setCell (p:=⟨B,9,none⟩) hn _).setCell (p:=⟨B,10,none⟩) hn _).setCell (p:=⟨B,11,none⟩) hn _
theorem jew (W:World) (B:Nat) (v0 v1 v2 v3 v4 v5 v6 v7 v8 v9 v10 v11:Value):(sets12 W B v0 v1 v2 v3 v4 v5 v6 v7 v8 v9 v10 v11).heap.size=W.heap.size:=by unfold sets12;simp only[World.size_setCell]
theorem SlC.sets12 {α:Type} {enc:α->List Value} {k n₀ B:Nat} {W:World} {a:Option Addr} {len cap:Nat} {l:List α} (hs:SlC enc k n₀ W a len cap l) (hp:∀ x,a=some x->B≠x.block) (v0 v1 v2 v3 v4 v5 v6 v7 v8 v9 v10 v11:Value):SlC enc k n₀ (sets12 W B v0 v1 v2 v3 v4 v5 v6 v7 v8 v9 v10 v11) a len cap l :=
 (((((((((((hs.set_far (p:=⟨B,0,none⟩) hp _).set_far (p:=⟨B,1,none⟩) hp _).set_far (p:=⟨B,2,none⟩) hp _).set_far (p:=⟨B,3,none⟩) hp _).set_far (p:=⟨B,4,none⟩) hp _).set_far (p:=⟨B,5,none⟩) hp _).set_far (p:=⟨B,6,none⟩) hp _).set_far (p:=⟨B,7,none⟩) hp _).set_far (p:=⟨B,8,none⟩) hp _).set_far (p:=⟨B,9,none⟩) hp _).set_far (p:=⟨B,10,none⟩) hp _).set_far (p:=⟨B,11,none⟩) hp _
theorem jbb {l:List Lab} {k:Sk} {seen:Int} {s:SS} {w W0 w2 w3:World} {a':Option Addr} {cap':Nat} {v0 v1 v2 v3 v4 v5 v6 v7 v8 v9 v10 v11:Value} (hs:s.At w.heap.size w k) (hsz:w.heap.size+1<W0.heap.size)
  (hsl:SlC Lab.enc 2 w2.heap.size w2 a' (jdt l).length cap' ((jdt l).map (·.1))) (hlo:∀ x,a'=some x->W0.heap.size<=x.block) (hB2:Below w.heap.size w w2) (hb3:Below w2.heap.size w2 w3) :
  SerP.At ⟨a',(jdt l).length,cap',s.cut⟩ (sets12 w3 (w.heap.size+1) v0 v1 v2 v3 v4 v5 v6 v7 v8 v9 v10 v11).heap.size (sets12 w3 (w.heap.size+1) v0 v1 v2 v3 v4 v5 v6 v7 v8 v9 v10 v11) (Ser.cut ⟨l,k,seen⟩)/\(∀ z,a'=some z->w.heap.size<=z.block)/\Below w.heap.size w (sets12 w3 (w.heap.size+1) v0 v1 v2 v3 v4 v5 v6 v7 v8 v9 v10 v11):=by
 have hB3:Below w.heap.size w (sets12 w3 (w.heap.size+1) v0 v1 v2 v3 v4 v5 v6 v7 v8 v9 v10 v11):=jfo (hB2.trans (hb3.mono hB2.size)) (Nat.le_succ _) ..;refine⟨⟨?_,(hs.go hB3).cut⟩,fun z hz=>by have:=hlo z hz;omega,hB3⟩;rw[jew];exact (hsl.go hb3).sets12 (fun x hx=>by have:=hlo x hx;omega) ..
set_option maxRecDepth 100000 in
set_option maxHeartbeats 4000000 in
theorem jnz (x:Ser) (p:SerP) (w:World) (h:p.At w.heap.size w x) :
  Calls Tryz.prog 38 #[.agg (ja1 x p).toArray] w fun e w'=>∃ p':SerP,e=.returned (.agg (ja1 x.cut p').toArray)/\p'.ss=p.ss.cut/\p'.At w'.heap.size w' x.cut/\(∀ z,p'.la=some z->w.heap.size<=z.block)/\Below w.heap.size w w':=by
 obtain⟨l,k,seen⟩:=x;obtain⟨la,ll,lc,s⟩:=p;obtain⟨hl,hs⟩:=h;dsimp only at hl hs;unfold ja1;dsimp only;obtain⟨W0,hW0,hX0,hX1,hB0,hs0⟩:=jaS w #[.slice la ll lc,.int .i64 k.kind,.int .i64 k.level,.slice s.ea s.el s.ec,.int .i64 k.hb,.string k.hr,.int .i64 k.cr,.int .i64 k.cc,.slice s.ca s.cl s.cc,.int .i64 k.gf,.slice s.ga s.gl s.gc,.int .u64 seen] 70 #[.slice none 0 0,.int .i64 0,.int .i64 0,.slice none 0 0,.int .i64 0,.string ⟨#[]⟩,.int .i64 0,.int .i64 0,.slice none 0 0,.int .i64 0,.slice none 0 0,.int .u64 0] 70;obtain⟨c0,c1,c2,c3,c4,c5,c6,c7,c8,c9,c10,c11⟩:=jbU hX0;have hE:SlE Lab.enc 2 W0.drew.heap.size W0.drew la ll l:=(hl.1.go hB0).drew;have hS0:s.At W0.heap.size W0 k:=hs.go hB0;have hz0:w.heap.size+1<W0.drew.heap.size:=by show _<W0.heap.size;omega
 have hY0:W0.drew.heap[w.heap.size]? = _:=hX0;have hY1:W0.drew.heap[w.heap.size+1]? = _:=hX1;have hBd:Below w.heap.size w W0.drew:=hB0.drew;have HS:=Lib.hid hs;clear hX0 hX1 hs0 hl hs;go_enter Tryz.func38,Tryz.ntmps38;go_wp2_with fail;refine wp_region_any (by kernel_rfl) ?_;change wpAny _ _ _ _ _ _ _ (World.drew _);refine tk 0 (v:=?_) rfl ?_ ?_;rotate_left
 ·intro w;go_simp;with_reducible rfl
 refine tk 3 (v:=?_) rfl ?_ ?_;rotate_left
 ·intro w;go_simp;with_reducible rfl
 refine tk 6 (v:=?_) rfl ?_ ?_;rotate_left
 ·intro w;go_simp;with_reducible rfl
 refine wpAny_ready (rs:=[1,4,7]) (by kernel_rfl) (by simp) ?_;refine AllReady.cons rfl (fun K hK=>?_) ?_
 ·go_simp
  refine hK _ _ ?_;clear hK K;refine wpAny_ready (rs:=[2,4,7]) (by kernel_rfl) (by simp) ?_;refine AllReady.cons rfl (fun K hK=>?_) ?_
  ·go_simp
   refine (jbC l la ll lc _ hE).mono ?_;rintro e w2 ⟨a',cap',rfl,hsl,hlo,hb2⟩;have hU0:=(hb2.block w.heap.size (by omega)).trans hY0;have hU1:=(hb2.block (w.heap.size+1) (by omega)).trans hY1;obtain⟨r0,r1,r2,r3,r4,r5,r6,r7,r8,r9,r10,r11⟩:=jbU hU0;have hS2:s.At w2.heap.size w2 k:=(hS0.go ((Below.refl _ W0).drew)).go hb2;have hz2:=hb2.size;have hBw2:Below w.heap.size w w2:=hBd.trans (hb2.mono (by omega));refine hK _ _ ?_;clear hK K;refine wpAny_ready (rs:=[4,7]) (by kernel_rfl) (by simp) ?_;refine AllReady.cons rfl (fun K hK=>?_) ?_
   ·go_simp
    refine hK _ _ ?_;clear hK K;refine wpAny_ready (rs:=[5,7]) (by kernel_rfl) (by simp) ?_;refine AllReady.cons rfl (fun K hK=>?_) ?_
    ·go_simp
     refine (jba k s w2 hS2).mono ?_;rintro e w3 ⟨rfl,hb3⟩;unfold jdI;have hV0:=(hb3.block w.heap.size (by omega)).trans hU0;have hV1:=(hb3.block (w.heap.size+1) (by omega)).trans hU1;obtain⟨t0,t1,t2,t3,t4,t5,t6,t7,t8,t9,t10,t11⟩:=jbU hV0;obtain⟨d0,d1,d2,d3,d4,d5,d6,d7,d8,d9,d10,d11⟩:=jbU hV1;obtain⟨f0,f1,f2,f3,f4,f5,f6,f7,f8,f9,f10,f11⟩:=jhU hV1;refine hK _ _ ?_;clear hK K;refine wpAny_ready (rs:=[7]) (by kernel_rfl) (by simp) ?_;refine AllReady.cons rfl (fun K hK=>?_) ?_
     ·go_simp
      refine hK _ _ ?_;clear hK K;refine tk 8 (v:=?_) rfl ?_ ?_;rotate_left
      ·intro w;go_simp;with_reducible rfl
      refine wpAny_ready (rs:=[9]) (by kernel_rfl) (by simp) ?_;refine AllReady.cons rfl (fun K hK=>?_) ?_
      ·go_simp
       refine hK _ _ ?_;clear hK K;refine wpAny_done (by kernel_rfl) ?_ _;clear hY0 hY1 hU0 hU1 hV0 hb2 c0 c1 c2 c3 c4 c5 c6 c7 c8 c9 c10 c11 hE hS0 hS2 hBd;go_wp2_with fail;refine bodyPost_ret (results_cell_row rfl _ _ (w.heap.size+1) 70 _ (0,0) _ rfl (jec hV1) jaV rfl jaI) rfl ?_;exact⟨⟨a',_,cap',s.cut⟩,rfl,rfl,jbb HS.out hz0 hsl hlo hBw2 hb3⟩
      exact AllReady.nil
     exact AllReady.nil
    refine AllReady.cons rfl (fun K hK=>?_) ?_
    ·go_simp
     refine hK _ _ ?_;clear hK K;refine wpAny_ready (rs:=[5]) (by kernel_rfl) (by simp) ?_;refine AllReady.cons rfl (fun K hK=>?_) ?_
     ·go_simp
      refine (jba k s w2 hS2).mono ?_;rintro e w3 ⟨rfl,hb3⟩;unfold jdI;have hV0:=(hb3.block w.heap.size (by omega)).trans hU0;have hV1:=(hb3.block (w.heap.size+1) (by omega)).trans hU1;obtain⟨t0,t1,t2,t3,t4,t5,t6,t7,t8,t9,t10,t11⟩:=jbU hV0;obtain⟨d0,d1,d2,d3,d4,d5,d6,d7,d8,d9,d10,d11⟩:=jbU hV1;obtain⟨f0,f1,f2,f3,f4,f5,f6,f7,f8,f9,f10,f11⟩:=jhU hV1;refine hK _ _ ?_;clear hK K;refine tk 8 (v:=?_) rfl ?_ ?_;rotate_left
      ·intro w;go_simp;with_reducible rfl
      refine wpAny_ready (rs:=[9]) (by kernel_rfl) (by simp) ?_;refine AllReady.cons rfl (fun K hK=>?_) ?_
      ·go_simp
       refine hK _ _ ?_;clear hK K;refine wpAny_done (by kernel_rfl) ?_ _;clear hY0 hY1 hU0 hU1 hV0 hb2 c0 c1 c2 c3 c4 c5 c6 c7 c8 c9 c10 c11 hE hS0 hS2 hBd;go_wp2_with fail;refine bodyPost_ret (results_cell_row rfl _ _ (w.heap.size+1) 70 _ (0,0) _ rfl (jec hV1) jaV rfl jaI) rfl ?_;exact⟨⟨a',_,cap',s.cut⟩,rfl,rfl,jbb HS.out hz0 hsl hlo hBw2 hb3⟩
      exact AllReady.nil
     exact AllReady.nil
    exact AllReady.nil
   refine AllReady.cons rfl (fun K hK=>?_) ?_
   ·go_simp
    refine hK _ _ ?_;clear hK K;refine wpAny_ready (rs:=[4]) (by kernel_rfl) (by simp) ?_;refine AllReady.cons rfl (fun K hK=>?_) ?_
    ·go_simp
     refine hK _ _ ?_;clear hK K;refine wpAny_ready (rs:=[5]) (by kernel_rfl) (by simp) ?_;refine AllReady.cons rfl (fun K hK=>?_) ?_
     ·go_simp
      refine (jba k s w2 hS2).mono ?_;rintro e w3 ⟨rfl,hb3⟩;unfold jdI;have hV0:=(hb3.block w.heap.size (by omega)).trans hU0;have hV1:=(hb3.block (w.heap.size+1) (by omega)).trans hU1;obtain⟨t0,t1,t2,t3,t4,t5,t6,t7,t8,t9,t10,t11⟩:=jbU hV0;obtain⟨d0,d1,d2,d3,d4,d5,d6,d7,d8,d9,d10,d11⟩:=jbU hV1;obtain⟨f0,f1,f2,f3,f4,f5,f6,f7,f8,f9,f10,f11⟩:=jhU hV1;refine hK _ _ ?_;clear hK K;refine tk 8 (v:=?_) rfl ?_ ?_;rotate_left
      ·intro w;go_simp;with_reducible rfl
      refine wpAny_ready (rs:=[9]) (by kernel_rfl) (by simp) ?_;refine AllReady.cons rfl (fun K hK=>?_) ?_
      ·go_simp
       refine hK _ _ ?_;clear hK K;refine wpAny_done (by kernel_rfl) ?_ _;clear hY0 hY1 hU0 hU1 hV0 hb2 c0 c1 c2 c3 c4 c5 c6 c7 c8 c9 c10 c11 hE hS0 hS2 hBd;go_wp2_with fail;refine bodyPost_ret (results_cell_row rfl _ _ (w.heap.size+1) 70 _ (0,0) _ rfl (jec hV1) jaV rfl jaI) rfl ?_;exact⟨⟨a',_,cap',s.cut⟩,rfl,rfl,jbb HS.out hz0 hsl hlo hBw2 hb3⟩
      exact AllReady.nil
     exact AllReady.nil
    exact AllReady.nil
   exact AllReady.nil
  refine AllReady.cons rfl (fun K hK=>?_) ?_
  ·go_simp
   refine hK _ _ ?_;clear hK K;refine wpAny_ready (rs:=[2,7]) (by kernel_rfl) (by simp) ?_;refine AllReady.cons rfl (fun K hK=>?_) ?_
   ·go_simp
    refine (jbC l la ll lc _ hE).mono ?_;rintro e w2 ⟨a',cap',rfl,hsl,hlo,hb2⟩;have hU0:=(hb2.block w.heap.size (by omega)).trans hY0;have hU1:=(hb2.block (w.heap.size+1) (by omega)).trans hY1;obtain⟨r0,r1,r2,r3,r4,r5,r6,r7,r8,r9,r10,r11⟩:=jbU hU0;have hS2:s.At w2.heap.size w2 k:=(hS0.go ((Below.refl _ W0).drew)).go hb2;have hz2:=hb2.size;have hBw2:Below w.heap.size w w2:=hBd.trans (hb2.mono (by omega));refine hK _ _ ?_;clear hK K;refine wpAny_ready (rs:=[5,7]) (by kernel_rfl) (by simp) ?_;refine AllReady.cons rfl (fun K hK=>?_) ?_
    ·go_simp
     refine (jba k s w2 hS2).mono ?_;rintro e w3 ⟨rfl,hb3⟩;unfold jdI;have hV0:=(hb3.block w.heap.size (by omega)).trans hU0;have hV1:=(hb3.block (w.heap.size+1) (by omega)).trans hU1;obtain⟨t0,t1,t2,t3,t4,t5,t6,t7,t8,t9,t10,t11⟩:=jbU hV0;obtain⟨d0,d1,d2,d3,d4,d5,d6,d7,d8,d9,d10,d11⟩:=jbU hV1;obtain⟨f0,f1,f2,f3,f4,f5,f6,f7,f8,f9,f10,f11⟩:=jhU hV1;refine hK _ _ ?_;clear hK K;refine wpAny_ready (rs:=[7]) (by kernel_rfl) (by simp) ?_;refine AllReady.cons rfl (fun K hK=>?_) ?_
     ·go_simp
      refine hK _ _ ?_;clear hK K;refine tk 8 (v:=?_) rfl ?_ ?_;rotate_left
      ·intro w;go_simp;with_reducible rfl
      refine wpAny_ready (rs:=[9]) (by kernel_rfl) (by simp) ?_;refine AllReady.cons rfl (fun K hK=>?_) ?_
      ·go_simp
       refine hK _ _ ?_;clear hK K;refine wpAny_done (by kernel_rfl) ?_ _;clear hY0 hY1 hU0 hU1 hV0 hb2 c0 c1 c2 c3 c4 c5 c6 c7 c8 c9 c10 c11 hE hS0 hS2 hBd;go_wp2_with fail;refine bodyPost_ret (results_cell_row rfl _ _ (w.heap.size+1) 70 _ (0,0) _ rfl (jec hV1) jaV rfl jaI) rfl ?_;exact⟨⟨a',_,cap',s.cut⟩,rfl,rfl,jbb HS.out hz0 hsl hlo hBw2 hb3⟩
      exact AllReady.nil
     exact AllReady.nil
    refine AllReady.cons rfl (fun K hK=>?_) ?_
    ·go_simp
     refine hK _ _ ?_;clear hK K;refine wpAny_ready (rs:=[5]) (by kernel_rfl) (by simp) ?_;refine AllReady.cons rfl (fun K hK=>?_) ?_
     ·go_simp
      refine (jba k s w2 hS2).mono ?_;rintro e w3 ⟨rfl,hb3⟩;unfold jdI;have hV0:=(hb3.block w.heap.size (by omega)).trans hU0;have hV1:=(hb3.block (w.heap.size+1) (by omega)).trans hU1;obtain⟨t0,t1,t2,t3,t4,t5,t6,t7,t8,t9,t10,t11⟩:=jbU hV0;obtain⟨d0,d1,d2,d3,d4,d5,d6,d7,d8,d9,d10,d11⟩:=jbU hV1;obtain⟨f0,f1,f2,f3,f4,f5,f6,f7,f8,f9,f10,f11⟩:=jhU hV1;refine hK _ _ ?_;clear hK K;refine tk 8 (v:=?_) rfl ?_ ?_;rotate_left
      ·intro w;go_simp;with_reducible rfl
      refine wpAny_ready (rs:=[9]) (by kernel_rfl) (by simp) ?_;refine AllReady.cons rfl (fun K hK=>?_) ?_
      ·go_simp
       refine hK _ _ ?_;clear hK K;refine wpAny_done (by kernel_rfl) ?_ _;clear hY0 hY1 hU0 hU1 hV0 hb2 c0 c1 c2 c3 c4 c5 c6 c7 c8 c9 c10 c11 hE hS0 hS2 hBd;go_wp2_with fail;refine bodyPost_ret (results_cell_row rfl _ _ (w.heap.size+1) 70 _ (0,0) _ rfl (jec hV1) jaV rfl jaI) rfl ?_;exact⟨⟨a',_,cap',s.cut⟩,rfl,rfl,jbb HS.out hz0 hsl hlo hBw2 hb3⟩
      exact AllReady.nil
     exact AllReady.nil
    exact AllReady.nil
   refine AllReady.cons rfl (fun K hK=>?_) ?_
   ·go_simp
    refine hK _ _ ?_;clear hK K;refine wpAny_ready (rs:=[2]) (by kernel_rfl) (by simp) ?_;refine AllReady.cons rfl (fun K hK=>?_) ?_
    ·go_simp
     refine (jbC l la ll lc _ hE).mono ?_;rintro e w2 ⟨a',cap',rfl,hsl,hlo,hb2⟩;have hU0:=(hb2.block w.heap.size (by omega)).trans hY0;have hU1:=(hb2.block (w.heap.size+1) (by omega)).trans hY1;obtain⟨r0,r1,r2,r3,r4,r5,r6,r7,r8,r9,r10,r11⟩:=jbU hU0;have hS2:s.At w2.heap.size w2 k:=(hS0.go ((Below.refl _ W0).drew)).go hb2;have hz2:=hb2.size;have hBw2:Below w.heap.size w w2:=hBd.trans (hb2.mono (by omega));refine hK _ _ ?_;clear hK K;refine wpAny_ready (rs:=[5]) (by kernel_rfl) (by simp) ?_;refine AllReady.cons rfl (fun K hK=>?_) ?_
     ·go_simp
      refine (jba k s w2 hS2).mono ?_;rintro e w3 ⟨rfl,hb3⟩;unfold jdI;have hV0:=(hb3.block w.heap.size (by omega)).trans hU0;have hV1:=(hb3.block (w.heap.size+1) (by omega)).trans hU1;obtain⟨t0,t1,t2,t3,t4,t5,t6,t7,t8,t9,t10,t11⟩:=jbU hV0;obtain⟨d0,d1,d2,d3,d4,d5,d6,d7,d8,d9,d10,d11⟩:=jbU hV1;obtain⟨f0,f1,f2,f3,f4,f5,f6,f7,f8,f9,f10,f11⟩:=jhU hV1;refine hK _ _ ?_;clear hK K;refine tk 8 (v:=?_) rfl ?_ ?_;rotate_left
      ·intro w;go_simp;with_reducible rfl
      refine wpAny_ready (rs:=[9]) (by kernel_rfl) (by simp) ?_;refine AllReady.cons rfl (fun K hK=>?_) ?_
      ·go_simp
       refine hK _ _ ?_;clear hK K;refine wpAny_done (by kernel_rfl) ?_ _;clear hY0 hY1 hU0 hU1 hV0 hb2 c0 c1 c2 c3 c4 c5 c6 c7 c8 c9 c10 c11 hE hS0 hS2 hBd;go_wp2_with fail;refine bodyPost_ret (results_cell_row rfl _ _ (w.heap.size+1) 70 _ (0,0) _ rfl (jec hV1) jaV rfl jaI) rfl ?_;exact⟨⟨a',_,cap',s.cut⟩,rfl,rfl,jbb HS.out hz0 hsl hlo hBw2 hb3⟩
      exact AllReady.nil
     exact AllReady.nil
    exact AllReady.nil
   exact AllReady.nil
  refine AllReady.cons rfl (fun K hK=>?_) ?_
  ·go_simp
   refine hK _ _ ?_;clear hK K;refine wpAny_ready (rs:=[2,4]) (by kernel_rfl) (by simp) ?_;refine AllReady.cons rfl (fun K hK=>?_) ?_
   ·go_simp
    refine (jbC l la ll lc _ hE).mono ?_;rintro e w2 ⟨a',cap',rfl,hsl,hlo,hb2⟩;have hU0:=(hb2.block w.heap.size (by omega)).trans hY0;have hU1:=(hb2.block (w.heap.size+1) (by omega)).trans hY1;obtain⟨r0,r1,r2,r3,r4,r5,r6,r7,r8,r9,r10,r11⟩:=jbU hU0;have hS2:s.At w2.heap.size w2 k:=(hS0.go ((Below.refl _ W0).drew)).go hb2;have hz2:=hb2.size;have hBw2:Below w.heap.size w w2:=hBd.trans (hb2.mono (by omega));refine hK _ _ ?_;clear hK K;refine wpAny_ready (rs:=[4]) (by kernel_rfl) (by simp) ?_;refine AllReady.cons rfl (fun K hK=>?_) ?_
    ·go_simp
     refine hK _ _ ?_;clear hK K;refine wpAny_ready (rs:=[5]) (by kernel_rfl) (by simp) ?_;refine AllReady.cons rfl (fun K hK=>?_) ?_
     ·go_simp
      refine (jba k s w2 hS2).mono ?_;rintro e w3 ⟨rfl,hb3⟩;unfold jdI;have hV0:=(hb3.block w.heap.size (by omega)).trans hU0;have hV1:=(hb3.block (w.heap.size+1) (by omega)).trans hU1;obtain⟨t0,t1,t2,t3,t4,t5,t6,t7,t8,t9,t10,t11⟩:=jbU hV0;obtain⟨d0,d1,d2,d3,d4,d5,d6,d7,d8,d9,d10,d11⟩:=jbU hV1;obtain⟨f0,f1,f2,f3,f4,f5,f6,f7,f8,f9,f10,f11⟩:=jhU hV1;refine hK _ _ ?_;clear hK K;refine tk 8 (v:=?_) rfl ?_ ?_;rotate_left
      ·intro w;go_simp;with_reducible rfl
      refine wpAny_ready (rs:=[9]) (by kernel_rfl) (by simp) ?_;refine AllReady.cons rfl (fun K hK=>?_) ?_
      ·go_simp
       refine hK _ _ ?_;clear hK K;refine wpAny_done (by kernel_rfl) ?_ _;clear hY0 hY1 hU0 hU1 hV0 hb2 c0 c1 c2 c3 c4 c5 c6 c7 c8 c9 c10 c11 hE hS0 hS2 hBd;go_wp2_with fail;refine bodyPost_ret (results_cell_row rfl _ _ (w.heap.size+1) 70 _ (0,0) _ rfl (jec hV1) jaV rfl jaI) rfl ?_;exact⟨⟨a',_,cap',s.cut⟩,rfl,rfl,jbb HS.out hz0 hsl hlo hBw2 hb3⟩
      exact AllReady.nil
     exact AllReady.nil
    exact AllReady.nil
   refine AllReady.cons rfl (fun K hK=>?_) ?_
   ·go_simp
    refine hK _ _ ?_;clear hK K;refine wpAny_ready (rs:=[2]) (by kernel_rfl) (by simp) ?_;refine AllReady.cons rfl (fun K hK=>?_) ?_
    ·go_simp
     refine (jbC l la ll lc _ hE).mono ?_;rintro e w2 ⟨a',cap',rfl,hsl,hlo,hb2⟩;have hU0:=(hb2.block w.heap.size (by omega)).trans hY0;have hU1:=(hb2.block (w.heap.size+1) (by omega)).trans hY1;obtain⟨r0,r1,r2,r3,r4,r5,r6,r7,r8,r9,r10,r11⟩:=jbU hU0;have hS2:s.At w2.heap.size w2 k:=(hS0.go ((Below.refl _ W0).drew)).go hb2;have hz2:=hb2.size;have hBw2:Below w.heap.size w w2:=hBd.trans (hb2.mono (by omega));refine hK _ _ ?_;clear hK K;refine wpAny_ready (rs:=[5]) (by kernel_rfl) (by simp) ?_;refine AllReady.cons rfl (fun K hK=>?_) ?_
     ·go_simp
      refine (jba k s w2 hS2).mono ?_;rintro e w3 ⟨rfl,hb3⟩;unfold jdI;have hV0:=(hb3.block w.heap.size (by omega)).trans hU0;have hV1:=(hb3.block (w.heap.size+1) (by omega)).trans hU1;obtain⟨t0,t1,t2,t3,t4,t5,t6,t7,t8,t9,t10,t11⟩:=jbU hV0;obtain⟨d0,d1,d2,d3,d4,d5,d6,d7,d8,d9,d10,d11⟩:=jbU hV1;obtain⟨f0,f1,f2,f3,f4,f5,f6,f7,f8,f9,f10,f11⟩:=jhU hV1;refine hK _ _ ?_;clear hK K;refine tk 8 (v:=?_) rfl ?_ ?_;rotate_left
      ·intro w;go_simp;with_reducible rfl
      refine wpAny_ready (rs:=[9]) (by kernel_rfl) (by simp) ?_;refine AllReady.cons rfl (fun K hK=>?_) ?_
      ·go_simp
       refine hK _ _ ?_;clear hK K;refine wpAny_done (by kernel_rfl) ?_ _;clear hY0 hY1 hU0 hU1 hV0 hb2 c0 c1 c2 c3 c4 c5 c6 c7 c8 c9 c10 c11 hE hS0 hS2 hBd;go_wp2_with fail;refine bodyPost_ret (results_cell_row rfl _ _ (w.heap.size+1) 70 _ (0,0) _ rfl (jec hV1) jaV rfl jaI) rfl ?_;exact⟨⟨a',_,cap',s.cut⟩,rfl,rfl,jbb HS.out hz0 hsl hlo hBw2 hb3⟩
      exact AllReady.nil
     exact AllReady.nil
    exact AllReady.nil
   exact AllReady.nil
  exact AllReady.nil
 refine AllReady.cons rfl (fun K hK=>?_) ?_
 ·go_simp
  refine hK _ _ ?_;clear hK K;refine wpAny_ready (rs:=[1,7]) (by kernel_rfl) (by simp) ?_;refine AllReady.cons rfl (fun K hK=>?_) ?_
  ·go_simp
   refine hK _ _ ?_;clear hK K;refine wpAny_ready (rs:=[2,7]) (by kernel_rfl) (by simp) ?_;refine AllReady.cons rfl (fun K hK=>?_) ?_
   ·go_simp
    refine (jbC l la ll lc _ hE).mono ?_;rintro e w2 ⟨a',cap',rfl,hsl,hlo,hb2⟩;have hU0:=(hb2.block w.heap.size (by omega)).trans hY0;have hU1:=(hb2.block (w.heap.size+1) (by omega)).trans hY1;obtain⟨r0,r1,r2,r3,r4,r5,r6,r7,r8,r9,r10,r11⟩:=jbU hU0;have hS2:s.At w2.heap.size w2 k:=(hS0.go ((Below.refl _ W0).drew)).go hb2;have hz2:=hb2.size;have hBw2:Below w.heap.size w w2:=hBd.trans (hb2.mono (by omega));refine hK _ _ ?_;clear hK K;refine wpAny_ready (rs:=[5,7]) (by kernel_rfl) (by simp) ?_;refine AllReady.cons rfl (fun K hK=>?_) ?_
    ·go_simp
     refine (jba k s w2 hS2).mono ?_;rintro e w3 ⟨rfl,hb3⟩;unfold jdI;have hV0:=(hb3.block w.heap.size (by omega)).trans hU0;have hV1:=(hb3.block (w.heap.size+1) (by omega)).trans hU1;obtain⟨t0,t1,t2,t3,t4,t5,t6,t7,t8,t9,t10,t11⟩:=jbU hV0;obtain⟨d0,d1,d2,d3,d4,d5,d6,d7,d8,d9,d10,d11⟩:=jbU hV1;obtain⟨f0,f1,f2,f3,f4,f5,f6,f7,f8,f9,f10,f11⟩:=jhU hV1;refine hK _ _ ?_;clear hK K;refine wpAny_ready (rs:=[7]) (by kernel_rfl) (by simp) ?_;refine AllReady.cons rfl (fun K hK=>?_) ?_
     ·go_simp
      refine hK _ _ ?_;clear hK K;refine tk 8 (v:=?_) rfl ?_ ?_;rotate_left
      ·intro w;go_simp;with_reducible rfl
      refine wpAny_ready (rs:=[9]) (by kernel_rfl) (by simp) ?_;refine AllReady.cons rfl (fun K hK=>?_) ?_
      ·go_simp
       refine hK _ _ ?_;clear hK K;refine wpAny_done (by kernel_rfl) ?_ _;clear hY0 hY1 hU0 hU1 hV0 hb2 c0 c1 c2 c3 c4 c5 c6 c7 c8 c9 c10 c11 hE hS0 hS2 hBd;go_wp2_with fail;refine bodyPost_ret (results_cell_row rfl _ _ (w.heap.size+1) 70 _ (0,0) _ rfl (jec hV1) jaV rfl jaI) rfl ?_;exact⟨⟨a',_,cap',s.cut⟩,rfl,rfl,jbb HS.out hz0 hsl hlo hBw2 hb3⟩
      exact AllReady.nil
     exact AllReady.nil
    refine AllReady.cons rfl (fun K hK=>?_) ?_
    ·go_simp
     refine hK _ _ ?_;clear hK K;refine wpAny_ready (rs:=[5]) (by kernel_rfl) (by simp) ?_;refine AllReady.cons rfl (fun K hK=>?_) ?_
     ·go_simp
      refine (jba k s w2 hS2).mono ?_;rintro e w3 ⟨rfl,hb3⟩;unfold jdI;have hV0:=(hb3.block w.heap.size (by omega)).trans hU0;have hV1:=(hb3.block (w.heap.size+1) (by omega)).trans hU1;obtain⟨t0,t1,t2,t3,t4,t5,t6,t7,t8,t9,t10,t11⟩:=jbU hV0;obtain⟨d0,d1,d2,d3,d4,d5,d6,d7,d8,d9,d10,d11⟩:=jbU hV1;obtain⟨f0,f1,f2,f3,f4,f5,f6,f7,f8,f9,f10,f11⟩:=jhU hV1;refine hK _ _ ?_;clear hK K;refine tk 8 (v:=?_) rfl ?_ ?_;rotate_left
      ·intro w;go_simp;with_reducible rfl
      refine wpAny_ready (rs:=[9]) (by kernel_rfl) (by simp) ?_;refine AllReady.cons rfl (fun K hK=>?_) ?_
      ·go_simp
       refine hK _ _ ?_;clear hK K;refine wpAny_done (by kernel_rfl) ?_ _;clear hY0 hY1 hU0 hU1 hV0 hb2 c0 c1 c2 c3 c4 c5 c6 c7 c8 c9 c10 c11 hE hS0 hS2 hBd;go_wp2_with fail;refine bodyPost_ret (results_cell_row rfl _ _ (w.heap.size+1) 70 _ (0,0) _ rfl (jec hV1) jaV rfl jaI) rfl ?_;exact⟨⟨a',_,cap',s.cut⟩,rfl,rfl,jbb HS.out hz0 hsl hlo hBw2 hb3⟩
      exact AllReady.nil
     exact AllReady.nil
    exact AllReady.nil
   refine AllReady.cons rfl (fun K hK=>?_) ?_
   ·go_simp
    refine hK _ _ ?_;clear hK K;refine wpAny_ready (rs:=[2]) (by kernel_rfl) (by simp) ?_;refine AllReady.cons rfl (fun K hK=>?_) ?_
    ·go_simp
     refine (jbC l la ll lc _ hE).mono ?_;rintro e w2 ⟨a',cap',rfl,hsl,hlo,hb2⟩;have hU0:=(hb2.block w.heap.size (by omega)).trans hY0;have hU1:=(hb2.block (w.heap.size+1) (by omega)).trans hY1;obtain⟨r0,r1,r2,r3,r4,r5,r6,r7,r8,r9,r10,r11⟩:=jbU hU0;have hS2:s.At w2.heap.size w2 k:=(hS0.go ((Below.refl _ W0).drew)).go hb2;have hz2:=hb2.size;have hBw2:Below w.heap.size w w2:=hBd.trans (hb2.mono (by omega));refine hK _ _ ?_;clear hK K;refine wpAny_ready (rs:=[5]) (by kernel_rfl) (by simp) ?_;refine AllReady.cons rfl (fun K hK=>?_) ?_
     ·go_simp
      refine (jba k s w2 hS2).mono ?_;rintro e w3 ⟨rfl,hb3⟩;unfold jdI;have hV0:=(hb3.block w.heap.size (by omega)).trans hU0;have hV1:=(hb3.block (w.heap.size+1) (by omega)).trans hU1;obtain⟨t0,t1,t2,t3,t4,t5,t6,t7,t8,t9,t10,t11⟩:=jbU hV0;obtain⟨d0,d1,d2,d3,d4,d5,d6,d7,d8,d9,d10,d11⟩:=jbU hV1;obtain⟨f0,f1,f2,f3,f4,f5,f6,f7,f8,f9,f10,f11⟩:=jhU hV1;refine hK _ _ ?_;clear hK K;refine tk 8 (v:=?_) rfl ?_ ?_;rotate_left
      ·intro w;go_simp;with_reducible rfl
      refine wpAny_ready (rs:=[9]) (by kernel_rfl) (by simp) ?_;refine AllReady.cons rfl (fun K hK=>?_) ?_
      ·go_simp
       refine hK _ _ ?_;clear hK K;refine wpAny_done (by kernel_rfl) ?_ _;clear hY0 hY1 hU0 hU1 hV0 hb2 c0 c1 c2 c3 c4 c5 c6 c7 c8 c9 c10 c11 hE hS0 hS2 hBd;go_wp2_with fail;refine bodyPost_ret (results_cell_row rfl _ _ (w.heap.size+1) 70 _ (0,0) _ rfl (jec hV1) jaV rfl jaI) rfl ?_;exact⟨⟨a',_,cap',s.cut⟩,rfl,rfl,jbb HS.out hz0 hsl hlo hBw2 hb3⟩
      exact AllReady.nil
     exact AllReady.nil
    exact AllReady.nil
   exact AllReady.nil
  refine AllReady.cons rfl (fun K hK=>?_) ?_
  ·go_simp
   refine hK _ _ ?_;clear hK K;refine wpAny_ready (rs:=[1]) (by kernel_rfl) (by simp) ?_;refine AllReady.cons rfl (fun K hK=>?_) ?_
   ·go_simp
    refine hK _ _ ?_;clear hK K;refine wpAny_ready (rs:=[2]) (by kernel_rfl) (by simp) ?_;refine AllReady.cons rfl (fun K hK=>?_) ?_
    ·go_simp
     refine (jbC l la ll lc _ hE).mono ?_;rintro e w2 ⟨a',cap',rfl,hsl,hlo,hb2⟩;have hU0:=(hb2.block w.heap.size (by omega)).trans hY0;have hU1:=(hb2.block (w.heap.size+1) (by omega)).trans hY1;obtain⟨r0,r1,r2,r3,r4,r5,r6,r7,r8,r9,r10,r11⟩:=jbU hU0;have hS2:s.At w2.heap.size w2 k:=(hS0.go ((Below.refl _ W0).drew)).go hb2;have hz2:=hb2.size;have hBw2:Below w.heap.size w w2:=hBd.trans (hb2.mono (by omega));refine hK _ _ ?_;clear hK K;refine wpAny_ready (rs:=[5]) (by kernel_rfl) (by simp) ?_;refine AllReady.cons rfl (fun K hK=>?_) ?_
     ·go_simp
      refine (jba k s w2 hS2).mono ?_;rintro e w3 ⟨rfl,hb3⟩;unfold jdI;have hV0:=(hb3.block w.heap.size (by omega)).trans hU0;have hV1:=(hb3.block (w.heap.size+1) (by omega)).trans hU1;obtain⟨t0,t1,t2,t3,t4,t5,t6,t7,t8,t9,t10,t11⟩:=jbU hV0;obtain⟨d0,d1,d2,d3,d4,d5,d6,d7,d8,d9,d10,d11⟩:=jbU hV1;obtain⟨f0,f1,f2,f3,f4,f5,f6,f7,f8,f9,f10,f11⟩:=jhU hV1;refine hK _ _ ?_;clear hK K;refine tk 8 (v:=?_) rfl ?_ ?_;rotate_left
      ·intro w;go_simp;with_reducible rfl
      refine wpAny_ready (rs:=[9]) (by kernel_rfl) (by simp) ?_;refine AllReady.cons rfl (fun K hK=>?_) ?_
      ·go_simp
       refine hK _ _ ?_;clear hK K;refine wpAny_done (by kernel_rfl) ?_ _;clear hY0 hY1 hU0 hU1 hV0 hb2 c0 c1 c2 c3 c4 c5 c6 c7 c8 c9 c10 c11 hE hS0 hS2 hBd;go_wp2_with fail;refine bodyPost_ret (results_cell_row rfl _ _ (w.heap.size+1) 70 _ (0,0) _ rfl (jec hV1) jaV rfl jaI) rfl ?_;exact⟨⟨a',_,cap',s.cut⟩,rfl,rfl,jbb HS.out hz0 hsl hlo hBw2 hb3⟩
      exact AllReady.nil
     exact AllReady.nil
    exact AllReady.nil
   exact AllReady.nil
  exact AllReady.nil
 refine AllReady.cons rfl (fun K hK=>?_) ?_
 ·go_simp
  refine hK _ _ ?_;clear hK K;refine wpAny_ready (rs:=[1,4]) (by kernel_rfl) (by simp) ?_;refine AllReady.cons rfl (fun K hK=>?_) ?_
  ·go_simp
   refine hK _ _ ?_;clear hK K;refine wpAny_ready (rs:=[2,4]) (by kernel_rfl) (by simp) ?_;refine AllReady.cons rfl (fun K hK=>?_) ?_
   ·go_simp
    refine (jbC l la ll lc _ hE).mono ?_;rintro e w2 ⟨a',cap',rfl,hsl,hlo,hb2⟩;have hU0:=(hb2.block w.heap.size (by omega)).trans hY0;have hU1:=(hb2.block (w.heap.size+1) (by omega)).trans hY1;obtain⟨r0,r1,r2,r3,r4,r5,r6,r7,r8,r9,r10,r11⟩:=jbU hU0;have hS2:s.At w2.heap.size w2 k:=(hS0.go ((Below.refl _ W0).drew)).go hb2;have hz2:=hb2.size;have hBw2:Below w.heap.size w w2:=hBd.trans (hb2.mono (by omega));refine hK _ _ ?_;clear hK K;refine wpAny_ready (rs:=[4]) (by kernel_rfl) (by simp) ?_;refine AllReady.cons rfl (fun K hK=>?_) ?_
    ·go_simp
     refine hK _ _ ?_;clear hK K;refine wpAny_ready (rs:=[5]) (by kernel_rfl) (by simp) ?_;refine AllReady.cons rfl (fun K hK=>?_) ?_
     ·go_simp
      refine (jba k s w2 hS2).mono ?_;rintro e w3 ⟨rfl,hb3⟩;unfold jdI;have hV0:=(hb3.block w.heap.size (by omega)).trans hU0;have hV1:=(hb3.block (w.heap.size+1) (by omega)).trans hU1;obtain⟨t0,t1,t2,t3,t4,t5,t6,t7,t8,t9,t10,t11⟩:=jbU hV0;obtain⟨d0,d1,d2,d3,d4,d5,d6,d7,d8,d9,d10,d11⟩:=jbU hV1;obtain⟨f0,f1,f2,f3,f4,f5,f6,f7,f8,f9,f10,f11⟩:=jhU hV1;refine hK _ _ ?_;clear hK K;refine tk 8 (v:=?_) rfl ?_ ?_;rotate_left
      ·intro w;go_simp;with_reducible rfl
      refine wpAny_ready (rs:=[9]) (by kernel_rfl) (by simp) ?_;refine AllReady.cons rfl (fun K hK=>?_) ?_
      ·go_simp
       refine hK _ _ ?_;clear hK K;refine wpAny_done (by kernel_rfl) ?_ _;clear hY0 hY1 hU0 hU1 hV0 hb2 c0 c1 c2 c3 c4 c5 c6 c7 c8 c9 c10 c11 hE hS0 hS2 hBd;go_wp2_with fail;refine bodyPost_ret (results_cell_row rfl _ _ (w.heap.size+1) 70 _ (0,0) _ rfl (jec hV1) jaV rfl jaI) rfl ?_;exact⟨⟨a',_,cap',s.cut⟩,rfl,rfl,jbb HS.out hz0 hsl hlo hBw2 hb3⟩
      exact AllReady.nil
     exact AllReady.nil
    exact AllReady.nil
   refine AllReady.cons rfl (fun K hK=>?_) ?_
   ·go_simp
    refine hK _ _ ?_;clear hK K;refine wpAny_ready (rs:=[2]) (by kernel_rfl) (by simp) ?_;refine AllReady.cons rfl (fun K hK=>?_) ?_
    ·go_simp
     refine (jbC l la ll lc _ hE).mono ?_;rintro e w2 ⟨a',cap',rfl,hsl,hlo,hb2⟩;have hU0:=(hb2.block w.heap.size (by omega)).trans hY0;have hU1:=(hb2.block (w.heap.size+1) (by omega)).trans hY1;obtain⟨r0,r1,r2,r3,r4,r5,r6,r7,r8,r9,r10,r11⟩:=jbU hU0;have hS2:s.At w2.heap.size w2 k:=(hS0.go ((Below.refl _ W0).drew)).go hb2;have hz2:=hb2.size;have hBw2:Below w.heap.size w w2:=hBd.trans (hb2.mono (by omega));refine hK _ _ ?_;clear hK K;refine wpAny_ready (rs:=[5]) (by kernel_rfl) (by simp) ?_;refine AllReady.cons rfl (fun K hK=>?_) ?_
     ·go_simp
      refine (jba k s w2 hS2).mono ?_;rintro e w3 ⟨rfl,hb3⟩;unfold jdI;have hV0:=(hb3.block w.heap.size (by omega)).trans hU0;have hV1:=(hb3.block (w.heap.size+1) (by omega)).trans hU1;obtain⟨t0,t1,t2,t3,t4,t5,t6,t7,t8,t9,t10,t11⟩:=jbU hV0;obtain⟨d0,d1,d2,d3,d4,d5,d6,d7,d8,d9,d10,d11⟩:=jbU hV1;obtain⟨f0,f1,f2,f3,f4,f5,f6,f7,f8,f9,f10,f11⟩:=jhU hV1;refine hK _ _ ?_;clear hK K;refine tk 8 (v:=?_) rfl ?_ ?_;rotate_left
      ·intro w;go_simp;with_reducible rfl
      refine wpAny_ready (rs:=[9]) (by kernel_rfl) (by simp) ?_;refine AllReady.cons rfl (fun K hK=>?_) ?_
      ·go_simp
       refine hK _ _ ?_;clear hK K;refine wpAny_done (by kernel_rfl) ?_ _;clear hY0 hY1 hU0 hU1 hV0 hb2 c0 c1 c2 c3 c4 c5 c6 c7 c8 c9 c10 c11 hE hS0 hS2 hBd;go_wp2_with fail;refine bodyPost_ret (results_cell_row rfl _ _ (w.heap.size+1) 70 _ (0,0) _ rfl (jec hV1) jaV rfl jaI) rfl ?_;exact⟨⟨a',_,cap',s.cut⟩,rfl,rfl,jbb HS.out hz0 hsl hlo hBw2 hb3⟩
      exact AllReady.nil
     exact AllReady.nil
    exact AllReady.nil
   exact AllReady.nil
  refine AllReady.cons rfl (fun K hK=>?_) ?_
  ·go_simp
   refine hK _ _ ?_;clear hK K;refine wpAny_ready (rs:=[1]) (by kernel_rfl) (by simp) ?_;refine AllReady.cons rfl (fun K hK=>?_) ?_
   ·go_simp
    refine hK _ _ ?_;clear hK K;refine wpAny_ready (rs:=[2]) (by kernel_rfl) (by simp) ?_;refine AllReady.cons rfl (fun K hK=>?_) ?_
    ·go_simp
     refine (jbC l la ll lc _ hE).mono ?_;rintro e w2 ⟨a',cap',rfl,hsl,hlo,hb2⟩;have hU0:=(hb2.block w.heap.size (by omega)).trans hY0;have hU1:=(hb2.block (w.heap.size+1) (by omega)).trans hY1;obtain⟨r0,r1,r2,r3,r4,r5,r6,r7,r8,r9,r10,r11⟩:=jbU hU0;have hS2:s.At w2.heap.size w2 k:=(hS0.go ((Below.refl _ W0).drew)).go hb2;have hz2:=hb2.size;have hBw2:Below w.heap.size w w2:=hBd.trans (hb2.mono (by omega));refine hK _ _ ?_;clear hK K;refine wpAny_ready (rs:=[5]) (by kernel_rfl) (by simp) ?_;refine AllReady.cons rfl (fun K hK=>?_) ?_
     ·go_simp
      refine (jba k s w2 hS2).mono ?_;rintro e w3 ⟨rfl,hb3⟩;unfold jdI;have hV0:=(hb3.block w.heap.size (by omega)).trans hU0;have hV1:=(hb3.block (w.heap.size+1) (by omega)).trans hU1;obtain⟨t0,t1,t2,t3,t4,t5,t6,t7,t8,t9,t10,t11⟩:=jbU hV0;obtain⟨d0,d1,d2,d3,d4,d5,d6,d7,d8,d9,d10,d11⟩:=jbU hV1;obtain⟨f0,f1,f2,f3,f4,f5,f6,f7,f8,f9,f10,f11⟩:=jhU hV1;refine hK _ _ ?_;clear hK K;refine tk 8 (v:=?_) rfl ?_ ?_;rotate_left
      ·intro w;go_simp;with_reducible rfl
      refine wpAny_ready (rs:=[9]) (by kernel_rfl) (by simp) ?_;refine AllReady.cons rfl (fun K hK=>?_) ?_
      ·go_simp
       refine hK _ _ ?_;clear hK K;refine wpAny_done (by kernel_rfl) ?_ _;clear hY0 hY1 hU0 hU1 hV0 hb2 c0 c1 c2 c3 c4 c5 c6 c7 c8 c9 c10 c11 hE hS0 hS2 hBd;go_wp2_with fail;refine bodyPost_ret (results_cell_row rfl _ _ (w.heap.size+1) 70 _ (0,0) _ rfl (jec hV1) jaV rfl jaI) rfl ?_;exact⟨⟨a',_,cap',s.cut⟩,rfl,rfl,jbb HS.out hz0 hsl hlo hBw2 hb3⟩
      exact AllReady.nil
     exact AllReady.nil
    exact AllReady.nil
   exact AllReady.nil
  exact AllReady.nil
 exact AllReady.nil
end Go.Proofs.YtieknocphiceoaaGreatDoor
namespace Go.Proofs.YtieknocphiceoaaGreatDoor
open Go Go.RowKit Go.Shelf
theorem jiR {A B:World} {p:Addr} (h:B.heap[p.block]? = A.heap[p.block]?):B.cell? p=A.cell? p:=by unfold World.cell?;rw[h]
theorem SlC.frame {α:Type} {enc:α->List Value} {k n₀:Nat} {A B:World} {a:Option Addr} {len cap:Nat} {l:List α} {q:Nat->Prop} (hs:SlC enc k n₀ A a len cap l) (hq:∀ z,a=some z->0<cap->q z.block) (hf:∀ b,b<n₀->q b->B.heap[b]? = A.heap[b]?):SlC enc k n₀ B a len cap l :=
 ⟨⟨hs.1.1,fun j x hx=>by
  obtain⟨b,off,e,hb,hc⟩:=hs.1.2 j x hx;have hlt:=(List.getElem?_eq_some_iff.1 hx).1;have h1:=hs.1.1;have h2:=hs.2.1;exact⟨b,off,e,hb,fun i hi=>(jiR (hf b hb (hq _ e (by omega)))).trans (hc i hi)⟩⟩,hs.2⟩
structure SerP.Off (p:SerP) (q:Nat->Prop):Prop where
 l:∀ z,p.la=some z->0<p.lc->q z.block
 e:∀ z,p.ss.ea=some z->0<p.ss.ec->q z.block
 c:∀ z,p.ss.ca=some z->0<p.ss.cc->q z.block
 g:∀ z,p.ss.ga=some z->0<p.ss.gc->q z.block
theorem SerP.Off.imp {p:SerP} {q r:Nat->Prop} (h:p.Off q) (hi:∀ b,q b->r b):p.Off r:=⟨fun z h1 h2=>hi _ (h.l z h1 h2),fun z h1 h2=>hi _ (h.e z h1 h2),fun z h1 h2=>hi _ (h.c z h1 h2),fun z h1 h2=>hi _ (h.g z h1 h2)⟩
theorem SerP.Off.and {p:SerP} {q r:Nat->Prop} (h:p.Off q) (h':p.Off r):p.Off (fun b=>q b/\r b):=⟨fun z h1 h2=>⟨h.l z h1 h2,h'.l z h1 h2⟩,fun z h1 h2=>⟨h.e z h1 h2,h'.e z h1 h2⟩,fun z h1 h2=>⟨h.c z h1 h2,h'.c z h1 h2⟩,fun z h1 h2=>⟨h.g z h1 h2,h'.g z h1 h2⟩⟩
section
variable {n n₁:Nat} {A B w:World} {x:Ser} {p:SerP}
theorem SerP.At.off (h:p.At n w x):p.Off (· < n):=⟨fun z h1 h2=>(h.l.2.2.2.2 z h1 h2).2,fun z h1 h2=>(h.s.e.2.2.2.2 z h1 h2).2,fun z h1 h2=>(h.s.c.2.2.2.2 z h1 h2).2,fun z h1 h2=>(h.s.g.2.2.2.2 z h1 h2).2⟩
theorem SerP.At.frame {q:Nat->Prop} (h:p.At n A x) (hq:p.Off q) (hf:∀ b,b<n->q b->B.heap[b]? = A.heap[b]?):p.At n B x :=
 ⟨h.l.frame hq.l hf,⟨h.s.e.frame hq.e hf,h.s.c.frame hq.c hf,h.s.g.frame hq.g hf⟩⟩
theorem SerP.At.below (h:p.At n A x) (hb:Below n A B):p.At n B x:=⟨h.l.below hb,h.s.below hb⟩
theorem SerP.At.mono (h:p.At n A x) (hn:n<=n₁):p.At n₁ A x:=⟨h.l.mono hn,h.s.mono hn⟩
theorem SerP.At.drew (h:p.At n w x):p.At n w.drew x:=⟨h.l,⟨h.s.e,h.s.c,h.s.g⟩⟩
theorem SerP.At.go (h:p.At A.heap.size A x) (hb:Below A.heap.size A B):p.At B.heap.size B x:=(h.below hb).mono hb.size
end
def ja4 (e:Ser × SerP):List Value:=ja1 e.1 e.2
theorem jb0 (e:Ser × SerP):(ja4 e).length=12:=rfl
theorem jdm (e:Ser × SerP):∀ u∈ja4 e,u.oneCell'=true:=by
 intro u hu;simp only[ja4,ja1,List.mem_cons,List.not_mem_nil,or_false] at hu;rcases hu with h | h | h | h | h | h | h | h | h | h | h | h<;>(subst h;rfl)
structure Tab (n₀:Nat) (w:World) (a:Option Addr) (len cap:Nat) (l:List (Ser × SerP)):Prop where
 row:SlC ja4 12 n₀ w a len cap l
 at_:∀ e∈l,e.2.At n₀ w e.1
section
variable {n₀ n₁:Nat} {A B w:World} {a:Option Addr} {len cap:Nat} {l:List (Ser × SerP)}
theorem Tab.below (h:Tab n₀ A a len cap l) (hb:Below n₀ A B):Tab n₀ B a len cap l:=⟨h.row.below hb,fun e he=>(h.at_ e he).below hb⟩
theorem Tab.mono (h:Tab n₀ A a len cap l) (hn:n₀<=n₁):Tab n₁ A a len cap l:=⟨h.row.mono hn,fun e he=>(h.at_ e he).mono hn⟩
theorem Tab.go (h:Tab A.heap.size A a len cap l) (hb:Below A.heap.size A B):Tab B.heap.size B a len cap l:=(h.below hb).mono hb.size
theorem Tab.nil:Tab n₀ w none 0 0 []:=⟨SlC.nil,fun e he=>by cases he⟩
theorem Tab.drew (h:Tab n₀ w a len cap l):Tab n₀ w.drew a len cap l:=⟨h.row,fun e he=>(h.at_ e he).drew⟩
theorem Tab.take (h:Tab n₀ w a len cap l) (m:Nat) (hm:m<=len):Tab n₀ w a m cap (l.take m):=⟨h.row.take m hm,fun e he=>h.at_ e (List.mem_of_mem_take he)⟩
end
theorem jcZ {P:Program} {t e:TypeId} {z:Value} {size bytes:Nat} (ty:TypeId) (ht:P.underlying t=some (.slice e)) (hinfo:(P.info? e).map (fun i=>(i.zero,i.size,i.bytes))=some (some z,size,bytes))
  {W w1:World} {base:Nat} {v v':Value} {n m c:Nat} {xs:List Value} (hown:W.ownsRow base e size v n xs) {a:Addr} {news:List Value} (hl:news.length=m*size) (hnews:∀ j u,news[j]? = some u->W.cell? (a.add j)=some u) (h1:∀ u∈news,u.oneCell'=true) (hm:0<m)
  (h63:n+m<=maxLen) (hbytes:(n+m)*bytes<=140737488355328)
  (hr:(Builtin.append_ #[t,t] ty #[v,.slice (some a) m c]).run P W=.ok v' w1):v'.ownBlock=v.ownBlock\/∃ g,v'.ownBlock=some g/\W.heap.size<=g:=by
 obtain⟨i,hi,hz,hsize,hby⟩:=info_parts hinfo;subst hsize;subst hby;have hsmall:n+m<=9223372036854775807:=by simp only[maxLen] at h63;omega
 rcases hown.2 with⟨rfl,rfl⟩ | ⟨g,cap,cur,rfl,hbg,hg,hnc,hcm,hcs,htake⟩
 ·have hx:xs=[]:=List.eq_nil_of_length_eq_zero (by simpa using hown.1)
  subst hx;rw[run_append_nil (P:=P) W t ty e i z ht hi hz a m c news hl hnews (by omega) (by omega) (by have hb:=hbytes;simp only[Nat.zero_add] at hb;omega)] at hr;injection hr with hr1
  subst hr1;exact .inr ⟨_,rfl,Nat.le_refl _⟩
 ·by_cases hroom:n+m<=cap
  ·have hfit:n*i.size+news.length<=cur.size:=by rw[hl,hcs,<- Nat.add_mul];exact Nat.mul_le_mul_right _ hroom
   rw[run_append_room (P:=P) W t ty e i ht hi g n cap cur hg a m c news hl hnews h1 hroom hfit] at hr;injection hr with hr1
   subst hr1;exact .inl rfl
  ·have holds:∀ j u,xs[j]? = some u->W.cell? ((⟨g,0,none⟩:Addr).add j)=some u:=hown.cells (g:=g) rfl
   rw[run_append_grow (P:=P) W t ty e i z ht hi hz ⟨g,0,none⟩ n cap xs hown.1 holds a m c news hl hnews (by omega) (by omega) (growslice_fits (by omega) hbytes)] at hr;injection hr with hr1
   subst hr1;exact .inr ⟨_,rfl,Nat.le_refl _⟩
theorem jbx:Tryz.prog.underlying 22=some (.slice 70):=by kernel_rfl
theorem jch:(Tryz.prog.info? 70).map (fun i=>(i.zero,i.size,i.bytes))=some (some (.agg #[.slice none 0 0,.int .i64 0,.int .i64 0,.slice none 0 0,.int .i64 0,.string ⟨#[]⟩,.int .i64 0,.int .i64 0,.slice none 0 0,.int .i64 0,.slice none 0 0,.int .u64 0]),12,168):=by kernel_rfl
structure GrowS (base:Nat) (q:Nat->Prop) (w:World) (v:Value) (l:List (Ser × SerP)):Prop where
 own:w.ownsRow base 70 12 v l.length (l.flatMap ja4)
 at_:∀ e∈l,e.2.At w.heap.size w e.1
 off:∀ e∈l,e.2.Off (fun b=>q b/\some b≠v.ownBlock)
theorem GrowS.nil (base:Nat) (q:Nat->Prop) (w:World):GrowS base q w (.slice none 0 0) []:=⟨World.ownsRow_nil _ _ _ _,(fun e h=>by cases h),(fun e h=>by cases h)⟩
theorem GrowS.form {base:Nat} {q:Nat->Prop} {w:World} {v:Value} {l:List (Ser × SerP)} (h:GrowS base q w v l):∃ a c,v=.slice a l.length c:=jcj h.own
theorem GrowS.drew {base:Nat} {q:Nat->Prop} {w:World} {v:Value} {l:List (Ser × SerP)} (h:GrowS base q w v l):GrowS base q w.drew v l:=⟨h.own,fun e he=>(h.at_ e he).drew,h.off⟩
theorem GrowS.go {base:Nat} {q:Nat->Prop} {A B:World} {v:Value} {l:List (Ser × SerP)} (h:GrowS base q A v l) (hb:Below A.heap.size A B):GrowS base q B v l :=
 ⟨⟨h.own.1,h.own.2.imp id (fun ⟨g,cap,cur,h1,h2,h3,h4⟩=>⟨g,cap,cur,h1,h2,jak hb (Nat.le_refl _) h3,h4⟩)⟩,fun e he=>(h.at_ e he).go hb,h.off⟩
theorem GrowS.tab {base:Nat} {q:Nat->Prop} {w:World} {v:Value} {l:List (Ser × SerP)} (h:GrowS base q w v l):∃ a cap,v=.slice a l.length cap/\Tab w.heap.size w a l.length cap l/\(∀ z,a=some z->base<=z.block)/\(∀ e∈l,e.2.Off (fun b=>q b/\∀ z,a=some z->b≠z.block)):=by
 obtain⟨a,cap,rfl,h1,h2⟩:=jaE (enc:=ja4) jb0 h.own;refine⟨a,cap,rfl,⟨h1,h.at_⟩,h2,fun e he=>(h.off e he).imp fun b hb=>⟨hb.1,fun z hz hbz=>?_⟩⟩;subst hz;exact hb.2 (by rw[hbz];rfl)
theorem GrowS.push {base B:Nat} {q:Nat->Prop} {W w0:World} {v:Value} {l:List (Ser × SerP)} (h:GrowS base q W v l) (hB:Below B w0 W) (hBb:B<=base) (hbase:base<=W.heap.size) (hn:l.length<4294967) {x:Ser} {p:SerP} (hp:p.At W.heap.size W x) (ho:p.Off (fun b=>q b/\some b≠v.ownBlock)) :
  ∃ g cap w1,(Builtin.append_ #[22,22] 22 #[v,.slice (some ⟨W.heap.size,0,none⟩) 1 1]).run Tryz.prog (W.alloc (.cells (ja1 x p).toArray 70))=.ok (.slice (some ⟨g,0,none⟩) (l.length+1) cap) w1 /\
   GrowS base q w1 (.slice (some ⟨g,0,none⟩) (l.length+1) cap) (l++[(x,p)])/\Below B w0 w1/\W.heap.size<w1.heap.size/\(∀ k,k<W.heap.size->some k≠v.ownBlock->w1.heap[k]? = W.heap[k]?):=by
 obtain⟨g,cap,w1,hap,hown,hB1,hsz,-,hfr⟩:=jax Tryz.prog 22 jbx jch rfl (by decide) (W:=W) h.own hB hBb hbase (ja1 x p) rfl (jdm (x,p)) (by omega) (by decide)
 have hcell:∀ j u,(ja1 x p)[j]? = some u->(W.alloc (.cells (ja1 x p).toArray 70)).cell? ((⟨W.heap.size,0,none⟩:Addr).add j)=some u:=fun j u hj=>by
  have:=cCc (World.alloc_heap_new W (.cells (ja1 x p).toArray 70)) j;have ea:(⟨W.heap.size,0,none⟩:Addr).add j=⟨W.heap.size,j,none⟩:=by unfold Addr.add;split<;>simp_all
  rw[ea,this];simpa using hj
 have hwh:=jcZ 22 jbx jch (h.own.alloc _) (n:=l.length) (m:=1) rfl hcell (jdm (x,p)) (by omega) (by unfold maxLen;omega) (by omega) hap
 have hoff:∀ b,b<W.heap.size->some b≠v.ownBlock->some b≠Value.ownBlock (.slice (some ⟨g,0,none⟩) (l.length+1) cap):=fun b hb hne=>by
  rcases hwh with e | ⟨g',e,hg⟩
  ·rw[e];exact hne
  ·rw[e]
   intro hc;injection hc with hc
   simp at hg;omega
 have hmem:∀ e∈l++[(x,p)],e.2.At W.heap.size W e.1/\e.2.Off (fun b=>q b/\some b≠v.ownBlock):=fun e he=>by
  rcases List.mem_append.1 he with h1 | h1
  ·exact⟨h.at_ e h1,h.off e h1⟩
  ·rw[List.mem_singleton] at h1
   subst h1;exact⟨hp,ho⟩
 refine⟨g,cap,w1,hap,⟨?_,fun e he=>?_,fun e he=>?_⟩,hB1,hsz,hfr⟩
 ·rw[List.length_append,List.flatMap_append]
  simpa [ja4] using hown
 ·obtain⟨h1,h2⟩:=hmem e he
  exact (h1.frame h2 (fun b hb hq=>hfr b hb hq.2)).mono (by omega)
 ·obtain⟨h1,h2⟩:=hmem e he
  exact (h1.off.and h2).imp fun b hb=>⟨hb.2.1,hoff b hb.1 hb.2.2⟩
end Go.Proofs.YtieknocphiceoaaGreatDoor
