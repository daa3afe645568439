/- quota.copied: a table that shares nothing. quota.isBudget; a notice is told. quota.Fit. aviarylaw12.Few: the table is the call's own (lines of F9); a sketch stored into a table of the call's own. -/
import Derived.Test.YtieknocphiceoaaGreatDoorZQA
namespace Go.Proofs.YtieknocphiceoaaGreatDoor
open Go Go.RowKit Go.Shelf
theorem jo9 {m:List (Ser × SerP)} {k i:Nat} {e e':Ser × SerP} {v:Value} (he:m[k]? = some e) (hi:i<12) (hv:ja4 e'=(ja4 e).set i v):(m.set k e').flatMap ja4=(m.flatMap ja4).set (k*12+i) v:=by
 induction m generalizing k with
 | nil=>simp at he
 | cons y r ih =>
  cases k with
  | zero =>
   simp only[List.getElem?_cons_zero,Option.some.injEq] at he;subst he;rw[List.set_cons_zero,List.flatMap_cons,List.flatMap_cons,hv,Nat.zero_mul,Nat.zero_add,List.set_append_left _ _ (by rw[jb0];exact hi)]
  | succ k =>
   rw[List.getElem?_cons_succ] at he;rw[List.set_cons_succ,List.flatMap_cons,List.flatMap_cons,ih he,List.set_append_right _ _ (by rw[jb0];omega),jb0];congr 2;omega
theorem jaj {m:List (Ser × SerP)} {k i:Nat} {e:Ser × SerP} (he:m[k]? = some e) (hi:i<12):(m.flatMap ja4)[k*12+i]? = (ja4 e)[i]? := jf7 ja4 12 jb0 m k i e he hi
theorem jlz (a:Option Addr) (n c:Nat) (w:World):(binOp .eql 22 (.slice a n c) (.slice none 0 0)).run Tryz.prog w=.ok (.bool a.isNone) w:=Lib.run_eql_slice_nil w _ _ a n c 0 0 jbx
set_option maxHeartbeats 1000000 in
theorem jmE (a:Option Addr) (len cap:Nat) (l:List (Ser × SerP)) (w:World) (hL:SlE ja4 12 w.heap.size w a len l) (hll:len<2147483648) :
  Calls Tryz.prog 84 #[.slice a len cap] w fun e w'=>∃ v,e=.returned v/\w'.ownsRow w.heap.size 70 12 v l.length (l.flatMap ja4)/\Below w.heap.size w w':=by
 have he:=jlz a len cap;have hlen:=hL.1
 cases a with
 | none =>
  have hl0:l=[]:=by
   cases l with
   | nil=>rfl
   | cons y ys=>obtain⟨b,off,e,_⟩:=hL.2 0 y rfl;cases e
  subst hl0;obtain rfl:len=0:=hlen;clear hL;go_enter Tryz.func84,Tryz.ntmps84;go_wp2_with fail;go_ret;exact⟨_,rfl,World.ownsRow_nil _ _ _ _,Below.refl _ _⟩
 | some a =>
  have hB1:Below w.heap.size w (w.alloc (.cells #[] 70)):=(Below.refl _ w).alloc (Nat.le_refl _) _;have hown:(w.alloc (.cells #[] 70)).ownsRow w.heap.size 70 12 (.slice (some ⟨w.heap.size,0,none⟩) 0 0) 0 []:=⟨rfl,.inr ⟨w.heap.size,0,#[],rfl,Nat.le_refl _,World.alloc_heap_new _ _,Nat.le_refl _,by unfold maxLen;omega,rfl,rfl⟩⟩;have hL1:=hL.go hB1;obtain⟨v4,w4,hap4,hown4,hB4,hz4,-,-⟩:=jaW Tryz.prog (cap:=cap) 22 jbx jch rfl (by decide) hown hB1 (Nat.le_refl _) (by simp) jb0 hL1 jdm (by omega) hll (by decide);rw[Nat.zero_add,List.nil_append,hlen] at hown4;have HO:=Lib.hid hown4;clear hL hL1 hown hown4 hlen;go_enter Tryz.func84,Tryz.ntmps84;go_wp2_with (at_builtin;refine jcw rfl _ _ _ rfl rfl rfl hap4 ?_);go_ret;exact⟨_,rfl,HO.out,hB4⟩
theorem jbf {W:World} {base n c g k i:Nat} {m:List (Ser × SerP)} {e:Ser × SerP} (e':Ser × SerP) (v:Value) (hO:W.ownsRow base 70 12 (.slice (some ⟨g,0,none⟩) n c) n (m.flatMap ja4)) (he:m[k]? = some e) (hi:i<12) (hv:ja4 e'=(ja4 e).set i v) :
  ∃ V,W.setCell ⟨g,k*12+i,none⟩ v=V/\V.ownsRow base 70 12 (.slice (some ⟨g,0,none⟩) n c) n ((m.set k e').flatMap ja4)/\Apart g W V/\(∀ n w0,n<=g->Below n w0 W->Below n w0 V)/\V.heap.size<=W.heap.size/\W.heap.size<=V.heap.size/\(m.set k e')[k]? = some e':=by
 refine⟨_,rfl,?_,Apart.set _ v,fun _ _ hn hb=>hb.setCell (p:=⟨g,k*12+i,none⟩) hn v,Nat.le_of_eq (World.size_setCell ..),Nat.le_of_eq (World.size_setCell ..).symm,?_⟩
 ·rw[jo9 he hi hv]
  exact jq6 hO _ v
 ·rw[List.getElem?_set,if_pos rfl,if_pos (List.getElem?_eq_some_iff.1 he).1]
structure CopyAt (w:World) (l:List (Ser × SerP)) (v:Value) (k:Nat) (W:World) (m:List (Ser × SerP)):Prop where
 own:W.ownsRow w.heap.size 70 12 v l.length (m.flatMap ja4)
 keep:m.map (·.1)=l.map (·.1)
 new:∀ j e,j<k->m[j]? = some e->e.2.At W.heap.size W e.1/\e.2.Off (fun b=>w.heap.size<=b/\some b≠v.ownBlock)
 old:∀ j,k<=j->m[j]? = l[j]?
 below:Below w.heap.size w W
theorem CopyAt.len {w W:World} {l m:List (Ser × SerP)} {v:Value} {k:Nat} (h:CopyAt w l v k W m):m.length=l.length:=by
 have:=congrArg List.length h.keep;simpa using this
theorem CopyAt.grow {w W:World} {l m:List (Ser × SerP)} {v:Value} {k:Nat} (h:CopyAt w l v k W m) (hk:l.length<=k):GrowS w.heap.size (w.heap.size <= ·) W v m:=by
 have hl:=h.len;refine⟨by rw[hl];exact h.own,fun e he=>?_,fun e he=>?_⟩
 ·obtain⟨i,hi⟩:=List.mem_iff_getElem?.1 he
  exact (h.new i e (by have:=(List.getElem?_eq_some_iff.1 hi).1;omega) hi).1
 ·obtain⟨i,hi⟩:=List.mem_iff_getElem?.1 he
  exact (h.new i e (by have:=(List.getElem?_eq_some_iff.1 hi).1;omega) hi).2
theorem CopyAt.step {w W V:World} {l m:List (Ser × SerP)} {g c k:Nat} {x:Ser} {p p':SerP} (h:CopyAt w l (.slice (some ⟨g,0,none⟩) l.length c) k W m) (hx:l[k]? = some (x,p)) (hV:V.ownsRow w.heap.size 70 12 (.slice (some ⟨g,0,none⟩) l.length c) l.length ((m.set k (x,p')).flatMap ja4))
  (hA:Apart g W V) (hp:p'.At V.heap.size V x) (ho:p'.Off (fun b=>w.heap.size<=b/\b≠g)) (hB:Below w.heap.size w V):CopyAt w l (.slice (some ⟨g,0,none⟩) l.length c) (k+1) V (m.set k (x,p')):=by
 have hkl:=(List.getElem?_eq_some_iff.1 hx).1;have hmk:m[k]? = some (x,p):=(h.old k (Nat.le_refl _)).trans hx;refine⟨hV,?_,fun j e hj he=>?_,fun j hj=>?_,hB⟩
 ·rw[List.map_set,<- h.keep]
  apply List.ext_getElem?;intro j;rw[List.getElem?_set];by_cases hkj:k=j
  ·subst hkj
   rw[if_pos rfl,if_pos (by rw[List.length_map,h.len];exact hkl),List.getElem?_map,hmk];rfl
  ·rw[if_neg hkj]
 ·rw[List.getElem?_set] at he
  by_cases hkj:k=j
  ·subst hkj
   rw[if_pos rfl,if_pos (by rw[h.len];exact hkl)] at he
   cases he
   exact⟨hp,ho.imp fun b hb=>⟨hb.1,fun e=>hb.2 (by injection e)⟩⟩
  ·rw[if_neg hkj] at he
   obtain⟨h1,h2⟩:=h.new j e (by omega) he;exact⟨(h1.frame (h2.imp (r:=(· ≠ g)) fun b hb e=>hb.2 (by rw[e];rfl)) hA.2).mono hA.1,h2⟩
 ·rw[List.getElem?_set,if_neg (by omega)]
  exact h.old j (by omega)
set_option maxRecDepth 100000 in
set_option maxHeartbeats 4000000 in
theorem jhm (l:List (Ser × SerP)) (a:Option Addr) (len cap:Nat) (w:World) (hT:Tab w.heap.size w a len cap l) (hA:jfX l) (hn:l.length<2147483648) :
  Calls Tryz.prog 41 #[.slice a len cap] w fun e w'=>∃ v m,e=.returned v/\GrowS w.heap.size (w.heap.size <= ·) w' v m/\m.map (·.1)=l.map (·.1)/\Below w.heap.size w w':=by
 have hlen:=hT.row.1.1;subst hlen;have HT:=Lib.hid hT;have HA:=Lib.hid hA;have HC:=Lib.hid (jmE a l.length cap l w hT.row.1 (by omega));clear hT hA;go_enter Tryz.func41,Tryz.ntmps41;go_wp2_with (go_at_call 84;refine HC.out.mono ?_;rintro e w1 ⟨v,rfl,hown,hb1⟩;obtain⟨va,vc,rfl⟩:=jcj hown);have HO1:=Lib.hid hown;clear hown;go_loopw [10] (fun i wr=>∃ (k:Nat) (m:List (Ser × SerP)),i=.int .i64 k/\k<=l.length/\Hid (CopyAt w l (.slice va l.length vc) k wr m)) (fun i _=>l.length-(intOf i).toNat)
 case atStart=>exact⟨0,l,rfl,Nat.zero_le _,HO1.out,rfl,(fun j e h=>by omega),(fun _ _=>rfl),hb1⟩
 case round =>
  obtain⟨k,m,rfl,hk,HM⟩:=hrel;by_cases hlt:k<l.length
  ·obtain⟨⟨x,p⟩,hx⟩:∃ x,l[k]? = some x:=⟨_,List.getElem?_eq_getElem hlt⟩
   obtain⟨g,rfl⟩:∃ g,va=some ⟨g,0,none⟩:=by
    rcases HM.out.own.2 with⟨h1,h2⟩ | ⟨g,cap,cur,h1,_⟩
    ·omega
    ·injection h1 with h1
     exact⟨g,h1⟩
   have hmk:m[k]? = some (x,p):=(HM.out.old k (Nat.le_refl _)).trans hx;have HO:=Lib.hid HM.out.own;have HB:=Lib.hid HM.out.below;have hg1:=(jdU HO.out).1;have hgr:=jft HO.out;have hsz:=HB.out.size;have HP:Hid (p.At wr.heap.size wr x):=((HT.out.at_ _ (List.mem_of_getElem? hx)).below HB.out).mono hsz;have HPo:Hid (p.Off (· < w.heap.size)):=(HT.out.at_ _ (List.mem_of_getElem? hx)).off;have HN5:Hid (p.Off (· ≠ g)):=HPo.out.imp (fun b hb=>by omega);have HAx:=Lib.hid (HA.out _ (List.mem_of_getElem? hx));have HX:=Lib.hid hx;have HMK:=Lib.hid hmk;have c0:wr.cell? ⟨g,k*12,none⟩=some (.slice p.la p.ll p.lc):=jaf HO.out (jaj (i:=0) hmk (by decide));clear hx hmk;go_wp2_with fail;refine (jmD p.la p.ll p.lc x.l _ HP.out.l.1 HAx.out.1).mono ?_;rintro e w2 ⟨la',lc',rfl,hl2,hlo2,hb2⟩;have hZ2:=hb2.size;have HO2:Hid (w2.ownsRow w.heap.size 70 12 (.slice (some ⟨g,0,none⟩) l.length vc) l.length (m.flatMap ja4)):=jet HO.out hb2;have f2:w2.frozen? ⟨g,k*12,none⟩=false:=jao HO2.out _;obtain⟨V2,hV2,hO2,hAp2,hBV2,hs2,ht2,hm2⟩:=jbf (i:=0) (x,(⟨la',p.ll,lc',p.ss⟩:SerP)) (.slice la' p.ll lc') HO2.out HMK.out (by decide) rfl;replace hV2:w2.setCell ⟨g,k*12,none⟩ (.slice la' p.ll lc')=V2:=hV2;have d2:w2.cell? ⟨g,k*12,none⟩=some (.slice p.la p.ll p.lc):=jaf HO2.out (jaj (i:=0) HMK.out (by decide));have hB2:Below w.heap.size w V2:=hBV2 _ _ hg1 (HB.out.trans (hb2.mono hsz));have HPe:Hid (SlC jbH 1 V2.heap.size V2 p.ss.ea p.ss.el p.ss.ec x.sk.e):=((HP.out.go hb2).s.e).apart (HN5.out.e) hAp2
   have HPc:Hid (SlC jbH 1 V2.heap.size V2 p.ss.ca p.ss.cl p.ss.cc x.sk.cl):=((HP.out.go hb2).s.c).apart (HN5.out.c) hAp2;have HPg:Hid (SlC jb5 2 V2.heap.size V2 p.ss.ga p.ss.gl p.ss.gc x.sk.gl):=((HP.out.go hb2).s.g).apart (HN5.out.g) hAp2;have HL2:Hid (SlC Lab.enc 2 V2.heap.size V2 la' p.ll lc' x.l):=hl2.apart (fun z hz _=>by have:=hlo2 z hz;omega) hAp2;have HO2:=Lib.hid hO2;have HM2:=Lib.hid hm2;have HAp2:=Lib.hid ((Apart.of_below (B:=g) hb2).trans hAp2);have c3:V2.cell? ⟨g,k*12+3,none⟩=some (.slice p.ss.ea p.ss.el p.ss.ec):=jaf hO2 (jaj (i:=3) hm2 (by decide));have hgr2:=jft hO2;clear hl2 hO2 hm2 hAp2 c0;go_wp2_with fail;refine (jde p.ss.ea p.ss.el p.ss.ec x.sk.e V2 HPe.out.1 HAx.out.2.1).mono ?_;rintro e w3 ⟨ea',ec',rfl,hl3,hlo3,hb3⟩;have hZ3:=hb3.size;have HO3:=Lib.hid (jet HO2.out hb3);have f3:w3.frozen? ⟨g,k*12+3,none⟩=false:=jao HO3.out _;obtain⟨V3,hV3,hO3,hAp3,hBV3,hs3,ht3,hm3⟩:=jbf (i:=3) (x,(⟨la',p.ll,lc',{ p.ss with ea:=ea',ec:=ec' }⟩:SerP)) (.slice ea' p.ss.el ec') HO3.out HM2.out (by decide) rfl;have d3:w3.cell? ⟨g,k*12+3,none⟩=some (.slice p.ss.ea p.ss.el p.ss.ec):=jaf HO3.out (jaj (i:=3) HM2.out (by decide));have hB3:Below w.heap.size w V3:=hBV3 _ _ hg1 (hB2.trans (hb3.mono hB2.size));have HPc3:Hid (SlC jbH 1 V3.heap.size V3 p.ss.ca p.ss.cl p.ss.cc x.sk.cl):=(HPc.out.go hb3).apart (HN5.out.c) hAp3;have HPg3:Hid (SlC jb5 2 V3.heap.size V3 p.ss.ga p.ss.gl p.ss.gc x.sk.gl):=(HPg.out.go hb3).apart (HN5.out.g) hAp3
   have HL3:Hid (SlC Lab.enc 2 V3.heap.size V3 la' p.ll lc' x.l):=(HL2.out.go hb3).apart (fun z hz _=>by have:=hlo2 z hz;omega) hAp3;have HE3:Hid (SlC jbH 1 V3.heap.size V3 ea' p.ss.el ec' x.sk.e):=hl3.apart (fun z hz _=>by have:=hlo3 z hz;omega) hAp3;have HO3:=Lib.hid hO3;have HM3:=Lib.hid hm3;have HAp3:=Lib.hid ((HAp2.out.trans (Apart.of_below (B:=g) hb3)).trans hAp3);have c8:V3.cell? ⟨g,k*12+8,none⟩=some (.slice p.ss.ca p.ss.cl p.ss.cc):=jaf hO3 (jaj (i:=8) hm3 (by decide));have hgr3:=jft hO3;clear hl3 hO3 hm3 hAp3 c3 hV2 f2 HO2 d2;go_wp2_with fail;refine (jde p.ss.ca p.ss.cl p.ss.cc x.sk.cl V3 HPc3.out.1 HAx.out.2.2.1).mono ?_;rintro e w4 ⟨ca',cc',rfl,hl4,hlo4,hb4⟩;have hZ4:=hb4.size;have HO4:=Lib.hid (jet HO3.out hb4);have f4:w4.frozen? ⟨g,k*12+8,none⟩=false:=jao HO4.out _;obtain⟨V4,hV4,hO4,hAp4,hBV4,hs4,ht4,hm4⟩:=jbf (i:=8) (x,(⟨la',p.ll,lc',{ p.ss with ea:=ea',ec:=ec',ca:=ca',cc:=cc' }⟩:SerP)) (.slice ca' p.ss.cl cc') HO4.out HM3.out (by decide) rfl;replace hV4:w4.setCell ⟨g,k*12+1+5+2,none⟩ (.slice ca' p.ss.cl cc')=V4:=hV4;replace f4:w4.frozen? ⟨g,k*12+1+5+2,none⟩=false:=f4;have d4:w4.cell? ⟨g,k*12+1+5+2,none⟩=some (.slice p.ss.ca p.ss.cl p.ss.cc):=jaf HO4.out (jaj (i:=8) HM3.out (by decide));have hB4:Below w.heap.size w V4:=hBV4 _ _ hg1 (hB3.trans (hb4.mono hB3.size));have HPg4:Hid (SlC jb5 2 V4.heap.size V4 p.ss.ga p.ss.gl p.ss.gc x.sk.gl):=(HPg3.out.go hb4).apart (HN5.out.g) hAp4
   have HL4:Hid (SlC Lab.enc 2 V4.heap.size V4 la' p.ll lc' x.l):=(HL3.out.go hb4).apart (fun z hz _=>by have:=hlo2 z hz;omega) hAp4;have HE4:Hid (SlC jbH 1 V4.heap.size V4 ea' p.ss.el ec' x.sk.e):=(HE3.out.go hb4).apart (fun z hz _=>by have:=hlo3 z hz;omega) hAp4;have HC4:Hid (SlC jbH 1 V4.heap.size V4 ca' p.ss.cl cc' x.sk.cl):=hl4.apart (fun z hz _=>by have:=hlo4 z hz;omega) hAp4;have HO4:=Lib.hid hO4;have HM4:=Lib.hid hm4;have HAp4:=Lib.hid ((HAp3.out.trans (Apart.of_below (B:=g) hb4)).trans hAp4);have c10:V4.cell? ⟨g,k*12+10,none⟩=some (.slice p.ss.ga p.ss.gl p.ss.gc):=jaf hO4 (jaj (i:=10) hm4 (by decide));have hgr4:=jft hO4;clear hl4 hO4 hm4 hAp4 c8 hV3 f3 HO3 d3;go_wp2_with fail;refine (jf2 p.ss.ga p.ss.gl p.ss.gc x.sk.gl V4 HPg4.out.1 HAx.out.2.2.2).mono ?_;rintro e w5 ⟨ga',gc',rfl,hl5,hlo5,hb5⟩;have hZ5:=hb5.size;have HO5:=Lib.hid (jet HO4.out hb5);have f5:w5.frozen? ⟨g,k*12+10,none⟩=false:=jao HO5.out _;obtain⟨V5,hV5,hO5,hAp5,hBV5,hs5,ht5,hm5⟩:=jbf (i:=10) (x,(⟨la',p.ll,lc',⟨ea',p.ss.el,ec',ca',p.ss.cl,cc',ga',p.ss.gl,gc'⟩⟩:SerP)) (.slice ga' p.ss.gl gc') HO5.out HM4.out (by decide) rfl;replace hV5:w5.setCell ⟨g,k*12+1+8+1,none⟩ (.slice ga' p.ss.gl gc')=V5:=hV5;replace f5:w5.frozen? ⟨g,k*12+1+8+1,none⟩=false:=f5;have d5:w5.cell? ⟨g,k*12+1+8+1,none⟩=some (.slice p.ss.ga p.ss.gl p.ss.gc):=jaf HO5.out (jaj (i:=10) HM4.out (by decide));have hB5:Below w.heap.size w V5:=hBV5 _ _ hg1 (hB4.trans (hb5.mono hB4.size))
   have HL5:=(HL4.out.go hb5).apart (fun z hz _=>by have:=hlo2 z hz;omega) hAp5;have HE5:=(HE4.out.go hb5).apart (fun z hz _=>by have:=hlo3 z hz;omega) hAp5;have HC5:=(HC4.out.go hb5).apart (fun z hz _=>by have:=hlo4 z hz;omega) hAp5;have HG5:=hl5.apart (fun z hz _=>by have:=hlo5 z hz;omega) hAp5;have hAp:=(HAp4.out.trans (Apart.of_below (B:=g) hb5)).trans hAp5;simp only[List.set_set] at hO5
   have FI:Hid (CopyAt w l (.slice (some ⟨g,0,none⟩) l.length vc) (k+1) V5 (m.set k (x,⟨la',p.ll,lc',⟨ea',p.ss.el,ec',ca',p.ss.cl,cc',ga',p.ss.gl,gc'⟩⟩))) :=
    HM.out.step HX.out hO5 hAp ⟨HL5,HE5,HC5,HG5⟩ ⟨fun z h1 _=>by have:=hlo2 z h1;omega,fun z h1 _=>by have:=hlo3 z h1;omega,fun z h1 _=>by have:=hlo4 z h1;omega,fun z h1 _=>by have:=hlo5 z h1;omega⟩ hB5
   clear hl5 hO5 hm5 hAp5 hAp HL5 HE5 HC5 HG5 c10 hV4 f4 d4 HO4;go_wp2_with fail;go_roundw
   case rel=>exact⟨k+1,_,by go_num,by omega,FI.out⟩
   case measure=>simp[intOf];omega
  ·have H9:=Lib.hid (HM.out.grow (by omega))
   have H8:=Lib.hid HM.out.keep;have HB:=Lib.hid HM.out.below;go_wp2_with fail;go_ret;exact⟨_,rfl,m,H9.out,H8.out,HB.out⟩
end Go.Proofs.YtieknocphiceoaaGreatDoor
namespace Go.Proofs.YtieknocphiceoaaGreatDoor
open Go Go.RowKit Go.Shelf
def jav (b:Int):Bool:=decide (0<=b)&&decide (b<=1000000)
theorem jdP (n:Int) (w:World):Calls Tryz.prog 40 #[.int .i64 n] w fun e w'=>e=.returned (.bool (jav n))/\w'=w:=by
 have HR:Hid (jav n=(decide (0<=n)&&decide (n<=1000000))):=rfl;generalize jav n=b at HR ⊢;by_cases h1:0<=n
 ·by_cases h2:n<=1000000
  ·have H9:Hid (b=true):=by rw[Hid,HR.out,decide_eq_true h1,decide_eq_true h2];rfl
   go_enter Tryz.func40,Tryz.ntmps40;go_wp2_with fail;go_ret;exact⟨by rw[H9.out];rfl,rfl⟩
  ·have H9:Hid (b=false):=by rw[Hid,HR.out,decide_eq_false h2,Bool.and_false]
   go_enter Tryz.func40,Tryz.ntmps40;go_wp2_with fail;go_ret;exact⟨by rw[H9.out];rfl,rfl⟩
 ·have H9:Hid (b=false):=by rw[Hid,HR.out,decide_eq_false h1,Bool.false_and]
  go_enter Tryz.func40,Tryz.ntmps40;go_wp2_with fail;go_ret;exact⟨by rw[H9.out];rfl,rfl⟩
theorem jkS (n:Nat):(jeb n).length=1:=rfl
theorem jfQ (n:Nat):∀ u∈jeb n,u.oneCell'=true:=by
 intro u hu;simp only[jeb,List.mem_singleton] at hu;subst hu;rfl
def jqt (F base:Nat) (T pv:Value) (ps:List Nat) (p:Nat) (w w':World):Prop:=∃ pv',w'.heap[F]? = some (.cells #[pv',T] 78 (0,0))/\w'.ownsRow base 3 1 pv' (ps++[p]).length ((ps++[p]).flatMap jeb)/\some F≠pv'.ownBlock /\
   (∀ k,k<w.heap.size->k≠F->some k≠pv.ownBlock->w'.heap[k]? = w.heap[k]?)/\(pv'.ownBlock=pv.ownBlock\/∃ g,pv'.ownBlock=some g/\w.heap.size<=g)/\Below base w w'
attribute [-go_sem] Builtin.append_
set_option maxRecDepth 100000 in
set_option maxHeartbeats 1000000 in
theorem jnE (F base:Nat) (T:Value) (pv:Value) (ps:List Nat) (p:Nat) (w:World) (hF:w.heap[F]? = some (.cells #[pv,T] 78 (0,0))) (hb:base<=F) (hown:w.ownsRow base 3 1 pv ps.length (ps.flatMap jeb)) (hne:some F≠pv.ownBlock) (hn:ps.length<4294967) :
  Calls Tryz.prog 43 #[.pointer (some ⟨F,0,none⟩),.int .i64 p] w fun e w'=>e=.returned (.tuple #[])/\jqt F base T pv ps p w w':=by
 have hFl:=(Array.getElem?_eq_some_iff.1 hF).1;obtain⟨pa,pc,rfl⟩:=jcj hown;obtain⟨g,cap,w1,hap,hown1,hB1,hsz,-,hfr⟩:=jax Tryz.prog 25 jfW jfT rfl (by decide) (W:=w) hown (Below.refl base w) (Nat.le_refl _) (by omega) (jeb p) rfl (jfQ p) (by omega) (by decide)
 have hcell:∀ j u,(jeb p)[j]? = some u->(w.alloc (.cells (jeb p).toArray 3)).cell? ((⟨w.heap.size,0,none⟩:Addr).add j)=some u:=fun j u hj=>by
  have:=cCc (World.alloc_heap_new w (.cells (jeb p).toArray 3)) j;have ea:(⟨w.heap.size,0,none⟩:Addr).add j=⟨w.heap.size,j,none⟩:=by unfold Addr.add;split<;>simp_all
  rw[ea,this];simpa using hj
 have hwh:=jcZ 25 jfW jfT (hown.alloc _) (n:=ps.length) (m:=1) rfl hcell (jfQ p) (by omega) (by unfold maxLen;omega) (by omega) hap
 have hwh2:Value.ownBlock (.slice (some ⟨g,0,none⟩) (ps.length+1) cap)=Value.ownBlock (.slice pa ps.length pc)\/∃ b,Value.ownBlock (.slice (some ⟨g,0,none⟩) (ps.length+1) cap)=some b/\w.heap.size<=b:=by
  rcases hwh with e | ⟨b,e,h⟩
  ·exact .inl e
  ·refine .inr ⟨b,e,?_⟩
   simp at h;omega
 have hFg:F≠g:=fun e=>by
  rcases hwh2 with h | ⟨b,h,hb⟩
  ·exact hne (by rw[<- h,e];rfl)
  ·injection h with h
   simp at h;omega
 have hF1:w1.heap[F]? = some (.cells #[.slice pa ps.length pc,T] 78 (0,0)):=(hfr F hFl hne).trans hF;have hA1:w.cell? ⟨F,0,none⟩=some (.slice pa ps.length pc):=cCc hF 0;have hA2:w1.cell? ⟨F,0,none⟩=some (.slice pa ps.length pc):=cCc hF1 0;have hA3:w1.frozen? ⟨F,0,none⟩=false:=cFz hF1 0;obtain⟨V,hV,hFV,hAp,hBV,hs1,hs2⟩:=jf0 (i:=0) hF1 (.slice (some ⟨g,0,none⟩) (ps.length+1) cap);have hlen:(ps++[p]).length=ps.length+1:=by simp
 have hownV:V.ownsRow base 3 1 (.slice (some ⟨g,0,none⟩) (ps.length+1) cap) (ps.length+1) ((ps++[p]).flatMap jeb):=by
  rw[List.flatMap_append];rw[show ([p]:List Nat).flatMap jeb=jeb p from by simp];obtain⟨h0,cur,h1,h2⟩:=jdU hown1;exact⟨hown1.1,.inr ⟨g,cap,cur,rfl,h0,(hAp.2 g (Array.getElem?_eq_some_iff.1 h1).1 (fun e=>hFg e.symm)).trans h1,h2⟩⟩
 have HE:Hid (jqt F base T (.slice pa ps.length pc) ps p w V):=by
  refine⟨.slice (some ⟨g,0,none⟩) (ps.length+1) cap,hFV,by rw[hlen];exact hownV,fun e=>hFg (by injection e),fun k hk h1 h2=>?_,hwh2,hBV _ _ hb hB1⟩;exact (hAp.2 k (by omega) h1).trans (hfr k hk h2)
 unfold jeb at hap;clear hF hown hown1 hwh hwh2 hF1 hFV hAp hBV hownV hcell hfr hB1 hne hs1 hs2;go_enter Tryz.func43,Tryz.ntmps43;go_wp2_with fail;go_end0;exact⟨rfl,HE.out⟩
end Go.Proofs.YtieknocphiceoaaGreatDoor
namespace Go.Proofs.YtieknocphiceoaaGreatDoor
open Go Go.RowKit Go.Shelf
theorem jes {W:World} {base n c g k:Nat} {m:List (Ser × SerP)} {x:Ser} {p:SerP} (y:Sk) (s:SS) (hO:W.ownsRow base 70 12 (.slice (some ⟨g,0,none⟩) n c) n (m.flatMap ja4)) (he:m[k]? = some (x,p)) :
  ∃ V,(((((((((W.setCell ⟨g,k*12+1,none⟩ (.int .i64 y.kind)).setCell ⟨g,k*12+2,none⟩ (.int .i64 y.level)).setCell ⟨g,k*12+3,none⟩ (.slice s.ea s.el s.ec)).setCell ⟨g,k*12+4,none⟩ (.int .i64 y.hb)).setCell ⟨g,k*12+5,none⟩ (.string y.hr)).setCell ⟨g,k*12+6,none⟩ (.int .i64 y.cr)).setCell ⟨g,k*12+7,none⟩ (.int .i64 y.cc)).setCell ⟨g,k*12+8,none⟩ (.slice s.ca s.cl s.cc)).setCell ⟨g,k*12+9,none⟩ (.int .i64 y.gf)).setCell ⟨g,k*12+10,none⟩ (.slice s.ga s.gl s.gc)=V /\
   V.ownsRow base 70 12 (.slice (some ⟨g,0,none⟩) n c) n ((m.set k (⟨x.l,y,x.seen⟩,⟨p.la,p.ll,p.lc,s⟩)).flatMap ja4)/\Apart g W V/\(∀ n w0,n<=g->Below n w0 W->Below n w0 V):=by
 obtain⟨V1,e1,o1,a1,b1,-,-,m1⟩:=jbf (i:=1) (⟨x.l,{ x.sk with kind:=y.kind },x.seen⟩,p) (.int .i64 y.kind) hO he (by decide) rfl;obtain⟨V2,e2,o2,a2,b2,-,-,m2⟩:=jbf (i:=2) (⟨x.l,{ x.sk with kind:=y.kind,level:=y.level },x.seen⟩,p) (.int .i64 y.level) o1 m1 (by decide) rfl;obtain⟨V3,e3,o3,a3,b3,-,-,m3⟩:=jbf (i:=3) (⟨x.l,{ x.sk with kind:=y.kind,level:=y.level },x.seen⟩,(⟨p.la,p.ll,p.lc,{ p.ss with ea:=s.ea,el:=s.el,ec:=s.ec }⟩:SerP)) (.slice s.ea s.el s.ec) o2 m2 (by decide) rfl;obtain⟨V4,e4,o4,a4,b4,-,-,m4⟩:=jbf (i:=4) (⟨x.l,{ x.sk with kind:=y.kind,level:=y.level,hb:=y.hb },x.seen⟩,(⟨p.la,p.ll,p.lc,{ p.ss with ea:=s.ea,el:=s.el,ec:=s.ec }⟩:SerP)) (.int .i64 y.hb) o3 m3 (by decide) rfl;obtain⟨V5,e5,o5,a5,b5,-,-,m5⟩:=jbf (i:=5) (⟨x.l,{ x.sk with kind:=y.kind,level:=y.level,hb:=y.hb,hr:=y.hr },x.seen⟩,(⟨p.la,p.ll,p.lc,{ p.ss with ea:=s.ea,el:=s.el,ec:=s.ec }⟩:SerP)) (.string y.hr) o4 m4 (by decide) rfl;obtain⟨V6,e6,o6,a6,b6,-,-,m6⟩:=jbf (i:=6) (⟨x.l,{ x.sk with kind:=y.kind,level:=y.level,hb:=y.hb,hr:=y.hr,cr:=y.cr },x.seen⟩,(⟨p.la,p.ll,p.lc,{ p.ss with ea:=s.ea,el:=s.el,ec:=s.ec }⟩:SerP)) (.int .i64 y.cr) o5 m5 (by decide) rfl;obtain⟨V7,e7,o7,a7,b7,-,-,m7⟩:=jbf (i:=7) (⟨x.l,{ x.sk with kind:=y.kind,level:=y.level,hb:=y.hb,hr:=y.hr,cr:=y.cr,cc:=y.cc },x.seen⟩,(⟨p.la,p.ll,p.lc,{ p.ss with ea:=s.ea,el:=s.el,ec:=s.ec }⟩:SerP)) (.int .i64 y.cc) o6 m6 (by decide) rfl
 obtain⟨V8,e8,o8,a8,b8,-,-,m8⟩:=jbf (i:=8) (⟨x.l,{ x.sk with kind:=y.kind,level:=y.level,hb:=y.hb,hr:=y.hr,cr:=y.cr,cc:=y.cc },x.seen⟩,(⟨p.la,p.ll,p.lc,{ p.ss with ea:=s.ea,el:=s.el,ec:=s.ec,ca:=s.ca,cl:=s.cl,cc:=s.cc }⟩:SerP)) (.slice s.ca s.cl s.cc) o7 m7 (by decide) rfl;obtain⟨V9,e9,o9,a9,b9,-,-,m9⟩:=jbf (i:=9) (⟨x.l,{ x.sk with kind:=y.kind,level:=y.level,hb:=y.hb,hr:=y.hr,cr:=y.cr,cc:=y.cc,gf:=y.gf },x.seen⟩,(⟨p.la,p.ll,p.lc,{ p.ss with ea:=s.ea,el:=s.el,ec:=s.ec,ca:=s.ca,cl:=s.cl,cc:=s.cc }⟩:SerP)) (.int .i64 y.gf) o8 m8 (by decide) rfl;obtain⟨V10,e10,o10,a10,b10,-,-,m10⟩:=jbf (i:=10) (⟨x.l,y,x.seen⟩,(⟨p.la,p.ll,p.lc,s⟩:SerP)) (.slice s.ga s.gl s.gc) o9 m9 (by decide) rfl;refine⟨V10,?_,?_,((((((((a1.trans a2).trans a3).trans a4).trans a5).trans a6).trans a7).trans a8).trans a9).trans a10,fun n w0 hn hb=>b10 _ _ hn (b9 _ _ hn (b8 _ _ hn (b7 _ _ hn (b6 _ _ hn (b5 _ _ hn (b4 _ _ hn (b3 _ _ hn (b2 _ _ hn (b1 _ _ hn hb)))))))))⟩
 ·rw[e1,e2,e3,e4,e5,e6,e7,e8,e9,e10]
 ·simp only[List.set_set] at o10
  exact o10
structure FitAt (w:World) (F:Nat) (W:World) (m:List (Ser × SerP)) (tv pv:Value) (ps:List Nat):Prop where
 tab:GrowS w.heap.size (fun b=>w.heap.size<=b/\b≠F/\some b≠pv.ownBlock) W tv m
 box:W.heap[F]? = some (.cells #[pv,tv] 78 (0,0))
 lo:w.heap.size<=F
 tF:some F≠tv.ownBlock
 own:W.ownsRow w.heap.size 3 1 pv ps.length (ps.flatMap jeb)
 pF:some F≠pv.ownBlock
 pT:∀ b,pv.ownBlock=some b->tv.ownBlock≠some b
 below:Below w.heap.size w W
section
variable {w W W':World} {F:Nat} {m:List (Ser × SerP)} {tv pv:Value} {ps:List Nat}
theorem FitAt.go (h:FitAt w F W m tv pv ps) (hb:Below W.heap.size W W'):FitAt w F W' m tv pv ps :=
 ⟨h.tab.go hb,jak hb (Nat.le_refl _) h.box,h.lo,h.tF,jet h.own hb,h.pF,h.pT,h.below.trans (hb.mono h.below.size)⟩
theorem jlZ {A B:World} {base e size n g:Nat} {v:Value} {xs:List Value} (h:A.ownsRow base e size v n xs) (hA:Apart g A B) (hg:some g≠v.ownBlock):B.ownsRow base e size v n xs:=by
 refine⟨h.1,h.2.imp id ?_⟩;rintro⟨b,cap,cur,rfl,h2,h3,h4⟩;exact⟨b,cap,cur,rfl,h2,(hA.2 b (Array.getElem?_eq_some_iff.1 h3).1 (fun e=>hg (by rw[e];rfl))).trans h3,h4⟩
theorem jjl {A B:World} {base e size n:Nat} {v:Value} {xs:List Value} (h:A.ownsRow base e size v n xs) (hB:∀ b,b<A.heap.size->v.ownBlock=some b->B.heap[b]? = A.heap[b]?):B.ownsRow base e size v n xs:=by
 refine⟨h.1,h.2.imp id ?_⟩;rintro⟨b,cap,cur,rfl,h2,h3,h4⟩;exact⟨b,cap,cur,rfl,h2,(hB b (Array.getElem?_eq_some_iff.1 h3).1 rfl).trans h3,h4⟩
theorem FitAt.low {g c k:Nat} {x:Ser} {p:SerP} {y:Sk} {s:SS} (h:FitAt w F W m (.slice (some ⟨g,0,none⟩) m.length c) pv ps) (hx:m[k]? = some (x,p)) (hA:Apart g W W') (hB:∀ n w0,n<=g->Below n w0 W->Below n w0 W')
  (hO:W'.ownsRow w.heap.size 70 12 (.slice (some ⟨g,0,none⟩) m.length c) m.length ((m.set k (⟨x.l,y,x.seen⟩,⟨p.la,p.ll,p.lc,s⟩)).flatMap ja4)) (hs:s.At W.heap.size W y) (hf:∃ n,s.From n/\g<n/\w.heap.size<=n/\F<n/\(∀ b,pv.ownBlock=some b->b<n)) :
  FitAt w F W' (m.set k (⟨x.l,y,x.seen⟩,⟨p.la,p.ll,p.lc,s⟩)) (.slice (some ⟨g,0,none⟩) (m.set k (⟨x.l,y,x.seen⟩,(⟨p.la,p.ll,p.lc,s⟩:SerP))).length c) pv ps:=by
 obtain⟨n,hf,hg,hw,hF,hpv⟩:=hf;have hlen:(m.set k (⟨x.l,y,x.seen⟩,(⟨p.la,p.ll,p.lc,s⟩:SerP))).length=m.length:=List.length_set ..;have hxm:=List.mem_of_getElem? hx
 have hq:∀ e∈m.set k (⟨x.l,y,x.seen⟩,(⟨p.la,p.ll,p.lc,s⟩:SerP)),e.2.At W.heap.size W e.1/\e.2.Off (fun b=>(w.heap.size<=b/\b≠F/\some b≠pv.ownBlock)/\some b≠Value.ownBlock (.slice (some ⟨g,0,none⟩) m.length c)):=fun e he=>by
  rcases List.mem_or_eq_of_mem_set he with he | rfl
  ·exact⟨h.tab.at_ e he,h.tab.off e he⟩
  ·have h1:=h.tab.at_ _ hxm
   have h2:=h.tab.off _ hxm
   have hk:∀ b,n<=b->(w.heap.size<=b/\b≠F/\some b≠pv.ownBlock)/\some b≠Value.ownBlock (.slice (some ⟨g,0,none⟩) m.length c):=fun b hb=>by
    refine⟨⟨by omega,by omega,fun e=>?_⟩,fun e=>?_⟩
    ·have:=hpv b e.symm;omega
    ·injection e with e;simp at e;omega
   exact⟨⟨h1.l,hs⟩,⟨h2.l,fun z hz _=>hk _ (hf.1 z hz),fun z hz _=>hk _ (hf.2.1 z hz),fun z hz _=>hk _ (hf.2.2 z hz)⟩⟩
 rw[hlen];refine⟨⟨by rw[hlen];exact hO,fun e he=>?_,fun e he=>(hq e he).2⟩,?_,h.lo,h.tF,jlZ h.own hA ?_,h.pF,h.pT,hB _ _ (jdU h.tab.own).1 h.below⟩
 ·obtain⟨h1,h2⟩:=hq e he
  exact (h1.frame (h2.imp (r:=(· ≠ g)) fun b hb e=>hb.2 (by rw[e];rfl)) hA.2).mono hA.1
 ·refine (hA.2 F (Array.getElem?_eq_some_iff.1 h.box).1 (fun e=>h.tF (by rw[e];rfl))).trans h.box
 ·intro e
  exact h.pT g e.symm rfl
theorem FitAt.told {k:Nat} (h:FitAt w F W m tv pv ps) (ht:jqt F w.heap.size tv pv ps k W W'):∃ pv',FitAt w F W' m tv pv' (ps++[k]):=by
 obtain⟨pv',h1,h2,h3,h4,h5,h6⟩:=ht
 have hnew:∀ b,b<W.heap.size->some b≠pv.ownBlock->some b≠pv'.ownBlock:=fun b hb hne e=>by
  rcases h5 with h5 | ⟨g,h5,hg⟩
  ·exact hne (by rw[<- h5];exact e)
  ·rw[h5] at e;injection e with e;omega
 have hframe:∀ b,b<W.heap.size->(w.heap.size<=b/\b≠F/\some b≠pv.ownBlock)->W'.heap[b]? = W.heap[b]? := fun b hb hq=>h4 b hb hq.2.1 hq.2.2
 have hlt:=h.tab.own.lt;refine⟨pv',⟨jjl h.tab.own (fun b hb e=>h4 b hb (fun e2=>h.tF (by rw[e,e2])) (fun e2=>h.pT b e2.symm e)),fun e he=>?_,fun e he=>?_⟩,h1,h.lo,h.tF,h2,h3,fun b hb hT=>?_,h.below.trans h6⟩
 ·exact ((h.tab.at_ e he).frame (h.tab.off e he) (fun b hb hq=>hframe b hb hq.1)).mono h6.size
 ·exact ((h.tab.at_ e he).off.and (h.tab.off e he)).imp fun b hb=>⟨⟨hb.2.1.1,hb.2.1.2.1,hnew b hb.1 hb.2.1.2.2⟩,hb.2.2⟩
 ·rcases h5 with h5 | ⟨g,h5,hg⟩
  ·exact h.pT b (by rw[<- h5];exact hb) hT
  ·have:=(hlt b hT).2
   rw[h5] at hb;injection hb with hb
   omega
end
def jas (b:Int) (L:List Ser):List Ser × List Nat × Int:=if jag L then if jav b then match fit b L with
  | some (a,ps)=>(a,ps,0)
  | none=>([],[],130)
 else ([],[],130) else ([],[],120)
def FitPost (b:Int) (L:List Ser) (w:World) (e:Ending) (w':World):Prop :=
 ∃ (m:List (Ser × SerP)) (ta:Option Addr) (tc:Nat) (pa:Option Addr) (pc:Nat),e=.returned (.tuple #[.slice ta m.length tc,.slice pa (jas b L).2.1.length pc,.int .i64 (jas b L).2.2])/\Tab w'.heap.size w' ta m.length tc m/\m.map (·.1)=(jas b L).1 /\
  (∀ z,ta=some z->w.heap.size<=z.block)/\(∀ e∈m,e.2.Off (fun b=>w.heap.size<=b/\∀ z,ta=some z->b≠z.block))/\SlC jeb 1 w'.heap.size w' pa (jas b L).2.1.length pc (jas b L).2.1/\(∀ z,pa=some z->w.heap.size<=z.block)/\Below w.heap.size w w'
theorem FitPost.no {b:Int} {L:List Ser} {w w':World} {n:Int} (h:jas b L=([],[],n)) (hB:Below w.heap.size w w'):FitPost b L w (.returned (.tuple #[.slice none 0 0,.slice none 0 0,.int .i64 n])) w':=by
 unfold FitPost;rw[h];exact⟨[],none,0,none,0,rfl,Tab.nil,rfl,(fun z h=>by cases h),(fun e h=>by cases h),SlC.nil,(fun z h=>by cases h),hB⟩
theorem FitAt.post {b:Int} {L:List Ser} {w W:World} {F:Nat} {m:List (Ser × SerP)} {ta pa:Option Addr} {tc pc:Nat} {ps:List Nat} (h:FitAt w F W m (.slice ta m.length tc) (.slice pa ps.length pc) ps) (he:jas b L=(m.map (·.1),ps,0)) :
  FitPost b L w (.returned (.tuple #[.slice ta m.length tc,.slice pa ps.length pc,.int .i64 0])) W:=by
 obtain⟨a',c',e1,h1,h2,h3⟩:=h.tab.tab;injection e1 with e1 e2 e3
 subst e1;subst e3;obtain⟨a2,c2,e1,h4,h5⟩:=jaE (enc:=jeb) (l:=ps) jkS h.own;injection e1 with e1 e2 e3
 subst e1;subst e3;unfold FitPost;rw[he];exact⟨m,ta,tc,pa,pc,rfl,h1,rfl,h2,fun e he=>(h3 e he).imp fun b hb=>⟨hb.1.1,hb.2⟩,h4,h5,h.below⟩
section
variable {w W:World} {F:Nat} {m:List (Ser × SerP)} {ta:Option Addr} {tc:Nat} {pv:Value} {ps:List Nat}
theorem FitAt.tabOf (h:FitAt w F W m (.slice ta m.length tc) pv ps):Tab W.heap.size W ta m.length tc m:=by
 obtain⟨a',c',e1,h1,-⟩:=h.tab.tab;injection e1 with e1 e2 e3
 subst e1;subst e3;exact h1
theorem QT.fine {L:List Ser} (h:QT L):∀ x∈L,x.fine:=fun x hx=>(h.good x hx).fine
theorem FitAt.cost (h:FitAt w F W m (.slice ta m.length tc) pv ps) (hq:QT (m.map (·.1))) (hG:GW w) :
  Calls Tryz.prog 37 #[.slice ta m.length tc] W fun e w'=>e=.returned (.int .i64 (jaw (m.map (·.1))))/\Below W.heap.size W w':=by
 have h1:=jbk m ta m.length tc W h.tabOf (jbw h.tabOf hq.fine) (hG.below h.below);rw[jaz,hq.right,if_pos rfl] at h1;exact h1
theorem FitAt.vict (h:FitAt w F W m (.slice ta m.length tc) pv ps) (hq:QT (m.map (·.1))) (hG:GW w) :
  Calls Tryz.prog 10 #[.slice ta m.length tc] W fun e w'=>e=.returned (.tuple #[.int .i64 ((vic (m.map (·.1))).1:Int),.bool (vic (m.map (·.1))).2.2])/\Below W.heap.size W w':=by
 have h1:=jhd m ta m.length tc W h.tabOf (jbw h.tabOf hq.fine) (hG.below h.below);rw[jhL,jgU,hq.right,if_pos rfl,Bool.true_and] at h1;exact h1
end
theorem jpx {x:Ser} {p:SerP} {W:World} (hx:x.good) (hm:jbv x=true) (hp:p.ss.At W.heap.size W x.sk) :
  Calls Tryz.prog 42 #[.agg #[.int .i64 x.sk.kind,.int .i64 x.sk.level,.slice p.ss.ea p.ss.el p.ss.ec,.int .i64 x.sk.hb,.string x.sk.hr,.int .i64 x.sk.cr,.int .i64 x.sk.cc,.slice p.ss.ca p.ss.cl p.ss.cc,.int .i64 x.sk.gf,.slice p.ss.ga p.ss.gl p.ss.gc]] W fun e w'=>∃ (y:Sk) (s:SS),y=jeY x.sk/\e=.returned (.tuple #[.agg #[.int .i64 y.kind,.int .i64 y.level,.slice s.ea s.el s.ec,.int .i64 y.hb,.string y.hr,.int .i64 y.cr,.int .i64 y.cc,.slice s.ca s.cl s.cc,.int .i64 y.gf,.slice s.ga s.gl s.gc],.int .i64 0])/\s.At w'.heap.size w' y/\s.From W.heap.size/\Below W.heap.size W w':=by
 obtain⟨k,L,B,e,hB⟩:=hx.sk;have hx2:x=⟨x.l,jb6 k L B,x.seen⟩:=by rw[<- e]
 have hlt:L<jdr k:=by rw[hx2,jjf hB] at hm;simpa using hm
 refine (jlq (w:=W) (v:=.agg #[.int .i64 x.sk.kind,.int .i64 x.sk.level,.slice p.ss.ea p.ss.el p.ss.ec,.int .i64 x.sk.hb,.string x.sk.hr,.int .i64 x.sk.cr,.int .i64 x.sk.cc,.slice p.ss.ca p.ss.cl p.ss.cc,.int .i64 x.sk.gf,.slice p.ss.ga p.ss.gl p.ss.gc]) hB hlt ⟨x.sk,p.ss,e,rfl,hp⟩).mono ?_;rintro e' w' ⟨v,h1,⟨y,s,hy,rfl,hA,hF⟩,hb⟩;exact⟨y,s,by rw[hy,e,jfV hB],h1,hA,hF,hb⟩
def jrW (F:Nat) (W:World):Nat:=match W.cell? ⟨F,0,none⟩ with
 | some (.slice _ n _)=>n
 | _=>0
theorem jnD {F:Nat} {W:World} {a:Option Addr} {n c:Nat} {T:Value} {t:TypeId} {f:Nat × Nat} (h:W.heap[F]? = some (.cells #[.slice a n c,T] t f)):jrW F W=n:=by
 have h1:W.cell? ⟨F,0,none⟩=some (.slice a n c):=cCc h 0;unfold jrW;rw[h1]
theorem jk3:∀ l:List Ser,(∀ x∈l,0<=x.sk.level)->mu l<=4*l.length
 | [],_=>Nat.le_refl _
 | x::r,h=>by
  have h1:=jk3 r fun y hy=>h y (List.mem_cons_of_mem _ hy)
  have h2:=h x List.mem_cons_self;have h3:jal x.sk.kind<=4:=by unfold jal;repeat' split;all_goals omega
  show jhb x+mu r<=_;unfold jhb;simp only[List.length_cons];omega
theorem QT.mu {l:List Ser} (h:QT l):mu l<=80:=by
 have h1:=jk3 l fun x hx=>by obtain⟨k,L,B,e,-⟩:=(h.good x hx).sk;rw[e,(jaD k L B).2];omega
 have h2:=h.len;omega
theorem GrowS.weak {base base':Nat} {q q':Nat->Prop} {W:World} {v:Value} {l:List (Ser × SerP)} (h:GrowS base q W v l) (hb:base'<=base) (hq:∀ b,b<W.heap.size->q b->q' b):GrowS base' q' W v l:=by
 refine⟨⟨h.own.1,h.own.2.imp id ?_⟩,h.at_,fun e he=>((h.at_ e he).off.and (h.off e he)).imp fun b hb=>⟨hq b hb.1 hb.2.1,hb.2.2⟩⟩;rintro⟨g,cap,cur,h1,h2,h3⟩;exact⟨g,cap,cur,h1,by omega,h3⟩
theorem FitAt.start {w w2 w3 W:World} {m:List (Ser × SerP)} {v:Value} (h:GrowS w2.heap.size (w2.heap.size <= ·) w3 v m) (hX:W.heap[w3.heap.size]? = some (.cells #[.slice none 0 0,v] 78 (0,0))) (hB:Below w3.heap.size w3 W) (h1:Below w.heap.size w w2) (h3:Below w2.heap.size w2 w3):FitAt w w3.heap.size W m v (.slice none 0 0) []:=by
 have hs1:=h1.size;have hs3:=h3.size;have h2:=h.weak (base':=w.heap.size) (q':=fun b=>w.heap.size<=b/\b≠w3.heap.size/\some b≠Value.ownBlock (.slice none 0 0)) hs1 (fun b hb hq=>⟨by omega,by omega,fun e=>by cases e⟩);refine⟨h2.go hB,hX,by omega,fun e=>?_,World.ownsRow_nil _ _ _ _,(fun e=>by cases e),(fun b e=>by cases e),h1.trans ((h3.trans (hB.mono hs3)).mono hs1)⟩;have:=(h.own.lt _ e.symm).2;omega
set_option maxRecDepth 100000 in
set_option maxHeartbeats 4000000 in
theorem jjP (b:Int) (l:List (Ser × SerP)) (a:Option Addr) (len cap:Nat) (w:World) (hT:Tab w.heap.size w a len cap l) (hF:jbu l) (hQ:jag (l.map (·.1))=true->QT (l.map (·.1))) (hG:GW w) :
  Calls Tryz.prog 8 #[.slice a len cap,.int .i64 b] w (FitPost b (l.map (·.1)) w):=by
 have hR:=ja2 l a len cap w hT hF hG;have hlen:=hT.row.1.1;subst hlen;have HT:=Lib.hid hT;have HF:=Lib.hid hF;have HG:=Lib.hid hG;clear hT hF hG
 cases hr:jag (l.map (·.1)) with
 | false =>
  rw[hr] at hR;have HE:Hid (∀ w',Below w.heap.size w w'->FitPost b (l.map (·.1)) w (.returned (.tuple #[.slice none 0 0,.slice none 0 0,.int .i64 120])) w'):=fun w' hb=>FitPost.no (by unfold jas;rw[hr];rfl) hb
  clear hr hQ;generalize FitPost b (l.map (·.1)) w=Q at HE ⊢;go_enter Tryz.func8,Tryz.ntmps8;go_wp2_with (go_at_call 39;refine hR.mono ?_;rintro e w1 ⟨rfl,hb1⟩);go_ret3;exact HE.out _ hb1
 | true =>
  rw[hr] at hR
  cases hbu:jav b with
  | false =>
   have HE:Hid (∀ w',Below w.heap.size w w'->FitPost b (l.map (·.1)) w (.returned (.tuple #[.slice none 0 0,.slice none 0 0,.int .i64 130])) w'):=fun w' hb=>FitPost.no (by unfold jas;rw[hr,hbu];rfl) hb
   have HI:Hid (∀ w,Calls Tryz.prog 40 #[.int .i64 b] w fun e w'=>e=.returned (.bool false)/\w'=w):=fun w=>(jdP b w).mono fun e w' ⟨h1,h2⟩=>⟨by rw[h1,hbu],h2⟩
   clear hr hQ hbu;generalize FitPost b (l.map (·.1)) w=Q at HE ⊢;go_enter Tryz.func8,Tryz.ntmps8
   go_wp2_with (first
    | (go_at_call 39;refine hR.mono ?_;rintro e w1 ⟨rfl,hb1⟩)
    | (go_at_call 40;refine (HI.out _).mono ?_;rintro e w2 ⟨rfl,rfl⟩))
   go_ret3;exact HE.out _ hb1
  | true =>
   have HI:Hid (∀ w,Calls Tryz.prog 40 #[.int .i64 b] w fun e w'=>e=.returned (.bool true)/\w'=w):=fun w=>(jdP b w).mono fun e w' ⟨h1,h2⟩=>⟨by rw[h1,hbu],h2⟩
   have HQ:=Lib.hid (hQ hr);have HE:Hid (∀ w',fit b (l.map (·.1))=none->Below w.heap.size w w'->FitPost b (l.map (·.1)) w (.returned (.tuple #[.slice none 0 0,.slice none 0 0,.int .i64 130])) w'):=fun w' hn hb=>FitPost.no (by unfold jas;rw[hr,hbu,hn];rfl) hb
   have HD:Hid (∀ (F:Nat) (m:List (Ser × SerP)) (ta:Option Addr) (tc:Nat) (pa:Option Addr) (pc:Nat) (ps:List Nat) W,fit b (l.map (·.1))=some (m.map (·.1),ps)->FitAt w F W m (.slice ta m.length tc) (.slice pa ps.length pc) ps->FitPost b (l.map (·.1)) w (.returned (.tuple #[.slice ta m.length tc,.slice pa ps.length pc,.int .i64 0])) W):=fun F m ta tc pa pc ps W hn h=>h.post (by unfold jas;rw[hr,hbu,hn];rfl)
   have HC:Hid (∀ w',Below w.heap.size w w'->Calls Tryz.prog 41 #[.slice a l.length cap] w' fun e w''=>∃ v m,e=.returned v/\GrowS w'.heap.size (w'.heap.size <= ·) w'' v m/\m.map (·.1)=l.map (·.1)/\Below w'.heap.size w' w''):=fun w' hb=>jhm l a l.length cap w' (HT.out.go hb) (jfY hr HF.out HT.out) (by have:=((jaK _).1 hr).1;rw[List.length_map] at this;omega)
   have hbb:0<=b/\b<=1000000:=by simpa [jav] using hbu
   obtain⟨hv0,hv1⟩:=hbb;clear hr hQ hbu;generalize FitPost b (l.map (·.1)) w=Q at HE HD ⊢;go_enter Tryz.func8,Tryz.ntmps8
   go_wp2_with (first
    | (go_at_call 39;refine hR.mono ?_;rintro e w1 ⟨rfl,hb1⟩)
    | (go_at_call 40;refine (HI.out _).mono ?_;rintro e w2 ⟨rfl,rfl⟩)
    | (go_at_call 41;refine (HC.out _ hb1).mono ?_;rintro e w3 ⟨tv,m,rfl,hgr,hm,hb3⟩;obtain⟨ta,tc,rfl⟩:=hgr.form))
   obtain⟨W4,hW4,hX4,hB4,hs4⟩:=jah w3 #[.slice none 0 0,.slice ta m.length tc] 78;have HA0:=Lib.hid (FitAt.start hgr hX4 hB4 hb1 hb3);have HM0:=Lib.hid hm;generalize w3.heap.size=F at *;rw[hW4];clear hW4 hX4 hB4 hs4 hgr hb3 hb1 hR HC HI hm;go_loopw [8] (fun _ wr=>∃ (m:List (Ser × SerP)) (ta:Option Addr) (tc:Nat) (pa:Option Addr) (pc:Nat) (ps:List Nat),Hid (FitAt w F wr m (.slice ta m.length tc) (.slice pa ps.length pc) ps)/\Hid (QT (m.map (·.1)))/\Hid (fit b (l.map (·.1))=(fit b (m.map (·.1))).map fun r=>(r.1,ps++r.2))/\ps.length+mu (m.map (·.1))<=80) (fun _ wr=>100-jrW F wr)
   case atStart =>
    refine⟨m,ta,tc,none,0,[],HA0.out,by rw[HM0.out];exact HQ.out,?_,?_⟩
    ·rw[HM0.out]
     cases fit b (l.map (·.1))<;>rfl
    ·rw[HM0.out]
     have:=HQ.out.mu;simpa using this
   case round =>
    obtain⟨m,ta,tc,pa,pc,ps,HA,HQm,HFt,hmu⟩:=hrel;have hbx:=HA.out.box;have hFl:=(Array.getElem?_eq_some_iff.1 hbx).1;have c1:wr.cell? ⟨F,1,none⟩=some (.slice ta m.length tc):=cCc hbx 1;have HCo:=Lib.hid (HA.out.cost HQm.out HG.out);have hcs:=jbp m _ _ HA.out.tab.at_ (jbw HA.out.tabOf HQm.out.fine);have h20:m.length<=20:=by have:=HQm.out.len;rwa [List.length_map] at this
    clear hbx;by_cases hc:jaw (m.map (·.1))<=b
    ·have H9:Hid (fit b (l.map (·.1))=some (m.map (·.1),ps)):=by rw[Hid,HFt.out,jfR hc,Option.map_some,List.append_nil]
     generalize jaw (m.map (·.1))=cc at HCo hcs hc;obtain⟨k0,k1⟩:=hcs;have hk2:cc<=4400000000000:=by omega
     clear k1 hmu;go_wp2_with (go_at_call 37;refine HCo.out.mono ?_;rintro e w5 ⟨rfl,hb5⟩);have HA5:=Lib.hid (HA.out.go hb5);obtain⟨d0,d1⟩:=cl2 HA5.out.box;go_wp2_with fail;go_quiet (fail);go_wp2_with fail;go_ret3;exact HD.out F m ta tc pa pc ps _ H9.out (HA5.out.go (bDr (Below.refl _ _) _))
    ·have hc':b<jaw (m.map (·.1)):=by omega
     have HVi:Hid (∀ W,FitAt w F W m (.slice ta m.length tc) (.slice pa ps.length pc) ps->Calls Tryz.prog 10 #[.slice ta m.length tc] W fun e w'=>e=.returned (.tuple #[.int .i64 ((vic (m.map (·.1))).1:Int),.bool (vic (m.map (·.1))).2.2])/\Below W.heap.size W w'):=fun W h=>h.vict HQm.out HG.out
     cases hv:jbK (m.map (·.1)) with
     | none =>
      have H9:Hid (fit b (l.map (·.1))=none):=by rw[Hid,HFt.out,jeJ hc' hv];rfl
      have hvf:=(jkI hv).1;rw[hvf] at HVi;generalize jaw (m.map (·.1))=cc at HCo hcs hc hc';generalize (vic (m.map (·.1))).1=vv at HVi;obtain⟨k0,k1⟩:=hcs;have hk2:cc<=4400000000000:=by omega
      clear k1 hmu hv hvf hc
      go_wp2_with (first
       | (go_at_call 37;refine HCo.out.mono ?_;rintro e w5 ⟨rfl,hb5⟩;have HA5:=Lib.hid (HA.out.go hb5);have d1:w5.cell? ⟨F,1,none⟩=some (.slice ta m.length tc):=cCc HA5.out.box 1)
       | (go_at_call 10;refine (HVi.out _ HA5.out).mono ?_;rintro e w6 ⟨rfl,hb6⟩))
      go_ret3;exact HE.out _ H9.out (HA5.out.go hb6).below
     | some v =>
      obtain⟨hf1,hf2,hvl,x,hx,hm⟩:=jcW hv;have hstep:=jhZ HQm.out hc' hv;have hmul:=jjg HQm.out hx hm;have hql:=HQm.out.low hx hm;have hlo:=jeT hx;rw[hf1,hf2] at HVi;rw[List.length_map] at hvl;obtain⟨⟨z,p⟩,hxm⟩:∃ e,m[v]? = some e:=⟨_,List.getElem?_eq_getElem hvl⟩
      obtain rfl:z=x:=by
       have h1:(m.map (·.1))[v]? = some z:=by rw[List.getElem?_map,hxm];rfl
       rw[hx] at h1;exact (Option.some.inj h1).symm
      have HXM:=Lib.hid hxm
      obtain⟨g,rfl⟩:∃ g,ta=some ⟨g,0,none⟩:=by
       rcases HA.out.tab.own.2 with⟨h1,h2⟩ | ⟨g,cap,cur,h1,_⟩
       ·omega
       ·injection h1 with h1
        exact⟨g,h1⟩
      have HLo:Hid (∀ W,FitAt w F W m (.slice (some ⟨g,0,none⟩) m.length tc) (.slice pa ps.length pc) ps->Calls Tryz.prog 42 #[.agg #[.int .i64 z.sk.kind,.int .i64 z.sk.level,.slice p.ss.ea p.ss.el p.ss.ec,.int .i64 z.sk.hb,.string z.sk.hr,.int .i64 z.sk.cr,.int .i64 z.sk.cc,.slice p.ss.ca p.ss.cl p.ss.cc,.int .i64 z.sk.gf,.slice p.ss.ga p.ss.gl p.ss.gc]] W fun e w'=>∃ (y:Sk) (s:SS),y=jeY z.sk/\e=.returned (.tuple #[.agg #[.int .i64 y.kind,.int .i64 y.level,.slice s.ea s.el s.ec,.int .i64 y.hb,.string y.hr,.int .i64 y.cr,.int .i64 y.cc,.slice s.ca s.cl s.cc,.int .i64 y.gf,.slice s.ga s.gl s.gc],.int .i64 0])/\s.At w'.heap.size w' y/\s.From W.heap.size/\Below W.heap.size W w'):=fun W h=>jpx (HQm.out.good z (List.mem_of_getElem? hx)) hm (h.tab.at_ _ (List.mem_of_getElem? HXM.out)).s
      have HNext:Hid (∀ (y:Sk) (s:SS),y=jeY z.sk->(m.set v (⟨z.l,y,z.seen⟩,(⟨p.la,p.ll,p.lc,s⟩:SerP))).map (fun e:Ser × SerP=>e.1)=jcY (m.map (·.1)) v):=fun y s hy=>by
       rw[List.map_set,hlo,hy];rfl
      have HStep:Hid (fit b (l.map (·.1))=(fit b (jcY (m.map (·.1)) v)).map fun r=>(r.1,(ps++[v])++r.2)):=by
       rw[Hid,HFt.out,hstep,Option.map_map];congr 1;funext r;simp
      have HQl:=Lib.hid hql;have HMu:Hid ((ps++[v]).length+mu (jcY (m.map (·.1)) v)<=80):=by rw[Hid,List.length_append];simp;omega
      have hps:ps.length<80:=by omega
      generalize jcY (m.map (·.1)) v=L2 at HNext HStep HQl HMu;generalize jaw (m.map (·.1))=cc at HCo hcs hc hc';obtain⟨k0,k1⟩:=hcs;have hk2:cc<=4400000000000:=by omega
      clear k1 hmu hv hc hf1 hf2 hx hm hstep hmul hql hlo hxm
      go_wp2_with (first
       | (go_at_call 37;refine HCo.out.mono ?_;rintro e w5 ⟨rfl,hb5⟩;have HA5:=Lib.hid (HA.out.go hb5);have d1:w5.cell? ⟨F,1,none⟩=some (.slice (some ⟨g,0,none⟩) m.length tc):=cCc HA5.out.box 1)
       | (go_at_call 10;refine (HVi.out _ HA5.out).mono ?_;rintro e w6 ⟨rfl,hb6⟩;have HA6:=Lib.hid (HA5.out.go hb6);have f1:w6.cell? ⟨F,1,none⟩=some (.slice (some ⟨g,0,none⟩) m.length tc):=cCc HA6.out.box 1;have e1:w6.cell? ⟨g,v*12+1,none⟩=some (.int .i64 z.sk.kind):=jaf HA6.out.tab.own (jaj (i:=1) HXM.out (by decide));have e2:w6.cell? ⟨g,v*12+2,none⟩=some (.int .i64 z.sk.level):=jaf HA6.out.tab.own (jaj (i:=2) HXM.out (by decide));have e3:w6.cell? ⟨g,v*12+3,none⟩=some (.slice p.ss.ea p.ss.el p.ss.ec):=jaf HA6.out.tab.own (jaj (i:=3) HXM.out (by decide));have e4:w6.cell? ⟨g,v*12+4,none⟩=some (.int .i64 z.sk.hb):=jaf HA6.out.tab.own (jaj (i:=4) HXM.out (by decide));have e5:w6.cell? ⟨g,v*12+5,none⟩=some (.string z.sk.hr):=jaf HA6.out.tab.own (jaj (i:=5) HXM.out (by decide));have e6:w6.cell? ⟨g,v*12+6,none⟩=some (.int .i64 z.sk.cr):=jaf HA6.out.tab.own (jaj (i:=6) HXM.out (by decide));have e7:w6.cell? ⟨g,v*12+7,none⟩=some (.int .i64 z.sk.cc):=jaf HA6.out.tab.own (jaj (i:=7) HXM.out (by decide));have e8:w6.cell? ⟨g,v*12+8,none⟩=some (.slice p.ss.ca p.ss.cl p.ss.cc):=jaf HA6.out.tab.own (jaj (i:=8) HXM.out (by decide));have e9:w6.cell? ⟨g,v*12+9,none⟩=some (.int .i64 z.sk.gf):=jaf HA6.out.tab.own (jaj (i:=9) HXM.out (by decide));have e10:w6.cell? ⟨g,v*12+10,none⟩=some (.slice p.ss.ga p.ss.gl p.ss.gc):=jaf HA6.out.tab.own (jaj (i:=10) HXM.out (by decide));clear HVi HCo)
       | (go_at_call 42;refine (HLo.out _ HA6.out).mono ?_;rintro e w7 ⟨y,s,hy,rfl,hsA,hsF,hb7⟩;have HY:=Lib.hid hy;clear hy))
      obtain⟨W8,hW8,hX8,hB8,hs8⟩:=jah w7 #[.int .i64 y.kind,.int .i64 y.level,.slice s.ea s.el s.ec,.int .i64 y.hb,.string y.hr,.int .i64 y.cr,.int .i64 y.cc,.slice s.ca s.cl s.cc,.int .i64 y.gf,.slice s.ga s.gl s.gc] 50;have HA8:=Lib.hid ((HA6.out.go hb7).go hB8);have hsz6:=HA6.out.below.size;have hsz7:=hb7.size;have hsz8:=hB8.size;have hg6:=jft HA6.out.tab.own;have hF6:=(Array.getElem?_eq_some_iff.1 HA6.out.box).1;have hp6:=HA6.out.own.lt;have hlo6:=HA6.out.lo;obtain⟨V,hV,hVO,hVA,hVB⟩:=jes y s HA8.out.tab.own HXM.out;have HV:=Lib.hid (HA8.out.low HXM.out hVA hVB hVO (hsA.go hB8) ⟨w6.heap.size,hsF,hg6,hsz6,hF6,fun b hb=>(hp6 b hb).2⟩);obtain⟨r0,r1,r2,r3,r4,r5,r6,r7,r8,r9⟩:=jaL hX8;have q1:W8.cell? ⟨F,1,none⟩=some (.slice (some ⟨g,0,none⟩) m.length tc):=cCc HA8.out.box 1;have s1:W8.cell? ⟨g,v*12+1,none⟩=some (.int .i64 z.sk.kind):=jaf HA8.out.tab.own (jaj (i:=1) HXM.out (by decide));have t1:W8.frozen? ⟨g,v*12+1,none⟩=false:=jao HA8.out.tab.own _;have s2:W8.cell? ⟨g,v*12+2,none⟩=some (.int .i64 z.sk.level):=jaf HA8.out.tab.own (jaj (i:=2) HXM.out (by decide));have t2:W8.frozen? ⟨g,v*12+2,none⟩=false:=jao HA8.out.tab.own _;have s3:W8.cell? ⟨g,v*12+3,none⟩=some (.slice p.ss.ea p.ss.el p.ss.ec):=jaf HA8.out.tab.own (jaj (i:=3) HXM.out (by decide));have t3:W8.frozen? ⟨g,v*12+3,none⟩=false:=jao HA8.out.tab.own _;have s4:W8.cell? ⟨g,v*12+4,none⟩=some (.int .i64 z.sk.hb):=jaf HA8.out.tab.own (jaj (i:=4) HXM.out (by decide))
      have t4:W8.frozen? ⟨g,v*12+4,none⟩=false:=jao HA8.out.tab.own _;have s5:W8.cell? ⟨g,v*12+5,none⟩=some (.string z.sk.hr):=jaf HA8.out.tab.own (jaj (i:=5) HXM.out (by decide));have t5:W8.frozen? ⟨g,v*12+5,none⟩=false:=jao HA8.out.tab.own _;have s6:W8.cell? ⟨g,v*12+6,none⟩=some (.int .i64 z.sk.cr):=jaf HA8.out.tab.own (jaj (i:=6) HXM.out (by decide));have t6:W8.frozen? ⟨g,v*12+6,none⟩=false:=jao HA8.out.tab.own _;have s7:W8.cell? ⟨g,v*12+7,none⟩=some (.int .i64 z.sk.cc):=jaf HA8.out.tab.own (jaj (i:=7) HXM.out (by decide));have t7:W8.frozen? ⟨g,v*12+7,none⟩=false:=jao HA8.out.tab.own _;have s8:W8.cell? ⟨g,v*12+8,none⟩=some (.slice p.ss.ca p.ss.cl p.ss.cc):=jaf HA8.out.tab.own (jaj (i:=8) HXM.out (by decide));have t8:W8.frozen? ⟨g,v*12+8,none⟩=false:=jao HA8.out.tab.own _;have s9:W8.cell? ⟨g,v*12+9,none⟩=some (.int .i64 z.sk.gf):=jaf HA8.out.tab.own (jaj (i:=9) HXM.out (by decide));have t9:W8.frozen? ⟨g,v*12+9,none⟩=false:=jao HA8.out.tab.own _;have s10:W8.cell? ⟨g,v*12+10,none⟩=some (.slice p.ss.ga p.ss.gl p.ss.gc):=jaf HA8.out.tab.own (jaj (i:=10) HXM.out (by decide));have t10:W8.frozen? ⟨g,v*12+10,none⟩=false:=jao HA8.out.tab.own _;rw[hW8];clear e1 e2 e3 e4 e5 e6 e7 e8 e9 e10 d1 f1 hX8 hW8 hB8 hVO hVA hVB hsA hsF;go_region;clear s1 s2 s3 s4 s5 s6 s7 s8 s9 s10 t1 t2 t3 t4 t5 t6 t7 t8 t9 t10 r0 r1 r2 r3 r4 r5 r6 r7 r8 r9 q1 hV;have HVd:=Lib.hid (HV.out.go ((Below.refl V.heap.size V).drew))
      have HTl:=Lib.hid (jnE F w.heap.size _ _ ps v V.drew HVd.out.box HVd.out.lo HVd.out.own HVd.out.pF (by omega));go_wp2_with (go_at_call 43;refine HTl.out.mono ?_;rintro e w9 ⟨rfl,htold⟩);obtain⟨pv',HA9⟩:=HVd.out.told htold;obtain⟨pa',pc',rfl⟩:=jcj HA9.own;have HA9':=Lib.hid HA9;have hpl:jrW F w9=(ps++[v]).length:=jnD HA9.box;have hpl0:jrW F wr=ps.length:=jnD HA.out.box;clear HA9 htold;go_roundw
      case rel=>exact⟨m.set v (⟨z.l,y,z.seen⟩,⟨p.la,p.ll,p.lc,s⟩),some ⟨g,0,none⟩,tc,pa',pc',ps++[v],HA9'.out,by rw[HNext.out y s HY.out];exact HQl.out,by rw[HNext.out y s HY.out];exact HStep.out,by rw[HNext.out y s HY.out];exact HMu.out⟩
      case measure=>rw[hpl,hpl0,List.length_append];simp;omega
end Go.Proofs.YtieknocphiceoaaGreatDoor
namespace Go.Proofs.YtieknocphiceoaaGreatDoor
open Go Go.RowKit Go.Shelf
attribute [-go_sem] Builtin.append_
theorem GrowS.setS {base g c k n:Nat} {q:Nat->Prop} {W W':World} {m:List (Ser × SerP)} {x:Ser} {p:SerP} {y:Sk} {s:SS} (h:GrowS base q W (.slice (some ⟨g,0,none⟩) m.length c) m) (hx:m[k]? = some (x,p)) (hA:Apart g W W')
  (hO:W'.ownsRow base 70 12 (.slice (some ⟨g,0,none⟩) m.length c) m.length ((m.set k (⟨x.l,y,x.seen⟩,⟨p.la,p.ll,p.lc,s⟩)).flatMap ja4)) (hs:s.At W.heap.size W y) (hf:s.From n) (hg:g<n) (hq:∀ b,n<=b->q b) :
  GrowS base q W' (.slice (some ⟨g,0,none⟩) (m.set k (⟨x.l,y,x.seen⟩,(⟨p.la,p.ll,p.lc,s⟩:SerP))).length c) (m.set k (⟨x.l,y,x.seen⟩,⟨p.la,p.ll,p.lc,s⟩)):=by
 have hlen:(m.set k (⟨x.l,y,x.seen⟩,(⟨p.la,p.ll,p.lc,s⟩:SerP))).length=m.length:=List.length_set ..;have hxm:=List.mem_of_getElem? hx
 have key:∀ e∈m.set k (⟨x.l,y,x.seen⟩,(⟨p.la,p.ll,p.lc,s⟩:SerP)),e.2.At W.heap.size W e.1/\e.2.Off (fun b=>q b/\some b≠Value.ownBlock (.slice (some ⟨g,0,none⟩) m.length c)):=fun e he=>by
  rcases List.mem_or_eq_of_mem_set he with he | rfl
  ·exact⟨h.at_ e he,h.off e he⟩
  ·have h1:=h.at_ _ hxm
   have h2:=h.off _ hxm
   have hk:∀ b,n<=b->q b/\some b≠Value.ownBlock (.slice (some ⟨g,0,none⟩) m.length c):=fun b hb=>by
    refine⟨hq b hb,fun e=>?_⟩;injection e with e;simp at e;omega
   exact⟨⟨h1.l,hs⟩,⟨h2.l,fun z hz _=>hk _ (hf.1 z hz),fun z hz _=>hk _ (hf.2.1 z hz),fun z hz _=>hk _ (hf.2.2 z hz)⟩⟩
 rw[hlen];refine⟨by rw[hlen];exact hO,fun e he=>?_,fun e he=>(key e he).2⟩;obtain⟨h1,h2⟩:=key e he;exact (h1.frame (h2.imp (r:=(· ≠ g)) fun b hb e=>hb.2 (by rw[e];rfl)) hA.2).mono hA.1
end Go.Proofs.YtieknocphiceoaaGreatDoor
