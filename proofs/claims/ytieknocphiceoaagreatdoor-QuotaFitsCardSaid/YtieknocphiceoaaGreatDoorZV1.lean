/- Package ladder: to. Package ladder: New. Printed by gen_lj.py. Laws of layer 10: items; New, whatever the kind. What rows have in common: sketches opened, with their counters' columns. Printed by gen_rkw.py. What rows have in common: series opened, with their sketches' columns. Printed by gen_rkt.py. The plain law of tables: labels are in a strict order; a series put in is inserted; two of different labels may be put in either way about. No program. Package ladder: told, Lower, To: the lists of what is told lie in new memory. Printed by gen_lr.py. series.Meant; what a scope means, in plain data. What SeriesOrders and SeriesOwn have in common: boxes of series that are stored into; Put as a function. -/
import Derived.Test.YtieknocphiceoaaGreatDoorZT9
namespace Go.Proofs.YtieknocphiceoaaGreatDoor
open Go Go.RowKit Go.Shelf
attribute [local go_sem] Oper.semAt_some
theorem jgS {P:Program} {g:Operand} {ps:Array Tmp} {assign body:Code} {Q:Exit->Act->World->Prop} {a:Act} {w:World} {id:Nat} (L:List Nat) (s1:Nat)
  {gf:Nat} {lb:Array Value} (hg:a.eval g=.func (.func gf) #[] lb) (eg:∀ args w,(callFunc gf args).run P w=.ok (.enter gf args) w)
  {enc:Nat->Value} {M:Nat} (hseq:jmk P gf lb enc L M w) (hL:∀ b∈L,b<w.heap.size) (hps:ps.size=1)
  (I:Nat->World->Prop) (Ib:World->Prop) (hI:OwnFrom w.heap.size I) (hIb:OwnFrom w.heap.size (fun (_:Unit) W=>Ib W)) (hM:∀ k W,I k W->k<M) (h0:I 0 w)
  (hassign:∀ (l k:Nat) (W:World) (K:Act->World->Prop),I k W->K { tmps:=((ps.zip #[enc k]).foldl (fun t (p,v)=>t.setIfInBounds p v) a.tmps).setIfInBounds s1 (enc k),defers:=[] } W ->
   assign.wpIn (Fence.wide.inRound l) 7 P (Exit.then K (fun _ _ _=>False)) { tmps:=(ps.zip #[enc k]).foldl (fun t (p,v)=>t.setIfInBounds p v) a.tmps,defers:=[] } W)
  (hbody:∀ (l k:Nat) (W:World),I k W->body.wpIn (Fence.wide.inRound l) 7 P (ownPostG w.heap.size (KL L) (fun (_:List Unit)=>I (k+1)) (fun c (_:List Unit) W=>c=.exit id/\Ib W) [] W) { tmps:=((ps.zip #[enc k]).foldl (fun t (p,v)=>t.setIfInBounds p v) a.tmps).setIfInBounds s1 (enc k),defers:=[] } W)
  (hfin:∀ (D:Nat) (W:World),w.heap.size<=D->Ib W->W.heap[D]? = some (.deferred (some []))->Q .normal { a with defers:={ target:=.collected D,args:=#[] }::a.defers } W) :
  (Code.rangeFunc g ps assign body).wp P (Exit.inBlock id Q) a w :=
 jhc L (fun k=>((ps.zip #[enc k]).foldl (fun t (p,v)=>t.setIfInBounds p v) a.tmps).setIfInBounds s1 (enc k)) hg eg hseq hL hps I Ib hI hIb hM h0 hassign hbody hfin
theorem jkl {α:Type} {enc:α->List Value} {k C:Nat} (henc:∀ x,(enc x).length=k) {X Y:World} {row:Option Nat} {a:Option Addr} {len cap:Nat} {l:List α} (hs:SlC enc k X.heap.size X a len cap l) (hg:X.grownBy Y row) (hr:∀ r,row=some r->C<=r/\∃ o:Obj,X.heap[r]? = some o/\o.isCells=false):SlC enc k Y.heap.size Y a len cap l:=by
 have h1:SlC enc k X.heap.size Y a len cap l:=⟨⟨hs.1.1,fun j x hx=>by
  obtain⟨b,off,e,hb,hc⟩:=hs.1.2 j x hx;refine⟨b,off,e,hb,fun i hi=>?_⟩;have h2:=hc i hi;have h3:(enc x)[i]? = some ((enc x)[i]'(by rw[henc];exact hi)):=List.getElem?_eq_getElem _;rw[h3] at h2 ⊢;exact joY h2 hg (fun r h=>(hr r h).2)⟩,hs.2⟩
 exact h1.mono hg.size
theorem jrR {C:Nat} {X Y:World} {row:Option Nat} {v:Value} {B:Bd} (h:BdAt X v B) (hg:X.grownBy Y row) (hr:∀ r,row=some r->C<=r/\∃ o:Obj,X.heap[r]? = some o/\o.isCells=false):BdAt Y v B:=by
 cases B with
 | num l=>obtain⟨a,len,cap,h1,h2⟩:=h;exact⟨a,len,cap,h1,jkl (enc:=jbH) (fun _=>rfl) h2 hg hr⟩
 | reg b r=>exact h
 | cnt c l=>obtain⟨a,len,cap,h1,h2⟩:=h;exact⟨a,len,cap,h1,jkl (enc:=jbH) (fun _=>rfl) h2 hg hr⟩
 | bkt f l=>obtain⟨a,len,cap,h1,h2⟩:=h;exact⟨a,len,cap,h1,jkl (enc:=jb5) (fun _=>rfl) h2 hg hr⟩
theorem jf4:∀ (k:Nat) (s:Nat × Bd),jc4 (k+1) s=jme (jc4 k s)
 | 0,_=>rfl
 | k+1,s=>jf4 k (jme s)
theorem jhX:∀ (k:Nat) (s:Nat × Bd),(jc4 k s).1=s.1+k
 | 0,_=>rfl
 | k+1,s=>by rw[jf4];show (jc4 k s).1+1=_;rw[jhX k s];omega
theorem jqG {k L n:Nat} {B:Bd} (h:B.Ok k L) (hn:L+n<=jdr k):(jc4 n (L,B)).2.Ok k (L+n):=by
 have h1:=(jkJ (L+n) hn _ (L,B) rfl h).1;have e:jdG (L,B) (L+n)=jc4 n (L,B):=by unfold jdG;rw[show L+n-(L,B).1=n by show L+n-L=n;omega]
 rw[e,jhX] at h1;exact h1
def jsw (W:World) (b:Nat) (v:Value) (kind:Nat) (level:Int):Prop:=W.heap[b]? = some (.cells #[v,.int .i64 kind,.int .i64 level] 122 (0,0))
def TI (B:Bd) (kind level t:Nat) (ti:Int) (w:World) (k:Nat) (W:World):Prop :=
 k<=t-level/\(∃ T rv,jsw W w.heap.size (.iface T rv) kind ((level:Int)+(k:Int))/\BdAt W (.iface T rv) (jc4 k (level,B)).2)/\Boxed W (w.heap.size+1) 3 (.int .i64 ti) /\
 W.heap[w.heap.size+2]? = some (.cells #[.nilIface,.int .i64 0,.int .i64 0] 122 (0,0))/\Boxed W (w.heap.size+3) 124 .nilIface/\Below w.heap.size w W
theorem jk8 {X Y:World} {row:Option Nat} {b:Nat} {cs:Array Value} {t:TypeId} {f:Nat × Nat} (h:X.heap[b]? = some (.cells cs t f)) (hg:X.grownBy Y row) (hr:∀ r,row=some r->∃ o:Obj,X.heap[r]? = some o/\o.isCells=false):Y.heap[b]? = some (.cells cs t f):=by
 refine (hg.block b (Array.getElem?_eq_some_iff.1 h).1 (fun e=>?_)).trans h;obtain⟨o,ho,h2⟩:=hr b e.symm;rw[h] at ho
 cases ho
 cases h2
theorem jqj (B:Bd) (kind level t:Nat) (ti:Int) (w:World) (C:Nat) (hC:w.heap.size<=C):OwnFrom C (TI B kind level t ti w):=fun k X Y row hs hg hr=>by
 obtain⟨h1,⟨T,rv,h2,h3⟩,h4,h5,h6,h7⟩:=hs;have hr':∀ r,row=some r->∃ o:Obj,X.heap[r]? = some o/\o.isCells=false:=fun r e=>(hr r e).2
 exact⟨h1,⟨T,rv,jk8 h2 hg hr',jrR h3 hg hr⟩,jk8 h4 hg hr',jk8 h5 hg hr',jk8 h6 hg hr',ownFrom_below (β:=Unit) (B:=C) (Nat.le_refl _) hC () X Y row h7 hg hr⟩
set_option maxRecDepth 100000 in
set_option maxHeartbeats 2000000 in
theorem jrp (v:Value) (B:Bd) (kind level t:Nat) (ti:Int) (w:World) (hb:BdAt w v B) (hok:B.Ok kind level) (ht:t<=jdr kind) (hti:ti=t\/(ti<0/\t=0)) :
  Calls Tryz.prog 98 #[.agg #[v,.int .i64 kind,.int .i64 level],.int .i64 ti] w fun e w'=>∃ v',e=.returned (.tuple #[.agg #[v',.int .i64 kind,.int .i64 ((jdG (level,B) t).1:Int)],.nilIface])/\BdAt w' v' (jdG (level,B) t).2/\Below w.heap.size w w':=by
 obtain⟨T,rv,rfl⟩:=jc0 hb;obtain⟨W0,hW0,hXp,hXl,hXr,hB0,hs0⟩:=jiQ w #[.iface T rv,.int .i64 kind,.int .i64 level] 122 #[.int .i64 ti] 3 #[.nilIface,.int .i64 0,.int .i64 0] 122;have HBT:Hid (∀ w,Calls Tryz.prog 48 #[.int .i64 kind] w fun e w'=>e=.returned (.int .i64 (jdr kind:Nat))/\w'=w):=fun w=>(jbi kind w).mono fun e w' ⟨h1,h2⟩=>⟨by rw[h1,(jfp hok).1],h2.symm⟩
 obtain⟨c0,c1,c2⟩:=cl3 hXp;have d0:W0.cell? ⟨w.heap.size+1,0,none⟩=some (.int .i64 ti):=cCc hXl 0;have hb4:jdr kind<=4:=by unfold jdr;split<;>omega
 have t1:decide ((jdr kind:Int)<ti)=false:=by rw[decide_eq_false_iff_not];omega
 have HXP:=Lib.hid hXp;have HXL:=Lib.hid hXl;have HXR:=Lib.hid hXr;have HB0:=Lib.hid hB0;have HB:=Lib.hid (hb.go hB0);have hlv:=jny hok;clear hXp hXl hXr hB0 hb;refine jaT Tryz.func98 rfl ?_;simp only[Tryz.ntmps98,List.size_toArray,List.length_cons,List.length_nil,Nat.reduceAdd,Nat.reduceSub,Array.replicate_succ,Array.replicate_zero,List.push_toArray,List.append_toArray,List.nil_append,List.cons_append];go_wp2_with fail;go_step3;go_wp2_with fail;go_quiet ((go_at_call 48;exact Calls.quiet_of_same (HBT.out _)));go_wp2_with fail;obtain⟨W3,hW3,hX3,hB3,hs3⟩:=jah (W0.drewN nq) #[.nilIface] 124;rw[hW3];have hz:(W0.drewN nq).heap.size=w.heap.size+3:=hs0;rw[hz] at hX3 hs3;have hB03:Below W0.heap.size W0 W3:=(jbB nq).trans hB3;have hXP3:=jak hB03 (Nat.le_refl _) HXP.out;have hXL3:=jak hB03 (Nat.le_refl _) HXL.out;have hXR3:=jak hB03 (Nat.le_refl _) HXR.out;obtain⟨p0,p1,p2⟩:=cl3 hXP3;obtain⟨W4,hW4,hX4,hB4,hs4⟩:=jah W3 #[.int .i64 level] 3;rw[hs3] at hX4 hs4;have HW4:=Lib.hid hW4;have HB3:=Lib.hid (hB03.trans (hB4.mono hB03.size))
 have h0:TI B kind level t ti w 0 W4:=by
  refine⟨Nat.zero_le _,⟨T,rv,?_,HB.out.go HB3.out⟩,jak hB4 (Nat.le_refl _) hXL3,jak hB4 (Nat.le_refl _) hXR3,jak hB4 (Nat.le_refl _) hX3,HB0.out.trans (HB3.out.mono HB0.out.size)⟩;have h:=jak hB4 (Nat.le_refl _) hXP3;show W4.heap[w.heap.size]? = some (.cells #[.iface T rv,.int .i64 kind,.int .i64 ((level:Int)+((0:Nat):Int))] 122 (0,0));rw[show (level:Int)+((0:Nat):Int)=level by omega];exact h
 have H0:=Lib.hid h0;have HX4:=Lib.hid hX4;have hz4:w.heap.size+5<=W4.heap.size:=by omega
 have HOK:=Lib.hid hok;clear hW4 hX3 hB3 hB03 hXP3 hXL3 hXR3 hX4 hB4 h0 hok c0 c1 c2 d0;apply wp_label;go_wp2_with (go_at_call 144;refine (jlN _ _).mono ?_;rintro e w' ⟨rfl,rfl⟩;rw[HW4.out])
 refine jgS [] 7 (gf:=181) (lb:=#[.pointer (some ⟨w.heap.size+3+1,0,none⟩)]) rfl (enters_of Tryz.func181 (by kernel_rfl) rfl)
  (jib (w.heap.size+3+1) level (t-level+1) W4 HX4.out (by omega)) (by intro k hk;cases hk) rfl (TI B kind level t ti w) (TI B kind level t ti w (t-level)) (jqj B kind level t ti w _ (by omega)) (fun _ X Y row h hg hr=>jqj B kind level t ti w _ (by omega) _ X Y row h hg hr) (fun k W h=>Nat.lt_succ_of_le h.1) H0.out ?assign ?body ?fin
 case assign =>
  rintro l k W K hI hK;simp only[List.zip_toArray,List.zip_cons_cons,List.zip_nil_right,List.size_toArray,List.foldl_toArray',List.foldl_cons,List.foldl_nil,List.setIfInBounds_toArray,List.set_cons_succ,List.set_cons_zero] at hK ⊢;gi_wp2;exact hK
 case body =>
  rintro lo k W ⟨hk,⟨T1,rv1,hW1,hb1⟩,hL1,hR1,hE1,hB1⟩;simp only[List.zip_toArray,List.zip_cons_cons,List.zip_nil_right,List.size_toArray,List.foldl_toArray',List.foldl_cons,List.foldl_nil,List.setIfInBounds_toArray,List.set_cons_succ,List.set_cons_zero];have c0:=hL1.cell;have e0:=hE1.cell;by_cases hlt:level+k<t
  ·have g1:decide (ti<=(level:Int)+(k:Int))=false:=by rw[decide_eq_false_iff_not];omega
   have hok1:=jqG HOK.out (show level+k<=jdr kind by omega);have HLow:=jgl _ _ kind (level+k) W hb1 hok1 (by omega);rw[Int.natCast_add] at HLow;have hW1':W.heap[w.heap.size]? = some (.cells #[.iface T1 rv1,.int .i64 kind,.int .i64 ((level:Int)+(k:Int))] 122 (0,0)):=hW1;obtain⟨d0,d1,d2⟩:=cl3 hW1';gi_wp2_with fail;refine⟨trivial,(CallsIn.inRound lo (callsIn_wide.2 HLow)).mono ?_⟩;rintro e W5 ⟨v5,rfl,hb5,hB5⟩;obtain⟨T5,rv5,rfl⟩:=jc0 hb5;have hW5:=jak hB5 (Nat.le_refl _) hW1';have hE5:W5.heap[w.heap.size+3]? = some (.cells #[.nilIface] 124 (0,0)):=jak hB5 (Nat.le_refl _) hE1;obtain⟨q0,q1,q2⟩:=cl3 hW5;obtain⟨f0,f1,f2⟩:=cz3 hW5;obtain⟨V,hV,hVX,hVO,hVB⟩:=jle (.iface T5 rv5) (.int .i64 kind) (.int .i64 ((level:Int)+(k:Int)+1)) hW5;have hEV:=(hVO.2 (w.heap.size+3) (by omega)).trans hE5;have u0:V.cell? ⟨w.heap.size+3,0,none⟩=some (.nilIface):=cCc hEV 0;have v0:V.frozen? ⟨w.heap.size+3,0,none⟩=false:=cFz hEV 0;have hse:V.setCell ⟨w.heap.size+3,0,none⟩ .nilIface=V:=jaa hEV rfl;have hbV:BdAt V (.iface T5 rv5) (jc4 (k+1) (level,B)).2:=by rw[jf4];exact BdAt.set_work hb5 hW5 (by simp) (by simp) (by simp) hVO
   have hKV:KeepsFrom W4.heap.size W V:=by
    rw[<- hV];exact (jkM hB5 (Nat.le_refl _)).trans ((((KeepsOthers.setCell _ _ _).from _).trans ((KeepsOthers.setCell _ _ _).from _)).trans ((KeepsOthers.setCell _ _ _).from _))
   have hXV:jsw V w.heap.size (.iface T5 rv5) kind ((level:Int)+((k+1:Nat):Int)):=by
    rw[show (level:Int)+((k+1:Nat):Int)=(level:Int)+(k:Int)+1 by omega];exact hVX
   have HT:Hid (TI B kind level t ti w (k+1) V):=⟨by omega,⟨T5,rv5,hXV,hbV⟩,(hVO.2 _ (by omega)).trans (jak hB5 (Nat.le_refl _) hL1),(hVO.2 _ (by omega)).trans (jak hB5 (Nat.le_refl _) hR1),hEV,hVB _ _ (hB1.trans (hB5.mono hB1.size)) (Nat.le_refl _)⟩;clear hVX hVO hVB hEV hbV hXV hE5 hW5 hb5 hB5;gi_wp2_with fail;exact⟨hKV,(fun b hb=>by cases hb),HT.out⟩
  ·have g1:decide (ti<=(level:Int)+(k:Int))=true:=by rw[decide_eq_true_iff];omega
   obtain rfl:k=t-level:=by omega
   have HT:Hid (TI B kind level t ti w (t-level) W):=⟨hk,⟨T1,rv1,hW1,hb1⟩,hL1,hR1,hE1,hB1⟩;clear hW1 hb1 hL1 hR1 hE1 hB1;gi_wp2_with fail;exact⟨KeepsFrom.refl _ _,rfl,HT.out⟩
 case fin =>
  rintro D W hD ⟨hk,⟨T1,rv1,hW1,hb1⟩,hL1,hR1,hE1,hB1⟩ hK;have hW1':W.heap[w.heap.size]? = some (.cells #[.iface T1 rv1,.int .i64 kind,.int .i64 ((level:Int)+((t-level:Nat):Int))] 122 (0,0)):=hW1
  have hlev:(level:Int)+((t-level:Nat):Int)=((jdG (level,B) t).1:Int):=by
   unfold jdG;rw[jhX];show _=((level+(t-level):Nat):Int);omega
  rw[hlev] at hW1';have hbd:BdAt W (.iface T1 rv1) (jdG (level,B) t).2:=hb1;obtain⟨L2,hL2⟩:∃ L2,(jdG (level,B) t).1=L2:=⟨_,rfl⟩;obtain⟨B2,hB2⟩:∃ B2,(jdG (level,B) t).2=B2:=⟨_,rfl⟩;rw[hL2] at hW1';rw[hB2] at hbd;have HL2:=Lib.hid hL2;have HB2:=Lib.hid hB2;clear hL2 hB2 hlev;have e0:=hE1.cell;obtain⟨d0,d1,d2⟩:=cl3 hW1';obtain⟨r0,r1,r2⟩:=cl3 hR1;obtain⟨f0,f1,f2⟩:=cz3 hR1;obtain⟨V,hV,hVX,hVO,hVB⟩:=jle (b:=w.heap.size+1+1) (.iface T1 rv1) (.int .i64 kind) (.int .i64 L2) hR1;have hbV:BdAt V.drew (.iface T1 rv1) B2:=(BdAt.set_work hbd hR1 (by simp) (by simp) (by simp) hVO).go (Below.refl _ _).drew;have hKV:V.drew.heap[D]? = some (.deferred (some [])):=(hVO.2 D (by omega)).trans hK;have hBV:Below w.heap.size w V.drew:=(hVB _ _ hB1 (by omega)).drew;have hXP:(V.drew.putObj D (.deferred none)).heap[w.heap.size+1+1]? = some (.cells #[.iface T1 rv1,.int .i64 kind,.int .i64 L2] 122 (0,0)):=(World.putObj_heap_other (by omega)).trans hVX;have HbV:=Lib.hid hbV;have HBV:=Lib.hid hBV;have HKV:=Lib.hid hKV;have HV:=Lib.hid hV;clear hbV hBV hKV hV hVX hVO hVB;go_wp2_with fail;go_region;rw[HV.out];go_wp2_with fail;rw[Exit.noGoto_ret];have x0:(V.drew.putObj D (.deferred none)).cell? ⟨w.heap.size+1+1,0,none⟩=some (.iface T1 rv1):=cCc hXP 0;have x1:(V.drew.putObj D (.deferred none)).cell? ⟨w.heap.size+1+1,1,none⟩=some (.int .i64 kind):=cCc hXP 1;have x2:(V.drew.putObj D (.deferred none)).cell? ⟨w.heap.size+1+1,2,none⟩=some (.int .i64 L2):=cCc hXP 2
  refine jbY (v:=.tuple #[.agg #[.iface T1 rv1,.int .i64 kind,.int .i64 L2],.nilIface]) HKV.out ?_ ?_
  ·simp[results,Tryz.f98,go_sem,x0,x1,x2]
  ·rw[HL2.out,HB2.out]
   exact⟨_,rfl,jrR (C:=0) HbV.out (grownBy_putObj' _ D _) (fun r e=>by cases e;exact⟨Nat.zero_le _,_,HKV.out,rfl⟩),jls HBV.out (by omega) HKV.out⟩
theorem jr6 (v:Value) (B:Bd) (kind level t:Nat) (w:World) (hb:BdAt w v B) (hok:B.Ok kind level) (ht:t<=jdr kind) :
  Calls Tryz.prog 98 #[.agg #[v,.int .i64 kind,.int .i64 level],.int .i64 t] w fun e w'=>∃ v',e=.returned (.tuple #[.agg #[v',.int .i64 kind,.int .i64 ((jdG (level,B) t).1:Int)],.nilIface])/\BdAt w' v' (jdG (level,B) t).2/\Below w.heap.size w w' :=
 jrp v B kind level t t w hb hok ht (.inl rfl)
end Go.Proofs.YtieknocphiceoaaGreatDoor
namespace Go.Proofs.YtieknocphiceoaaGreatDoor
open Go Go.RowKit Go.Shelf
theorem jaP {α:Type} {enc:α->List Value} {k n:Nat} {w:World}:SlC enc k n w none 0 0 []:=⟨⟨rfl,fun j x hx=>by simp at hx⟩,Nat.le_refl _,Nat.zero_le _,fun _=>rfl,fun x e=>by cases e⟩
set_option maxRecDepth 100000 in
set_option maxHeartbeats 1000000 in
theorem jsf (w:World):Calls Tryz.prog 35 #[.int .i64 1] w fun e w'=>∃ x,e=.returned (.tuple #[x,.int .i64 0])/\SkB w' x 1 0 (jjS 1)/\Below w.heap.size w w':=by
 obtain⟨W0,hW0,hXr,hXx,hB0,hs0⟩:=jaS w #[.int .i64 0,.int .i64 0,.slice none 0 0,.int .i64 0,.string ⟨#[]⟩,.int .i64 0,.int .i64 0,.slice none 0 0,.int .i64 0,.slice none 0 0] 50 #[.int .i64 1,.int .i64 0,.slice none 0 0,.int .i64 0,.string ⟨#[]⟩,.int .i64 0,.int .i64 0,.slice none 0 0,.int .i64 0,.slice none 0 0] 50;obtain⟨c0,c1,c2,c3,c4,c5,c6,c7,c8,c9⟩:=jaL hXx;obtain⟨f0,f1,f2,f3,f4,f5,f6,f7,f8,f9⟩:=jdJ hXx;have e1:W0.setCell ⟨w.heap.size+1,1,none⟩ (.int .i64 0)=W0:=jaa hXx rfl;have e2:W0.setCell ⟨w.heap.size+1,2,none⟩ (.slice none 0 0)=W0:=jaa hXx rfl;have e3:W0.setCell ⟨w.heap.size+1,3,none⟩ (.int .i64 0)=W0:=jaa hXx rfl;have e4:W0.setCell ⟨w.heap.size+1,4,none⟩ (.string ⟨#[]⟩)=W0:=jaa hXx rfl;have e5:W0.setCell ⟨w.heap.size+1,5,none⟩ (.int .i64 0)=W0:=jaa hXx rfl;have e6:W0.setCell ⟨w.heap.size+1,6,none⟩ (.int .i64 0)=W0:=jaa hXx rfl;have e7:W0.setCell ⟨w.heap.size+1,7,none⟩ (.slice none 0 0)=W0:=jaa hXx rfl;have e8:W0.setCell ⟨w.heap.size+1,8,none⟩ (.int .i64 0)=W0:=jaa hXx rfl;have e9:W0.setCell ⟨w.heap.size+1,9,none⟩ (.slice none 0 0)=W0:=jaa hXx rfl;obtain⟨r0,r1,r2,r3,r4,r5,r6,r7,r8,r9⟩:=jaL hXr;obtain⟨g0,g1,g2,g3,g4,g5,g6,g7,g8,g9⟩:=jdJ hXr;obtain⟨V,hV,hVX,hVO,hVB⟩:=jcl (.int .i64 1) (.int .i64 0) (.slice none 0 0) (.int .i64 0) (.string ⟨#[]⟩) (.int .i64 0) (.int .i64 0) (.slice none 0 0) (.int .i64 0) (.slice none 0 0) hXr;obtain⟨k0,k1,k2,k3,k4,k5,k6,k7,k8,k9⟩:=jaL hVX;have HBV:Hid (Below w.heap.size w V):=hVB _ _ hB0 (Nat.le_refl _);clear hXr hXx hVX hVO hVB hB0
 go_enter Tryz.func35,Tryz.ntmps35;go_wp2_with fail;exact bodyPost_ret (v:=.tuple #[.agg #[.int .i64 1,.int .i64 0,.slice none 0 0,.int .i64 0,.string ⟨#[]⟩,.int .i64 0,.int .i64 0,.slice none 0 0,.int .i64 0,.slice none 0 0],.int .i64 0]) (by simp[results,Tryz.f35,go_sem,k0,k1,k2,k3,k4,k5,k6,k7,k8,k9]) rfl ⟨_,rfl,⟨_,⟨none,0,0,none,0,0,none,0,0⟩,rfl,rfl,jaP,jaP,jaP⟩,HBV.out⟩
set_option maxRecDepth 100000 in
set_option maxHeartbeats 1000000 in
theorem jsh (w:World):Calls Tryz.prog 35 #[.int .i64 3] w fun e w'=>∃ x,e=.returned (.tuple #[x,.int .i64 0])/\SkB w' x 3 0 (jjS 3)/\Below w.heap.size w w':=by
 obtain⟨W0,hW0,hXr,hXx,hB0,hs0⟩:=jaS w #[.int .i64 0,.int .i64 0,.slice none 0 0,.int .i64 0,.string ⟨#[]⟩,.int .i64 0,.int .i64 0,.slice none 0 0,.int .i64 0,.slice none 0 0] 50 #[.int .i64 3,.int .i64 0,.slice none 0 0,.int .i64 0,.string ⟨#[]⟩,.int .i64 0,.int .i64 0,.slice none 0 0,.int .i64 0,.slice none 0 0] 50;obtain⟨c0,c1,c2,c3,c4,c5,c6,c7,c8,c9⟩:=jaL hXx;obtain⟨f0,f1,f2,f3,f4,f5,f6,f7,f8,f9⟩:=jdJ hXx;have e1:W0.setCell ⟨w.heap.size+1,1,none⟩ (.int .i64 0)=W0:=jaa hXx rfl;have e2:W0.setCell ⟨w.heap.size+1,2,none⟩ (.slice none 0 0)=W0:=jaa hXx rfl;have e3:W0.setCell ⟨w.heap.size+1,3,none⟩ (.int .i64 0)=W0:=jaa hXx rfl;have e4:W0.setCell ⟨w.heap.size+1,4,none⟩ (.string ⟨#[]⟩)=W0:=jaa hXx rfl;have e5:W0.setCell ⟨w.heap.size+1,5,none⟩ (.int .i64 0)=W0:=jaa hXx rfl;have e6:W0.setCell ⟨w.heap.size+1,6,none⟩ (.int .i64 0)=W0:=jaa hXx rfl;have e7:W0.setCell ⟨w.heap.size+1,7,none⟩ (.slice none 0 0)=W0:=jaa hXx rfl;have e8:W0.setCell ⟨w.heap.size+1,8,none⟩ (.int .i64 0)=W0:=jaa hXx rfl;have e9:W0.setCell ⟨w.heap.size+1,9,none⟩ (.slice none 0 0)=W0:=jaa hXx rfl;obtain⟨W1,hW1⟩:∃ W1,W0.setCell ⟨w.heap.size+1,8,none⟩ (.int .i64 3)=W1:=⟨_,rfl⟩;have hX1:W1.heap[w.heap.size+1]? = some (.cells #[.int .i64 3,.int .i64 0,.slice none 0 0,.int .i64 0,.string ⟨#[]⟩,.int .i64 0,.int .i64 0,.slice none 0 0,.int .i64 3,.slice none 0 0] 50 (0,0)):=by rw[<- hW1];exact hSk hXx (.int .i64 3)
 replace hXr:W1.heap[w.heap.size]? = some (.cells #[.int .i64 0,.int .i64 0,.slice none 0 0,.int .i64 0,.string ⟨#[]⟩,.int .i64 0,.int .i64 0,.slice none 0 0,.int .i64 0,.slice none 0 0] 50 (0,0)):=by rw[<- hW1];exact (jam (p:=⟨w.heap.size+1,8,none⟩) (by show w.heap.size+1≠w.heap.size;omega) _).trans hXr
 have hB1:Below w.heap.size w W1:=by rw[<- hW1];exact hB0.setCell (p:=⟨w.heap.size+1,8,none⟩) (Nat.le_succ _) _
 obtain⟨x0,x1,x2,x3,x4,x5,x6,x7,x8,x9⟩:=jaL hX1;obtain⟨r0,r1,r2,r3,r4,r5,r6,r7,r8,r9⟩:=jaL hXr;obtain⟨g0,g1,g2,g3,g4,g5,g6,g7,g8,g9⟩:=jdJ hXr;obtain⟨V,hV,hVX,hVO,hVB⟩:=jcl (.int .i64 3) (.int .i64 0) (.slice none 0 0) (.int .i64 0) (.string ⟨#[]⟩) (.int .i64 0) (.int .i64 0) (.slice none 0 0) (.int .i64 3) (.slice none 0 0) hXr;obtain⟨k0,k1,k2,k3,k4,k5,k6,k7,k8,k9⟩:=jaL hVX;have HBV:Hid (Below w.heap.size w V):=hVB _ _ hB1 (Nat.le_refl _);clear hXr hXx hX1 hVX hVO hVB hB0 hB1;go_enter Tryz.func35,Tryz.ntmps35;go_wp2_with fail;exact bodyPost_ret (v:=.tuple #[.agg #[.int .i64 3,.int .i64 0,.slice none 0 0,.int .i64 0,.string ⟨#[]⟩,.int .i64 0,.int .i64 0,.slice none 0 0,.int .i64 3,.slice none 0 0],.int .i64 0]) (by simp[results,Tryz.f35,go_sem,k0,k1,k2,k3,k4,k5,k6,k7,k8,k9]) rfl ⟨_,rfl,⟨_,⟨none,0,0,none,0,0,none,0,0⟩,rfl,rfl,jaP,jaP,jaP⟩,HBV.out⟩
theorem jnw {i:Nat} (u:Int):(#[.int .i64 2,.int .i64 0,.slice none 0 0,.int .i64 0,.string ⟨#[]⟩,.int .i64 0,.int .i64 0,.slice none 0 0,.int .i64 0,.slice none 0 0]:Array Value)[i]? ≠ some (.int .u64 u):=by
 intro h;rcases i with _ | _ | _ | _ | _ | _ | _ | _ | _ | _ | i<;>simp at h
set_option maxRecDepth 100000 in
set_option maxHeartbeats 1000000 in
theorem jsg (w:World):Calls Tryz.prog 35 #[.int .i64 2] w fun e w'=>∃ x,e=.returned (.tuple #[x,.int .i64 0])/\SkB w' x 2 0 (jjS 2)/\Below w.heap.size w w':=by
 obtain⟨W0,hW0,hXr,hXx,hB0,hs0⟩:=jaS w #[.int .i64 0,.int .i64 0,.slice none 0 0,.int .i64 0,.string ⟨#[]⟩,.int .i64 0,.int .i64 0,.slice none 0 0,.int .i64 0,.slice none 0 0] 50 #[.int .i64 2,.int .i64 0,.slice none 0 0,.int .i64 0,.string ⟨#[]⟩,.int .i64 0,.int .i64 0,.slice none 0 0,.int .i64 0,.slice none 0 0] 50;obtain⟨c0,c1,c2,c3,c4,c5,c6,c7,c8,c9⟩:=jaL hXx;obtain⟨f0,f1,f2,f3,f4,f5,f6,f7,f8,f9⟩:=jdJ hXx;have e1:W0.setCell ⟨w.heap.size+1,1,none⟩ (.int .i64 0)=W0:=jaa hXx rfl;have e2:W0.setCell ⟨w.heap.size+1,2,none⟩ (.slice none 0 0)=W0:=jaa hXx rfl;have e3:W0.setCell ⟨w.heap.size+1,3,none⟩ (.int .i64 0)=W0:=jaa hXx rfl;have e4:W0.setCell ⟨w.heap.size+1,4,none⟩ (.string ⟨#[]⟩)=W0:=jaa hXx rfl;have e5:W0.setCell ⟨w.heap.size+1,5,none⟩ (.int .i64 0)=W0:=jaa hXx rfl;have e6:W0.setCell ⟨w.heap.size+1,6,none⟩ (.int .i64 0)=W0:=jaa hXx rfl;have e7:W0.setCell ⟨w.heap.size+1,7,none⟩ (.slice none 0 0)=W0:=jaa hXx rfl;have e8:W0.setCell ⟨w.heap.size+1,8,none⟩ (.int .i64 0)=W0:=jaa hXx rfl;have e9:W0.setCell ⟨w.heap.size+1,9,none⟩ (.slice none 0 0)=W0:=jaa hXx rfl;have HC:=Lib.hid (joX W0);have HXr:=Lib.hid hXr;have HXx:=Lib.hid hXx;have HB0:=Lib.hid hB0;clear hXr hXx hB0;go_enter Tryz.func35,Tryz.ntmps35;go_wp2_with fail;refine HC.out.mono ?_;rintro e w1 ⟨g,rfl,hN,hg,hb1⟩;have hXx:=jak hb1 (Nat.le_refl _) HXx.out;have hXr:=jak hb1 (Nat.le_refl _) HXr.out;obtain⟨x0,x1,x2,x3,x4,x5,x6,x7,x8,x9⟩:=jaL hXx;obtain⟨y0,y1,y2,y3,y4,y5,y6,y7,y8,y9⟩:=jdJ hXx
 obtain⟨W1,hW1⟩:∃ W1,((w1.setCell ⟨w.heap.size+1,5,none⟩ (.int .i64 2)).setCell ⟨w.heap.size+1,6,none⟩ (.int .i64 32)).setCell ⟨w.heap.size+1,7,none⟩ (.slice (some ⟨g,0,none⟩) 64 64)=W1:=⟨_,rfl⟩;have hX1:W1.heap[w.heap.size+1]? = some (.cells #[.int .i64 2,.int .i64 0,.slice none 0 0,.int .i64 0,.string ⟨#[]⟩,.int .i64 2,.int .i64 32,.slice (some ⟨g,0,none⟩) 64 64,.int .i64 0,.slice none 0 0] 50 (0,0)):=by rw[<- hW1];exact hSk (hSk (hSk hXx (.int .i64 2)) (.int .i64 32)) (.slice (some ⟨g,0,none⟩) 64 64)
 have hO1:OnlyAt (w.heap.size+1) w1 W1:=by rw[<- hW1];exact (((OnlyAt.refl _ _).set _ _).set _ _).set _ _
 have hB1:Below w.heap.size w W1:=by rw[<- hW1];exact (((HB0.out.trans (hb1.mono HB0.out.size)).setCell (p:=⟨w.heap.size+1,5,none⟩) (Nat.le_succ _) _).setCell (p:=⟨w.heap.size+1,6,none⟩) (Nat.le_succ _) _).setCell (p:=⟨w.heap.size+1,7,none⟩) (Nat.le_succ _) _
 replace hXr:=(hO1.2 w.heap.size (by omega)).trans hXr;have hS:SlC jbH 1 w1.heap.size w1 (some ⟨g,0,none⟩) 64 64 (List.replicate 64 0):=jk5 hN (by simp) (by unfold maxLen;omega);replace hS:SlC jbH 1 W1.heap.size W1 (some ⟨g,0,none⟩) 64 64 (List.replicate 64 0):=jbd (i0:=0) (by decide) (fun x=>⟨x,rfl⟩) hXx (fun i u=>jnw u) hO1 hS;obtain⟨z0,z1,z2,z3,z4,z5,z6,z7,z8,z9⟩:=jaL hX1;obtain⟨r0,r1,r2,r3,r4,r5,r6,r7,r8,r9⟩:=jaL hXr;obtain⟨g0,g1,g2,g3,g4,g5,g6,g7,g8,g9⟩:=jdJ hXr;obtain⟨V,hV,hVX,hVO,hVB⟩:=jcl (.int .i64 2) (.int .i64 0) (.slice none 0 0) (.int .i64 0) (.string ⟨#[]⟩) (.int .i64 2) (.int .i64 32) (.slice (some ⟨g,0,none⟩) 64 64) (.int .i64 0) (.slice none 0 0) hXr;obtain⟨k0,k1,k2,k3,k4,k5,k6,k7,k8,k9⟩:=jaL hVX;have HBV:Hid (Below w.heap.size w V):=hVB _ _ hB1 (Nat.le_refl _);have HSV:Hid (SlC jbH 1 V.heap.size V (some ⟨g,0,none⟩) 64 64 (List.replicate 64 0)):=jbd (i0:=0) (by decide) (fun x=>⟨x,rfl⟩) hXr (fun i u=>jd8 u) hVO hS;clear hN hg hXr hXx hX1 hVX hVO hVB hB1 hO1 hS hb1;go_wp2_with fail;exact bodyPost_ret (v:=.tuple #[.agg #[.int .i64 2,.int .i64 0,.slice none 0 0,.int .i64 0,.string ⟨#[]⟩,.int .i64 2,.int .i64 32,.slice (some ⟨g,0,none⟩) 64 64,.int .i64 0,.slice none 0 0],.int .i64 0]) (by simp[results,Tryz.f35,go_sem,k0,k1,k2,k3,k4,k5,k6,k7,k8,k9]) rfl ⟨_,rfl,⟨_,⟨none,0,0,some ⟨g,0,none⟩,64,64,none,0,0⟩,rfl,rfl,jaP,HSV.out,jaP⟩,HBV.out⟩
theorem jqs (k:Nat) (hk:k=1\/k=2\/k=3) (w:World):Calls Tryz.prog 35 #[.int .i64 k] w fun e w'=>∃ x,e=.returned (.tuple #[x,.int .i64 0])/\SkB w' x k 0 (jjS k)/\Below w.heap.size w w':=by
 rcases hk with rfl | rfl | rfl
 ·exact jsf w
 ·exact jsg w
 ·exact jsh w
end Go.Proofs.YtieknocphiceoaaGreatDoor
namespace Go.Proofs.YtieknocphiceoaaGreatDoor
open Go Go.ChangeShapes Go.WideShapes Go.ChangeAt Go.RowKit Go.Lib Go.Deep Go.Shelf
section
variable {H:Type} {enc:TypeId × Value->H} {w:World} {base:Nat} {held:Bool}
set_option maxRecDepth 100000 in
theorem jl5 (n:Nat) (cs:List Value) (x:DataW H × List MemPlace) (h:DataW.trod enc Tryz.prog w base (fun _=>true) held n 50 cs=some x):∃ (y:Sk) (s:SS),cs=[.int .i64 y.kind,.int .i64 y.level,.slice s.ea s.el s.ec,.int .i64 y.hb,.string y.hr,.int .i64 y.cr,.int .i64 y.cc,.slice s.ca s.cl s.cc,.int .i64 y.gf,.slice s.ga s.gl s.gc]/\s.At w.heap.size w y/\y.arg/\I64 y.cc:=by
 obtain⟨hl,m,hf⟩:=jiW Tryz.underlying50 h;replace hl:cs.length=10:=hl.trans (by kernel_rfl);obtain⟨y0,h0⟩:=hf 0 _ rfl;obtain⟨y1,h1⟩:=hf 1 _ rfl;obtain⟨y2,h2⟩:=hf 2 _ rfl;obtain⟨y3,h3⟩:=hf 3 _ rfl;obtain⟨y4,h4⟩:=hf 4 _ rfl;obtain⟨y5,h5⟩:=hf 5 _ rfl
 match cs,hl with
 | [v1,v2,v3,v4,v5,v6,v7,v8,v9,v10],_ =>
  change DataW.trod enc Tryz.prog w base _ held m 3 (([v1,v2,v3,v4,v5,v6,v7,v8,v9,v10].drop 0).take (Tryz.prog.cellsOf 3))=some y0 at h0;change DataW.trod enc Tryz.prog w base _ held m 3 (([v1,v2,v3,v4,v5,v6,v7,v8,v9,v10].drop 1).take (Tryz.prog.cellsOf 3))=some y1 at h1;change DataW.trod enc Tryz.prog w base _ held m 41 (([v1,v2,v3,v4,v5,v6,v7,v8,v9,v10].drop 2).take (Tryz.prog.cellsOf 41))=some y2 at h2;change DataW.trod enc Tryz.prog w base _ held m 43 (([v1,v2,v3,v4,v5,v6,v7,v8,v9,v10].drop 3).take (Tryz.prog.cellsOf 43))=some y3 at h3;change DataW.trod enc Tryz.prog w base _ held m 45 (([v1,v2,v3,v4,v5,v6,v7,v8,v9,v10].drop 5).take (Tryz.prog.cellsOf 45))=some y4 at h4;change DataW.trod enc Tryz.prog w base _ held m 48 (([v1,v2,v3,v4,v5,v6,v7,v8,v9,v10].drop 8).take (Tryz.prog.cellsOf 48))=some y5 at h5;rw[show Tryz.prog.cellsOf 3=1 by kernel_rfl] at h0 h1;rw[show Tryz.prog.cellsOf 41=1 by kernel_rfl] at h2;rw[show Tryz.prog.cellsOf 43=2 by kernel_rfl] at h3;rw[show Tryz.prog.cellsOf 45=3 by kernel_rfl] at h4;rw[show Tryz.prog.cellsOf 48=2 by kernel_rfl] at h5;simp only[List.drop_zero,List.drop_succ_cons,List.take_succ_cons,List.take_zero] at h0 h1 h2 h3 h4 h5;obtain⟨s0,c0,-,-⟩:=DataW.trod_int jfw h0;obtain⟨s1,c1,-,-⟩:=DataW.trod_int jfw h1;obtain⟨-,m2,f2⟩:=jb3 Tryz.underlying41 (by kernel_rfl) (by kernel_rfl) h2;obtain⟨-,m3,f3⟩:=jb3 Tryz.underlying43 (by kernel_rfl) (by kernel_rfl) h3;obtain⟨-,m4,f4⟩:=jb3 Tryz.underlying45 (by kernel_rfl) (by kernel_rfl) h4
  obtain⟨-,m5,f5⟩:=jb3 Tryz.underlying48 (by kernel_rfl) (by kernel_rfl) h5;obtain⟨u2,z2,e2,g2⟩:=f2 0 _ rfl;obtain⟨u3,z3,e3,g3⟩:=f3 0 _ rfl;obtain⟨u4,z4,e4,g4⟩:=f3 1 _ rfl;obtain⟨u5,z5,e5,g5⟩:=f4 0 _ rfl;obtain⟨u6,z6,e6,g6⟩:=f4 1 _ rfl;obtain⟨u7,z7,e7,g7⟩:=f4 2 _ rfl;obtain⟨u8,z8,e8,g8⟩:=f5 0 _ rfl;obtain⟨u9,z9,e9,g9⟩:=f5 1 _ rfl;obtain⟨ea,el,ec,le,k2,S2,U2⟩:=jeZ (k:=1) (encA:=jbH) (by omega) Tryz.underlying39 (by kernel_rfl) jlj g2;obtain⟨s3,c3,-,-⟩:=DataW.trod_int jfw g3;obtain⟨s4,c4,-,-⟩:=DataW.trod_string jn3 g4;obtain⟨s5,c5,-,-⟩:=DataW.trod_int jfw g5;obtain⟨s6,c6,-,w6⟩:=DataW.trod_int jfw g6;obtain⟨ca,cl,cc,lc,k7,S7,U7⟩:=jeZ (k:=1) (encA:=jbH) (by omega) Tryz.underlying39 (by kernel_rfl) jlj g7;obtain⟨s8,c8,-,-⟩:=DataW.trod_int jfw g8;obtain⟨ga,gl,gc,lg,k9,S9,U9⟩:=jeZ (k:=2) (encA:=jb5) (by omega) Tryz.underlying46 (by kernel_rfl) joF g9;simp only[List.getElem?_cons_zero,List.getElem?_cons_succ,Option.some.injEq,List.cons.injEq,and_true] at e2 e3 e4 e5 e6 e7 e8 e9 c0 c1 c3 c4 c5 c6 c8;refine⟨⟨s0,s1,le,s3,s4,s5,s6,lc,s8,lg⟩,⟨ea,el,ec,ca,cl,cc,ga,gl,gc⟩,?_,⟨S2,S7,S9⟩,⟨U2,U7,U9⟩,wf_i64 w6⟩;rw[c0,c1,e2,k2,e3,c3,e4,c4,e5,c5,e6,c6,e7,k7,e8,c8,e9,k9]
end
end Go.Proofs.YtieknocphiceoaaGreatDoor
namespace Go.Proofs.YtieknocphiceoaaGreatDoor
open Go Go.ChangeShapes Go.WideShapes Go.ChangeAt Go.RowKit Go.Lib Go.Deep Go.Shelf
section
variable {H:Type} {enc:TypeId × Value->H} {w:World} {base:Nat} {held:Bool}
set_option maxRecDepth 100000 in
theorem jkn (n:Nat) (cs:List Value) (x:DataW H × List MemPlace) (h:DataW.trod enc Tryz.prog w base (fun _=>true) held n 70 cs=some x):∃ e:Ser × SerP,cs=ja4 e/\(e.2.At w.heap.size w e.1/\(e.1.wn/\I64 e.1.sk.cc)):=by
 obtain⟨hl,m,hf⟩:=jiW Tryz.underlying70 h;replace hl:cs.length=12:=hl.trans (by kernel_rfl);obtain⟨y0,h0⟩:=hf 0 _ rfl;obtain⟨y1,h1⟩:=hf 1 _ rfl;obtain⟨y2,h2⟩:=hf 2 _ rfl
 match cs,hl with
 | [v0,v1,v2,v3,v4,v5,v6,v7,v8,v9,v10,v11],_ =>
  change DataW.trod enc Tryz.prog w base _ held m 68 (([v0,v1,v2,v3,v4,v5,v6,v7,v8,v9,v10,v11].drop 0).take (Tryz.prog.cellsOf 68))=some y0 at h0;change DataW.trod enc Tryz.prog w base _ held m 50 (([v0,v1,v2,v3,v4,v5,v6,v7,v8,v9,v10,v11].drop 1).take (Tryz.prog.cellsOf 50))=some y1 at h1;change DataW.trod enc Tryz.prog w base _ held m 55 (([v0,v1,v2,v3,v4,v5,v6,v7,v8,v9,v10,v11].drop 11).take (Tryz.prog.cellsOf 55))=some y2 at h2;rw[show Tryz.prog.cellsOf 68=1 by kernel_rfl] at h0;rw[show Tryz.prog.cellsOf 50=10 by kernel_rfl] at h1;rw[show Tryz.prog.cellsOf 55=1 by kernel_rfl] at h2;simp only[List.drop_zero,List.drop_succ_cons,List.take_succ_cons,List.take_zero] at h0 h1 h2;obtain⟨la,ll,lc,l,k0,S0,-⟩:=jeZ (k:=2) (encA:=Lab.enc) (by omega) Tryz.underlying68 (by kernel_rfl) jne h0;obtain⟨y,s,e1,S1,fit,w6⟩:=jl5 _ _ _ h1;obtain⟨s2,c2,-,w2⟩:=DataW.trod_int jn4 h2;simp only[List.cons.injEq,and_true] at e1 c2;obtain⟨q1,q2,q3,q4,q5,q6,q7,q8,q9,q10⟩:=e1;refine⟨(⟨l,y,s2⟩,⟨la,ll,lc,s⟩),?_,⟨S0,S1⟩,⟨fit,jod w2⟩,w6⟩;rw[k0,q1,q2,q3,q4,q5,q6,q7,q8,q9,q10,c2];rfl
set_option maxRecDepth 100000 in
theorem jji {r:Reach} {b0:Nat} {v:Value} {d:DataW H} {p:List MemPlace} (hv:Value.okWide Tryz.prog w r b0 22 v) (h:DataW.Trod enc Tryz.prog w base (fun _=>true) held 22 v d p) :
  ∃ a len cap l,v=.slice a len cap/\Tab w.heap.size w a len cap l/\∀ x∈l.map (·.1),Ser.wn x/\I64 x.sk.cc:=by
 obtain⟨a,len,cap,rfl⟩:=okWide_slice jbx hv;obtain⟨fuel,hf⟩:=h;obtain⟨a',len',cap',l,e,S,U⟩:=jeZ (k:=12) (encA:=ja4) (by omega) jbx (by kernel_rfl) jkn hf;injection e with e1 e2 e3
 subst e1 e2 e3;refine⟨a,len,cap,l,rfl,⟨S,fun e he=>(U e he).1⟩,fun x hx=>?_⟩;obtain⟨e,he,rfl⟩:=List.mem_map.1 hx;exact (U e he).2
end
end Go.Proofs.YtieknocphiceoaaGreatDoor
namespace Go.Proofs.YtieknocphiceoaaGreatDoor
open Go Go.RowKit Go.Shelf
theorem jiO:∀ a:List UInt8,Op.bytesLess a a=false
 | []=>rfl
 | a::x=>by simp[Op.bytesLess,jiO x]
theorem joR:∀ a b c:List UInt8,Op.bytesLess a b=true->Op.bytesLess b c=true->Op.bytesLess a c=true
 | _,[],_,h,_=>by rename_i x _;cases x<;>simp[Op.bytesLess] at h
 | _,_::_,[],_,h=>by simp[Op.bytesLess] at h
 | [],_::_,_::_,_,_=>by simp[Op.bytesLess]
 | a::x,b::y,c::z,h1,h2=>by
  simp only[Op.bytesLess,Bool.or_eq_true,Bool.and_eq_true,decide_eq_true_eq,beq_iff_eq] at h1 h2 ⊢;rcases h1 with h1 | ⟨rfl,h1⟩
  ·rcases h2 with h2 | ⟨rfl,h2⟩
   ·exact .inl (UInt8.lt_trans h1 h2)
   ·exact .inl h1
  ·rcases h2 with h2 | ⟨rfl,h2⟩
   ·exact .inl h2
   ·exact .inr ⟨rfl,joR x y z h1 h2⟩
theorem jp5:∀ a b:List UInt8,Op.bytesLess a b=false->Op.bytesLess b a=false->a=b
 | [],[],_,_=>rfl
 | [],_::_,h,_=>by simp[Op.bytesLess] at h
 | _::_,[],_,h=>by simp[Op.bytesLess] at h
 | a::x,b::y,h1,h2=>by
  simp only[Op.bytesLess,Bool.or_eq_false_iff,decide_eq_false_iff_not] at h1 h2;have hab:a=b:=UInt8.le_antisymm (UInt8.not_lt.1 h2.1) (UInt8.not_lt.1 h1.1);subst hab;simp only[BEq.rfl,Bool.true_and] at h1 h2;rw[jp5 x y h1.2 h2.2]
theorem jrO:∀ a b c:List Lab,jau a b=true->jau b c=true->jau a c=true
 | _::_,[],_,h,_=>by simp[jau] at h
 | [],[],_,h,_=>by simp[jau] at h
 | _,_::_,[],_,h=>by simp[jau] at h
 | [],_::_,_::_,_,_=>by simp[jau]
 | x::a,y::b,z::c,h1,h2=>by
  simp only[jau] at h1 h2 ⊢;by_cases hxy:x.name=y.name
  ·by_cases hxv:x.value=y.value
   ·rw[if_pos ⟨hxy,hxv⟩] at h1
    rw[hxy,hxv];by_cases hyz:y.name=z.name/\y.value=z.value
    ·rw[if_pos hyz] at h2 ⊢
     exact jrO a b c h1 h2
    ·rw[if_neg hyz] at h2 ⊢
     exact h2
   ·rw[if_neg (fun k=>hxv k.2),if_neg (by simp[hxy])] at h1
    rw[hxy];by_cases hyn:y.name=z.name
    ·by_cases hyv:y.value=z.value
     ·rw[<- hyv,if_neg (fun k=>hxv k.2),if_neg (by simp[hyn])]
      exact h1
     ·rw[if_neg (fun k=>hyv k.2),if_neg (by simp[hyn])] at h2
      have h3:=joR _ _ _ h1 h2;rw[if_neg (fun k=>by rw[k.2,jiO] at h3;cases h3),if_neg (by simp[hyn])];exact h3
    ·rw[if_neg (fun k=>hyn k.1),if_pos hyn] at h2
     rw[if_neg (fun k=>hyn k.1),if_pos hyn];exact h2
  ·rw[if_neg (fun k=>hxy k.1),if_pos hxy] at h1
   by_cases hyn:y.name=z.name
   ·rw[<- hyn,if_neg (fun k=>hxy k.1),if_pos hxy]
    exact h1
   ·rw[if_neg (fun k=>hyn k.1),if_pos hyn] at h2
    have h3:=joR _ _ _ h1 h2;have h4:x.name≠z.name:=fun k=>by rw[k,jiO] at h3;cases h3
    rw[if_neg (fun k=>h4 k.1),if_pos h4];exact h3
def Sorted (l:List Ser):Prop:=l.Pairwise (fun x y=>jau x.l y.l=true)
theorem jhJ:∀ (l:List Ser) (q:List Lab),jbJ (some q) l=true↔(∀ x∈l,jaM x=true)/\(∀ x∈l,jau q x.l=true)/\Sorted l
 | [],q=>by simp[jbJ,Sorted]
 | y::r,q=>by
  simp only[jbJ,Bool.and_eq_true,jhJ r,Sorted,List.pairwise_cons,List.mem_cons,forall_eq_or_imp];constructor
  ·rintro⟨⟨h1,h2⟩,h3,h4,h5⟩
   exact⟨⟨h1,h3⟩,⟨h2,fun x hx=>jrO _ _ _ h2 (h4 x hx)⟩,h4,h5⟩
  ·rintro⟨⟨h1,h3⟩,⟨h2,h6⟩,h4,h5⟩
   exact⟨⟨h1,h2⟩,h3,h4,h5⟩
theorem jaK (l:List Ser):jag l=true↔l.length<=20/\(∀ x∈l,jaM x=true)/\Sorted l:=by
 unfold jag;rw[Bool.and_eq_true,decide_eq_true_eq]
 cases l with
 | nil=>simp[jbJ,Sorted]
 | cons y r=>simp only[jbJ,Bool.and_eq_true,jhJ r,Sorted,List.pairwise_cons,List.mem_cons,forall_eq_or_imp,and_true];constructor<;>(intro h;simp_all)
def SS.From (s:SS) (n:Nat):Prop:=(∀ z,s.ea=some z->n<=z.block)/\(∀ z,s.ca=some z->n<=z.block)/\(∀ z,s.ga=some z->n<=z.block)
theorem SS.From.mono {s:SS} {n m:Nat} (h:s.From m) (hn:n<=m):s.From n:=⟨fun z hz=>Nat.le_trans hn (h.1 z hz),fun z hz=>Nat.le_trans hn (h.2.1 z hz),fun z hz=>Nat.le_trans hn (h.2.2 z hz)⟩
def SkN (n:Nat) (W:World) (v:Value) (k L:Nat) (B:Bd):Prop:=∃ (y:Sk) (s:SS),y=jb6 k L B/\v=.agg #[.int .i64 y.kind,.int .i64 y.level,.slice s.ea s.el s.ec,.int .i64 y.hb,.string y.hr,.int .i64 y.cr,.int .i64 y.cc,.slice s.ca s.cl s.cc,.int .i64 y.gf,.slice s.ga s.gl s.gc]/\s.At W.heap.size W y/\s.From n
theorem SkN.mono {n m:Nat} {W:World} {v:Value} {k L:Nat} {B:Bd} (h:SkN m W v k L B) (hn:n<=m):SkN n W v k L B:=by
 obtain⟨y,s,h0,h1,h2,h3⟩:=h;exact⟨y,s,h0,h1,h2,h3.mono hn⟩
theorem SkN.go {n:Nat} {W W':World} {v:Value} {k L:Nat} {B:Bd} (h:SkN n W v k L B) (hb:Below W.heap.size W W'):SkN n W' v k L B:=by
 obtain⟨y,s,h0,h1,h2,h3⟩:=h;exact⟨y,s,h0,h1,h2.go hb,h3⟩
theorem SkN.apart {n:Nat} {W V:World} {v:Value} {k L:Nat} {B:Bd} (h:SkN n W v k L B) {b:Nat} {cs:Array Value} {t:TypeId} (hX:W.heap[b]? = some (.cells cs t (0,0))) (hc:∀ (i:Nat) (u:Int),cs[i]? ≠ some (Value.int .u64 u)) (hV:OnlyAt b W V):SkN n V v k L B:=by
 obtain⟨y,s,h0,h1,h2,h3⟩:=h;exact⟨y,s,h0,h1,⟨jbd (i0:=0) (by decide) (fun x=>⟨x,rfl⟩) hX hc hV h2.e,jbd (i0:=0) (by decide) (fun x=>⟨x,rfl⟩) hX hc hV h2.c,jbd (i0:=1) (by decide) (fun x=>⟨x.2,rfl⟩) hX hc hV h2.g⟩,h3⟩
theorem jl6 {k L:Nat} {B:Bd} {v:Value} {w:World} (h:B.Ok k L) (hv:BdAt w v B) :
  Calls Tryz.prog 136 #[.agg #[v,.int .i64 k,.int .i64 L]] w fun e w'=>∃ x,e=.returned x/\SkN w.heap.size w' x k L B/\Below w.heap.size w w':=by
 cases B with
 | num l =>
  obtain⟨a,len,cap,rfl,hS⟩:=hv;refine (jhF k L l a len cap w hS.1 (by have:=h.2.2.2.1;have:=hS.1.1;omega)).mono ?_;rintro e w' ⟨s,rfl,hs,f1,f2,f3,hb⟩;exact⟨_,rfl,⟨_,s,rfl,rfl,hs,f1,f2,f3⟩,hb⟩
 | reg b r =>
  obtain rfl:v=_:=hv;refine (jhG k L b (jaA r) w).mono ?_;rintro e w' ⟨s,rfl,hs,f1,f2,f3,hb⟩;exact⟨_,rfl,⟨_,s,rfl,rfl,hs,f1,f2,f3⟩,hb⟩
 | cnt c l =>
  obtain⟨a,len,cap,rfl,hS⟩:=hv;refine (jhE k L 2 c l a len cap w hS.1 (by have:=jhS h.2.2.1 h.2.1;have:=h.2.2.2.1;have:=hS.1.1;omega)).mono ?_;rintro e w' ⟨s,rfl,hs,f1,f2,f3,hb⟩;exact⟨_,rfl,⟨_,s,rfl,rfl,hs,f1,f2,f3⟩,hb⟩
 | bkt f l =>
  obtain⟨a,len,cap,rfl,hS⟩:=hv;refine (jhD k L f l a len cap w hS.1 (by have:=jfP f l (by have:=h.2.2.1;omega) h.2.2.2.1 h.2.2.2.2.2.2;have:=hS.1.1;omega)).mono ?_;rintro e w' ⟨s,rfl,hs,f1,f2,f3,hb⟩;exact⟨_,rfl,⟨_,s,rfl,rfl,hs,f1,f2,f3⟩,hb⟩
set_option maxRecDepth 100000 in
set_option maxHeartbeats 2000000 in
theorem jjI (v:Value) (B:Bd) (kind level:Nat) (w:World) (hb:BdAt w v B) (hok:B.Ok kind level) :
  Calls Tryz.prog 90 #[.agg #[v,.int .i64 kind,.int .i64 level],.nilIface] w fun e w'=>∃ x,e=.returned (.tuple #[x,.int .i64 0])/\SkN w.heap.size w' x kind level B/\Below w.heap.size w w':=by
 obtain⟨T,rv,rfl⟩:=jc0 hb;obtain⟨W0,hW0,hXp,hXr,hB0,hs0⟩:=jaS w #[.iface T rv,.int .i64 kind,.int .i64 level] 122 #[.int .i64 0,.int .i64 0,.slice none 0 0,.int .i64 0,.string ⟨#[]⟩,.int .i64 0,.int .i64 0,.slice none 0 0,.int .i64 0,.slice none 0 0] 50;obtain⟨c0,c1,c2⟩:=cl3 hXp;have HS:=Lib.hid (jl6 (w:=W0) hok (hb.go hB0));have HXR:=Lib.hid hXr;have HB0:=Lib.hid hB0;clear hXp hXr hB0 hb hok;go_enter Tryz.func90,Tryz.ntmps90;go_wp2_with fail;refine HS.out.mono ?_;rintro e w1 ⟨x,rfl,⟨y,s,hy,rfl,hA,hFr⟩,hb1⟩;have hR1:=jak hb1 (Nat.le_refl _) HXR.out;have HY:=Lib.hid hy;have HFr:=Lib.hid (hFr.mono (n:=w.heap.size) (by omega));clear hy hFr;obtain⟨r0,r1,r2,r3,r4,r5,r6,r7,r8,r9⟩:=jaL hR1;obtain⟨g0,g1,g2,g3,g4,g5,g6,g7,g8,g9⟩:=jdJ hR1;obtain⟨V,hV,hVX,hVO,hVB⟩:=jcl (.int .i64 y.kind) (.int .i64 y.level) (.slice s.ea s.el s.ec) (.int .i64 y.hb) (.string y.hr) (.int .i64 y.cr) (.int .i64 y.cc) (.slice s.ca s.cl s.cc) (.int .i64 y.gf) (.slice s.ga s.gl s.gc) hR1;have HR1:=Lib.hid hR1;have HV:=Lib.hid (And.intro hVO hVB);have HA:=Lib.hid hA;have Hb1:=Lib.hid hb1;obtain⟨k0,k1,k2,k3,k4,k5,k6,k7,k8,k9⟩:=jaL hVX;clear hR1 hVO hVB hA hb1 hVX;go_wp2_with fail;obtain⟨hVO,hVB⟩:=HV.out;have hS2:SkN w.heap.size w1 (.agg #[.int .i64 y.kind,.int .i64 y.level,.slice s.ea s.el s.ec,.int .i64 y.hb,.string y.hr,.int .i64 y.cr,.int .i64 y.cc,.slice s.ca s.cl s.cc,.int .i64 y.gf,.slice s.ga s.gl s.gc]) kind level B:=⟨y,s,HY.out,rfl,HA.out,HFr.out⟩
 exact bodyPost_ret (v:=.tuple #[.agg #[.int .i64 y.kind,.int .i64 y.level,.slice s.ea s.el s.ec,.int .i64 y.hb,.string y.hr,.int .i64 y.cr,.int .i64 y.cc,.slice s.ca s.cl s.cc,.int .i64 y.gf,.slice s.ga s.gl s.gc],.int .i64 0]) (by simp[results,Tryz.f90,go_sem,k0,k1,k2,k3,k4,k5,k6,k7,k8,k9]) rfl ⟨_,rfl,hS2.apart HR1.out (fun i u=>jd8 u) hVO,hVB _ _ (HB0.out.trans (Hb1.out.mono HB0.out.size)) (Nat.le_succ _)⟩
set_option maxRecDepth 100000 in
set_option maxHeartbeats 2000000 in
theorem jqv {k L:Nat} {t:Nat} {B:Bd} {v:Value} {w:World} (hok:B.Ok k L) (ht:t<=jdr k) (hv:SkB w v k L B) :
  Calls Tryz.prog 51 #[v,.int .i64 t] w fun e w'=>∃ x,e=.returned (.tuple #[x,.int .i64 0])/\SkN w.heap.size w' x k (jdG (L,B) t).1 (jdG (L,B) t).2/\Below w.heap.size w w':=by
 have hok2:((jdG (L,B) t).2).Ok k ((jdG (L,B) t).1):=(jkJ t ht _ (L,B) rfl hok).1;obtain⟨y,s,hy,rfl,hA⟩:=hv;obtain⟨W0,hW0,hXp,hXr,hB0,hs0⟩:=jaS w #[.int .i64 y.kind,.int .i64 y.level,.slice s.ea s.el s.ec,.int .i64 y.hb,.string y.hr,.int .i64 y.cr,.int .i64 y.cc,.slice s.ca s.cl s.cc,.int .i64 y.gf,.slice s.ga s.gl s.gc] 50 #[.int .i64 0,.int .i64 0,.slice none 0 0,.int .i64 0,.string ⟨#[]⟩,.int .i64 0,.int .i64 0,.slice none 0 0,.int .i64 0,.slice none 0 0] 50;have HO:=Lib.hid (jgo (w:=W0) hok ⟨y,s,hy,rfl,hA.go hB0⟩);obtain⟨L2,hL2⟩:∃ L2:Nat,(jdG (L,B) t).1=L2:=⟨_,rfl⟩;obtain⟨B2,hB2⟩:∃ B2:Bd,(jdG (L,B) t).2=B2:=⟨_,rfl⟩;rw[hL2,hB2] at hok2 ⊢
 have HT:Hid (∀ b W,BdAt W b B->Calls Tryz.prog 98 #[.agg #[b,.int .i64 k,.int .i64 L],.int .i64 t] W fun e w'=>∃ v',e=.returned (.tuple #[.agg #[v',.int .i64 k,.int .i64 L2],.nilIface])/\BdAt w' v' B2/\Below W.heap.size W w'):=by
  rw[<- hB2,<- hL2];exact fun b W h=>jr6 b B k L t W h hok ht
 have HN:Hid (∀ b W,BdAt W b B2->Calls Tryz.prog 90 #[.agg #[b,.int .i64 k,.int .i64 L2],.nilIface] W fun e w'=>∃ x,e=.returned (.tuple #[x,.int .i64 0])/\SkN W.heap.size w' x k L2 B2/\Below W.heap.size W w'):=fun b W h=>jjI b B2 k L2 W h hok2
 obtain⟨c0,c1,c2,c3,c4,c5,c6,c7,c8,c9⟩:=jaL hXp;have HXR:=Lib.hid hXr;have HB0:=Lib.hid hB0;clear hXp hXr hB0 hA hy hok hok2 hL2 hB2 ht;go_enter Tryz.func51,Tryz.ntmps51;go_wp2_with fail;refine HO.out.mono ?_;rintro e w1 ⟨b,rfl,hb,hb1⟩;obtain⟨T,rv,rfl⟩:=jc0 hb;obtain⟨W2,hW2,hX2,hB2,hs2⟩:=jah w1 #[.iface T rv,.int .i64 k,.int .i64 L] 122;obtain⟨d0,d1,d2⟩:=cl3 hX2;have HT2:=Lib.hid (HT.out _ W2 (hb.go hB2));have HX2:=Lib.hid hX2;have HB2:=Lib.hid hB2;have HB1:=Lib.hid hb1;clear hX2 hB2 hb1 hb;go_wp2_with fail;refine HT2.out.mono ?_;rintro e w3 ⟨b3,rfl,hv3,hb3⟩;obtain⟨T3,rv3,rfl⟩:=jc0 hv3;have hX3:=jak hb3 (Nat.le_refl _) HX2.out;obtain⟨p0,p1,p2⟩:=cl3 hX3;obtain⟨g0,g1,g2⟩:=cz3 hX3;obtain⟨V,hV,hVX,hVO,hVB⟩:=jle (.iface T3 rv3) (.int .i64 k) (.int .i64 L2) hX3;have HN2:=Lib.hid (HN.out _ V (BdAt.set_work hv3 hX3 (by simp) (by simp) (by simp) hVO));have hsz:=HB1.out.size;have HB3:Hid (Below w.heap.size w V):=hVB _ _ (HB0.out.trans ((HB1.out.trans ((HB2.out.trans (hb3.mono HB2.out.size)).mono HB1.out.size)).mono HB0.out.size)) (by omega)
 have HR3:Hid (V.heap[w.heap.size+1]? = some (.cells #[.int .i64 0,.int .i64 0,.slice none 0 0,.int .i64 0,.string ⟨#[]⟩,.int .i64 0,.int .i64 0,.slice none 0 0,.int .i64 0,.slice none 0 0] 50 (0,0))):=by
  refine (hVO.2 _ (by omega)).trans ?_;exact jak (HB1.out.trans ((HB2.out.trans (hb3.mono HB2.out.size)).mono HB1.out.size)) (Nat.le_refl _) HXR.out
 obtain⟨q0,q1,q2⟩:=cl3 hVX;clear hX3 hVX hVO hVB hv3 hb3;go_wp2_with fail;refine HN2.out.mono ?_;rintro e w5 ⟨x,rfl,⟨y5,s5,hy5,rfl,hA5,hF5⟩,hb5⟩;have hR5:=jak hb5 (Nat.le_refl _) HR3.out;obtain⟨r0,r1,r2,r3,r4,r5,r6,r7,r8,r9⟩:=jaL hR5;obtain⟨f0,f1,f2,f3,f4,f5,f6,f7,f8,f9⟩:=jdJ hR5;obtain⟨U,hU,hUX,hUO,hUB⟩:=jcl (.int .i64 y5.kind) (.int .i64 y5.level) (.slice s5.ea s5.el s5.ec) (.int .i64 y5.hb) (.string y5.hr) (.int .i64 y5.cr) (.int .i64 y5.cc) (.slice s5.ca s5.cl s5.cc) (.int .i64 y5.gf) (.slice s5.ga s5.gl s5.gc) hR5;obtain⟨k0,k1,k2,k3,k4,k5,k6,k7,k8,k9⟩:=jaL hUX;have HS2:Hid (SkN w.heap.size U (.agg #[.int .i64 y5.kind,.int .i64 y5.level,.slice s5.ea s5.el s5.ec,.int .i64 y5.hb,.string y5.hr,.int .i64 y5.cr,.int .i64 y5.cc,.slice s5.ca s5.cl s5.cc,.int .i64 y5.gf,.slice s5.ga s5.gl s5.gc]) k L2 B2):=SkN.apart ⟨y5,s5,hy5,rfl,hA5,hF5.mono (by have:=HB3.out.size;omega)⟩ hR5 (fun i u=>jd8 u) hUO;have HBU:Hid (Below w.heap.size w U):=hUB _ _ (HB3.out.trans (hb5.mono HB3.out.size)) (by omega);clear hR5 hUX hUO hUB hy5 hA5 hF5 hb5;go_wp2_with fail;exact bodyPost_ret (v:=.tuple #[.agg #[.int .i64 y5.kind,.int .i64 y5.level,.slice s5.ea s5.el s5.ec,.int .i64 y5.hb,.string y5.hr,.int .i64 y5.cr,.int .i64 y5.cc,.slice s5.ca s5.cl s5.cc,.int .i64 y5.gf,.slice s5.ga s5.gl s5.gc],.int .i64 0]) (by simp[results,Tryz.f51,go_sem,k0,k1,k2,k3,k4,k5,k6,k7,k8,k9]) rfl ⟨_,rfl,HS2.out,HBU.out⟩
set_option maxRecDepth 100000 in
set_option maxHeartbeats 2000000 in
theorem jlq {k L:Nat}  {B:Bd} {v:Value} {w:World} (hok:B.Ok k L) (hlv:L<jdr k) (hv:SkB w v k L B) :
  Calls Tryz.prog 42 #[v] w fun e w'=>∃ x,e=.returned (.tuple #[x,.int .i64 0])/\SkN w.heap.size w' x k (L+1) B.low/\Below w.heap.size w w':=by
 have hok2:(B.low).Ok k ((L+1)):=jeC hok hlv;obtain⟨y,s,hy,rfl,hA⟩:=hv;obtain⟨W0,hW0,hXp,hXr,hB0,hs0⟩:=jaS w #[.int .i64 y.kind,.int .i64 y.level,.slice s.ea s.el s.ec,.int .i64 y.hb,.string y.hr,.int .i64 y.cr,.int .i64 y.cc,.slice s.ca s.cl s.cc,.int .i64 y.gf,.slice s.ga s.gl s.gc] 50 #[.int .i64 0,.int .i64 0,.slice none 0 0,.int .i64 0,.string ⟨#[]⟩,.int .i64 0,.int .i64 0,.slice none 0 0,.int .i64 0,.slice none 0 0] 50;have HO:=Lib.hid (jgo (w:=W0) hok ⟨y,s,hy,rfl,hA.go hB0⟩);obtain⟨L2,hL2⟩:∃ L2:Nat,L+1=L2:=⟨_,rfl⟩;obtain⟨B2,hB2⟩:∃ B2:Bd,B.low=B2:=⟨_,rfl⟩;rw[hL2,hB2] at hok2 ⊢
 have HT:Hid (∀ b W,BdAt W b B->Calls Tryz.prog 89 #[.agg #[b,.int .i64 k,.int .i64 L]] W fun e w'=>∃ v',e=.returned (.tuple #[.agg #[v',.int .i64 k,.int .i64 L2],.nilIface])/\BdAt w' v' B2/\Below W.heap.size W w'):=by
  rw[<- hB2,<- hL2];rw[Int.natCast_add];exact fun b W h=>jgl b B k L W h hok hlv
 have HN:Hid (∀ b W,BdAt W b B2->Calls Tryz.prog 90 #[.agg #[b,.int .i64 k,.int .i64 L2],.nilIface] W fun e w'=>∃ x,e=.returned (.tuple #[x,.int .i64 0])/\SkN W.heap.size w' x k L2 B2/\Below W.heap.size W w'):=fun b W h=>jjI b B2 k L2 W h hok2
 obtain⟨c0,c1,c2,c3,c4,c5,c6,c7,c8,c9⟩:=jaL hXp;have HXR:=Lib.hid hXr;have HB0:=Lib.hid hB0;clear hXp hXr hB0 hA hy hok hok2 hL2 hB2 hlv;go_enter Tryz.func42,Tryz.ntmps42;go_wp2_with fail;refine HO.out.mono ?_;rintro e w1 ⟨b,rfl,hb,hb1⟩;obtain⟨T,rv,rfl⟩:=jc0 hb;obtain⟨W2,hW2,hX2,hB2,hs2⟩:=jah w1 #[.iface T rv,.int .i64 k,.int .i64 L] 122;obtain⟨d0,d1,d2⟩:=cl3 hX2;have HT2:=Lib.hid (HT.out _ W2 (hb.go hB2));have HX2:=Lib.hid hX2;have HB2:=Lib.hid hB2;have HB1:=Lib.hid hb1;clear hX2 hB2 hb1 hb;go_wp2_with fail;refine HT2.out.mono ?_;rintro e w3 ⟨b3,rfl,hv3,hb3⟩;obtain⟨T3,rv3,rfl⟩:=jc0 hv3;have hX3:=jak hb3 (Nat.le_refl _) HX2.out;obtain⟨p0,p1,p2⟩:=cl3 hX3;obtain⟨g0,g1,g2⟩:=cz3 hX3;obtain⟨V,hV,hVX,hVO,hVB⟩:=jle (.iface T3 rv3) (.int .i64 k) (.int .i64 L2) hX3;have HN2:=Lib.hid (HN.out _ V (BdAt.set_work hv3 hX3 (by simp) (by simp) (by simp) hVO));have hsz:=HB1.out.size;have HB3:Hid (Below w.heap.size w V):=hVB _ _ (HB0.out.trans ((HB1.out.trans ((HB2.out.trans (hb3.mono HB2.out.size)).mono HB1.out.size)).mono HB0.out.size)) (by omega)
 have HR3:Hid (V.heap[w.heap.size+1]? = some (.cells #[.int .i64 0,.int .i64 0,.slice none 0 0,.int .i64 0,.string ⟨#[]⟩,.int .i64 0,.int .i64 0,.slice none 0 0,.int .i64 0,.slice none 0 0] 50 (0,0))):=by
  refine (hVO.2 _ (by omega)).trans ?_;exact jak (HB1.out.trans ((HB2.out.trans (hb3.mono HB2.out.size)).mono HB1.out.size)) (Nat.le_refl _) HXR.out
 obtain⟨q0,q1,q2⟩:=cl3 hVX;clear hX3 hVX hVO hVB hv3 hb3;go_wp2_with fail;refine HN2.out.mono ?_;rintro e w5 ⟨x,rfl,⟨y5,s5,hy5,rfl,hA5,hF5⟩,hb5⟩;have hR5:=jak hb5 (Nat.le_refl _) HR3.out;obtain⟨r0,r1,r2,r3,r4,r5,r6,r7,r8,r9⟩:=jaL hR5;obtain⟨f0,f1,f2,f3,f4,f5,f6,f7,f8,f9⟩:=jdJ hR5;obtain⟨U,hU,hUX,hUO,hUB⟩:=jcl (.int .i64 y5.kind) (.int .i64 y5.level) (.slice s5.ea s5.el s5.ec) (.int .i64 y5.hb) (.string y5.hr) (.int .i64 y5.cr) (.int .i64 y5.cc) (.slice s5.ca s5.cl s5.cc) (.int .i64 y5.gf) (.slice s5.ga s5.gl s5.gc) hR5;obtain⟨k0,k1,k2,k3,k4,k5,k6,k7,k8,k9⟩:=jaL hUX;have HS2:Hid (SkN w.heap.size U (.agg #[.int .i64 y5.kind,.int .i64 y5.level,.slice s5.ea s5.el s5.ec,.int .i64 y5.hb,.string y5.hr,.int .i64 y5.cr,.int .i64 y5.cc,.slice s5.ca s5.cl s5.cc,.int .i64 y5.gf,.slice s5.ga s5.gl s5.gc]) k L2 B2):=SkN.apart ⟨y5,s5,hy5,rfl,hA5,hF5.mono (by have:=HB3.out.size;omega)⟩ hR5 (fun i u=>jd8 u) hUO;have HBU:Hid (Below w.heap.size w U):=hUB _ _ (HB3.out.trans (hb5.mono HB3.out.size)) (by omega);clear hR5 hUX hUO hUB hy5 hA5 hF5 hb5;go_wp2_with fail;exact bodyPost_ret (v:=.tuple #[.agg #[.int .i64 y5.kind,.int .i64 y5.level,.slice s5.ea s5.el s5.ec,.int .i64 y5.hb,.string y5.hr,.int .i64 y5.cr,.int .i64 y5.cc,.slice s5.ca s5.cl s5.cc,.int .i64 y5.gf,.slice s5.ga s5.gl s5.gc],.int .i64 0]) (by simp[results,Tryz.f42,go_sem,k0,k1,k2,k3,k4,k5,k6,k7,k8,k9]) rfl ⟨_,rfl,HS2.out,HBU.out⟩
end Go.Proofs.YtieknocphiceoaaGreatDoor
namespace Go.Proofs.YtieknocphiceoaaGreatDoor
open Go Go.RowKit Go.Shelf
def jeb (n:Nat):List Value:=[.int .i64 n]
theorem jfW:Tryz.prog.underlying 25=some (.slice 3):=by kernel_rfl
theorem jfT:(Tryz.prog.info? 3).map (fun i=>(i.zero,i.size,i.bytes))=some (some (.int .i64 0),1,8):=by kernel_rfl
theorem jet {A B:World} {base e size n:Nat} {v:Value} {xs:List Value} (h:A.ownsRow base e size v n xs) (hb:Below A.heap.size A B):B.ownsRow base e size v n xs :=
 ⟨h.1,h.2.imp id (fun ⟨g,cap,cur,h1,h2,h3,h4⟩=>⟨g,cap,cur,h1,h2,jak hb (Nat.le_refl _) h3,h4⟩)⟩
attribute [-go_sem] Builtin.append_
end Go.Proofs.YtieknocphiceoaaGreatDoor
namespace Go.Proofs.YtieknocphiceoaaGreatDoor
open Go Go.RowKit Go.Shelf
theorem SerP.At.apart {B:Nat} {A A':World} {x:Ser} {p:SerP} (h:p.At A.heap.size A x) (ho:p.Off (· ≠ B)) (ha:Apart B A A'):p.At A'.heap.size A' x:=(h.frame ho ha.2).mono ha.1
theorem Tab.apart {B:Nat} {A A':World} {a:Option Addr} {len cap:Nat} {l:List (Ser × SerP)} (h:Tab A.heap.size A a len cap l) (hr:∀ z,a=some z->0<cap->z.block≠B) (ho:∀ e∈l,e.2.Off (· ≠ B)) (ha:Apart B A A'):Tab A'.heap.size A' a len cap l :=
 ⟨h.row.apart hr ha,fun e he=>(h.at_ e he).apart (ho e he) ha⟩
theorem jsk {W:World} {B:Nat} {x0 x1 x2 x3 x4 x5 x6 x7 x8 x9 x10 x11:Value} {t:TypeId} (h:W.heap[B]? = some (.cells #[x0,x1,x2,x3,x4,x5,x6,x7,x8,x9,x10,x11] t (0,0))) (v0 v1 v2 v3 v4 v5 v6 v7 v8 v9 v10 v11:Value) :
  ∃ V,((((((((((((W.setCell ⟨B,0,none⟩ v0).setCell ⟨B,1,none⟩ v1).setCell ⟨B,2,none⟩ v2).setCell ⟨B,3,none⟩ v3).setCell ⟨B,4,none⟩ v4).setCell ⟨B,5,none⟩ v5).setCell ⟨B,6,none⟩ v6).setCell ⟨B,7,none⟩ v7).setCell ⟨B,8,none⟩ v8).setCell ⟨B,9,none⟩ v9).setCell ⟨B,10,none⟩ v10).setCell ⟨B,11,none⟩ v11)=V /\
   V.heap[B]? = some (.cells #[v0,v1,v2,v3,v4,v5,v6,v7,v8,v9,v10,v11] t (0,0))/\Apart B W V/\(∀ n w0,n<=B->Below n w0 W->Below n w0 V)/\V.heap.size<=W.heap.size/\W.heap.size<=V.heap.size :=
 ⟨_,rfl,jec h,(((((((((((Apart.set 0 v0).trans (Apart.set 1 v1)).trans (Apart.set 2 v2)).trans (Apart.set 3 v3)).trans (Apart.set 4 v4)).trans (Apart.set 5 v5)).trans (Apart.set 6 v6)).trans (Apart.set 7 v7)).trans (Apart.set 8 v8)).trans (Apart.set 9 v9)).trans (Apart.set 10 v10)).trans (Apart.set 11 v11),
  fun _ _ hn hb=>jfo hb hn ..,Nat.le_of_eq (jew W B ..),Nat.le_of_eq (jew W B ..).symm⟩
def jrX (L:List Ser) (x:Ser):Int:=if jdV L x then 0 else 120
def jse (L:List Ser) (x:Ser):List Ser:=if jdV L x then jrc L x else []
theorem jrd {L:List Ser} {x:Ser} (h:jdV L x=true):jse L x=jrc L x:=if_pos h
theorem jrb {L:List Ser} {x:Ser} (h:jdV L x=true):jrX L x=0:=if_pos h
theorem jit (l:List (Ser × SerP)) (a:Option Addr) (len cap:Nat) (x:Ser) (p:SerP) (w:World) (hT:Tab w.heap.size w a len cap l) (hF:∀ y∈l.map (·.1),y.fine) (hP:p.At w.heap.size w x) (hx:x.fine) (hG:GW w) :
  Calls Tryz.prog 36 #[.slice a len cap,.agg #[.slice p.la p.ll p.lc,.int .i64 x.sk.kind,.int .i64 x.sk.level,.slice p.ss.ea p.ss.el p.ss.ec,.int .i64 x.sk.hb,.string x.sk.hr,.int .i64 x.sk.cr,.int .i64 x.sk.cc,.slice p.ss.ca p.ss.cl p.ss.cc,.int .i64 x.sk.gf,.slice p.ss.ga p.ss.gl p.ss.gc,.int .u64 x.seen]] w fun e w'=>∃ a' cap' m,e=.returned (.tuple #[.slice a' (List.length m) cap',.int .i64 (jrX (l.map (·.1)) x)])/\Tab w'.heap.size w' a' m.length cap' m/\m.map (·.1)=jse (l.map (·.1)) x/\Below w.heap.size w w'/\(∀ z,a'=some z->w.heap.size<=z.block)/\(∀ e∈m,e.2.Off (fun b=>w.heap.size<=b/\∀ z,a'=some z->b≠z.block))/\(∀ z,a'=some z->Loose w' z.block)/\(∀ e∈m,jcI w' e) :=
 (jha l a len cap x p w hT (jbw hT hF) hP (hx.serFit hP) hG).mono fun e w' h=>by
  obtain⟨hb,⟨h1,rfl⟩ | ⟨h1,a',cap',m,rfl,h2,h3,h4,h5,h6,h7⟩⟩:=h
  ·exact⟨none,0,[],by rw[jrX,h1];rfl,Tab.nil,by rw[jse,h1];rfl,hb,(fun z h=>by cases h),(fun e h=>by cases h),(fun z h=>by cases h),(fun e h=>by cases h)⟩
  ·exact⟨a',cap',m,by rw[jrX,h1];rfl,h2,by rw[jse,h1];exact h3,hb,h4,h5,h6,h7⟩
end Go.Proofs.YtieknocphiceoaaGreatDoor
