/- series.Put. Series of Go's sizes; aviarylaw12.shown. A series as an argument has it. What rows have in common: series opened, the tables of unicode/utf8. Printed by gen_rz.py. Package ladder: a body's add and lower through the interface. Package ladder: lowered. Package ladder: a sketch as a value and its body at work. Package ladder: stores into a box, kept bodies and sketches; lowered at the bottom; told. The law of a range over an iterator that goes on for ever: the body leaves it by its label. ladder.levels. Package ladder: what sketches cost, in plain data. aviaryref04.Same; series.Same of tables of the same series. -/
import Derived.Lib.LaidTab
import Derived.Lib.LaidU8T
import Derived.Test.YtieknocphiceoaaGreatDoorZT7
namespace Go.Proofs.YtieknocphiceoaaGreatDoor
open Go Go.RowKit Go.Shelf
theorem jjo {base:Nat} {L:List Ser} {x:Ser} {w w':World} {v:Value} {M:List (Ser × SerP)} (hok:jdV L x=true) (hB:Below w.heap.size w w') (hb:w.heap.size<=base) (h:GrowS base (base <= ·) w' v M) (hM:M.map (·.1)=jrc L x) (hfr:∀ e∈M,jcI w' e):jmp L x w (.returned (.tuple #[v,.int .i64 0])) w':=by
 have hown:=h.own;obtain⟨a',cap',rfl,hT',hlo,hof⟩:=h.tab;exact⟨hB,.inr ⟨hok,a',cap',M,rfl,hT',hM,fun z hz=>Nat.le_trans hb (hlo z hz),fun e he=>(hof e he).imp fun b hb'=>⟨Nat.le_trans hb hb'.1,hb'.2⟩,fun z hz=>jhA hown rfl hz,hfr⟩⟩
theorem jgm (w:World) (c:Nat) (hc:c<=900):∃ w',(Instr.makeSlice 22 (.int .i64 0) (.int .i64 ((c:Int)+1))).run Tryz.prog w=.ok (.slice (some ⟨w.heap.size,0,none⟩) 0 (c+1)) w'/\GrowS w.heap.size (w.heap.size <= ·) w' (.slice (some ⟨w.heap.size,0,none⟩) 0 (c+1)) []/\Below w.heap.size w w':=by
 have h:=jlQ w (c+1) (by omega);rw[show ((c+1:Nat):Int)=(c:Int)+1 by omega] at h;exact h
theorem jkw (a:Option Addr) (len cap m:Nat) (w:World) (h:m<len):(Instr.slice 22 (.slice a len cap) (some (.int .i64 ((m:Int)+1))) none none).run Tryz.prog w=.ok (.slice (jc6 a cap (m+1) 12) (len-(m+1)) (cap-(m+1))) w:=by
 have h:=jhH a len cap (m+1) w h;rw[show ((m+1:Nat):Int)=(m:Int)+1 by omega] at h;exact h
theorem jhP (base:Nat) (m:List (Ser × SerP)) (v:Value) (l:List (Ser × SerP)) (a:Option Addr) (len cap:Nat) (W w:World) (hW:W.heap.size<=base) (hb:Below W.heap.size W w) (hbase:base<=w.heap.size) (hM:GrowS base (base <= ·) w v m) (hT:Tab W.heap.size W a len cap l) (hA:jfX l) (hn:m.length+l.length<4294967) (hfree:∀ e∈m,jcI w e) :
  Calls Tryz.prog 78 #[v,.slice a len cap] w fun e w'=>∃ v' m',e=.returned v'/\GrowS base (base <= ·) w' v' (m++m')/\m'.map (·.1)=l.map (·.1)/\Below base w w'/\(∀ e∈m++m',jcI w' e):=by
 have hlt:=hM.own.lt;refine jek base m v l a len cap w hbase hM ((hT.below hb).mono hb.size) hA hn (fun z hz h0 h=>?_) (fun e he=>(hT.at_ e he).off.imp fun b hb h=>?_) hfree
 ·have h1:=(hT.row.2.2.2.2 z hz h0).2
  have h2:=(hlt _ h.symm).1;omega
 ·have h2:=(hlt _ h.symm).1
  omega
theorem jmr (base:Nat) (m:List (Ser × SerP)) (v:Value) (x:Ser) (p:SerP) (W w:World) (hW:W.heap.size<=base) (hb:Below W.heap.size W w) (hbase:base<=w.heap.size) (hM:GrowS base (base <= ·) w v m) (hP:p.At W.heap.size W x) (hA:jfX [(x,p)]) (hn:m.length+1<4294967) (hfree:∀ e∈m,jcI w e) :
  Calls Tryz.prog 78 #[v,.slice (some ⟨w.heap.size,0,none⟩) 1 1] (w.alloc (.cells #[.slice p.la p.ll p.lc,.int .i64 x.sk.kind,.int .i64 x.sk.level,.slice p.ss.ea p.ss.el p.ss.ec,.int .i64 x.sk.hb,.string x.sk.hr,.int .i64 x.sk.cr,.int .i64 x.sk.cc,.slice p.ss.ca p.ss.cl p.ss.cc,.int .i64 x.sk.gf,.slice p.ss.ga p.ss.gl p.ss.gc,.int .u64 x.seen] 70)) fun e w'=>∃ v' m',e=.returned v'/\GrowS base (base <= ·) w' v' (m++m')/\m'.map (·.1)=[(x,p)].map (·.1)/\Below base w w'/\(∀ e∈m++m',jcI w' e):=by
 have hlt:=hM.own.lt;have hB:Below w.heap.size w (w.alloc (.cells #[.slice p.la p.ll p.lc,.int .i64 x.sk.kind,.int .i64 x.sk.level,.slice p.ss.ea p.ss.el p.ss.ec,.int .i64 x.sk.hb,.string x.sk.hr,.int .i64 x.sk.cr,.int .i64 x.sk.cc,.slice p.ss.ca p.ss.cl p.ss.cc,.int .i64 x.sk.gf,.slice p.ss.ga p.ss.gl p.ss.gc,.int .u64 x.seen] 70)):=(Below.refl _ w).alloc (Nat.le_refl _) _;have hz:=hB.size;refine (jek base m v [(x,p)] (some ⟨w.heap.size,0,none⟩) 1 1 (w.alloc (.cells #[.slice p.la p.ll p.lc,.int .i64 x.sk.kind,.int .i64 x.sk.level,.slice p.ss.ea p.ss.el p.ss.ec,.int .i64 x.sk.hb,.string x.sk.hr,.int .i64 x.sk.cr,.int .i64 x.sk.cc,.slice p.ss.ca p.ss.cl p.ss.cc,.int .i64 x.sk.gf,.slice p.ss.ga p.ss.gl p.ss.gc,.int .u64 x.seen] 70)) (by omega) (hM.go hB) (jrn ((hP.below hb).mono hb.size)) hA hn (fun z hz h0 h=>?_) (fun e he=>?_) (fun e he z hz h0=>(hfree e he z hz h0).go hB)).mono ?_
 ·injection hz with hz
  subst hz;have h2:=(hlt _ h.symm).2;dsimp only at h2;omega
 ·rw[List.mem_singleton] at he
  subst he;refine hP.off.imp fun b hb h=>?_
  have h2:=(hlt _ h.symm).1;omega
 ·rintro e w' ⟨v',m',h1,h2,h3,h4,h5⟩
  exact⟨v',m',h1,h2,h3,(hB.mono hbase).trans h4,h5⟩
set_option maxRecDepth 100000 in
set_option maxHeartbeats 4000000 in
theorem jha (l:List (Ser × SerP)) (a:Option Addr) (len cap:Nat) (x:Ser) (p:SerP) (w:World) (hT:Tab w.heap.size w a len cap l) (hF:jbu l) (hP:p.At w.heap.size w x) (hS:SerFit x p) (hG:GW w) :
  Calls Tryz.prog 36 #[.slice a len cap,.agg #[.slice p.la p.ll p.lc,.int .i64 x.sk.kind,.int .i64 x.sk.level,.slice p.ss.ea p.ss.el p.ss.ec,.int .i64 x.sk.hb,.string x.sk.hr,.int .i64 x.sk.cr,.int .i64 x.sk.cc,.slice p.ss.ca p.ss.cl p.ss.cc,.int .i64 x.sk.gf,.slice p.ss.ga p.ss.gl p.ss.gc,.int .u64 x.seen]] w (jmp (l.map (·.1)) x w):=by
 have hlen:=hT.row.1.1;subst hlen;obtain⟨W0,hW0,hX0,hB0,hs0⟩:=jah w #[.slice p.la p.ll p.lc,.int .i64 x.sk.kind,.int .i64 x.sk.level,.slice p.ss.ea p.ss.el p.ss.ec,.int .i64 x.sk.hb,.string x.sk.hr,.int .i64 x.sk.cr,.int .i64 x.sk.cc,.slice p.ss.ca p.ss.cl p.ss.cc,.int .i64 x.sk.gf,.slice p.ss.ga p.ss.gl p.ss.gc,.int .u64 x.seen] 70;obtain⟨c0,c1,c2,c3,c4,c5,c6,c7,c8,c9,c10,c11⟩:=jbU hX0;have HT:=Lib.hid hT;have HT0:Hid (Tab W0.heap.size W0 a l.length cap l):=hT.go hB0;have HF:=Lib.hid hF;have HP:=Lib.hid hP;have HP0:Hid (p.At W0.heap.size W0 x):=hP.go hB0;have HS:=Lib.hid hS;have HG0:Hid (GW W0):=hG.below hB0;have hz0:w.heap.size<W0.heap.size:=by omega
 have hR:=ja2 l a l.length cap W0 HT0.out HF.out HG0.out;clear hT hF hP hS hG hs0
 cases hr:jag (l.map (·.1)) with
 | false =>
  rw[hr] at hR;have H9:Hid (jdV (l.map (·.1)) x=false):=by rw[Hid,jdV,hr];rfl
  clear hr;generalize l.map (·.1)=L at H9 ⊢;go_enter Tryz.func36,Tryz.ntmps36;go_wp2_with (go_at_call 39;refine hR.mono ?_;rintro e w1 ⟨rfl,hb1⟩);go_ret2;exact⟨hB0.trans (hb1.mono (by omega)),.inl ⟨H9.out,rfl⟩⟩
 | true =>
  rw[hr] at hR;have HR2:Hid (∀ w',Below W0.heap.size W0 w'->Calls Tryz.prog 76 #[.agg #[.slice p.la p.ll p.lc,.int .i64 x.sk.kind,.int .i64 x.sk.level,.slice p.ss.ea p.ss.el p.ss.ec,.int .i64 x.sk.hb,.string x.sk.hr,.int .i64 x.sk.cr,.int .i64 x.sk.cc,.slice p.ss.ca p.ss.cl p.ss.cc,.int .i64 x.sk.gf,.slice p.ss.ga p.ss.gl p.ss.gc,.int .u64 x.seen]] w' fun e w''=>e=.returned (.bool (jaM x))/\Below w'.heap.size w' w''):=fun w' hb=>jcR x p w' (HP0.out.go hb) HS.out (HG0.out.below hb)
  cases hsr:jaM x with
  | false =>
   have H9:Hid (jdV (l.map (·.1)) x=false):=by rw[Hid,jdV,hr,hsr];rfl
   rw[hsr] at HR2;clear hr hsr;generalize l.map (·.1)=L at H9 ⊢;go_enter Tryz.func36,Tryz.ntmps36
   go_wp2_with (first
    | (go_at_call 39;refine hR.mono ?_;rintro e w1 ⟨rfl,hb1⟩;obtain⟨hc1,hd1⟩:=je4 hb1)
    | (go_at_call 76;refine (HR2.out _ hb1).mono ?_;rintro e w2 ⟨rfl,hb2⟩))
   go_ret2;exact⟨hB0.trans ((hb1.trans (hb2.mono hb1.size)).mono (by omega)),.inl ⟨H9.out,rfl⟩⟩
  | true =>
   rw[hsr] at HR2;have hk:=jmY (l.map (·.1)) x.l;rw[List.length_map] at hk;have h20:l.length<=20:=by simp[jag] at hr;exact hr.1
   have hcap:l.length<=cap:=HT.out.row.2.1;have hpl:p.ll<=maxLen:=Nat.le_trans HP.out.l.2.1 HP.out.l.2.2.1
   have HFd:Hid (∀ w',Below W0.heap.size W0 w'->Calls Tryz.prog 77 #[.slice a l.length cap,.slice p.la p.ll p.lc] w' fun e w''=>e=.returned (.tuple #[.int .i64 (jb8 (l.map (·.1)) x.l:Int),.bool (jcn (l.map (·.1)) x.l)])/\Below w'.heap.size w' w''):=fun w' hb=>by
    have:=jgK l a l.length cap x.l p.la p.ll p.lc w' (HT0.out.go hb) HF.out (HG0.out.below hb) (HP0.out.go hb).l.1 hpl;rw[hr,if_pos rfl,Bool.true_and] at this;exact this
   have HAF:Hid (jfX l):=jfY hr HF.out HT.out
   have HAF1:Hid (jfX [(x,p)]):=fun e he=>by
    rw[List.mem_singleton] at he;subst he;simp only[jaM,Bool.and_eq_true] at hsr;exact HS.out.add hsr.1 HP.out
   have HOK:Hid (jdV (l.map (·.1)) x=(jcn (l.map (·.1)) x.l || !((l.map (·.1)).length==20))):=by rw[Hid,jdV,hr,hsr];rfl
   have HPL:Hid (∀ m1 m2 m3:List (Ser × SerP),m1.map (·.1)=(l.take (jb8 (l.map (·.1)) x.l)).map (·.1)->m2.map (·.1)=[(x,p)].map (·.1)->m3.map (·.1)=(l.drop (jb8 (l.map (·.1)) x.l+(if jcn (l.map (·.1)) x.l then 1 else 0))).map (·.1)->((([]++m1)++m2)++m3).map (fun e:Ser × SerP=>e.1)=jrc (l.map (·.1)) x):=fun m1 m2 m3 h1 h2 h3=>by
    rw[List.map_append,List.map_append,List.nil_append,h1,h2,h3,jrc,List.map_take,List.map_drop];simp
   have HLL:Hid ((l.map (·.1)).length=l.length):=List.length_map ..
   have HK1:Hid (jcn (l.map (·.1)) x.l=true->jb8 (l.map (·.1)) x.l<l.length):=fun h=>by
    unfold jcn at h
    cases hx:(l.map (·.1))[jb8 (l.map (·.1)) x.l]? with
    | none=>rw[hx] at h;cases h
    | some y=>have:=(List.getElem?_eq_some_iff.1 hx).1;rw[List.length_map] at this;exact this
   clear hr hsr;generalize hkT:jb8 (l.map (·.1)) x.l=kT at *;generalize hbT:jcn (l.map (·.1)) x.l=bT at *;generalize l.map (·.1)=L at *;clear hkT hbT
   cases bT with
   | false =>
    by_cases h19:l.length=20
    ·have H9:Hid (jdV L x=false):=by rw[Hid,HOK.out,HLL.out,h19];rfl
     have h19':(l.length:Int)=20:=by omega
     clear h19;go_enter Tryz.func36,Tryz.ntmps36
     go_wp2_with (first
      | (go_at_call 39;refine hR.mono ?_;rintro e w1 ⟨rfl,hb1⟩;obtain⟨hc1,hd1⟩:=je4 hb1)
      | (go_at_call 76;refine (HR2.out _ hb1).mono ?_;rintro e w2 ⟨rfl,hb2⟩;have hb02:=hb1.trans (hb2.mono hb1.size);obtain⟨hc2,hd2⟩:=je4 hb02)
      | (go_at_call 77;refine (HFd.out _ hb02).mono ?_;rintro e w3 ⟨rfl,hb3⟩))
     go_ret2;exact⟨hB0.trans ((hb02.trans (hb3.mono hb02.size)).mono (by omega)),.inl ⟨H9.out,rfl⟩⟩
    ·have H9:Hid (jdV L x=true):=by rw[Hid,HOK.out,HLL.out];simp;omega
     have h19':¬ ((l.length:Int)=20):=by omega
     clear h19;go_enter Tryz.func36,Tryz.ntmps36
     go_wp2_with (first
      | (go_at_call 39;refine hR.mono ?_;rintro e w1 ⟨rfl,hb1⟩;obtain⟨hc1,hd1⟩:=je4 hb1)
      | (go_at_call 76;refine (HR2.out _ hb1).mono ?_;rintro e w2 ⟨rfl,hb2⟩;have hb02:=hb1.trans (hb2.mono hb1.size);obtain⟨hc2,hd2⟩:=je4 hb02)
      | (go_at_call 77;refine (HFd.out _ hb02).mono ?_;rintro e w3 ⟨rfl,hb3⟩;have hb03:=hb02.trans (hb3.mono hb02.size);obtain⟨w4,hmk,hG4,hb4⟩:=jgm w3 l.length (by omega);have hsl:=jld a l.length cap kT w4 (by omega);have hb04:=hb03.trans (hb4.mono hb03.size);obtain⟨hc4,hd4⟩:=je4 hb04))
     have hz4:=hb04.size;have hz3:=hb03.size;have hz34:=hb4.size;go_at_call 78;refine (jhP w3.heap.size [] _ (l.take kT) a kT cap W0 w4 hz3 hb04 hz34 hG4 (HT0.out.take kT hk) (fun e he=>HAF.out e (List.mem_of_mem_take he)) (by simp;omega) (fun e h=>by cases h)).mono ?_;rintro e w5 ⟨v5,m1,rfl,hG5,hm1,hb5,hf5⟩;have hb05:Below W0.heap.size W0 w5:=hb04.trans (hb5.mono hz3);obtain⟨hc5,hd5⟩:=je4 hb05;have hz5:=hb5.size;have HG5:=Lib.hid hG5;have HF5:=Lib.hid hf5;clear hf5;have HM1:=Lib.hid hm1;clear hG4 hG5 hm1;have hlm1:m1.length<=20:=by have:=congrArg List.length HM1.out;simp at this;omega
     go_wp2_with fail;refine (jmr w3.heap.size _ _ x p W0 w5 hz3 hb05 (by omega) HG5.out HP0.out HAF1.out (by simp;omega) HF5.out).mono ?_;rintro e w6 ⟨v6,m2,rfl,hG6,hm2,hb6,hf6⟩;have hb06:Below W0.heap.size W0 w6:=hb05.trans (hb6.mono hz3);have hz6:=hb6.size;have HG6:=Lib.hid hG6;have HF6:=Lib.hid hf6;clear hf6;have HM2:=Lib.hid hm2;have hlm2:m2.length=1:=by have:=congrArg List.length hm2;simpa using this
     have HL2:=Lib.hid hlm2;have hsl6:=jhH a l.length cap kT w6 hk;clear hG6 hm2 hlm2 hsl;go_wp2_with fail;refine (jhP w3.heap.size _ _ (l.drop kT) _ _ _ W0 w6 hz3 hb06 (by omega) HG6.out (HT0.out.drop kT (by omega)) (fun e he=>HAF.out e (List.mem_of_mem_drop he)) (by simp[HL2.out];omega) HF6.out).mono ?_;rintro e w7 ⟨v7,m3,rfl,hG7,hm3,hb7,hf7⟩;have hb07:Below W0.heap.size W0 w7:=hb06.trans (hb7.mono hz3);have HG7:=Lib.hid hG7;have HF7:=Lib.hid hf7;clear hf7;have HM3:=Lib.hid hm3;clear hG7 hm3;go_wp2_with fail;go_ret2;exact jjo H9.out (hB0.trans (hb07.mono (by omega))) (by omega) HG7.out (HPL.out m1 m2 m3 HM1.out HM2.out HM3.out) HF7.out
   | true =>
    have H9:Hid (jdV L x=true):=HOK.out;have hk1:kT<l.length:=HK1.out rfl;go_enter Tryz.func36,Tryz.ntmps36
    go_wp2_with (first
     | (go_at_call 39;refine hR.mono ?_;rintro e w1 ⟨rfl,hb1⟩;obtain⟨hc1,hd1⟩:=je4 hb1)
     | (go_at_call 76;refine (HR2.out _ hb1).mono ?_;rintro e w2 ⟨rfl,hb2⟩;have hb02:=hb1.trans (hb2.mono hb1.size);obtain⟨hc2,hd2⟩:=je4 hb02)
     | (go_at_call 77;refine (HFd.out _ hb02).mono ?_;rintro e w3 ⟨rfl,hb3⟩;have hb03:=hb02.trans (hb3.mono hb02.size);obtain⟨w4,hmk,hG4,hb4⟩:=jgm w3 l.length (by omega);have hsl:=jld a l.length cap kT w4 (by omega);have hb04:=hb03.trans (hb4.mono hb03.size);obtain⟨hc4,hd4⟩:=je4 hb04))
    have hz4:=hb04.size;have hz3:=hb03.size;have hz34:=hb4.size;go_at_call 78;refine (jhP w3.heap.size [] _ (l.take kT) a kT cap W0 w4 hz3 hb04 hz34 hG4 (HT0.out.take kT hk) (fun e he=>HAF.out e (List.mem_of_mem_take he)) (by simp;omega) (fun e h=>by cases h)).mono ?_;rintro e w5 ⟨v5,m1,rfl,hG5,hm1,hb5,hf5⟩;have hb05:Below W0.heap.size W0 w5:=hb04.trans (hb5.mono hz3);obtain⟨hc5,hd5⟩:=je4 hb05;have hz5:=hb5.size;have HG5:=Lib.hid hG5;have HF5:=Lib.hid hf5;clear hf5;have HM1:=Lib.hid hm1;clear hG4 hG5 hm1;have hlm1:m1.length<=20:=by have:=congrArg List.length HM1.out;simp at this;omega
    go_wp2_with fail;refine (jmr w3.heap.size _ _ x p W0 w5 hz3 hb05 (by omega) HG5.out HP0.out HAF1.out (by simp;omega) HF5.out).mono ?_;rintro e w6 ⟨v6,m2,rfl,hG6,hm2,hb6,hf6⟩;have hb06:Below W0.heap.size W0 w6:=hb05.trans (hb6.mono hz3);have hz6:=hb6.size;have HG6:=Lib.hid hG6;have HF6:=Lib.hid hf6;clear hf6;have HM2:=Lib.hid hm2;have hlm2:m2.length=1:=by have:=congrArg List.length hm2;simpa using this
    have HL2:=Lib.hid hlm2;have hsl6:=jkw a l.length cap kT w6 hk1;clear hG6 hm2 hlm2 hsl;go_wp2_with fail;refine (jhP w3.heap.size _ _ (l.drop (kT+1)) _ _ _ W0 w6 hz3 hb06 (by omega) HG6.out (HT0.out.drop (kT+1) (by omega)) (fun e he=>HAF.out e (List.mem_of_mem_drop he)) (by simp[HL2.out];omega) HF6.out).mono ?_;rintro e w7 ⟨v7,m3,rfl,hG7,hm3,hb7,hf7⟩;have hb07:Below W0.heap.size W0 w7:=hb06.trans (hb7.mono hz3);have HG7:=Lib.hid hG7;have HF7:=Lib.hid hf7;clear hf7;have HM3:=Lib.hid hm3;clear hG7 hm3;go_wp2_with fail;go_ret2;exact jjo H9.out (hB0.trans (hb07.mono (by omega))) (by omega) HG7.out (HPL.out m1 m2 m3 HM1.out HM2.out HM3.out) HF7.out
def Ser.wf (x:Ser):Prop:=x.sk.fit/\U64 x.seen
structure Ser.fine (x:Ser):Prop where
 lab:jez x.l
 ll:x.l.length<=10
 e:x.sk.e.length<=70
 c:x.sk.cl.length<=200
 g:x.sk.gl.length<=300
 fit:x.sk.fit
 hr:x.sk.hr.size<=260
 seen:U64 x.seen
theorem Ser.fine.serFit {x:Ser} {p:SerP} {n:Nat} {w:World} (h:x.fine) (hp:p.At n w x):SerFit x p:=by
 have h1:=hp.l.1.1;have h2:=hp.s.e.1.1;have h3:=hp.s.c.1.1;have h4:=hp.s.g.1.1;have h5:=h.ll;have h6:=h.e;have h7:=h.c;have h8:=h.g;have h9:=h.hr;exact⟨h.lab,by omega,⟨by omega,by omega,by omega⟩,h.fit,by omega,h.seen⟩
theorem Ser.wf.cut {x:Ser} (h:x.wf):x.cut.fine:=by
 refine⟨fun y hy=>?_,?_,?_,?_,?_,fun b hb=>h.1 b (List.mem_of_mem_take hb),?_,h.2⟩
 ·simp only[Ser.cut,List.mem_map] at hy
  obtain⟨u,_,rfl⟩:=hy;exact u.2
 ·simp only[Ser.cut,jdt,List.length_map,List.length_take];omega
 ·simp only[Ser.cut,Sk.cut,List.length_take];omega
 ·simp only[Ser.cut,Sk.cut,List.length_take];omega
 ·simp only[Ser.cut,Sk.cut,List.length_take];omega
 ·simp only[Ser.cut,Sk.cut]
  show (jmh ((260:Nat):Int) x.sk.hr).size<=260;rw[jiT];omega
theorem jbw {l:List (Ser × SerP)} {n:Nat} {w:World} {a:Option Addr} {len cap:Nat} (hT:Tab n w a len cap l) (h:∀ x∈l.map (·.1),Ser.fine x):jbu l:=fun e he=>(h e.1 (List.mem_map_of_mem he)).serFit (hT.at_ e he)
theorem jkU {l:List Ser} (h:∀ x∈l,x.wf):∀ x∈jf6 l,x.fine:=fun x hx=>by
 simp only[jf6,List.mem_map] at hx;obtain⟨y,hy,rfl⟩:=hx;exact (h y (List.mem_of_mem_take hy)).cut
theorem jrj {α:Type} {enc:α->List Value} {k b:Nat} {W:World} {x:α} {t:TypeId} (h:W.heap[b]? = some (.cells (enc x).toArray t (0,0))):SlC enc k W.heap.size W (some ⟨b,0,none⟩) 1 1 [x]:=by
 have hb:=(Array.getElem?_eq_some_iff.1 h).1;refine⟨⟨rfl,fun j y hy=>?_⟩,Nat.le_refl _,by unfold maxLen;omega,(fun h=>by cases h),fun z hz _=>?_⟩
 ·have hj:j=0:=by have:=(List.getElem?_eq_some_iff.1 hy).1;simp at this;exact this
  subst hj;obtain rfl:x=y:=by simpa using hy
  refine⟨b,0,rfl,hb,fun i hi=>?_⟩;have:=cCc h i;simpa using this
 ·injection hz with hz
  subst hz;exact⟨rfl,hb⟩
def Ser.wn (x:Ser):Prop:=x.sk.arg/\U64 x.seen
theorem Ser.wn.wf {x:Ser} (h:x.wn):x.wf:=⟨fun b hb=>(h.1.g b hb).1.2,h.2⟩
end Go.Proofs.YtieknocphiceoaaGreatDoor
namespace Go.Proofs.YtieknocphiceoaaGreatDoor
open Go Go.ChangeShapes Go.WideShapes Go.ChangeAt Go.RowKit Go.Lib Go.Deep Go.Shelf
def ren:Ren:=⟨fun x=>x,fun | 5=>5 | 119=>307 | 138=>309 | 139=>310 | n=>n,fun | 3=>2 | 4=>3 | n=>n⟩
theorem jn2:U8Types Tryz.prog ren:=⟨by kernel_rfl,by kernel_rfl,by kernel_rfl,by kernel_rfl⟩
theorem jn1:U8Extra Tryz.prog ren:=⟨by kernel_rfl,by kernel_rfl,by kernel_rfl,by kernel_rfl,by kernel_rfl,by kernel_rfl,by kernel_rfl⟩
theorem jqJ:Rows.laid_unicode_utf8_first=firstData:=by kernel_rfl
theorem jon:(Rows.laid_unicode_utf8_acceptRanges:DataW Unit)=acceptData:=by kernel_rfl
def jng : List (String × DataW Unit) := [("unicode/utf8.acceptRanges", Rows.laid_unicode_utf8_acceptRanges), ("unicode/utf8.first", Rows.laid_unicode_utf8_first)]
theorem jso {W:World} (hL':laidMet Tryz.prog jng W) (hS:W.ShapedOpen Tryz.prog):GW W:=by
 obtain⟨ps,hv,_⟩:=hL';have h3 := LaidVars_reads hv "unicode/utf8.first" Rows.laid_unicode_utf8_first (by unfold jng; simp);have h4 := LaidVars_reads hv "unicode/utf8.acceptRanges" Rows.laid_unicode_utf8_acceptRanges (by unfold jng; simp);rw[jqJ] at h3;rw[jon] at h4;refine⟨utf8Tabs_of_readsT jn2 jn1 h3 h4,?_,?_⟩
 ·exact cell_of_shapedOpen_int hS (g:=1) (t:=3) (zero:=#[.int .i64 0]) (of_decide_eq_true (by kernel_rfl)) (by kernel_rfl) (by kernel_rfl) (by kernel_rfl) (by kernel_rfl) (by kernel_rfl)
 ·have hT:=utf8Tabs_of_readsT jn2 jn1 h3 h4
  exact World.block_lt_of_cell? W _ (hT.2 0 (by decide)).1
section
variable {H:Type} {enc:TypeId × Value->H} {w:World} {base:Nat} {held:Bool}
theorem jpm (n:Nat) (cs:List Value) (x:DataW H × List MemPlace) (h:DataW.trod enc Tryz.prog w base (fun _=>true) held n 67 cs=some x):∃ y:Lab,cs=y.enc:=by
 obtain⟨hl,m,hf⟩:=jb3 Tryz.underlying67 (by kernel_rfl) (by kernel_rfl) h;obtain⟨v0,y0,e0,h0⟩:=hf 0 _ rfl;obtain⟨v1,y1,e1,h1⟩:=hf 1 _ rfl;obtain⟨s0,c0,-,-⟩:=DataW.trod_string jn3 h0;obtain⟨s1,c1,-,-⟩:=DataW.trod_string jn3 h1
 match cs,hl with
 | [a,b],_ =>
  simp only[List.getElem?_cons_zero,List.getElem?_cons_succ,Option.some.injEq,List.cons.injEq,and_true] at e0 e1 c0 c1;exact⟨⟨s0,s1⟩,by rw[e0,e1,c0,c1];rfl⟩
theorem jne (n:Nat) (cs:List Value) (x:DataW H × List MemPlace) (h:DataW.trod enc Tryz.prog w base (fun _=>true) held n 67 cs=some x):∃ y:Lab,cs=y.enc/\True:=by
 obtain⟨y,h⟩:=jpm n cs x h;exact⟨y,h,trivial⟩
end
def jqS : List (String × DataW Unit) := [("unicode/utf8.acceptRanges", Rows.laid_unicode_utf8_acceptRanges), eT, ("unicode/utf8.first", Rows.laid_unicode_utf8_first)]
theorem jsz {W:World} (h:laidMetH Tryz.prog jqS W):laidMet Tryz.prog jng W/\handlesMet Tryz.prog [eT] W:=h
noncomputable def laidWorldQ (os:Os):World :=
 let h0:=(World.holding Tryz.prog os ⟨#[],#[],[]⟩)
 { h0 with heap:=((h0.heap.modify 0 jpW).modify 2 fun
   | .cells _ t frozen=>.cells (firstTab.map (Value.int .u8)).toArray t frozen
   | o=>o).modify 3 fun
   | .cells _ t frozen=>.cells ((List.range 16).flatMap fun i=>[Value.int .u8 (accLo i),Value.int .u8 (accHi i)]).toArray t frozen
   | o=>o }
theorem jnh (os:Os) (args:Array Value):laidMetH Tryz.prog jqS ((laidWorldQ os).forCall (fun _ _=>0) ⟨#[],args,[]⟩).memory :=
 laidMetH_of_parts (show laidMet Tryz.prog jng _ from laidMet_of_run' 8 (by kernel_rfl) (by kernel_rfl)) (by kernel_rfl)
end Go.Proofs.YtieknocphiceoaaGreatDoor
namespace Go.Proofs.YtieknocphiceoaaGreatDoor
open Go Go.RowKit Go.Shelf
theorem jkX (f:Nat):∀ (l:List (Int × Int)) (last:Int),jcr l->(∀ b∈l,last<b.1)->(∀ b∈l,b.2≠0)->(∀ b∈l,jap f b.1=true)->(jbM (jbg f) last l).isSome=true
 | [],last,_,_,_,_=>by simp[jeL]
 | b::t,last,hu,h1,h2,h3=>by
  obtain⟨u1,u2⟩:=jcE hu
  have hs:jbg f last b=some b.1:=by
   unfold jbg;have a1:=h1 b List.mem_cons_self;have a2:=h2 b List.mem_cons_self;have a3:=h3 b List.mem_cons_self;rw[if_neg];simp[a2,a3];omega
  rw[jcF,hs];exact jkX f t b.1 u1 u2 (fun c hc=>h2 c (List.mem_cons_of_mem _ hc)) (fun c hc=>h3 c (List.mem_cons_of_mem _ hc))
theorem je9 (f:Nat) (l:List (Int × Int)) (hf:f<=3) (hu:jcr l) (h2:∀ b∈l,b.2≠0) (h3:∀ b∈l,jap f b.1=true):jaX f l=true:=by
 unfold jaX;rw[jbX f hf,jkX f l (-1) hu (fun b hb=>by have:=jb7 f hf b.1 (h3 b hb);omega) h2 h3];rfl
theorem jql:∀ (l:List (Int × Int)) (lo:Int),jcr l->(∀ b∈l,lo<b.1)->(∀ b∈l,b.1<=512)->lo<=512->(l.length:Int)<=512-lo
 | [],lo,_,_,_,h=>by simp;omega
 | b::t,lo,hu,h1,h2,h=>by
  obtain⟨u1,u2⟩:=jcE hu;have a1:=h1 b List.mem_cons_self;have a2:=h2 b List.mem_cons_self;have:=jql t b.1 u1 u2 (fun c hc=>h2 c (List.mem_cons_of_mem _ hc)) a2;simp only[List.length_cons];omega
theorem jfP (f:Nat) (l:List (Int × Int)) (hf:f<=3) (hu:jcr l) (h3:∀ b∈l,jap f b.1=true):l.length<=513:=by
 have:=jql l (-1) hu (fun b hb=>by have:=jb7 f hf b.1 (h3 b hb);omega) (fun b hb=>(jb7 f hf b.1 (h3 b hb)).2) (by omega);omega
theorem jkP (f:Nat) (l:List (Int × Int)) (hf:f<=3) (h3:∀ b∈l,jap f b.1=true):∀ b∈l,I64 b.1:=fun b hb=>by have:=jb7 f hf b.1 (h3 b hb);unfold I64;omega
theorem jhS {c level:Nat} (h:c*2^level=32) (hl:level<=3):c=4\/c=8\/c=16\/c=32:=by
 rcases (by omega:level=0\/level=1\/level=2\/level=3) with rfl | rfl | rfl | rfl<;>simp at h<;>omega
theorem jo1 {c level:Nat} (h:c*2^level=32) (hl:level<3):c=8\/c=16\/c=32:=by
 rcases (by omega:level=0\/level=1\/level=2) with rfl | rfl | rfl<;>simp at h<;>omega
theorem jnr (x : Value) (w : World) : (method 509 239 (.agg #[x]) "aviary/ladder.lower").run Tryz.prog w = .ok (254, .agg #[x]) w := by kernel_rfl
theorem jns (x y : Value) (w : World) : (method 509 241 (.agg #[x, y]) "aviary/ladder.lower").run Tryz.prog w = .ok (282, .agg #[x, y]) w := by kernel_rfl
theorem jnq (x y z : Value) (w : World) : (method 509 242 (.agg #[x, y, z]) "aviary/ladder.lower").run Tryz.prog w = .ok (290, .agg #[x, y, z]) w := by kernel_rfl
theorem jnp (x y : Value) (w : World) : (method 509 244 (.agg #[x, y]) "aviary/ladder.lower").run Tryz.prog w = .ok (304, .agg #[x, y]) w := by kernel_rfl
theorem jpA {w : World} {v : Value} {B : Bd} {kind level : Nat} (hb : BdAt w v B) (hok : B.Ok kind level) (hlv : level < jdr kind) : ∃ T rv f, v = .iface T rv /\ (∀ W, (method 509 T rv "aviary/ladder.lower").run Tryz.prog W = .ok (f, rv) W) /\ (∀ args W, (callFunc f args).run Tryz.prog W = .ok (.enter f args) W) /\
  ∀ W,BdAt W v B->Calls Tryz.prog f #[rv] W (jey (some B.low) W):=by
 cases B with
 | num l =>
  obtain⟨a,len,cap,rfl,-⟩:=hb;obtain⟨-,-,o3,o4,o5⟩:=hok;refine⟨_,_,_,rfl,fun W=>jnr _ W,enters_of Tryz.func254 (by kernel_rfl) rfl,fun W hW=>?_⟩;obtain⟨a',len',cap',e,hS⟩:=hW
  cases e
  exact jqZ l a len cap W hS o5 (by omega)
 | reg b r =>
  obtain rfl:v=_:=hb;obtain⟨o1,o2,o3,o4,o5,o6⟩:=hok;subst o1;have:jdr 1=4:=rfl;refine⟨_,_,_,rfl,fun W=>jns _ _ W,enters_of Tryz.func282 (by kernel_rfl) rfl,fun W hW=>?_⟩;exact jq0 b r W (by omega) (by omega) o5 o6
 | cnt c l =>
  obtain⟨a,len,cap,rfl,-⟩:=hb;obtain⟨o1,o2,o3,o4,o5⟩:=hok;subst o1;have:jdr 2=3:=rfl;refine⟨_,_,_,rfl,fun W=>jnq _ _ _ W,enters_of Tryz.func290 (by kernel_rfl) rfl,fun W hW=>?_⟩;obtain⟨a',len',cap',e,hS⟩:=hW
  cases e
  exact jqX c l a len cap W (jo1 o3 (by omega)) hS o4 o5
 | bkt f l =>
  obtain⟨a,len,cap,rfl,-⟩:=hb;obtain⟨o1,o2,o3,o4,o5,o6,o7⟩:=hok;subst o1;have:jdr 3=3:=rfl;refine⟨_,_,_,rfl,fun W=>jnp _ _ W,enters_of Tryz.func304 (by kernel_rfl) rfl,fun W hW=>?_⟩;obtain⟨a',len',cap',e,hS⟩:=hW
  cases e
  have hf:f<=3:=by omega
  exact jqW f l a len cap W (by omega) hf hS (je9 f l hf o4 o5 o7) o7 o6 (by have:=jfP f l hf o4 o7;omega)
theorem jfp {B:Bd} {kind level:Nat} (h:B.Ok kind level):jal (kind:Int)=(jdr kind:Int)/\level<=jdr kind:=by
 cases B with
 | num l=>obtain⟨rfl,rfl,-⟩:=h;exact⟨rfl,by decide⟩
 | reg b r=>obtain⟨rfl,-,h,-⟩:=h;exact⟨rfl,h⟩
 | cnt c l=>obtain⟨rfl,h,-⟩:=h;exact⟨rfl,h⟩
 | bkt f l=>obtain⟨rfl,h,-⟩:=h;exact⟨rfl,h⟩
theorem jc0 {W:World} {v:Value} {B:Bd} (h:BdAt W v B):∃ T rv,v=.iface T rv:=by
 cases B with
 | num l=>obtain⟨a,len,cap,rfl,-⟩:=h;exact⟨_,_,rfl⟩
 | reg b r=>exact⟨_,_,h⟩
 | cnt c l=>obtain⟨a,len,cap,rfl,-⟩:=h;exact⟨_,_,rfl⟩
 | bkt f l=>obtain⟨a,len,cap,rfl,-⟩:=h;exact⟨_,_,rfl⟩
def OnlyAt (b:Nat) (W V:World):Prop:=V.heap.size=W.heap.size/\∀ k,k≠b->V.heap[k]? = W.heap[k]?
theorem OnlyAt.refl (b:Nat) (W:World):OnlyAt b W W:=⟨rfl,fun _ _=>rfl⟩
theorem OnlyAt.set {b:Nat} {W V:World} (h:OnlyAt b W V) (o:Nat) (v:Value):OnlyAt b W (V.setCell ⟨b,o,none⟩ v):=⟨(jdA V _ v).trans h.1,fun k hk=>(jam (p:=⟨b,o,none⟩) (fun e=>hk e.symm) v).trans (h.2 k hk)⟩
theorem jbd {α:Type} {enc:α->List Value} {k i0:Nat} (hi:i0<k) (hu:∀ x,∃ u,(enc x)[i0]? = some (.int .u64 u)) {W V:World} {b:Nat} {cs:Array Value} {t:TypeId} (hX:W.heap[b]? = some (.cells cs t (0,0))) (hc:∀ (i:Nat) (u:Int),cs[i]? ≠ some (Value.int .u64 u)) (hV:OnlyAt b W V)
  {a:Option Addr} {len cap:Nat} {l:List α} (h:SlC enc k W.heap.size W a len cap l):SlC enc k V.heap.size V a len cap l:=by
 rw[hV.1];refine⟨⟨h.1.1,fun j x hx=>?_⟩,h.2⟩;obtain⟨g,off,e,hg,hcell⟩:=h.1.2 j x hx
 have hne:g≠b:=fun e=>by
  subst e;obtain⟨u,hu⟩:=hu x;have h1:=hcell i0 hi;rw[hu,cCc hX] at h1;exact hc _ u h1
 exact⟨g,off,e,hg,fun i hi=>(World.cell?_of_block (show V.heap[g]? = W.heap[g]? from hV.2 g hne)).trans (hcell i hi)⟩
theorem BdAt.apart {W V:World} {v:Value} {B:Bd} (h:BdAt W v B) {b:Nat} {cs:Array Value} {t:TypeId} (hX:W.heap[b]? = some (.cells cs t (0,0))) (hc:∀ (i:Nat) (u:Int),cs[i]? ≠ some (Value.int .u64 u)) (hV:OnlyAt b W V):BdAt V v B:=by
 cases B with
 | num l=>obtain⟨a,len,cap,h1,h2⟩:=h;exact⟨a,len,cap,h1,jbd (i0:=0) (by decide) (fun x=>⟨x,rfl⟩) hX hc hV h2⟩
 | reg b r=>exact h
 | cnt c l=>obtain⟨a,len,cap,h1,h2⟩:=h;exact⟨a,len,cap,h1,jbd (i0:=0) (by decide) (fun x=>⟨x,rfl⟩) hX hc hV h2⟩
 | bkt f l=>obtain⟨a,len,cap,h1,h2⟩:=h;exact⟨a,len,cap,h1,jbd (i0:=1) (by decide) (fun x=>⟨x.2,rfl⟩) hX hc hV h2⟩
theorem jqe {i:Nat} {x y z:Value} (hx:∀ u,x≠.int .u64 u) (hy:∀ u,y≠.int .u64 u) (hz:∀ u,z≠.int .u64 u) (u:Int):(#[x,y,z]:Array Value)[i]? ≠ some (.int .u64 u):=by
 intro h;rcases i with _ | _ | _ | i
 ·exact hx u (by simpa using h)
 ·exact hy u (by simpa using h)
 ·exact hz u (by simpa using h)
 ·simp at h
theorem jbB {w:World} (n:Nat):Below w.heap.size w (w.drewN n):=bDr (Below.refl _ _) n
set_option maxRecDepth 100000 in
set_option maxHeartbeats 2000000 in
theorem jgl (v:Value) (B:Bd) (kind level:Nat) (w:World) (hb:BdAt w v B) (hok:B.Ok kind level) (hlv:level<jdr kind) :
  Calls Tryz.prog 89 #[.agg #[v,.int .i64 kind,.int .i64 level]] w fun e w'=>∃ v',e=.returned (.tuple #[.agg #[v',.int .i64 kind,.int .i64 ((level:Int)+1)],.nilIface])/\BdAt w' v' B.low/\Below w.heap.size w w':=by
 obtain⟨T,rv,f,rfl,hm,hcf,hc⟩:=jpA hb hok hlv;obtain⟨W0,hW0,hXp,hXr,hB0,hs0⟩:=jaS w #[.iface T rv,.int .i64 kind,.int .i64 level] 122 #[.nilIface,.int .i64 0,.int .i64 0] 122;have HBT:Hid (∀ w,Calls Tryz.prog 48 #[.int .i64 kind] w fun e w'=>e=.returned (.int .i64 (jdr kind:Nat))/\w'=w):=fun w=>(jbi kind w).mono fun e w' ⟨h1,h2⟩=>⟨by rw[h1,(jfp hok).1],h2.symm⟩
 obtain⟨c0,c1,c2⟩:=cl3 hXp;have HXP:=Lib.hid hXp;have HXR:=Lib.hid hXr;have HB0:=Lib.hid hB0;have HB:=Lib.hid (hb.go hB0);have HC:=Lib.hid hc;have t1:decide ((jdr kind:Int)<=(level:Int))=false:=by simp;omega
 have hb4:jdr kind<=4:=by unfold jdr;split<;>omega
 clear hXp hXr hB0 hb hc hok;go_enter Tryz.func89,Tryz.ntmps89;go_wp2_with fail;go_quiet ((go_at_call 48;exact Calls.quiet_of_same (HBT.out _)));go_wp2_with fail;have hB1:=jbB (w:=W0) nq;refine (HC.out _ (HB.out.go hB1)).mono ?_;rintro e w1 ⟨hb1,v',rfl,hv1⟩;obtain⟨T',rv',rfl⟩:=jc0 hv1;have hX1:=jak (hB1.trans hb1) (Nat.le_refl _) HXP.out;have hR1:=jak (hB1.trans hb1) (Nat.le_refl _) HXR.out;have hB01:Below w.heap.size w w1:=HB0.out.trans ((hB1.trans hb1).mono HB0.out.size);have hw1:wrap64 ((level:Int)+1)=(level:Int)+1:=by unfold wrap64;omega
 have hw2:IntKind.i64.wrap ((level:Int)+1)=((level:Int)+1):=IntWalk.i64_in _ (by omega);obtain⟨d0,d1,d2⟩:=cl3 hX1;obtain⟨r0,r1,r2⟩:=cl3 hR1;obtain⟨g0,g1,g2⟩:=cz3 hR1;have hX6:=jcH (u:=.iface T' rv') (v:=.int .i64 kind) (q:=.int .i64 ((level:Int)+1)) hR1;have hB6:=((hB01.setCell (p:=⟨w.heap.size+1,0,none⟩) (Nat.le_succ _) (.iface T' rv')).setCell (p:=⟨w.heap.size+1,1,none⟩) (Nat.le_succ _) (.int .i64 kind)).setCell (p:=⟨w.heap.size+1,2,none⟩) (Nat.le_succ _) (.int .i64 ((level:Int)+1));have HV:Hid (BdAt w1 (.iface T' rv') B.low):=hv1;have HR1:=Lib.hid hR1;clear hX1 hR1 hB01 hv1 hb1 hB1;go_wp2_with fail;have hgV:BdAt (((w1.setCell ⟨w.heap.size+1,0,none⟩ (.iface T' rv')).setCell ⟨w.heap.size+1,1,none⟩ (.int .i64 kind)).setCell ⟨w.heap.size+1,2,none⟩ (.int .i64 ((level:Int)+1))) (.iface T' rv') B.low:=BdAt.apart (B:=B.low) HV.out HR1.out (fun i u=>jqe (by simp) (by simp) (by simp) u) ((((OnlyAt.refl _ _).set _ _).set _ _).set _ _);generalize ((w1.setCell ⟨w.heap.size+1,0,none⟩ (.iface T' rv')).setCell ⟨w.heap.size+1,1,none⟩ (.int .i64 kind)).setCell ⟨w.heap.size+1,2,none⟩ (.int .i64 ((level:Int)+1))=V at hX6 hB6 hgV ⊢;obtain⟨k0,k1,k2⟩:=cl3 hX6;exact bodyPost_ret (v:=.tuple #[.agg #[.iface T' rv',.int .i64 kind,.int .i64 ((level:Int)+1)],.nilIface]) (by simp[results,Tryz.f89,go_sem,k0,k1,k2]) rfl ⟨_,rfl,hgV,hB6⟩
def jb6 (kind level:Nat):Bd->Sk
 | .num l=>jcD kind level l
 | .reg b r=>jb4 kind level b (jaA r)
 | .cnt c l=>jbA kind level 2 c l
 | .bkt f l=>jck kind level f l
theorem jri (x:Sk):jay x x=true:=by simp[jay]
theorem jaD (k L:Nat) (B:Bd):(jb6 k L B).kind=k/\(jb6 k L B).level=L:=by cases B<;>exact⟨rfl,rfl⟩
theorem jq2 {B:Bd} {k L:Nat} (h:B.Ok k L):k=1\/k=2\/k=3:=by
 cases B with
 | num l=>exact .inl h.1
 | reg b r=>exact .inl h.1
 | cnt c l=>exact .inr (.inl h.1)
 | bkt f l=>exact .inr (.inr h.1)
theorem jo0 {c level:Nat} (h:c*2^level=32) (hl:level<=3):((c:Int)==32 / 2^level)=true:=by
 rw[beq_iff_eq];rcases (by omega:level=0\/level=1\/level=2\/level=3) with rfl | rfl | rfl | rfl<;>simp at h ⊢<;>omega
theorem jl4 {B:Bd} {k L:Nat} (h:B.Ok k L):ja3 (jb6 k L B)=jb6 k L B:=by
 cases B with
 | num l =>
  obtain⟨rfl,rfl,-⟩:=h;rfl
 | reg b r =>
  obtain⟨rfl,h1,-⟩:=h;have h0:(((L:Nat):Int)==0)=false:=by simp;omega
  show (if ((1:Nat):Int)==1 then if (L:Int)==0 then _ else _ else _)=_;rw[h0];rfl
 | cnt c l =>
  obtain⟨rfl,-⟩:=h;rfl
 | bkt f l =>
  obtain⟨rfl,-⟩:=h;rfl
theorem jnQ {B:Bd} {k L:Nat} (h:B.Ok k L):jaG (jb6 k L B)=true:=by
 cases B with
 | num l =>
  obtain⟨rfl,rfl,h3,h4,-⟩:=h;exact jlk l h3 h4
 | reg b r =>
  obtain⟨rfl,h1,h2,h3,h4,h5⟩:=h;have h0:(((L:Nat):Int)==0)=false:=by simp;omega
  show (if ((1:Nat):Int)==1 then if (L:Int)==0 then _ else jaR (b:Int) (jaA r)&&((b:Int)==8-(L:Int)) else _)=true;rw[h0,jep b r (by omega) (by omega) h4 h5];simp;omega
 | cnt c l =>
  obtain⟨rfl,h2,h3,h4,-⟩:=h;show (jaN 2 (c:Int) l&&((2:Int)==2)&&((c:Int)==32 / 2^((L:Int)).toNat))=true;rw[Int.toNat_natCast,jo0 h3 h2];unfold jaN;rw[jeX c (jhS h3 h2)];simp;omega
 | bkt f l =>
  obtain⟨rfl,h2,h3,h4,h5,-,h7⟩:=h;show (jaX (f:Int) l&&((f:Int)==3-(L:Int)))=true;rw[je9 f l (by omega) h4 h5 h7];simp;omega
theorem jkr {B:Bd} {k L:Nat} (h:B.Ok k L):jcd (jb6 k L B)=true:=by
 unfold jcd;rw[jnQ h,jl4 h,jri,(jaD k L B).1,(jaD k L B).2,(jfp h).1];have h1:=(jfp h).2;have h2:=jq2 h;simp;omega
theorem jdB {B:Bd} {k L:Nat} (h:B.Ok k L):(jb6 k L B).fit:=by
 cases B with
 | bkt f l =>
  obtain⟨rfl,h2,h3,h4,h5,-,h7⟩:=h;exact fun b hb=>(jkP f l (by omega) h7 b hb).2
 | num l=>exact fun b hb=>by cases hb
 | reg b r=>exact fun b hb=>by cases hb
 | cnt c l=>exact fun b hb=>by cases hb
def SkB (W:World) (v:Value) (k L:Nat) (B:Bd):Prop:=∃ (y:Sk) (s:SS),y=jb6 k L B/\v=.agg #[.int .i64 y.kind,.int .i64 y.level,.slice s.ea s.el s.ec,.int .i64 y.hb,.string y.hr,.int .i64 y.cr,.int .i64 y.cc,.slice s.ca s.cl s.cc,.int .i64 y.gf,.slice s.ga s.gl s.gc]/\s.At W.heap.size W y
theorem SkB.go {W W':World} {v:Value} {k L:Nat} {B:Bd} (h:SkB W v k L B) (hb:Below W.heap.size W W'):SkB W' v k L B:=by
 obtain⟨y,s,h0,h1,h2⟩:=h;exact⟨y,s,h0,h1,h2.go hb⟩
theorem jop {s:SS} {k L:Nat} {B:Bd} {n:Nat} {W:World} (h:B.Ok k L) (hA:s.At n W (jb6 k L B)):s.Short:=by
 have e1:s.el=(jb6 k L B).e.length:=hA.e.1.1;have e2:s.cl=(jb6 k L B).cl.length:=hA.c.1.1;have e3:s.gl=(jb6 k L B).gl.length:=hA.g.1.1;unfold SS.Short;rw[e1,e2,e3]
 cases B with
 | num l =>
  obtain⟨-,-,-,h4,-⟩:=h;show l.length<_/\0<_/\0<_;omega
 | reg b r=>show 0<_/\0<_/\0<_;omega
 | cnt c l =>
  obtain⟨-,h2,h3,h4,-⟩:=h;have:=jhS h3 h2;show 0<_/\l.length<_/\0<_;omega
 | bkt f l =>
  obtain⟨-,h2,h3,h4,-,-,h7⟩:=h;have:=jfP f l (by omega) h4 h7;show 0<_/\0<_/\l.length<_;omega
theorem jnP {s:SS} {k L:Nat} {B:Bd} {W:World} (h:B.Ok k L) (hA:s.At W.heap.size W (jb6 k L B)):BdAt W (jb2 (jb6 k L B) s) B:=by
 cases B with
 | num l =>
  obtain⟨rfl,rfl,-⟩:=h;exact⟨s.ea,s.el,s.ec,rfl,hA.e⟩
 | reg b r =>
  obtain⟨rfl,h1,-⟩:=h;have h0:(((L:Nat):Int)==0)=false:=by simp;omega
  show (if ((1:Nat):Int)==1 then if (L:Int)==0 then _ else _ else _)=_;rw[h0];rfl
 | cnt c l =>
  obtain⟨rfl,-⟩:=h;exact⟨s.ca,s.cl,s.cc,rfl,hA.c⟩
 | bkt f l =>
  obtain⟨rfl,-⟩:=h;exact⟨s.ga,s.gl,s.gc,rfl,hA.g⟩
theorem jgo {k L:Nat} {B:Bd} {v:Value} {w:World} (h:B.Ok k L) (hv:SkB w v k L B) :
  Calls Tryz.prog 88 #[v] w fun e w'=>∃ b,e=.returned (.tuple #[.agg #[b,.int .i64 k,.int .i64 L],.nilIface])/\BdAt w' b B/\Below w.heap.size w w':=by
 obtain⟨y,s,rfl,rfl,hA⟩:=hv;refine (jdy (jb6 k L B) s w hA (jop h hA) (jdB h)).mono ?_;rintro e w' ⟨h1,h2⟩;rw[jkr h,(jaD k L B).1,(jaD k L B).2] at h1;exact⟨_,h1,jnP h (hA.go h2),h2⟩
theorem OnlyAt.trans {b:Nat} {W V U:World} (h1:OnlyAt b W V) (h2:OnlyAt b V U):OnlyAt b W U:=⟨h2.1.trans h1.1,fun k hk=>(h2.2 k hk).trans (h1.2 k hk)⟩
theorem jaa {W:World} {B i:Nat} {c:Array Value} {t:TypeId} {fz:Nat × Nat} {v:Value} (h:W.heap[B]? = some (.cells c t fz)) (hv:c[i]? = some v):W.setCell ⟨B,i,none⟩ v=W:=by
 have hc:c.setIfInBounds i v=c:=by
  obtain⟨hi,rfl⟩:=Array.getElem?_eq_some_iff.1 hv;apply Array.ext (by simp);intro j h1 h2;rw[Array.getElem_setIfInBounds];split
  ·rename_i e;subst e;rfl
  ·rfl
 have key:(W.setCell ⟨B,i,none⟩ v).heap=W.heap:=by
  apply Array.ext (jdA W _ v);intro j h1 h2
  have a1:(W.setCell ⟨B,i,none⟩ v).heap[j]? = W.heap[j]? := by
   by_cases hj:B=j
   ·subst hj
    rw[hSk h,h,hc]
   ·exact jam (p:=⟨B,i,none⟩) hj v
  rw[Array.getElem?_eq_getElem h1,Array.getElem?_eq_getElem h2] at a1;exact Option.some.inj a1
 have e:W.setCell ⟨B,i,none⟩ v = { W with heap:=(W.setCell ⟨B,i,none⟩ v).heap }:=rfl;rw[e,key]
theorem jle {W:World} {b:Nat} {x y z:Value} (u v q:Value) {t:TypeId} (h:W.heap[b]? = some (.cells #[x,y,z] t (0,0))):∃ V,((W.setCell ⟨b,0,none⟩ u).setCell ⟨b,1,none⟩ v).setCell ⟨b,2,none⟩ q=V/\V.heap[b]? = some (.cells #[u,v,q] t (0,0))/\OnlyAt b W V/\∀ n w0,Below n w0 W->n<=b->Below n w0 V :=
 ⟨_,rfl,jcH h,(((OnlyAt.refl _ _).set _ _).set _ _).set _ _,fun _ _ hB hn=>((hB.setCell (p:=⟨b,0,none⟩) hn _).setCell (p:=⟨b,1,none⟩) hn _).setCell (p:=⟨b,2,none⟩) hn _⟩
theorem jcl {W:World} {b:Nat} {x0 x1 x2 x3 x4 x5 x6 x7 x8 x9:Value} (v0 v1 v2 v3 v4 v5 v6 v7 v8 v9:Value) {t:TypeId} (h:W.heap[b]? = some (.cells #[x0,x1,x2,x3,x4,x5,x6,x7,x8,x9] t (0,0))) :
  ∃ V,(((((((((W.setCell ⟨b,0,none⟩ v0).setCell ⟨b,1,none⟩ v1).setCell ⟨b,2,none⟩ v2).setCell ⟨b,3,none⟩ v3).setCell ⟨b,4,none⟩ v4).setCell ⟨b,5,none⟩ v5).setCell ⟨b,6,none⟩ v6).setCell ⟨b,7,none⟩ v7).setCell ⟨b,8,none⟩ v8).setCell ⟨b,9,none⟩ v9=V /\
   V.heap[b]? = some (.cells #[v0,v1,v2,v3,v4,v5,v6,v7,v8,v9] t (0,0))/\OnlyAt b W V/\∀ n w0,Below n w0 W->n<=b->Below n w0 V :=
 ⟨_,rfl,jrf h,((((((((((OnlyAt.refl _ _).set _ _).set _ _).set _ _).set _ _).set _ _).set _ _).set _ _).set _ _).set _ _).set _ _,
  fun _ _ hB hn=>(((((((((hB.setCell (p:=⟨b,0,none⟩) hn _).setCell (p:=⟨b,1,none⟩) hn _).setCell (p:=⟨b,2,none⟩) hn _).setCell (p:=⟨b,3,none⟩) hn _).setCell (p:=⟨b,4,none⟩) hn _).setCell (p:=⟨b,5,none⟩) hn _).setCell (p:=⟨b,6,none⟩) hn _).setCell (p:=⟨b,7,none⟩) hn _).setCell (p:=⟨b,8,none⟩) hn _).setCell (p:=⟨b,9,none⟩) hn _⟩
theorem BdAt.set_work {W V:World} {v:Value} {B:Bd} {b:Nat} {x y z:Value} {t:TypeId} (h:BdAt W v B) (hX:W.heap[b]? = some (.cells #[x,y,z] t (0,0))) (hx:∀ u,x≠.int .u64 u) (hy:∀ u,y≠.int .u64 u) (hz:∀ u,z≠.int .u64 u) (hV:OnlyAt b W V):BdAt V v B :=
 h.apart hX (fun _ u=>jqe hx hy hz u) hV
theorem SkB.apart {W V:World} {v:Value} {k L:Nat} {B:Bd} (h:SkB W v k L B) {b:Nat} {cs:Array Value} {t:TypeId} (hX:W.heap[b]? = some (.cells cs t (0,0))) (hc:∀ (i:Nat) (u:Int),cs[i]? ≠ some (Value.int .u64 u)) (hV:OnlyAt b W V):SkB V v k L B:=by
 obtain⟨y,s,h0,h1,h2⟩:=h;exact⟨y,s,h0,h1,jbd (i0:=0) (by decide) (fun x=>⟨x,rfl⟩) hX hc hV h2.e,jbd (i0:=0) (by decide) (fun x=>⟨x,rfl⟩) hX hc hV h2.c,jbd (i0:=1) (by decide) (fun x=>⟨x.2,rfl⟩) hX hc hV h2.g⟩
theorem jd8 {i:Nat} (u:Int):(#[.int .i64 0,.int .i64 0,.slice none 0 0,.int .i64 0,.string ⟨#[]⟩,.int .i64 0,.int .i64 0,.slice none 0 0,.int .i64 0,.slice none 0 0]:Array Value)[i]? ≠ some (.int .u64 u):=by
 intro h;rcases i with _ | _ | _ | _ | _ | _ | _ | _ | _ | _ | i<;>simp at h
end Go.Proofs.YtieknocphiceoaaGreatDoor
namespace Go.Proofs.YtieknocphiceoaaGreatDoor
open Go Go.RowKit Go.Shelf
attribute [local go_sem] Oper.semAt_some
def jmk (P:Program) (gf:Nat) (lb:Array Value) (enc:Nat->Value) (L:List Nat) (M:Nat) (w:World):Prop :=
 ∀ (l:Nat) (J:Nat->World->Prop) (Jx:World->Prop) (W:World),Below w.heap.size w W->(∀ k W1,J k W1->k<M) ->
  (∀ k W1,J k W1->YieldAt Fence.wide 7 P l #[enc k] W1 fun e W'=>(e=.returned (.bool true)/\J (k+1) W'/\KL L W1 W')\/(e=.returned (.bool false)/\Jx W')) ->
  J 0 W->CallsIn Fence.wide 8 P gf (#[.func (.yield l) #[] #[]]++lb) W fun e W'=>(∃ v,e=.returned v)/\Jx W'
theorem jhc {P:Program} {g:Operand} {ps:Array Tmp} {assign body:Code} {Q:Exit->Act->World->Prop} {a:Act} {w:World} {id:Nat} (L:List Nat) (T:Nat->Array Value)
  {gf:Nat} {lb:Array Value} (hg:a.eval g=.func (.func gf) #[] lb) (eg:∀ args w,(callFunc gf args).run P w=.ok (.enter gf args) w)
  {enc:Nat->Value} {M:Nat} (hseq:jmk P gf lb enc L M w) (hL:∀ b∈L,b<w.heap.size) (hps:ps.size=1)
  (I:Nat->World->Prop) (Ib:World->Prop) (hI:OwnFrom w.heap.size I) (hIb:OwnFrom w.heap.size (fun (_:Unit) W=>Ib W)) (hM:∀ k W,I k W->k<M) (h0:I 0 w)
  (hassign:∀ (l k:Nat) (W:World) (K:Act->World->Prop),I k W->K { tmps:=T k,defers:=[] } W ->
   assign.wpIn (Fence.wide.inRound l) 7 P (Exit.then K (fun _ _ _=>False)) { tmps:=(ps.zip #[enc k]).foldl (fun t (p,v)=>t.setIfInBounds p v) a.tmps,defers:=[] } W)
  (hbody:∀ (l k:Nat) (W:World),I k W->body.wpIn (Fence.wide.inRound l) 7 P (ownPostG w.heap.size (KL L) (fun (_:List Unit)=>I (k+1)) (fun c (_:List Unit) W=>c=.exit id/\Ib W) [] W) { tmps:=T k,defers:=[] } W)
  (hfin:∀ (D:Nat) (W:World),w.heap.size<=D->Ib W->W.heap[D]? = some (.deferred (some []))->Q .normal { a with defers:={ target:=.collected D,args:=#[] }::a.defers } W) :
  (Code.rangeFunc g ps assign body).wp P (Exit.inBlock id Q) a w:=by
 refine (wpIn_wide (n:=9)).1 (wpIn_rangeFunc fun fn hfn=>?_);obtain⟨rc,hrc⟩:∃ rc:LoopState->Option Code->Loop,rc=fun st pe => { state:=st,pending:=pe,fn,tmps:=a.tmps,params:=ps,assign,body,defers:=w.heap.size }:=⟨_,rfl⟩
 obtain⟨V0,hV0,hd0,hB0,hz0⟩:∃ V0,w.alloc (.deferred (some []))=V0/\V0.heap[w.heap.size]? = some (.deferred (some []))/\Below w.heap.size w V0/\V0.heap.size=w.heap.size+1:=⟨_,rfl,World.alloc_heap_new _ _,(Below.refl _ w).alloc (Nat.le_refl _) _,by simp⟩;obtain⟨V1,hV1,hl1,hB1,hz1⟩:∃ V1,V0.alloc (.loop (rc .ready none))=V1/\V1.heap[w.heap.size+1]? = some (.loop (rc .ready none))/\Below V0.heap.size V0 V1/\V1.heap.size=w.heap.size+2:=⟨_,rfl,by rw[<- hz0];exact World.alloc_heap_new _ _,(Below.refl _ V0).alloc (Nat.le_refl _) _,by simp[hz0]⟩;have hd1:V1.heap[w.heap.size]? = some (.deferred (some [])):=(hB1.block _ (by omega)).trans hd0;have hi1:I 0 V1:=by rw[<- hV1,<- hV0];exact hI.alloc _ (hI.alloc _ h0)
 have hb1:Below w.heap.size w V1:=hB0.trans (hB1.mono (by omega));refine⟨w.heap.size+1,[{ target:=.collected w.heap.size,args:=#[] }],V1,{ target:=.fn (.func gf) lb,args:=#[.func (.yield (w.heap.size+1)) #[] #[]] },V1,gf,#[.func (.yield (w.heap.size+1)) #[] #[]]++lb,V1,?_,?_,fun f' hf'=>trivial,?_,(fun _=>by decide),?_⟩
 ·rw[<- hV1,<- hV0,hrc];exact run_enterLoop_outer _ _ _ _ _
 ·simp only[resolve,hg]
  simp[go_sem]
 ·simp[invoke,go_sem,eg]
 refine (hseq (w.heap.size+1) (fun k W=>I k W/\W.heap[w.heap.size+1]? = some (.loop (rc .ready none))/\W.heap[w.heap.size]? = some (.deferred (some [])))
  (fun W=>Ib W/\W.heap[w.heap.size+1]? = some (.loop (rc .done (some (.exit id))))/\W.heap[w.heap.size]? = some (.deferred (some []))) V1 hb1 (fun k W1 h=>hM k W1 h.1) ?_ ⟨hi1,hl1,hd1⟩).mono ?_
 ·rintro k W ⟨hi,hl,hk⟩
  have hlt:=(Array.getElem?_eq_some_iff.1 hl).1;have hy:=run_yield (P:=P) (args:=#[enc k]) hl (by rw[hrc];exact hps.symm);rw[hrc] at hy;refine⟨fn,_,assign,body,hy,roundIn_of_wpIn hfn (hassign _ k W _ hi ?_)⟩;obtain⟨W2,hW2⟩:∃ W2,W.putObj (w.heap.size+1) (.loop { rc .ready none with state:=.busy })=W2:=⟨_,rfl⟩;have hl2:W2.heap[w.heap.size+1]? = some (.loop { rc .ready none with state:=.busy }):=by rw[<- hW2];exact World.putObj_heap_same hlt
  have hk2:W2.heap[w.heap.size]? = some (.deferred (some [])):=by rw[<- hW2];exact (World.putObj_heap_other (by omega)).trans hk
  have hi2:I k W2:=by rw[<- hW2];exact hI.putObj _ hi (by omega) hl rfl
  have hp2:KL L W W2:=by rw[<- hW2];exact fun b hb o ho=>(World.putObj_heap_other (by have:=hL b hb;omega)).trans ho
  refine⟨W2,by rw[<- hW2];exact run_beginRound hl (by rw[hrc]),wpIn_mono (hbody _ k W2 hi2) ?_⟩
  have ends:∀ (jump:Option Code) (W3:World),KeepsFrom w.heap.size W2 W3->(Instr.endRound (w.heap.size+1) jump).run P W3=.ok (.bool jump.isNone) (W3.putObj (w.heap.size+1) (.loop (rc (if jump.isNone then .ready else .done) jump))) /\
    W3.heap[w.heap.size+1]? = some (.loop { rc .ready none with state:=.busy })/\W3.heap[w.heap.size]? = some (.deferred (some [])):=fun jump W3 h3=>by
   have hl3:=h3.same _ _ (by omega) hl2 rfl;have h:=run_endRound (P:=P) jump hl3;rw[hrc] at h hl3 ⊢;exact⟨h,hl3,h3.same _ _ (Nat.le_refl _) hk2 rfl⟩
  rintro e a3 W3 hp
  cases e with
  | normal =>
   obtain⟨h3,hp3,hi3⟩:=hp;obtain⟨hr,hl3,hk3⟩:=ends none W3 h3;have hz3:=(Array.getElem?_eq_some_iff.1 hl3).1;exact⟨_,_,hr,.inl ⟨rfl,⟨hI.putObj _ hi3 (by omega) hl3 rfl,World.putObj_heap_same hz3,(World.putObj_heap_other (by omega)).trans hk3⟩,(hp2.trans hp3).trans fun b hb o ho=>(World.putObj_heap_other (by have:=hL b hb;omega)).trans ho⟩⟩
  | exit i =>
   obtain⟨h3,he,hi3⟩:=hp;obtain rfl:i=id:=by simpa using he
   obtain⟨hr,hl3,hk3⟩:=ends (some (.exit i)) W3 h3;have hz3:=(Array.getElem?_eq_some_iff.1 hl3).1;exact⟨_,_,hr,.inr ⟨rfl,hIb.putObj (s:=()) _ hi3 (by omega) hl3 rfl,World.putObj_heap_same hz3,(World.putObj_heap_other (by omega)).trans hk3⟩⟩
  | ret=>obtain⟨_,he,_⟩:=hp;cases he
  | goto t=>obtain⟨_,he,_⟩:=hp;cases he
  | panic ch=>exact hp.elim
  | outgrown=>exact hp.elim
 ·rintro e W2 ⟨⟨v,rfl⟩,hi,hl,hk⟩
  refine⟨some (.exit id),_,by have h:=run_endLoop (P:=P) hl (by rw[hrc];simp);rw[hrc] at h;exact h,?_⟩;refine wpIn_wide.2 (wp_exit ?_);show (if id=id then Q .normal _ _ else Q (.exit id) _ _);rw[if_pos rfl];exact hfin _ _ (Nat.le_refl _) (hIb.putObj (s:=()) _ hi (by omega) hl rfl) ((World.putObj_heap_other (by omega)).trans hk)
theorem jlN (n:Int) (w:World) :
  Calls Tryz.prog 144 #[.int .i64 n] w fun e w'=>e=.returned (.func (.func 181) #[] #[.pointer (some ⟨w.heap.size,0,none⟩)])/\w'=w.alloc (.cells #[.int .i64 n] 3):=by
 go_enter Tryz.func144,Tryz.ntmps144;go_wp2;go_ret;exact⟨rfl,rfl⟩
set_option maxRecDepth 100000 in
set_option maxHeartbeats 1000000 in
theorem jib (Bs n M:Nat) (w:World) (hB:w.heap[Bs]? = some (.cells #[.int .i64 n] 3 (0,0))) (hn:n+M<=1000) :
  jmk Tryz.prog 181 #[.pointer (some ⟨Bs,0,none⟩)] (fun k=>.int .i64 ((n:Int)+(k:Int))) [] M w:=by
 intro l J Jx W hW hM hY h0;refine callsIn_of_wp Tryz.func181 rfl trivial ?_ rfl;simp only[Tryz.ntmps181,List.size_toArray,List.length_cons,List.length_nil,Nat.reduceAdd,Nat.reduceSub,Array.replicate_succ,Array.replicate_zero,List.push_toArray,List.append_toArray,List.nil_append,List.cons_append];have c9:W.cell? ⟨Bs,0,none⟩=some (.int .i64 n):=cCc (jak hW (Nat.le_refl _) hB) 0;gi_wp2;gi_loopw [3] (fun i wr=>∃ k:Nat,i=.int .i64 ((n:Int)+(k:Int))/\J k wr) (fun i _=>M+n-(intOf i).toNat)
 case atStart=>exact⟨0,rfl,h0⟩
 case round =>
  obtain⟨k,rfl,hJ⟩:=hrel;have hk:=hM k _ hJ;have hk1:(n:Int)+(k:Int)+1<=1000:=by omega
  obtain⟨fn,tmps,assign,body,hy,hR⟩:=hY k _ hJ;gi_wp2;refine hR.mono ?_;rintro e W3 (⟨rfl,hJ3,-⟩ | ⟨rfl,hJx⟩)
  ·have hw:IntKind.i64.wrap ((n:Int)+(k:Int)+1)=(n:Int)+((k:Int)+1):=by rw[IntWalk.i64_in _ (by omega)];omega
   have hw2:wrap64 ((n:Int)+(k:Int)+1)=(n:Int)+((k:Int)+1):=by unfold wrap64;omega
   gi_wp2
   go_roundw
   case rel=>exact⟨k+1,by simp,hJ3⟩
   case measure=>simp[intOf];omega
  ·gi_wp2
   go_end0;exact⟨⟨_,rfl⟩,hJx⟩
end Go.Proofs.YtieknocphiceoaaGreatDoor
namespace Go.Proofs.YtieknocphiceoaaGreatDoor
open Go Go.RowKit Go.Shelf
def jp4:Bd->Nat
 | .num l=>8*l.length
 | .reg _ r=>r.length
 | .cnt _ l=>8*l.length
 | .bkt _ l=>16*l.length
theorem jmI {B:Bd} {k L:Nat} (h:B.Ok k L):jbm (jb6 k L B)=(jp4 B:Int)+16:=by
 unfold jbm;rw[jkr h,if_pos rfl]
 cases B with
 | num l =>
  obtain⟨rfl,rfl,-⟩:=h;show 8*(l.length:Int)+16=((8*l.length:Nat):Int)+16;omega
 | reg b r =>
  obtain⟨rfl,h1,-⟩:=h;have h0:(((L:Nat):Int)==0)=false:=by simp;omega
  show (if ((1:Nat):Int)==1 then if (L:Int)==0 then _ else ((jaA r).size:Int) else _)+16=(r.length:Int)+16;rw[h0,jbW];rfl
 | cnt c l =>
  obtain⟨rfl,-⟩:=h;show 8*(l.length:Int)+16=((8*l.length:Nat):Int)+16;omega
 | bkt f l =>
  obtain⟨rfl,-⟩:=h;show 16*(l.length:Int)+16=((16*l.length:Nat):Int)+16;omega
set_option maxRecDepth 100000 in
set_option maxHeartbeats 1000000 in
theorem jg2 (a1:Option Addr) (len1 cap1:Nat) (l1:List Lab) (a2:Option Addr) (len2 cap2:Nat) (l2:List Lab) (w:World) (h1:SlE Lab.enc 2 w.heap.size w a1 len1 l1) (h2:SlE Lab.enc 2 w.heap.size w a2 len2 l2) (hm:len1<=maxLen) :
  Calls Tryz.prog 97 #[.slice a1 len1 cap1,.slice a2 len2 cap2] w fun e w'=>e=.returned (.bool (l1==l2))/\Below w.heap.size w w':=by
 have e1:=h1.1;have e2:=h2.1;unfold maxLen at hm;by_cases hl:len1=len2
 ·subst hl
  have t0:((len1:Int) != (len1:Int))=false:=by simp
  have E1:=Lib.hid e1;have E2:=Lib.hid e2;clear e1 e2;go_enter Tryz.func97,Tryz.ntmps97;go_wp2_with fail;go_loopw [5] (fun i wr=>∃ (k:Nat),i=.int .i64 k/\k<=len1/\Below w.heap.size w wr/\Hid (l1.take k=l2.take k)) (fun i _=>len1-(intOf i).toNat)
  case atStart=>exact⟨0,rfl,Nat.zero_le _,Below.refl _ _,rfl⟩
  case round =>
   obtain⟨k,rfl,hk,hB,HF⟩:=hrel;by_cases hlt:k<len1
   ·obtain⟨x,b1,o1,hx,ea1,hb1,hc1⟩:=(h1.below hB).at hlt
    obtain⟨y,b2,o2,hy,ea2,hb2,hc2⟩:=(h2.below hB).at hlt;subst ea1;subst ea2;have p0:wr.cell? ⟨b1,o1+k*2,none⟩=some (.string x.name):=hc1 0 (by omega);have p1:wr.cell? ⟨b1,o1+k*2+1,none⟩=some (.string x.value):=hc1 1 (by omega);have q0:wr.cell? ⟨b2,o2+k*2,none⟩=some (.string y.name):=hc2 0 (by omega);have q1:wr.cell? ⟨b2,o2+k*2+1,none⟩=some (.string y.value):=hc2 1 (by omega);have n2:=jmN;have i0:(0:Int)<=(k:Int):=by omega
    have i1:(k:Int)<(len1:Int):=by omega
    have HX:=Lib.hid hx;have HY:=Lib.hid hy;clear hc1 hc2 hx hy h1 h2;by_cases hxy:x=y
    ·have n1:∀ w,(binOp .neq 67 (.agg #[.string x.name,.string x.value]) (.agg #[.string y.name,.string y.value])).run Tryz.prog w=.ok (.bool false) w:=fun w=>by rw[jii,jc5,jc5,hxy];simp
     have HXY:Hid (x=y):=hxy;clear hxy;go_wp2_with fail;go_quiet (fail);go_wp2_with fail;go_roundw
     case rel=>exact⟨k+1,by go_num,by omega,bDr hB _,by rw[Hid,jan HX.out,jan HY.out,HF.out,HXY.out]⟩
     case measure=>simp[intOf];omega
    ·have n1:∀ w,(binOp .neq 67 (.agg #[.string x.name,.string x.value]) (.agg #[.string y.name,.string y.value])).run Tryz.prog w=.ok (.bool true) w:=fun w=>by rw[jii,jc5,jc5];cases x;cases y;simp only[Lab.mk.injEq] at hxy;rw[<- Bool.decide_and,decide_eq_false hxy];rfl
     have HXY:Hid (¬ x=y):=hxy;clear hxy;go_wp2_with fail;go_quiet (fail);go_wp2_with fail;go_ret
     have hne:(l1==l2)=false:=by
      rw[beq_eq_false_iff_ne];intro e;have hx:=HX.out;rw[e,HY.out] at hx;exact HXY.out (Option.some.inj hx).symm
     exact⟨by rw[hne];rfl,bDr hB _⟩
   ·obtain rfl:k=len1:=by omega
    clear h1 h2;go_wp2_with fail;go_ret;have h9:=HF.out;rw[List.take_of_length_le (by rw[<- E1.out];omega),List.take_of_length_le (by rw[<- E2.out];omega)] at h9;exact⟨by rw[h9];simp,hB⟩
 ·have t0:((len1:Int) != (len2:Int))=true:=by rw[bne_iff_ne];omega
  have hne:Hid ((l1==l2)=false):=by
   rw[Hid,beq_eq_false_iff_ne];intro e;rw[e,<- e2] at e1;exact hl e1
  clear h1 h2 e1 e2 hl;go_enter Tryz.func97,Tryz.ntmps97;go_wp2_with fail;go_ret;exact⟨by rw[hne.out];rfl,Below.refl _ _⟩
theorem jks (x:Sk):jay x x=true:=by simp[jay]
end Go.Proofs.YtieknocphiceoaaGreatDoor
