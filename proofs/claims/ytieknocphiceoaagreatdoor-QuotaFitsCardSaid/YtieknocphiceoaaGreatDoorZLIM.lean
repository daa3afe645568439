/- The reference of layer 10: lower, at the sketches of the program's. Printed by gen_dk.py. A right sketch is that of a body at work. No program in sight. Sketches as bodies, in plain data. No program in sight. Package ladder at any sketch, told as plain data. Quota in plain data: a table's jbK, what is fitted. No program in sight. A sketch cut by Few: of Go's sizes. -/
import Derived.Test.YtieknocphiceoaaGreatDoorZDI
import Derived.Test.YtieknocphiceoaaGreatDoorZDJ
namespace Go.Proofs.YtieknocphiceoaaGreatDoor
open Go Go.RowKit Go.Shelf
def jsB (y:Sk) (w:World) (e:Ending) (w':World):Prop:=∃ p:SS,e=.returned (.agg #[.int .i64 y.kind,.int .i64 y.level,.slice p.ea p.el p.ec,.int .i64 y.hb,.string y.hr,.int .i64 y.cr,.int .i64 y.cc,.slice p.ca p.cl p.cc,.int .i64 y.gf,.slice p.ga p.gl p.gc])/\p.At w'.heap.size w' y/\Below w.heap.size w w'
def LowF (y:Sk) (w:World) (e:Ending) (w':World):Prop:=∃ p:SS,e=.returned (.agg #[.int .i64 y.kind,.int .i64 y.level,.slice p.ea p.el p.ec,.int .i64 y.hb,.string y.hr,.int .i64 y.cr,.int .i64 y.cc,.slice p.ca p.cl p.cc,.int .i64 y.gf,.slice p.ga p.gl p.gc])/\p.At w'.heap.size w' y/\p.From w.heap.size/\Below w.heap.size w w'
theorem LowF.low {y:Sk} {w w':World} {e:Ending} (h:LowF y w e w'):jsB y w e w':=by
 obtain⟨p,h1,h2,-,h3⟩:=h;exact⟨p,h1,h2,h3⟩
theorem SS.At.apart {s:SS} {W V:World} {y:Sk} (h:s.At W.heap.size W y) {b:Nat} {cs:Array Value} {t:TypeId} (hX:W.heap[b]? = some (.cells cs t (0,0))) (hc:∀ (i:Nat) (u:Int),cs[i]? ≠ some (Value.int .u64 u)) (hV:OnlyAt b W V):s.At V.heap.size V y :=
 ⟨jbd (i0:=0) (by decide) (fun x=>⟨x,rfl⟩) hX hc hV h.e,jbd (i0:=0) (by decide) (fun x=>⟨x,rfl⟩) hX hc hV h.c,jbd (i0:=1) (by decide) (fun x=>⟨x.2,rfl⟩) hX hc hV h.g⟩
theorem jil (k L hb cr cc gf:Int) (hr:ByteArray) (ea ca ga:Option Addr) (el ec cl cp gl gc:Nat) (i:Nat) (u:Int):(#[.int .i64 k,.int .i64 L,.slice ea el ec,.int .i64 hb,.string hr,.int .i64 cr,.int .i64 cc,.slice ca cl cp,.int .i64 gf,.slice ga gl gc]:Array Value)[i]? ≠ some (.int .u64 u):=by
 intro h;rcases i with _ | _ | _ | _ | _ | _ | _ | _ | _ | _ | i<;>simp at h
def zSS:SS:=⟨none,0,0,none,0,0,none,0,0⟩
theorem jln (n:Nat):zSS.From n:=⟨(fun z hz=>by cases hz),(fun z hz=>by cases hz),(fun z hz=>by cases hz)⟩
theorem At.nil (k L hb cr cc gf:Int) (hr:ByteArray) (n:Nat) (w:World):zSS.At n w ⟨k,L,[],hb,hr,cr,cc,[],gf,[]⟩:=⟨jaP,jaP,jaP⟩
set_option maxRecDepth 100000 in
set_option maxHeartbeats 4000000 in
theorem jgA (l:List Int) (s:SS) (w:World) (hA:s.At w.heap.size w (jcD 1 0 l:Sk)) (hU:jdK l) (hl:l.length<=64) :
  Calls Tryz.prog 99 #[.agg #[.int .i64 1,.int .i64 0,.slice s.ea s.el s.ec,.int .i64 0,.string ⟨#[]⟩,.int .i64 0,.int .i64 0,.slice s.ca s.cl s.cc,.int .i64 0,.slice s.ga s.gl s.gc]] w (LowF (jb4 1 1 7 (jaA (jct 7 (jaY 7) (l.map Int.toNat)))) w):=by
 obtain⟨out,hout⟩:∃ out,jaA (jct 7 (jaY 7) (l.map Int.toNat))=out:=⟨_,rfl⟩;rw[hout];obtain⟨W0,hW0,hX0,hXr,hB0,hs0⟩:=jaS w #[.int .i64 1,.int .i64 0,.slice s.ea s.el s.ec,.int .i64 0,.string ⟨#[]⟩,.int .i64 0,.int .i64 0,.slice s.ca s.cl s.cc,.int .i64 0,.slice s.ga s.gl s.gc] 50 #[.int .i64 0,.int .i64 0,.slice none 0 0,.int .i64 0,.string ⟨#[]⟩,.int .i64 0,.int .i64 0,.slice none 0 0,.int .i64 0,.slice none 0 0] 50;obtain⟨W1,hW1,hX1,hB1,hs1⟩:=jah W0 #[.int .i64 1,.int .i64 1,.slice none 0 0,.int .i64 0,.string ⟨#[]⟩,.int .i64 0,.int .i64 0,.slice none 0 0,.int .i64 0,.slice none 0 0] 50;rw[hs0] at hX1;have HO:Hid (Calls Tryz.prog 145 #[.int .i64 7,.slice s.ea s.el s.ec] W1 fun e w'=>e=.returned (.tuple #[.agg #[.int .i64 7,.string out],.int .i64 0])/\Below W1.heap.size W1 w'):=by rw[<- hout];exact jjs 7 l _ _ _ W1 (by omega) (by omega) ((hA.go hB0).go hB1).e.1 hU (by have:=hA.e.1.1;simp only[jcD] at this;omega)
 have hx1:=jak hB1 (Nat.le_refl _) hX0;have HXr1:=Lib.hid (jak hB1 (Nat.le_refl _) hXr);have HB1:Hid (Below w.heap.size w W1):=hB0.trans (hB1.mono hB0.size);have HY1:=Lib.hid hX1;have HZ1:Hid (W1.heap.size=w.heap.size+3):=by rw[Hid,hs1,hs0]
 have HA1:=Lib.hid ((hA.go hB0).go hB1);obtain⟨d0,d1,d2,d3,d4,d5,d6,d7,d8,d9⟩:=jaL hX0;obtain⟨a0,a1,a2,a3,a4,a5,a6,a7,a8,a9⟩:=jaL hx1;obtain⟨c0,c1,c2,c3,c4,c5,c6,c7,c8,c9⟩:=jaL hX1;obtain⟨f0,f1,f2,f3,f4,f5,f6,f7,f8,f9⟩:=jdJ hX1;have e1:W1.setCell ⟨w.heap.size+2,1,none⟩ (.int .i64 1)=W1:=jaa hX1 rfl;have e2:W1.setCell ⟨w.heap.size+2,2,none⟩ (.slice none 0 0)=W1:=jaa hX1 rfl;have e3:W1.setCell ⟨w.heap.size+2,3,none⟩ (.int .i64 0)=W1:=jaa hX1 rfl;have e4:W1.setCell ⟨w.heap.size+2,4,none⟩ (.string ⟨#[]⟩)=W1:=jaa hX1 rfl;have e5:W1.setCell ⟨w.heap.size+2,5,none⟩ (.int .i64 0)=W1:=jaa hX1 rfl;have e6:W1.setCell ⟨w.heap.size+2,6,none⟩ (.int .i64 0)=W1:=jaa hX1 rfl;have e7:W1.setCell ⟨w.heap.size+2,7,none⟩ (.slice none 0 0)=W1:=jaa hX1 rfl;have e8:W1.setCell ⟨w.heap.size+2,8,none⟩ (.int .i64 0)=W1:=jaa hX1 rfl;have e9:W1.setCell ⟨w.heap.size+2,9,none⟩ (.slice none 0 0)=W1:=jaa hX1 rfl;clear hX0 hXr hB0 hX1 hB1 hx1 hA hs1;go_enter Tryz.func99,Tryz.ntmps99;go_wp2_with fail;refine (HO.out).mono ?_;rintro e w2 ⟨rfl,hb2⟩;have hY2:=jak hb2 (Nat.le_refl _) HY1.out;have hR2:=jak hb2 (Nat.le_refl _) HXr1.out;have HB2:Hid (Below w.heap.size w w2):=HB1.out.trans (hb2.mono HB1.out.size);obtain⟨m0,m1,m2,m3,m4,m5,m6,m7,m8,m9⟩:=jaL hY2;obtain⟨g0,g1,g2,g3,g4,g5,g6,g7,g8,g9⟩:=jdJ hY2;obtain⟨V,hV⟩:∃ V,((w2.setCell ⟨w.heap.size+2,3,none⟩ (.int .i64 7)).setCell ⟨w.heap.size+2,4,none⟩ (.string out))=V:=⟨_,rfl⟩
 have hYV:V.heap[w.heap.size+2]? = some (.cells #[.int .i64 1,.int .i64 1,.slice none 0 0,.int .i64 7,.string out,.int .i64 0,.int .i64 0,.slice none 0 0,.int .i64 0,.slice none 0 0] 50 (0,0)):=by rw[<- hV];exact hSk (hSk (hY2) _) _
 have hOV:OnlyAt (w.heap.size+2) w2 V:=by rw[<- hV];exact ((OnlyAt.refl _ _).set _ _).set _ _
 have hBV:Below w.heap.size w V:=by rw[<- hV];exact ((HB2.out).setCell (p:=⟨w.heap.size+2,3,none⟩) (by show w.heap.size<=w.heap.size+2;omega) _).setCell (p:=⟨w.heap.size+2,4,none⟩) (by show w.heap.size<=w.heap.size+2;omega) _
 have hRV:V.heap[w.heap.size+1]? = some (.cells #[.int .i64 0,.int .i64 0,.slice none 0 0,.int .i64 0,.string ⟨#[]⟩,.int .i64 0,.int .i64 0,.slice none 0 0,.int .i64 0,.slice none 0 0] 50 (0,0)):=(hOV.2 _ (by omega)).trans hR2;have hAV:(zSS:SS).At V.heap.size V (jb4 1 1 7 out):=SS.At.apart (At.nil _ _ _ _ _ _ _ _ _) hY2 (jil _ _ _ _ _ _ _ _ _ _ _ _ _ _ _ _) hOV;obtain⟨n0,n1,n2,n3,n4,n5,n6,n7,n8,n9⟩:=jaL hYV;obtain⟨r0,r1,r2,r3,r4,r5,r6,r7,r8,r9⟩:=jaL hRV;obtain⟨h0,h1,h2,h3,h4,h5,h6,h7,h8,h9⟩:=jdJ hRV;obtain⟨U,hU,hXU,hOU,hBU⟩:=jcl (.int .i64 1) (.int .i64 1) (.slice none 0 0) (.int .i64 7) (.string out) (.int .i64 0) (.int .i64 0) (.slice none 0 0) (.int .i64 0) (.slice none 0 0) hRV;obtain⟨k0,k1,k2,k3,k4,k5,k6,k7,k8,k9⟩:=jaL hXU;have HBU:Hid (Below w.heap.size w U):=hBU _ _ hBV (by omega);have HAU:Hid ((zSS:SS).At U.heap.size U (jb4 1 1 7 out)):=hAV.apart hRV (jil _ _ _ _ _ _ _ _ _ _ _ _ _ _ _ _) hOU;clear hY2 hR2 hYV hOV hBV hRV hAV hXU hOU hBU hb2;go_wp2_with fail;exact bodyPost_ret (v:=.agg #[.int .i64 1,.int .i64 1,.slice none 0 0,.int .i64 7,.string out,.int .i64 0,.int .i64 0,.slice none 0 0,.int .i64 0,.slice none 0 0]) (by simp[results,Tryz.f99,go_sem,k0,k1,k2,k3,k4,k5,k6,k7,k8,k9]) rfl ⟨zSS,rfl,HAU.out,jln _,HBU.out⟩
set_option maxRecDepth 100000 in
set_option maxHeartbeats 4000000 in
theorem jgB (L b:Nat) (r:List Nat) (s:SS) (w:World) (hA:s.At w.heap.size w (jb4 1 L b (jaA r):Sk)) (hL1:1<=L) (hL4:L<=4) (h1:4<=b) (h2:b<=8) (hl:r.length=2^b) (hr:∀ i,r.getD i 0<=65-b) :
  Calls Tryz.prog 99 #[.agg #[.int .i64 1,.int .i64 L,.slice s.ea s.el s.ec,.int .i64 b,.string (jaA r),.int .i64 0,.int .i64 0,.slice s.ca s.cl s.cc,.int .i64 0,.slice s.ga s.gl s.gc]] w (LowF (jb4 1 ((L:Int)+1) ((b-1:Nat):Int) (jaA (jeo b r))) w):=by
 obtain⟨x,hx⟩:∃ x,jaA r=x:=⟨_,rfl⟩;obtain⟨out,hout⟩:∃ x,jaA (jeo b r)=x:=⟨_,rfl⟩;obtain⟨b1,hb1⟩:∃ x,((b-1:Nat):Int)=x:=⟨_,rfl⟩;rw[hx] at hA ⊢;rw[hout,hb1];obtain⟨W0,hW0,hX0,hXr,hB0,hs0⟩:=jaS w #[.int .i64 1,.int .i64 L,.slice s.ea s.el s.ec,.int .i64 b,.string x,.int .i64 0,.int .i64 0,.slice s.ca s.cl s.cc,.int .i64 0,.slice s.ga s.gl s.gc] 50 #[.int .i64 0,.int .i64 0,.slice none 0 0,.int .i64 0,.string ⟨#[]⟩,.int .i64 0,.int .i64 0,.slice none 0 0,.int .i64 0,.slice none 0 0] 50;obtain⟨W1,hW1,hX1,hB1,hs1⟩:=jah W0 #[.int .i64 1,.int .i64 ((L:Int)+1),.slice none 0 0,.int .i64 0,.string ⟨#[]⟩,.int .i64 0,.int .i64 0,.slice none 0 0,.int .i64 0,.slice none 0 0] 50;rw[hs0] at hX1;have HO:Hid (Calls Tryz.prog 146 #[.agg #[.int .i64 b,.string x]] W1 fun e w'=>e=.returned (.tuple #[.agg #[.int .i64 b1,.string out],.int .i64 0])/\Below W1.heap.size W1 w'):=by rw[<- hx,<- hout,<- hb1];exact jgs b r W1 h1 h2 hl hr
 have t0:((L:Int)==0)=false:=by rw[beq_eq_false_iff_ne];omega
 have t1:(L:Int)<=4:=by omega
 have t2:(1:Int)<=(L:Int):=by omega
 clear hx hl hr hout hb1;have hx1:=jak hB1 (Nat.le_refl _) hX0;have HXr1:=Lib.hid (jak hB1 (Nat.le_refl _) hXr);have HB1:Hid (Below w.heap.size w W1):=hB0.trans (hB1.mono hB0.size);have HY1:=Lib.hid hX1;have HZ1:Hid (W1.heap.size=w.heap.size+3):=by rw[Hid,hs1,hs0]
 have HA1:=Lib.hid ((hA.go hB0).go hB1);obtain⟨d0,d1,d2,d3,d4,d5,d6,d7,d8,d9⟩:=jaL hX0;obtain⟨a0,a1,a2,a3,a4,a5,a6,a7,a8,a9⟩:=jaL hx1;obtain⟨c0,c1,c2,c3,c4,c5,c6,c7,c8,c9⟩:=jaL hX1;obtain⟨f0,f1,f2,f3,f4,f5,f6,f7,f8,f9⟩:=jdJ hX1;have e1:W1.setCell ⟨w.heap.size+2,1,none⟩ (.int .i64 ((L:Int)+1))=W1:=jaa hX1 rfl;have e2:W1.setCell ⟨w.heap.size+2,2,none⟩ (.slice none 0 0)=W1:=jaa hX1 rfl;have e3:W1.setCell ⟨w.heap.size+2,3,none⟩ (.int .i64 0)=W1:=jaa hX1 rfl;have e4:W1.setCell ⟨w.heap.size+2,4,none⟩ (.string ⟨#[]⟩)=W1:=jaa hX1 rfl;have e5:W1.setCell ⟨w.heap.size+2,5,none⟩ (.int .i64 0)=W1:=jaa hX1 rfl;have e6:W1.setCell ⟨w.heap.size+2,6,none⟩ (.int .i64 0)=W1:=jaa hX1 rfl;have e7:W1.setCell ⟨w.heap.size+2,7,none⟩ (.slice none 0 0)=W1:=jaa hX1 rfl;have e8:W1.setCell ⟨w.heap.size+2,8,none⟩ (.int .i64 0)=W1:=jaa hX1 rfl;have e9:W1.setCell ⟨w.heap.size+2,9,none⟩ (.slice none 0 0)=W1:=jaa hX1 rfl;clear hX0 hXr hB0 hX1 hB1 hx1 hA hs1;go_enter Tryz.func99,Tryz.ntmps99;go_wp2_with fail;refine (HO.out).mono ?_;rintro e w2 ⟨rfl,hb2⟩;have hY2:=jak hb2 (Nat.le_refl _) HY1.out;have hR2:=jak hb2 (Nat.le_refl _) HXr1.out;have HB2:Hid (Below w.heap.size w w2):=HB1.out.trans (hb2.mono HB1.out.size);obtain⟨m0,m1,m2,m3,m4,m5,m6,m7,m8,m9⟩:=jaL hY2;obtain⟨g0,g1,g2,g3,g4,g5,g6,g7,g8,g9⟩:=jdJ hY2;obtain⟨V,hV⟩:∃ V,((w2.setCell ⟨w.heap.size+2,3,none⟩ (.int .i64 b1)).setCell ⟨w.heap.size+2,4,none⟩ (.string out))=V:=⟨_,rfl⟩
 have hYV:V.heap[w.heap.size+2]? = some (.cells #[.int .i64 1,.int .i64 ((L:Int)+1),.slice none 0 0,.int .i64 b1,.string out,.int .i64 0,.int .i64 0,.slice none 0 0,.int .i64 0,.slice none 0 0] 50 (0,0)):=by rw[<- hV];exact hSk (hSk (hY2) _) _
 have hOV:OnlyAt (w.heap.size+2) w2 V:=by rw[<- hV];exact ((OnlyAt.refl _ _).set _ _).set _ _
 have hBV:Below w.heap.size w V:=by rw[<- hV];exact ((HB2.out).setCell (p:=⟨w.heap.size+2,3,none⟩) (by show w.heap.size<=w.heap.size+2;omega) _).setCell (p:=⟨w.heap.size+2,4,none⟩) (by show w.heap.size<=w.heap.size+2;omega) _
 have hRV:V.heap[w.heap.size+1]? = some (.cells #[.int .i64 0,.int .i64 0,.slice none 0 0,.int .i64 0,.string ⟨#[]⟩,.int .i64 0,.int .i64 0,.slice none 0 0,.int .i64 0,.slice none 0 0] 50 (0,0)):=(hOV.2 _ (by omega)).trans hR2;have hAV:(zSS:SS).At V.heap.size V (jb4 1 ((L:Int)+1) b1 out):=SS.At.apart (At.nil _ _ _ _ _ _ _ _ _) hY2 (jil _ _ _ _ _ _ _ _ _ _ _ _ _ _ _ _) hOV;obtain⟨n0,n1,n2,n3,n4,n5,n6,n7,n8,n9⟩:=jaL hYV;obtain⟨r0,r1,r2,r3,r4,r5,r6,r7,r8,r9⟩:=jaL hRV;obtain⟨h0,h1,h2,h3,h4,h5,h6,h7,h8,h9⟩:=jdJ hRV;obtain⟨U,hU,hXU,hOU,hBU⟩:=jcl (.int .i64 1) (.int .i64 ((L:Int)+1)) (.slice none 0 0) (.int .i64 b1) (.string out) (.int .i64 0) (.int .i64 0) (.slice none 0 0) (.int .i64 0) (.slice none 0 0) hRV;obtain⟨k0,k1,k2,k3,k4,k5,k6,k7,k8,k9⟩:=jaL hXU;have HBU:Hid (Below w.heap.size w U):=hBU _ _ hBV (by omega);have HAU:Hid ((zSS:SS).At U.heap.size U (jb4 1 ((L:Int)+1) b1 out)):=hAV.apart hRV (jil _ _ _ _ _ _ _ _ _ _ _ _ _ _ _ _) hOU;clear hY2 hR2 hYV hOV hBV hRV hAV hXU hOU hBU hb2;go_wp2_with fail;exact bodyPost_ret (v:=.agg #[.int .i64 1,.int .i64 ((L:Int)+1),.slice none 0 0,.int .i64 b1,.string out,.int .i64 0,.int .i64 0,.slice none 0 0,.int .i64 0,.slice none 0 0]) (by simp[results,Tryz.f99,go_sem,k0,k1,k2,k3,k4,k5,k6,k7,k8,k9]) rfl ⟨zSS,rfl,HAU.out,jln _,HBU.out⟩
set_option maxRecDepth 100000 in
set_option maxHeartbeats 4000000 in
theorem jgz (L c:Nat) (l:List Int) (s:SS) (w:World) (hA:s.At w.heap.size w (jbA 2 L 2 c l:Sk)) (hL:L<=2) (hc:c=8\/c=16\/c=32) (hn:l.length=c+c) (hU:jdK l) :
  Calls Tryz.prog 99 #[.agg #[.int .i64 2,.int .i64 L,.slice s.ea s.el s.ec,.int .i64 0,.string ⟨#[]⟩,.int .i64 2,.int .i64 c,.slice s.ca s.cl s.cc,.int .i64 0,.slice s.ga s.gl s.gc]] w (LowF (jbA 2 ((L:Int)+1) 2 ((c / 2:Nat):Int) (jdf c l)) w):=by
 obtain⟨m,hm⟩:∃ m,jdf c l=m:=⟨_,rfl⟩;obtain⟨ml,hml⟩:∃ n,m.length=n:=⟨_,rfl⟩;obtain⟨cq,hc1⟩:∃ n,((c / 2:Nat):Int)=n:=⟨_,rfl⟩;rw[hm,hc1];obtain⟨W0,hW0,hX0,hXr,hB0,hs0⟩:=jaS w #[.int .i64 2,.int .i64 L,.slice s.ea s.el s.ec,.int .i64 0,.string ⟨#[]⟩,.int .i64 2,.int .i64 c,.slice s.ca s.cl s.cc,.int .i64 0,.slice s.ga s.gl s.gc] 50 #[.int .i64 0,.int .i64 0,.slice none 0 0,.int .i64 0,.string ⟨#[]⟩,.int .i64 0,.int .i64 0,.slice none 0 0,.int .i64 0,.slice none 0 0] 50;obtain⟨W1,hW1,hX1,hB1,hs1⟩:=jah W0 #[.int .i64 2,.int .i64 ((L:Int)+1),.slice none 0 0,.int .i64 0,.string ⟨#[]⟩,.int .i64 0,.int .i64 0,.slice none 0 0,.int .i64 0,.slice none 0 0] 50;rw[hs0] at hX1;have HO:Hid (Calls Tryz.prog 147 #[.agg #[.int .i64 2,.int .i64 c,.slice s.ca s.cl s.cc]] W1 fun e w'=>∃ a cap,e=.returned (.tuple #[.agg #[.int .i64 2,.int .i64 cq,.slice a ml cap],.int .i64 0])/\SlC jbH 1 w'.heap.size w' a ml cap m/\(∀ z,a=some z->W1.heap.size<=z.block)/\Below W1.heap.size W1 w'):=by rw[<- hc1,<- hml,<- hm];exact ref08_LowerF_any c l _ _ _ W1 hc ((hA.go hB0).go hB1).c hn hU
 have t1:(L:Int)<=2:=by omega
 have t2:(0:Int)<=(L:Int):=Int.natCast_nonneg _;clear hc hn hU hm hml hc1;have hx1:=jak hB1 (Nat.le_refl _) hX0;have HXr1:=Lib.hid (jak hB1 (Nat.le_refl _) hXr);have HB1:Hid (Below w.heap.size w W1):=hB0.trans (hB1.mono hB0.size);have HY1:=Lib.hid hX1;have HZ1:Hid (W1.heap.size=w.heap.size+3):=by rw[Hid,hs1,hs0]
 have HA1:=Lib.hid ((hA.go hB0).go hB1);obtain⟨d0,d1,d2,d3,d4,d5,d6,d7,d8,d9⟩:=jaL hX0;obtain⟨a0,a1,a2,a3,a4,a5,a6,a7,a8,a9⟩:=jaL hx1;obtain⟨c0,c1,c2,c3,c4,c5,c6,c7,c8,c9⟩:=jaL hX1;obtain⟨f0,f1,f2,f3,f4,f5,f6,f7,f8,f9⟩:=jdJ hX1;have e1:W1.setCell ⟨w.heap.size+2,1,none⟩ (.int .i64 ((L:Int)+1))=W1:=jaa hX1 rfl;have e2:W1.setCell ⟨w.heap.size+2,2,none⟩ (.slice none 0 0)=W1:=jaa hX1 rfl;have e3:W1.setCell ⟨w.heap.size+2,3,none⟩ (.int .i64 0)=W1:=jaa hX1 rfl;have e4:W1.setCell ⟨w.heap.size+2,4,none⟩ (.string ⟨#[]⟩)=W1:=jaa hX1 rfl;have e5:W1.setCell ⟨w.heap.size+2,5,none⟩ (.int .i64 0)=W1:=jaa hX1 rfl;have e6:W1.setCell ⟨w.heap.size+2,6,none⟩ (.int .i64 0)=W1:=jaa hX1 rfl;have e7:W1.setCell ⟨w.heap.size+2,7,none⟩ (.slice none 0 0)=W1:=jaa hX1 rfl;have e8:W1.setCell ⟨w.heap.size+2,8,none⟩ (.int .i64 0)=W1:=jaa hX1 rfl;have e9:W1.setCell ⟨w.heap.size+2,9,none⟩ (.slice none 0 0)=W1:=jaa hX1 rfl;clear hX0 hXr hB0 hX1 hB1 hx1 hA hs1;go_enter Tryz.func99,Tryz.ntmps99;go_wp2_with fail;refine (HO.out).mono ?_;rintro e w2 ⟨qa,qc,rfl,hS2,hF2,hb2⟩;have HF2:Hid (∀ z,qa=some z->w.heap.size<=z.block):=fun z hz=>Nat.le_trans HB1.out.size (hF2 z hz)
 clear hF2;have hY2:=jak hb2 (Nat.le_refl _) HY1.out;have hR2:=jak hb2 (Nat.le_refl _) HXr1.out;have HB2:Hid (Below w.heap.size w w2):=HB1.out.trans (hb2.mono HB1.out.size);obtain⟨m0,m1,m2,m3,m4,m5,m6,m7,m8,m9⟩:=jaL hY2;obtain⟨g0,g1,g2,g3,g4,g5,g6,g7,g8,g9⟩:=jdJ hY2;obtain⟨V,hV⟩:∃ V,(((w2.setCell ⟨w.heap.size+2,5,none⟩ (.int .i64 2)).setCell ⟨w.heap.size+2,6,none⟩ (.int .i64 cq)).setCell ⟨w.heap.size+2,7,none⟩ (.slice qa ml qc))=V:=⟨_,rfl⟩;have hYV:V.heap[w.heap.size+2]? = some (.cells #[.int .i64 2,.int .i64 ((L:Int)+1),.slice none 0 0,.int .i64 0,.string ⟨#[]⟩,.int .i64 2,.int .i64 cq,.slice qa ml qc,.int .i64 0,.slice none 0 0] 50 (0,0)):=by rw[<- hV];exact hSk (hSk (hSk (hY2) _) _) _
 have hOV:OnlyAt (w.heap.size+2) w2 V:=by rw[<- hV];exact (((OnlyAt.refl _ _).set _ _).set _ _).set _ _
 have hBV:Below w.heap.size w V:=by rw[<- hV];exact (((HB2.out).setCell (p:=⟨w.heap.size+2,5,none⟩) (by show w.heap.size<=w.heap.size+2;omega) _).setCell (p:=⟨w.heap.size+2,6,none⟩) (by show w.heap.size<=w.heap.size+2;omega) _).setCell (p:=⟨w.heap.size+2,7,none⟩) (by show w.heap.size<=w.heap.size+2;omega) _
 have hRV:V.heap[w.heap.size+1]? = some (.cells #[.int .i64 0,.int .i64 0,.slice none 0 0,.int .i64 0,.string ⟨#[]⟩,.int .i64 0,.int .i64 0,.slice none 0 0,.int .i64 0,.slice none 0 0] 50 (0,0)):=(hOV.2 _ (by omega)).trans hR2;have hAV:(⟨none,0,0,qa,ml,qc,none,0,0⟩:SS).At V.heap.size V (jbA 2 ((L:Int)+1) 2 cq m):=SS.At.apart ⟨jaP,hS2,jaP⟩ hY2 (jil _ _ _ _ _ _ _ _ _ _ _ _ _ _ _ _) hOV;obtain⟨n0,n1,n2,n3,n4,n5,n6,n7,n8,n9⟩:=jaL hYV;obtain⟨r0,r1,r2,r3,r4,r5,r6,r7,r8,r9⟩:=jaL hRV;obtain⟨h0,h1,h2,h3,h4,h5,h6,h7,h8,h9⟩:=jdJ hRV;obtain⟨U,hU,hXU,hOU,hBU⟩:=jcl (.int .i64 2) (.int .i64 ((L:Int)+1)) (.slice none 0 0) (.int .i64 0) (.string ⟨#[]⟩) (.int .i64 2) (.int .i64 cq) (.slice qa ml qc) (.int .i64 0) (.slice none 0 0) hRV;obtain⟨k0,k1,k2,k3,k4,k5,k6,k7,k8,k9⟩:=jaL hXU;have HBU:Hid (Below w.heap.size w U):=hBU _ _ hBV (by omega);have HAU:Hid ((⟨none,0,0,qa,ml,qc,none,0,0⟩:SS).At U.heap.size U (jbA 2 ((L:Int)+1) 2 cq m)):=hAV.apart hRV (jil _ _ _ _ _ _ _ _ _ _ _ _ _ _ _ _) hOU;clear hY2 hR2 hYV hOV hBV hRV hAV hXU hOU hBU hb2;go_wp2_with fail;exact bodyPost_ret (v:=.agg #[.int .i64 2,.int .i64 ((L:Int)+1),.slice none 0 0,.int .i64 0,.string ⟨#[]⟩,.int .i64 2,.int .i64 cq,.slice qa ml qc,.int .i64 0,.slice none 0 0]) (by simp[results,Tryz.f99,go_sem,k0,k1,k2,k3,k4,k5,k6,k7,k8,k9]) rfl ⟨⟨none,0,0,qa,ml,qc,none,0,0⟩,rfl,HAU.out,⟨(fun z hz=>by cases hz),HF2.out,(fun z hz=>by cases hz)⟩,HBU.out⟩
set_option maxRecDepth 100000 in
set_option maxHeartbeats 4000000 in
theorem jgy (L f:Nat) (l:List (Int × Int)) (s:SS) (w:World) (hA:s.At w.heap.size w (jck 3 L f l:Sk)) (hL:L<=2) (hk:BkR f l) (h1:1<=f) :
  Calls Tryz.prog 99 #[.agg #[.int .i64 3,.int .i64 L,.slice s.ea s.el s.ec,.int .i64 0,.string ⟨#[]⟩,.int .i64 0,.int .i64 0,.slice s.ca s.cl s.cc,.int .i64 f,.slice s.ga s.gl s.gc]] w (LowF (jck 3 ((L:Int)+1) ((f:Int)-1) (jeN l)) w):=by
 obtain⟨m,hm⟩:∃ m,jeN l=m:=⟨_,rfl⟩;obtain⟨ml,hml⟩:∃ n,m.length=n:=⟨_,rfl⟩;obtain⟨fq,hf1⟩:∃ n,(f:Int)-1=n:=⟨_,rfl⟩;rw[hm,hf1];obtain⟨W0,hW0,hX0,hXr,hB0,hs0⟩:=jaS w #[.int .i64 3,.int .i64 L,.slice s.ea s.el s.ec,.int .i64 0,.string ⟨#[]⟩,.int .i64 0,.int .i64 0,.slice s.ca s.cl s.cc,.int .i64 f,.slice s.ga s.gl s.gc] 50 #[.int .i64 0,.int .i64 0,.slice none 0 0,.int .i64 0,.string ⟨#[]⟩,.int .i64 0,.int .i64 0,.slice none 0 0,.int .i64 0,.slice none 0 0] 50;obtain⟨W1,hW1,hX1,hB1,hs1⟩:=jah W0 #[.int .i64 3,.int .i64 ((L:Int)+1),.slice none 0 0,.int .i64 0,.string ⟨#[]⟩,.int .i64 0,.int .i64 0,.slice none 0 0,.int .i64 0,.slice none 0 0] 50;rw[hs0] at hX1;have HO:Hid (Calls Tryz.prog 148 #[.agg #[.int .i64 f,.slice s.ga s.gl s.gc]] W1 fun e w'=>∃ a cap,e=.returned (.tuple #[.agg #[.int .i64 fq,.slice a ml cap],.int .i64 0])/\SlC jb5 2 w'.heap.size w' a ml cap m/\(∀ z,a=some z->W1.heap.size<=z.block)/\Below W1.heap.size W1 w'):=by rw[<- hf1,<- hml,<- hm];exact jfI f l _ _ _ W1 hk h1 ((hA.go hB0).go hB1).g
 have t1:(L:Int)<=2:=by omega
 have t2:(0:Int)<=(L:Int):=Int.natCast_nonneg _;clear hk hm hml hf1;have hx1:=jak hB1 (Nat.le_refl _) hX0;have HXr1:=Lib.hid (jak hB1 (Nat.le_refl _) hXr);have HB1:Hid (Below w.heap.size w W1):=hB0.trans (hB1.mono hB0.size);have HY1:=Lib.hid hX1;have HZ1:Hid (W1.heap.size=w.heap.size+3):=by rw[Hid,hs1,hs0]
 have HA1:=Lib.hid ((hA.go hB0).go hB1);obtain⟨d0,d1,d2,d3,d4,d5,d6,d7,d8,d9⟩:=jaL hX0;obtain⟨a0,a1,a2,a3,a4,a5,a6,a7,a8,a9⟩:=jaL hx1;obtain⟨c0,c1,c2,c3,c4,c5,c6,c7,c8,c9⟩:=jaL hX1;obtain⟨f0,f1,f2,f3,f4,f5,f6,f7,f8,f9⟩:=jdJ hX1;have e1:W1.setCell ⟨w.heap.size+2,1,none⟩ (.int .i64 ((L:Int)+1))=W1:=jaa hX1 rfl;have e2:W1.setCell ⟨w.heap.size+2,2,none⟩ (.slice none 0 0)=W1:=jaa hX1 rfl;have e3:W1.setCell ⟨w.heap.size+2,3,none⟩ (.int .i64 0)=W1:=jaa hX1 rfl;have e4:W1.setCell ⟨w.heap.size+2,4,none⟩ (.string ⟨#[]⟩)=W1:=jaa hX1 rfl;have e5:W1.setCell ⟨w.heap.size+2,5,none⟩ (.int .i64 0)=W1:=jaa hX1 rfl;have e6:W1.setCell ⟨w.heap.size+2,6,none⟩ (.int .i64 0)=W1:=jaa hX1 rfl;have e7:W1.setCell ⟨w.heap.size+2,7,none⟩ (.slice none 0 0)=W1:=jaa hX1 rfl;have e8:W1.setCell ⟨w.heap.size+2,8,none⟩ (.int .i64 0)=W1:=jaa hX1 rfl;have e9:W1.setCell ⟨w.heap.size+2,9,none⟩ (.slice none 0 0)=W1:=jaa hX1 rfl;clear hX0 hXr hB0 hX1 hB1 hx1 hA hs1;go_enter Tryz.func99,Tryz.ntmps99;go_wp2_with fail;refine (HO.out).mono ?_;rintro e w2 ⟨qa,qc,rfl,hS2,hF2,hb2⟩;have HF2:Hid (∀ z,qa=some z->w.heap.size<=z.block):=fun z hz=>Nat.le_trans HB1.out.size (hF2 z hz)
 clear hF2;have hY2:=jak hb2 (Nat.le_refl _) HY1.out;have hR2:=jak hb2 (Nat.le_refl _) HXr1.out;have HB2:Hid (Below w.heap.size w w2):=HB1.out.trans (hb2.mono HB1.out.size);obtain⟨m0,m1,m2,m3,m4,m5,m6,m7,m8,m9⟩:=jaL hY2;obtain⟨g0,g1,g2,g3,g4,g5,g6,g7,g8,g9⟩:=jdJ hY2;obtain⟨V,hV⟩:∃ V,((w2.setCell ⟨w.heap.size+2,8,none⟩ (.int .i64 fq)).setCell ⟨w.heap.size+2,9,none⟩ (.slice qa ml qc))=V:=⟨_,rfl⟩;have hYV:V.heap[w.heap.size+2]? = some (.cells #[.int .i64 3,.int .i64 ((L:Int)+1),.slice none 0 0,.int .i64 0,.string ⟨#[]⟩,.int .i64 0,.int .i64 0,.slice none 0 0,.int .i64 fq,.slice qa ml qc] 50 (0,0)):=by rw[<- hV];exact hSk (hSk (hY2) _) _
 have hOV:OnlyAt (w.heap.size+2) w2 V:=by rw[<- hV];exact ((OnlyAt.refl _ _).set _ _).set _ _
 have hBV:Below w.heap.size w V:=by rw[<- hV];exact ((HB2.out).setCell (p:=⟨w.heap.size+2,8,none⟩) (by show w.heap.size<=w.heap.size+2;omega) _).setCell (p:=⟨w.heap.size+2,9,none⟩) (by show w.heap.size<=w.heap.size+2;omega) _
 have hRV:V.heap[w.heap.size+1]? = some (.cells #[.int .i64 0,.int .i64 0,.slice none 0 0,.int .i64 0,.string ⟨#[]⟩,.int .i64 0,.int .i64 0,.slice none 0 0,.int .i64 0,.slice none 0 0] 50 (0,0)):=(hOV.2 _ (by omega)).trans hR2;have hAV:(⟨none,0,0,none,0,0,qa,ml,qc⟩:SS).At V.heap.size V (jck 3 ((L:Int)+1) fq m):=SS.At.apart ⟨jaP,jaP,hS2⟩ hY2 (jil _ _ _ _ _ _ _ _ _ _ _ _ _ _ _ _) hOV;obtain⟨n0,n1,n2,n3,n4,n5,n6,n7,n8,n9⟩:=jaL hYV;obtain⟨r0,r1,r2,r3,r4,r5,r6,r7,r8,r9⟩:=jaL hRV;obtain⟨h0,h1,h2,h3,h4,h5,h6,h7,h8,h9⟩:=jdJ hRV;obtain⟨U,hU,hXU,hOU,hBU⟩:=jcl (.int .i64 3) (.int .i64 ((L:Int)+1)) (.slice none 0 0) (.int .i64 0) (.string ⟨#[]⟩) (.int .i64 0) (.int .i64 0) (.slice none 0 0) (.int .i64 fq) (.slice qa ml qc) hRV;obtain⟨k0,k1,k2,k3,k4,k5,k6,k7,k8,k9⟩:=jaL hXU;have HBU:Hid (Below w.heap.size w U):=hBU _ _ hBV (by omega);have HAU:Hid ((⟨none,0,0,none,0,0,qa,ml,qc⟩:SS).At U.heap.size U (jck 3 ((L:Int)+1) fq m)):=hAV.apart hRV (jil _ _ _ _ _ _ _ _ _ _ _ _ _ _ _ _) hOU;clear hY2 hR2 hYV hOV hBV hRV hAV hXU hOU hBU hb2;go_wp2_with fail;exact bodyPost_ret (v:=.agg #[.int .i64 3,.int .i64 ((L:Int)+1),.slice none 0 0,.int .i64 0,.string ⟨#[]⟩,.int .i64 0,.int .i64 0,.slice none 0 0,.int .i64 fq,.slice qa ml qc]) (by simp[results,Tryz.f99,go_sem,k0,k1,k2,k3,k4,k5,k6,k7,k8,k9]) rfl ⟨⟨none,0,0,none,0,0,qa,ml,qc⟩,rfl,HAU.out,⟨(fun z hz=>by cases hz),(fun z hz=>by cases hz),HF2.out⟩,HBU.out⟩
theorem jdE {k L:Nat} {B:Bd} (hB:B.Ok k L) (hlt:L<jdr k) (x:Sk) (hx:x=jb6 k L B) (s:SS) (w:World) (hA:s.At w.heap.size w x) :
  Calls Tryz.prog 99 #[.agg #[.int .i64 x.kind,.int .i64 x.level,.slice s.ea s.el s.ec,.int .i64 x.hb,.string x.hr,.int .i64 x.cr,.int .i64 x.cc,.slice s.ca s.cl s.cc,.int .i64 x.gf,.slice s.ga s.gl s.gc]] w (LowF (jb6 k (L+1) B.low) w):=by
 subst hx
 cases B with
 | num l =>
  obtain⟨rfl,rfl,h3,h4,h5⟩:=hB;exact jgA l s w hA h5 h4
 | reg b r =>
  obtain⟨rfl,h2,h3,h4,h5,h6⟩:=hB;have h7:jdr 1=4:=rfl;rw[show jb6 1 (L+1) (Bd.reg b r).low=jb4 1 ((L:Int)+1) ((b-1:Nat):Int) (jaA (jeo b r)) from rfl];exact jgB L b r s w hA h2 h3 (by omega) (by omega) h5 h6
 | cnt c l =>
  obtain⟨rfl,h2,h3,h4,h5⟩:=hB;have h7:jdr 2=3:=rfl
  have hc:c=8\/c=16\/c=32:=by
   rcases (by omega:L=0\/L=1\/L=2) with rfl | rfl | rfl<;>omega
  exact jgz L c l s w hA (by omega) hc h4 h5
 | bkt f l =>
  obtain⟨rfl,h2,h3,h4,h5,h6,h7⟩:=hB;have h8:jdr 3=3:=rfl;rw[show jb6 3 (L+1) (Bd.bkt f l).low=jck 3 ((L:Int)+1) ((f-1:Nat):Int) (jeN l) from rfl,show ((f-1:Nat):Int)=(f:Int)-1 by omega];exact jgy L f l s w hA (by omega) ⟨by omega,h4,h5,h6,h7⟩ (by omega)
theorem jss {x y:Sk} (h:jay x y=true):x=y:=by
 simp only[jay,Bool.and_eq_true,beq_iff_eq] at h;obtain⟨⟨⟨⟨⟨h1,h2⟩,h3,h4⟩,h5⟩,⟨h6,h7⟩,h8⟩,h9,h10⟩:=h
 have h4':x.hr=y.hr:=by
  rw[Lib.toList_data,Lib.toList_data] at h4
  cases hx:x.hr with | mk a=>cases hy:y.hr with | mk b =>
  rw[hx,hy] at h4;rw[show a=b from Array.toList_inj.1 h4]
 cases x;cases y
 simp only at *;subst h1 h2 h3 h4' h5 h6 h7 h8 h9 h10;rfl
def jcm (s:ByteArray):List Nat:=s.data.toList.map (·.toNat)
theorem jkA (s:ByteArray):jaA (jcm s)=s:=by
 unfold jaA jcm
 have h:(strOfNums ((s.data.toList.map (·.toNat)).map fun (n:Nat)=>(n:Int))).data.toList=s.data.toList:=by
  rw[strOfNums_data,List.map_map,List.map_map]
  conv=>rhs;rw[<- List.map_id s.data.toList]
  refine List.map_congr_left (fun x _=>?_);simp
 generalize strOfNums ((s.data.toList.map (·.toNat)).map fun (n:Nat)=>(n:Int))=z at h
 cases z with | mk a=>cases s with | mk b =>
 have h2:a.toList=b.toList:=h;rw[Array.toList_inj.1 h2]
theorem jkz (s:ByteArray):(jcm s).length=s.size:=by unfold jcm;rw[List.length_map];exact Array.length_toList
theorem jl8 (b:Nat) (s:ByteArray) (h:jcg b s=true):∀ i,(jcm s).getD i 0<=65-b:=fun i=>by
 rw[List.getD_eq_getElem?_getD]
 cases hi:(jcm s)[i]? with
 | none=>exact Nat.zero_le _
 | some r =>
  have hm:=List.mem_of_getElem? hi;unfold jcm at hm;obtain⟨c,hc,rfl⟩:=List.mem_map.1 hm;unfold jcg at h;have h2:=List.all_eq_true.1 h c hc;have h3:¬ (65-(b:Int)<(c.toNat:Int)):=by simpa using h2
  show c.toNat<=65-b;omega
theorem ji1 (f:Int):∀ (l:List (Int × Int)) (last:Int),(jbM (jbg f) last l).isSome=true->jcr l/\(∀ b∈l,last<b.1)/\(∀ b∈l,b.2≠0)/\∀ b∈l,jap f b.1=true
 | [],_,_=>⟨List.Pairwise.nil,(fun _ h=>by cases h),(fun _ h=>by cases h),fun _ h=>by cases h⟩
 | b::t,last,h=>by
  rw[jcF] at h
  cases hs:jbg f last b with
  | none=>rw[hs] at h;cases h
  | some z =>
   rw[hs] at h
   have hs2:z=b.1/\b.2≠0/\jap f b.1=true/\last<b.1:=by
    unfold jbg at hs;split at hs
    ·cases hs
    ·rename_i hc
     simp only[Bool.or_eq_true,beq_iff_eq,Bool.not_eq_true',decide_eq_true_eq,not_or,Bool.not_eq_false] at hc;exact⟨(Option.some.inj hs).symm,hc.1.1,hc.1.2,by omega⟩
   obtain⟨rfl,h2,h3,h4⟩:=hs2;obtain⟨i1,i2,i3,i4⟩:=ji1 f t b.1 h;refine⟨List.pairwise_cons.2 ⟨i2,i1⟩,fun c hc=>?_,fun c hc=>?_,fun c hc=>?_⟩
   ·rcases List.mem_cons.1 hc with rfl | hc
    ·exact h4
    ·have:=i2 c hc;omega
   ·rcases List.mem_cons.1 hc with rfl | hc
    ·exact h2
    ·exact i3 c hc
   ·rcases List.mem_cons.1 hc with rfl | hc
    ·exact h3
    ·exact i4 c hc
theorem jr4 (x:Sk) (h:jcd x=true) (he:jdK x.e) (hc:jdK x.cl) (hg:jbG x.gl):∃ (k L:Nat) (B:Bd),x=jb6 k L B/\B.Ok k L:=by
 simp only[jcd,Bool.and_eq_true,decide_eq_true_eq] at h;obtain⟨⟨⟨k1,k3⟩,l0,l1⟩,hb,hsm⟩:=h;have hx:=jss hsm;obtain⟨L,hL⟩:∃ L:Nat,x.level=L:=⟨x.level.toNat,by omega⟩;rcases (by omega:x.kind=1\/x.kind=2\/x.kind=3) with hk | hk | hk
 ·have hbt:jal x.kind=4:=by rw[hk];rfl
  rw[hbt,hL] at l1;by_cases h0:L=0
  ·subst h0
   have h1:ja3 x=jcD 1 0 x.e:=by unfold ja3;rw[hk,hL];rfl
   have h2:ja9 x.e=true:=by unfold jaG at hb;rw[hk,hL] at hb;exact hb
   obtain⟨u1,u2⟩:=je6 x.e h2;exact⟨1,0,.num x.e,by rw[h1] at hx;exact hx,rfl,rfl,u1,u2,he⟩
  ·have hn0:((L:Int)==0)=false:=by simp;omega
   have h1:ja3 x=jb4 1 L x.hb x.hr:=by
    unfold ja3;rw[hk,hL];show (if ((1:Int)==1) then if ((L:Int)==0) then _ else _ else _)=_;rw[hn0];rfl
   have h2:(jaR x.hb x.hr&&(x.hb==8-(L:Int)))=true:=by
    unfold jaG at hb;rw[hk,hL] at hb;have hb2:(if ((L:Int)==0) then ja9 x.e else jaR x.hb x.hr&&(x.hb==8-(L:Int)))=true:=hb;rw[hn0] at hb2;exact hb2
   rw[Bool.and_eq_true,beq_iff_eq] at h2;obtain⟨h3,h4⟩:=h2;unfold jaR at h3;rw[Bool.and_eq_true,Bool.and_eq_true,beq_iff_eq] at h3;obtain⟨⟨h5,h6⟩,h7⟩:=h3;obtain⟨b,hbb⟩:∃ b:Nat,x.hb=b:=⟨x.hb.toNat,by omega⟩;rw[hbb] at h4 h6 h7 h1
   have hsz:x.hr.size=2^b:=by
    rw[Int.toNat_natCast] at h6;have:((2:Int)^b)=((2^b:Nat):Int):=by simp
    omega
   refine⟨1,L,.reg b (jcm x.hr),?_,rfl,by omega,by omega,by omega,by rw[jkz];exact hsz,jl8 b x.hr h7⟩;show x=jb4 1 L b (jaA (jcm x.hr));rw[jkA];exact hx.trans h1
 ·have hbt:jal x.kind=3:=by rw[hk];rfl
  rw[hbt,hL] at l1;have h1:ja3 x=jbA 2 L x.cr x.cc x.cl:=by unfold ja3;rw[hk,hL];rfl
  have h2:(jaN x.cr x.cc x.cl&&(x.cr==2)&&(x.cc==32 / 2^L))=true:=by
   unfold jaG at hb;rw[hk,hL,Int.toNat_natCast] at hb;exact hb
  rw[Bool.and_eq_true,Bool.and_eq_true,beq_iff_eq,beq_iff_eq] at h2;obtain⟨⟨h3,h4⟩,h5⟩:=h2;unfold jaN at h3;rw[Bool.and_eq_true,beq_iff_eq] at h3;have h6:=h3.2;obtain⟨c,hcc⟩:∃ c:Nat,x.cc=c:=⟨32 / 2^L,by rw[h5];simp⟩
  have hc32:c*2^L=32:=by
   have hc2:(c:Int)=((32 / 2^L:Nat):Int):=by rw[<- hcc,h5];simp
   have hc3:c=32 / 2^L:=by omega
   rw[hc3];rcases (by omega:L=0\/L=1\/L=2\/L=3) with rfl | rfl | rfl | rfl<;>rfl
  rw[h4,hcc] at h6 h1;refine⟨2,L,.cnt c x.cl,?_,rfl,by omega,hc32,by omega,hc⟩;exact hx.trans h1
 ·have hbt:jal x.kind=3:=by rw[hk];rfl
  rw[hbt,hL] at l1;have h1:ja3 x=jck 3 L x.gf x.gl:=by unfold ja3;rw[hk,hL];rfl
  have h2:(jaX x.gf x.gl&&(x.gf==3-(L:Int)))=true:=by
   unfold jaG at hb;rw[hk,hL] at hb;exact hb
  rw[Bool.and_eq_true,beq_iff_eq] at h2;obtain⟨h3,h4⟩:=h2;unfold jaX at h3;rw[Bool.and_eq_true] at h3;obtain⟨u1,u2,u3,u4⟩:=ji1 x.gf x.gl (-1) h3.2;obtain⟨f,hf⟩:∃ f:Nat,x.gf=f:=⟨x.gf.toNat,by omega⟩;rw[hf] at u4 h4 h1;refine⟨3,L,.bkt f x.gl,hx.trans h1,rfl,by omega,by omega,u1,u3,hg,u4⟩
def jsc (x:Sk):Bd:=if x.kind==1 then (if x.level==0 then .num x.e else .reg x.hb.toNat (jcm x.hr)) else if x.kind==2 then .cnt x.cc.toNat x.cl else .bkt x.gf.toNat x.gl
theorem jpI (r:List Nat) (h:∀ i,r.getD i 0<=255):jcm (jaA r)=r:=by
 unfold jcm jaA;rw[strOfNums_data,List.map_map,List.map_map]
 conv=>rhs;rw[<- List.map_id r]
 refine List.map_congr_left (fun x hx=>?_);obtain⟨i,hi⟩:=List.mem_iff_getElem?.1 hx;have h1:=h i;rw[List.getD_eq_getElem?_getD,hi,Option.getD_some] at h1;show (UInt8.ofNat ((x:Int)).toNat).toNat=x;rw[Int.toNat_natCast];simp;omega
theorem jmw {k L:Nat} {B:Bd} (h:B.Ok k L):jsc (jb6 k L B)=B:=by
 cases B with
 | num l=>obtain⟨rfl,rfl,-⟩:=h;rfl
 | reg b r =>
  obtain⟨rfl,h1,-,h3,-,h5⟩:=h;have h0:(((L:Nat):Int)==0)=false:=by simp;omega
  show (if (((1:Nat):Int)==1) then (if ((L:Int)==0) then _ else Bd.reg ((b:Int)).toNat (jcm (jaA r))) else _)=_;rw[h0,Int.toNat_natCast,jpI r (fun i=>by have:=h5 i;omega)];rfl
 | cnt c l=>obtain⟨rfl,-⟩:=h;rfl
 | bkt f l=>obtain⟨rfl,-⟩:=h;rfl
def jeY (x:Sk):Sk:=jb6 x.kind.toNat (x.level.toNat+1) (jsc x).low
def jrx (x:Sk) (t:Nat):Sk:=jb6 x.kind.toNat (jdG (x.level.toNat,jsc x) t).1 (jdG (x.level.toNat,jsc x) t).2
def SkGood (x:Sk):Prop:=∃ k L B,x=jb6 k L B/\Bd.Ok k L B
theorem jfV {k L:Nat} {B:Bd} (h:B.Ok k L):jeY (jb6 k L B)=jb6 k (L+1) B.low:=by
 unfold jeY;rw[jmw h,(jaD k L B).1,(jaD k L B).2,Int.toNat_natCast,Int.toNat_natCast]
theorem jkt {k L:Nat} {B:Bd} (h:B.Ok k L) (t:Nat):jrx (jb6 k L B) t=jb6 k (jdG (L,B) t).1 (jdG (L,B) t).2:=by
 unfold jrx;rw[jmw h,(jaD k L B).1,(jaD k L B).2,Int.toNat_natCast,Int.toNat_natCast]
theorem SkGood.of {x:Sk} (h:jcd x=true) (he:jdK x.e) (hc:jdK x.cl) (hg:jbG x.gl):SkGood x:=jr4 x h he hc hg
theorem SkGood.ok {x:Sk} (h:SkGood x):jcd x=true:=by obtain⟨k,L,B,rfl,h⟩:=h;exact jkr h
structure Sk.lim (x:Sk):Prop where
 e:jdK x.e
 c:jdK x.cl
 g:joi x.gl
 cc:I64 x.cc
 fit:x.fit
 el:x.e.length<2147483648
 cl:x.cl.length<2147483648
 gl:x.gl.length<2147483648
theorem Sk.lim.short {x:Sk} (h:x.lim) {s:SS} {n:Nat} {w:World} (hs:s.At n w x):s.Short:=⟨by rw[hs.e.1.1];exact h.el,by rw[hs.c.1.1];exact h.cl,by rw[hs.g.1.1];exact h.gl⟩
theorem Sk.lim.bd {x:Sk} (h:x.lim) (ok:jcd x=true):∃ k L B,x=jb6 k L B/\Bd.Ok k L B:=jr4 x ok h.e h.c (fun b hb=>(h.g b hb).2)
theorem jp6 {k L:Nat} {B:Bd} (h:B.Ok k L):jal (jb6 k L B).kind=(jdr k:Int):=by rw[(jaD k L B).1];exact (jfp h).1
def jbv (x:Ser):Bool:=decide (x.sk.level<jal x.sk.kind)
def jcN (x:Ser):Ser:=⟨x.l,jeY x.sk,x.seen⟩
def ja5 (x:Ser):Ser:=⟨x.l,jrx x.sk (jal x.sk.kind).toNat,x.seen⟩
theorem jjf {k L:Nat} {B:Bd} (h:B.Ok k L) (l:List Lab) (n:Int):jbv ⟨l,jb6 k L B,n⟩=decide (L<jdr k):=by
 unfold jbv;rw[(jaD k L B).1,(jaD k L B).2,(jfp h).1];by_cases hl:L<jdr k
 ·rw[decide_eq_true hl];simp;omega
 ·rw[decide_eq_false hl];simp;omega
theorem joV {k L:Nat} {B:Bd} (h:B.Ok k L):(jal (jb6 k L B).kind).toNat=jdr k:=by
 rw[(jaD k L B).1,(jfp h).1,Int.toNat_natCast]
structure Ser.good (x:Ser):Prop where
 fine:x.fine
 sk:SkGood x.sk
theorem jpc {k L:Nat} {B:Bd} (h:B.Ok k L) (hg:∀ f l,B=.bkt f l->l.length<=300):(jb6 k L B).e.length<=70/\(jb6 k L B).cl.length<=200/\(jb6 k L B).gl.length<=300/\(jb6 k L B).hr.size<=260:=by
 cases B with
 | num l=>obtain⟨-,-,-,h4,-⟩:=h;exact⟨by show l.length<=70;omega,Nat.zero_le _,Nat.zero_le _,Nat.zero_le _⟩
 | reg b r =>
  obtain⟨-,h1,-,h3,h4,-⟩:=h;have:2^b<=2^8:=Nat.pow_le_pow_right (by omega) (by omega);exact⟨Nat.zero_le _,Nat.zero_le _,Nat.zero_le _,by show (jaA r).size<=260;rw[jbW];omega⟩
 | cnt c l =>
  obtain⟨-,h2,h3,h4,-⟩:=h;have:=jhS h3 h2;exact⟨Nat.zero_le _,by show l.length<=200;omega,Nat.zero_le _,Nat.zero_le _⟩
 | bkt f l=>exact⟨Nat.zero_le _,Nat.zero_le _,hg f l rfl,Nat.zero_le _⟩
theorem jfZ {B:Bd} (hg:∀ f l,B=.bkt f l->l.length<=300):∀ f l,B.low=.bkt f l->l.length<=300:=by
 intro f l h
 cases B with
 | bkt f' l' =>
  simp only[Bd.low,Bd.bkt.injEq] at h;obtain⟨-,rfl⟩:=h;exact Nat.le_trans (jm5 l') (hg f' l' rfl)
 | num l'=>cases h
 | reg b r=>cases h
 | cnt c l'=>cases h
theorem jiZ {x:Ser} (h:x.fine) {k L:Nat} {B:Bd} (e:x.sk=jb6 k L B):∀ f l,B=.bkt f l->l.length<=300:=by
 rintro f l rfl;have:=h.g;rw[e] at this;exact this
theorem Ser.good.with {x:Ser} (h:x.good) {k L:Nat} {B:Bd} (hB:B.Ok k L) (hg:∀ f l,B=.bkt f l->l.length<=300):Ser.good ⟨x.l,jb6 k L B,x.seen⟩:=by
 obtain⟨h1,h2,h3,h4⟩:=jpc hB hg;exact⟨⟨h.fine.lab,h.fine.ll,h1,h2,h3,jdB hB,h4,h.fine.seen⟩,⟨k,L,B,rfl,hB⟩⟩
theorem Ser.good.low {x:Ser} (h:x.good) (hm:jbv x=true):(jcN x).good:=by
 obtain⟨k,L,B,e,hB⟩:=h.sk;have hx:x=⟨x.l,jb6 k L B,x.seen⟩:=by rw[<- e]
 have hlt:L<jdr k:=by rw[hx,jjf hB] at hm;simpa using hm
 unfold jcN;rw[e,jfV hB];exact h.with (jeC hB hlt) (jfZ (jiZ h.fine e))
theorem joh {t:Nat}:∀ (n:Nat) (s:Nat × Bd),(∀ f l,s.2=.bkt f l->l.length<=300)->∀ f l,(jc4 n s).2=.bkt f l->l.length<=300
 | 0,_,h=>h
 | n+1,s,h=>joh (t:=t) n (jme s) (jfZ h)
theorem Ser.good.bot {x:Ser} (h:x.good):(ja5 x).good:=by
 obtain⟨k,L,B,e,hB⟩:=h.sk;unfold ja5;rw[e,joV hB,jkt hB];exact h.with (jkJ (jdr k) (Nat.le_refl _) _ (L,B) rfl hB).1 (joh (t:=0) _ _ (jiZ h.fine e))
theorem jk2 {x:Ser} (h:x.good):(jcN x).sk.kind=x.sk.kind/\(jcN x).sk.level=x.sk.level+1:=by
 obtain⟨k,L,B,e,hB⟩:=h.sk;unfold jcN;dsimp only;rw[e,jfV hB,(jaD _ _ _).1,(jaD _ _ _).2,(jaD _ _ _).1,(jaD _ _ _).2];exact⟨rfl,by omega⟩
def jcV (i:Nat) (x:Ser) (s:Nat × Int × Bool):Nat × Int × Bool:=if jbv x&&(!s.2.2||decide (s.2.1<jaB x)) then (i,jaB x,true) else s
def jcy (l:List Ser):Nat->Nat × Int × Bool
 | 0=>(0,0,false)
 | k+1=>match l[k]? with
  | some x=>jcV k x (jcy l k)
  | none=>jcy l k
def vic (l:List Ser):Nat × Int × Bool:=jcy l l.length
theorem jfn {l:List Ser} {k:Nat} {x:Ser} (h:l[k]? = some x):jcy l (k+1)=jcV k x (jcy l k):=by
 show (match l[k]? with | some x=>jcV k x (jcy l k) | none=>jcy l k)=_;rw[h]
structure jqw (l:List Ser) (k:Nat) (s:Nat × Int × Bool):Prop where
 none:s.2.2=false->s.1=0/\s.2.1=0/\∀ i x,i<k->l[i]? = some x->jbv x=false
 some:s.2.2=true->s.1<k/\(∃ x,l[s.1]? = some x/\jbv x=true/\jaB x=s.2.1)/\∀ i x,i<k->l[i]? = some x->jbv x=true->jaB x<=s.2.1/\(jaB x=s.2.1->s.1<=i)
theorem jiB (l:List Ser):∀ k,k<=l.length->jqw l k (jcy l k)
 | 0,_=>⟨fun _=>⟨rfl,rfl,fun i x h=>by omega⟩,fun h=>by cases h⟩
 | k+1,hk=>by
  have ih:=jiB l k (by omega);obtain⟨x,hx⟩:∃ x,l[k]? = some x:=⟨_,List.getElem?_eq_getElem (by omega)⟩;rw[jfn hx];generalize jcy l k=s at ih;obtain⟨at_,g,f⟩:=s;unfold jcV
  cases hm:jbv x with
  | false =>
   rw[Bool.false_and,if_neg (by simp)];refine⟨fun h=>?_,fun h=>?_⟩
   ·obtain⟨h1,h2,h3⟩:=ih.none h
    refine⟨h1,h2,fun i y hi hy=>?_⟩;by_cases hik:i=k
    ·subst hik;rw[hx] at hy;cases hy;exact hm
    ·exact h3 i y (by omega) hy
   ·obtain⟨h1,h2,h3⟩:=ih.some h
    refine⟨by omega,h2,fun i y hi hy hmy=>?_⟩;by_cases hik:i=k
    ·subst hik;rw[hx] at hy;cases hy;rw[hm] at hmy;cases hmy
    ·exact h3 i y (by omega) hy hmy
  | true =>
   rw[Bool.true_and];dsimp only
   cases f with
   | false =>
    rw[if_pos (by rfl)];obtain⟨h1,h2,h3⟩:=ih.none rfl;refine⟨fun h=>(by cases h),fun _=>⟨Nat.lt_succ_self k,⟨x,hx,hm,rfl⟩,fun i y hi hy hmy=>?_⟩⟩;by_cases hik:i=k
    ·subst hik;rw[hx] at hy;cases hy;exact⟨Int.le_refl _,fun _=>Nat.le_refl _⟩
    ·rw[h3 i y (by omega) hy] at hmy;cases hmy
   | true =>
    obtain⟨h1,h2,h3⟩:=ih.some rfl;dsimp only at h1 h2 h3;by_cases hg:g<jaB x
    ·rw[if_pos (by simp[hg])]
     refine⟨fun h=>(by cases h),fun _=>⟨Nat.lt_succ_self k,⟨x,hx,hm,rfl⟩,fun i y hi hy hmy=>?_⟩⟩;by_cases hik:i=k
     ·subst hik;rw[hx] at hy;cases hy;exact⟨Int.le_refl _,fun _=>Nat.le_refl _⟩
     ·have:=(h3 i y (by omega) hy hmy).1
      show jaB y<=jaB x/\(jaB y=jaB x->k<=i);exact⟨by omega,fun e=>by omega⟩
    ·rw[if_neg (by simp[hg])]
     refine⟨fun h=>(by cases h),fun _=>⟨by show at_<k+1;omega,h2,fun i y hi hy hmy=>?_⟩⟩;by_cases hik:i=k
     ·subst hik;rw[hx] at hy;cases hy;exact⟨by show jaB x<=g;omega,fun _=>by show at_<=i;omega⟩
     ·exact h3 i y (by omega) hy hmy
theorem jqm (l:List Ser):jqw l l.length (vic l):=jiB l _ (Nat.le_refl _)
def jbK (l:List Ser):Option Nat:=if (vic l).2.2 then some (vic l).1 else none
theorem jkI {l:List Ser} (h:jbK l=none):(vic l).2.2=false/\∀ x∈l,jbv x=false:=by
 unfold jbK at h;split at h
 ·cases h
 ·rename_i hf
  have hf':(vic l).2.2=false:=by simpa using hf
  refine⟨hf',fun x hx=>?_⟩;obtain⟨i,hi⟩:=List.mem_iff_getElem?.1 hx;exact ((jqm l).none hf').2.2 i x (List.getElem?_eq_some_iff.1 hi).1 hi
theorem jcW {l:List Ser} {v:Nat} (h:jbK l=some v):(vic l).2.2=true/\(vic l).1=v/\v<l.length/\∃ x,l[v]? = some x/\jbv x=true:=by
 unfold jbK at h;split at h
 ·rename_i hf
  injection h with h
  subst h;obtain⟨h1,⟨x,h2,h3,-⟩,-⟩:=(jqm l).some hf;exact⟨hf,rfl,h1,x,h2,h3⟩
 ·cases h
def jcY (l:List Ser) (i:Nat):List Ser:=match l[i]? with
 | some x=>l.set i (jcN x)
 | none=>l
theorem jeT {l:List Ser} {i:Nat} {x:Ser} (h:l[i]? = some x):jcY l i=l.set i (jcN x):=by unfold jcY;rw[h]
structure QT (l:List Ser):Prop where
 right:jag l=true
 good:∀ x∈l,x.good
theorem jrg {l:List Ser} {i:Nat} {y z:Ser} (h:z∈l.set i y):z∈l\/z=y:=by
 rcases List.mem_or_eq_of_mem_set h with h | h
 ·exact .inl h
 ·exact .inr h
theorem jky {l m:List Ser} (h:l.map (·.l)=m.map (·.l)) (hs:Sorted l):Sorted m:=by
 unfold Sorted at *;have h1:(l.map (·.l)).Pairwise (fun a b=>jau a b=true):=List.pairwise_map.2 hs;rw[h] at h1;exact List.pairwise_map.1 h1
theorem jhC {l m:List Ser} (h:l.map (·.l)=m.map (·.l)) (hr:jag l=true) (hm:∀ x∈m,jcd x.sk=true):jag m=true:=by
 obtain⟨h1,h2,h3⟩:=(jaK l).1 hr;have hlen:m.length=l.length:=by have:=congrArg List.length h;simpa using this.symm
 refine (jaK m).2 ⟨by omega,fun x hx=>?_,jky h h3⟩;obtain⟨i,hi⟩:=List.mem_iff_getElem?.1 hx;have h4:(m.map (·.l))[i]? = some x.l:=by rw[List.getElem?_map,hi];rfl
 rw[<- h,List.getElem?_map,Option.map_eq_some_iff] at h4;obtain⟨y,hy,e⟩:=h4;have h5:=h2 y (List.mem_of_getElem? hy);simp only[jaM,Bool.and_eq_true] at h5 ⊢;exact⟨by rw[<- e];exact h5.1,hm x hx⟩
theorem jfd (l:List Ser) (i:Nat):(jcY l i).map (·.l)=l.map (·.l):=by
 unfold jcY
 cases h:l[i]? with
 | none=>rfl
 | some x =>
  show (l.set i (jcN x)).map (·.l)=_;rw[List.map_set];apply List.ext_getElem?;intro j;rw[List.getElem?_set];by_cases hij:i=j
  ·subst hij
   have hi:=(List.getElem?_eq_some_iff.1 h).1;rw[if_pos rfl,if_pos (by simpa using hi),List.getElem?_map,h];rfl
  ·rw[if_neg hij]
theorem jnm (l:List Ser) (i:Nat):(jcY l i).length=l.length:=by
 have:=congrArg List.length (jfd l i);simpa using this
theorem QT.low {l:List Ser} (h:QT l) {i:Nat} {x:Ser} (hx:l[i]? = some x) (hm:jbv x=true):QT (jcY l i):=by
 have hg:∀ y∈jcY l i,y.good:=fun y hy=>by
  rw[jeT hx] at hy;rcases jrg hy with h1 | rfl
  ·exact h.good y h1
  ·exact (h.good x (List.mem_of_getElem? hx)).low hm
 exact⟨jhC (jfd l i).symm h.right (fun y hy=>(hg y hy).sk.ok),hg⟩
theorem QT.len {l:List Ser} (h:QT l):l.length<=20:=((jaK l).1 h.right).1
def jhb (x:Ser):Nat:=(jal x.sk.kind-x.sk.level).toNat
def mu:List Ser->Nat
 | []=>0
 | x::r=>jhb x+mu r
theorem jqd:∀ (l:List Ser) (i:Nat) (x y:Ser),l[i]? = some x->jhb y+1=jhb x->mu (l.set i y)+1=mu l
 | [],i,x,y,h,_=>by simp at h
 | z::r,0,x,y,h,hs=>by
  simp only[List.getElem?_cons_zero,Option.some.injEq] at h;subst h;show jhb y+mu r+1=jhb z+mu r;omega
 | z::r,i+1,x,y,h,hs=>by
  have:=jqd r i x y (by simpa using h) hs;show jhb z+mu (r.set i y)+1=jhb z+mu r;omega
theorem jjg {l:List Ser} (h:QT l) {i:Nat} {x:Ser} (hx:l[i]? = some x) (hm:jbv x=true):mu (jcY l i)+1=mu l:=by
 rw[jeT hx];refine jqd l i x _ hx ?_;obtain⟨h1,h2⟩:=jk2 (h.good x (List.mem_of_getElem? hx));unfold jhb;rw[h1,h2];unfold jbv at hm;rw[decide_eq_true_eq] at hm;omega
def jsm (b:Int):Nat->List Ser->Option (List Ser × List Nat)
 | 0,_=>none
 | n+1,l=>if jaw l<=b then some (l,[]) else match jbK l with
  | none=>none
  | some v=>(jsm b n (jcY l v)).map fun r=>(r.1,v::r.2)
def fit (b:Int) (l:List Ser):Option (List Ser × List Nat):=jsm b (mu l+1) l
theorem jfR {b:Int} {l:List Ser} (h:jaw l<=b):fit b l=some (l,[]):=by
 show (if jaw l<=b then _ else _)=_;rw[if_pos h]
theorem jeJ {b:Int} {l:List Ser} (h:b<jaw l) (hv:jbK l=none):fit b l=none:=by
 show (if jaw l<=b then _ else _)=_;rw[if_neg (by omega),hv]
theorem jhZ {b:Int} {l:List Ser} (hl:QT l) (h:b<jaw l) {v:Nat} (hv:jbK l=some v):fit b l=(fit b (jcY l v)).map fun r=>(r.1,v::r.2):=by
 show (if jaw l<=b then _ else _)=_;rw[if_neg (by omega),hv];obtain⟨-,-,-,x,hx,hm⟩:=jcW hv;have:=jjg hl hx hm;show (jsm b (mu l) (jcY l v)).map _=_;rw[<- this];rfl
theorem jqK (b:Int) (P:List Ser->Option (List Ser × List Nat)->Prop) (done:∀ l,QT l->jaw l<=b->P l (some (l,[]))) (stuck:∀ l,QT l->b<jaw l->jbK l=none->P l none)
  (step:∀ l v x,QT l->b<jaw l->jbK l=some v->l[v]? = some x->jbv x=true->P (jcY l v) (fit b (jcY l v))->P l ((fit b (jcY l v)).map fun r=>(r.1,v::r.2))):∀ l,QT l->P l (fit b l):=by
 have key:∀ n l,mu l=n->QT l->P l (fit b l):=by
  intro n
  induction n with
  | zero =>
   intro l hn hl;by_cases h:jaw l<=b
   ·rw[jfR h];exact done l hl h
   ·cases hv:jbK l with
    | none=>rw[jeJ (by omega) hv];exact stuck l hl (by omega) hv
    | some v =>
     obtain⟨-,-,-,x,hx,hm⟩:=jcW hv;have:=jjg hl hx hm;omega
  | succ n ih =>
   intro l hn hl;by_cases h:jaw l<=b
   ·rw[jfR h];exact done l hl h
   ·cases hv:jbK l with
    | none=>rw[jeJ (by omega) hv];exact stuck l hl (by omega) hv
    | some v =>
     obtain⟨-,-,-,x,hx,hm⟩:=jcW hv;have h1:=jjg hl hx hm;rw[jhZ hl (by omega) hv];exact step l v x hl (by omega) hv hx hm (ih _ (by omega) (hl.low hx hm))
 exact fun l hl=>key _ l rfl hl
structure jp1 (b:Int) (l a:List Ser) (ps:List Nat):Prop where
 qt:QT a
 cost:jaw a<=b
 labs:a.map (·.l)=l.map (·.l)
 levels:∀ (i:Nat) (x y:Ser),l[i]? = some x->a[i]? = some y->x.sk.level<=y.sk.level/\y.seen=x.seen
 none:ps=[]↔jaw l<=b
 same:ps=[]->a=l
theorem jo8 (b:Int):∀ l,QT l->∀ a ps,fit b l=some (a,ps)->jp1 b l a ps:=by
 refine jqK b (fun l r=>∀ a ps,r=some (a,ps)->jp1 b l a ps) (fun l hl h a ps e=>?_) (fun l _ _ _ a ps e=>by cases e) (fun l v x hl h hv hx hm ih a ps e=>?_)
 ·cases e
  exact⟨hl,h,rfl,fun i x y h1 h2=>by rw[h1] at h2;cases h2;exact⟨Int.le_refl _,rfl⟩,by simp[h],fun _=>rfl⟩
 ·rw[Option.map_eq_some_iff] at e
  obtain⟨⟨a',ps'⟩,h1,h2⟩:=e
  cases h2
  obtain⟨g1,g2,g3,g4,g5,-⟩:=ih a' ps' h1;refine⟨g1,g2,g3.trans (jfd l v),fun i y z hy hz=>?_,by simp;omega,fun h=>by cases h⟩;obtain⟨u,hu⟩:∃ u,(jcY l v)[i]? = some u:=⟨_,List.getElem?_eq_getElem (by rw[jnm];exact (List.getElem?_eq_some_iff.1 hy).1)⟩;obtain⟨k1,k2⟩:=g4 i u z hu hz
  have:y.sk.level<=u.sk.level/\u.seen=y.seen:=by
   rw[jeT hx,List.getElem?_set] at hu;by_cases hiv:v=i
   ·subst hiv
    rw[if_pos rfl,if_pos (List.getElem?_eq_some_iff.1 hx).1] at hu
    cases hu
    rw[hx] at hy
    cases hy
    have:=(jk2 (hl.good x (List.mem_of_getElem? hx))).2;exact⟨by omega,rfl⟩
   ·rw[if_neg hiv,hy] at hu
    cases hu
    exact⟨Int.le_refl _,rfl⟩
  exact⟨by omega,k2.trans this.2⟩
def jrM (l:List Ser):Int:=jaw (l.map ja5)
theorem jqV {x:Sk} (h:x.arg) (hc:I64 x.cc):x.cut.lim where
 e:=fun n hn=>h.e n (List.mem_of_mem_take hn)
 c:=fun n hn=>h.c n (List.mem_of_mem_take hn)
 g:=fun b hb=>h.g b (List.mem_of_mem_take hb)
 cc:=hc
 fit:=fun b hb=>(h.g b (List.mem_of_mem_take hb)).1.2
 el:=by show (x.e.take 70).length<_;rw[List.length_take];omega
 cl:=by show (x.cl.take 200).length<_;rw[List.length_take];omega
 gl:=by show (x.gl.take 300).length<_;rw[List.length_take];omega
end Go.Proofs.YtieknocphiceoaaGreatDoor
