/- Package ladder: New. Printed by gen_lj.py. Laws of layer 10: items; New, whatever the kind. tenant.take: where nothing is taken. tenant.take. The drawn region is printed by wip/tools/gen_ug.py. tenant.come. Its region is printed by wip/tools/gen_ud.py. -/
import Derived.Test.YtnegciklhanmbaaGreatDoorZUE
set_option maxHeartbeats 4000000
set_option maxRecDepth 100000
namespace Go.Proofs.YtnegciklhanmbaaGreatDoor
open Go Go.RowKit Go.Shelf
theorem jeE {α:Type} {enc:α->List Value} {k n:Nat} {w:World}:SlC enc k n w none 0 0 []:=⟨⟨rfl,fun j x A=>by simp at A⟩,Nat.le_refl _,Nat.zero_le _,fun _=>rfl,fun x e=>by cases e⟩
theorem jxM (w:World):Calls Tryz.prog 42 #[.int .i64 1] w fun e w'=>∃ x,e=.returned (.tuple #[x,.int .i64 0])/\SkB w' x 1 0 (jdA 1)/\Bw w w':=by
 obtain⟨B,I,C,A,D,J⟩:=jas w zsV 44 #[.int .i64 1,.int .i64 0,.slice none 0 0,.int .i64 0,.string ⟨#[]⟩,.int .i64 0,.int .i64 0,.slice none 0 0,.int .i64 0,.slice none 0 0] 44;obtain⟨X,c1,c2,c3,c4,c5,Y,Z,a,b⟩:=jbg A;obtain⟨m,n,o,p,q,r,s,t,u,y⟩:=jft A;have c:B.setCell ⟨w.heap.size+1,1,none⟩ (.int .i64 0)=B:=jag A rfl;have d:B.setCell ⟨w.heap.size+1,2,none⟩ (.slice none 0 0)=B:=jag A rfl;have f:B.setCell ⟨w.heap.size+1,3,none⟩ (.int .i64 0)=B:=jag A rfl;have g:B.setCell ⟨w.heap.size+1,4,none⟩ (.string ⟨#[]⟩)=B:=jag A rfl;have h:B.setCell ⟨w.heap.size+1,5,none⟩ (.int .i64 0)=B:=jag A rfl;have i:B.setCell ⟨w.heap.size+1,6,none⟩ (.int .i64 0)=B:=jag A rfl;have j:B.setCell ⟨w.heap.size+1,7,none⟩ (.slice none 0 0)=B:=jag A rfl;have k:B.setCell ⟨w.heap.size+1,8,none⟩ (.int .i64 0)=B:=jag A rfl;have l:B.setCell ⟨w.heap.size+1,9,none⟩ (.slice none 0 0)=B:=jag A rfl;obtain⟨r0,r1,r2,r3,r4,r5,r6,r7,r8,r9⟩:=jbg C;obtain⟨z,g1,g2,g3,g4,g5,g6,g7,g8,g9⟩:=jft C;obtain⟨V,hV,F,H,E⟩:=ja9 (.int .i64 1) (.int .i64 0) (.slice none 0 0) (.int .i64 0) (.string ⟨#[]⟩) (.int .i64 0) (.int .i64 0) (.slice none 0 0) (.int .i64 0) (.slice none 0 0) C;obtain⟨L,M,N,O,P,Q,R,S,T,U⟩:=jbg F;have G:Hid (Bw w V):=E _ _ D (Nat.le_refl _);clear C A F H E D;go_enter Tryz.func42,Tryz.ntmps42;go_wp2_with fail
 exact bodyPost_ret (v:=.tuple #[.agg #[.int .i64 1,.int .i64 0,.slice none 0 0,.int .i64 0,.string ⟨#[]⟩,.int .i64 0,.int .i64 0,.slice none 0 0,.int .i64 0,.slice none 0 0],.int .i64 0]) (by simp[results,Tryz.f42,go_sem,L,M,N,O,P,Q,R,S,T,U]) rfl ⟨_,rfl,⟨_,⟨none,0,0,none,0,0,none,0,0⟩,rfl,rfl,jeE,jeE,jeE⟩,G.out⟩
theorem jxO (w:World):Calls Tryz.prog 42 #[.int .i64 3] w fun e w'=>∃ x,e=.returned (.tuple #[x,.int .i64 0])/\SkB w' x 3 0 (jdA 3)/\Bw w w':=by
 obtain⟨B,N,C,A,F,O⟩:=jas w zsV 44 #[.int .i64 3,.int .i64 0,.slice none 0 0,.int .i64 0,.string ⟨#[]⟩,.int .i64 0,.int .i64 0,.slice none 0 0,.int .i64 0,.slice none 0 0] 44;obtain⟨b,c1,c2,c3,c4,c5,c,d,f,g⟩:=jbg A;obtain⟨r,s,t,u,y,z,f6,f7,f8,f9⟩:=jft A;have h:B.setCell ⟨w.heap.size+1,1,none⟩ (.int .i64 0)=B:=jag A rfl;have i:B.setCell ⟨w.heap.size+1,2,none⟩ (.slice none 0 0)=B:=jag A rfl;have j:B.setCell ⟨w.heap.size+1,3,none⟩ (.int .i64 0)=B:=jag A rfl;have k:B.setCell ⟨w.heap.size+1,4,none⟩ (.string ⟨#[]⟩)=B:=jag A rfl;have l:B.setCell ⟨w.heap.size+1,5,none⟩ (.int .i64 0)=B:=jag A rfl;have m:B.setCell ⟨w.heap.size+1,6,none⟩ (.int .i64 0)=B:=jag A rfl;have n:B.setCell ⟨w.heap.size+1,7,none⟩ (.slice none 0 0)=B:=jag A rfl;have o:B.setCell ⟨w.heap.size+1,8,none⟩ (.int .i64 0)=B:=jag A rfl;have q:B.setCell ⟨w.heap.size+1,9,none⟩ (.slice none 0 0)=B:=jag A rfl;obtain⟨E,D⟩:∃ E,B.setCell ⟨w.heap.size+1,8,none⟩ (.int .i64 3)=E:=⟨_,rfl⟩;have J:E.heap[w.heap.size+1]? = some (.cells #[.int .i64 3,.int .i64 0,.slice none 0 0,.int .i64 0,.string ⟨#[]⟩,.int .i64 0,.int .i64 0,.slice none 0 0,.int .i64 3,.slice none 0 0] 44 (0,0)):=by rw[<- D];exact hSk A (.int .i64 3)
 replace C:E.heap[w.heap.size]? = some (.cells zsV 44 (0,0)):=by rw[<- D];exact (jaa (p:=⟨w.heap.size+1,8,none⟩) (by show w.heap.size+1≠w.heap.size;omega) _).trans C
 have G:Bw w E:=by rw[<- D];exact F.setCell (p:=⟨w.heap.size+1,8,none⟩) (Nat.le_succ _) _
 obtain⟨x0,x1,x2,x3,x4,x5,x6,x7,x8,x9⟩:=jbg J;obtain⟨r0,r1,r2,r3,r4,r5,r6,r7,r8,r9⟩:=jbg C;obtain⟨g0,g1,g2,g3,g4,g5,g6,g7,g8,g9⟩:=jft C;obtain⟨V,hV,I,M,H⟩:=ja9 (.int .i64 3) (.int .i64 0) (.slice none 0 0) (.int .i64 0) (.string ⟨#[]⟩) (.int .i64 0) (.int .i64 0) (.slice none 0 0) (.int .i64 3) (.slice none 0 0) C;obtain⟨P,Q,R,S,T,U,X,Y,Z,a⟩:=jbg I;have L:Hid (Bw w V):=H _ _ G (Nat.le_refl _);clear C A J I M H F G;go_enter Tryz.func42,Tryz.ntmps42;go_wp2_with fail;exact bodyPost_ret (v:=.tuple #[.agg #[.int .i64 3,.int .i64 0,.slice none 0 0,.int .i64 0,.string ⟨#[]⟩,.int .i64 0,.int .i64 0,.slice none 0 0,.int .i64 3,.slice none 0 0],.int .i64 0]) (by simp[results,Tryz.f42,go_sem,P,Q,R,S,T,U,X,Y,Z,a]) rfl ⟨_,rfl,⟨_,⟨none,0,0,none,0,0,none,0,0⟩,rfl,rfl,jeE,jeE,jeE⟩,L.out⟩
theorem jrA {i:Nat} (u:Int):(#[.int .i64 2,.int .i64 0,.slice none 0 0,.int .i64 0,.string ⟨#[]⟩,.int .i64 0,.int .i64 0,.slice none 0 0,.int .i64 0,.slice none 0 0]:Array Value)[i]? ≠ some (.int .u64 u):=by
 intro h;rcases i with _ | _ | _ | _ | _ | _ | _ | _ | _ | _ | i<;>simp at h
theorem jxN (w:World):Calls Tryz.prog 42 #[.int .i64 2] w fun e w'=>∃ x,e=.returned (.tuple #[x,.int .i64 0])/\SkB w' x 2 0 (jdA 2)/\Bw w w':=by
 obtain⟨C,Z,B,A,I,b⟩:=jas w zsV 44 #[.int .i64 2,.int .i64 0,.slice none 0 0,.int .i64 0,.string ⟨#[]⟩,.int .i64 0,.int .i64 0,.slice none 0 0,.int .i64 0,.slice none 0 0] 44;obtain⟨q,c1,c2,c3,c4,c5,r,s,t,y⟩:=jbg A;obtain⟨f0,f1,f2,f3,f4,f5,f6,f7,f8,f9⟩:=jft A;have z:C.setCell ⟨w.heap.size+1,1,none⟩ (.int .i64 0)=C:=jag A rfl;have e2:C.setCell ⟨w.heap.size+1,2,none⟩ (.slice none 0 0)=C:=jag A rfl;have e3:C.setCell ⟨w.heap.size+1,3,none⟩ (.int .i64 0)=C:=jag A rfl;have e4:C.setCell ⟨w.heap.size+1,4,none⟩ (.string ⟨#[]⟩)=C:=jag A rfl;have e5:C.setCell ⟨w.heap.size+1,5,none⟩ (.int .i64 0)=C:=jag A rfl;have e6:C.setCell ⟨w.heap.size+1,6,none⟩ (.int .i64 0)=C:=jag A rfl;have e7:C.setCell ⟨w.heap.size+1,7,none⟩ (.slice none 0 0)=C:=jag A rfl;have e8:C.setCell ⟨w.heap.size+1,8,none⟩ (.int .i64 0)=C:=jag A rfl;have e9:C.setCell ⟨w.heap.size+1,9,none⟩ (.slice none 0 0)=C:=jag A rfl;have Y:=Lib.hid (jtL C);have T:=Lib.hid B;have U:=Lib.hid A;have H:=Lib.hid I;clear B A I;go_enter Tryz.func42,Tryz.ntmps42;go_wp2_with fail;refine Y.out.mono ?_;rintro e Q ⟨g,rfl,X,a,D⟩;have A:=known D (Nat.le_refl _) U.out;have B:=known D (Nat.le_refl _) T.out;obtain⟨x0,x1,x2,x3,x4,x5,x6,x7,x8,x9⟩:=jbg A;obtain⟨y0,y1,y2,y3,y4,y5,y6,y7,y8,y9⟩:=jft A;obtain⟨E,G⟩:∃ E,((Q.setCell ⟨w.heap.size+1,5,none⟩ (.int .i64 2)).setCell ⟨w.heap.size+1,6,none⟩ (.int .i64 32)).setCell ⟨w.heap.size+1,7,none⟩ (.slice (some ⟨g,0,none⟩) 64 64)=E:=⟨_,rfl⟩
 have O:E.heap[w.heap.size+1]? = some (.cells #[.int .i64 2,.int .i64 0,.slice none 0 0,.int .i64 0,.string ⟨#[]⟩,.int .i64 2,.int .i64 32,.slice (some ⟨g,0,none⟩) 64 64,.int .i64 0,.slice none 0 0] 44 (0,0)):=by rw[<- G];exact hSk (hSk (hSk A (.int .i64 2)) (.int .i64 32)) (.slice (some ⟨g,0,none⟩) 64 64)
 have F:OnlyAt (w.heap.size+1) Q E:=by rw[<- G];exact (((OnlyAt.refl _ _).set _ _).set _ _).set _ _
 have J:Bw w E:=by rw[<- G];exact (((H.out.trans (D.mono H.out.size)).setCell (p:=⟨w.heap.size+1,5,none⟩) (Nat.le_succ _) _).setCell (p:=⟨w.heap.size+1,6,none⟩) (Nat.le_succ _) _).setCell (p:=⟨w.heap.size+1,7,none⟩) (Nat.le_succ _) _
 replace B:=(F.2 w.heap.size (by omega)).trans B;have P:SlC jaF 1 Q.heap.size Q (some ⟨g,0,none⟩) 64 64 (List.replicate 64 0):=jg4 X (by simp) (by unfold maxLen;omega);replace P:SlC jaF 1 E.heap.size E (some ⟨g,0,none⟩) 64 64 (List.replicate 64 0):=ja5 (i0:=0) (by decide) (fun x=>⟨x,rfl⟩) A (fun i u=>jrA u) F P;obtain⟨z0,z1,z2,z3,z4,z5,z6,z7,z8,z9⟩:=jbg O;obtain⟨r0,r1,r2,r3,r4,r5,r6,r7,r8,r9⟩:=jbg B;obtain⟨g0,g1,g2,g3,g4,g5,g6,g7,g8,g9⟩:=jft B;obtain⟨V,hV,N,M,L⟩:=ja9 (.int .i64 2) (.int .i64 0) (.slice none 0 0) (.int .i64 0) (.string ⟨#[]⟩) (.int .i64 2) (.int .i64 32) (.slice (some ⟨g,0,none⟩) 64 64) (.int .i64 0) (.slice none 0 0) B;obtain⟨c,d,f,h,j,k,l,m,n,o⟩:=jbg N;have R:Hid (Bw w V):=L _ _ J (Nat.le_refl _);have S:Hid (SlC jaF 1 V.heap.size V (some ⟨g,0,none⟩) 64 64 (List.replicate 64 0)):=ja5 (i0:=0) (by decide) (fun x=>⟨x,rfl⟩) B (fun i u=>jcd u) M P;clear X a B A O N M L J F P D;go_wp2_with fail;exact bodyPost_ret (v:=.tuple #[.agg #[.int .i64 2,.int .i64 0,.slice none 0 0,.int .i64 0,.string ⟨#[]⟩,.int .i64 2,.int .i64 32,.slice (some ⟨g,0,none⟩) 64 64,.int .i64 0,.slice none 0 0],.int .i64 0]) (by simp[results,Tryz.f42,go_sem,c,d,f,h,j,k,l,m,n,o]) rfl ⟨_,rfl,⟨_,⟨none,0,0,some ⟨g,0,none⟩,64,64,none,0,0⟩,rfl,rfl,jeE,S.out,jeE⟩,R.out⟩
theorem ju9 (n:Int) (h1:(n==1)=false) (h2:(n==2)=false) (h3:(n==3)=false) (w:World):CR 42 #[.int .i64 n] w (.tuple #[.agg zsV,.int .i64 101]):=by
 obtain⟨B,F,C,A,D,G⟩:=jas w zsV 44 #[.int .i64 n,.int .i64 0,.slice none 0 0,.int .i64 0,.string ⟨#[]⟩,.int .i64 0,.int .i64 0,.slice none 0 0,.int .i64 0,.slice none 0 0] 44;obtain⟨S,c1,c2,c3,c4,c5,T,U,V,X⟩:=jbg A;obtain⟨s,t,u,x,y,z,f6,f7,f8,f9⟩:=jft A;have i:B.setCell ⟨w.heap.size+1,1,none⟩ (.int .i64 0)=B:=jag A rfl;have j:B.setCell ⟨w.heap.size+1,2,none⟩ (.slice none 0 0)=B:=jag A rfl;have k:B.setCell ⟨w.heap.size+1,3,none⟩ (.int .i64 0)=B:=jag A rfl;have l:B.setCell ⟨w.heap.size+1,4,none⟩ (.string ⟨#[]⟩)=B:=jag A rfl;have m:B.setCell ⟨w.heap.size+1,5,none⟩ (.int .i64 0)=B:=jag A rfl;have o:B.setCell ⟨w.heap.size+1,6,none⟩ (.int .i64 0)=B:=jag A rfl;have p:B.setCell ⟨w.heap.size+1,7,none⟩ (.slice none 0 0)=B:=jag A rfl;have q:B.setCell ⟨w.heap.size+1,8,none⟩ (.int .i64 0)=B:=jag A rfl;have r:B.setCell ⟨w.heap.size+1,9,none⟩ (.slice none 0 0)=B:=jag A rfl;obtain⟨H,I,J,L,M,N,O,P,Q,R⟩:=jbg C;obtain⟨g0,g1,g2,g3,g4,g5,g6,g7,g8,g9⟩:=jft C;obtain⟨Y,Z,a,b,c,d,e,f,g,h⟩:=jxL C;have E:=Lib.hid D;clear C A D;go_enter Tryz.func42,Tryz.ntmps42;go_wp2_with fail;exact bodyPost_ret (v:=.tuple #[.agg zsV,.int .i64 101]) (by simp[results,Tryz.f42,go_sem,H,I,J,L,M,N,O,P,Q,R]) rfl ⟨rfl,E.out⟩
def jil (i:Nat × Int):List Value:=[.int .u64 i.1,.int .u64 i.2]
theorem jpU (k:Nat) (A:k=1\/k=2\/k=3) (w:World):Calls Tryz.prog 42 #[.int .i64 k] w fun e w'=>∃ x,e=.returned (.tuple #[x,.int .i64 0])/\SkB w' x k 0 (jdA k)/\Bw w w':=by
 rcases A with rfl | rfl | rfl
 ·exact jxM w
 ·exact jxN w
 ·exact jxO w
theorem jdP {W V:World} {y:Sk} {s:SS} (h:s.At W.heap.size W y) {b:Nat} {D:Array Value} {t:TypeId} (B:W.heap[b]? = some (.cells D t (0,0))) (C:∀ (i:Nat) (u:Int),D[i]? ≠ some (Value.int .u64 u)) (A:OnlyAt b W V):s.At V.heap.size V y :=
 ⟨ja5 (i0:=0) (by decide) (fun x=>⟨x,rfl⟩) B C A h.e,ja5 (i0:=0) (by decide) (fun x=>⟨x,rfl⟩) B C A h.c,ja5 (i0:=1) (by decide) (fun x=>⟨x.2,rfl⟩) B C A h.g⟩
theorem jvR {kind:Int} (h:jcm kind=false) (w:World):CR 42 #[.int .i64 kind] w (.tuple #[.agg zsV,.int .i64 101]):=by
 simp only[jcm,Bool.or_eq_false_iff] at h;exact ju9 kind h.1.1 h.1.2 h.2 w
theorem jsr (E:Value) (s:ByteArray) (kind:Int) (C:Option Addr) (n D:Nat) (w:World) (A:50<n) (B:n<4294967296) :
  Calls Tryz.prog 21 #[E,.string s,.int .i64 kind,.slice C n D] w fun e w'=>e=.returned (.tuple #[.slice none 0 0,.int .i64 181])/\w'=w:=by
 have F:decide ((50:Int)<(n:Int))=true:=decide_eq_true (by omega);clear A;go_enter Tryz.func21,Tryz.ntmps21;go_wp2_with fail;refine bodyPost_ret (v:=.tuple #[.slice none 0 0,.int .i64 181]) (by simp[results,Tryz.results21,go_sem]) rfl ?_;exact⟨rfl,rfl⟩
theorem jst (M:Value) (s:ByteArray) (kind:Int) (J:Option Addr) (n L:Nat) (w:World) (I:n<=50) (H:s.size<4294967281) (F:GW w) (G:jbP s=none) :
  CR 21 #[M,.string s,.int .i64 kind,.slice J n L] w (.tuple #[.slice none 0 0,.int .i64 40]):=by
 have O:decide ((50:Int)<(n:Int))=false:=decide_eq_false (by omega);have D:=Lib.hid (jhb s w H F)
 have A:Hid (∀ e w',jbt s w e w'->e=.returned (.tuple #[.slice none 0 0,.int .i64 40])/\Bw w w'):=fun e w' h=>by
  rw[jbt,G] at h;exact⟨h.2,h.1⟩
 generalize jbt s w=E at D A;clear I H F G;go_enter Tryz.func21,Tryz.ntmps21;go_wp2_with (go_at_call 41;refine (D.out).mono ?_;intro e N B;obtain⟨rfl,C⟩:=A.out e N B;clear B);refine bodyPost_ret (v:=.tuple #[.slice none 0 0,.int .i64 40]) (by simp[results,Tryz.results21,go_sem]) rfl ?_;exact⟨rfl,C⟩
theorem ji2 {s:ByteArray} {l:List Lab} {w:World} (F:jbP s=some l) {e:Ending} {w':World} (h:jbt s w e w'):∃ a c,e=.returned (.tuple #[.slice a l.length c,.int .i64 0])/\Hid (SlC Lab.enc 2 w'.heap.size w' a l.length c l)/\Hid (∀ z,a=some z->w.heap.size<=z.block)/\Hid (jcK l/\jai l=true)/\Bw w w':=by
 rw[jbt,F] at h;obtain⟨hb,a,c,A,B,C,D,E⟩:=h;exact⟨a,c,A,B,C,⟨D,E⟩,hb⟩
theorem jsp (d:Value) (s:ByteArray) (kind:Int) (b:Option Addr) (n c:Nat) (w:World) (Z:n<=50) (R:s.size<4294967281) (O:GW w) {l:List Lab} (Q:jbP s=some l) (P:jcm kind=false) :
  CR 21 #[d,.string s,.int .i64 kind,.slice b n c] w (.tuple #[.slice none 0 0,.int .i64 101]):=by
 have h1:decide ((50:Int)<(n:Int))=false:=decide_eq_false (by omega);have N:=Lib.hid (jhb s w R O);have D:=Lib.hid (fun e w'=>ji2 (w:=w) Q (e:=e) (w':=w'));have T:=Lib.hid (jvR P);generalize jbt s w=E at N D;clear Z R O Q P;go_enter Tryz.func21,Tryz.ntmps21;go_wp2_with (go_at_call 41;refine (N.out).mono ?_;intro e f H;obtain⟨la,lc,rfl,h,U,S,B⟩:=D.out e f H;clear H);refine (T.out _).mono ?_;rintro e g ⟨rfl,C⟩;obtain⟨X,Y,A,F,a⟩:=jab g zsV 44;have I:Hid (Bw w X):=B.trans ((C.trans (F.mono C.size)).mono B.size);obtain⟨i,c1,c2,c3,c4,c5,j,k,m,o⟩:=jbg A;obtain⟨p,q,r,t,u,x,y,z,f8,f9⟩:=jft A;obtain⟨V,hV,M,L,G⟩:=ja9 (.int .i64 0) (.int .i64 0) (.slice none 0 0) (.int .i64 0) (.string ⟨#[]⟩) (.int .i64 0) (.int .i64 0) (.slice none 0 0) (.int .i64 0) (.slice none 0 0) A;have J:Hid (Bw w V):=G _ _ I.out (Nat.le_trans B.size C.size);clear A F C B M L G;go_wp2_with fail;refine bodyPost_ret (v:=.tuple #[.slice none 0 0,.int .i64 101]) (by simp[results,Tryz.results21,go_sem]) rfl ?_;exact⟨rfl,J.out⟩
def TakePost (R:Except Int (List Ser × List Nat)) (p:TnP) (b:Nat) (w:World) (e:Ending) (w':World):Prop :=
 Kept (· ≠ b) w w'/\match R with
  | .error n=>(∃ va vc,e=.returned (.tuple #[.slice va 0 vc,.int .i64 n]))/\∃ m ta tc,w'.heap[b]? = some (.cells { p with m:=m,ta:=ta,tc:=tc }.vals 81 (0,0))
  | .ok r=>∃ m ta tc pa pc,e=.returned (.tuple #[.slice pa r.2.length pc,.int .i64 0])/\TnIn w' b { p with m:=m,ta:=ta,tc:=tc }/\m.map (·.1)=r.1/\(∀ z,ta=some z->w.heap.size<=z.block)/\(∀ e∈m,e.2.Off (w.heap.size <= ·))/\SlC jhr 1 w'.heap.size w' pa r.2.length pc r.2/\∀ z,pa=some z->w.heap.size<=z.block
theorem TakePost.no {p:TnP} {b:Nat} {w w':World} {n:Int} (h:TnIn w b p) (hb:Bw w w') {A:Option Addr} {B:Nat}:TakePost (.error n) p b w (.returned (.tuple #[.slice A 0 B,.int .i64 n])) w' :=
 ⟨.of hb,⟨A,B,rfl⟩,p.m,p.ta,p.tc,known hb (Nat.le_refl _) h.box⟩
def SkIn (s:Nat × Bd) (k sb:Nat) (w:World) (y:Sk) (t:SS) (W:World):Prop:=y=jcy k s.1 s.2/\W.heap[sb]? = some (.cells (skv y t) 44 (0,0))/\t.At W.heap.size W y/\Bw w W
theorem SkIn.go {s:Nat × Bd} {k B:Nat} {w W A:World} {y:Sk} {t:SS} (h:SkIn s k B w y t W) (hb:Bw W A):SkIn s k B w y t A:=⟨h.1,known hb (Nat.le_refl _) h.2.1,h.2.2.1.go hb,h.2.2.2.trans (hb.mono h.2.2.2.size)⟩
theorem SkIn.store {s s':Nat × Bd} {k A:Nat} {w W:World} {y z:Sk} {t u:SS} (h:SkIn s k A w y t W) (hb:w.heap.size<=A) (H:z=jcy k s'.1 s'.2) (G:u.At W.heap.size W z) :
  ∃ V,(((((((((W.setCell ⟨A,0,none⟩ (.int .i64 z.kind)).setCell ⟨A,1,none⟩ (.int .i64 z.level)).setCell ⟨A,2,none⟩ (.slice u.ea u.el u.ec)).setCell ⟨A,3,none⟩ (.int .i64 z.hb)).setCell ⟨A,4,none⟩ (.string z.hr)).setCell ⟨A,5,none⟩ (.int .i64 z.cr)).setCell ⟨A,6,none⟩ (.int .i64 z.cc)).setCell ⟨A,7,none⟩ (.slice u.ca u.cl u.cc)).setCell ⟨A,8,none⟩ (.int .i64 z.gf)).setCell ⟨A,9,none⟩ (.slice u.ga u.gl u.gc)=V/\SkIn s' k A w z u V/\Apart A W V:=by
 obtain⟨V,E,D,B,C⟩:=ja9 (.int .i64 z.kind) (.int .i64 z.level) (.slice u.ea u.el u.ec) (.int .i64 z.hb) (.string z.hr) (.int .i64 z.cr) (.int .i64 z.cc) (.slice u.ca u.cl u.cc) (.int .i64 z.gf) (.slice u.ga u.gl u.gc) h.2.1;exact⟨V,E,⟨H,D,jdP G h.2.1 (fun i v=>jvr y t v) B,C _ _ h.2.2.2 hb⟩,Nat.le_of_eq B.1.symm,fun j _ F=>B.2 j F⟩
theorem SkIn.cells {s:Nat × Bd} {k A:Nat} {w W:World} {y:Sk} {t:SS} (h:SkIn s k A w y t W):W.cell? ⟨A,0,none⟩=some (.int .i64 y.kind)/\W.cell? ⟨A,1,none⟩=some (.int .i64 y.level)/\W.cell? ⟨A,2,none⟩=some (.slice t.ea t.el t.ec)/\W.cell? ⟨A,3,none⟩=some (.int .i64 y.hb)/\W.cell? ⟨A,4,none⟩=some (.string y.hr)/\W.cell? ⟨A,5,none⟩=some (.int .i64 y.cr)/\W.cell? ⟨A,6,none⟩=some (.int .i64 y.cc)/\W.cell? ⟨A,7,none⟩=some (.slice t.ca t.cl t.cc)/\W.cell? ⟨A,8,none⟩=some (.int .i64 y.gf)/\W.cell? ⟨A,9,none⟩=some (.slice t.ga t.gl t.gc) :=
 ⟨cCc h.2.1 0,cCc h.2.1 1,cCc h.2.1 2,cCc h.2.1 3,cCc h.2.1 4,cCc h.2.1 5,cCc h.2.1 6,cCc h.2.1 7,cCc h.2.1 8,cCc h.2.1 9⟩
theorem SkIn.frozen {s:Nat × Bd} {k A:Nat} {w W:World} {y:Sk} {t:SS} (h:SkIn s k A w y t W):W.frozen? ⟨A,0,none⟩=false/\W.frozen? ⟨A,1,none⟩=false/\W.frozen? ⟨A,2,none⟩=false/\W.frozen? ⟨A,3,none⟩=false/\W.frozen? ⟨A,4,none⟩=false/\W.frozen? ⟨A,5,none⟩=false/\W.frozen? ⟨A,6,none⟩=false/\W.frozen? ⟨A,7,none⟩=false/\W.frozen? ⟨A,8,none⟩=false/\W.frozen? ⟨A,9,none⟩=false :=
 ⟨cFz h.2.1 0,cFz h.2.1 1,cFz h.2.1 2,cFz h.2.1 3,cFz h.2.1 4,cFz h.2.1 5,cFz h.2.1 6,cFz h.2.1 7,cFz h.2.1 8,cFz h.2.1 9⟩
theorem jsq (p:TnP) (b:Nat) (s:ByteArray) (k:Nat) (A:List (Nat × Int)) (ia:Option Addr) (ic:Nat) (w:World) (h:TnIn w b p) (hG:GW w) (hg:GT w) (hs:s.size<4294967281) (hI:SlE jil 2 w.heap.size w ia A.length A) (hA:jef A) (hr:jlM p.tab A.length) (hn:A.length<=50) {l:List Lab} (hp:jbP s=some l) (hk:k=1\/k=2\/k=3) :
  Calls Tryz.prog 21 #[.pointer (some ⟨b,0,none⟩),.string s,.int .i64 (k:Int),.slice ia A.length ic] w (TakePost (jdL p.tab p.tm p.bud (k:Int) A l) p b w):=by
 have h1:decide ((50:Int)<(A.length:Int))=false:=decide_eq_false (by omega);have HP:=Lib.hid (jhb s w hs hG);have au:=Lib.hid (fun e w'=>ji2 (w:=w) hp (e:=e) (w':=w'));have HN:=Lib.hid (jpU k hk);have HT:=Lib.hid h
 have HR:Hid (jdL p.tab p.tm p.bud (k:Int) A l=if jdC p.tab l (k:Int) then .error 101 else
  if jce p.tab (jed p.tab l k p.tm A) then (match fit p.bud (jf3 p.tab (jed p.tab l k p.tm A)) with
   | some r=>.ok r
   | none=>.error 130) else .error 120):=by
  have e:jcm (k:Int)=true:=by rcases hk with rfl | rfl | rfl<;>rfl
  rw[Hid,jdL,if_pos e];rfl
 have aF:Hid (∀ (W:World) (a:Option Addr) (c:Nat),Bw w W->SlC Lab.enc 2 W.heap.size W a l.length c l->CR 43 #[.slice p.ta p.m.length p.tc,.slice a l.length c] W (.tuple #[.int .i64 (jam p.tab l:Int),.bool (jax p.tab l)])):=fun W a c hb hl=>by
  have h5:=h.go hb;have h6:=jeC p.m p.ta p.m.length p.tc l a l.length c W h5.at_.tab h5.at_.fit (hG.below hb) hl.1 (Nat.le_trans hl.2.1 hl.2.2.1);rw[show jaj (p.m.map (·.1))=true from h.at_.qt.right] at h6;exact h6
 have aH:Hid (∀ x,jmE p.tab l=some x->∃ P G off,Hid (p.m[jam p.tab l]? = some (x,P))/\p.ta=some ⟨G,off,none⟩/\jam p.tab l<p.m.length/\Hid (∀ W,Bw w W->(∀ i,i<12->W.cell? ⟨G,off+jam p.tab l*12+i,none⟩=(ja0 (x,P))[i]?)/\P.ss.At W.heap.size W x.sk)):=fun x I=>by
  unfold jmE at I;split at I
  case isFalse=>cases I
  have bd:(p.m.map (·.1))[jam p.tab l]? = some x:=I;rw[List.getElem?_map] at bd;obtain⟨⟨x',P⟩,he,aN⟩:=Option.map_eq_some_iff.1 bd;have aN:x'=x:=aN;subst aN;obtain⟨G,off,O,bF,bw⟩:=h.at_.tab.row.1.2 _ _ he;refine⟨P,G,off,he,O,(List.getElem?_eq_some_iff.1 he).1,fun W hb=>⟨fun i hi=>(hb.cell (p:=⟨G,off+jam p.tab l*12+i,none⟩) bF).trans (bw i hi),((h.at_.tab.at_ _ (List.mem_of_getElem? he)).go hb).s⟩⟩
 have bu:=h.lt
 have f:Hid (∀ W,Bw w W->W.cell? ⟨b,0,none⟩=some (.slice p.ta p.m.length p.tc)/\W.cell? ⟨b,5,none⟩=some (.int .u64 p.tm)/\W.cell? ⟨b,7,none⟩=some (.int .i64 p.bud)/\W.frozen? ⟨b,0,none⟩=false):=fun W hb=>by
  have I:=(h.go hb).box;exact⟨cCc I 0,cCc I 5,cCc I 7,cFz I 0⟩
 have HE:Hid (∀ n,jdL p.tab p.tm p.bud (k:Int) A l=.error n->∀ W,Bw w W->TakePost (jdL p.tab p.tm p.bud (k:Int) A l) p b w (.returned (.tuple #[.slice none 0 0,.int .i64 n])) W):=fun n e W hb=>by rw[e];exact TakePost.no h hb
 cases hc:jdC p.tab l (k:Int) with
 | true =>
  have HF:=Lib.hid (HE.out 101 (by rw[HR.out,hc];exact if_pos rfl));have HC:=Lib.hid hc;generalize TakePost (jdL p.tab p.tm p.bud (k:Int) A l) p b w=Q at HF ⊢;generalize jbt s w=E at HP au
  have ad:jax p.tab l=true:=by
   cases e:jax p.tab l with
   | true=>rfl
   | false=>have:=HC.out;rw[jdC,jlj e] at this;cases this
  obtain⟨x,-,ac⟩:=jlk ad;obtain⟨P,G,off,bo,O,az,aI⟩:=aH.out x ac;have bq:=Lib.hid O;have bz:(x.sk.kind==(k:Int))=false:=by have:=HC.out;rw[jdC,ac] at this;simpa using this
  clear hn hs hG hp hk hc hg hI hA hr h HR HE ac O;go_enter Tryz.func21,Tryz.ntmps21;go_wp2_with (go_at_call 41;refine (HP.out).mono ?_;intro e w1 ap;obtain⟨la,lc,rfl,HS,aU,ar,T⟩:=au.out e w1 ap;clear ap);refine (HN.out _).mono ?_;rintro e o ⟨x2,rfl,⟨Z,R,aq,rfl,al⟩,D⟩;obtain⟨W3,aY,M,S,bb⟩:=jab o zsV 44;have aE:Hid (Bw w W3):=T.trans ((D.trans (S.mono D.size)).mono T.size);obtain⟨c0,c1,c2,c3,c4,c5,c6,c7,c8,c9⟩:=jbg M;obtain⟨f0,f1,f2,f3,f4,f5,f6,f7,f8,f9⟩:=jft M;obtain⟨V,hV,ao,an,aa⟩:=ja9 (.int .i64 Z.kind) (.int .i64 Z.level) (.slice R.ea R.el R.ec) (.int .i64 Z.hb) (.string Z.hr) (.int .i64 Z.cr) (.int .i64 Z.cc) (.slice R.ca R.cl R.cc) (.int .i64 Z.gf) (.slice R.ga R.gl R.gc) M;have U:=Nat.le_trans T.size D.size;have d:Hid (SkIn (0,jdA k) k o.heap.size w Z R V):=⟨aq,ao,jdP (al.go S) M (fun i u=>jcd u) an,aa _ _ aE.out U⟩
  have ah:Hid (SlC Lab.enc 2 V.heap.size V la l.length lc l):=by
   have j:Bw w1 V:=aa _ _ (D.trans (S.mono D.size)) D.size;exact (HS.out.below j).mono j.size
  obtain⟨t0,-,-,-⟩:=f.out V d.out.2.2.2;clear M S D T ao an aa aq al
  go_wp2_with
   (go_at_call 43
    refine (aF.out _ _ _ d.out.2.2.2 ah.out).mono ?_;rintro e F ⟨rfl,N⟩;have C:=Lib.hid (d.out.go N);obtain⟨t5,-,-,-⟩:=f.out F C.out.2.2.2;rw[bq.out] at t5;obtain⟨H,-⟩:=aI.out F C.out.2.2.2;have x0:F.cell? ⟨G,off+jam p.tab l*12,none⟩=some (.slice P.la P.ll P.lc):=H 0 (by omega);have x1:F.cell? ⟨G,off+jam p.tab l*12+1,none⟩=some (.int .i64 x.sk.kind):=H 1 (by omega);have x2:F.cell? ⟨G,off+jam p.tab l*12+2,none⟩=some (.int .i64 x.sk.level):=H 2 (by omega);have x3:F.cell? ⟨G,off+jam p.tab l*12+3,none⟩=some (.slice P.ss.ea P.ss.el P.ss.ec):=H 3 (by omega);have x4:F.cell? ⟨G,off+jam p.tab l*12+4,none⟩=some (.int .i64 x.sk.hb):=H 4 (by omega);have x5:F.cell? ⟨G,off+jam p.tab l*12+5,none⟩=some (.string x.sk.hr):=H 5 (by omega);have x6:F.cell? ⟨G,off+jam p.tab l*12+6,none⟩=some (.int .i64 x.sk.cr):=H 6 (by omega);have x7:F.cell? ⟨G,off+jam p.tab l*12+7,none⟩=some (.int .i64 x.sk.cc):=H 7 (by omega);have x8:F.cell? ⟨G,off+jam p.tab l*12+8,none⟩=some (.slice P.ss.ca P.ss.cl P.ss.cc):=H 8 (by omega);have x9:F.cell? ⟨G,off+jam p.tab l*12+9,none⟩=some (.int .i64 x.sk.gf):=H 9 (by omega);have bI:F.cell? ⟨G,off+jam p.tab l*12+10,none⟩=some (.slice P.ss.ga P.ss.gl P.ss.gc):=H 10 (by omega);have bJ:F.cell? ⟨G,off+jam p.tab l*12+11,none⟩=some (.int .u64 x.seen):=H 11 (by omega);obtain⟨k0,k1,k2,k3,k4,k5,k6,k7,k8,k9⟩:=C.out.cells;obtain⟨f0,f1,f2,f3,f4,f5,f6,f7,f8,f9⟩:=C.out.frozen
    obtain⟨V6,aL,-,-,aD⟩:=ja9 (.int .i64 x.sk.kind) (.int .i64 x.sk.level) (.slice P.ss.ea P.ss.el P.ss.ec) (.int .i64 x.sk.hb) (.string x.sk.hr) (.int .i64 x.sk.cr) (.int .i64 x.sk.cc) (.slice P.ss.ca P.ss.cl P.ss.cc) (.int .i64 x.sk.gf) (.slice P.ss.ga P.ss.gl P.ss.gc) C.out.2.1;have bi:Hid (Bw w V6):=aD _ _ C.out.2.2.2 U;have g0:V6.cell? ⟨o.heap.size,0,none⟩=some (.int .i64 x.sk.kind):=by rw[<- aL];exact cCc (jwM C.out.2.1) 0
    clear H N aD)
  exact HF.out _ bi.out
 | false =>
  have bc:=jn4 (fun x I=>h.at_.qt.good x I) hk hc
  have aA:Hid (∀ (m:Nat) (x:Nat × Int) (W:World) (sb:Nat) (y:Sk) (t:SS),A[m]? = some x->SkIn ((A.take m).foldl jba (jbd p.tab l k)) k sb w y t W->∀ W5,Bw W W5->Calls Tryz.prog 44 #[.agg (skv y t),.agg #[.int .u64 x.1,.int .u64 x.2]] W5 fun e w'=>∃ (z:Sk) (u:SS),e=.returned (.tuple #[.agg (skv z u),.int .i64 0])/\Hid (z=jcy k ((A.take (m+1)).foldl jba (jbd p.tab l k)).1 ((A.take (m+1)).foldl jba (jbd p.tab l k)).2)/\Hid (u.At w'.heap.size w' z)/\Bw W5 w'):=fun m x W sb y t I hS W5 N=>by
   have be:=hA x (List.mem_of_getElem? I);have bB:=jme (A.take m) (fun i hi=>hA i (List.mem_of_mem_take hi)) bc;have hb:=hS.2.2.2.trans (N.mono hS.2.2.2.size);refine (jvJ (h:=x.1) (n:=x.2) bB be.1 be.2 (hg.go hb) ⟨y,t,hS.1,rfl,hS.2.2.1.go N⟩).mono ?_;rintro e w' ⟨v,rfl,⟨z,u,L,rfl,hu⟩,aM⟩;refine⟨z,u,rfl,?_,hu,aM⟩;rw[Hid,L,jaf I,List.foldl_append];rfl
  have HX:Hid (p.m.map (·.1)=p.tab):=rfl;obtain⟨X,hX⟩:∃ X,jed p.tab l k p.tm A=X:=⟨_,rfl⟩
  have aC:Hid (∀ (W:World) (a:Option Addr) (c sb:Nat) (y:Sk) (t:SS),SlC Lab.enc 2 W.heap.size W a l.length c l->jcK l/\jai l=true->SkIn (A.foldl jba (jbd p.tab l k)) k sb w y t W->Calls Tryz.prog 45 #[.slice p.ta p.m.length p.tc,.agg #[.slice a l.length c,.int .i64 y.kind,.int .i64 y.level,.slice t.ea t.el t.ec,.int .i64 y.hb,.string y.hr,.int .i64 y.cr,.int .i64 y.cc,.slice t.ca t.cl t.cc,.int .i64 y.gf,.slice t.ga t.gl t.gc,.int .u64 p.tm]] W (jhc p.tab X W)):=fun W a c sb y t hl h2 hS=>by
   have hq:=jjh (fun x I=>h.at_.qt.good x I) hk hc hA hr (by omega) h2.1 h2.2 h.at_.tm;have hP:SerP.At ⟨a,l.length,c,t⟩ W.heap.size W ⟨l,y,p.tm⟩:=⟨hl,hS.2.2.1⟩;have a0:X=⟨l,y,p.tm⟩:=by rw[<- hX,hS.1];rfl
   rw[hX,a0] at hq;have h5:=h.go hS.2.2.2;rw[a0];exact jiu p.m p.ta p.m.length p.tc ⟨l,y,p.tm⟩ ⟨a,l.length,c,t⟩ W h5.at_.tab h5.at_.fit hP (hq.1.fine.serFit hP) (hG.below hS.2.2.2)
  have ae:Hid (jce p.tab X=false->∀ W,Bw w W->TakePost (jdL p.tab p.tm p.bud (k:Int) A l) p b w (.returned (.tuple #[.slice none 0 0,.int .i64 120])) W):=fun e=>HE.out 120 (by rw[HR.out,hc,hX,e];exact (if_neg (by decide)).trans (if_neg (by decide)))
  have aG:Hid ((jcK l/\jai l=true)/\jce p.tab X=true->QT (jf3 p.tab X)/\jdL p.tab p.tm p.bud (k:Int) A l=match fit p.bud (jf3 p.tab X) with
   | some r=>.ok r
   | none=>.error 130):=fun e=>by
   have hq:=jjh (fun x I=>h.at_.qt.good x I) hk hc hA hr (by omega) e.1.1 e.1.2 h.at_.tm;rw[hX] at hq;exact⟨jxv h.at_.qt hq.1 e.2,by rw[HR.out,hc,hX,e.2];exact (if_neg (by decide)).trans (if_pos rfl)⟩
  have aR:Hid (∀ (W:World) (a1:Option Addr) (c1:Nat) (Y:List (Ser × SerP)),(jcK l/\jai l=true)/\jce p.tab X=true->Bw w W->Tab W.heap.size W a1 Y.length c1 Y->Y.map (·.1)=jf3 p.tab X->Calls Tryz.prog 46 #[.slice a1 Y.length c1,.int .i64 p.bud] W (FitPost p.bud (jf3 p.tab X) W)):=fun W a1 c1 Y ho hb aW bx=>by
   have hq:=(aG.out ho).1;rw[<- bx] at hq ⊢;exact jvO p.bud Y a1 Y.length c1 W aW (jeG aW hq.fine) (fun _=>hq) (hG.below hb)
  have af:Hid (∀ (W W':World) (e:Ending),(jcK l/\jai l=true)/\jce p.tab X=true->Bw w W->FitPost p.bud (jf3 p.tab X) W e W'->∃ (ta:Option Addr) (tn tc:Nat) (pa:Option Addr) (pn pc:Nat) (n:Int),e=.returned (.tuple #[.slice ta tn tc,.slice pa pn pc,.int .i64 n])/\W'.cell? ⟨b,0,none⟩=some (.slice p.ta p.m.length p.tc)/\W'.frozen? ⟨b,0,none⟩=false/\Hid (TakePost (jdL p.tab p.tm p.bud (k:Int) A l) p b w (.returned (.tuple #[.slice pa pn pc,.int .i64 n])) (W'.setCell ⟨b,0,none⟩ (.slice ta tn tc)))):=fun W W' e ho hb hF=>by
   obtain⟨hq,hR⟩:=aG.out ho;obtain⟨m,ta,tc,pa,pc,rfl,hT,hm,O,bA,a8,ba,aM⟩:=hF;have av:=hb.trans (aM.mono hb.size);obtain⟨z0,-,-,z1⟩:=f.out W' av;refine⟨ta,m.length,tc,pa,_,pc,_,rfl,z0,z1,?_⟩;have ay:Kept (· ≠ b) W' (W'.setCell ⟨b,0,none⟩ (.slice ta m.length tc)):=Kept.refl.set (fun _ h=>h rfl) _ _;have a4:Kept (· ≠ b) w (W'.setCell ⟨b,0,none⟩ (.slice ta m.length tc)):=Kept.trans (.of av) ay;have I:=(h.go av).box;have bK:b<W.heap.size:=Nat.lt_of_lt_of_le bu hb.size;have U:=hb.size;rw[Hid,hR]
   cases hf:fit p.bud (jf3 p.tab X) with
   | none =>
    have e:jc2 p.bud (jf3 p.tab X)=([],[],130):=by unfold jc2;rw[hq.right,h.at_.bud,hf];rfl
    rw[e];exact⟨a4,⟨pa,pc,rfl⟩,m,ta,tc,hSk I _⟩
   | some r =>
    have e:jc2 p.bud (jf3 p.tab X)=(r.1,r.2,0):=by unfold jc2;rw[hq.right,h.at_.bud,hf];rfl
    rw[e] at hm a8 ⊢;have bC:QT (m.map (·.1)):=by rw[hm];exact (jt1 _ _ hq r.1 r.2 hf).qt
    have aO:∀ e∈m,e.2.Off (W.heap.size <= ·):=fun e he=>(bA e he).imp fun k hk=>hk.1
    have h1:=(h.go av).at_.keep ay h.off;refine⟨a4,m,ta,tc,pa,pc,rfl,⟨hSk I _,⟨hT.keep ay (fun z L _=>by have:=O z L;show z.block≠b;omega) (fun e he=>(aO e he).imp fun k hk=>by omega),bC,h1.log,h1.ok,h1.bef,h1.tm,h1.bud⟩,⟨fun z L _=>by have:=O z L;show z.block≠b;omega,fun e he=>(aO e he).imp fun k hk=>by omega,h.off.l⟩⟩,hm,fun z L=>Nat.le_trans U (O z L),fun e he=>(aO e he).imp fun k hk=>by omega,a8.keep ay (fun z L _=>by have:=ba z L;show z.block≠b;omega),fun z L=>Nat.le_trans U (ba z L)⟩
  have HC:=Lib.hid hc;have bk:Hid (∀ x∈p.tab,x.good):=fun x I=>h.at_.qt.good x I
  generalize TakePost (jdL p.tab p.tm p.bud (k:Int) A l) p b w=Q at ae af ⊢;generalize jbt s w=E at HP au;have HI:=Lib.hid hI;have aS:=Lib.hid hn;clear hn hs hG hp hk hc hg hA hr h HR HE hI hX bc;go_enter Tryz.func21,Tryz.ntmps21;go_wp2_with (go_at_call 41;refine (HP.out).mono ?_;intro e w1 ap;obtain⟨la,lc,rfl,HS,aU,ar,T⟩:=au.out e w1 ap;clear ap);refine (HN.out _).mono ?_;rintro e o ⟨x2,rfl,⟨Z,R,aq,rfl,al⟩,D⟩;obtain⟨W3,aY,M,S,bb⟩:=jab o zsV 44;have aE:Hid (Bw w W3):=T.trans ((D.trans (S.mono D.size)).mono T.size);obtain⟨c0,c1,c2,c3,c4,c5,c6,c7,c8,c9⟩:=jbg M;obtain⟨f0,f1,f2,f3,f4,f5,f6,f7,f8,f9⟩:=jft M;obtain⟨V,hV,ao,an,aa⟩:=ja9 (.int .i64 Z.kind) (.int .i64 Z.level) (.slice R.ea R.el R.ec) (.int .i64 Z.hb) (.string Z.hr) (.int .i64 Z.cr) (.int .i64 Z.cc) (.slice R.ca R.cl R.cc) (.int .i64 Z.gf) (.slice R.ga R.gl R.gc) M;have U:=Nat.le_trans T.size D.size;have d:Hid (SkIn (0,jdA k) k o.heap.size w Z R V):=⟨aq,ao,jdP (al.go S) M (fun i u=>jcd u) an,aa _ _ aE.out U⟩
  have ah:Hid (SlC Lab.enc 2 V.heap.size V la l.length lc l):=by
   have j:Bw w1 V:=aa _ _ (D.trans (S.mono D.size)) D.size;exact (HS.out.below j).mono j.size
  obtain⟨t0,-,-,-⟩:=f.out V d.out.2.2.2;have ag:Hid (∀ z,la=some z->0<lc->z.block<o.heap.size):=fun z L bv=>Nat.lt_of_lt_of_le (HS.out.2.2.2.2 z L bv).2 D.size
  clear M S D T ao an aa aq al;go_upto_if 48 with (go_at_call 43;refine (aF.out _ _ _ d.out.2.2.2 ah.out).mono ?_;rintro e F ⟨rfl,N⟩)
  have C:=Lib.hid (d.out.go N);have ai:Hid (SlC Lab.enc 2 F.heap.size F la l.length lc l):=ah.out.below N |>.mono N.size
  have bh:=Lib.hid N;clear N;go_cut [14] (fun _ wx=>∃ (y:Sk) (t:SS),Hid (SkIn (jbd p.tab l k) k o.heap.size w y t wx)/\Hid (SlC Lab.enc 2 wx.heap.size wx la l.length lc l))
  case first =>
   cases ad:jax p.tab l with
   | false =>
    have bj:Hid (SkIn (jbd p.tab l k) k o.heap.size w Z R F):=by
     have e:jbd p.tab l k=(0,jdA k):=by unfold jbd;rw[jlj ad]
     rw[e];exact C.out
    clear ad;go_wp2_with fail;go_meet;exact⟨Z,R,bj.out,ai.out⟩
   | true =>
    obtain⟨x,bf,ac⟩:=jlk ad;obtain⟨P,G,off,bo,O,az,aI⟩:=aH.out x ac;obtain⟨t5,-,-,-⟩:=f.out F C.out.2.2.2;rw[O] at t5;obtain⟨H,HU⟩:=aI.out F C.out.2.2.2;have x0:F.cell? ⟨G,off+jam p.tab l*12,none⟩=some (.slice P.la P.ll P.lc):=H 0 (by omega);have x1:F.cell? ⟨G,off+jam p.tab l*12+1,none⟩=some (.int .i64 x.sk.kind):=H 1 (by omega);have x2:F.cell? ⟨G,off+jam p.tab l*12+2,none⟩=some (.int .i64 x.sk.level):=H 2 (by omega);have x3:F.cell? ⟨G,off+jam p.tab l*12+3,none⟩=some (.slice P.ss.ea P.ss.el P.ss.ec):=H 3 (by omega);have x4:F.cell? ⟨G,off+jam p.tab l*12+4,none⟩=some (.int .i64 x.sk.hb):=H 4 (by omega);have x5:F.cell? ⟨G,off+jam p.tab l*12+5,none⟩=some (.string x.sk.hr):=H 5 (by omega);have x6:F.cell? ⟨G,off+jam p.tab l*12+6,none⟩=some (.int .i64 x.sk.cr):=H 6 (by omega);have x7:F.cell? ⟨G,off+jam p.tab l*12+7,none⟩=some (.int .i64 x.sk.cc):=H 7 (by omega);have x8:F.cell? ⟨G,off+jam p.tab l*12+8,none⟩=some (.slice P.ss.ca P.ss.cl P.ss.cc):=H 8 (by omega);have x9:F.cell? ⟨G,off+jam p.tab l*12+9,none⟩=some (.int .i64 x.sk.gf):=H 9 (by omega);have bI:F.cell? ⟨G,off+jam p.tab l*12+10,none⟩=some (.slice P.ss.ga P.ss.gl P.ss.gc):=H 10 (by omega);have bJ:F.cell? ⟨G,off+jam p.tab l*12+11,none⟩=some (.int .u64 x.seen):=H 11 (by omega);obtain⟨k0,k1,k2,k3,k4,k5,k6,k7,k8,k9⟩:=C.out.cells;obtain⟨f0,f1,f2,f3,f4,f5,f6,f7,f8,f9⟩:=C.out.frozen;have L:=(jn5 ac (bk.out x (List.mem_of_getElem? bf)) HC.out).1;obtain⟨V6,aL,J,g⟩:=C.out.store (s':=jbd p.tab l k) U L HU;have J:=Lib.hid J
    have g0:V6.cell? ⟨o.heap.size,0,none⟩=some (.int .i64 x.sk.kind):=cCc J.out.2.1 0;have a5:x.sk.kind=(k:Int):=by rw[L];exact (jaL _ _ _).1
    have bz:(x.sk.kind==(k:Int))=true:=by rw[a5];exact beq_self_eq_true _
    have aj:Hid (SlC Lab.enc 2 V6.heap.size V6 la l.length lc l):=by
     have h9:=ai.out.apart (A':=V6) (B:=o.heap.size) (fun z L h0=>by
      have:=(ag.out z L h0);omega) g
     exact h9
    clear ad bf ac O HU L a5 H g;go_wp2_with fail;go_meet;exact⟨x.sk,P.ss,J.out,aj.out⟩
  case rest =>
   obtain⟨y,t,HY,q⟩:=hcut;clear d ah C ai bh t0 hV c0 c1 c2 c3 c4 c5 c6 c7 c8 c9 f0 f1 f2 f3 f4 f5 f6 f7 f8 f9 aY bb;go_wp2_with fail;go_loopw [11,64] (fun e i wr=>∃ (m:Nat) (y:Sk) (t:SS),m<=A.length/\e=.int .i64 0/\i=.int .i64 m/\Hid (SkIn ((A.take m).foldl jba (jbd p.tab l k)) k o.heap.size w y t wr)/\Hid (SlC Lab.enc 2 wr.heap.size wr la l.length lc l)) (fun _ i _=>A.length-(intOf i).toNat)
   case atStart=>exact⟨0,y,t,Nat.zero_le _,rfl,rfl,HY.out,q.out⟩
   case round =>
    clear y t HY q;obtain⟨m,y,t,hm,rfl,rfl,HY,q⟩:=hrel;by_cases az:m<A.length
    ·obtain⟨x,I⟩:∃ x,A[m]? = some x:=⟨_,List.getElem?_eq_getElem az⟩
     obtain⟨gb,off,ha,a3,hc⟩:=HI.out.2 m x I;subst ha;have aK:=HY.out.2.2.2;have i0:wr.cell? ⟨gb,off+m*2,none⟩=some (.int .u64 x.1):=(aK.cell (p:=⟨gb,off+m*2,none⟩) a3).trans (hc 0 (by omega));have i1:wr.cell? ⟨gb,off+m*2+1,none⟩=some (.int .u64 x.2):=(aK.cell (p:=⟨gb,off+m*2+1,none⟩) a3).trans (hc 1 (by omega));obtain⟨W1,bN,aZ,am,bD⟩:=jab wr #[.int .u64 x.1,.int .u64 x.2] 66;obtain⟨j0,j1⟩:=cl2 aZ;have aV:=Lib.hid (HY.out.go am);obtain⟨k0,k1,k2,k3,k4,k5,k6,k7,k8,k9⟩:=aV.out.cells;have bg:=Lib.hid (aA.out m x wr o.heap.size y t I HY.out W1 am);have bl:Hid (SlC Lab.enc 2 W1.heap.size W1 la l.length lc l):=(q.out.below am).mono am.size;have bE:=U;have bL:m<50:=Nat.lt_of_lt_of_le az aS.out;clear hc I aK aZ am bD HY q;go_wp2_with fail;refine (bg.out).mono ?_;rintro e w6 ⟨z,u,rfl,HZ,HU,ax⟩;have aJ:=Lib.hid (aV.out.go ax);have bm:Hid (SlC Lab.enc 2 w6.heap.size w6 la l.length lc l):=(bl.out.below ax).mono ax.size;obtain⟨q0,q1,q2,q3,q4,H,q6,q7,q8,q9⟩:=aJ.out.cells;obtain⟨f0,f1,f2,f3,f4,f5,f6,f7,f8,f9⟩:=aJ.out.frozen;obtain⟨V6,aL,J,g⟩:=aJ.out.store (s':=(A.take (m+1)).foldl jba (jbd p.tab l k)) bE HZ.out HU.out;have J:=Lib.hid J
     have aj:Hid (SlC Lab.enc 2 V6.heap.size V6 la l.length lc l):=bm.out.apart (A':=V6) (B:=o.heap.size) (fun z L h0=>by
      have:=(ag.out z L h0);omega) g
     clear ax g;go_wp2_with fail;go_roundw
     case rel=>exact⟨m+1,z,u,by omega,rfl,by go_num,J.out,aj.out⟩
     case measure=>simp[intOf];omega
    ·obtain rfl:m=A.length:=by omega
     rw[List.take_length] at HY;go_upto_region 21 with fail
     obtain⟨W8,aw⟩:∃ W8,wr.drew=W8:=⟨_,rfl⟩;have ak:Hid (SkIn (A.foldl jba (jbd p.tab l k)) k o.heap.size w y t W8):=by rw[<- aw];exact HY.out.go (.drew (.refl _ _))
     have bn:Hid (SlC Lab.enc 2 W8.heap.size W8 la l.length lc l):=by rw[<- aw];exact q.out
     obtain⟨t0,t1,-,-⟩:=f.out W8 ak.out.2.2.2;obtain⟨k0,k1,k2,k3,k4,k5,k6,k7,k8,k9⟩:=ak.out.cells;have aT:=Lib.hid (aC.out W8 la lc o.heap.size y t bn.out ar.out ak.out)
     have aB:Hid (∀ e w9,jhc p.tab X W8 e w9->∃ (va:Option Addr) (vn vc:Nat) (en:Int),e=.returned (.tuple #[.slice va vn vc,.int .i64 en])/\Hid (Bw w w9/\((jce p.tab X=false/\en=120)\/(jce p.tab X=true/\en=0/\∃ Y:List (Ser × SerP),vn=Y.length/\Tab w9.heap.size w9 va Y.length vc Y/\Y.map (·.1)=jf3 p.tab X)))):=fun e w9 hp=>by
      obtain⟨hb,hp⟩:=hp;have a2:=ak.out.2.2.2.trans (hb.mono ak.out.2.2.2.size);rcases hp with⟨j,rfl⟩ | ⟨j,a9,c9,m9,rfl,br,bs,-⟩
      ·exact⟨none,0,0,120,rfl,a2,.inl ⟨j,rfl⟩⟩
      ·exact⟨a9,m9.length,c9,0,rfl,a2,.inr ⟨j,rfl,m9,rfl,br,bs⟩⟩
     generalize jhc p.tab X W8=PE at aT aB;go_cut [17,11] (fun bH bG wx=>∃ (va:Option Addr) (vn vc:Nat) (en:Int),bH=.slice va vn vc/\bG=.int .i64 en/\Hid (Bw w wx/\((jce p.tab X=false/\en=120)\/(jce p.tab X=true/\en=0/\∃ Y:List (Ser × SerP),vn=Y.length/\Tab wx.heap.size wx va Y.length vc Y/\Y.map (·.1)=jf3 p.tab X))))
     case first =>
      refine wp_region_any (by kernel_rfl) ?_;change wpAny _ _ _ _ _ _ _ (World.drew _);rw[aw];clear HN aF aH f aG aR af ae aA aC HI ag aU HY q aw
      -- REGION
      ·
       refine ta 0 ?_;refine ta 1 ?_;refine ta 2 ?_;refine ta 3 ?_;refine ta 5 ?_;refine ta 7 ?_;refine ta 8 ?_;refine ta 9 ?_;refine ta 10 ?_;refine rd [4,6,11] (.cons rfl (fun K hK=>?_) (.cons rfl (fun K hK=>?_) (.cons rfl (fun K hK=>?_) .nil)))
       all_goals go_simp
       all_goals (refine hK _ _ ?_;clear hK K)
       all_goals first
        | (refine rq [6,11] (.cons rfl (fun K hK=>?_) (.cons rfl (fun K hK=>?_) .nil)))
        | (refine rq [4,11] (.cons rfl (fun K hK=>?_) (.cons rfl (fun K hK=>?_) .nil)))
        | (refine rq [4,6] (.cons rfl (fun K hK=>?_) (.cons rfl (fun K hK=>?_) .nil)))
       all_goals go_simp
       all_goals (refine hK _ _ ?_;clear hK K)
       all_goals first
        | (refine rq [11] (.cons rfl (fun K hK=>?_) .nil))
        | (refine rq [6] (.cons rfl (fun K hK=>?_) .nil))
        | (refine taq 12 ?_;refine rq [4] (.cons rfl (fun K hK=>?_) .nil))
       all_goals go_simp
       all_goals (refine hK _ _ ?_;clear hK K)
       all_goals first
        | (refine taq 12 ?_;refine rq [13] (.cons rfl (fun K hK=>?_) .nil))
        | (refine rq [13] (.cons rfl (fun K hK=>?_) .nil))
       all_goals go_simp
       all_goals
        refine (aT.out).mono ?_;intro e w9 a7;obtain⟨va,vn,vc,en,rfl,bp⟩:=aB.out e w9 a7;clear a7;refine hK _ _ ?_;clear hK K
       all_goals (refine ta 14 ?_;refine ta 15 ?_;refine ta 16 ?_;refine rd [17] (.cons rfl (fun K hK=>?_) .nil))
       all_goals go_simp
       all_goals (refine hK _ _ ?_;clear hK K)
       all_goals (refine rd [18] (.cons rfl (fun K hK=>?_) .nil))
       all_goals go_simp
       all_goals (refine hK _ _ ?_;clear hK K)
       all_goals (refine wpAny_done (by kernel_rfl) ?_ _)
       all_goals
        go_wp2_with fail;go_meet;exact⟨va,vn,vc,en,rfl,rfl,bp⟩
      -- END
     case rest =>
      obtain⟨va,vn,vc,en,rfl,rfl,ab,bt⟩:=hcut;have bM:=Lib.hid ab;rcases bt with⟨j,rfl⟩ | ⟨j,rfl,Y,rfl,aX,a6⟩
      ·have HF:=Lib.hid (ae.out j wc ab)
       clear j ab;go_wp2_with fail;exact HF.out
      ·have aQ:=Lib.hid (aR.out wc va vc Y ⟨ar.out,j⟩ ab aX a6)
       have aP:=Lib.hid (fun e W'=>af.out wc W' e ⟨ar.out,j⟩ ab);obtain⟨-,-,t7,-⟩:=f.out wc ab;generalize FitPost p.bud (jf3 p.tab X) wc=FE at aQ aP;clear j ab aX a6
       go_wp2_with
        (go_at_call 46
         refine aQ.out.mono ?_;intro e wz L;obtain⟨ta,tn,tc,pa,pn,pc,nn,rfl,z0,z1,HQ⟩:=aP.out e wz L;clear L)
       exact HQ.out
theorem jpB (p:TnP) (b:Nat) (s:ByteArray) (kind:Int) (A:List (Nat × Int)) (C:Option Addr) (D:Nat) (w:World) (h:TnIn w b p) (E:GW w) (M:GT w) (I:s.size<4294967281) (L:SlE jil 2 w.heap.size w C A.length A) (J:jef A) (hr:jlM p.tab A.length) (N:A.length<4294967296) :
  Calls Tryz.prog 21 #[.pointer (some ⟨b,0,none⟩),.string s,.int .i64 kind,.slice C A.length D] w (TakePost (jdj p.tab p.tm p.bud s kind A) p b w):=by
 unfold jdj;by_cases B:50<A.length
 ·rw[if_pos B]
  refine (jsr _ s kind C A.length D w B N).mono ?_;rintro e w' ⟨rfl,rfl⟩;exact TakePost.no h (.refl _ _)
 rw[if_neg B]
 cases H:jbP s with
 | none =>
  refine (jst _ s kind C A.length D w (by omega) I E H).mono ?_;rintro e w' ⟨rfl,hb⟩;exact TakePost.no h hb
 | some l =>
  dsimp only
  cases F:jcm kind with
  | false =>
   unfold jdL;rw[F];refine (jsp _ s kind C A.length D w (by omega) I E H F).mono ?_;rintro e w' ⟨rfl,hb⟩;exact TakePost.no h hb
  | true =>
   obtain⟨k,rfl,G⟩:=jgh F;exact jsq p b s k A C D w h E M I L J hr (by omega) H G
def jeK (now:Int) (p:TnP) (b:Nat) (w:World) (e:Ending) (w':World):Prop :=
 Kept (· ≠ b) w w'/\((now<p.tm/\e=.returned (.int .i64 140)/\w'.heap[b]? = some (.cells { p with tm:=0 }.vals 81 (0,0))) \/
  (¬ now<p.tm/\e=.returned (.int .i64 0)/\∃ m ta tc,TnIn w' b { p with tm:=now,m:=m,ta:=ta,tc:=tc }/\m.map (·.1)=p.tab/\(∀ z,ta=some z->w.heap.size<=z.block)/\∀ e∈m,e.2.Off (w.heap.size <= ·)))
theorem jtS (A:Int) (p:TnP) (b:Nat) (w:World) (h:TnIn w b p) (s:GW w) (ad:4<=b) (j:U64 A) (hs:∀ x∈p.tab,jdq A p.life x=false) :
  Calls Tryz.prog 39 #[.pointer (some ⟨b,0,none⟩),.int .u64 A] w (jeK A p b w):=by
 have G:=Lib.hid (fun W=>jl9 p.tm A W);have af:=h.lt;have S:=h.box;obtain⟨c0,c1,c2,c3,c4,c5,c6,c7,c8,c9,ac⟩:=jxT S;have f5:=cFz S 5
 have f:Hid (∀ e w',jeK A p b w e w'=(Kept (· ≠ b) w w'/\((A<p.tm/\e=.returned (.int .i64 140)/\w'.heap[b]? = some (.cells { p with tm:=0 }.vals 81 (0,0))) \/
  (¬ A<p.tm/\e=.returned (.int .i64 0)/\∃ m ta tc,TnIn w' b { p with tm:=A,m:=m,ta:=ta,tc:=tc }/\m.map (·.1)=p.tab/\(∀ z,ta=some z->w.heap.size<=z.block)/\∀ e∈m,e.2.Off (w.heap.size <= ·))))):=fun _ _=>rfl
 by_cases T:A<p.tm
 ·have HF:Hid (jeK A p b w (.returned (.int .i64 140)) (w.setCell ⟨b,5,none⟩ (.int .u64 0))):=by
   rw[Hid,f.out];exact⟨Kept.refl.set (fun _ h=>h rfl) _ _,.inl ⟨T,rfl,hSk S _⟩⟩
  generalize jeK A p b w=Q at HF ⊢;clear f h S;have o:Hid (∀ W,Calls Tryz.prog 62 #[.int .u64 p.tm,.int .u64 A] W fun e w'=>e=.returned (.tuple #[.int .u64 0,.int .i64 140])/\w'=W):=fun W=>by have h:=G.out W;rw[if_pos T] at h;exact h
  clear G T hs s j;go_enter Tryz.func39,Tryz.ntmps39;go_wp2_with (go_at_call 62;refine (o.out _).mono ?_;rintro e w1 ⟨rfl,rfl⟩);exact HF.out
 ·obtain⟨V,hV,B,-⟩:=jbT (i:=5) S (.int .u64 A)
  replace B:V.heap[b]? = some (.cells { p with tm:=A }.vals 81 (0,0)):=B;have hK:Kept (· ≠ b) w V:=by rw[<- hV];exact Kept.refl.set (fun _ h=>h rfl) _ _
  have H:Hid (({ p with tm:=A }:TnP).At V):=by
   have C:=h.at_.keep hK h.off;exact⟨C.tab,C.qt,C.log,C.ok,C.bef,j,C.bud⟩
  have U:Hid (GW V.drew):=(s.keep hK (fun k g e=>by subst e;omega)).below (.drew (.refl _ _));have X:Hid (Kept (· ≠ b) w V.drew):=hK.drew;have Y:=Lib.hid h.off;have L:V.drew.heap[b]? = some (.cells { p with tm:=A }.vals 81 (0,0)):=B;have HE:Hid (Calls Tryz.prog 63 #[.slice p.ta p.m.length p.tc,.int .u64 A,.int .u64 p.life] V.drew (jej p.m V.drew)):=jok A p.life p.m p.ta p.tc V.drew H.out.tab.drew H.out.fit U.out j hs
  have M:Hid (∀ e F,jej p.m V.drew e F->∃ J c2 D,∃ n:Int,e=.returned (.tuple #[.slice J (List.length D) c2,.int .i64 n,.int .i64 0])/\F.frozen? ⟨b,0,none⟩=false/\F.cell? ⟨b,0,none⟩=some (.slice p.ta p.m.length p.tc)/\Hid (∀ W,W=F.setCell ⟨b,0,none⟩ (.slice J (List.length D) c2)->jeK A p b w (.returned (.int .i64 0)) W)):=fun e F hp=>by
   rw[jej,if_pos (show jaj (p.m.map (·.1))=true from h.at_.qt.right)] at hp;obtain⟨J,c2,D,n,rfl,v,a,u,O⟩:=hp;have N:=known O (Nat.le_refl _) L;have ab:V.drew.heap.size=w.heap.size:=by rw[show V.drew.heap.size=V.heap.size from rfl,<- hV,World.size_setCell]
   refine⟨J,c2,D,n,rfl,cFz N 0,cCc N 0,?_⟩;rintro W rfl;have P:Kept (· ≠ b) F (F.setCell ⟨b,0,none⟩ (.slice J D.length c2)):=Kept.refl.set (fun _ h=>h rfl) _ _;have y:Kept (· ≠ b) w (F.setCell ⟨b,0,none⟩ (.slice J D.length c2)):=(X.out.trans (.of O)).trans P;obtain⟨a3,c3,r,-,I,c⟩:=u.tab;injection r with r _ e4
   subst r;subst e4;rw[ab] at I c;have R:∀ e∈D,e.2.Off (w.heap.size <= ·):=fun e Z=>(c e Z).imp fun k g=>g.1
   have ae:b<w.heap.size:=h.lt;have aa:QT (D.map (·.1)):=by rw[a];exact h.at_.qt
   have C:=(H.out.go (.drew (.refl _ _))).go O;have C:=C.keep P ⟨Y.out.t,Y.out.m,Y.out.l⟩;rw[f.out];refine⟨y,.inr ⟨T,rfl,D,J,c2,⟨hSk N _,⟨v.keep P (fun z hz _=>by have:=I z hz;show z.block≠b;omega) (fun e Z=>(R e Z).imp fun k g=>by omega),aa,C.log,C.ok,C.bef,C.tm,C.bud⟩,⟨fun z hz _=>by have:=I z hz;show z.block≠b;omega,fun e Z=>(R e Z).imp fun k g=>by omega,Y.out.l⟩⟩,a,I,R⟩⟩
  have o:Hid (∀ W,Calls Tryz.prog 62 #[.int .u64 p.tm,.int .u64 A] W fun e w'=>e=.returned (.tuple #[.int .u64 A,.int .i64 0])/\w'=W):=fun W=>by have h:=G.out W;rw[if_neg T] at h;exact h
  have d0:V.cell? ⟨b,0,none⟩=some (.slice p.ta p.m.length p.tc):=(cCc B 0);have d1:V.cell? ⟨b,1,none⟩=some (.int .u64 p.nx):=(cCc B 1);have d2:V.cell? ⟨b,2,none⟩=some (.slice p.ga p.gn p.gc):=(cCc B 2);have d3:V.cell? ⟨b,3,none⟩=some (.int .u64 p.lg.before):=(cCc B 3);have d4:V.cell? ⟨b,4,none⟩=some (.slice p.la p.lg.l.length p.lc):=(cCc B 4);have d5:V.cell? ⟨b,5,none⟩=some (.int .u64 A):=(cCc B 5);have d6:V.cell? ⟨b,6,none⟩=some (.int .u64 p.id):=(cCc B 6);have d7:V.cell? ⟨b,7,none⟩=some (.int .i64 p.bud):=(cCc B 7);have d8:V.cell? ⟨b,8,none⟩=some (.int .u64 p.life):=(cCc B 8);generalize jej p.m V.drew=E at HE M;generalize jeK A p b w=Q at M ⊢;clear f h S G T hs s j B L hK X H U Y;go_enter Tryz.func39,Tryz.ntmps39;go_wp2_with (go_at_call 62;refine (o.out _).mono ?_;rintro e w1 ⟨rfl,rfl⟩);refine wp_region_any (by kernel_rfl) ?_;change wpAny _ _ _ _ _ _ _ (World.drew _)
  -- REGION
  ·
   refine ta 0 ?_;refine ta 1 ?_;refine ta 2 ?_;refine ta 3 ?_;refine ta 4 ?_;refine ta 6 ?_;refine ta 7 ?_;refine ta 8 ?_;refine ta 9 ?_;refine ta 11 ?_;refine ta 12 ?_;refine ta 13 ?_;refine ta 14 ?_;refine rd [5,10,15] (.cons rfl (fun K hK=>?_) (.cons rfl (fun K hK=>?_) (.cons rfl (fun K hK=>?_) .nil)))
   all_goals go_simp
   all_goals (refine hK _ _ ?_;clear hK K)
   all_goals first
    | (refine rq [10,15] (.cons rfl (fun K hK=>?_) (.cons rfl (fun K hK=>?_) .nil)))
    | (refine rq [5,15] (.cons rfl (fun K hK=>?_) (.cons rfl (fun K hK=>?_) .nil)))
    | (refine rq [5,10] (.cons rfl (fun K hK=>?_) (.cons rfl (fun K hK=>?_) .nil)))
   all_goals go_simp
   all_goals (refine hK _ _ ?_;clear hK K)
   all_goals first
    | (refine rq [15] (.cons rfl (fun K hK=>?_) .nil))
    | (refine rq [10] (.cons rfl (fun K hK=>?_) .nil))
    | (refine rq [5] (.cons rfl (fun K hK=>?_) .nil))
   all_goals go_simp
   all_goals (refine hK _ _ ?_;clear hK K)
   all_goals (refine rd [16] (.cons rfl (fun K hK=>?_) .nil))
   all_goals go_simp
   all_goals
    refine (HE.out).mono ?_;intro e F d;obtain⟨J,c2,D,n,rfl,k0,j0,q⟩:=M.out e F d;clear d;refine hK _ _ ?_;clear hK K
   all_goals (refine ta 17 ?_;refine ta 18 ?_;refine ta 19 ?_;refine ta 20 ?_;refine ta 21 ?_;refine ta 22 ?_;refine ta 23 ?_;refine rd [24] (.cons rfl (fun K hK=>?_) .nil))
   all_goals go_simp
   all_goals (refine hK _ _ ?_;clear hK K)
   all_goals (refine rd [25] (.cons rfl (fun K hK=>?_) .nil))
   all_goals go_simp
   all_goals (refine hK _ _ ?_;clear hK K)
   all_goals (refine wpAny_done (by kernel_rfl) ?_ _)
   all_goals
    go_wp2_with fail;exact q.out _ rfl
  -- END
end Go.Proofs.YtnegciklhanmbaaGreatDoor
