/- Package field: Put: printed by wip/tools/gen_y1.py. Bytes of numbers, one behind the other: plain. Package wire: the writer in memory; strings.Builder in it. (Began as Y2, by a program.) Numbers read from bytes: plain words, of no program. -/
import Derived.Test.YtlmlcadcdhhlcaaGreatDoorZKQ
set_option maxHeartbeats 4000000
set_option maxRecDepth 100000
namespace Go.Proofs.YtlmlcadcdhhlcaaGreatDoor
open Go Go.RowKit
section
theorem jiK:Tryz.prog.underlying 5=some (.int .u8):=by kernel_rfl
theorem jfE:Tryz.prog.underlying 9=some .string:=by kernel_rfl
theorem jfZ {w:World} {g cap:Nat} (xs:List Int) (h:∀ i,i<xs.length->w.cell? ⟨g,i,none⟩=some (.int .u8 (xs.getD i 0))) :
  (convert 84 9 (.slice (some ⟨g,0,none⟩) xs.length cap)).run Tryz.prog w=.ok (.string (strOfNums xs)) w :=
 run_convert_bytes_arg w _ _ jak jiK g 0 xs.length cap xs rfl (fun i A=>by rw[Nat.zero_add];exact h i A) _ jfE
theorem jaG (w:World) (xs:List Int) (c:Nat) :
  (convert 84 9 (.slice (some ⟨w.heap.size,0,none⟩) xs.length c)).run Tryz.prog (w.alloc (.cells (xs.map (Value.int .u8)).toArray 5))=.ok (.string (strOfNums xs)) (w.alloc (.cells (xs.map (Value.int .u8)).toArray 5)) :=
 jfZ xs (fun i A=>by
  rw[cCc (World.alloc_heap_new w _)];simp[List.getElem?_eq_getElem A])
theorem jbh {w:World} {base n:Nat} {v:Value} (xs:List Int) (C:n=xs.length) (F:0<n) (h:w.ownsRow base 5 1 v n (xs.map (Value.int .u8))) :
  (convert 84 9 v).run Tryz.prog w=.ok (.string (strOfNums xs)) w:=by
 subst C;rcases h.2 with⟨rfl,D⟩ | ⟨g,cap,B,rfl,_,E,_⟩
 ·omega
 ·refine jfZ xs (fun i A=>?_)
  have:=h.cells (g:=g) rfl i (.int .u8 (xs[i])) (by simp[List.getElem?_eq_getElem A]);rw[show (⟨g,0,none⟩:Addr).add i=⟨g,i,none⟩ by unfold Addr.add;split<;>simp_all] at this;rw[this];simp[List.getElem?_eq_getElem A]
theorem jh6 (n:Int) (w:World) (B:0<=n) (C:n<=240) :
  CR 54 #[.int .u64 n] w (.string (strOfNums [n])):=by
 have A:=jaG w [n] 1;simp only[List.map_cons,List.map_nil,List.length_cons,List.length_nil,Nat.zero_add] at A;go_enter Tryz.func54,Tryz.ntmps54;go_wp2_with fail;go_ret;exact⟨rfl,(Below.refl _ w).alloc (Nat.le_refl _) _⟩
theorem jh7 (n:Int) (w:World) (B:240<n) (C:n<=2287) :
  CR 54 #[.int .u64 n] w (.string (strOfNums [241+(n-240) / 256,(n-240) % 256])):=by
 have A:=jaG w [241+(n-240) / 256,(n-240) % 256] 2;simp only[List.map_cons,List.map_nil,List.length_cons,List.length_nil,Nat.zero_add] at A;go_enter Tryz.func54,Tryz.ntmps54;go_wp2_with fail;go_ret;exact⟨rfl,(Below.refl _ w).alloc (Nat.le_refl _) _⟩
theorem jgq (n:Int) (w:World) (B:2287<n) (C:n<=67823) :
  CR 54 #[.int .u64 n] w (.string (strOfNums [249,(n-2288) / 256,(n-2288) % 256])):=by
 have A:=jaG w [249,(n-2288) / 256,(n-2288) % 256] 3;simp only[List.map_cons,List.map_nil,List.length_cons,List.length_nil,Nat.zero_add] at A;go_enter Tryz.func54,Tryz.ntmps54;go_wp2_with fail;go_ret;exact⟨rfl,(Below.refl _ w).alloc (Nat.le_refl _) _⟩
theorem jfW:∀ n:Fin 256,n.val=0\/1<=Lib.bitLen n.val:=by decide +kernel
theorem jaQ (n:Nat) (C:1<=n) (D:n<=255):1<=Lib.bitLen n/\Lib.bitLen n<=8:=by
 have A:=jfW ⟨n,by omega⟩;have B:=Lib.bitLen_le8 ⟨n,by omega⟩;dsimp only at A B;omega
theorem jbD {W:World} {b:Nat} {x:Int} (h:W.heap[b]? = some (.cells #[.int .u8 x] 5 (0,0))):W.ownsRow b 5 1 (.slice (some ⟨b,0,none⟩) 1 1) 1 ([x].map (Value.int .u8)) :=
 ⟨rfl,.inr ⟨b,1,_,rfl,Nat.le_refl _,h,Nat.le_refl _,by unfold maxLen;omega,rfl,rfl⟩⟩
theorem jaT {A B:World} {base e C n:Nat} {v:Value} {xs:List Value} (h:A.ownsRow base e C v n xs) (I:Bw A B):B.ownsRow base e C v n xs :=
 ⟨h.1,h.2.imp id (fun ⟨g,cap,D,E,F,G,H⟩=>⟨g,cap,D,E,F,known I (Nat.le_refl _) G,H⟩)⟩
theorem jbF {W:World} {b:Nat} {x y z:Value} {t:TypeId} (h:W.heap[b]? = some (.cells #[x,y,z] t (0,0))):SlAt W.heap.size W (.slice (some ⟨b,0,none⟩) 3 3) 3 [x,y,z] :=
 .inr ⟨b,0,3,rfl,(Array.getElem?_eq_some_iff.1 h).1,fun i _=>by rw[cCc h,Nat.zero_add];simp⟩
attribute [-go_sem] Builtin.append_
theorem jhe (n:Int) (w:World) (U:67824<=n) (X:n<=16777215) :
  CR 54 #[.int .u64 n] w (.string (strOfNums [250,n / 65536,n / 256 % 256,n % 256])):=by
 have P:17<=Lib.bitLen n.toNat/\Lib.bitLen n.toNat<=24:=by
  rw[Lib.bitLen_shift16 n.toNat (by omega) (by omega)];have Y:=jaQ (n.toNat / 65536) (by omega) (by omega);omega
 have A:=Tryz.bits_Len64 n w (by omega) (by omega);generalize Lib.bitLen n.toNat=L at P A;have a:((L:Int)+7) / 8=3:=by omega
 obtain⟨H,Q,F,I,M⟩:=jab w #[.int .u8 250] 5;replace M:w.heap.size<H.heap.size:=by omega
 have B:H.ownsRow w.heap.size 5 1 (.slice (some ⟨w.heap.size,0,none⟩) 1 1) 1 ([250].map (Value.int .u8)):=jbD F;obtain⟨V,Z,G,E,N⟩:=jab H #[.int .u8 (n / 65536),.int .u8 (n / 256 % 256),.int .u8 (n % 256)] 5;replace N:H.heap.size<V.heap.size:=by omega
 have D:=jaT B E;obtain⟨b,T,O,C,J,S,-,-⟩:=jaH Tryz.prog 84 jak jal rfl (by decide) D (I.trans (E.mono (by omega))) (Nat.le_refl _) (by omega) (jbF G) rfl (by simp[Value.oneCell']) (by omega) (by omega) (by decide);have R:=jbh [250,n / 65536,n / 256 % 256,n % 256] rfl (by simp) C;clear C D G F B;go_enter Tryz.func54,Tryz.ntmps54;go_wp2_with (go_at_call 79;refine A.mono ?_;rintro e c ⟨rfl,rfl⟩);go_ret;exact⟨rfl,J⟩
theorem jhf (n:Int) (w:World) (d:16777216<=n) (f:n<=4294967295) :
  CR 54 #[.int .u64 n] w (.string (strOfNums [251,n / 16777216,n / 65536 % 256,n / 256 % 256,n % 256])):=by
 have T:25<=Lib.bitLen n.toNat/\Lib.bitLen n.toNat<=32:=by
  rw[Lib.bitLen_shift24 n.toNat (by omega) (by omega)];have g:=jaQ (n.toNat / 16777216) (by omega) (by omega);omega
 have A:=Tryz.bits_Len64 n w (by omega) (by omega);generalize Lib.bitLen n.toNat=L at T A;have i:((L:Int)+7) / 8=4:=by omega
 obtain⟨I,U,G,J,O⟩:=jab w #[.int .u8 251] 5;replace O:w.heap.size<I.heap.size:=by omega
 have B:I.ownsRow w.heap.size 5 1 (.slice (some ⟨w.heap.size,0,none⟩) 1 1) 1 ([251].map (Value.int .u8)):=jbD G;obtain⟨c,b,Q,R,C,M,Y,-,-⟩:=jam Tryz.prog 84 jak jal rfl (by decide) (W:=I) B J (Nat.le_refl _) (by omega) [.int .u8 (n / 16777216)] rfl (by simp[Value.oneCell']) (by omega) (by decide);rw[show ([251].map (Value.int .u8))++[Value.int .u8 (n / 16777216)]=[251,n / 16777216].map (Value.int .u8) from rfl] at C;obtain⟨V,h,H,F,P⟩:=jab Q #[.int .u8 (n / 65536 % 256),.int .u8 (n / 256 % 256),.int .u8 (n % 256)] 5;replace P:Q.heap.size<V.heap.size:=by omega
 have E:=jaT C F;obtain⟨j,a,S,D,N,Z,-,-⟩:=jaH Tryz.prog 84 jak jal rfl (by decide) E (M.trans (F.mono (by omega))) (Nat.le_refl _) (by omega) (jbF H) rfl (by simp[Value.oneCell']) (by omega) (by omega) (by decide);have X:=jbh [251,n / 16777216,n / 65536 % 256,n / 256 % 256,n % 256] rfl (by simp) D;clear D E H G B;go_enter Tryz.func54,Tryz.ntmps54;go_wp2_with (go_at_call 79;refine A.mono ?_;rintro e k ⟨rfl,rfl⟩);go_ret;exact⟨rfl,N⟩
theorem jhg (n:Int) (w:World) (l:4294967296<=n) (m:n<=1099511627775) :
  CR 54 #[.int .u64 n] w (.string (strOfNums [252,n / 4294967296,n / 16777216 % 256,n / 65536 % 256,n / 256 % 256,n % 256])):=by
 have Z:33<=Lib.bitLen n.toNat/\Lib.bitLen n.toNat<=40:=by
  rw[Lib.bitLen_shift32 n.toNat (by omega) (by omega)];have o:=jaQ (n.toNat / 4294967296) (by omega) (by omega);omega
 have A:=Tryz.bits_Len64 n w (by omega) (by omega);generalize Lib.bitLen n.toNat=L at Z A;have q:((L:Int)+7) / 8=5:=by omega
 obtain⟨J,a,H,M,Q⟩:=jab w #[.int .u8 252] 5;replace Q:w.heap.size<J.heap.size:=by omega
 have B:J.ownsRow w.heap.size 5 1 (.slice (some ⟨w.heap.size,0,none⟩) 1 1) 1 ([252].map (Value.int .u8)):=jbD H;obtain⟨j,h,Y,T,C,N,c,-,-⟩:=jam Tryz.prog 84 jak jal rfl (by decide) (W:=J) B M (Nat.le_refl _) (by omega) [.int .u8 (n / 4294967296)] rfl (by simp[Value.oneCell']) (by omega) (by decide);rw[show ([252].map (Value.int .u8))++[Value.int .u8 (n / 4294967296)]=[252,n / 4294967296].map (Value.int .u8) from rfl] at C;obtain⟨k,i,S,U,D,O,d,-,-⟩:=jam Tryz.prog 84 jak jal rfl (by decide) (W:=Y) C N (Nat.le_refl _) (by omega) [.int .u8 (n / 16777216 % 256)] rfl (by simp[Value.oneCell']) (by omega) (by decide);rw[show ([252,n / 4294967296].map (Value.int .u8))++[Value.int .u8 (n / 16777216 % 256)]=[252,n / 4294967296,n / 16777216 % 256].map (Value.int .u8) from rfl] at D;obtain⟨V,p,I,G,R⟩:=jab S #[.int .u8 (n / 65536 % 256),.int .u8 (n / 256 % 256),.int .u8 (n % 256)] 5;replace R:S.heap.size<V.heap.size:=by omega
 have F:=jaT D G;obtain⟨r,g,X,E,P,f,-,-⟩:=jaH Tryz.prog 84 jak jal rfl (by decide) F (O.trans (G.mono (by omega))) (Nat.le_refl _) (by omega) (jbF I) rfl (by simp[Value.oneCell']) (by omega) (by omega) (by decide);have b:=jbh [252,n / 4294967296,n / 16777216 % 256,n / 65536 % 256,n / 256 % 256,n % 256] rfl (by simp) E;clear E F I H B;go_enter Tryz.func54,Tryz.ntmps54;go_wp2_with (go_at_call 79;refine A.mono ?_;rintro e s ⟨rfl,rfl⟩);go_ret;exact⟨rfl,P⟩
theorem jhh (n:Int) (w:World) (s:1099511627776<=n) (t:n<=281474976710655) :
  CR 54 #[.int .u64 n] w (.string (strOfNums [253,n / 1099511627776,n / 4294967296 % 256,n / 16777216 % 256,n / 65536 % 256,n / 256 % 256,n % 256])):=by
 have d:41<=Lib.bitLen n.toNat/\Lib.bitLen n.toNat<=48:=by
  rw[Lib.bitLen_shift40 n.toNat (by omega) (by omega)];have u:=jaQ (n.toNat / 1099511627776) (by omega) (by omega);omega
 have A:=Tryz.bits_Len64 n w (by omega) (by omega);generalize Lib.bitLen n.toNat=L at d A;have x:((L:Int)+7) / 8=6:=by omega
 obtain⟨M,f,I,N,S⟩:=jab w #[.int .u8 253] 5;replace S:w.heap.size<M.heap.size:=by omega
 have B:M.ownsRow w.heap.size 5 1 (.slice (some ⟨w.heap.size,0,none⟩) 1 1) 1 ([253].map (Value.int .u8)):=jbD I;obtain⟨p,m,b,X,C,O,h,-,-⟩:=jam Tryz.prog 84 jak jal rfl (by decide) (W:=M) B N (Nat.le_refl _) (by omega) [.int .u8 (n / 1099511627776)] rfl (by simp[Value.oneCell']) (by omega) (by decide);rw[show ([253].map (Value.int .u8))++[Value.int .u8 (n / 1099511627776)]=[253,n / 1099511627776].map (Value.int .u8) from rfl] at C;obtain⟨q,o,c,Y,D,P,i,-,-⟩:=jam Tryz.prog 84 jak jal rfl (by decide) (W:=b) C O (Nat.le_refl _) (by omega) [.int .u8 (n / 4294967296 % 256)] rfl (by simp[Value.oneCell']) (by omega) (by decide);rw[show ([253,n / 1099511627776].map (Value.int .u8))++[Value.int .u8 (n / 4294967296 % 256)]=[253,n / 1099511627776,n / 4294967296 % 256].map (Value.int .u8) from rfl] at D;obtain⟨r,c3,U,Z,E,Q,j,-,-⟩:=jam Tryz.prog 84 jak jal rfl (by decide) (W:=c) D P (Nat.le_refl _) (by omega) [.int .u8 (n / 16777216 % 256)] rfl (by simp[Value.oneCell']) (by omega) (by decide);rw[show ([253,n / 1099511627776,n / 4294967296 % 256].map (Value.int .u8))++[Value.int .u8 (n / 16777216 % 256)]=[253,n / 1099511627776,n / 4294967296 % 256,n / 16777216 % 256].map (Value.int .u8) from rfl] at E;obtain⟨V,v,J,H,T⟩:=jab U #[.int .u8 (n / 65536 % 256),.int .u8 (n / 256 % 256),.int .u8 (n % 256)] 5;replace T:U.heap.size<V.heap.size:=by omega
 have G:=jaT E H;obtain⟨y,l,a,F,R,k,-,-⟩:=jaH Tryz.prog 84 jak jal rfl (by decide) G (Q.trans (H.mono (by omega))) (Nat.le_refl _) (by omega) (jbF J) rfl (by simp[Value.oneCell']) (by omega) (by omega) (by decide);have g:=jbh [253,n / 1099511627776,n / 4294967296 % 256,n / 16777216 % 256,n / 65536 % 256,n / 256 % 256,n % 256] rfl (by simp) F;clear F G J I B;go_enter Tryz.func54,Tryz.ntmps54;go_wp2_with (go_at_call 79;refine A.mono ?_;rintro e z ⟨rfl,rfl⟩);go_ret;exact⟨rfl,R⟩
theorem jhi (n:Int) (w:World) (z:281474976710656<=n) (h1:n<=72057594037927935) :
  CR 54 #[.int .u64 n] w (.string (strOfNums [254,n / 281474976710656,n / 1099511627776 % 256,n / 4294967296 % 256,n / 16777216 % 256,n / 65536 % 256,n / 256 % 256,n % 256])):=by
 have i:49<=Lib.bitLen n.toNat/\Lib.bitLen n.toNat<=56:=by
  rw[Lib.bitLen_shift48 n.toNat (by omega) (by omega)];have h2:=jaQ (n.toNat / 281474976710656) (by omega) (by omega);omega
 have A:=Tryz.bits_Len64 n w (by omega) (by omega);generalize Lib.bitLen n.toNat=L at i A;have hq:((L:Int)+7) / 8=7:=by omega
 obtain⟨N,j,J,O,U⟩:=jab w #[.int .u8 254] 5;replace U:w.heap.size<N.heap.size:=by omega
 have B:N.ownsRow w.heap.size 5 1 (.slice (some ⟨w.heap.size,0,none⟩) 1 1) 1 ([254].map (Value.int .u8)):=jbD J;obtain⟨u,s,f,Z,C,P,l,-,-⟩:=jam Tryz.prog 84 jak jal rfl (by decide) (W:=N) B O (Nat.le_refl _) (by omega) [.int .u8 (n / 281474976710656)] rfl (by simp[Value.oneCell']) (by omega) (by decide);rw[show ([254].map (Value.int .u8))++[Value.int .u8 (n / 281474976710656)]=[254,n / 281474976710656].map (Value.int .u8) from rfl] at C;obtain⟨v,t,g,a,D,Q,m,-,-⟩:=jam Tryz.prog 84 jak jal rfl (by decide) (W:=f) C P (Nat.le_refl _) (by omega) [.int .u8 (n / 1099511627776 % 256)] rfl (by simp[Value.oneCell']) (by omega) (by decide);rw[show ([254,n / 281474976710656].map (Value.int .u8))++[Value.int .u8 (n / 1099511627776 % 256)]=[254,n / 281474976710656,n / 1099511627776 % 256].map (Value.int .u8) from rfl] at D;obtain⟨x,c3,h,b,E,R,o,-,-⟩:=jam Tryz.prog 84 jak jal rfl (by decide) (W:=g) D Q (Nat.le_refl _) (by omega) [.int .u8 (n / 4294967296 % 256)] rfl (by simp[Value.oneCell']) (by omega) (by decide);rw[show ([254,n / 281474976710656,n / 1099511627776 % 256].map (Value.int .u8))++[Value.int .u8 (n / 4294967296 % 256)]=[254,n / 281474976710656,n / 1099511627776 % 256,n / 4294967296 % 256].map (Value.int .u8) from rfl] at E;obtain⟨y,c4,Y,c,F,S,p,-,-⟩:=jam Tryz.prog 84 jak jal rfl (by decide) (W:=h) E R (Nat.le_refl _) (by omega) [.int .u8 (n / 16777216 % 256)] rfl (by simp[Value.oneCell']) (by omega) (by decide)
 rw[show ([254,n / 281474976710656,n / 1099511627776 % 256,n / 4294967296 % 256].map (Value.int .u8))++[Value.int .u8 (n / 16777216 % 256)]=[254,n / 281474976710656,n / 1099511627776 % 256,n / 4294967296 % 256,n / 16777216 % 256].map (Value.int .u8) from rfl] at F;obtain⟨V,hV,M,I,X⟩:=jab Y #[.int .u8 (n / 65536 % 256),.int .u8 (n / 256 % 256),.int .u8 (n % 256)] 5;replace X:Y.heap.size<V.heap.size:=by omega
 have H:=jaT F I;obtain⟨v9,r,d,G,T,q,-,-⟩:=jaH Tryz.prog 84 jak jal rfl (by decide) H (S.trans (I.mono (by omega))) (Nat.le_refl _) (by omega) (jbF M) rfl (by simp[Value.oneCell']) (by omega) (by omega) (by decide);have k:=jbh [254,n / 281474976710656,n / 1099511627776 % 256,n / 4294967296 % 256,n / 16777216 % 256,n / 65536 % 256,n / 256 % 256,n % 256] rfl (by simp) G;clear G H M J B;go_enter Tryz.func54,Tryz.ntmps54;go_wp2_with (go_at_call 79;refine A.mono ?_;rintro e w' ⟨rfl,rfl⟩);go_ret;exact⟨rfl,T⟩
theorem jhj (n:Int) (w:World) (h0:72057594037927936<=n) (h1:n<=18446744073709551615) :
  CR 54 #[.int .u64 n] w (.string (strOfNums [255,n / 72057594037927936,n / 281474976710656 % 256,n / 1099511627776 % 256,n / 4294967296 % 256,n / 16777216 % 256,n / 65536 % 256,n / 256 % 256,n % 256])):=by
 have m:57<=Lib.bitLen n.toNat/\Lib.bitLen n.toNat<=64:=by
  rw[Lib.bitLen_shift56 n.toNat (by omega) (by omega)];have h2:=jaQ (n.toNat / 72057594037927936) (by omega) (by omega);omega
 have A:=Tryz.bits_Len64 n w (by omega) (by omega);generalize Lib.bitLen n.toNat=L at m A;have hq:((L:Int)+7) / 8=8:=by omega
 obtain⟨O,o,M,P,Y⟩:=jab w #[.int .u8 255] 5;replace Y:w.heap.size<O.heap.size:=by omega
 have B:O.ownsRow w.heap.size 5 1 (.slice (some ⟨w.heap.size,0,none⟩) 1 1) 1 ([255].map (Value.int .u8)):=jbD M;obtain⟨g1,y,i,b,C,Q,q,-,-⟩:=jam Tryz.prog 84 jak jal rfl (by decide) (W:=O) B P (Nat.le_refl _) (by omega) [.int .u8 (n / 72057594037927936)] rfl (by simp[Value.oneCell']) (by omega) (by decide);rw[show ([255].map (Value.int .u8))++[Value.int .u8 (n / 72057594037927936)]=[255,n / 72057594037927936].map (Value.int .u8) from rfl] at C;obtain⟨g2,z,j,c,D,R,r,-,-⟩:=jam Tryz.prog 84 jak jal rfl (by decide) (W:=i) C Q (Nat.le_refl _) (by omega) [.int .u8 (n / 281474976710656 % 256)] rfl (by simp[Value.oneCell']) (by omega) (by decide);rw[show ([255,n / 72057594037927936].map (Value.int .u8))++[Value.int .u8 (n / 281474976710656 % 256)]=[255,n / 72057594037927936,n / 281474976710656 % 256].map (Value.int .u8) from rfl] at D;obtain⟨g3,c3,k,d,E,S,s,-,-⟩:=jam Tryz.prog 84 jak jal rfl (by decide) (W:=j) D R (Nat.le_refl _) (by omega) [.int .u8 (n / 1099511627776 % 256)] rfl (by simp[Value.oneCell']) (by omega) (by decide);rw[show ([255,n / 72057594037927936,n / 281474976710656 % 256].map (Value.int .u8))++[Value.int .u8 (n / 1099511627776 % 256)]=[255,n / 72057594037927936,n / 281474976710656 % 256,n / 1099511627776 % 256].map (Value.int .u8) from rfl] at E;obtain⟨g4,c4,l,f,F,T,t,-,-⟩:=jam Tryz.prog 84 jak jal rfl (by decide) (W:=k) E S (Nat.le_refl _) (by omega) [.int .u8 (n / 4294967296 % 256)] rfl (by simp[Value.oneCell']) (by omega) (by decide)
 rw[show ([255,n / 72057594037927936,n / 281474976710656 % 256,n / 1099511627776 % 256].map (Value.int .u8))++[Value.int .u8 (n / 4294967296 % 256)]=[255,n / 72057594037927936,n / 281474976710656 % 256,n / 1099511627776 % 256,n / 4294967296 % 256].map (Value.int .u8) from rfl] at F;obtain⟨g5,c5,a,g,G,U,u,-,-⟩:=jam Tryz.prog 84 jak jal rfl (by decide) (W:=l) F T (Nat.le_refl _) (by omega) [.int .u8 (n / 16777216 % 256)] rfl (by simp[Value.oneCell']) (by omega) (by decide);rw[show ([255,n / 72057594037927936,n / 281474976710656 % 256,n / 1099511627776 % 256,n / 4294967296 % 256].map (Value.int .u8))++[Value.int .u8 (n / 16777216 % 256)]=[255,n / 72057594037927936,n / 281474976710656 % 256,n / 1099511627776 % 256,n / 4294967296 % 256,n / 16777216 % 256].map (Value.int .u8) from rfl] at G;obtain⟨V,hV,N,J,Z⟩:=jab a #[.int .u8 (n / 65536 % 256),.int .u8 (n / 256 % 256),.int .u8 (n % 256)] 5;replace Z:a.heap.size<V.heap.size:=by omega
 have I:=jaT G J;obtain⟨v9,x,h,H,X,v,-,-⟩:=jaH Tryz.prog 84 jak jal rfl (by decide) I (U.trans (J.mono (by omega))) (Nat.le_refl _) (by omega) (jbF N) rfl (by simp[Value.oneCell']) (by omega) (by omega) (by decide);have p:=jbh [255,n / 72057594037927936,n / 281474976710656 % 256,n / 1099511627776 % 256,n / 4294967296 % 256,n / 16777216 % 256,n / 65536 % 256,n / 256 % 256,n % 256] rfl (by simp) H;clear H I N M B;go_enter Tryz.func54,Tryz.ntmps54;go_wp2_with (go_at_call 79;refine A.mono ?_;rintro e w' ⟨rfl,rfl⟩);go_ret;exact⟨rfl,X⟩
def jaa (n:Int):List Int :=
 if n<=240 then [n] else if n<=2287 then [241+(n-240) / 256,(n-240) % 256] else if n<=67823 then [249,(n-2288) / 256,(n-2288) % 256]
 else if n<=16777215 then [250,n / 65536,n / 256 % 256,n % 256]
 else if n<=4294967295 then [251,n / 16777216,n / 65536 % 256,n / 256 % 256,n % 256]
 else if n<=1099511627775 then [252,n / 4294967296,n / 16777216 % 256,n / 65536 % 256,n / 256 % 256,n % 256]
 else if n<=281474976710655 then [253,n / 1099511627776,n / 4294967296 % 256,n / 16777216 % 256,n / 65536 % 256,n / 256 % 256,n % 256]
 else if n<=72057594037927935 then [254,n / 281474976710656,n / 1099511627776 % 256,n / 4294967296 % 256,n / 16777216 % 256,n / 65536 % 256,n / 256 % 256,n % 256]
 else [255,n / 72057594037927936,n / 281474976710656 % 256,n / 1099511627776 % 256,n / 4294967296 % 256,n / 16777216 % 256,n / 65536 % 256,n / 256 % 256,n % 256]
theorem jaw (n:Int) (w:World) (h:U64 n) :
  CR 54 #[.int .u64 n] w (.string (strOfNums (jaa n))):=by
 obtain⟨F,G⟩:=h;unfold jaa;by_cases A:n<=240
 ·rw[if_pos A];exact jh6 n w F A
 rw[if_neg A];by_cases B:n<=2287
 ·rw[if_pos B];exact jh7 n w (by omega) B
 rw[if_neg B];by_cases C:n<=67823
 ·rw[if_pos C];exact jgq n w (by omega) C
 rw[if_neg C];by_cases c3:n<=16777215
 ·rw[if_pos c3];exact jhe n w (by omega) c3
 rw[if_neg c3];by_cases c4:n<=4294967295
 ·rw[if_pos c4];exact jhf n w (by omega) c4
 rw[if_neg c4];by_cases c5:n<=1099511627775
 ·rw[if_pos c5];exact jhg n w (by omega) c5
 rw[if_neg c5];by_cases D:n<=281474976710655
 ·rw[if_pos D];exact jhh n w (by omega) D
 rw[if_neg D];by_cases E:n<=72057594037927935
 ·rw[if_pos E];exact jhi n w (by omega) E
 rw[if_neg E];exact jhj n w (by omega) (by omega)
end
def jac (l:List Int):List UInt8:=l.flatMap fun n=>(jaa n).map fun k=>UInt8.ofNat k.toNat
theorem jbZ (xs:List Int):Lib.strCells (strOfNums xs)=Lib.byteCells (xs.map fun k=>UInt8.ofNat k.toNat):=by
 rw[Lib.strCells,strOfNums_data];rfl
theorem jbU (n:Int):1<=(jaa n).length/\(jaa n).length<=9:=by
 unfold jaa
 repeat' split
 all_goals simp
theorem jav (a b:List Int):jac (a++b)=jac a++jac b:=by simp[jac]
theorem jao (l:List Int):l.length<=(jac l).length/\(jac l).length<=9*l.length:=by
 induction l with
 | nil=>simp[jac]
 | cons x l ih =>
  have:=jbU x;rw[show jac (x::l)=(jaa x).map (fun k=>UInt8.ofNat k.toNat)++jac l from rfl,List.length_append,List.length_map,List.length_cons];omega
theorem byteCells_append (a b:List UInt8):Lib.byteCells (a++b)=Lib.byteCells a++Lib.byteCells b:=by simp[Lib.byteCells]
def WK (B b:Nat) (w w':World):Prop:=Below B w w'/\Lib.OthersKept 5 (some b) w w'
theorem WK.refl (B b:Nat) (w:World):WK B b w w:=⟨Below.refl _ _,Lib.OthersKept.refl _ _ _⟩
theorem WK.trans {B b:Nat} {w D A:World} (h:WK B b w D) (C:WK B b D A):WK B b w A:=⟨h.1.trans C.1,h.2.trans C.2⟩
theorem WK.of_below {B b:Nat} {w A:World} (h:Bw w A) (C:B<=w.heap.size):WK B b w A:=⟨h.mono C,fun _ _ D _ _=>known h (Nat.le_refl _) D⟩
theorem jhc {A B:World} {base e C n:Nat} {v:Value} {xs:List Value} (h:A.ownsRowF base e C v n xs) (J:Bw A B):B.ownsRowF base e C v n xs :=
 ⟨h.1,h.2.imp id (fun ⟨g,cap,D,E,F,G,H,I⟩=>⟨g,cap,D,E,F,G,known J (Nat.le_refl _) H,I⟩)⟩
section
def WAt (B b:Nat) (p:Value) (bs:List Value) (wr:Bool) (w:World):Prop :=
 B<=b/\∃ v,w.heap[b]? = some (.cells #[p,v,.bool wr] 106 (0,0))/\w.ownsRowF B 5 1 v bs.length bs/\v.ownBlock≠some b
def WIs (B b:Nat) (bs:List Value) (wr:Bool) (w:World):Prop:=WAt B b (.pointer none) bs wr w\/WAt B b (.pointer (some ⟨b,0,none⟩)) bs wr w
section
variable {B b:Nat} {p v':Value} {bs bs':List Value} {wr:Bool} {w:World}
theorem WAt.cell0 (h:WAt B b p bs wr w):w.cell? ⟨b,0,none⟩=some p:=by obtain⟨-,v,A,-⟩:=h;rw[Lib.cell_of_heap A];rfl
theorem WAt.shape (h:WAt B b p bs wr w):w.shape? b=some (106,3):=by obtain⟨-,v,A,-⟩:=h;simp[World.shape?,A]
theorem WAt.frozen0 (h:WAt B b p bs wr w):w.frozen? ⟨b,0,none⟩=false:=by obtain⟨-,v,A,-⟩:=h;exact Lib.frozen_of_heap A 0
theorem WAt.keep {A:World} (G:B<=b) {q v:Value} (H:A.heap[b]? = some (.cells #[q,v,.bool wr] 106 (0,0))) (D:w.ownsRowF B 5 1 v bs.length bs) (E:A.os=w.os/\A.tape=w.tape/\A.output=w.output/\w.heap.size<=A.heap.size/\∀ k,k<w.heap.size->k≠b->A.heap[k]? = w.heap[k]?) (C:v.ownBlock≠some b):WAt B b q bs wr A :=
 ⟨G,v,H,D.kept (row:=some b) ⟨E.1,E.2.1,E.2.2.1,E.2.2.2.1,fun k I F=>E.2.2.2.2 k I (fun e=>F (by simp[e]))⟩ (.inr C),C⟩
theorem WAt.used (h:WAt B b p bs wr w) (q:Value):WAt B b q bs wr (w.setCell ⟨b,0,none⟩ q):=by
 obtain⟨D,v,E,A,C⟩:=h;exact WAt.keep D (by simp[World.setCell,Array.getElem?_modify,E]) A ⟨rfl,rfl,rfl,by simp[World.setCell],fun k _ F=>Below.heap_setCell _ _ _ _ F⟩ C
theorem WAt.put (E:B<=b) {v:Value} (D:w.heap[b]? = some (.cells #[p,v,.bool wr] 106 (0,0))) (A:w.ownsRowF B 5 1 v' bs'.length bs'):WAt B b p bs' wr (w.setCell ⟨b,1,none⟩ v'):=by
 have C:=Lib.ownBlock_neF A D (by decide);exact WAt.keep E (by simp[World.setCell,Array.getElem?_modify,D]) A ⟨rfl,rfl,rfl,by simp[World.setCell],fun k _ F=>Below.heap_setCell _ _ _ _ F⟩ C
theorem WAt.bad (h:WAt B b p bs wr w):WAt B b p bs true (w.setCell ⟨b,2,none⟩ (.bool true)):=by
 obtain⟨D,v,E,A,C⟩:=h;exact WAt.keep D (by simp[World.setCell,Array.getElem?_modify,E]) A ⟨rfl,rfl,rfl,by simp[World.setCell],fun k _ F=>Below.heap_setCell _ _ _ _ F⟩ C
theorem WAt.go {A W:World} (h:WAt B b p bs wr A) (C:Bw A W):WAt B b p bs wr W:=by
 obtain⟨G,v,D,E,F⟩:=h;exact⟨G,v,known C (Nat.le_refl _) D,jhc E C,F⟩
theorem WIs.go {A W:World} (h:WIs B b bs wr A) (C:Bw A W):WIs B b bs wr W:=h.imp (·.go C) (·.go C)
theorem WIs.lt (h:WIs B b bs wr w):b<w.heap.size:=by
 rcases h with⟨-,v,h,-⟩ | ⟨-,v,h,-⟩<;>exact (Array.getElem?_eq_some_iff.1 h).1
theorem WIs.cell2 (h:WIs B b bs wr w):w.cell? ⟨b,2,none⟩=some (.bool wr)/\w.frozen? ⟨b,2,none⟩=false:=by
 rcases h with⟨-,v,h,-⟩ | ⟨-,v,h,-⟩<;>exact⟨by rw[Lib.cell_of_heap h];rfl,Lib.frozen_of_heap h 2⟩
end
theorem jiy:liesAt Tryz.prog Tryz.prog.depth 106 (3 / Tryz.prog.cellsOf 106) 0 86 1=true:=by kernel_rfl
theorem jb7 (b:Nat) (w:World) (F:w.cell? ⟨b,0,none⟩=some (.pointer none)) (A:w.shape? b=some (106,3)) (D:w.frozen? ⟨b,0,none⟩=false) :
  Calls Tryz.prog 60 #[.pointer (some ⟨b,0,none⟩)] w fun e E=>e=.returned (.tuple #[])/\E=w.setCell ⟨b,0,none⟩ (.pointer (some ⟨b,0,none⟩)):=by
 obtain⟨j,C,B⟩:=Option.map_eq_some_iff.1 je4;go_enter Tryz.func60,Tryz.ntmps60;go_wp2;rw[Lib.run_to_unsafe w ⟨b,0,none⟩ jde je6 C (by rw[B];decide) A (Nat.zero_lt_succ 2)];simp only[Result.andThen];rw[Oper.upon_value];go_wp2;rw[run_callFunc_extern Tryz.func85 (by kernel_rfl) (by kernel_rfl) (by kernel_rfl) (e:=Extern.AbiNoEscape.same) (by kernel_rfl)];rw[Lib.run_noEscape];simp only[Result.andThen];rw[Oper.upon_value];go_wp2;rw[Lib.run_from_unsafe w ⟨b,0,none⟩ je6 jde C A jiy];simp only[Result.andThen];rw[Oper.upon_value];go_wp2;go_end0;exact⟨rfl,rfl⟩
theorem jcn (b:Nat) (w:World) (D:w.cell? ⟨b,0,none⟩=some (.pointer (some ⟨b,0,none⟩))) :
  Calls Tryz.prog 60 #[.pointer (some ⟨b,0,none⟩)] w fun e C=>e=.returned (.tuple #[])/\C=w:=by
 obtain⟨j,A,B⟩:=Option.map_eq_some_iff.1 je4;have E:=Lib.run_neq_ptr_same (P:=Tryz.prog) w ⟨b,0,none⟩ jde A;go_enter Tryz.func60,Tryz.ntmps60;go_wp2;go_end0;exact⟨rfl,rfl⟩
theorem jcL (B b:Nat) (C:List Value) (wr:Bool) (w:World) (h:WIs B b C wr w) :
  Calls Tryz.prog 60 #[.pointer (some ⟨b,0,none⟩)] w fun e A=>e=.returned (.tuple #[])/\(WAt B b (.pointer (some ⟨b,0,none⟩)) C wr A/\Below B w A/\Lib.OthersKept 5 (some b) w A):=by
 rcases h with h | h
 ·refine (jb7 b w h.cell0 h.shape h.frozen0).mono ?_
  rintro e A ⟨rfl,rfl⟩;exact⟨rfl,h.used _,(Below.refl B w).setCell (p:=⟨b,0,none⟩) h.1 _,(Lib.OthersKept.refl _ _ w).setCell ⟨b,0,none⟩ rfl _⟩
 ·refine (jcn b w h.cell0).mono ?_
  rintro e A ⟨rfl,rfl⟩;exact⟨rfl,h,Below.refl B _,Lib.OthersKept.refl _ _ _⟩
theorem jaP (B b:Nat) (H:List Value) (wr:Bool) (s:ByteArray) (w:World) (h:WIs B b H wr w) (V:H.length+s.size<=140737488355328) (a:B<=w.heap.size) :
  Calls Tryz.prog 30 #[.pointer (some ⟨b,0,none⟩),.string s] w fun e R=>e=.returned (.tuple #[.int .i64 s.size,.nilIface])/\(WAt B b (.pointer (some ⟨b,0,none⟩)) (H++Lib.strCells s) wr R/\Below B w R/\Lib.OthersKept 5 (some b) w R):=by
 obtain⟨f,c,O,P,Q⟩:=info_parts jal;go_enter Tryz.func30,Tryz.ntmps30;go_wp2_with fail;refine (jcL B b H wr _ h).mono ?_;rintro e S ⟨rfl,Z,G,J⟩;obtain⟨U,v,F,C,M⟩:=Z;have j:S.cell? ⟨b,0,none⟩=some (.pointer (some ⟨b,0,none⟩)):=by rw[Lib.cell_of_heap F];rfl
 have l:S.cell? ⟨b,1,none⟩=some v:=by rw[Lib.cell_of_heap F];rfl
 go_wp2_with (at_builtin;refine Lib.wpList_append_own_stringF _ rfl _ _ 84 9 rfl B 5 f jak Tryz.underlying9 c O P Q _ _ _ rfl C s rfl ?c3 ?c4 ?c5 ?_)
 case c3=>unfold maxLen;omega
 case c4=>omega
 case c5=>have:=G.size;omega
 intro i I D A _;have L:b<S.heap.size:=(Array.getElem?_eq_some_iff.1 F).1
 have E:I.heap[b]? = some (.cells #[.pointer (some ⟨b,0,none⟩),v,.bool wr] 106 (0,0)):=by
  rw[A.block b L (fun e=>M e.symm)];exact F
 have m:I.cell? ⟨b,0,none⟩=some (.pointer (some ⟨b,0,none⟩)):=by rw[Lib.cell_of_heap E];rfl
 have n:I.cell? ⟨b,1,none⟩=some v:=by rw[Lib.cell_of_heap E];rfl
 have o:I.frozen? ⟨b,1,none⟩=false:=Lib.frozen_of_heap E 1
 obtain⟨T,X,cap,rfl⟩:∃ T X cap,i=.slice T X cap:=by
  rcases D.2 with⟨N,_⟩ | ⟨g,cap,Y,q,N,_⟩
  ·exact⟨_,_,_,N⟩
  ·exact⟨_,_,_,N⟩
 go_wp2;go_ret2;refine⟨rfl,?_,?_,(J.grown A (Lib.ownsRowF_kind C)).setCell ⟨b,1,none⟩ rfl _⟩
 ·exact WAt.put U E (bs':=H++Lib.strCells s) (by simpa [Lib.strCells_length] using D)
 ·exact (G.grown A (by have:=G.size;omega) (fun k d=>(C.lt k d).1)).setCell (p:=⟨b,1,none⟩) U _
theorem jdO:Tryz.prog.cellsOf 5=1:=by kernel_rfl
theorem jgV (B b:Nat) (l:List UInt8) (wr:Bool) (w:World) (h:WIs B b (Lib.byteCells l) wr w) (N:l≠[]) :
  Calls Tryz.prog 33 #[.pointer (some ⟨b,0,none⟩)] w fun e Z=>e=.returned (.string ⟨l.toArray⟩)/\Below B w Z:=by
 obtain⟨p,F⟩:∃ p,WAt B b p (Lib.byteCells l) wr w:=by
  rcases h with h | h
  ·exact⟨_,h⟩
  ·exact⟨_,h⟩
 obtain⟨c,v,E,A,L⟩:=F;have J:l.length≠0:=by simpa using N
 rw[Lib.byteCells_length] at A;rcases A.2 with⟨_,Y⟩ | ⟨g,cap,D,P,rfl,G,O,U,V,H,T,C⟩
 ·exact absurd Y J
 have a:w.drew.cell? ⟨b,1,none⟩=some (.slice (some ⟨g,0,none⟩) l.length cap):=by
  have:w.drew.heap[b]? = some (.cells #[p,.slice (some ⟨g,0,none⟩) l.length cap,.bool wr] 106 (0,0)):=E;rw[Lib.cell_of_heap this];rfl
 have R:(Builtin.unsafeSliceData_ #[84] 150 #[.slice (some ⟨g,0,none⟩) l.length cap]).run Tryz.prog w.drew=.ok (.pointer (some ⟨g,0,none⟩)) w.drew :=
  Lib.run_unsafeSliceData_row _ _ _ _ _ _ (by omega)
 have S:(Builtin.unsafeString_ #[150,3] 9 #[.pointer (some ⟨g,0,none⟩),.int .i64 l.length]).run Tryz.prog w.drew=.ok (.string ⟨l.toArray⟩) (w.drew.freeze ⟨g,0,none⟩ l.length):=by
  refine Lib.run_unsafeString_row w.drew 150 3 9 5 (by kernel_rfl) jdO g D.size (by have I:w.drew.heap[g]? = some (.cells D 5 P):=O;simp[World.shape?,I]) l N (by omega) (by unfold maxLen at H;omega) ?_;intro j x X;have:=A.cells (g:=g) rfl j (.int .u8 x.toNat) (by simp[Lib.byteCells,X]);exact this
 have Q:=Lib.below_freeze (Below.drew (Below.refl B w)) (p:=⟨g,0,none⟩) G l.length;clear A L C E O;have M:Tryz.prog.follows .mixedOrders=true:=by kernel_rfl
 go_enter Tryz.func33,Tryz.ntmps33;go_wp2;go_region_o
 all_goals (go_wp2;go_ret;exact⟨rfl,Q⟩)
end
inductive NumR where
 | got (n:Int) (r:List UInt8)
 | more
 | bad
def jaj (f:Nat):Nat:=if f<=240 then 0 else if f<=248 then 1 else if f=249 then 2 else f-247
def jcs:Int->List UInt8->Int
 | n,[]=>n
 | n,b::r=>jcs (n*256+b.toNat) r
def jco (f:Nat) (t:List UInt8):Int:=if f<=240 then f else if f<=248 then jcs 0 t+(240+256*((f:Int)-241)) else if f=249 then jcs 0 t+2288 else jcs 0 t
def jbA:List UInt8->NumR
 | []=>.more
 | f::t=>if t.length<jaj f.toNat then .more else
   if (jaa (jco f.toNat (t.take (jaj f.toNat)))).length=1+jaj f.toNat then .got (jco f.toNat (t.take (jaj f.toNat))) (t.drop (jaj f.toNat)) else .bad
theorem jbu (n:Int):jac [n]=(jaa n).map (fun k=>UInt8.ofNat k.toNat):=by simp[jac]
theorem jhG (n:Nat) (h:n<256):(UInt8.ofNat n).toNat=n:=by simp;omega
theorem jd5 {n:Int} (h:n<=240):jaa n=[n]:=by
 unfold jaa;rw[if_pos (by omega)]
theorem jd6 {n:Int} (h:240<n/\n<=2287):jaa n=[241+(n-240) / 256,(n-240) % 256]:=by
 unfold jaa;rw[if_neg (by omega),if_pos (by omega)]
theorem jd7 {n:Int} (h:2287<n/\n<=67823):jaa n=[249,(n-2288) / 256,(n-2288) % 256]:=by
 unfold jaa;rw[if_neg (by omega),if_neg (by omega),if_pos (by omega)]
theorem jd8 {n:Int} (h:67823<n/\n<=16777215):jaa n=[250,n / 65536,n / 256 % 256,n % 256]:=by
 unfold jaa;rw[if_neg (by omega),if_neg (by omega),if_neg (by omega),if_pos (by omega)]
theorem jd9 {n:Int} (h:16777215<n/\n<=4294967295):jaa n=[251,n / 16777216,n / 65536 % 256,n / 256 % 256,n % 256]:=by
 unfold jaa;rw[if_neg (by omega),if_neg (by omega),if_neg (by omega),if_neg (by omega),if_pos (by omega)]
theorem jea {n:Int} (h:4294967295<n/\n<=1099511627775):jaa n=[252,n / 4294967296,n / 16777216 % 256,n / 65536 % 256,n / 256 % 256,n % 256]:=by
 unfold jaa;rw[if_neg (by omega),if_neg (by omega),if_neg (by omega),if_neg (by omega),if_neg (by omega),if_pos (by omega)]
theorem jeb {n:Int} (h:1099511627775<n/\n<=281474976710655):jaa n=[253,n / 1099511627776,n / 4294967296 % 256,n / 16777216 % 256,n / 65536 % 256,n / 256 % 256,n % 256]:=by
 unfold jaa;rw[if_neg (by omega),if_neg (by omega),if_neg (by omega),if_neg (by omega),if_neg (by omega),if_neg (by omega),if_pos (by omega)]
theorem jec {n:Int} (h:281474976710655<n/\n<=72057594037927935):jaa n=[254,n / 281474976710656,n / 1099511627776 % 256,n / 4294967296 % 256,n / 16777216 % 256,n / 65536 % 256,n / 256 % 256,n % 256]:=by
 unfold jaa;rw[if_neg (by omega),if_neg (by omega),if_neg (by omega),if_neg (by omega),if_neg (by omega),if_neg (by omega),if_neg (by omega),if_pos (by omega)]
theorem jed {n:Int} (h:72057594037927935<n):jaa n=[255,n / 72057594037927936,n / 281474976710656 % 256,n / 1099511627776 % 256,n / 4294967296 % 256,n / 16777216 % 256,n / 65536 % 256,n / 256 % 256,n % 256]:=by
 unfold jaa;rw[if_neg (by omega),if_neg (by omega),if_neg (by omega),if_neg (by omega),if_neg (by omega),if_neg (by omega),if_neg (by omega),if_neg (by omega)]
theorem jaN (f:UInt8) (t r:List UInt8) (A k:Nat) (n:Int) (B:f.toNat=A) (C:jaj A=k) (ht:t.length=k) (D:jco A t=n) (E:(jaa n).length=1+k):jbA (f::(t++r))=.got n r:=by
 subst ht;simp only[jbA,B,C,List.length_append,List.take_left,List.drop_left,D,E,if_true];rw[if_neg (by omega)]
theorem hu8 (m:Int) (A:0<=m) (B:m<256):((UInt8.ofNat m.toNat).toNat:Int)=m:=by
 rw[jhG m.toNat (by omega)];omega
theorem hv8 (m:Int):((UInt8.ofNat (m % 256).toNat).toNat:Int)=m % 256:=hu8 _ (by omega) (by omega)
theorem jah (n:Int) (b:UInt8) (l:List UInt8):jcs n (b::l)=jcs (n*256+b.toNat) l:=rfl
theorem ja3 (n:Int):jcs n []=n:=rfl
theorem jdm (n:Int) (h:U64 n) (r:List UInt8):jbA (jac [n]++r)=.got n r:=by
 obtain⟨B,C⟩:=h;rw[jbu];have A:=fun (m:Int) (B:0<=m) (C:m<256)=>jhG m.toNat (by omega)
 by_cases D:n<=240
 ·have e:=jd5 (n:=n) (by omega)
  rw[e];exact jaN _ [] r n.toNat 0 n (A n (by omega) (by omega)) (by unfold jaj;rw[if_pos (by omega)]) rfl (by unfold jco;rw[if_pos (by omega)];omega) (by rw[e];rfl)
 by_cases E:n<=2287
 ·have e:=jd6 (n:=n) (by omega)
  rw[e];refine jaN _ [_] r (241+(n-240) / 256).toNat 1 n (A _ (by omega) (by omega)) (by unfold jaj;rw[if_neg (by omega),if_pos (by omega)]) rfl ?_ (by rw[e];rfl);unfold jco;rw[if_neg (by omega),if_pos (by omega),jah,ja3,hv8];omega
 by_cases F:n<=67823
 ·have e:=jd7 (n:=n) (by omega)
  rw[e];refine jaN _ [_,_] r 249 2 n (A 249 (by omega) (by omega)) (by decide) rfl ?_ (by rw[e];rfl);unfold jco;rw[if_neg (by omega),if_neg (by omega),if_pos rfl,jah,jah,ja3,hv8,hu8 _ (by omega) (by omega)];omega
 by_cases c3:n<=16777215
 ·have e:=jd8 (n:=n) (by omega)
  rw[e];refine jaN _ [_,_,_] r 250 3 n (A 250 (by omega) (by omega)) (by decide) rfl ?_ (by rw[e];rfl);unfold jco;rw[if_neg (by omega),if_neg (by omega),if_neg (by omega),jah,jah,jah,ja3,hu8 (n / 65536) (by omega) (by omega),hv8 (n / 256),hv8 n,Int.zero_mul,Int.zero_add,show n / 65536*256+n / 256 % 256=n / 256 by omega,show n / 256*256+n % 256=n by omega]
 by_cases c4:n<=4294967295
 ·have e:=jd9 (n:=n) (by omega)
  rw[e];refine jaN _ [_,_,_,_] r 251 4 n (A 251 (by omega) (by omega)) (by decide) rfl ?_ (by rw[e];rfl);unfold jco;rw[if_neg (by omega),if_neg (by omega),if_neg (by omega),jah,jah,jah,jah,ja3,hu8 (n / 16777216) (by omega) (by omega),hv8 (n / 65536),hv8 (n / 256),hv8 n,Int.zero_mul,Int.zero_add,show n / 16777216*256+n / 65536 % 256=n / 65536 by omega,show n / 65536*256+n / 256 % 256=n / 256 by omega,show n / 256*256+n % 256=n by omega]
 by_cases c5:n<=1099511627775
 ·have e:=jea (n:=n) (by omega)
  rw[e];refine jaN _ [_,_,_,_,_] r 252 5 n (A 252 (by omega) (by omega)) (by decide) rfl ?_ (by rw[e];rfl);unfold jco;rw[if_neg (by omega),if_neg (by omega),if_neg (by omega),jah,jah,jah,jah,jah,ja3,hu8 (n / 4294967296) (by omega) (by omega),hv8 (n / 16777216),hv8 (n / 65536),hv8 (n / 256),hv8 n,Int.zero_mul,Int.zero_add,show n / 4294967296*256+n / 16777216 % 256=n / 16777216 by omega,show n / 16777216*256+n / 65536 % 256=n / 65536 by omega,show n / 65536*256+n / 256 % 256=n / 256 by omega,show n / 256*256+n % 256=n by omega]
 by_cases G:n<=281474976710655
 ·have e:=jeb (n:=n) (by omega)
  rw[e];refine jaN _ [_,_,_,_,_,_] r 253 6 n (A 253 (by omega) (by omega)) (by decide) rfl ?_ (by rw[e];rfl);unfold jco;rw[if_neg (by omega),if_neg (by omega),if_neg (by omega),jah,jah,jah,jah,jah,jah,ja3,hu8 (n / 1099511627776) (by omega) (by omega),hv8 (n / 4294967296),hv8 (n / 16777216),hv8 (n / 65536),hv8 (n / 256),hv8 n,Int.zero_mul,Int.zero_add,show n / 1099511627776*256+n / 4294967296 % 256=n / 4294967296 by omega,show n / 4294967296*256+n / 16777216 % 256=n / 16777216 by omega,show n / 16777216*256+n / 65536 % 256=n / 65536 by omega,show n / 65536*256+n / 256 % 256=n / 256 by omega,show n / 256*256+n % 256=n by omega]
 by_cases H:n<=72057594037927935
 ·have e:=jec (n:=n) (by omega)
  rw[e];refine jaN _ [_,_,_,_,_,_,_] r 254 7 n (A 254 (by omega) (by omega)) (by decide) rfl ?_ (by rw[e];rfl);unfold jco;rw[if_neg (by omega),if_neg (by omega),if_neg (by omega),jah,jah,jah,jah,jah,jah,jah,ja3,hu8 (n / 281474976710656) (by omega) (by omega),hv8 (n / 1099511627776),hv8 (n / 4294967296),hv8 (n / 16777216),hv8 (n / 65536),hv8 (n / 256),hv8 n,Int.zero_mul,Int.zero_add,show n / 281474976710656*256+n / 1099511627776 % 256=n / 1099511627776 by omega,show n / 1099511627776*256+n / 4294967296 % 256=n / 4294967296 by omega,show n / 4294967296*256+n / 16777216 % 256=n / 16777216 by omega,show n / 16777216*256+n / 65536 % 256=n / 65536 by omega,show n / 65536*256+n / 256 % 256=n / 256 by omega,show n / 256*256+n % 256=n by omega]
 have e:=jed (n:=n) (by omega);rw[e];refine jaN _ [_,_,_,_,_,_,_,_] r 255 8 n (A 255 (by omega) (by omega)) (by decide) rfl ?_ (by rw[e];rfl);unfold jco;rw[if_neg (by omega),if_neg (by omega),if_neg (by omega),jah,jah,jah,jah,jah,jah,jah,jah,ja3,hu8 (n / 72057594037927936) (by omega) (by omega),hv8 (n / 281474976710656),hv8 (n / 1099511627776),hv8 (n / 4294967296),hv8 (n / 16777216),hv8 (n / 65536),hv8 (n / 256),hv8 n,Int.zero_mul,Int.zero_add,show n / 72057594037927936*256+n / 281474976710656 % 256=n / 281474976710656 by omega,show n / 281474976710656*256+n / 1099511627776 % 256=n / 1099511627776 by omega,show n / 1099511627776*256+n / 4294967296 % 256=n / 4294967296 by omega,show n / 4294967296*256+n / 16777216 % 256=n / 16777216 by omega,show n / 16777216*256+n / 65536 % 256=n / 65536 by omega,show n / 65536*256+n / 256 % 256=n / 256 by omega,show n / 256*256+n % 256=n by omega]
theorem jeA:∀ (l:List UInt8) (n:Int),0<=n->0<=jcs n l/\jcs n l<(n+1)*256^l.length
 | [],n,h=>by simp only[jcs,List.length_nil];omega
 | b::r,n,h=>by
  have D:=UInt8.toNat_lt b;obtain⟨A,B⟩:=jeA r (n*256+b.toNat) (by omega);refine⟨A,Int.lt_of_lt_of_le B ?_⟩;rw[List.length_cons,Int.pow_succ,Int.mul_comm (256^r.length),<- Int.mul_assoc];have C:(0:Int)<=256^r.length:=Int.pow_nonneg (by omega);exact Int.mul_le_mul_of_nonneg_right (by omega) C
theorem jdv (f:UInt8) (t:List UInt8) (ht:t.length=jaj f.toNat):U64 (jco f.toNat t):=by
 have G:=UInt8.toNat_lt f;obtain⟨E,A⟩:=jeA t 0 (by omega);rw[ht] at A;unfold jco;unfold jaj at A;split
 ·unfold U64;omega
 split
 ·rename_i B C
  rw[if_neg B,if_pos C] at A;unfold U64;omega
 split
 ·rename_i B C D
  rw[if_neg B,if_neg C,if_pos D] at A;unfold U64;omega
 ·rename_i B C D
  rw[if_neg B,if_neg C,if_neg D] at A
  have F:(256:Int)^(f.toNat-247)<=256^8:=by
   have:(256:Nat)^(f.toNat-247)<=256^8:=Nat.pow_le_pow_right (by omega) (by omega);exact_mod_cast this
  unfold U64;omega
theorem jaS {l:List UInt8} {n:Int} {r:List UInt8} (h:jbA l=.got n r):U64 n/\r.length<l.length:=by
 cases l with
 | nil=>cases h
 | cons f t =>
  rw[jbA] at h;split at h
  ·cases h
  rename_i A
  split at h
  ·injection h with h2 h3
   subst h2;subst h3;refine⟨jdv f _ (by rw[List.length_take];omega),by rw[List.length_drop,List.length_cons];omega⟩
  ·cases h
theorem jad {b:UInt8} {n:Int} (h:n=b.toNat):UInt8.ofNat n.toNat=b:=by
 subst h;simp
theorem jee (n:Int):((jaa n).length=1->n<=240)/\((jaa n).length=2->240<n/\n<=2287)/\((jaa n).length=3->2287<n/\n<=67823)/\((jaa n).length=4->67823<n/\n<=16777215)/\((jaa n).length=5->16777215<n/\n<=4294967295) /\
  ((jaa n).length=6->4294967295<n/\n<=1099511627775)/\((jaa n).length=7->1099511627775<n/\n<=281474976710655)/\((jaa n).length=8->281474976710655<n/\n<=72057594037927935)/\((jaa n).length=9->72057594037927935<n):=by
 unfold jaa
 repeat' split
 all_goals simp only[List.length_cons,List.length_nil];omega
theorem jeX {l:List UInt8} {n:Int} {r:List UInt8} (h:jbA l=.got n r):l=jac [n]++r:=by
 cases l with
 | nil=>cases h
 | cons f t =>
  rw[jbA] at h;split at h
  ·cases h
  rename_i Z
  split at h
  case isFalse=>cases h
  rename_i B
  injection h with h3 h4
  obtain⟨C,G⟩:∃ C,t.take (jaj f.toNat)=C:=⟨_,rfl⟩;have A:C.length=jaj f.toNat:=by rw[<- G,List.length_take];omega
  have N:t=C++r:=by rw[<- h4,<- G,List.take_append_drop]
  rw[G] at B h3;have R:=jdv f C A;rw[h3] at B R;have a:=jee n;obtain⟨i,j,k,m,o,p,q,u,v⟩:=a;obtain⟨c,d⟩:=R;have w:=UInt8.toNat_lt f;rw[N,jbu,<- List.cons_append];congr 1;clear h4 N G Z;by_cases I:f.toNat<=240
  ·have J:jaj f.toNat=0:=by unfold jaj;rw[if_pos I]
   rw[J] at A B;obtain rfl:C=[]:=List.eq_nil_of_length_eq_zero A;unfold jco at h3;rw[if_pos I] at h3;have s:=i B;rw[jd5 s];simp only[List.map_cons,List.map_nil];rw[jad (b:=f) (by omega)]
  by_cases M:f.toNat<=248
  ·have J:jaj f.toNat=1:=by unfold jaj;rw[if_neg I,if_pos M]
   rw[J] at A B
   match C,A with
   | [b0],_ =>
    unfold jco at h3;rw[if_neg I,if_pos M] at h3;simp only[jcs] at h3;have e:=UInt8.toNat_lt b0;have s:=j B;rw[jd6 s];simp only[List.map_cons,List.map_nil];rw[jad (b:=f) (by omega),jad (b:=b0) (by omega)]
  by_cases P:f.toNat=249
  ·have J:jaj f.toNat=2:=by unfold jaj;rw[if_neg I,if_neg M,if_pos P]
   rw[J] at A B
   match C,A with
   | [b0,b1],_ =>
    unfold jco at h3;rw[if_neg I,if_neg M,if_pos P] at h3;simp only[jcs] at h3;have e:=UInt8.toNat_lt b0;have x:=UInt8.toNat_lt b1;have s:=k B;rw[jd7 s];simp only[List.map_cons,List.map_nil];rw[jad (b:=f) (by omega),jad (b:=b0) (by omega),jad (b:=b1) (by omega)]
  have J:jaj f.toNat=f.toNat-247:=by unfold jaj;rw[if_neg I,if_neg M,if_neg P]
  rw[J] at A B;unfold jco at h3;rw[if_neg I,if_neg M,if_neg P] at h3;by_cases S:f.toNat=250
  ·rw[S] at A B
   match C,A with
   | [b0,b1,b2],_ =>
    simp only[jcs] at h3;have D:=UInt8.toNat_lt b0;have E:=UInt8.toNat_lt b1;have F:=UInt8.toNat_lt b2;have s:=m B;rw[jd8 s];simp only[List.map_cons,List.map_nil];rw[jad (b:=f) (by omega),jad (b:=b0) (by omega),jad (b:=b1) (by omega),jad (b:=b2) (by omega)]
  by_cases T:f.toNat=251
  ·rw[T] at A B
   match C,A with
   | [b0,b1,b2,b3],_ =>
    simp only[jcs] at h3;have D:=UInt8.toNat_lt b0;have E:=UInt8.toNat_lt b1;have F:=UInt8.toNat_lt b2;have H:=UInt8.toNat_lt b3;have s:=o B;rw[jd9 s];simp only[List.map_cons,List.map_nil];rw[jad (b:=f) (by omega),jad (b:=b0) (by omega),jad (b:=b1) (by omega),jad (b:=b2) (by omega),jad (b:=b3) (by omega)]
  by_cases U:f.toNat=252
  ·rw[U] at A B
   match C,A with
   | [b0,b1,b2,b3,b4],_ =>
    simp only[jcs] at h3;have D:=UInt8.toNat_lt b0;have E:=UInt8.toNat_lt b1;have F:=UInt8.toNat_lt b2;have H:=UInt8.toNat_lt b3;have L:=UInt8.toNat_lt b4;have s:=p B;rw[jea s];simp only[List.map_cons,List.map_nil];rw[jad (b:=f) (by omega),jad (b:=b0) (by omega),jad (b:=b1) (by omega),jad (b:=b2) (by omega),jad (b:=b3) (by omega),jad (b:=b4) (by omega)]
  by_cases V:f.toNat=253
  ·rw[V] at A B
   match C,A with
   | [b0,b1,b2,b3,b4,b5],_ =>
    simp only[jcs] at h3;have D:=UInt8.toNat_lt b0;have E:=UInt8.toNat_lt b1;have F:=UInt8.toNat_lt b2;have H:=UInt8.toNat_lt b3;have L:=UInt8.toNat_lt b4;have O:=UInt8.toNat_lt b5;have s:=q B;rw[jeb s];simp only[List.map_cons,List.map_nil];rw[jad (b:=f) (by omega),jad (b:=b0) (by omega),jad (b:=b1) (by omega),jad (b:=b2) (by omega),jad (b:=b3) (by omega),jad (b:=b4) (by omega),jad (b:=b5) (by omega)]
  by_cases X:f.toNat=254
  ·rw[X] at A B
   match C,A with
   | [b0,b1,b2,b3,b4,b5,b6],_ =>
    simp only[jcs] at h3;have D:=UInt8.toNat_lt b0;have E:=UInt8.toNat_lt b1;have F:=UInt8.toNat_lt b2;have H:=UInt8.toNat_lt b3;have L:=UInt8.toNat_lt b4;have O:=UInt8.toNat_lt b5;have Q:=UInt8.toNat_lt b6;have s:=u B;rw[jec s];simp only[List.map_cons,List.map_nil];rw[jad (b:=f) (by omega),jad (b:=b0) (by omega),jad (b:=b1) (by omega),jad (b:=b2) (by omega),jad (b:=b3) (by omega),jad (b:=b4) (by omega),jad (b:=b5) (by omega),jad (b:=b6) (by omega)]
  have Y:f.toNat=255:=by omega
  rw[Y] at A B
  match C,A with
  | [b0,b1,b2,b3,b4,b5,b6,b7],_ =>
   simp only[jcs] at h3;have D:=UInt8.toNat_lt b0;have E:=UInt8.toNat_lt b1;have F:=UInt8.toNat_lt b2;have H:=UInt8.toNat_lt b3;have L:=UInt8.toNat_lt b4;have O:=UInt8.toNat_lt b5;have Q:=UInt8.toNat_lt b6;have g:=UInt8.toNat_lt b7;have s:=v B;rw[jed s];simp only[List.map_cons,List.map_nil];rw[jad (b:=f) (by omega),jad (b:=b0) (by omega),jad (b:=b1) (by omega),jad (b:=b2) (by omega),jad (b:=b3) (by omega),jad (b:=b4) (by omega),jad (b:=b5) (by omega),jad (b:=b6) (by omega),jad (b:=b7) (by omega)]
end Go.Proofs.YtlmlcadcdhhlcaaGreatDoor
