/- Package field: Put: printed by wip/tools/gen_y1.py. strings.Builder in a writer of package code. audit.Sum, Last, Head, follows. audit: Last, Head, follows, Chained, Right. audit.Right. -/
import Derived.Test.YtnegciklhanmbaaGreatDoorZUA
import Derived.Test.YtnegciklhanmbaaGreatDoorZSD
set_option maxHeartbeats 4000000
set_option maxRecDepth 100000
namespace Go.Proofs.YtnegciklhanmbaaGreatDoor
open Go Go.RowKit
section
theorem jxF:Tryz.prog.underlying 5=some (.int .u8):=by kernel_rfl
theorem jpC:Tryz.prog.underlying 9=some .string:=by kernel_rfl
theorem jqx {w:World} {g cap:Nat} (xs:List Int) (h:∀ i,i<xs.length->w.cell? ⟨g,i,none⟩=some (.int .u8 (xs.getD i 0))) :
  (convert 204 9 (.slice (some ⟨g,0,none⟩) xs.length cap)).run Tryz.prog w=.ok (.string (strOfNums xs)) w :=
 run_convert_bytes_arg w _ _ jay jxF g 0 xs.length cap xs rfl (fun i A=>by rw[Nat.zero_add];exact h i A) _ jpC
theorem jjw (w:World) (xs:List Int) (c:Nat) :
  (convert 204 9 (.slice (some ⟨w.heap.size,0,none⟩) xs.length c)).run Tryz.prog (w.alloc (.cells (xs.map (Value.int .u8)).toArray 5))=.ok (.string (strOfNums xs)) (w.alloc (.cells (xs.map (Value.int .u8)).toArray 5)) :=
 jqx xs (fun i A=>by
  rw[cCc (World.alloc_heap_new w _)];simp[List.getElem?_eq_getElem A])
theorem jeP {w:World} {A n:Nat} {v:Value} (xs:List Int) (D:n=xs.length) (G:0<n) (h:w.ownsRow A 5 1 v n (xs.map (Value.int .u8))) :
  (convert 204 9 v).run Tryz.prog w=.ok (.string (strOfNums xs)) w:=by
 subst D;rcases h.2 with⟨rfl,E⟩ | ⟨g,cap,C,rfl,_,F,_⟩
 ·omega
 ·refine jqx xs (fun i B=>?_)
  have:=h.cells (g:=g) rfl i (.int .u8 (xs[i])) (by simp[List.getElem?_eq_getElem B]);rw[show (⟨g,0,none⟩:Addr).add i=⟨g,i,none⟩ by unfold Addr.add;split<;>simp_all] at this;rw[this];simp[List.getElem?_eq_getElem B]
theorem jwJ (n:Int) (w:World) (B:0<=n) (C:n<=240) :
  CR 106 #[.int .u64 n] w (.string (strOfNums [n])):=by
 have A:=jjw w [n] 1;simp only[List.map_cons,List.map_nil,List.length_cons,List.length_nil,Nat.zero_add] at A;go_enter Tryz.func106,Tryz.ntmps106;go_wp2_with fail;go_ret;exact⟨rfl,(Below.refl _ w).alloc (Nat.le_refl _) _⟩
theorem jwK (n:Int) (w:World) (B:240<n) (C:n<=2287) :
  CR 106 #[.int .u64 n] w (.string (strOfNums [241+(n-240) / 256,(n-240) % 256])):=by
 have A:=jjw w [241+(n-240) / 256,(n-240) % 256] 2;simp only[List.map_cons,List.map_nil,List.length_cons,List.length_nil,Nat.zero_add] at A;go_enter Tryz.func106,Tryz.ntmps106;go_wp2_with fail;go_ret;exact⟨rfl,(Below.refl _ w).alloc (Nat.le_refl _) _⟩
theorem jrW (n:Int) (w:World) (B:2287<n) (C:n<=67823) :
  CR 106 #[.int .u64 n] w (.string (strOfNums [249,(n-2288) / 256,(n-2288) % 256])):=by
 have A:=jjw w [249,(n-2288) / 256,(n-2288) % 256] 3;simp only[List.map_cons,List.map_nil,List.length_cons,List.length_nil,Nat.zero_add] at A;go_enter Tryz.func106,Tryz.ntmps106;go_wp2_with fail;go_ret;exact⟨rfl,(Below.refl _ w).alloc (Nat.le_refl _) _⟩
theorem jqh:∀ n:Fin 256,n.val=0\/1<=Lib.bitLen n.val:=by decide +kernel
theorem jcn (n:Nat) (C:1<=n) (D:n<=255):1<=Lib.bitLen n/\Lib.bitLen n<=8:=by
 have A:=jqh ⟨n,by omega⟩;have B:=Lib.bitLen_le8 ⟨n,by omega⟩;dsimp only at A B;omega
theorem je0 {W:World} {b:Nat} {x:Int} (h:W.heap[b]? = some (.cells #[.int .u8 x] 5 (0,0))):W.ownsRow b 5 1 (.slice (some ⟨b,0,none⟩) 1 1) 1 ([x].map (Value.int .u8)) :=
 ⟨rfl,.inr ⟨b,1,_,rfl,Nat.le_refl _,h,Nat.le_refl _,by unfold maxLen;omega,rfl,rfl⟩⟩
theorem jeZ {A B:World} {C e size n:Nat} {v:Value} {xs:List Value} (h:A.ownsRow C e size v n xs) (hb:Bw A B):B.ownsRow C e size v n xs :=
 ⟨h.1,h.2.imp id (fun ⟨g,cap,D,E,F,G,H⟩=>⟨g,cap,D,E,F,known hb (Nat.le_refl _) G,H⟩)⟩
theorem je4 {W:World} {b:Nat} {x y z:Value} {t:TypeId} (h:W.heap[b]? = some (.cells #[x,y,z] t (0,0))):SlAt W.heap.size W (.slice (some ⟨b,0,none⟩) 3 3) 3 [x,y,z] :=
 .inr ⟨b,0,3,rfl,(Array.getElem?_eq_some_iff.1 h).1,fun i _=>by rw[cCc h,Nat.zero_add];simp⟩
attribute [-go_sem] Builtin.append_
theorem juA (n:Int) (w:World) (U:67824<=n) (X:n<=16777215) :
  CR 106 #[.int .u64 n] w (.string (strOfNums [250,n / 65536,n / 256 % 256,n % 256])):=by
 have P:17<=Lib.bitLen n.toNat/\Lib.bitLen n.toNat<=24:=by
  rw[Lib.bitLen_shift16 n.toNat (by omega) (by omega)];have Y:=jcn (n.toNat / 65536) (by omega) (by omega);omega
 have A:=Tryz.bits_Len64 n w (by omega) (by omega);generalize Lib.bitLen n.toNat=L at P A;have a:((L:Int)+7) / 8=3:=by omega
 obtain⟨H,Q,F,I,M⟩:=jab w #[.int .u8 250] 5;replace M:w.heap.size<H.heap.size:=by omega
 have B:H.ownsRow w.heap.size 5 1 (.slice (some ⟨w.heap.size,0,none⟩) 1 1) 1 ([250].map (Value.int .u8)):=je0 F;obtain⟨V,Z,G,E,N⟩:=jab H #[.int .u8 (n / 65536),.int .u8 (n / 256 % 256),.int .u8 (n % 256)] 5;replace N:H.heap.size<V.heap.size:=by omega
 have D:=jeZ B E;obtain⟨v9,T,O,C,J,S,-,-⟩:=jbS Tryz.prog 204 jay jaB rfl (by decide) D (I.trans (E.mono (by omega))) (Nat.le_refl _) (by omega) (je4 G) rfl (by simp[Value.oneCell']) (by omega) (by omega) (by decide);have R:=jeP [250,n / 65536,n / 256 % 256,n % 256] rfl (by simp) C;clear C D G F B;go_enter Tryz.func106,Tryz.ntmps106;go_wp2_with (go_at_call 147;refine A.mono ?_;rintro e w' ⟨rfl,rfl⟩);go_ret;exact⟨rfl,J⟩
theorem juB (n:Int) (w:World) (c:16777216<=n) (d:n<=4294967295) :
  CR 106 #[.int .u64 n] w (.string (strOfNums [251,n / 16777216,n / 65536 % 256,n / 256 % 256,n % 256])):=by
 have T:25<=Lib.bitLen n.toNat/\Lib.bitLen n.toNat<=32:=by
  rw[Lib.bitLen_shift24 n.toNat (by omega) (by omega)];have f:=jcn (n.toNat / 16777216) (by omega) (by omega);omega
 have A:=Tryz.bits_Len64 n w (by omega) (by omega);generalize Lib.bitLen n.toNat=L at T A;have h:((L:Int)+7) / 8=4:=by omega
 obtain⟨I,U,G,J,O⟩:=jab w #[.int .u8 251] 5;replace O:w.heap.size<I.heap.size:=by omega
 have B:I.ownsRow w.heap.size 5 1 (.slice (some ⟨w.heap.size,0,none⟩) 1 1) 1 ([251].map (Value.int .u8)):=je0 G;obtain⟨b,c1,Q,R,C,M,Y,-,-⟩:=jap Tryz.prog 204 jay jaB rfl (by decide) (W:=I) B J (Nat.le_refl _) (by omega) [.int .u8 (n / 16777216)] rfl (by simp[Value.oneCell']) (by omega) (by decide);rw[show ([251].map (Value.int .u8))++[Value.int .u8 (n / 16777216)]=[251,n / 16777216].map (Value.int .u8) from rfl] at C;obtain⟨V,g,H,F,P⟩:=jab Q #[.int .u8 (n / 65536 % 256),.int .u8 (n / 256 % 256),.int .u8 (n % 256)] 5;replace P:Q.heap.size<V.heap.size:=by omega
 have E:=jeZ C F;obtain⟨v9,a,S,D,N,Z,-,-⟩:=jbS Tryz.prog 204 jay jaB rfl (by decide) E (M.trans (F.mono (by omega))) (Nat.le_refl _) (by omega) (je4 H) rfl (by simp[Value.oneCell']) (by omega) (by omega) (by decide);have X:=jeP [251,n / 16777216,n / 65536 % 256,n / 256 % 256,n % 256] rfl (by simp) D;clear D E H G B;go_enter Tryz.func106,Tryz.ntmps106;go_wp2_with (go_at_call 147;refine A.mono ?_;rintro e w' ⟨rfl,rfl⟩);go_ret;exact⟨rfl,N⟩
theorem juC (n:Int) (w:World) (j:4294967296<=n) (k:n<=1099511627775) :
  CR 106 #[.int .u64 n] w (.string (strOfNums [252,n / 4294967296,n / 16777216 % 256,n / 65536 % 256,n / 256 % 256,n % 256])):=by
 have Z:33<=Lib.bitLen n.toNat/\Lib.bitLen n.toNat<=40:=by
  rw[Lib.bitLen_shift32 n.toNat (by omega) (by omega)];have l:=jcn (n.toNat / 4294967296) (by omega) (by omega);omega
 have A:=Tryz.bits_Len64 n w (by omega) (by omega);generalize Lib.bitLen n.toNat=L at Z A;have o:((L:Int)+7) / 8=5:=by omega
 obtain⟨J,a,H,M,Q⟩:=jab w #[.int .u8 252] 5;replace Q:w.heap.size<J.heap.size:=by omega
 have B:J.ownsRow w.heap.size 5 1 (.slice (some ⟨w.heap.size,0,none⟩) 1 1) 1 ([252].map (Value.int .u8)):=je0 H;obtain⟨h,c1,Y,T,C,N,c,-,-⟩:=jap Tryz.prog 204 jay jaB rfl (by decide) (W:=J) B M (Nat.le_refl _) (by omega) [.int .u8 (n / 4294967296)] rfl (by simp[Value.oneCell']) (by omega) (by decide);rw[show ([252].map (Value.int .u8))++[Value.int .u8 (n / 4294967296)]=[252,n / 4294967296].map (Value.int .u8) from rfl] at C;obtain⟨i,c2,S,U,D,O,d,-,-⟩:=jap Tryz.prog 204 jay jaB rfl (by decide) (W:=Y) C N (Nat.le_refl _) (by omega) [.int .u8 (n / 16777216 % 256)] rfl (by simp[Value.oneCell']) (by omega) (by decide);rw[show ([252,n / 4294967296].map (Value.int .u8))++[Value.int .u8 (n / 16777216 % 256)]=[252,n / 4294967296,n / 16777216 % 256].map (Value.int .u8) from rfl] at D;obtain⟨V,m,I,G,R⟩:=jab S #[.int .u8 (n / 65536 % 256),.int .u8 (n / 256 % 256),.int .u8 (n % 256)] 5;replace R:S.heap.size<V.heap.size:=by omega
 have F:=jeZ D G;obtain⟨v9,g,X,E,P,f,-,-⟩:=jbS Tryz.prog 204 jay jaB rfl (by decide) F (O.trans (G.mono (by omega))) (Nat.le_refl _) (by omega) (je4 I) rfl (by simp[Value.oneCell']) (by omega) (by omega) (by decide);have b:=jeP [252,n / 4294967296,n / 16777216 % 256,n / 65536 % 256,n / 256 % 256,n % 256] rfl (by simp) E;clear E F I H B;go_enter Tryz.func106,Tryz.ntmps106;go_wp2_with (go_at_call 147;refine A.mono ?_;rintro e w' ⟨rfl,rfl⟩);go_ret;exact⟨rfl,P⟩
theorem juD (n:Int) (w:World) (q:1099511627776<=n) (r:n<=281474976710655) :
  CR 106 #[.int .u64 n] w (.string (strOfNums [253,n / 1099511627776,n / 4294967296 % 256,n / 16777216 % 256,n / 65536 % 256,n / 256 % 256,n % 256])):=by
 have d:41<=Lib.bitLen n.toNat/\Lib.bitLen n.toNat<=48:=by
  rw[Lib.bitLen_shift40 n.toNat (by omega) (by omega)];have s:=jcn (n.toNat / 1099511627776) (by omega) (by omega);omega
 have A:=Tryz.bits_Len64 n w (by omega) (by omega);generalize Lib.bitLen n.toNat=L at d A;have u:((L:Int)+7) / 8=6:=by omega
 obtain⟨M,f,I,N,S⟩:=jab w #[.int .u8 253] 5;replace S:w.heap.size<M.heap.size:=by omega
 have B:M.ownsRow w.heap.size 5 1 (.slice (some ⟨w.heap.size,0,none⟩) 1 1) 1 ([253].map (Value.int .u8)):=je0 I;obtain⟨m,c1,b,X,C,O,h,-,-⟩:=jap Tryz.prog 204 jay jaB rfl (by decide) (W:=M) B N (Nat.le_refl _) (by omega) [.int .u8 (n / 1099511627776)] rfl (by simp[Value.oneCell']) (by omega) (by decide);rw[show ([253].map (Value.int .u8))++[Value.int .u8 (n / 1099511627776)]=[253,n / 1099511627776].map (Value.int .u8) from rfl] at C;obtain⟨o,c2,c,Y,D,P,i,-,-⟩:=jap Tryz.prog 204 jay jaB rfl (by decide) (W:=b) C O (Nat.le_refl _) (by omega) [.int .u8 (n / 4294967296 % 256)] rfl (by simp[Value.oneCell']) (by omega) (by decide);rw[show ([253,n / 1099511627776].map (Value.int .u8))++[Value.int .u8 (n / 4294967296 % 256)]=[253,n / 1099511627776,n / 4294967296 % 256].map (Value.int .u8) from rfl] at D;obtain⟨p,c3,U,Z,E,Q,j,-,-⟩:=jap Tryz.prog 204 jay jaB rfl (by decide) (W:=c) D P (Nat.le_refl _) (by omega) [.int .u8 (n / 16777216 % 256)] rfl (by simp[Value.oneCell']) (by omega) (by decide);rw[show ([253,n / 1099511627776,n / 4294967296 % 256].map (Value.int .u8))++[Value.int .u8 (n / 16777216 % 256)]=[253,n / 1099511627776,n / 4294967296 % 256,n / 16777216 % 256].map (Value.int .u8) from rfl] at E;obtain⟨V,t,J,H,T⟩:=jab U #[.int .u8 (n / 65536 % 256),.int .u8 (n / 256 % 256),.int .u8 (n % 256)] 5;replace T:U.heap.size<V.heap.size:=by omega
 have G:=jeZ E H;obtain⟨v9,l,a,F,R,k,-,-⟩:=jbS Tryz.prog 204 jay jaB rfl (by decide) G (Q.trans (H.mono (by omega))) (Nat.le_refl _) (by omega) (je4 J) rfl (by simp[Value.oneCell']) (by omega) (by omega) (by decide);have g:=jeP [253,n / 1099511627776,n / 4294967296 % 256,n / 16777216 % 256,n / 65536 % 256,n / 256 % 256,n % 256] rfl (by simp) F;clear F G J I B;go_enter Tryz.func106,Tryz.ntmps106;go_wp2_with (go_at_call 147;refine A.mono ?_;rintro e w' ⟨rfl,rfl⟩);go_ret;exact⟨rfl,R⟩
theorem juE (n:Int) (w:World) (x:281474976710656<=n) (y:n<=72057594037927935) :
  CR 106 #[.int .u64 n] w (.string (strOfNums [254,n / 281474976710656,n / 1099511627776 % 256,n / 4294967296 % 256,n / 16777216 % 256,n / 65536 % 256,n / 256 % 256,n % 256])):=by
 have i:49<=Lib.bitLen n.toNat/\Lib.bitLen n.toNat<=56:=by
  rw[Lib.bitLen_shift48 n.toNat (by omega) (by omega)];have z:=jcn (n.toNat / 281474976710656) (by omega) (by omega);omega
 have A:=Tryz.bits_Len64 n w (by omega) (by omega);generalize Lib.bitLen n.toNat=L at i A;have hq:((L:Int)+7) / 8=7:=by omega
 obtain⟨N,j,J,O,U⟩:=jab w #[.int .u8 254] 5;replace U:w.heap.size<N.heap.size:=by omega
 have B:N.ownsRow w.heap.size 5 1 (.slice (some ⟨w.heap.size,0,none⟩) 1 1) 1 ([254].map (Value.int .u8)):=je0 J;obtain⟨s,c1,f,Z,C,P,l,-,-⟩:=jap Tryz.prog 204 jay jaB rfl (by decide) (W:=N) B O (Nat.le_refl _) (by omega) [.int .u8 (n / 281474976710656)] rfl (by simp[Value.oneCell']) (by omega) (by decide);rw[show ([254].map (Value.int .u8))++[Value.int .u8 (n / 281474976710656)]=[254,n / 281474976710656].map (Value.int .u8) from rfl] at C;obtain⟨t,c2,g,a,D,Q,m,-,-⟩:=jap Tryz.prog 204 jay jaB rfl (by decide) (W:=f) C P (Nat.le_refl _) (by omega) [.int .u8 (n / 1099511627776 % 256)] rfl (by simp[Value.oneCell']) (by omega) (by decide);rw[show ([254,n / 281474976710656].map (Value.int .u8))++[Value.int .u8 (n / 1099511627776 % 256)]=[254,n / 281474976710656,n / 1099511627776 % 256].map (Value.int .u8) from rfl] at D;obtain⟨u,c3,h,b,E,R,o,-,-⟩:=jap Tryz.prog 204 jay jaB rfl (by decide) (W:=g) D Q (Nat.le_refl _) (by omega) [.int .u8 (n / 4294967296 % 256)] rfl (by simp[Value.oneCell']) (by omega) (by decide);rw[show ([254,n / 281474976710656,n / 1099511627776 % 256].map (Value.int .u8))++[Value.int .u8 (n / 4294967296 % 256)]=[254,n / 281474976710656,n / 1099511627776 % 256,n / 4294967296 % 256].map (Value.int .u8) from rfl] at E;obtain⟨v,c4,Y,c,F,S,p,-,-⟩:=jap Tryz.prog 204 jay jaB rfl (by decide) (W:=h) E R (Nat.le_refl _) (by omega) [.int .u8 (n / 16777216 % 256)] rfl (by simp[Value.oneCell']) (by omega) (by decide)
 rw[show ([254,n / 281474976710656,n / 1099511627776 % 256,n / 4294967296 % 256].map (Value.int .u8))++[Value.int .u8 (n / 16777216 % 256)]=[254,n / 281474976710656,n / 1099511627776 % 256,n / 4294967296 % 256,n / 16777216 % 256].map (Value.int .u8) from rfl] at F;obtain⟨V,hV,M,I,X⟩:=jab Y #[.int .u8 (n / 65536 % 256),.int .u8 (n / 256 % 256),.int .u8 (n % 256)] 5;replace X:Y.heap.size<V.heap.size:=by omega
 have H:=jeZ F I;obtain⟨v9,r,d,G,T,q,-,-⟩:=jbS Tryz.prog 204 jay jaB rfl (by decide) H (S.trans (I.mono (by omega))) (Nat.le_refl _) (by omega) (je4 M) rfl (by simp[Value.oneCell']) (by omega) (by omega) (by decide);have k:=jeP [254,n / 281474976710656,n / 1099511627776 % 256,n / 4294967296 % 256,n / 16777216 % 256,n / 65536 % 256,n / 256 % 256,n % 256] rfl (by simp) G;clear G H M J B;go_enter Tryz.func106,Tryz.ntmps106;go_wp2_with (go_at_call 147;refine A.mono ?_;rintro e w' ⟨rfl,rfl⟩);go_ret;exact⟨rfl,T⟩
theorem juF (n:Int) (w:World) (h0:72057594037927936<=n) (h1:n<=18446744073709551615) :
  CR 106 #[.int .u64 n] w (.string (strOfNums [255,n / 72057594037927936,n / 281474976710656 % 256,n / 1099511627776 % 256,n / 4294967296 % 256,n / 16777216 % 256,n / 65536 % 256,n / 256 % 256,n % 256])):=by
 have m:57<=Lib.bitLen n.toNat/\Lib.bitLen n.toNat<=64:=by
  rw[Lib.bitLen_shift56 n.toNat (by omega) (by omega)];have h2:=jcn (n.toNat / 72057594037927936) (by omega) (by omega);omega
 have A:=Tryz.bits_Len64 n w (by omega) (by omega);generalize Lib.bitLen n.toNat=L at m A;have hq:((L:Int)+7) / 8=8:=by omega
 obtain⟨O,o,M,P,Y⟩:=jab w #[.int .u8 255] 5;replace Y:w.heap.size<O.heap.size:=by omega
 have B:O.ownsRow w.heap.size 5 1 (.slice (some ⟨w.heap.size,0,none⟩) 1 1) 1 ([255].map (Value.int .u8)):=je0 M;obtain⟨y,c1,i,b,C,Q,q,-,-⟩:=jap Tryz.prog 204 jay jaB rfl (by decide) (W:=O) B P (Nat.le_refl _) (by omega) [.int .u8 (n / 72057594037927936)] rfl (by simp[Value.oneCell']) (by omega) (by decide);rw[show ([255].map (Value.int .u8))++[Value.int .u8 (n / 72057594037927936)]=[255,n / 72057594037927936].map (Value.int .u8) from rfl] at C;obtain⟨z,c2,j,c,D,R,r,-,-⟩:=jap Tryz.prog 204 jay jaB rfl (by decide) (W:=i) C Q (Nat.le_refl _) (by omega) [.int .u8 (n / 281474976710656 % 256)] rfl (by simp[Value.oneCell']) (by omega) (by decide);rw[show ([255,n / 72057594037927936].map (Value.int .u8))++[Value.int .u8 (n / 281474976710656 % 256)]=[255,n / 72057594037927936,n / 281474976710656 % 256].map (Value.int .u8) from rfl] at D;obtain⟨g3,c3,k,d,E,S,s,-,-⟩:=jap Tryz.prog 204 jay jaB rfl (by decide) (W:=j) D R (Nat.le_refl _) (by omega) [.int .u8 (n / 1099511627776 % 256)] rfl (by simp[Value.oneCell']) (by omega) (by decide);rw[show ([255,n / 72057594037927936,n / 281474976710656 % 256].map (Value.int .u8))++[Value.int .u8 (n / 1099511627776 % 256)]=[255,n / 72057594037927936,n / 281474976710656 % 256,n / 1099511627776 % 256].map (Value.int .u8) from rfl] at E;obtain⟨g4,c4,l,f,F,T,t,-,-⟩:=jap Tryz.prog 204 jay jaB rfl (by decide) (W:=k) E S (Nat.le_refl _) (by omega) [.int .u8 (n / 4294967296 % 256)] rfl (by simp[Value.oneCell']) (by omega) (by decide)
 rw[show ([255,n / 72057594037927936,n / 281474976710656 % 256,n / 1099511627776 % 256].map (Value.int .u8))++[Value.int .u8 (n / 4294967296 % 256)]=[255,n / 72057594037927936,n / 281474976710656 % 256,n / 1099511627776 % 256,n / 4294967296 % 256].map (Value.int .u8) from rfl] at F;obtain⟨g5,c5,a,g,G,U,u,-,-⟩:=jap Tryz.prog 204 jay jaB rfl (by decide) (W:=l) F T (Nat.le_refl _) (by omega) [.int .u8 (n / 16777216 % 256)] rfl (by simp[Value.oneCell']) (by omega) (by decide);rw[show ([255,n / 72057594037927936,n / 281474976710656 % 256,n / 1099511627776 % 256,n / 4294967296 % 256].map (Value.int .u8))++[Value.int .u8 (n / 16777216 % 256)]=[255,n / 72057594037927936,n / 281474976710656 % 256,n / 1099511627776 % 256,n / 4294967296 % 256,n / 16777216 % 256].map (Value.int .u8) from rfl] at G;obtain⟨V,hV,N,J,Z⟩:=jab a #[.int .u8 (n / 65536 % 256),.int .u8 (n / 256 % 256),.int .u8 (n % 256)] 5;replace Z:a.heap.size<V.heap.size:=by omega
 have I:=jeZ G J;obtain⟨v9,x,h,H,X,v,-,-⟩:=jbS Tryz.prog 204 jay jaB rfl (by decide) I (U.trans (J.mono (by omega))) (Nat.le_refl _) (by omega) (je4 N) rfl (by simp[Value.oneCell']) (by omega) (by omega) (by decide);have p:=jeP [255,n / 72057594037927936,n / 281474976710656 % 256,n / 1099511627776 % 256,n / 4294967296 % 256,n / 16777216 % 256,n / 65536 % 256,n / 256 % 256,n % 256] rfl (by simp) H;clear H I N M B;go_enter Tryz.func106,Tryz.ntmps106;go_wp2_with (go_at_call 147;refine A.mono ?_;rintro e w' ⟨rfl,rfl⟩);go_ret;exact⟨rfl,X⟩
def jd4 (n:Int):List Int :=
 if n<=240 then [n] else if n<=2287 then [241+(n-240) / 256,(n-240) % 256] else if n<=67823 then [249,(n-2288) / 256,(n-2288) % 256]
 else if n<=16777215 then [250,n / 65536,n / 256 % 256,n % 256]
 else if n<=4294967295 then [251,n / 16777216,n / 65536 % 256,n / 256 % 256,n % 256]
 else if n<=1099511627775 then [252,n / 4294967296,n / 16777216 % 256,n / 65536 % 256,n / 256 % 256,n % 256]
 else if n<=281474976710655 then [253,n / 1099511627776,n / 4294967296 % 256,n / 16777216 % 256,n / 65536 % 256,n / 256 % 256,n % 256]
 else if n<=72057594037927935 then [254,n / 281474976710656,n / 1099511627776 % 256,n / 4294967296 % 256,n / 16777216 % 256,n / 65536 % 256,n / 256 % 256,n % 256]
 else [255,n / 72057594037927936,n / 281474976710656 % 256,n / 1099511627776 % 256,n / 4294967296 % 256,n / 16777216 % 256,n / 65536 % 256,n / 256 % 256,n % 256]
theorem jjD (n:Int) (w:World) (h:U64 n) :
  CR 106 #[.int .u64 n] w (.string (strOfNums (jd4 n))):=by
 obtain⟨D,E⟩:=h;unfold jd4;by_cases A:n<=240
 ·rw[if_pos A];exact jwJ n w D A
 rw[if_neg A];by_cases c1:n<=2287
 ·rw[if_pos c1];exact jwK n w (by omega) c1
 rw[if_neg c1];by_cases c2:n<=67823
 ·rw[if_pos c2];exact jrW n w (by omega) c2
 rw[if_neg c2];by_cases c3:n<=16777215
 ·rw[if_pos c3];exact juA n w (by omega) c3
 rw[if_neg c3];by_cases c4:n<=4294967295
 ·rw[if_pos c4];exact juB n w (by omega) c4
 rw[if_neg c4];by_cases c5:n<=1099511627775
 ·rw[if_pos c5];exact juC n w (by omega) c5
 rw[if_neg c5];by_cases B:n<=281474976710655
 ·rw[if_pos B];exact juD n w (by omega) B
 rw[if_neg B];by_cases C:n<=72057594037927935
 ·rw[if_pos C];exact juE n w (by omega) C
 rw[if_neg C];exact juF n w (by omega) (by omega)
end
def jfa (l:List Int):List UInt8:=l.flatMap fun n=>(jd4 n).map fun k=>UInt8.ofNat k.toNat
theorem jf0 (xs:List Int):Lib.strCells (strOfNums xs)=Lib.byteCells (xs.map fun k=>UInt8.ofNat k.toNat):=by
 rw[Lib.strCells,strOfNums_data];rfl
section
open Go.Shelf
def jkl (before seq tm:Int) (text:ByteArray):List Int:=[before,seq,tm,text.size]
def juU (before seq tm:Int) (text:ByteArray):List UInt8:=jfa (jkl before seq tm text)++text.data.toList
def jal (A B:Int):jpJ:=fun before seq tm text=>jwO A B ⟨(juU before seq tm text).toArray⟩
theorem jgJ (n:Int):(jd4 n).length<=9:=by
 unfold jd4
 repeat' split
 all_goals simp
theorem jpd (l:List Int) (n:Int):jfa (l++[n])=jfa l++(jd4 n).map fun k=>UInt8.ofNat k.toNat:=by simp[jfa]
theorem jiX (l:List Int):(jfa l).length<=9*l.length:=by
 induction l with
 | nil=>simp[jfa]
 | cons x l ih =>
  have:=jgJ x;rw[show jfa (x::l)=(jd4 x).map (fun k=>UInt8.ofNat k.toNat)++jfa l from rfl,List.length_append,List.length_map,List.length_cons];omega
theorem jq1 {B b:Nat} {A:List Value} {w w':World} (h:Lib.IsBuilderF 206 5 B b A w) (hb:Bw w w'):Lib.IsBuilderF 206 5 B b A w':=jq2 h fun j C=>hb.block j C
structure SumIn (A B:Int) (x:Ent) (l:List Int) (bs:List UInt8) (w W:World):Prop where
 key:W.heap[w.heap.size]? = some (.cells #[.int .u64 A,.int .u64 B] 57 (0,0))
 ent:W.heap[w.heap.size+1]? = some (.cells #[.int .u64 x.seq,.int .u64 x.tm,.string x.text,.int .u64 x.sum] 135 (0,0))
 bld:Lib.IsBuilderF 206 5 (w.heap.size+2) (w.heap.size+2) (Lib.byteCells bs) W
 nums:W.heap[w.heap.size+3]? = some (.cells (l.map (Value.int .u64)).toArray 22 (0,0))
 below:Bw w W
 size:w.heap.size+3<W.heap.size
section
variable {A B:Int} {x:Ent} {l:List Int} {bs bs':List UInt8} {w W W':World}
theorem SumIn.go (h:SumIn A B x l bs w W) (hb:Bw W W'):SumIn A B x l bs w W' :=
 ⟨known hb (Nat.le_refl _) h.key,known hb (Nat.le_refl _) h.ent,jq1 h.bld hb,known hb (Nat.le_refl _) h.nums,h.below.trans (hb.mono h.below.size),Nat.lt_of_lt_of_le h.size hb.size⟩
theorem SumIn.put (h:SumIn A B x l bs w W) (C:Below (w.heap.size+2) W W') (D:Lib.OthersKept 5 (some (w.heap.size+2)) W W') (hb:Lib.IsBuilderF 206 5 (w.heap.size+2) (w.heap.size+2) (Lib.byteCells bs') W'):SumIn A B x l bs' w W' :=
 ⟨(C.block _ (by omega)).trans h.key,(C.block _ (by omega)).trans h.ent,hb,D _ _ h.nums (by simp) (fun c E e=>by cases e),h.below.trans (C.mono (by omega)),Nat.lt_of_lt_of_le h.size C.size⟩
end
structure SumEnd (A B:Int) (bs:List UInt8) (w W:World):Prop where
 key:W.heap[w.heap.size]? = some (.cells #[.int .u64 A,.int .u64 B] 57 (0,0))
 bld:Lib.IsBuilderF 206 5 (w.heap.size+2) (w.heap.size+2) (Lib.byteCells bs) W
 below:Bw w W
 size:w.heap.size+3<W.heap.size
theorem SumEnd.go {A B:Int} {D:List UInt8} {w W C:World} (h:SumEnd A B D w W) (hb:Bw W C):SumEnd A B D w C :=
 ⟨known hb (Nat.le_refl _) h.key,jq1 h.bld hb,h.below.trans (hb.mono h.below.size),Nat.lt_of_lt_of_le h.size hb.size⟩
theorem jcP (A B C:Int) (x:Ent) (w:World) (hb:U64 C) (s:U64 x.seq) (t:U64 x.tm) (u:x.text.size<4294967) :
  CR 66 #[.agg #[.int .u64 A,.int .u64 B],.int .u64 C,.agg #[.int .u64 x.seq,.int .u64 x.tm,.string x.text,.int .u64 x.sum]] w (.int .u64 (jal A B C x.seq x.tm x.text)):=by
 have m:Hid (jal A B C x.seq x.tm x.text=jwO A B ⟨(jfa (jkl C x.seq x.tm x.text)++x.text.data.toList).toArray⟩):=rfl
 have HU:Hid (∀ n∈jkl C x.seq x.tm x.text,U64 n):=fun n Q=>by
  simp only[jkl,List.mem_cons,List.not_mem_nil,or_false] at Q;rcases Q with rfl | rfl | rfl | rfl
  ·exact hb
  ·exact s
  ·exact t
  ·exact⟨by omega,by omega⟩
 have ae:IntKind.u64.wrap (x.text.size:Int)=x.text.size:=by rw[IntKind.wrap_u64];omega
 obtain⟨Wa,M,a,b,ab,V,R⟩:=jbF w #[.int .u64 A,.int .u64 B] 57 #[.int .u64 x.seq,.int .u64 x.tm,.string x.text,.int .u64 x.sum] 135 #[.pointer none,.slice none 0 0] 206;obtain⟨q,O,P,F,j⟩:=jab Wa ((jkl C x.seq x.tm x.text).map (Value.int .u64)).toArray 22;rw[R] at P F j
 have d:Lib.IsBuilderF 206 5 (w.heap.size+2) (w.heap.size+2) (Lib.byteCells []) Wa:=by
  obtain⟨Wz,aa,-,-,-,af⟩:=jas w #[.int .u64 A,.int .u64 B] 57 #[.int .u64 x.seq,.int .u64 x.tm,.string x.text,.int .u64 x.sum] 135;rw[aa] at M;rw[<- M,<- af];exact Lib.IsBuilderF.of (Lib.fresh_isBuilder _ _ Wz)
 have T:SumIn A B x (jkl C x.seq x.tm x.text) [] w q:=⟨(F.block _ (by omega)).trans a,(F.block _ (by omega)).trans b,jq1 d (by have e9:=F;rw[<- R] at e9;exact e9),P,V.trans (F.mono (by omega)),by omega⟩;have c0:q.cell? ⟨w.heap.size+1,0,none⟩=some (.int .u64 x.seq):=(cCc T.ent 0);have c1:q.cell? ⟨w.heap.size+1,1,none⟩=some (.int .u64 x.tm):=(cCc T.ent 1);have c2:q.cell? ⟨w.heap.size+1,2,none⟩=some (.string x.text):=(cCc T.ent 2);rw[<- M] at O;simp only[jkl,List.map_cons,List.map_nil] at O;clear a b ab P V F R j d M hb s t;go_enter Tryz.func66,Tryz.ntmps66;go_wp2_with fail;have ad:(jkl C x.seq x.tm x.text).length=4:=rfl;obtain⟨l,hl⟩:∃ l,jkl C x.seq x.tm x.text=l:=⟨_,rfl⟩;rw[hl] at T ad m HU;clear hl c0 c1 c2 O ae;go_loopw [21] (fun i wr=>∃ (k:Nat),i=.int .i64 k/\k<=4/\SumIn A B x l (jfa (l.take k)) w wr) (fun i _=>4-(intOf i).toNat)
 case atStart=>exact⟨0,rfl,Nat.zero_le _,by rw[List.take_zero];exact T⟩
 case round =>
  obtain⟨k,rfl,hk,L⟩:=hrel;by_cases ai:k<4
  ·obtain⟨n,Q⟩:∃ n,l[k]? = some n:=⟨_,List.getElem?_eq_getElem (by omega)⟩
   have c0:wr.cell? ⟨w.heap.size+3,k,none⟩=some (.int .u64 n):=by rw[cCc L.nums k];simp[Q]
   have HP:=Lib.hid (jjD n wr (HU.out n (List.mem_of_getElem? Q)));have o:=Lib.hid L;have HN:=Lib.hid Q;clear L Q;have ah:(k:Int)<4:=by omega
   go_wp2_with fail;refine HP.out.mono ?_;rintro e w1 ⟨rfl,ac⟩;have N:=Lib.hid (o.out.go ac);have ag:=N.out.size;have D:=jiX (l.take k);have p:=Lib.hid (jem (w.heap.size+2) (w.heap.size+2) _ (strOfNums (jd4 n)) w1 N.out.bld (by rw[<- Lib.strCells_length,jf0,Lib.byteCells_length,Lib.byteCells_length,List.length_map];have:=jgJ n;rw[List.length_take] at D;omega) (by omega))
   have U:Hid (∀ S,Lib.BuilderAtF 206 5 (w.heap.size+2) (w.heap.size+2) (.pointer (some ⟨w.heap.size+2,0,none⟩)) (Lib.byteCells (jfa (l.take k))++Lib.strCells (strOfNums (jd4 n))) S->Lib.IsBuilderF 206 5 (w.heap.size+2) (w.heap.size+2) (Lib.byteCells (jfa (l.take (k+1)))) S):=fun S h=>by
    rw[jf0,<- Lib.byteCells_append] at h;rw[jaf HN.out,jpd];exact .inr h
   clear D;go_wp2_with (go_at_call 105;refine p.out.mono ?_;rintro e w2 ⟨rfl,H,I,J⟩);go_roundw
   case rel=>exact⟨k+1,by go_num,by omega,N.out.put I J (U.out _ H)⟩
   case measure=>simp[intOf];omega
  ·obtain rfl:k=4:=by omega
   rw[List.take_of_length_le (by omega)] at L;have o:=Lib.hid L;have c2:wr.cell? ⟨w.heap.size+1,2,none⟩=some (.string x.text):=cCc L.ent 2;have ag:=L.size;have D:=jiX l;have p:=Lib.hid (jem (w.heap.size+2) (w.heap.size+2) _ x.text wr L.bld (by rw[Lib.byteCells_length];omega) (by omega))
   have U:Hid (∀ S,Lib.BuilderAtF 206 5 (w.heap.size+2) (w.heap.size+2) (.pointer (some ⟨w.heap.size+2,0,none⟩)) (Lib.byteCells (jfa l)++Lib.strCells x.text) S->Lib.IsBuilderF 206 5 (w.heap.size+2) (w.heap.size+2) (Lib.byteCells (jfa l++x.text.data.toList)) S):=fun S h=>by
    rw[Lib.byteCells_append];exact .inr h
   have hz:(jfa l++x.text.data.toList).length<4294967281:=by
    have h8:x.text.data.toList.length=x.text.size:=Array.length_toList;rw[List.length_append];omega
   have HZ:=Lib.hid hz;clear D L hz;obtain⟨E,c⟩:∃ E,jfa l++x.text.data.toList=E:=⟨_,rfl⟩;rw[c] at m U HZ;have f:(⟨E.toArray⟩:ByteArray).size=E.length:=by show E.toArray.size=_;rw[List.size_toArray]
   go_wp2_with (go_at_call 105;refine p.out.mono ?_;rintro e w2 ⟨rfl,H,I,J⟩);have G:=o.out.put I J (U.out _ H);let Inv:World->Prop:=SumEnd A B E w;have g:∀ W W',Inv W->Bw W W'->Inv W':=fun W W' h hb=>SumEnd.go h hb
   have q0:∀ X:WIn Inv,X.world.cell? ⟨w.heap.size,0,none⟩=some (.int .u64 A):=fun X=>cCc (SumEnd.key X.ok) 0
   have q1:∀ X:WIn Inv,X.world.cell? ⟨w.heap.size,1,none⟩=some (.int .u64 B):=fun X=>cCc (SumEnd.key X.ok) 1
   have K1:Hid (∀ X:WIn Inv,Calls Tryz.prog 108 #[.pointer (some ⟨w.heap.size+1+1,0,none⟩)] X.world fun e w'=>e=.returned (.string ⟨E.toArray⟩)/\∃ Y:WIn Inv,w'=Y.world):=fun X=>by
    have h:=SumEnd.size X.ok;exact (Tryz.Builder_String_any_f (w.heap.size+2) (w.heap.size+2) E X.world (SumEnd.bld X.ok) (by omega)).mono fun e w' ⟨s,t,u⟩=>⟨s,⟨w',⟨(u.block _ (by omega)).trans (SumEnd.key X.ok),t,(SumEnd.below X.ok).trans (u.mono (by omega)),Nat.lt_of_lt_of_le h u.size⟩⟩,rfl⟩
   have y:Hid (∀ X:WIn Inv,Calls Tryz.prog 107 #[.agg #[.int .u64 A,.int .u64 B],.string ⟨E.toArray⟩] X.world fun e w'=>e=.returned (.int .u64 (jwO A B ⟨E.toArray⟩))/\∃ Y:WIn Inv,w'=Y.world):=fun X=>jah g (jm0 A B ⟨E.toArray⟩ X.world (by rw[f];exact HZ.out))
   have HQ:Hid (∀ X:WIn Inv,SumEnd A B E w X.world):=fun X=>X.ok
   have Z:Inv w2.drew:=SumEnd.go ⟨G.key,G.bld,G.below,G.size⟩ (Below.refl _ _).drew;have aj:Nonempty (WIn Inv):=⟨⟨_,Z⟩⟩;obtain⟨r,hr⟩:∃ r,jwO A B ⟨E.toArray⟩=r:=⟨_,rfl⟩;rw[hr] at y m;clear g G f c hr o p U H I J T;clear_value Inv;refine jao Inv (by kernel_rfl) (by kernel_rfl) Z ?_
   repeat (first | go_big_quiet_step ((first | (go_at_call 108;with_reducible exact K1.out _) | (go_at_call 107;with_reducible exact y.out _))) | quiet_step ((first | (go_at_call 108;with_reducible exact K1.out _) | (go_at_call 107;with_reducible exact y.out _))))
   refine wpQuiet_nil ?_;rintro _ ⟨X,rfl⟩;have v:=Lib.hid (HQ.out X).below;go_wp2_with fail;go_ret;exact⟨congrArg (fun z=>Ending.returned (.int .u64 z)) m.out.symm,v.out⟩
end
section
open Go.Shelf
abbrev jii (n:Nat) (w:World) (a:Option Addr) (len cap:Nat) (l:List Ent):Prop:=SlC Ent.enc 4 n w a len cap l
def jxU (x:Ent):Value:=.agg #[.int .u64 x.seq,.int .u64 x.tm,.string x.text,.int .u64 x.sum]
def jmc (x:Ent):Prop:=U64 x.seq/\U64 x.tm/\x.text.size<4294967/\U64 x.sum
theorem jdt {n m cap k:Nat} {w:World} {a:Option Addr} {l:List Ent} {x:Ent} (h:jii n w a m cap l) (B:l[k]? = some x):∃ b off,a=some ⟨b,off,none⟩/\b<n/\w.cell? ⟨b,off+k*4,none⟩=some (.int .u64 x.seq)/\w.cell? ⟨b,off+k*4+1,none⟩=some (.int .u64 x.tm)/\w.cell? ⟨b,off+k*4+2,none⟩=some (.string x.text)/\w.cell? ⟨b,off+k*4+3,none⟩=some (.int .u64 x.sum):=by
 obtain⟨b,off,e,hb,A⟩:=h.1.2 k x B;exact⟨b,off,e,hb,A 0 (by omega),A 1 (by omega),A 2 (by omega),A 3 (by omega)⟩
theorem jhs {l:List Ent} {m:Nat} (h:m+1=l.length):∃ x,l[m]? = some x/\l.getLast? = some x:=by
 have e:l[m]? = some (l[m]'(by omega)):=List.getElem?_eq_getElem (by omega);exact⟨_,e,by rw[List.getLast?_eq_getElem?,show l.length-1=m by omega];exact e⟩
theorem js5 (g:Lg) (a:Option Addr) (len cap:Nat) (w:World) (h:jii w.heap.size w a len cap g.l) :
  CR 65 #[.agg #[.int .u64 g.before,.slice a len cap]] w (.int .u64 (jby g)):=by
 obtain⟨M,J,C,B,D⟩:=jab w #[.int .u64 g.before,.slice a len cap] 77;have A:=h.1.1;have L:=Nat.le_trans h.2.1 h.2.2.1;unfold maxLen at L;obtain⟨N,c1⟩:=cl2 C;have E:=(h.below B)
 cases len with
 | zero =>
  have I:jby g=0:=by unfold jby;rw[List.eq_nil_of_length_eq_zero A.symm];rfl
  rw[I];clear h A E C D;go_enter Tryz.func65,Tryz.ntmps65;go_wp2_with fail;go_ret;exact⟨rfl,B⟩
 | succ m =>
  obtain⟨x,G,F⟩:=jhs A;obtain⟨b,off,rfl,hb,O,P,Q,R⟩:=jdt E G;have H:Hid (jby g=x.seq):=by unfold jby;rw[Hid,F]
  clear h A E C D F G;go_enter Tryz.func65,Tryz.ntmps65;go_wp2_with fail;go_ret;exact⟨congrArg (fun z=>Ending.returned (.int .u64 z)) H.out.symm,B⟩
theorem js4 (g:Lg) (a:Option Addr) (len cap:Nat) (w:World) (h:jii w.heap.size w a len cap g.l) :
  CR 67 #[.agg #[.int .u64 g.before,.slice a len cap]] w (.int .u64 (jhA g)):=by
 obtain⟨M,J,C,B,D⟩:=jab w #[.int .u64 g.before,.slice a len cap] 77;have A:=h.1.1;have L:=Nat.le_trans h.2.1 h.2.2.1;unfold maxLen at L;obtain⟨N,c1⟩:=cl2 C;have E:=(h.below B)
 cases len with
 | zero =>
  have I:jhA g=g.before:=by unfold jhA;rw[List.eq_nil_of_length_eq_zero A.symm];rfl
  rw[I];clear h A E C D;go_enter Tryz.func67,Tryz.ntmps67;go_wp2_with fail;go_ret;exact⟨rfl,B⟩
 | succ m =>
  obtain⟨x,G,F⟩:=jhs A;obtain⟨b,off,rfl,hb,O,P,Q,R⟩:=jdt E G;have H:Hid (jhA g=x.sum):=by unfold jhA;rw[Hid,F]
  clear h A E C D F G;go_enter Tryz.func67,Tryz.ntmps67;go_wp2_with fail;go_ret;exact⟨congrArg (fun z=>Ending.returned (.int .u64 z)) H.out.symm,B⟩
theorem jmz (x y:Ent) (w:World) (J:U64 x.seq):CR 103 #[jxU x,jxU y] w (.bool (joT x y)):=by
 unfold jxU;obtain⟨L,I,D,E,A,H⟩:=jas w #[.int .u64 x.seq,.int .u64 x.tm,.string x.text,.int .u64 x.sum] 135 #[.int .u64 y.seq,.int .u64 y.tm,.string y.text,.int .u64 y.sum] 135;obtain⟨M,c1,c2,c3⟩:=cl4 D;obtain⟨N,O,P,Q⟩:=cl4 E;have B:Hid (joT x y=(decide (x.seq<18446744073709551615)&&(y.seq==x.seq+1)&&decide (x.tm<=y.tm))):=rfl;clear D E H;by_cases h:x.seq<18446744073709551615
 ·have R:IntKind.u64.wrap (x.seq+1)=x.seq+1:=by rw[IntKind.wrap_u64];have:=J.1;omega
  by_cases F:y.seq=x.seq+1
  ·have G:(y.seq==x.seq+1)=true:=by simp[F]
   have C:Hid (joT x y=decide (x.tm<=y.tm)):=by rw[Hid,B.out,decide_eq_true h,G];rfl
   clear F B;go_enter Tryz.func103,Tryz.ntmps103;go_wp2_with fail;go_ret;exact⟨congrArg (fun z=>Ending.returned (.bool z)) C.out.symm,A⟩
  ·have G:(y.seq==x.seq+1)=false:=by simp[F]
   have C:Hid (joT x y=false):=by rw[Hid,B.out,G];simp
   clear F B;go_enter Tryz.func103,Tryz.ntmps103;go_wp2_with fail;go_ret;exact⟨congrArg (fun z=>Ending.returned (.bool z)) C.out.symm,A⟩
 ·have C:Hid (joT x y=false):=by rw[Hid,B.out,decide_eq_false h];rfl
  clear B;go_enter Tryz.func103,Tryz.ntmps103;go_wp2_with fail;go_ret;exact⟨congrArg (fun z=>Ending.returned (.bool z)) C.out.symm,A⟩
theorem jqo {S:jpJ} {l:List Ent} {k:Nat} {x:Ent} (h:l[k]? = some x) (b:Int):jbG S b (l.drop k)=((x.sum==S b x.seq x.tm x.text)&&jbG S x.sum (l.drop (k+1))):=by
 rw[jbB h];rfl
structure ChIn (A B:Int) (x:Ent) (w:World) (n:Nat) (W:World):Prop where
 key:W.heap[w.heap.size]? = some (.cells #[.int .u64 A,.int .u64 B] 57 (0,0))
 box:W.heap[n]? = some (.cells #[.int .u64 x.seq,.int .u64 x.tm,.string x.text,.int .u64 x.sum] 135 (0,0))
 below:Bw w W
theorem ChIn.go {A B:Int} {x:Ent} {w W C:World} {n:Nat} (h:ChIn A B x w n W) (hb:Bw W C):ChIn A B x w n C :=
 ⟨known hb (Nat.le_refl _) h.key,known hb (Nat.le_refl _) h.box,h.below.trans (hb.mono h.below.size)⟩
theorem jma (A B C:Int) (l:List Ent) (a:Option Addr) (cap:Nat) (w:World) (h:jii w.heap.size w a l.length cap l) (hb:U64 C) (t:∀ x∈l,jmc x) :
  Calls Tryz.prog 104 #[.agg #[.int .u64 A,.int .u64 B],.int .u64 C,.slice a l.length cap] w fun e w'=>(∃ n:Int,e=.returned (.tuple #[.int .i64 n,.bool (jbG (jal A B) C l)]))/\Bw w w':=by
 obtain⟨W0,aa,N,Z,ac⟩:=jab w #[.int .u64 A,.int .u64 B] 57;have H:=Lib.hid h;have v:=Lib.hid t;have hm:=Nat.le_trans h.2.1 h.2.2.1;unfold maxLen at hm;have z:=Lib.hid N;clear h t N;go_enter Tryz.func104,Tryz.ntmps104;go_wp2_with fail;go_loopw [1,12] (fun b i wr=>∃ (k:Nat) (G:Int),b=.int .u64 G/\i=.int .i64 k/\k<=l.length/\U64 G/\Hid (jbG (jal A B) C l=jbG (jal A B) G (l.drop k))/\Bw w wr/\Hid (wr.heap[w.heap.size]? = some (.cells #[.int .u64 A,.int .u64 B] 57 (0,0)))) (fun _ i _=>l.length-(intOf i).toNat)
 case atStart=>exact⟨0,C,rfl,rfl,Nat.zero_le _,hb,rfl,Z,z.out⟩
 case round =>
  obtain⟨k,G,rfl,rfl,hk,P,o,R,HY⟩:=hrel;by_cases f:k<l.length
  ·obtain⟨x,S⟩:∃ x,l[k]? = some x:=⟨_,List.getElem?_eq_getElem f⟩
   obtain⟨b,off,rfl,ab,r0,r1,r2,r3⟩:=jdt (H.out.below R) S;obtain⟨q,c,O,J,j⟩:=jab wr #[.int .u64 x.seq,.int .u64 x.tm,.string x.text,.int .u64 x.sum] 135;have E:=v.out x (List.mem_of_getElem? S);have y:=Lib.hid E.2.2.2;have s:ChIn A B x w wr.heap.size q:=⟨known J (Nat.le_refl _) HY.out,O,R.trans (J.mono R.size)⟩;have I:Hid (jbG (jal A B) C l=((x.sum==jal A B G x.seq x.tm x.text)&&jbG (jal A B) x.sum (l.drop (k+1)))):=by rw[Hid,o.out,jqo S]
   let Inv:World->Prop:=ChIn A B x w wr.heap.size;have Q:∀ W U,Inv W->Bw W U->Inv U:=fun W U h hb=>ChIn.go h hb
   have q0:∀ X:WIn Inv,X.world.cell? ⟨w.heap.size,0,none⟩=some (.int .u64 A):=fun X=>cCc (ChIn.key X.ok) 0
   have q1:∀ X:WIn Inv,X.world.cell? ⟨w.heap.size,1,none⟩=some (.int .u64 B):=fun X=>cCc (ChIn.key X.ok) 1
   have p0:∀ X:WIn Inv,X.world.cell? ⟨wr.heap.size,0,none⟩=some (.int .u64 x.seq):=fun X=>cCc (ChIn.box X.ok) 0
   have p1:∀ X:WIn Inv,X.world.cell? ⟨wr.heap.size,1,none⟩=some (.int .u64 x.tm):=fun X=>cCc (ChIn.box X.ok) 1
   have p2:∀ X:WIn Inv,X.world.cell? ⟨wr.heap.size,2,none⟩=some (.string x.text):=fun X=>cCc (ChIn.box X.ok) 2
   have u:∀ X:WIn Inv,X.world.cell? ⟨wr.heap.size,3,none⟩=some (.int .u64 x.sum):=fun X=>cCc (ChIn.box X.ok) 3
   obtain⟨r,hr⟩:∃ r,jal A B G x.seq x.tm x.text=r:=⟨_,rfl⟩
   have T:Hid (∀ X:WIn Inv,Calls Tryz.prog 66 #[.agg #[.int .u64 A,.int .u64 B],.int .u64 G,.agg #[.int .u64 x.seq,.int .u64 x.tm,.string x.text,.int .u64 x.sum]] X.world fun e w'=>e=.returned (.int .u64 r)/\∃ Y:WIn Inv,w'=Y.world):=fun X=>by
    rw[<- hr];exact jah Q (jcP A B G x X.world P E.1 E.2.1 E.2.2.1)
   have p:Hid (∀ X:WIn Inv,ChIn A B x w wr.heap.size X.world):=fun X=>X.ok
   have L:Inv q.drew:=ChIn.go s (Below.refl _ _).drew;have g:Nonempty (WIn Inv):=⟨⟨_,L⟩⟩;rw[hr] at I;clear Q s hr O J j E P S;clear_value Inv;go_wp2_with fail;refine jao Inv (by kernel_rfl) (by kernel_rfl) L ?_
   repeat (first | go_big_quiet_step ((go_at_call 66;with_reducible exact T.out _)) | quiet_step ((go_at_call 66;with_reducible exact T.out _)))
   refine wpQuiet_nil ?_;rintro _ ⟨X,rfl⟩;have F:=Lib.hid (p.out X);have m:=u X;generalize X.world=V at F m ⊢;clear q0 q1 p0 p1 p2 u T p L g X r0 r1 r2 r3 c;clear Inv;by_cases M:x.sum=r
   ·have d:(x.sum != r)=false:=by simp[M]
    have D:Hid (jbG (jal A B) C l=jbG (jal A B) x.sum (l.drop (k+1))):=by rw[Hid,I.out,M];simp
    clear M;go_wp2_with fail;go_roundw
    case rel=>exact⟨k+1,x.sum,rfl,by go_num,by omega,y.out,D.out,F.out.below,F.out.key⟩
    case measure=>simp[intOf];omega
   ·have d:(x.sum != r)=true:=by simp[M]
    have D:Hid (jbG (jal A B) C l=false):=by rw[Hid,I.out,beq_eq_false_iff_ne.2 M];rfl
    clear M;go_wp2_with fail;go_ret2;rw[D.out];exact⟨⟨_,rfl⟩,F.out.below⟩
  ·obtain rfl:k=l.length:=by omega
   have D:Hid (jbG (jal A B) C l=true):=by rw[Hid,o.out,List.drop_length];rfl
   go_wp2_with fail;go_ret2;rw[D.out];exact⟨⟨_,rfl⟩,R⟩
structure RtIn (A B before:Int) (a:Option Addr) (len cap:Nat) (w W:World):Prop where
 key:W.heap[w.heap.size]? = some (.cells #[.int .u64 A,.int .u64 B] 57 (0,0))
 log:W.heap[w.heap.size+1]? = some (.cells #[.int .u64 before,.slice a len cap] 77 (0,0))
 below:Bw w W
 size:w.heap.size+1<W.heap.size
theorem RtIn.go {A B C:Int} {a:Option Addr} {len cap:Nat} {w W D:World} (h:RtIn A B C a len cap w W) (hb:Bw W D):RtIn A B C a len cap w D :=
 ⟨known hb (Nat.le_refl _) h.key,known hb (Nat.le_refl _) h.log,h.below.trans (hb.mono h.below.size),Nat.lt_of_lt_of_le h.size hb.size⟩
structure RtX (A B before:Int) (a:Option Addr) (len cap:Nat) (x:Ent) (w:World) (n:Nat) (W:World):Prop where
 rt:RtIn A B before a len cap w W
 box:W.heap[n]? = some (.cells #[.int .u64 x.seq,.int .u64 x.tm,.string x.text,.int .u64 x.sum] 135 (0,0))
theorem RtX.go {A B C:Int} {a:Option Addr} {len cap n:Nat} {x:Ent} {w W D:World} (h:RtX A B C a len cap x w n W) (hb:Bw W D):RtX A B C a len cap x w n D:=⟨h.rt.go hb,known hb (Nat.le_refl _) h.box⟩
theorem jh5 {l:List Ent} {k:Nat} {x:Ent} (h:l[k]? = some x) (p:Option Ent):jbo p (l.drop k)=(decide (x.text.size<=200)&&(match p with | some a=>joT a x | none=>true)&&jbo (some x) (l.drop (k+1))):=by
 rw[jbB h];rfl
theorem jhk (A B:Int) (g:Lg) (a:Option Addr) (cap:Nat) (w:World) (h:jii w.heap.size w a g.l.length cap g.l) (hb:U64 g.before) (ho:∀ x∈g.l,jmc x) :
  CR 64 #[.agg #[.int .u64 A,.int .u64 B],.agg #[.int .u64 g.before,.slice a g.l.length cap]] w (.bool (jmI (jal A B) g)):=by
 obtain⟨D,l⟩:=g;dsimp only at *;obtain⟨W0,aj,f,j,I,am⟩:=jas w #[.int .u64 A,.int .u64 B] 57 #[.int .u64 D,.slice a l.length cap] 77;have M:RtIn A B D a l.length cap w W0:=⟨f,j,I,by omega⟩;have HC:=Lib.hid (fun W (ac:Bw w W)=>jma A B D l a cap W ((h.below ac).mono ac.size) hb ho);have J:Hid (jmI (jal A B) ⟨D,l⟩=(decide (l.length<=30)&&jiG ⟨D,l⟩&&jbo none l&&jbG (jal A B) D l)):=rfl;have O:Hid (l=[]->jbG (jal A B) D l=true):=fun h=>by rw[h];rfl
 have H:=Lib.hid h;have HO:=Lib.hid ho;have hm:=Nat.le_trans h.2.1 h.2.2.1;unfold maxLen at hm;obtain⟨c0,c1⟩:=cl2 f;obtain⟨d0,d1⟩:=cl2 j;have HI:=Lib.hid M;obtain⟨R,hR⟩:∃ R,jmI (jal A B) ⟨D,l⟩=R:=⟨_,rfl⟩;obtain⟨C,o⟩:∃ C,jbG (jal A B) D l=C:=⟨_,rfl⟩;rw[hR,o] at J;rw[o] at HC O;rw[hR];clear f j h hb ho M am hR o;by_cases P:l.length<=30
 ·have t1:decide ((30:Int)<l.length)=false:=by simp;omega
  rw[decide_eq_true P,Bool.true_and] at J
  cases p:l with
  | nil =>
   subst p;have o:C=true:=O.out rfl;have E:Hid (R=(D==0)):=by rw[Hid,J.out,o];simp[jiG,jbo]
   rw[E.out];clear P J o HC H HO O;go_enter Tryz.func64,Tryz.ntmps64;go_wp2_with fail;go_ret;exact⟨rfl,by rw[<- aj] at I;exact I⟩
  | cons x0 xs =>
   have af:l[0]? = some x0:=by rw[p];rfl
   have ab:jiG ⟨D,l⟩ = !(decide (x0.seq<1)||(x0.seq==1&&D != 0)):=by rw[p];rfl
   have aq:0<l.length:=by rw[p];simp
   rw[ab] at J;rw[<- p];clear ab p O;obtain⟨b,off,rfl,au,r0,r1,r2,r3⟩:=jdt (H.out.below HI.out.below) af;simp only[Nat.zero_mul,Nat.add_zero] at r0 r1 r2 r3;clear af;by_cases f1:x0.seq<1
   ·have E:Hid (R=false):=by rw[Hid,J.out,decide_eq_true f1];rfl
    rw[E.out];clear J;go_enter Tryz.func64,Tryz.ntmps64;go_wp2_with fail;go_ret;exact⟨rfl,I⟩
   ·by_cases s:x0.seq=1/\D≠0
    ·have g2:(x0.seq==1)=true:=by simp[s.1]
     have g3:(D != 0)=true:=by simp[s.2]
     have E:Hid (R=false):=by rw[Hid,J.out,g2,g3];simp
     rw[E.out];clear J s;go_enter Tryz.func64,Tryz.ntmps64;go_wp2_with fail;go_ret;exact⟨rfl,I⟩
    ·have hw:((x0.seq==1)=true/\(D != 0)=false)\/((x0.seq==1)=false/\True):=by
      by_cases g:x0.seq=1
      ·exact .inl ⟨by simp[g],by simpa [g] using s⟩
      ·exact .inr ⟨by simp[g],trivial⟩
     have v:R=(jbo none l&&C):=by
      rw[J.out,decide_eq_false f1];rcases hw with⟨t,h2⟩ | ⟨t,-⟩
      ·rw[t,h2];rfl
      ·rw[t];rfl
     have Z:=Lib.hid v;clear J s v;rcases hw with⟨g2,g3⟩ | ⟨g2,g3⟩
     all_goals
      go_enter Tryz.func64,Tryz.ntmps64;go_wp2_with fail;go_loopw [42] (fun i wr=>∃ (k:Nat),i=.int .i64 k/\k<=l.length/\RtIn A B D (some ⟨b,off,none⟩) l.length cap w wr/\Hid (jbo none l=jbo (if k=0 then none else l[k-1]?) (l.drop k))) (fun i _=>l.length-(intOf i).toNat)
      case atStart=>exact⟨0,rfl,Nat.zero_le _,HI.out,rfl⟩
      case round =>
       obtain⟨k,rfl,hk,M,U⟩:=hrel;by_cases al:k<l.length
       ·obtain⟨x,T⟩:∃ x,l[k]? = some x:=⟨_,List.getElem?_eq_getElem al⟩
        obtain⟨b',ag,e,-,s0,s1,s2,s3⟩:=jdt (H.out.below M.below) T
        cases e
        obtain⟨W1,aa,d,u,an⟩:=jab wr #[.int .u64 x.seq,.int .u64 x.tm,.string x.text,.int .u64 x.sum] 135;have Q:RtX A B D (some ⟨b,off,none⟩) l.length cap x w wr.heap.size W1:=⟨M.go u,d⟩;have v2:W1.cell? ⟨wr.heap.size,2,none⟩=some (.string x.text):=cCc d 2;have ah:=Lib.hid Q.rt.below;clear M d u an;by_cases q:x.text.size<=200
        ·have ao:decide ((200:Int)<x.text.size)=false:=by simp;omega
         let Inv:World->Prop:=RtX A B D (some ⟨b,off,none⟩) l.length cap x w wr.heap.size;have n:∀ W W',Inv W->Bw W W'->Inv W':=fun W W' h hb=>RtX.go h hb
         have q0:∀ X:WIn Inv,X.world.cell? ⟨w.heap.size+1,1,none⟩=some (.slice (some ⟨b,off,none⟩) l.length cap):=fun X=>cCc (RtX.rt X.ok).log 1
         have p0:∀ X:WIn Inv,X.world.cell? ⟨wr.heap.size,0,none⟩=some (.int .u64 x.seq):=fun X=>cCc (RtX.box X.ok) 0
         have p1:∀ X:WIn Inv,X.world.cell? ⟨wr.heap.size,1,none⟩=some (.int .u64 x.tm):=fun X=>cCc (RtX.box X.ok) 1
         have p2:∀ X:WIn Inv,X.world.cell? ⟨wr.heap.size,2,none⟩=some (.string x.text):=fun X=>cCc (RtX.box X.ok) 2
         have p3:∀ X:WIn Inv,X.world.cell? ⟨wr.heap.size,3,none⟩=some (.int .u64 x.sum):=fun X=>cCc (RtX.box X.ok) 3
         have HQ:Hid (∀ X:WIn Inv,RtX A B D (some ⟨b,off,none⟩) l.length cap x w wr.heap.size X.world):=fun X=>X.ok
         have N:Inv W1.drew:=RtX.go Q (Below.refl _ _).drew;have ad:Nonempty (WIn Inv):=⟨⟨_,N⟩⟩;by_cases S:0<k
         ·obtain⟨m,rfl⟩:∃ m,k=m+1:=⟨k-1,by omega⟩
          obtain⟨y,hy⟩:∃ y,l[m]? = some y:=⟨_,List.getElem?_eq_getElem (by omega)⟩
          have o0:∀ X:WIn Inv,X.world.cell? ⟨b,off+m*4,none⟩=some (.int .u64 y.seq)/\X.world.cell? ⟨b,off+m*4+1,none⟩=some (.int .u64 y.tm)/\X.world.cell? ⟨b,off+m*4+2,none⟩=some (.string y.text)/\X.world.cell? ⟨b,off+m*4+3,none⟩=some (.int .u64 y.sum):=fun X=>by
           obtain⟨b',ag,e,-,h0,t,h2,h3⟩:=jdt (H.out.below (RtX.rt X.ok).below) hy
           cases e
           exact⟨h0,t,h2,h3⟩
          have t0:=fun X=>(o0 X).1
          have ap:=fun X=>(o0 X).2.1
          have t2:=fun X=>(o0 X).2.2.1
          have t3:=fun X=>(o0 X).2.2.2
          have ae:=(HO.out y (List.mem_of_getElem? hy)).1
          have L:Hid (jbo none l=(joT y x&&jbo (some x) (l.drop (m+1+1)))):=by
           rw[Hid,U.out,if_neg (by omega),show m+1-1=m by omega,hy,jh5 T,decide_eq_true q];rfl
          obtain⟨F,hF⟩:∃ F,joT y x=F:=⟨_,rfl⟩
          have K1:Hid (∀ X:WIn Inv,Calls Tryz.prog 103 #[.agg #[.int .u64 y.seq,.int .u64 y.tm,.string y.text,.int .u64 y.sum],.agg #[.int .u64 x.seq,.int .u64 x.tm,.string x.text,.int .u64 x.sum]] X.world fun e w'=>e=.returned (.bool F)/\∃ Y:WIn Inv,w'=Y.world):=fun X=>by
           rw[<- hF];exact jah n (jmz y x X.world ae)
          rw[hF] at L;have S:decide ((0:Int)<(m:Int)+1)=true:=decide_eq_true (by omega);clear hy o0 hF ae U;clear n q Q;have c:=Lib.hid T;clear T;clear_value Inv;go_wp2_with fail;refine jao Inv (by kernel_rfl) (by kernel_rfl) N ?_
          repeat (first | go_big_quiet_step ((go_at_call 103;with_reducible exact K1.out _)) | quiet_step ((go_at_call 103;with_reducible exact K1.out _)))
          refine wpQuiet_nil ?_;rintro _ ⟨X,rfl⟩;have G:=Lib.hid (HQ.out X).rt;generalize X.world=V at G ⊢;clear q0 p0 p1 p2 p3 t0 ap t2 t3 K1 HQ N ad X s0 s1 s2 s3 aa;clear Inv
          cases F with
          | true =>
           have H8:Hid (jbo none l=jbo (some x) (l.drop (m+1+1))):=by rw[Hid,L.out];rfl
           go_wp2_with fail;go_roundw
           case rel=>exact⟨m+1+1,by go_num,by omega,G.out,by rw[Hid,H8.out,if_neg (by omega),show m+1+1-1=m+1 by omega,c.out]⟩
           case measure=>simp[intOf];omega
          | false =>
           have E:Hid (R=false):=by rw[Hid,Z.out,L.out];rfl
           go_wp2_with fail;go_ret;exact⟨congrArg (fun z=>Ending.returned (.bool z)) E.out.symm,G.out.below⟩
         ·have ar:=Lib.hid S
          have av:decide ((0:Int)<(k:Int))=false:=by simp;omega
          have aw:decide (0<k)=false:=by simpa using S
          have L:Hid (jbo none l=jbo (some x) (l.drop (k+1))):=by rw[Hid,U.out,if_pos (by omega),jh5 T,decide_eq_true q];rfl
          have c:=Lib.hid T;clear n T U q Q S;clear_value Inv;go_wp2_with fail;refine jao Inv (by kernel_rfl) (by kernel_rfl) N ?_
          repeat (first | go_big_quiet_step (fail) | quiet_step (fail))
          refine wpQuiet_nil ?_;rintro _ ⟨X,rfl⟩;have G:=Lib.hid (HQ.out X).rt;generalize X.world=V at G ⊢;clear q0 p0 p1 p2 p3 HQ N ad X s0 s1 s2 s3 aa;clear Inv;go_wp2_with fail;go_roundw
          case rel=>exact⟨k+1,by go_num,by omega,G.out,by rw[Hid,L.out,if_neg (by omega),Nat.add_sub_cancel,c.out]⟩
          case measure=>simp[intOf];omega
        ·have ao:decide ((200:Int)<x.text.size)=true:=by simp;omega
         have E:Hid (R=false):=by rw[Hid,Z.out,U.out,jh5 T,decide_eq_false q];rfl
         clear q U T;go_wp2_with fail;go_ret;exact⟨congrArg (fun z=>Ending.returned (.bool z)) E.out.symm,ah.out⟩
       ·obtain rfl:k=l.length:=by omega
        have E:Hid (R=C):=by rw[Hid,Z.out,U.out,List.drop_length];rfl
        have r:=Lib.hid M;obtain⟨u0,u1⟩:=cl2 M.key;obtain⟨v0,v1⟩:=cl2 M.log;have ai:=HC.out wr M.below;clear M U;go_wp2_with (go_at_call 104;refine ai.mono ?_;rintro e w4 ⟨⟨n4,rfl⟩,ak⟩);go_ret;exact⟨congrArg (fun z=>Ending.returned (.bool z)) E.out.symm,r.out.below.trans (ak.mono r.out.below.size)⟩
 ·have t1:decide ((30:Int)<l.length)=true:=by simp;omega
  have E:Hid (R=false):=by rw[Hid,J.out,decide_eq_false P];rfl
  rw[E.out];clear P;go_enter Tryz.func64,Tryz.ntmps64;go_wp2_with fail;go_ret;exact⟨rfl,I⟩
end
end Go.Proofs.YtnegciklhanmbaaGreatDoor
