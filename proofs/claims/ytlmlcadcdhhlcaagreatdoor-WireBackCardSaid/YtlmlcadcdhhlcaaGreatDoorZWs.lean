/- References: aviaryref02.greatest, Put; aviaryref20.num. Printed by gen_ws.py. -/
import Derived.Test.YtlmlcadcdhhlcaaGreatDoorZWj
set_option maxHeartbeats 2000000
set_option maxRecDepth 100000
namespace Go.Proofs.YtlmlcadcdhhlcaaGreatDoor
open Go Go.RowKit Go.Shelf
def gB (n:Int) (k:Nat):Int:=n / (256^k:Nat) % 256
def gS (n:Int):Nat->ByteArray
 | 0=>⟨#[]⟩
 | k+1=>strOfNums [gB n k]++gS n k
theorem jaD (n:Int) (k:Nat):(gS n k).size=k:=by
 induction k with
 | zero=>rfl
 | succ k ih =>
  show (strOfNums [gB n k]++gS n k).size=_;rw[ByteArray.size_append,ih,jaf];show 1+k=k+1;omega
theorem jdY (n:Int) (G:Nat) (R:U64 n) (Y:G<=8) (w:World):CR 99 #[.int .u64 n,.int .i64 G] w (.string (gS n G)):=by
 obtain⟨S,V⟩:=R;go_enter Tryz.func99,Tryz.ntmps99;go_wp2_with fail;go_loopw [5,6] (fun s i wr=>∃ k:Nat,s=.string (gS n k)/\i=.int .i64 k/\k<=G/\Hid (Bw w wr)) (fun _ i _=>G-(intOf i).toNat)
 case atStart=>exact⟨0,rfl,rfl,Nat.zero_le _,Below.refl _ _⟩
 case round =>
  obtain⟨k,rfl,rfl,X,H⟩:=hrel;by_cases Q:k<G
  ·have P:=jaD n k
   obtain⟨T,O⟩:∃ T,gS n k=T:=⟨_,rfl⟩;rw[O] at P ⊢;have M:=Lib.hid O;clear O;rcases (by omega:k=0\/k=1\/k=2\/k=3\/k=4\/k=5\/k=6\/k=7) with rfl | rfl | rfl | rfl | rfl | rfl | rfl | rfl
   ·have F:gB n 0=n % 256:=by
     unfold gB;rw[show ((256^0:Nat):Int)=1 from rfl];rw[Int.ediv_one]
    have B:(convert 84 9 (.slice (some ⟨wr.heap.size,0,none⟩) 1 1)).run Tryz.prog (wr.alloc (.cells #[.int .u8 (n % 256)] 5))=.ok (.string (strOfNums [n % 256])) (wr.alloc (.cells #[.int .u8 (n % 256)] 5)):=jaG wr [n % 256] 1;obtain⟨J,E,-,A,-⟩:=jab wr #[.int .u8 (n % 256)] 5;rw[E] at B;have D:Hid (Bw w J):=H.out.trans (A.mono H.out.size);obtain⟨U,C⟩:∃ U,strOfNums [n % 256]=U:=⟨_,rfl⟩;have L:U.size=1:=by rw[<- C,jaf];rfl
    rw[C] at B;have I:Hid (U++T=gS n (0+1)):=by rw[Hid,<- C,<- M.out,<- F];rfl
    have N:¬ 9223372036854775807<U.size+T.size:=by omega
    clear F A C;go_wp2_with fail;exact⟨⟨0+1,by rw[I.out],by go_num,by omega,D.out⟩,by simp[intOf];omega⟩
   ·have F:gB n 1=n / 256 % 256:=by
     unfold gB;rw[show ((256^1:Nat):Int)=256 from rfl]
    have B:(convert 84 9 (.slice (some ⟨wr.heap.size,0,none⟩) 1 1)).run Tryz.prog (wr.alloc (.cells #[.int .u8 (n / 256 % 256)] 5))=.ok (.string (strOfNums [n / 256 % 256])) (wr.alloc (.cells #[.int .u8 (n / 256 % 256)] 5)):=jaG wr [n / 256 % 256] 1;obtain⟨J,E,-,A,-⟩:=jab wr #[.int .u8 (n / 256 % 256)] 5;rw[E] at B;have D:Hid (Bw w J):=H.out.trans (A.mono H.out.size);obtain⟨U,C⟩:∃ U,strOfNums [n / 256 % 256]=U:=⟨_,rfl⟩;have L:U.size=1:=by rw[<- C,jaf];rfl
    rw[C] at B;have I:Hid (U++T=gS n (1+1)):=by rw[Hid,<- C,<- M.out,<- F];rfl
    have N:¬ 9223372036854775807<U.size+T.size:=by omega
    clear F A C;go_wp2_with fail;exact⟨⟨1+1,by rw[I.out],by go_num,by omega,D.out⟩,by simp[intOf];omega⟩
   ·have F:gB n 2=n / 65536 % 256:=by
     unfold gB;rw[show ((256^2:Nat):Int)=65536 from rfl]
    have B:(convert 84 9 (.slice (some ⟨wr.heap.size,0,none⟩) 1 1)).run Tryz.prog (wr.alloc (.cells #[.int .u8 (n / 65536 % 256)] 5))=.ok (.string (strOfNums [n / 65536 % 256])) (wr.alloc (.cells #[.int .u8 (n / 65536 % 256)] 5)):=jaG wr [n / 65536 % 256] 1;obtain⟨J,E,-,A,-⟩:=jab wr #[.int .u8 (n / 65536 % 256)] 5;rw[E] at B;have D:Hid (Bw w J):=H.out.trans (A.mono H.out.size);obtain⟨U,C⟩:∃ U,strOfNums [n / 65536 % 256]=U:=⟨_,rfl⟩;have L:U.size=1:=by rw[<- C,jaf];rfl
    rw[C] at B;have I:Hid (U++T=gS n (2+1)):=by rw[Hid,<- C,<- M.out,<- F];rfl
    have N:¬ 9223372036854775807<U.size+T.size:=by omega
    clear F A C;go_wp2_with fail;exact⟨⟨2+1,by rw[I.out],by go_num,by omega,D.out⟩,by simp[intOf];omega⟩
   ·have F:gB n 3=n / 16777216 % 256:=by
     unfold gB;rw[show ((256^3:Nat):Int)=16777216 from rfl]
    have B:(convert 84 9 (.slice (some ⟨wr.heap.size,0,none⟩) 1 1)).run Tryz.prog (wr.alloc (.cells #[.int .u8 (n / 16777216 % 256)] 5))=.ok (.string (strOfNums [n / 16777216 % 256])) (wr.alloc (.cells #[.int .u8 (n / 16777216 % 256)] 5)):=jaG wr [n / 16777216 % 256] 1;obtain⟨J,E,-,A,-⟩:=jab wr #[.int .u8 (n / 16777216 % 256)] 5;rw[E] at B;have D:Hid (Bw w J):=H.out.trans (A.mono H.out.size);obtain⟨U,C⟩:∃ U,strOfNums [n / 16777216 % 256]=U:=⟨_,rfl⟩;have L:U.size=1:=by rw[<- C,jaf];rfl
    rw[C] at B;have I:Hid (U++T=gS n (3+1)):=by rw[Hid,<- C,<- M.out,<- F];rfl
    have N:¬ 9223372036854775807<U.size+T.size:=by omega
    clear F A C;go_wp2_with fail;exact⟨⟨3+1,by rw[I.out],by go_num,by omega,D.out⟩,by simp[intOf];omega⟩
   ·have F:gB n 4=n / 4294967296 % 256:=by
     unfold gB;rw[show ((256^4:Nat):Int)=4294967296 from rfl]
    have B:(convert 84 9 (.slice (some ⟨wr.heap.size,0,none⟩) 1 1)).run Tryz.prog (wr.alloc (.cells #[.int .u8 (n / 4294967296 % 256)] 5))=.ok (.string (strOfNums [n / 4294967296 % 256])) (wr.alloc (.cells #[.int .u8 (n / 4294967296 % 256)] 5)):=jaG wr [n / 4294967296 % 256] 1;obtain⟨J,E,-,A,-⟩:=jab wr #[.int .u8 (n / 4294967296 % 256)] 5;rw[E] at B;have D:Hid (Bw w J):=H.out.trans (A.mono H.out.size);obtain⟨U,C⟩:∃ U,strOfNums [n / 4294967296 % 256]=U:=⟨_,rfl⟩;have L:U.size=1:=by rw[<- C,jaf];rfl
    rw[C] at B;have I:Hid (U++T=gS n (4+1)):=by rw[Hid,<- C,<- M.out,<- F];rfl
    have N:¬ 9223372036854775807<U.size+T.size:=by omega
    clear F A C;go_wp2_with fail;exact⟨⟨4+1,by rw[I.out],by go_num,by omega,D.out⟩,by simp[intOf];omega⟩
   ·have F:gB n 5=n / 1099511627776 % 256:=by
     unfold gB;rw[show ((256^5:Nat):Int)=1099511627776 from rfl]
    have B:(convert 84 9 (.slice (some ⟨wr.heap.size,0,none⟩) 1 1)).run Tryz.prog (wr.alloc (.cells #[.int .u8 (n / 1099511627776 % 256)] 5))=.ok (.string (strOfNums [n / 1099511627776 % 256])) (wr.alloc (.cells #[.int .u8 (n / 1099511627776 % 256)] 5)):=jaG wr [n / 1099511627776 % 256] 1;obtain⟨J,E,-,A,-⟩:=jab wr #[.int .u8 (n / 1099511627776 % 256)] 5;rw[E] at B;have D:Hid (Bw w J):=H.out.trans (A.mono H.out.size);obtain⟨U,C⟩:∃ U,strOfNums [n / 1099511627776 % 256]=U:=⟨_,rfl⟩;have L:U.size=1:=by rw[<- C,jaf];rfl
    rw[C] at B;have I:Hid (U++T=gS n (5+1)):=by rw[Hid,<- C,<- M.out,<- F];rfl
    have N:¬ 9223372036854775807<U.size+T.size:=by omega
    clear F A C;go_wp2_with fail;exact⟨⟨5+1,by rw[I.out],by go_num,by omega,D.out⟩,by simp[intOf];omega⟩
   ·have F:gB n 6=n / 281474976710656 % 256:=by
     unfold gB;rw[show ((256^6:Nat):Int)=281474976710656 from rfl]
    have B:(convert 84 9 (.slice (some ⟨wr.heap.size,0,none⟩) 1 1)).run Tryz.prog (wr.alloc (.cells #[.int .u8 (n / 281474976710656 % 256)] 5))=.ok (.string (strOfNums [n / 281474976710656 % 256])) (wr.alloc (.cells #[.int .u8 (n / 281474976710656 % 256)] 5)):=jaG wr [n / 281474976710656 % 256] 1;obtain⟨J,E,-,A,-⟩:=jab wr #[.int .u8 (n / 281474976710656 % 256)] 5;rw[E] at B;have D:Hid (Bw w J):=H.out.trans (A.mono H.out.size);obtain⟨U,C⟩:∃ U,strOfNums [n / 281474976710656 % 256]=U:=⟨_,rfl⟩;have L:U.size=1:=by rw[<- C,jaf];rfl
    rw[C] at B;have I:Hid (U++T=gS n (6+1)):=by rw[Hid,<- C,<- M.out,<- F];rfl
    have N:¬ 9223372036854775807<U.size+T.size:=by omega
    clear F A C;go_wp2_with fail;exact⟨⟨6+1,by rw[I.out],by go_num,by omega,D.out⟩,by simp[intOf];omega⟩
   ·have F:gB n 7=n / 72057594037927936:=by
     unfold gB;rw[show ((256^7:Nat):Int)=72057594037927936 from rfl];omega
    have B:(convert 84 9 (.slice (some ⟨wr.heap.size,0,none⟩) 1 1)).run Tryz.prog (wr.alloc (.cells #[.int .u8 (n / 72057594037927936)] 5))=.ok (.string (strOfNums [n / 72057594037927936])) (wr.alloc (.cells #[.int .u8 (n / 72057594037927936)] 5)):=jaG wr [n / 72057594037927936] 1;obtain⟨J,E,-,A,-⟩:=jab wr #[.int .u8 (n / 72057594037927936)] 5;rw[E] at B;have D:Hid (Bw w J):=H.out.trans (A.mono H.out.size);obtain⟨U,C⟩:∃ U,strOfNums [n / 72057594037927936]=U:=⟨_,rfl⟩;have L:U.size=1:=by rw[<- C,jaf];rfl
    rw[C] at B;have I:Hid (U++T=gS n (7+1)):=by rw[Hid,<- C,<- M.out,<- F];rfl
    have N:¬ 9223372036854775807<U.size+T.size:=by omega
    clear F A C;go_wp2_with fail;exact⟨⟨7+1,by rw[I.out],by go_num,by omega,D.out⟩,by simp[intOf];omega⟩
  ·obtain rfl:k=G:=by omega
   go_wp2_with fail;go_ret;exact⟨rfl,H.out⟩
def jbk (n:Int):Nat:=if n<16777216 then 3 else if n<4294967296 then 4 else if n<1099511627776 then 5 else if n<281474976710656 then 6 else if n<72057594037927936 then 7 else 8
def jbe (n:Int):ByteArray:=if n<=240 then gS n 1 else if n<=2287 then gS (241+(n-240) / 256) 1++gS (n-240) 1 else if n<=67823 then gS 249 1++gS (n-2288) 2 else gS (247+jbk n) 1++gS n (jbk n)
theorem jhq (n:Int):3<=jbk n/\jbk n<=8:=by
 unfold jbk
 repeat' split
 all_goals omega
theorem jai (n:Int):(jbe n).size<=9:=by
 unfold jbe
 repeat' split
 all_goals (try rw[ByteArray.size_append]);(try simp only[jaD]);(have:=jhq n);omega
theorem jaJ (n:Int) (q:U64 n) (w:World):CR 71 #[.int .u64 n] w (.string (jbe n)):=by
 obtain⟨c,d⟩:=q;have O:=Lib.hid fun m k (p:U64 m) (j:k<=8) V=>jdY m k p j V
 unfold jbe;by_cases f:n<=240
 ·rw[if_pos f]
  go_enter Tryz.func71,Tryz.ntmps71;go_wp2_with fail;refine (O.out n 1 ⟨c,d⟩ (by decide) _).mono ?_;rintro e Y ⟨rfl,C⟩;have i:=Lib.hid C;clear C;go_wp2_with fail;go_ret;exact⟨rfl,i.out⟩
 ·rw[if_neg f]
  by_cases g:n<=2287
  ·rw[if_pos g]
   have E:=Lib.hid fun V=>O.out (241+(n-240) / 256) 1 ⟨by omega,by omega⟩ (by decide) V
   have F:=Lib.hid fun V=>O.out (n-240) 1 ⟨by omega,by omega⟩ (by decide) V
   have H:=jaD (241+(n-240) / 256) 1;have I:=jaD (n-240) 1;obtain⟨L,A⟩:∃ T,gS (241+(n-240) / 256) 1=T:=⟨_,rfl⟩;obtain⟨M,B⟩:∃ T,gS (n-240) 1=T:=⟨_,rfl⟩;rw[A] at E H ⊢;rw[B] at F I ⊢;have Z:¬ 9223372036854775807<L.size+M.size:=by omega
   clear A B;go_enter Tryz.func71,Tryz.ntmps71;go_wp2_with fail;refine (E.out _).mono ?_;rintro e Y ⟨rfl,C⟩;have D:=Lib.hid C;clear C;go_wp2_with fail;refine (F.out _).mono ?_;rintro e Q ⟨rfl,C⟩;have G:Hid (Bw w Q):=D.out.trans (C.mono D.out.size);clear C;go_wp2_with fail;go_ret;exact⟨rfl,G.out⟩
  ·rw[if_neg g]
   by_cases h:n<=67823
   ·rw[if_pos h]
    have E:=Lib.hid fun V=>O.out (249) 1 ⟨by omega,by omega⟩ (by decide) V
    have F:=Lib.hid fun V=>O.out (n-2288) 2 ⟨by omega,by omega⟩ (by decide) V
    have H:=jaD (249) 1;have I:=jaD (n-2288) 2;obtain⟨L,A⟩:∃ T,gS (249) 1=T:=⟨_,rfl⟩;obtain⟨M,B⟩:∃ T,gS (n-2288) 2=T:=⟨_,rfl⟩;rw[A] at E H ⊢;rw[B] at F I ⊢;have Z:¬ 9223372036854775807<L.size+M.size:=by omega
    clear A B;go_enter Tryz.func71,Tryz.ntmps71;go_wp2_with fail;refine (E.out _).mono ?_;rintro e Y ⟨rfl,C⟩;have D:=Lib.hid C;clear C;go_wp2_with fail;refine (F.out _).mono ?_;rintro e Q ⟨rfl,C⟩;have G:Hid (Bw w Q):=D.out.trans (C.mono D.out.size);clear C;go_wp2_with fail;go_ret;exact⟨rfl,G.out⟩
   ·rw[if_neg h]
    obtain⟨R,b⟩:∃ R,gS (247+jbk n) 1++gS n (jbk n)=R:=⟨_,rfl⟩;rw[b];have a:=Lib.hid b;clear b;go_enter Tryz.func71,Tryz.ntmps71;go_wp2_with fail;go_loopw [3] (fun s wr=>wr=w/\∃ k:Nat,s=.int .i64 k/\3<=k/\k<=8/\256^(k-1)<=n) (fun s _=>8-(intOf s).toNat)
    case atStart=>exact⟨rfl,3,rfl,by decide,by decide,by show (65536:Int)<=n;omega⟩
    case round =>
     obtain⟨rfl,k,rfl,l,o,J⟩:=hrel;rcases (by omega:k=3\/k=4\/k=5\/k=6\/k=7\/k=8) with rfl | rfl | rfl | rfl | rfl | rfl
     ·have J:(65536:Int)<=n:=J
      by_cases U:n<16777216
      ·have N:n / 16777216=0:=by omega
       have X:(n / 16777216==0)=true:=by rw[N];rfl
       have P:jbk n=3:=by
        unfold jbk;rw[if_pos U]
       have E:=Lib.hid fun V=>O.out 250 1 ⟨by omega,by omega⟩ (by decide) V
       have F:=Lib.hid fun V=>O.out n 3 ⟨by omega,by omega⟩ (by decide) V
       have H:=jaD 250 1;have I:=jaD n 3;obtain⟨L,A⟩:∃ T,gS 250 1=T:=⟨_,rfl⟩;obtain⟨M,B⟩:∃ T,gS n 3=T:=⟨_,rfl⟩;have S:Hid (L++M=R):=by rw[Hid,<- A,<- B,<- a.out,P];rfl
       rw[A] at E H;rw[B] at F I;have Z:¬ 9223372036854775807<L.size+M.size:=by omega
       clear A B P;go_wp2_with fail;refine (E.out _).mono ?_;rintro e Y ⟨rfl,C⟩;have D:=Lib.hid C;clear C;go_wp2_with fail;refine (F.out _).mono ?_;rintro e Q ⟨rfl,C⟩;have G:Hid (Bw wr Q):=D.out.trans (C.mono D.out.size);clear C;go_wp2_with fail;go_ret;exact⟨by rw[S.out];rfl,G.out⟩
      ·have N:¬ n / 16777216=0:=by omega
       have X:(n / 16777216==0)=false:=beq_eq_false_iff_ne.2 N;go_wp2_with fail;exact⟨⟨trivial,4,by go_num,by omega,by omega,by show (16777216:Int)<=n;omega⟩,by simp[intOf]⟩
     ·have J:(16777216:Int)<=n:=J
      by_cases U:n<4294967296
      ·have N:n / 4294967296=0:=by omega
       have X:(n / 4294967296==0)=true:=by rw[N];rfl
       have P:jbk n=4:=by
        unfold jbk;rw[if_neg (by omega)];rw[if_pos U]
       have E:=Lib.hid fun V=>O.out 251 1 ⟨by omega,by omega⟩ (by decide) V
       have F:=Lib.hid fun V=>O.out n 4 ⟨by omega,by omega⟩ (by decide) V
       have H:=jaD 251 1;have I:=jaD n 4;obtain⟨L,A⟩:∃ T,gS 251 1=T:=⟨_,rfl⟩;obtain⟨M,B⟩:∃ T,gS n 4=T:=⟨_,rfl⟩;have S:Hid (L++M=R):=by rw[Hid,<- A,<- B,<- a.out,P];rfl
       rw[A] at E H;rw[B] at F I;have Z:¬ 9223372036854775807<L.size+M.size:=by omega
       clear A B P;go_wp2_with fail;refine (E.out _).mono ?_;rintro e Y ⟨rfl,C⟩;have D:=Lib.hid C;clear C;go_wp2_with fail;refine (F.out _).mono ?_;rintro e Q ⟨rfl,C⟩;have G:Hid (Bw wr Q):=D.out.trans (C.mono D.out.size);clear C;go_wp2_with fail;go_ret;exact⟨by rw[S.out];rfl,G.out⟩
      ·have N:¬ n / 4294967296=0:=by omega
       have X:(n / 4294967296==0)=false:=beq_eq_false_iff_ne.2 N;go_wp2_with fail;exact⟨⟨trivial,5,by go_num,by omega,by omega,by show (4294967296:Int)<=n;omega⟩,by simp[intOf]⟩
     ·have J:(4294967296:Int)<=n:=J
      by_cases U:n<1099511627776
      ·have N:n / 1099511627776=0:=by omega
       have X:(n / 1099511627776==0)=true:=by rw[N];rfl
       have P:jbk n=5:=by
        unfold jbk;rw[if_neg (by omega)];rw[if_neg (by omega)];rw[if_pos U]
       have E:=Lib.hid fun V=>O.out 252 1 ⟨by omega,by omega⟩ (by decide) V
       have F:=Lib.hid fun V=>O.out n 5 ⟨by omega,by omega⟩ (by decide) V
       have H:=jaD 252 1;have I:=jaD n 5;obtain⟨L,A⟩:∃ T,gS 252 1=T:=⟨_,rfl⟩;obtain⟨M,B⟩:∃ T,gS n 5=T:=⟨_,rfl⟩;have S:Hid (L++M=R):=by rw[Hid,<- A,<- B,<- a.out,P];rfl
       rw[A] at E H;rw[B] at F I;have Z:¬ 9223372036854775807<L.size+M.size:=by omega
       clear A B P;go_wp2_with fail;refine (E.out _).mono ?_;rintro e Y ⟨rfl,C⟩;have D:=Lib.hid C;clear C;go_wp2_with fail;refine (F.out _).mono ?_;rintro e Q ⟨rfl,C⟩;have G:Hid (Bw wr Q):=D.out.trans (C.mono D.out.size);clear C;go_wp2_with fail;go_ret;exact⟨by rw[S.out];rfl,G.out⟩
      ·have N:¬ n / 1099511627776=0:=by omega
       have X:(n / 1099511627776==0)=false:=beq_eq_false_iff_ne.2 N;go_wp2_with fail;exact⟨⟨trivial,6,by go_num,by omega,by omega,by show (1099511627776:Int)<=n;omega⟩,by simp[intOf]⟩
     ·have J:(1099511627776:Int)<=n:=J
      by_cases U:n<281474976710656
      ·have N:n / 281474976710656=0:=by omega
       have X:(n / 281474976710656==0)=true:=by rw[N];rfl
       have P:jbk n=6:=by
        unfold jbk;rw[if_neg (by omega)];rw[if_neg (by omega)];rw[if_neg (by omega)];rw[if_pos U]
       have E:=Lib.hid fun V=>O.out 253 1 ⟨by omega,by omega⟩ (by decide) V
       have F:=Lib.hid fun V=>O.out n 6 ⟨by omega,by omega⟩ (by decide) V
       have H:=jaD 253 1;have I:=jaD n 6;obtain⟨L,A⟩:∃ T,gS 253 1=T:=⟨_,rfl⟩;obtain⟨M,B⟩:∃ T,gS n 6=T:=⟨_,rfl⟩;have S:Hid (L++M=R):=by rw[Hid,<- A,<- B,<- a.out,P];rfl
       rw[A] at E H;rw[B] at F I;have Z:¬ 9223372036854775807<L.size+M.size:=by omega
       clear A B P;go_wp2_with fail;refine (E.out _).mono ?_;rintro e Y ⟨rfl,C⟩;have D:=Lib.hid C;clear C;go_wp2_with fail;refine (F.out _).mono ?_;rintro e Q ⟨rfl,C⟩;have G:Hid (Bw wr Q):=D.out.trans (C.mono D.out.size);clear C;go_wp2_with fail;go_ret;exact⟨by rw[S.out];rfl,G.out⟩
      ·have N:¬ n / 281474976710656=0:=by omega
       have X:(n / 281474976710656==0)=false:=beq_eq_false_iff_ne.2 N;go_wp2_with fail;exact⟨⟨trivial,7,by go_num,by omega,by omega,by show (281474976710656:Int)<=n;omega⟩,by simp[intOf]⟩
     ·have J:(281474976710656:Int)<=n:=J
      by_cases U:n<72057594037927936
      ·have N:n / 72057594037927936=0:=by omega
       have X:(n / 72057594037927936==0)=true:=by rw[N];rfl
       have P:jbk n=7:=by
        unfold jbk;rw[if_neg (by omega)];rw[if_neg (by omega)];rw[if_neg (by omega)];rw[if_neg (by omega)];rw[if_pos U]
       have E:=Lib.hid fun V=>O.out 254 1 ⟨by omega,by omega⟩ (by decide) V
       have F:=Lib.hid fun V=>O.out n 7 ⟨by omega,by omega⟩ (by decide) V
       have H:=jaD 254 1;have I:=jaD n 7;obtain⟨L,A⟩:∃ T,gS 254 1=T:=⟨_,rfl⟩;obtain⟨M,B⟩:∃ T,gS n 7=T:=⟨_,rfl⟩;have S:Hid (L++M=R):=by rw[Hid,<- A,<- B,<- a.out,P];rfl
       rw[A] at E H;rw[B] at F I;have Z:¬ 9223372036854775807<L.size+M.size:=by omega
       clear A B P;go_wp2_with fail;refine (E.out _).mono ?_;rintro e Y ⟨rfl,C⟩;have D:=Lib.hid C;clear C;go_wp2_with fail;refine (F.out _).mono ?_;rintro e Q ⟨rfl,C⟩;have G:Hid (Bw wr Q):=D.out.trans (C.mono D.out.size);clear C;go_wp2_with fail;go_ret;exact⟨by rw[S.out];rfl,G.out⟩
      ·have N:¬ n / 72057594037927936=0:=by omega
       have X:(n / 72057594037927936==0)=false:=beq_eq_false_iff_ne.2 N;go_wp2_with fail;exact⟨⟨trivial,8,by go_num,by omega,by omega,by show (72057594037927936:Int)<=n;omega⟩,by simp[intOf]⟩
     ·have J:(72057594037927936:Int)<=n:=J
      have P:jbk n=8:=by
       unfold jbk;rw[if_neg (by omega)];rw[if_neg (by omega)];rw[if_neg (by omega)];rw[if_neg (by omega)];rw[if_neg (by omega)]
      have E:=Lib.hid fun V=>O.out 255 1 ⟨by omega,by omega⟩ (by decide) V
      have F:=Lib.hid fun V=>O.out n 8 ⟨by omega,by omega⟩ (by decide) V
      have H:=jaD 255 1;have I:=jaD n 8;obtain⟨L,A⟩:∃ T,gS 255 1=T:=⟨_,rfl⟩;obtain⟨M,B⟩:∃ T,gS n 8=T:=⟨_,rfl⟩;have S:Hid (L++M=R):=by rw[Hid,<- A,<- B,<- a.out,P];rfl
      rw[A] at E H;rw[B] at F I;have Z:¬ 9223372036854775807<L.size+M.size:=by omega
      clear A B P;go_wp2_with fail;refine (E.out _).mono ?_;rintro e Y ⟨rfl,C⟩;have D:=Lib.hid C;clear C;go_wp2_with fail;refine (F.out _).mono ?_;rintro e Q ⟨rfl,C⟩;have G:Hid (Bw wr Q):=D.out.trans (C.mono D.out.size);clear C;go_wp2_with fail;go_ret;exact⟨by rw[S.out];rfl,G.out⟩
end Go.Proofs.YtlmlcadcdhhlcaaGreatDoor
