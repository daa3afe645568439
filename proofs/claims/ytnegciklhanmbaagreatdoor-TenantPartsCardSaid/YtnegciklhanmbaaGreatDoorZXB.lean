/- Packages cms, hll, hist: shapes; cms.Right; hist.Bounds. Packages hist, cms: Bounds whole, Right. Package hll: ranks, Right. -/
import Derived.Laws.BitsAllLaws
import Derived.Test.YtnegciklhanmbaaGreatDoorZC0
set_option maxHeartbeats 2000000
set_option maxRecDepth 100000
namespace Go.Proofs.YtnegciklhanmbaaGreatDoor
open Go Go.RowKit
theorem jdI (n:Int) (w:World):Calls Tryz.prog 199 #[.int .i64 n] w fun e w'=>e=.returned (.bool (jc5 n))/\w=w':=by
 by_cases A:3<=n
 ·go_enter Tryz.func199,Tryz.ntmps199
  go_wp2;go_ret;exact⟨by simp[jc5,A],rfl⟩
 ·go_enter Tryz.func199,Tryz.ntmps199
  go_wp2;go_ret;exact⟨by simp[jc5];omega,rfl⟩
theorem jae (n:Int) (w:World):Calls Tryz.prog 201 #[.int .i64 n] w fun e w'=>e=.returned (.bool (jar n))/\w=w':=by
 by_cases A:0<=n
 ·go_enter Tryz.func201,Tryz.ntmps201
  go_wp2;go_ret;exact⟨by simp[jar,A],rfl⟩
 ·go_enter Tryz.func201,Tryz.ntmps201
  go_wp2;go_ret;exact⟨by simp[jar];omega,rfl⟩
theorem jhI (r c:Int) (w:World):Calls Tryz.prog 169 #[.int .i64 r,.int .i64 c] w fun e w'=>e=.returned (.bool (ja3 r c))/\w=w':=by
 by_cases C:r<1
 ·go_enter Tryz.func169,Tryz.ntmps169
  go_wp2;go_ret;exact⟨by simp[ja3];omega,rfl⟩
 by_cases D:4<r
 ·go_enter Tryz.func169,Tryz.ntmps169
  go_wp2;go_ret;exact⟨by simp[ja3];omega,rfl⟩
 by_cases A:4<=c
 ·by_cases B:c<=32
  ·go_enter Tryz.func169,Tryz.ntmps169
   go_wp2;go_ret;exact⟨by simp[ja3,A,B];omega,rfl⟩
  ·go_enter Tryz.func169,Tryz.ntmps169
   go_wp2;go_ret;exact⟨by simp[ja3];intros;omega,rfl⟩
 ·go_enter Tryz.func169,Tryz.ntmps169
  go_wp2;go_ret;exact⟨by simp[ja3];intros;omega,rfl⟩
theorem jdy (k:Int) (w:World):Calls Tryz.prog 87 #[.int .i64 k] w fun e w'=>e=.returned (.int .i64 (jaH k))/\w=w':=by
 cases A:(k==1) with
 | true =>
  go_enter Tryz.func87,Tryz.ntmps87;go_wp2;go_ret;exact⟨by simp[jaH,A],rfl⟩
 | false =>
  cases B:(k==2) with
  | true =>
   go_enter Tryz.func87,Tryz.ntmps87;go_wp2;go_ret;exact⟨by simp[jaH,A,B],rfl⟩
  | false =>
   cases C:(k==3) with
   | true =>
    go_enter Tryz.func87,Tryz.ntmps87;go_wp2;go_ret;exact⟨by simp[jaH,A,B,C],rfl⟩
   | false =>
    go_enter Tryz.func87,Tryz.ntmps87;go_wp2;go_ret;exact⟨by simp[jaH,A,B,C],rfl⟩
def jbV (b:Bool) (w:World) (e:Ending) (w':World):Prop:=∃ lo hi:Int,e=.returned (.tuple #[.int .u64 lo,.int .u64 hi,.bool b])/\Bw w w'
theorem jqe (fine n:Int) (w:World) (hb:jaz fine n=false) (h:jar fine=false\/n<0):Calls Tryz.prog 202 #[.int .i64 fine,.int .i64 n] w (jbV (jaz fine n) w):=by
 rw[hb];clear hb;rcases h with h | h
 ·go_enter Tryz.func202,Tryz.ntmps202
  go_wp2_with fail;refine jac 0 rfl ?_;go_wp2_with (go_at_call 201;refine (jae _ _).mono ?_;rintro e w' ⟨rfl,rfl⟩)
  first | rw[jad] | (go_step3;refine And.intro (rfl:(0:Nat)=0) ?_;go_wp2_with fail;go_wp2_with fail;rw[Exit.noGoto_ret]) | (go_step3;go_wp2_with fail;rw[jad])
  go_ret3;exact⟨_,_,rfl,Below.refl _ _⟩
 ·cases A:jar fine with
  | true =>
   go_enter Tryz.func202,Tryz.ntmps202;go_wp2_with fail;refine jac 0 rfl ?_;go_wp2_with (go_at_call 201;refine (jae _ _).mono ?_;rintro e w' ⟨rfl,rfl⟩)
   first | rw[jad] | (go_step3;refine And.intro (rfl:(0:Nat)=0) ?_;go_wp2_with fail;go_wp2_with fail;rw[Exit.noGoto_ret]) | (go_step3;go_wp2_with fail;rw[jad])
   go_ret3;exact⟨_,_,rfl,Below.refl _ _⟩
  | false =>
   go_enter Tryz.func202,Tryz.ntmps202;go_wp2_with fail;refine jac 0 rfl ?_;go_wp2_with (go_at_call 201;refine (jae _ _).mono ?_;rintro e w' ⟨rfl,rfl⟩)
   first | rw[jad] | (go_step3;refine And.intro (rfl:(0:Nat)=0) ?_;go_wp2_with fail;go_wp2_with fail;rw[Exit.noGoto_ret]) | (go_step3;go_wp2_with fail;rw[jad])
   go_ret3;exact⟨_,_,rfl,Below.refl _ _⟩
theorem jts (w:World):Calls Tryz.prog 202 #[.int .i64 0,.int .i64 0] w (jbV true w):=by
 have A:jar 0=true:=rfl;go_enter Tryz.func202,Tryz.ntmps202;go_wp2_with fail;refine jac 0 rfl ?_;go_wp2_with (go_at_call 201;refine (jae _ _).mono ?_;rintro e w' ⟨rfl,rfl⟩)
 first | rw[jad] | (go_step3;refine And.intro (rfl:(0:Nat)=0) ?_;go_wp2_with fail;go_wp2_with fail;rw[Exit.noGoto_ret]) | (go_step3;go_wp2_with fail;rw[jad])
 go_ret3;exact⟨_,_,rfl,Below.refl _ _⟩
theorem jwd (n:Int) (w:World) (A:1<=n) (B:n<=9223372036854775807) (C:64<=(n-1)):Calls Tryz.prog 202 #[.int .i64 0,.int .i64 n] w (jbV false w):=by
 have E:(n==0)=false:=by rw[beq_eq_false_iff_ne];omega
 have D:jar 0=true:=rfl;go_enter Tryz.func202,Tryz.ntmps202;go_wp2_with fail;refine jac 0 rfl ?_;go_wp2_with (go_at_call 201;refine (jae _ _).mono ?_;rintro e w' ⟨rfl,rfl⟩);go_quiet (fail);go_wp2_with fail
 first | rw[jad] | (go_step3;refine And.intro (rfl:(0:Nat)=0) ?_;go_wp2_with fail;go_wp2_with fail;rw[Exit.noGoto_ret]) | (go_step3;go_wp2_with fail;rw[jad])
 go_ret3;exact⟨_,_,rfl,bDr (Below.refl _ _) _⟩
theorem jto (n:Int) (w:World) (A:1<=n) (B:n<=9223372036854775807) (C:(n-1)<64) (_h4:0<=(n-1)):Calls Tryz.prog 202 #[.int .i64 0,.int .i64 n] w (jbV true w):=by
 have E:(n==0)=false:=by rw[beq_eq_false_iff_ne];omega
 have D:jar 0=true:=rfl;go_enter Tryz.func202,Tryz.ntmps202;go_wp2_with fail;refine jac 0 rfl ?_;go_wp2_with (go_at_call 201;refine (jae _ _).mono ?_;rintro e w' ⟨rfl,rfl⟩);go_quiet (fail);go_wp2_with fail;go_quiet (fail);go_wp2_with fail
 first | rw[jad] | (go_step3;refine And.intro (rfl:(0:Nat)=0) ?_;go_wp2_with fail;go_wp2_with fail;rw[Exit.noGoto_ret]) | (go_step3;go_wp2_with fail;rw[jad])
 go_ret3;exact⟨_,_,rfl,bDr (bDr (Below.refl _ _) _) _⟩
theorem jtt (w:World):Calls Tryz.prog 202 #[.int .i64 1,.int .i64 0] w (jbV true w):=by
 have A:jar 1=true:=rfl;go_enter Tryz.func202,Tryz.ntmps202;go_wp2_with fail;refine jac 0 rfl ?_;go_wp2_with (go_at_call 201;refine (jae _ _).mono ?_;rintro e w' ⟨rfl,rfl⟩)
 first | rw[jad] | (go_step3;refine And.intro (rfl:(0:Nat)=0) ?_;go_wp2_with fail;go_wp2_with fail;rw[Exit.noGoto_ret]) | (go_step3;go_wp2_with fail;rw[jad])
 go_ret3;exact⟨_,_,rfl,Below.refl _ _⟩
theorem jwe (n:Int) (w:World) (A:1<=n) (B:n<=9223372036854775807) (C:64<=(n-1) / 2):Calls Tryz.prog 202 #[.int .i64 1,.int .i64 n] w (jbV false w):=by
 have E:(n==0)=false:=by rw[beq_eq_false_iff_ne];omega
 have D:jar 1=true:=rfl;go_enter Tryz.func202,Tryz.ntmps202;go_wp2_with fail;refine jac 0 rfl ?_;go_wp2_with (go_at_call 201;refine (jae _ _).mono ?_;rintro e w' ⟨rfl,rfl⟩);go_quiet (fail);go_wp2_with fail
 first | rw[jad] | (go_step3;refine And.intro (rfl:(0:Nat)=0) ?_;go_wp2_with fail;go_wp2_with fail;rw[Exit.noGoto_ret]) | (go_step3;go_wp2_with fail;rw[jad])
 go_ret3;exact⟨_,_,rfl,bDr (Below.refl _ _) _⟩
theorem jtp (n:Int) (w:World) (A:1<=n) (B:n<=9223372036854775807) (C:(n-1) / 2<64) (D:1<=(n-1) / 2):Calls Tryz.prog 202 #[.int .i64 1,.int .i64 n] w (jbV true w):=by
 have F:(n==0)=false:=by rw[beq_eq_false_iff_ne];omega
 have E:jar 1=true:=rfl;go_enter Tryz.func202,Tryz.ntmps202;go_wp2_with fail;refine jac 0 rfl ?_;go_wp2_with (go_at_call 201;refine (jae _ _).mono ?_;rintro e w' ⟨rfl,rfl⟩);go_quiet (fail);go_wp2_with fail;go_quiet (fail);go_wp2_with fail
 first | rw[jad] | (go_step3;refine And.intro (rfl:(0:Nat)=0) ?_;go_wp2_with fail;go_wp2_with fail;rw[Exit.noGoto_ret]) | (go_step3;go_wp2_with fail;rw[jad])
 go_ret3;exact⟨_,_,rfl,bDr (bDr (Below.refl _ _) _) _⟩
theorem jtu (w:World):Calls Tryz.prog 202 #[.int .i64 2,.int .i64 0] w (jbV true w):=by
 have A:jar 2=true:=rfl;go_enter Tryz.func202,Tryz.ntmps202;go_wp2_with fail;refine jac 0 rfl ?_;go_wp2_with (go_at_call 201;refine (jae _ _).mono ?_;rintro e w' ⟨rfl,rfl⟩)
 first | rw[jad] | (go_step3;refine And.intro (rfl:(0:Nat)=0) ?_;go_wp2_with fail;go_wp2_with fail;rw[Exit.noGoto_ret]) | (go_step3;go_wp2_with fail;rw[jad])
 go_ret3;exact⟨_,_,rfl,Below.refl _ _⟩
theorem jwf (n:Int) (w:World) (A:1<=n) (B:n<=9223372036854775807) (C:64<=(n-1) / 4):Calls Tryz.prog 202 #[.int .i64 2,.int .i64 n] w (jbV false w):=by
 have E:(n==0)=false:=by rw[beq_eq_false_iff_ne];omega
 have D:jar 2=true:=rfl;go_enter Tryz.func202,Tryz.ntmps202;go_wp2_with fail;refine jac 0 rfl ?_;go_wp2_with (go_at_call 201;refine (jae _ _).mono ?_;rintro e w' ⟨rfl,rfl⟩);go_quiet (fail);go_wp2_with fail
 first | rw[jad] | (go_step3;refine And.intro (rfl:(0:Nat)=0) ?_;go_wp2_with fail;go_wp2_with fail;rw[Exit.noGoto_ret]) | (go_step3;go_wp2_with fail;rw[jad])
 go_ret3;exact⟨_,_,rfl,bDr (Below.refl _ _) _⟩
theorem jtq (n:Int) (w:World) (A:1<=n) (B:n<=9223372036854775807) (C:(n-1) / 4<64) (D:2<=(n-1) / 4):Calls Tryz.prog 202 #[.int .i64 2,.int .i64 n] w (jbV true w):=by
 have F:(n==0)=false:=by rw[beq_eq_false_iff_ne];omega
 have E:jar 2=true:=rfl;go_enter Tryz.func202,Tryz.ntmps202;go_wp2_with fail;refine jac 0 rfl ?_;go_wp2_with (go_at_call 201;refine (jae _ _).mono ?_;rintro e w' ⟨rfl,rfl⟩);go_quiet (fail);go_wp2_with fail;go_quiet (fail);go_wp2_with fail
 first | rw[jad] | (go_step3;refine And.intro (rfl:(0:Nat)=0) ?_;go_wp2_with fail;go_wp2_with fail;rw[Exit.noGoto_ret]) | (go_step3;go_wp2_with fail;rw[jad])
 go_ret3;exact⟨_,_,rfl,bDr (bDr (Below.refl _ _) _) _⟩
theorem jtv (w:World):Calls Tryz.prog 202 #[.int .i64 3,.int .i64 0] w (jbV true w):=by
 have A:jar 3=true:=rfl;go_enter Tryz.func202,Tryz.ntmps202;go_wp2_with fail;refine jac 0 rfl ?_;go_wp2_with (go_at_call 201;refine (jae _ _).mono ?_;rintro e w' ⟨rfl,rfl⟩)
 first | rw[jad] | (go_step3;refine And.intro (rfl:(0:Nat)=0) ?_;go_wp2_with fail;go_wp2_with fail;rw[Exit.noGoto_ret]) | (go_step3;go_wp2_with fail;rw[jad])
 go_ret3;exact⟨_,_,rfl,Below.refl _ _⟩
theorem jwg (n:Int) (w:World) (A:1<=n) (B:n<=9223372036854775807) (C:64<=(n-1) / 8):Calls Tryz.prog 202 #[.int .i64 3,.int .i64 n] w (jbV false w):=by
 have E:(n==0)=false:=by rw[beq_eq_false_iff_ne];omega
 have D:jar 3=true:=rfl;go_enter Tryz.func202,Tryz.ntmps202;go_wp2_with fail;refine jac 0 rfl ?_;go_wp2_with (go_at_call 201;refine (jae _ _).mono ?_;rintro e w' ⟨rfl,rfl⟩);go_quiet (fail);go_wp2_with fail
 first | rw[jad] | (go_step3;refine And.intro (rfl:(0:Nat)=0) ?_;go_wp2_with fail;go_wp2_with fail;rw[Exit.noGoto_ret]) | (go_step3;go_wp2_with fail;rw[jad])
 go_ret3;exact⟨_,_,rfl,bDr (Below.refl _ _) _⟩
theorem jtr (n:Int) (w:World) (A:1<=n) (B:n<=9223372036854775807) (C:(n-1) / 8<64) (D:3<=(n-1) / 8):Calls Tryz.prog 202 #[.int .i64 3,.int .i64 n] w (jbV true w):=by
 have F:(n==0)=false:=by rw[beq_eq_false_iff_ne];omega
 have E:jar 3=true:=rfl;go_enter Tryz.func202,Tryz.ntmps202;go_wp2_with fail;refine jac 0 rfl ?_;go_wp2_with (go_at_call 201;refine (jae _ _).mono ?_;rintro e w' ⟨rfl,rfl⟩);go_quiet (fail);go_wp2_with fail;go_quiet (fail);go_wp2_with fail
 first | rw[jad] | (go_step3;refine And.intro (rfl:(0:Nat)=0) ?_;go_wp2_with fail;go_wp2_with fail;rw[Exit.noGoto_ret]) | (go_step3;go_wp2_with fail;rw[jad])
 go_ret3;exact⟨_,_,rfl,bDr (bDr (Below.refl _ _) _) _⟩
theorem jti (n:Int) (w:World) (A:1<=n) (B:n<=9223372036854775807) (C:(n-1) / 2=0) (c:Bool) (E:(bits .and .i64 (bits .and .i64 (n-1) 1) 1==0)=c):Calls Tryz.prog 202 #[.int .i64 1,.int .i64 n] w (jbV c w):=by
 have F:(n==0)=false:=by rw[beq_eq_false_iff_ne];omega
 have D:jar 1=true:=rfl
 cases c
 ·go_enter Tryz.func202,Tryz.ntmps202
  go_wp2_with fail;refine jac 0 rfl ?_;go_wp2_with (go_at_call 201;refine (jae _ _).mono ?_;rintro e w' ⟨rfl,rfl⟩);go_quiet (fail);go_wp2_with fail
  first | rw[jad] | (go_step3;refine And.intro (rfl:(0:Nat)=0) ?_;go_wp2_with fail;go_wp2_with fail;rw[Exit.noGoto_ret]) | (go_step3;go_wp2_with fail;rw[jad])
  go_ret3;exact⟨_,_,rfl,bDr (Below.refl _ _) _⟩
 ·go_enter Tryz.func202,Tryz.ntmps202
  go_wp2_with fail;refine jac 0 rfl ?_;go_wp2_with (go_at_call 201;refine (jae _ _).mono ?_;rintro e w' ⟨rfl,rfl⟩);go_quiet (fail);go_wp2_with fail
  first | rw[jad] | (go_step3;refine And.intro (rfl:(0:Nat)=0) ?_;go_wp2_with fail;go_wp2_with fail;rw[Exit.noGoto_ret]) | (go_step3;go_wp2_with fail;rw[jad])
  go_ret3;exact⟨_,_,rfl,bDr (Below.refl _ _) _⟩
theorem jtj (n:Int) (w:World) (A:1<=n) (B:n<=9223372036854775807) (C:(n-1) / 4=0) (c:Bool) (E:(bits .and .i64 (bits .and .i64 (n-1) 3) 3==0)=c):Calls Tryz.prog 202 #[.int .i64 2,.int .i64 n] w (jbV c w):=by
 have F:(n==0)=false:=by rw[beq_eq_false_iff_ne];omega
 have D:jar 2=true:=rfl
 cases c
 ·go_enter Tryz.func202,Tryz.ntmps202
  go_wp2_with fail;refine jac 0 rfl ?_;go_wp2_with (go_at_call 201;refine (jae _ _).mono ?_;rintro e w' ⟨rfl,rfl⟩);go_quiet (fail);go_wp2_with fail
  first | rw[jad] | (go_step3;refine And.intro (rfl:(0:Nat)=0) ?_;go_wp2_with fail;go_wp2_with fail;rw[Exit.noGoto_ret]) | (go_step3;go_wp2_with fail;rw[jad])
  go_ret3;exact⟨_,_,rfl,bDr (Below.refl _ _) _⟩
 ·go_enter Tryz.func202,Tryz.ntmps202
  go_wp2_with fail;refine jac 0 rfl ?_;go_wp2_with (go_at_call 201;refine (jae _ _).mono ?_;rintro e w' ⟨rfl,rfl⟩);go_quiet (fail);go_wp2_with fail
  first | rw[jad] | (go_step3;refine And.intro (rfl:(0:Nat)=0) ?_;go_wp2_with fail;go_wp2_with fail;rw[Exit.noGoto_ret]) | (go_step3;go_wp2_with fail;rw[jad])
  go_ret3;exact⟨_,_,rfl,bDr (Below.refl _ _) _⟩
theorem jtk (n:Int) (w:World) (A:1<=n) (B:n<=9223372036854775807) (C:(n-1) / 4=1) (c:Bool) (E:(bits .and .i64 (bits .and .i64 (n-1) 3) 1==0)=c):Calls Tryz.prog 202 #[.int .i64 2,.int .i64 n] w (jbV c w):=by
 have F:(n==0)=false:=by rw[beq_eq_false_iff_ne];omega
 have D:jar 2=true:=rfl
 cases c
 ·go_enter Tryz.func202,Tryz.ntmps202
  go_wp2_with fail;refine jac 0 rfl ?_;go_wp2_with (go_at_call 201;refine (jae _ _).mono ?_;rintro e w' ⟨rfl,rfl⟩);go_quiet (fail);go_wp2_with fail
  first | rw[jad] | (go_step3;refine And.intro (rfl:(0:Nat)=0) ?_;go_wp2_with fail;go_wp2_with fail;rw[Exit.noGoto_ret]) | (go_step3;go_wp2_with fail;rw[jad])
  go_ret3;exact⟨_,_,rfl,bDr (Below.refl _ _) _⟩
 ·go_enter Tryz.func202,Tryz.ntmps202
  go_wp2_with fail;refine jac 0 rfl ?_;go_wp2_with (go_at_call 201;refine (jae _ _).mono ?_;rintro e w' ⟨rfl,rfl⟩);go_quiet (fail);go_wp2_with fail
  first | rw[jad] | (go_step3;refine And.intro (rfl:(0:Nat)=0) ?_;go_wp2_with fail;go_wp2_with fail;rw[Exit.noGoto_ret]) | (go_step3;go_wp2_with fail;rw[jad])
  go_ret3;exact⟨_,_,rfl,bDr (Below.refl _ _) _⟩
theorem jtl (n:Int) (w:World) (A:1<=n) (B:n<=9223372036854775807) (C:(n-1) / 8=0) (c:Bool) (E:(bits .and .i64 (bits .and .i64 (n-1) 7) 7==0)=c):Calls Tryz.prog 202 #[.int .i64 3,.int .i64 n] w (jbV c w):=by
 have F:(n==0)=false:=by rw[beq_eq_false_iff_ne];omega
 have D:jar 3=true:=rfl
 cases c
 ·go_enter Tryz.func202,Tryz.ntmps202
  go_wp2_with fail;refine jac 0 rfl ?_;go_wp2_with (go_at_call 201;refine (jae _ _).mono ?_;rintro e w' ⟨rfl,rfl⟩);go_quiet (fail);go_wp2_with fail
  first | rw[jad] | (go_step3;refine And.intro (rfl:(0:Nat)=0) ?_;go_wp2_with fail;go_wp2_with fail;rw[Exit.noGoto_ret]) | (go_step3;go_wp2_with fail;rw[jad])
  go_ret3;exact⟨_,_,rfl,bDr (Below.refl _ _) _⟩
 ·go_enter Tryz.func202,Tryz.ntmps202
  go_wp2_with fail;refine jac 0 rfl ?_;go_wp2_with (go_at_call 201;refine (jae _ _).mono ?_;rintro e w' ⟨rfl,rfl⟩);go_quiet (fail);go_wp2_with fail
  first | rw[jad] | (go_step3;refine And.intro (rfl:(0:Nat)=0) ?_;go_wp2_with fail;go_wp2_with fail;rw[Exit.noGoto_ret]) | (go_step3;go_wp2_with fail;rw[jad])
  go_ret3;exact⟨_,_,rfl,bDr (Below.refl _ _) _⟩
theorem jtm (n:Int) (w:World) (A:1<=n) (B:n<=9223372036854775807) (C:(n-1) / 8=1) (c:Bool) (E:(bits .and .i64 (bits .and .i64 (n-1) 7) 3==0)=c):Calls Tryz.prog 202 #[.int .i64 3,.int .i64 n] w (jbV c w):=by
 have F:(n==0)=false:=by rw[beq_eq_false_iff_ne];omega
 have D:jar 3=true:=rfl
 cases c
 ·go_enter Tryz.func202,Tryz.ntmps202
  go_wp2_with fail;refine jac 0 rfl ?_;go_wp2_with (go_at_call 201;refine (jae _ _).mono ?_;rintro e w' ⟨rfl,rfl⟩);go_quiet (fail);go_wp2_with fail
  first | rw[jad] | (go_step3;refine And.intro (rfl:(0:Nat)=0) ?_;go_wp2_with fail;go_wp2_with fail;rw[Exit.noGoto_ret]) | (go_step3;go_wp2_with fail;rw[jad])
  go_ret3;exact⟨_,_,rfl,bDr (Below.refl _ _) _⟩
 ·go_enter Tryz.func202,Tryz.ntmps202
  go_wp2_with fail;refine jac 0 rfl ?_;go_wp2_with (go_at_call 201;refine (jae _ _).mono ?_;rintro e w' ⟨rfl,rfl⟩);go_quiet (fail);go_wp2_with fail
  first | rw[jad] | (go_step3;refine And.intro (rfl:(0:Nat)=0) ?_;go_wp2_with fail;go_wp2_with fail;rw[Exit.noGoto_ret]) | (go_step3;go_wp2_with fail;rw[jad])
  go_ret3;exact⟨_,_,rfl,bDr (Below.refl _ _) _⟩
theorem jtn (n:Int) (w:World) (A:1<=n) (B:n<=9223372036854775807) (C:(n-1) / 8=2) (c:Bool) (E:(bits .and .i64 (bits .and .i64 (n-1) 7) 1==0)=c):Calls Tryz.prog 202 #[.int .i64 3,.int .i64 n] w (jbV c w):=by
 have F:(n==0)=false:=by rw[beq_eq_false_iff_ne];omega
 have D:jar 3=true:=rfl
 cases c
 ·go_enter Tryz.func202,Tryz.ntmps202
  go_wp2_with fail;refine jac 0 rfl ?_;go_wp2_with (go_at_call 201;refine (jae _ _).mono ?_;rintro e w' ⟨rfl,rfl⟩);go_quiet (fail);go_wp2_with fail
  first | rw[jad] | (go_step3;refine And.intro (rfl:(0:Nat)=0) ?_;go_wp2_with fail;go_wp2_with fail;rw[Exit.noGoto_ret]) | (go_step3;go_wp2_with fail;rw[jad])
  go_ret3;exact⟨_,_,rfl,bDr (Below.refl _ _) _⟩
 ·go_enter Tryz.func202,Tryz.ntmps202
  go_wp2_with fail;refine jac 0 rfl ?_;go_wp2_with (go_at_call 201;refine (jae _ _).mono ?_;rintro e w' ⟨rfl,rfl⟩);go_quiet (fail);go_wp2_with fail
  first | rw[jad] | (go_step3;refine And.intro (rfl:(0:Nat)=0) ?_;go_wp2_with fail;go_wp2_with fail;rw[Exit.noGoto_ret]) | (go_step3;go_wp2_with fail;rw[jad])
  go_ret3;exact⟨_,_,rfl,bDr (Below.refl _ _) _⟩
theorem jcW (fine n:Int) (D:1<=n) (C:jar fine=true):jaz fine n=(if 64<=(n-1) / 2^fine.toNat then false else if fine<=(n-1) / 2^fine.toNat then true
   else bits .and .i64 (bits .and .i64 (n-1) (2^fine.toNat-1)) (2^(fine-(n-1) / 2^fine.toNat).toNat-1)==0):=by
 unfold jaz;have A:decide (0<=n)=true:=decide_eq_true (by omega);have B:(n==0)=false:=beq_eq_false_iff_ne.2 (by omega);rw[C,A,B];rfl
theorem joj (fine n:Int) (B:n<=9223372036854775807) (w:World):Calls Tryz.prog 202 #[.int .i64 fine,.int .i64 n] w (jbV (jaz fine n) w):=by
 cases D:jar fine with
 | false=>exact jqe fine n w (by simp[jaz,D]) (.inl D)
 | true =>
  by_cases E:n<0
  ·exact jqe fine n w (by simp[jaz];intros;omega) (.inr E)
  by_cases F:n=0
  ·subst F
   have hb:jaz fine 0=true:=by simp[jaz,D]
   rw[hb];have hr:0<=fine/\fine<=3:=by simpa [jar] using D
   rcases (by omega:fine=0\/fine=1\/fine=2\/fine=3) with rfl | rfl | rfl | rfl
   ·exact jts w
   ·exact jtt w
   ·exact jtu w
   ·exact jtv w
  have hr:0<=fine/\fine<=3:=by simpa [jar] using D
  rw[jcW fine n (by omega) D];rcases (by omega:fine=0\/fine=1\/fine=2\/fine=3) with rfl | rfl | rfl | rfl
  ·rw[show (2:Int)^(0:Int).toNat=1 from rfl,Int.ediv_one]
   by_cases A:64<=n-1
   ·rw[if_pos A];exact jwd n w (by omega) B A
   ·rw[if_neg A,if_pos (by omega)];exact jto n w (by omega) B (by omega) (by omega)
  ·rw[show (2:Int)^(1:Int).toNat=2 from rfl]
   by_cases A:64<=(n-1) / 2
   ·rw[if_pos A];exact jwe n w (by omega) B A
   rw[if_neg A];by_cases C:1<=(n-1) / 2
   ·rw[if_pos C];exact jtp n w (by omega) B (by omega) C
   rw[if_neg C];have e:(n-1) / 2=0:=by omega
   rw[e];exact jti n w (by omega) B e _ rfl
  ·rw[show (2:Int)^(2:Int).toNat=4 from rfl]
   by_cases A:64<=(n-1) / 4
   ·rw[if_pos A];exact jwf n w (by omega) B A
   rw[if_neg A];by_cases C:2<=(n-1) / 4
   ·rw[if_pos C];exact jtq n w (by omega) B (by omega) C
   rw[if_neg C];rcases (by omega:(n-1) / 4=0\/(n-1) / 4=1) with e | e<;>rw[e]
   ·exact jtj n w (by omega) B e _ rfl
   ·exact jtk n w (by omega) B e _ rfl
  ·rw[show (2:Int)^(3:Int).toNat=8 from rfl]
   by_cases A:64<=(n-1) / 8
   ·rw[if_pos A];exact jwg n w (by omega) B A
   rw[if_neg A];by_cases C:3<=(n-1) / 8
   ·rw[if_pos C];exact jtr n w (by omega) B (by omega) C
   rw[if_neg C];rcases (by omega:(n-1) / 8=0\/(n-1) / 8=1\/(n-1) / 8=2) with e | e | e<;>rw[e]
   ·exact jtl n w (by omega) B e _ rfl
   ·exact jtm n w (by omega) B e _ rfl
   ·exact jtn n w (by omega) B e _ rfl
theorem jb7 (r c:Int) (l:List Int) (a:Option Addr) (len cap:Nat) (w:World) (E:len=l.length) :
  CR 173 #[.agg #[.int .i64 r,.int .i64 c,.slice a len cap]] w (.bool (jbJ r c l)):=by
 have B:Bw w (w.alloc (.cells #[.int .i64 r,.int .i64 c,.slice a len cap] 39)):=(Below.refl _ w).alloc (Nat.le_refl _) _;have F:=Lib.hid E;clear E;have C:=fun w=>jhI r c w
 cases A:ja3 r c with
 | false =>
  rw[A] at C;have D:=Lib.hid A;clear A;go_enter Tryz.func173,Tryz.ntmps173;go_wp2_with (go_at_call 169;refine (C _).mono ?_;rintro e w' ⟨rfl,rfl⟩);go_ret;exact⟨by simp[jbJ,D.out],B⟩
 | true =>
  rw[A] at C;have hr:(1<=r/\r<=4)/\4<=c/\c<=32:=by simp[ja3] at A;omega
  obtain⟨⟨M,I⟩,N,J⟩:=hr;have H:r*c<=4*32:=Int.mul_le_mul I J (by omega) (by omega);have G:0<=r*c:=Int.mul_nonneg (by omega) (by omega);have L:IntKind.i64.wrap (r*c)=r*c:=IntWalk.i64_in _ (by omega);have D:=Lib.hid A;clear A;go_enter Tryz.func173,Tryz.ntmps173;go_wp2_with (go_at_call 169;refine (C _).mono ?_;rintro e w' ⟨rfl,rfl⟩);go_ret;exact⟨by simp[jbJ,D.out,<- F.out],B⟩
theorem jbN (fine:Int) (l:List (Int × Int)) (a:Option Addr) (len cap:Nat) (w:World) (g:SlE jb4 2 w.heap.size w a len l) (hm:len<=maxLen) (hb:∀ b∈l,b.1<=9223372036854775807) :
  CR 174 #[.agg #[.int .i64 fine,.slice a len cap]] w (.bool (jaR fine l)):=by
 unfold maxLen at hm;obtain⟨d,j,Q,A,o⟩:=jab w #[.int .i64 fine,.slice a len cap] 42;obtain⟨y,c1⟩:=cl2 Q;have s:w.heap.size<d.heap.size:=by omega
 have HL:=Lib.hid g.1;have Y:=g.below A;have U:=fun w=>jae fine w
 have c:=Lib.hid hb;clear g Q o hb
 cases J:jar fine with
 | false =>
  rw[J] at U;have X:=Lib.hid J;clear J Y;go_enter Tryz.func174,Tryz.ntmps174;go_wp2_with (go_at_call 201;refine (U _).mono ?_;rintro e w' ⟨rfl,rfl⟩);go_ret;exact⟨by simp[jaR,X.out],A⟩
 | true =>
  rw[J] at U;have u:Hid (jaR fine l=(jck (jcw fine) (-1) l).isSome):=by simp[Hid,jaR,J]
  clear J;go_enter Tryz.func174,Tryz.ntmps174;go_wp2_with (go_at_call 201;refine (U _).mono ?_;rintro e w' ⟨rfl,rfl⟩);clear j U;go_loopw [3,16] (fun la i wr=>∃ (k:Nat) (B:Int),i=.int .i64 k/\la=.int .i64 B/\k<=len/\Bw d wr/\Hid (jck (jcw fine) (-1) (l.take k)=some B)) (fun _ i _=>len-(intOf i).toNat)
  case atStart=>exact⟨0,-1,rfl,rfl,Nat.zero_le _,Below.refl _ _,rfl⟩
  case round =>
   obtain⟨k,B,rfl,rfl,hk,O,X⟩:=hrel;have t:=O.size;by_cases n:k<len
   ·obtain⟨x,b1,o1,r,ea,aa,p0,p1⟩:=jc1 (Y.below (O.mono A.size)) n
    subst ea;have V:x.1<=9223372036854775807:=c.out x (List.mem_of_getElem? r);have v:=Lib.hid (jiO r X.out);obtain⟨E,Z⟩:=x;dsimp only at p0 p1 V;have z:wr.cell? ⟨w.heap.size,0,none⟩=some (.int .i64 fine):=(O.cell (p:=⟨w.heap.size,0,none⟩) s).trans y;obtain⟨f,m,H,P,q⟩:=jab wr #[.int .i64 E,.int .u64 Z] 97;have r0:f.cell? ⟨wr.heap.size,0,none⟩=some (.int .i64 E):=cCc H 0;have f0:f.cell? ⟨w.heap.size,0,none⟩=some (.int .i64 fine):=(P.cell (p:=⟨w.heap.size,0,none⟩) (by show w.heap.size<_;omega)).trans z;have T:=joj fine E V f;clear r Y y c1 z;go_wp2_with fail;refine T.mono ?_;rintro e w3 ⟨lo,hi,rfl,S⟩;have R:=known S (Nat.le_refl _) H;obtain⟨s0,s1⟩:=cl2 R;have F:Bw d w3:=O.trans ((P.mono t).trans (S.mono (by omega)));have M:Hid (∀ G,((Z==0) || !jaz fine E||decide (E<=B))=G->jck (jcw fine) (-1) (l.take (k+1))=if G then none else some E):=fun G h=>by rw[v.out,<- h];rfl
    clear m H R r0 f0 T q v
    have D:Hid (∀ G,((Z==0) || !jaz fine E||decide (E<=B))=G->G=true->jaR fine l=false):=fun G I N=>by
     rw[u.out,jiN (k:=k+1) (by rw[M.out G I,N];rfl)];rfl
    cases I:(Z==0) with
    | true =>
     have C:=D.out true (by rw[I];rfl) rfl;have L:=Lib.hid C;clear C;go_wp2_with fail;go_ret;exact⟨by rw[L.out];rfl,A.trans (F.mono A.size)⟩
    | false =>
     cases N:jaz fine E with
     | false =>
      have C:=D.out true (by rw[I,N];rfl) rfl;have L:=Lib.hid C;clear C;go_wp2_with fail;go_ret;exact⟨by rw[L.out];rfl,A.trans (F.mono A.size)⟩
     | true =>
      by_cases h3:E<=B
      ·have C:=D.out true (by rw[I,N,decide_eq_true h3];rfl) rfl
       have L:=Lib.hid C;clear C;go_wp2_with fail;go_ret;exact⟨by rw[L.out];rfl,A.trans (F.mono A.size)⟩
      ·have H8:=Lib.hid (M.out false (by rw[I,N,decide_eq_false h3];rfl))
       go_wp2_with fail;go_roundw
       case rel=>exact⟨k+1,E,by go_num,rfl,by omega,F,H8.out⟩
       case measure=>simp[intOf];omega
   ·obtain rfl:k=len:=by omega
    clear Y;go_wp2_with fail;go_ret;have C:=X.out;rw[List.take_of_length_le (by rw[<- HL.out];omega)] at C;exact⟨by rw[u.out,C];rfl,A.trans (O.mono A.size)⟩
section
open Go.Shelf
attribute [local go_sem] Oper.semAt_some
theorem jhU (s:ByteArray) (w:World) :
  Calls Tryz.prog 200 #[.string s] w fun e w'=>e=.returned (.func (.func 217) #[] #[.pointer (some ⟨w.heap.size,0,none⟩)])/\w'=w.alloc (.cells #[.string s] 9):=by
 go_enter Tryz.func200,Tryz.ntmps200;go_wp2;go_ret;exact⟨rfl,rfl⟩
theorem jgS {α:Type} {P:Program} {g:Operand} {H:Array Tmp} {assign body:Code} {Q:Exit->Act->World->Prop} {a:Act} {w:World} (s:Nat) (val:α->Value)
  {gf:Nat} {lb:Array Value} (f:a.eval g=.func (.func gf) #[] lb) (b:∀ args w,(callFunc gf args).run P w=.ok (.enter gf args) w)
  {B:α->Array Value} {Y:Nat} {xs:List α} {N:Nat} {w0:World} (J:SeqStopsK Fence.wide 8 P gf lb B (Below Y) (fun h=>h=xs) (fun A=>A <+: xs) N w0)
  (V:Y<=w.heap.size) (R:Bw w0 w) (X:∀ x,(B x).size=H.size)
  (I:List α->World->Prop) (L:Code->List α->World->Prop) (e:OwnFrom w.heap.size I) (M:∀ c,OwnFrom w.heap.size (L c)) (d:I [] w)
  (C:∀ (l:Nat) (A:List α) (x:α) (W:World) (K:Act->World->Prop),I A W ->
   (I A W->K { tmps:=((H.zip (B x)).foldl (fun t (p,v)=>t.setIfInBounds p v) a.tmps).setIfInBounds s (val x),defers:=[] } W) ->
   assign.wpIn (Fence.wide.inRound l) 7 P (Exit.then K (fun _ _ _=>False)) { tmps:=(H.zip (B x)).foldl (fun t (p,v)=>t.setIfInBounds p v) a.tmps,defers:=[] } W)
  (E:∀ (l:Nat) (A:List α) (x:α) (W:World),I A W->A.length<N ->
   body.wpIn (Fence.wide.inRound l) 7 P (ownPostG w.heap.size (Below Y) I L (A++[x]) W) { tmps:=((H.zip (B x)).foldl (fun t (p,v)=>t.setIfInBounds p v) a.tmps).setIfInBounds s (val x),defers:=[] } W)
  (F:∀ (D:Nat) (W:World),w.heap.size<=D->I xs W->W.heap[D]? = some (.deferred (some []))->Q .normal { a with defers:={ target:=.collected D,args:=#[] }::a.defers } W)
  (G:∀ (D:Nat) (c:Code) (A:List α) (W:World),w.heap.size<=D->A <+: xs->L c A W->W.heap[D]? = some (.deferred (some []))->c.wp P Q { a with defers:={ target:=.collected D,args:=#[] }::a.defers } W) :
  (Code.rangeFunc g H assign body).wp P Q a w :=
 jku f b J V R X I L e M d
  (fun x Z _=>Z = { tmps:=((H.zip (B x)).foldl (fun t (p,v)=>t.setIfInBounds p v) a.tmps).setIfInBounds s (val x),defers:=[] }) (fun _ _=>ownFrom_pure _ _)
  (fun l A x W K S hK=>C l A x W K S (fun T=>hK _ _ (KeepsFrom.refl _ _) (Below.refl _ _) T rfl))
  (fun l A x Z W S O U=>by subst O;exact E l A x W S U) F G
def jfR (s:ByteArray):List (Nat × UInt8):=(List.range s.size).map fun i=>(i,s.data.toList.getD i 0)
def jfS (b:Int) (l:List (Nat × UInt8)):Bool:=l.all fun p => !decide (65-b<(p.2.toNat:Int))
theorem jd1 (b:Int) (l m:List (Nat × UInt8)):jfS b (l++m)=(jfS b l&&jfS b m):=List.all_append
theorem jiY (b:Int) (x:Nat × UInt8):jfS b [x] = !decide (65-b<(x.2.toNat:Int)):=by simp[jfS]
theorem jnT (b:Int) (s:ByteArray):jfS b (jfR s)=jfW b s:=by
 have h:s.data.toList=(jfR s).map (·.2):=by
  apply List.ext_getElem?;intro i;by_cases A:i<s.size
  ·simp[jfR,A]
  ·simp[jfR,A]
 unfold jfW jfS;rw[h,List.all_map];rfl
theorem jg5 (s:ByteArray):(jfR s).length=s.size:=by simp[jfR]
theorem jrB (s:ByteArray) (k:Nat) (h:k<s.size):(jfR s)[k]? = some (k,s[k]'h):=by
 simp[jfR,h];rfl
theorem jxw (l C P:Nat) (s:ByteArray) (I:s.size<4294967281) (J S:List (Nat × UInt8)->World->Prop)
  (Y:∀ A x W,J A W->A.length<(jfR s).length->YieldAt Fence.wide 7 Tryz.prog l #[.int .i64 x.1,.int .u8 x.2.toNat] W fun e B =>
   (e=.returned (.bool true)/\J (A++[x]) B/\Below P W B)\/(e=.returned (.bool false)/\S (A++[x]) B))
  (W:World) (O:C<P) (L:W.cell? ⟨C,0,none⟩=some (.string s)) (V:J [] W) :
  CallsIn Fence.wide 8 Tryz.prog 217 #[.func (.yield l) #[] #[],.pointer (some ⟨C,0,none⟩)] W fun e B=>(∃ v,e=.returned v) /\
   ((∃ U,U=jfR s/\J U B)\/(∃ A,A <+: jfR s/\S A B)):=by
 have H:=jg5 s;refine callsIn_of_wp Tryz.func217 rfl trivial ?_ rfl;simp only[Tryz.ntmps217,List.size_toArray,List.length_cons,List.length_nil,Nat.reduceAdd,Nat.reduceSub,Array.replicate_succ,Array.replicate_zero,List.push_toArray,List.append_toArray,List.nil_append,List.cons_append];have Q:=Lib.hid H;clear H;gi_wp2;gi_loopw [3,6] (fun _ i wr=>∃ k:Nat,k<=s.size/\i=.int .i64 k/\J ((jfR s).take k) wr/\Below P W wr) (fun _ i _=>s.size-(intOf i).toNat)
 case atStart=>exact⟨0,Nat.zero_le _,rfl,V,Below.refl _ _⟩
 case round =>
  obtain⟨k,c,rfl,D,G⟩:=hrel;by_cases F:k<s.size
  ·have T:=jrB s k F
   obtain⟨b,tmps,assign,body,d,X⟩:=Y _ (k,s[k]'F) _ D (by rw[List.length_take,Q.out];omega);have R:=Lib.hid T;have a:wr.cell? ⟨C,0,none⟩=some (.string s):=(G.cell (p:=⟨C,0,none⟩) O).trans L;clear T;gi_wp2;refine X.mono ?_;rintro e Z (⟨rfl,M,N⟩ | ⟨rfl,E⟩)
   ·gi_wp2
    go_roundw
    case rel=>exact⟨k+1,by omega,by simp,by rw[jaf R.out];exact M,G.trans N⟩
    case measure=>simp[intOf];omega
   ·gi_wp2
    refine bodyPost_ret (results_none rfl _ _ _) rfl ?_;exact⟨⟨_,rfl⟩,.inr ⟨_,by have h:=List.take_prefix (k+1) (jfR s);rwa [jaf R.out] at h,E⟩⟩
  ·obtain rfl:k=s.size:=by omega
   gi_wp2
   go_end0;exact⟨⟨_,rfl⟩,.inl ⟨_,List.take_of_length_le (by rw[Q.out];omega),D⟩⟩
theorem jr0 (B E:Nat) (s:ByteArray) (A:s.size<4294967281) (w:World) (C:B<w.heap.size) (D:B<E) (M:w.cell? ⟨B,0,none⟩=some (.string s)) :
  SeqStopsK Fence.wide 8 Tryz.prog 217 #[.pointer (some ⟨B,0,none⟩)] (fun x:Nat × UInt8=>#[.int .i64 x.1,.int .u8 x.2.toNat]) (Below E) (fun N=>N=jfR s) (fun F=>F <+: jfR s) (jfR s).length w:=fun l J G W I _ _ L H =>
 jxw l B E s A J G L W D ((I.cell (p:=⟨B,0,none⟩) C).trans M) H
theorem jjI (b:Int) (s:ByteArray) (w:World) (m:3<=b) (n:b<=8) (z:(s.size:Int)=2^b.toNat) :
  CR 172 #[.agg #[.int .i64 b,.string s]] w (.bool (jfW b s)):=by
 obtain⟨h,k,Q,i,a⟩:=jab w #[.int .i64 b,.string s] 37;obtain⟨v,c1⟩:=cl2 Q;refine jaq Tryz.func172 rfl ?_;simp only[Tryz.ntmps172,List.size_toArray,List.length_cons,List.length_nil,Nat.reduceAdd,Nat.reduceSub,Array.replicate_succ,Array.replicate_zero,List.push_toArray,List.append_toArray,List.nil_append,List.cons_append];have Z:∀ w,Calls Tryz.prog 199 #[.int .i64 b] w fun e w'=>e=.returned (.bool true)/\w'=w:=fun w=>(jdI b w).mono fun e w' ⟨y,h2⟩=>⟨by rw[y];simp[jc5,m,n],h2.symm⟩
 have q:s.size<=256:=by
  have y:(2:Int)^b.toNat<=2^8:=by
   have:(2:Nat)^b.toNat<=2^8:=Nat.pow_le_pow_right (by omega) (by omega);exact_mod_cast this
  omega
 have hw:IntKind.i64.wrap (2^b.toNat)=(s.size:Int):=by rw[<- z];exact IntWalk.i64_in _ (by omega)
 have t0:((s.size:Int) != (s.size:Int))=false:=by simp
 have g:=Lib.hid Z;clear z Z;go_wp2_with fail;go_step3;go_wp2_with fail;go_quiet ((go_at_call 199;exact Calls.quiet_of_same (g.out _)));go_wp2_with fail;go_step3;have j:Bw w (h.drewN nq):=bDr i nq;obtain⟨f,X,R,O,M⟩:=jab (h.drewN nq) #[.bool true] 4;have hz:(h.drewN nq).heap.size=w.heap.size+1:=a;rw[hz] at R O M;have S:f.heap[w.heap.size]? = some (.cells #[.int .i64 b,.string s] 37 (0,0)):=(O.block _ (by omega)).trans Q;have ca:f.cell? ⟨w.heap.size,1,none⟩=some (.string s):=cCc S 1;obtain⟨U,V,E,H,L⟩:=jab f #[.string s] 9;rw[M] at E H L;have J:=(H.block _ (by omega)).trans S;have C:=(H.block _ (by omega)).trans R;have I:Bw w U:=(j.trans (O.mono (by omega))).trans (H.mono (by omega));have u:=Lib.hid V;have d:w.heap.size+1+1<=f.heap.size:=by omega
 rw[X];clear k Q a V X hz R S;go_wp2_with fail;refine (jhU _ _).mono ?_;rintro e w' ⟨rfl,rfl⟩;rw[M,u.out];clear M d ca;go_wp2_with fail;have o:U.cell? ⟨w.heap.size+1+1,0,none⟩=some (.string s):=cCc E 0;clear v c1 u
 refine jgS 5 (fun x:Nat × UInt8=>.int .u8 x.2.toNat) (gf:=217) (lb:=#[.pointer (some ⟨w.heap.size+1+1,0,none⟩)]) rfl (enters_of Tryz.func217 (by kernel_rfl) rfl)
  (jr0 (w.heap.size+1+1) U.heap.size s (by omega) U (by omega) (by omega) o) (Nat.le_refl _) (Below.refl _ _) (fun _=>rfl)
  (fun B W=>Bw U W/\jfS b B=true)
  (fun c B W=>Boxed W (w.heap.size+1) 4 (.bool false)/\(c=.exit 0/\jfS b B=false)/\Bw w W)
  ((ownFrom_below (Nat.le_refl _) (Nat.le_refl _)).and (ownFrom_pure _ _))
  (fun c=>(jc9 _ _ _ _).and ((ownFrom_pure _ _).and (ownFrom_below (Nat.le_refl _) (by omega))))
  ⟨Below.refl _ _,rfl⟩ ?assign ?body ?done ?stop
 case assign =>
  rintro l B x W K hI hK;simp only[List.zip_toArray,List.zip_cons_cons,List.zip_nil_right,List.size_toArray,List.foldl_toArray',List.foldl_cons,List.foldl_nil,List.setIfInBounds_toArray,List.set_cons_succ,List.set_cons_zero] at hK ⊢;gi_wp2;exact hI
 case body =>
  rintro l B x W ⟨G,T⟩ aa;simp only[List.zip_toArray,List.zip_cons_cons,List.zip_nil_right,List.size_toArray,List.foldl_toArray',List.foldl_cons,List.foldl_nil,List.setIfInBounds_toArray,List.set_cons_succ,List.set_cons_zero];have Y:=(G.block _ (by omega)).trans J;have A:=(G.block _ (by omega)).trans C;have v:W.cell? ⟨w.heap.size,0,none⟩=some (.int .i64 b):=cCc Y 0;have c1:W.cell? ⟨w.heap.size+1,0,none⟩=some (.bool true):=cCc A 0;have c2:W.frozen? ⟨w.heap.size+1,0,none⟩=false:=cFz A 0;have F:Boxed W (w.heap.size+1) 4 (.bool true):=A;have N:Bw w W:=I.trans (G.mono I.size);have r:=Lib.hid T;have hx:=UInt8.toNat_lt x.2;have ab:wrap64 (x.2.toNat:Int)=(x.2.toNat:Int):=by unfold wrap64;omega
  clear T Y A C E J L;by_cases ht:65-b<(x.2.toNat:Int)
  ·gi_wp2_with fail
   exact⟨(KeepsOthers.setCell _ _ _).from _,F.set _,⟨rfl,by rw[jd1,r.out,jiY,decide_eq_true ht];rfl⟩,N.setCell (p:=⟨w.heap.size+1,0,none⟩) (Nat.le_succ _) _⟩
  ·gi_wp2_with fail
   exact⟨KeepsFrom.refl _ _,Below.refl _ _,G,by rw[jd1,r.out,jiY,decide_eq_false (by omega)];rfl⟩
 case done =>
  rintro D W hD ⟨G,T⟩ hK;have A:=(G.block _ (by omega)).trans C;have c1:W.cell? ⟨w.heap.size+1,0,none⟩=some (.bool true):=cCc A 0;have N:Bw w W:=I.trans (G.mono I.size);have P:w.heap.size<=D:=by omega
  clear C E J L A;go_wp2_with fail;refine jau hK (results_tmp rfl _ _ _) ⟨by rw[<- jnT,T];rfl,jee N P hK⟩
 case stop =>
  rintro D c B W hD hp ⟨F,⟨rfl,T⟩,G⟩ hK;have c3:=F.cell;have P:w.heap.size<=D:=by omega
  clear C E J L;go_wp2_with fail
  have h9:jfW b s=false:=by
   rw[<- jnT];obtain⟨t,ht⟩:=hp;rw[<- ht,jd1,T];rfl
  refine jau hK (results_tmp rfl _ _ _) ⟨by rw[h9];rfl,jee G P hK⟩
theorem jb9 (b:Int) (s:ByteArray) (w:World) :
  CR 172 #[.agg #[.int .i64 b,.string s]] w (.bool (jbw b s)):=by
 cases hb:jc5 b with
 | true =>
  have hr:3<=b/\b<=8:=by simpa [jc5] using hb
  by_cases G:(s.size:Int)=2^b.toNat
  ·refine (jjI b s w hr.1 hr.2 G).mono ?_
   rintro e w' ⟨rfl,h⟩;have D:((s.size:Int)==2^b.toNat)=true:=beq_iff_eq.2 G;exact⟨by simp only[jbw,hb,D,Bool.true_and],h⟩
  ·obtain⟨M,J,A,E,F⟩:=jab w #[.int .i64 b,.string s] 37
   obtain⟨N,c1⟩:=cl2 A;have B:∀ w,Calls Tryz.prog 199 #[.int .i64 b] w fun e w'=>e=.returned (.bool true)/\w'=w:=fun w=>(jdI b w).mono fun e w' ⟨I,D⟩=>⟨by rw[I,hb],D.symm⟩
   have C:=Lib.hid B
   have O:(2:Int)^b.toNat<=256:=by
    have:(2:Nat)^b.toNat<=2^8:=Nat.pow_le_pow_right (by omega) (by omega);exact_mod_cast this
   have L:(0:Int)<=2^b.toNat:=by
    have:(0:Nat)<=2^b.toNat:=Nat.zero_le _;exact_mod_cast this
   generalize hq:(2:Int)^b.toNat=q at G O L;have R:IntKind.i64.wrap (2^b.toNat)=q:=by rw[hq];exact IntWalk.i64_in _ (by omega)
   have S:((s.size:Int) != q)=true:=by rw[bne_iff_ne];exact G
   have H:Hid (jbw b s=false):=by
    have D:((s.size:Int)==2^b.toNat)=false:=by rw[hq,beq_eq_false_iff_ne];exact G
    simp only[Hid,jbw,D,Bool.and_false,Bool.false_and]
   obtain⟨P,Q⟩:=hr;clear hb B hq G A F;refine jaq Tryz.func172 rfl ?_;simp only[Tryz.ntmps172,List.size_toArray,List.length_cons,List.length_nil,Nat.reduceAdd,Nat.reduceSub,Array.replicate_succ,Array.replicate_zero,List.push_toArray,List.append_toArray,List.nil_append,List.cons_append];go_wp2_with fail;go_step3;go_wp2_with fail;go_quiet ((go_at_call 199;exact Calls.quiet_of_same (C.out _)));go_wp2_with fail;exact jb1 (results_tmp rfl _ _ _) rfl ⟨by rw[H.out];rfl,bDr E _⟩
 | false =>
  obtain⟨M,J,A,E,F⟩:=jab w #[.int .i64 b,.string s] 37;have N:M.cell? ⟨w.heap.size,0,none⟩=some (.int .i64 b):=cCc A 0;have B:∀ w,Calls Tryz.prog 199 #[.int .i64 b] w fun e w'=>e=.returned (.bool false)/\w'=w:=fun w=>(jdI b w).mono fun e w' ⟨I,D⟩=>⟨by rw[I,hb],D.symm⟩
  have C:=Lib.hid B;have H:Hid (jbw b s=false):=by simp only[Hid,jbw,hb,Bool.false_and]
  clear hb B A F;refine jaq Tryz.func172 rfl ?_;simp only[Tryz.ntmps172,List.size_toArray,List.length_cons,List.length_nil,Nat.reduceAdd,Nat.reduceSub,Array.replicate_succ,Array.replicate_zero,List.push_toArray,List.append_toArray,List.nil_append,List.cons_append];go_wp2_with fail;go_step3;go_wp2_with fail;go_quiet ((go_at_call 199;exact Calls.quiet_of_same (C.out _)));go_wp2_with fail;exact jb1 (results_tmp rfl _ _ _) rfl ⟨by rw[H.out];rfl,bDr E _⟩
end
end Go.Proofs.YtnegciklhanmbaaGreatDoor
