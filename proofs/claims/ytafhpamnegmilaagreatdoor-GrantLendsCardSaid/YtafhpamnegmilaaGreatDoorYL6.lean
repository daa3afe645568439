/- Package hist: Bounds, with the least value. Regions that draw their order inside a round: by the walk outside of one. Of no program. Package cms: change, by told and Add's function. Package cms: change, by all and Lower's function. Package cms: Lower's function. Package hist: put. Package hist: blank, begin. slices.Sorted(maps.Keys(..)) at the keys of a histogram's counts: the kit's contracts, laid at this program by hand. Package label: Text. -/
import Derived.Maps.OwnOps
import Derived.Maps.OwnSet
import Derived.Maps.RangeWalk
import Derived.Maps.Ext
import Derived.Shelf.SlIterI.Nil
import Derived.Ground.GgzProg
import Derived.Test.YtafhpamnegmilaaGreatDoorYGA
set_option maxHeartbeats 8000000
set_option maxRecDepth 100000
namespace Go.Proofs.YtafhpamnegmilaaGreatDoor
open Go Go.RowKit Go.Shelf
def jcf (f:Nat) (n:Int):Int:=if n=0 then 0 else if (f:Int)<=(n-1) / 2^f then bits .or .u64 (IntKind.u64.wrap (2^((n-1) / 2^f).toNat)) (IntKind.u64.wrap (IntKind.u64.wrap (bits .and .i64 (n-1) (2^f-1))*2^((n-1) / 2^f-(f:Int)).toNat))
 else bits .or .u64 (2^((n-1) / 2^f).toNat) (IntKind.u64.wrap (bits .and .i64 (n-1) (2^f-1)) / 2^(f-((n-1) / 2^f).toNat))
def BdL (lo:Int) (w:World) (e:Ending) (w':World):Prop:=∃ hi:Int,e=.returned (.tuple #[.int .u64 lo,.int .u64 hi,.bool true])/\Bw w w'
theorem jrl:∀ f∈[1,2,3],∀ n∈List.range 513,jao ((f:Nat):Int) ((n:Nat):Int)=true->ji5 ((f:Nat)-1:Int) (jcf f ((n:Nat):Int)).toNat=jaR ((n:Nat):Int)/\(0<=jcf f ((n:Nat):Int)/\jcf f ((n:Nat):Int)<=18446744073709551615):=by decide +kernel
theorem jcp (f:Nat) (C:f<=3) (n:Int) (h:jao f n=true):0<=n/\n<=512:=by
 have B:0<=n:=by
  unfold jao at h;split at h
  ·rename_i A
   simp only[Bool.and_eq_true,decide_eq_true_eq] at A;exact A.2
  ·cases h
 refine⟨B,?_⟩;by_cases D:n=0
 ·omega
 rw[jdV _ _ (by omega) (jcj f C)] at h;rcases (by omega:f=0\/f=1\/f=2\/f=3) with rfl | rfl | rfl | rfl
 ·simp only[show (((0:Nat):Int)).toNat=0 from rfl] at h
  by_cases A:64<=(n-1) / 2^0
  ·rw[if_pos A] at h;cases h
  ·omega
 ·simp only[show (((1:Nat):Int)).toNat=1 from rfl] at h
  by_cases A:64<=(n-1) / 2^1
  ·rw[if_pos A] at h;cases h
  ·omega
 ·simp only[show (((2:Nat):Int)).toNat=2 from rfl] at h
  by_cases A:64<=(n-1) / 2^2
  ·rw[if_pos A] at h;cases h
  ·omega
 ·simp only[show (((3:Nat):Int)).toNat=3 from rfl] at h
  by_cases A:64<=(n-1) / 2^3
  ·rw[if_pos A] at h;cases h
  ·omega
theorem jjE (f:Nat) (C:1<=f) (A:f<=3) (n:Int) (h:jao f n=true):ji5 ((f:Int)-1) (jcf f n).toNat=jaR n/\U64 (jcf f n):=by
 obtain⟨B,D⟩:=jcp f A n h;have:=jrl f (by simp;omega) n.toNat (by simp;omega);rw[Int.toNat_of_nonneg B] at this;exact this h
theorem jtp (w:World):Calls Tryz.prog 198 #[.int .i64 1,.int .i64 0] w (BdL 0 w):=by
 have A:jaq 1=true:=rfl;go_enter Tryz.func198,Tryz.ntmps198;go_wp2_with fail;refine jag 0 rfl ?_;go_wp2_with (go_at_call 197;refine (jaj _ _).mono ?_;rintro e w' ⟨rfl,rfl⟩)
 first | rw[jah] | (go_step3;refine And.intro (rfl:(0:Nat)=0) ?_;go_wp2_with fail;go_wp2_with fail;rw[Exit.noGoto_ret]) | (go_step3;go_wp2_with fail;rw[jah])
 go_ret3;exact⟨_,rfl,Below.refl _ _⟩
theorem jtl (n:Int) (w:World) (A:1<=n) (B:n<=9223372036854775807) (C:(n-1) / 2<64) (D:1<=(n-1) / 2):Calls Tryz.prog 198 #[.int .i64 1,.int .i64 n] w (BdL (bits .or .u64 (IntKind.u64.wrap (2^((n-1) / 2).toNat)) (IntKind.u64.wrap (IntKind.u64.wrap (bits .and .i64 (n-1) 1)*2^(((n-1) / 2).toNat-1)))) w):=by
 have F:(n==0)=false:=by rw[beq_eq_false_iff_ne];omega
 have E:jaq 1=true:=rfl;go_enter Tryz.func198,Tryz.ntmps198;go_wp2_with fail;refine jag 0 rfl ?_;go_wp2_with (go_at_call 197;refine (jaj _ _).mono ?_;rintro e w' ⟨rfl,rfl⟩);go_quiet (fail);go_wp2_with fail;go_quiet (fail);go_wp2_with fail
 first | rw[jah] | (go_step3;refine And.intro (rfl:(0:Nat)=0) ?_;go_wp2_with fail;go_wp2_with fail;rw[Exit.noGoto_ret]) | (go_step3;go_wp2_with fail;rw[jah])
 go_ret3;exact⟨_,rfl,bDr (bDr (Below.refl _ _) _) _⟩
theorem jtf (n:Int) (w:World) (A:1<=n) (B:n<=9223372036854775807) (C:(n-1) / 2=0) (E:(bits .and .i64 (bits .and .i64 (n-1) 1) 1==0)=true):Calls Tryz.prog 198 #[.int .i64 1,.int .i64 n] w (BdL (bits .or .u64 1 (IntKind.u64.wrap (bits .and .i64 (n-1) 1) / 2)) w):=by
 have F:(n==0)=false:=by rw[beq_eq_false_iff_ne];omega
 have D:jaq 1=true:=rfl;go_enter Tryz.func198,Tryz.ntmps198;go_wp2_with fail;refine jag 0 rfl ?_;go_wp2_with (go_at_call 197;refine (jaj _ _).mono ?_;rintro e w' ⟨rfl,rfl⟩);go_quiet (fail);go_wp2_with fail
 first | rw[jah] | (go_step3;refine And.intro (rfl:(0:Nat)=0) ?_;go_wp2_with fail;go_wp2_with fail;rw[Exit.noGoto_ret]) | (go_step3;go_wp2_with fail;rw[jah])
 go_ret3;exact⟨_,rfl,bDr (Below.refl _ _) _⟩
theorem jtq (w:World):Calls Tryz.prog 198 #[.int .i64 2,.int .i64 0] w (BdL 0 w):=by
 have A:jaq 2=true:=rfl;go_enter Tryz.func198,Tryz.ntmps198;go_wp2_with fail;refine jag 0 rfl ?_;go_wp2_with (go_at_call 197;refine (jaj _ _).mono ?_;rintro e w' ⟨rfl,rfl⟩)
 first | rw[jah] | (go_step3;refine And.intro (rfl:(0:Nat)=0) ?_;go_wp2_with fail;go_wp2_with fail;rw[Exit.noGoto_ret]) | (go_step3;go_wp2_with fail;rw[jah])
 go_ret3;exact⟨_,rfl,Below.refl _ _⟩
theorem jtm (n:Int) (w:World) (A:1<=n) (B:n<=9223372036854775807) (C:(n-1) / 4<64) (D:2<=(n-1) / 4):Calls Tryz.prog 198 #[.int .i64 2,.int .i64 n] w (BdL (bits .or .u64 (IntKind.u64.wrap (2^((n-1) / 4).toNat)) (IntKind.u64.wrap (IntKind.u64.wrap (bits .and .i64 (n-1) 3)*2^((n-1) / 4-2).toNat))) w):=by
 have F:(n==0)=false:=by rw[beq_eq_false_iff_ne];omega
 have E:jaq 2=true:=rfl;go_enter Tryz.func198,Tryz.ntmps198;go_wp2_with fail;refine jag 0 rfl ?_;go_wp2_with (go_at_call 197;refine (jaj _ _).mono ?_;rintro e w' ⟨rfl,rfl⟩);go_quiet (fail);go_wp2_with fail;go_quiet (fail);go_wp2_with fail
 first | rw[jah] | (go_step3;refine And.intro (rfl:(0:Nat)=0) ?_;go_wp2_with fail;go_wp2_with fail;rw[Exit.noGoto_ret]) | (go_step3;go_wp2_with fail;rw[jah])
 go_ret3;exact⟨_,rfl,bDr (bDr (Below.refl _ _) _) _⟩
theorem jtg (n:Int) (w:World) (A:1<=n) (B:n<=9223372036854775807) (C:(n-1) / 4=0) (E:(bits .and .i64 (bits .and .i64 (n-1) 3) 3==0)=true):Calls Tryz.prog 198 #[.int .i64 2,.int .i64 n] w (BdL (bits .or .u64 1 (IntKind.u64.wrap (bits .and .i64 (n-1) 3) / 4)) w):=by
 have F:(n==0)=false:=by rw[beq_eq_false_iff_ne];omega
 have D:jaq 2=true:=rfl;go_enter Tryz.func198,Tryz.ntmps198;go_wp2_with fail;refine jag 0 rfl ?_;go_wp2_with (go_at_call 197;refine (jaj _ _).mono ?_;rintro e w' ⟨rfl,rfl⟩);go_quiet (fail);go_wp2_with fail
 first | rw[jah] | (go_step3;refine And.intro (rfl:(0:Nat)=0) ?_;go_wp2_with fail;go_wp2_with fail;rw[Exit.noGoto_ret]) | (go_step3;go_wp2_with fail;rw[jah])
 go_ret3;exact⟨_,rfl,bDr (Below.refl _ _) _⟩
theorem jth (n:Int) (w:World) (A:1<=n) (B:n<=9223372036854775807) (C:(n-1) / 4=1) (E:(bits .and .i64 (bits .and .i64 (n-1) 3) 1==0)=true):Calls Tryz.prog 198 #[.int .i64 2,.int .i64 n] w (BdL (bits .or .u64 2 (IntKind.u64.wrap (bits .and .i64 (n-1) 3) / 2)) w):=by
 have F:(n==0)=false:=by rw[beq_eq_false_iff_ne];omega
 have D:jaq 2=true:=rfl;go_enter Tryz.func198,Tryz.ntmps198;go_wp2_with fail;refine jag 0 rfl ?_;go_wp2_with (go_at_call 197;refine (jaj _ _).mono ?_;rintro e w' ⟨rfl,rfl⟩);go_quiet (fail);go_wp2_with fail
 first | rw[jah] | (go_step3;refine And.intro (rfl:(0:Nat)=0) ?_;go_wp2_with fail;go_wp2_with fail;rw[Exit.noGoto_ret]) | (go_step3;go_wp2_with fail;rw[jah])
 go_ret3;exact⟨_,rfl,bDr (Below.refl _ _) _⟩
theorem jtr (w:World):Calls Tryz.prog 198 #[.int .i64 3,.int .i64 0] w (BdL 0 w):=by
 have A:jaq 3=true:=rfl;go_enter Tryz.func198,Tryz.ntmps198;go_wp2_with fail;refine jag 0 rfl ?_;go_wp2_with (go_at_call 197;refine (jaj _ _).mono ?_;rintro e w' ⟨rfl,rfl⟩)
 first | rw[jah] | (go_step3;refine And.intro (rfl:(0:Nat)=0) ?_;go_wp2_with fail;go_wp2_with fail;rw[Exit.noGoto_ret]) | (go_step3;go_wp2_with fail;rw[jah])
 go_ret3;exact⟨_,rfl,Below.refl _ _⟩
theorem jtn (n:Int) (w:World) (A:1<=n) (B:n<=9223372036854775807) (C:(n-1) / 8<64) (D:3<=(n-1) / 8):Calls Tryz.prog 198 #[.int .i64 3,.int .i64 n] w (BdL (bits .or .u64 (IntKind.u64.wrap (2^((n-1) / 8).toNat)) (IntKind.u64.wrap (IntKind.u64.wrap (bits .and .i64 (n-1) 7)*2^((n-1) / 8-3).toNat))) w):=by
 have F:(n==0)=false:=by rw[beq_eq_false_iff_ne];omega
 have E:jaq 3=true:=rfl;go_enter Tryz.func198,Tryz.ntmps198;go_wp2_with fail;refine jag 0 rfl ?_;go_wp2_with (go_at_call 197;refine (jaj _ _).mono ?_;rintro e w' ⟨rfl,rfl⟩);go_quiet (fail);go_wp2_with fail;go_quiet (fail);go_wp2_with fail
 first | rw[jah] | (go_step3;refine And.intro (rfl:(0:Nat)=0) ?_;go_wp2_with fail;go_wp2_with fail;rw[Exit.noGoto_ret]) | (go_step3;go_wp2_with fail;rw[jah])
 go_ret3;exact⟨_,rfl,bDr (bDr (Below.refl _ _) _) _⟩
theorem jti (n:Int) (w:World) (A:1<=n) (B:n<=9223372036854775807) (C:(n-1) / 8=0) (E:(bits .and .i64 (bits .and .i64 (n-1) 7) 7==0)=true):Calls Tryz.prog 198 #[.int .i64 3,.int .i64 n] w (BdL (bits .or .u64 1 (IntKind.u64.wrap (bits .and .i64 (n-1) 7) / 8)) w):=by
 have F:(n==0)=false:=by rw[beq_eq_false_iff_ne];omega
 have D:jaq 3=true:=rfl;go_enter Tryz.func198,Tryz.ntmps198;go_wp2_with fail;refine jag 0 rfl ?_;go_wp2_with (go_at_call 197;refine (jaj _ _).mono ?_;rintro e w' ⟨rfl,rfl⟩);go_quiet (fail);go_wp2_with fail
 first | rw[jah] | (go_step3;refine And.intro (rfl:(0:Nat)=0) ?_;go_wp2_with fail;go_wp2_with fail;rw[Exit.noGoto_ret]) | (go_step3;go_wp2_with fail;rw[jah])
 go_ret3;exact⟨_,rfl,bDr (Below.refl _ _) _⟩
theorem jtj (n:Int) (w:World) (A:1<=n) (B:n<=9223372036854775807) (C:(n-1) / 8=1) (E:(bits .and .i64 (bits .and .i64 (n-1) 7) 3==0)=true):Calls Tryz.prog 198 #[.int .i64 3,.int .i64 n] w (BdL (bits .or .u64 2 (IntKind.u64.wrap (bits .and .i64 (n-1) 7) / 4)) w):=by
 have F:(n==0)=false:=by rw[beq_eq_false_iff_ne];omega
 have D:jaq 3=true:=rfl;go_enter Tryz.func198,Tryz.ntmps198;go_wp2_with fail;refine jag 0 rfl ?_;go_wp2_with (go_at_call 197;refine (jaj _ _).mono ?_;rintro e w' ⟨rfl,rfl⟩);go_quiet (fail);go_wp2_with fail
 first | rw[jah] | (go_step3;refine And.intro (rfl:(0:Nat)=0) ?_;go_wp2_with fail;go_wp2_with fail;rw[Exit.noGoto_ret]) | (go_step3;go_wp2_with fail;rw[jah])
 go_ret3;exact⟨_,rfl,bDr (Below.refl _ _) _⟩
theorem jtk (n:Int) (w:World) (A:1<=n) (B:n<=9223372036854775807) (C:(n-1) / 8=2) (E:(bits .and .i64 (bits .and .i64 (n-1) 7) 1==0)=true):Calls Tryz.prog 198 #[.int .i64 3,.int .i64 n] w (BdL (bits .or .u64 4 (IntKind.u64.wrap (bits .and .i64 (n-1) 7) / 2)) w):=by
 have F:(n==0)=false:=by rw[beq_eq_false_iff_ne];omega
 have D:jaq 3=true:=rfl;go_enter Tryz.func198,Tryz.ntmps198;go_wp2_with fail;refine jag 0 rfl ?_;go_wp2_with (go_at_call 197;refine (jaj _ _).mono ?_;rintro e w' ⟨rfl,rfl⟩);go_quiet (fail);go_wp2_with fail
 first | rw[jah] | (go_step3;refine And.intro (rfl:(0:Nat)=0) ?_;go_wp2_with fail;go_wp2_with fail;rw[Exit.noGoto_ret]) | (go_step3;go_wp2_with fail;rw[jah])
 go_ret3;exact⟨_,rfl,bDr (Below.refl _ _) _⟩
theorem jk8 (f:Nat) (E:1<=f) (C:f<=3) (n:Int) (w:World) (h:jao f n=true):Calls Tryz.prog 198 #[.int .i64 f,.int .i64 n] w (BdL (jcf f n) w):=by
 obtain⟨F,G⟩:=jcp f C n h;by_cases D:n=0
 ·subst D
  rcases (by omega:f=1\/f=2\/f=3) with rfl | rfl | rfl
  ·exact jtp w
  ·exact jtq w
  ·exact jtr w
 rw[jdV _ _ (by omega) (jcj f C)] at h;unfold jcf;rw[if_neg D];rcases (by omega:f=1\/f=2\/f=3) with rfl | rfl | rfl
 ·simp only[show ((1:Int)).toNat=1 from rfl,show ((2:Int)^1)=2 from rfl,show (((1:Nat):Int))=1 from rfl,Int.reduceSub] at h ⊢
  by_cases B:64<=(n-1) / 2
  ·rw[if_pos B] at h;cases h
  rw[if_neg B] at h;by_cases A:(1:Int)<=(n-1) / 2
  ·rw[if_pos A];rw[show ((n-1) / 2-1).toNat=((n-1) / 2).toNat-1 by omega];exact jtl n w (by omega) (by omega) (by omega) (by omega)
  rw[if_neg A] at h ⊢;have e:(n-1) / 2=0:=by omega
  rw[e] at h ⊢;exact jtf n w (by omega) (by omega) e h
 ·simp only[show ((2:Int)).toNat=2 from rfl,show ((2:Int)^2)=4 from rfl,show (((2:Nat):Int))=2 from rfl,Int.reduceSub] at h ⊢
  by_cases B:64<=(n-1) / 4
  ·rw[if_pos B] at h;cases h
  rw[if_neg B] at h;by_cases A:(2:Int)<=(n-1) / 4
  ·rw[if_pos A];exact jtm n w (by omega) (by omega) (by omega) (by omega)
  rw[if_neg A] at h ⊢;rcases (by omega:(n-1) / 4=0\/(n-1) / 4=1) with e | e<;>rw[e] at h ⊢
  ·exact jtg n w (by omega) (by omega) e h
  ·exact jth n w (by omega) (by omega) e h
 ·simp only[show ((3:Int)).toNat=3 from rfl,show ((2:Int)^3)=8 from rfl,show (((3:Nat):Int))=3 from rfl,Int.reduceSub] at h ⊢
  by_cases B:64<=(n-1) / 8
  ·rw[if_pos B] at h;cases h
  rw[if_neg B] at h;by_cases A:(3:Int)<=(n-1) / 8
  ·rw[if_pos A];exact jtn n w (by omega) (by omega) (by omega) (by omega)
  rw[if_neg A] at h ⊢;rcases (by omega:(n-1) / 8=0\/(n-1) / 8=1\/(n-1) / 8=2) with e | e | e<;>rw[e] at h ⊢
  ·exact jti n w (by omega) (by omega) e h
  ·exact jtj n w (by omega) (by omega) e h
  ·exact jtk n w (by omega) (by omega) e h
end Go.Proofs.YtafhpamnegmilaaGreatDoor
namespace Go.Proofs.YtafhpamnegmilaaGreatDoor
open Go Go.RowKit
section
variable {F:Fence} {n:Nat} {P:Program} {ops:Array Oper} {Q:Exit->Act->World->Prop} {md:Region.Mode} {l:Nat}
theorem jn3 {o:Oper} {K:Act->World->Prop} {a:Act} {w:World} (B:F.round=none) (C:∀ c,o.op≠.defer c) (h:o.wpIn F n P a w K Q):o.wpIn (F.inRound l) n P a w K Q:=by
 unfold Oper.wpIn at h ⊢;refine⟨h.1,?_⟩;have A:=h.2;rw[B,Oper.semAt_none] at A;rw[Fence.inRound_round,Oper.semAt_some _ _ _ C];generalize (execOp a.eval o).run P w=r at A ⊢
 cases r with
 | ok x w'=>cases x<;>exact A
 | halt x w'=>cases x<;>exact A
theorem jmD {i:Nat} {K:Act->World->Prop} {a:Act} {w:World} (B:F.round=none) (D:∀ (i:Nat) (o:Oper),ops[i]? = some o->∀ c,o.op≠.defer c) (h:wpOpIn F n P ops Q i K a w):wpOpIn (F.inRound l) n P ops Q i K a w:=by
 unfold wpOpIn at h ⊢
 cases A:ops[i]? with
 | none=>simpa only[A] using h
 | some o =>
  simp only[A] at h ⊢;split
  ·rename_i C;rw[if_pos C] at h;exact jn3 B (D i o A) h
  ·rename_i C;rw[if_neg C] at h;exact h
theorem jk4 (C:F.round=none) (G:∀ (i:Nat) (o:Oper),ops[i]? = some o->∀ c,o.op≠.defer c) (B:Nat):∀ (A:Array Bool) (a:Act) (w:World),wpAnyIn F n P md ops Q B A a w->wpAnyIn (F.inRound l) n P md ops Q B A a w:=by
 induction B with
 | zero=>intro A a w h;exact h
 | succ B ih=>intro A a w h;exact⟨h.1,fun i H=>jmD C G (wpOpIn_mono (fun D w' E=>ih (A.setIfInBounds i true) D w' E) (h.2 i H))⟩
def jkD (ops:Array Oper):Bool:=ops.toList.all fun o=>match o.op with | .defer _=>false | _=>true
theorem jkE (h:jkD ops=true):∀ (i:Nat) (o:Oper),ops[i]? = some o->∀ c,o.op≠.defer c:=by
 intro i o B c C;rw[jkD,List.all_eq_true] at h;have A:=h o (by rw[<- Array.getElem?_toList] at B;exact List.mem_of_getElem? B);rw[C] at A
 cases A
theorem jcM {D:Nat} {a:Act} {w:World} (A:F.round=none) (C:P.follows .mixedOrders=true) (B:jkD ops=true)
  (h:wpAnyIn F n P .any ops Q ops.size (Array.replicate ops.size false) a w.drew):(Code.region D ops true).wpIn (F.inRound l) n P Q a w :=
 wpIn_region_any C (jk4 A (jkE B) _ _ _ _ h)
end
end Go.Proofs.YtafhpamnegmilaaGreatDoor
namespace Go.Proofs.YtafhpamnegmilaaGreatDoor
open Go Go.RowKit Go.Shelf
attribute [local go_sem] Oper.semAt_some
def NumsAt (W:World) (g:Nat) (l:List Int):Prop:=W.heap[g]? = some (.cells (l.map (Value.int .u64)).toArray 48 (0,0))
theorem NumsAt.lt {W:World} {g:Nat} {l:List Int} (h:NumsAt W g l):g<W.heap.size:=(Array.getElem?_eq_some_iff.1 h).1
theorem NumsAt.cell {W:World} {g:Nat} {l:List Int} (h:NumsAt W g l) {j:Nat} (A:j<l.length):W.cell? ⟨g,j,none⟩=some (.int .u64 (l.getD j 0)):=by
 rw[cCc h j];simp[List.getD_eq_getElem?_getD,A]
theorem NumsAt.frozen {W:World} {g:Nat} {l:List Int} (h:NumsAt W g l) (j:Nat):W.frozen? ⟨g,j,none⟩=false:=cFz h j
theorem NumsAt.block {W A:World} {g:Nat} {l:List Int} (h:NumsAt W g l) (B:A.heap[g]? = W.heap[g]?):NumsAt A g l:=B.trans h
theorem NumsAt.set {W:World} {g:Nat} {l:List Int} (h:NumsAt W g l) (p:Nat) (x:Int):NumsAt (W.setCell ⟨g,p,none⟩ (.int .u64 x)) g (l.set p x):=by
 have:=hSk (i:=p) h (.int .u64 x);unfold NumsAt;rw[this];congr 2;simp[List.map_set]
theorem jaK {W A:World} (h:Bw W A) (row:Option Nat):W.grownBy A row:=⟨h.os,h.tape,h.output,h.size,fun k B _=>h.block k B⟩
def jbK {α:Type} (pl:α->Nat) (F:Nat->Int->Int) (l:List Int) (ps:List α):List Int:=ps.foldl (fun l p=>l.set (pl p) (F (pl p) (l.getD (pl p) 0))) l
theorem jcD {α:Type} (A:α->Nat) (F:Nat->Int->Int):∀ (B:List α) (l:List Int),(jbK A F l B).length=l.length
 | [],_=>rfl
 | p::B,l=>by
  show (jbK A F (l.set (A p) _) B).length=_;rw[jcD A F B,List.length_set]
theorem jgC {α:Type} (D:α->Nat) (F:Nat->Int->Int) (C:∀ p x,U64 x->U64 (F p x)):∀ (B:List α) (l:List Int),jc8 l->jc8 (jbK D F l B)
 | [],_,h=>h
 | p::B,l,h=>by
  refine jgC D F C B _ (fun x A=>?_);rcases List.mem_or_eq_of_mem_set A with A | rfl
  ·exact h x A
  ·exact C _ _ (jbT l h _)
def CI {α:Type} (pl:α->Nat) (F:Nat->Int->Int) (l:List Int) (g B:Nat) (wv tv:Array Value) (w:World) (pre:List α) (W:World):Prop :=
 NumsAt W g (jbK pl F l pre)/\W.heap[B]? = some (.cells wv 174 (0,0))/\W.heap[B+1]? = some (.cells tv 343 (0,0))/\w.grownBy W (some g)
theorem juV {α:Type} (Q:α->Nat) (F:Nat->Int->Int) (l:List Int) (g B:Nat) (T S:Array Value) (w:World) (C:Nat) (N:w.heap.size<=C):OwnFrom C (CI Q F l g B T S w):=fun R X Y row P H hr=>by
 obtain⟨I,J,L,M⟩:=P
 have A:∀ (k:Nat) (o:Obj),X.heap[k]? = some o->o.isCells=true->Y.heap[k]? = some o:=fun k o G O=>by
  refine (H.block k (Array.getElem?_eq_some_iff.1 G).1 (fun e=>?_)).trans G;obtain⟨-,U,E,D⟩:=hr k e.symm;rw[G] at E
  cases E
  rw[O] at D
  cases D
 exact⟨A _ _ I rfl,A _ _ J rfl,A _ _ L rfl,M.andThen H (fun j e=>.inl (Nat.le_trans N (hr j e).1))⟩
end Go.Proofs.YtafhpamnegmilaaGreatDoor
namespace Go.Proofs.YtafhpamnegmilaaGreatDoor
open Go Go.RowKit Go.Shelf
attribute [local go_sem] Oper.semAt_some
theorem jo4 (F:Nat->Int->Int) (O M P g len cap N L:Nat) (r c r2 c2:Int) (sa:Option Addr) (l:List Int) (w:World)
  (H:N<=1000) (hb:w.heap[O]? = some (.cells #[.int .i64 r2,.int .i64 c2,.slice sa N L] 174 (0,0))) (hg:NumsAt w g l) (hl:l.length=len) (q:jc8 l) (S:∀ b∈[O],b<w.heap.size/\b≠g)
  (hF:∀ W (p:Fin N) x,w.grownBy W (some g)->U64 x->CR 275 #[.int .i64 (p.1:Nat),.int .u64 x,.pointer (some ⟨M,0,none⟩),.pointer (some ⟨P,0,none⟩)] W (.int .u64 (F p.1 x))) (f:∀ p x,U64 x->U64 (F p x)) (s:∀ p:Fin N,p.1<len) :
  Calls Tryz.prog 273 #[.agg #[.int .i64 r,.int .i64 c,.slice (some ⟨g,0,none⟩) len cap],.func (.func 279) #[] #[.pointer (some ⟨O,0,none⟩)],.func (.func 275) #[] #[.pointer (some ⟨M,0,none⟩),.pointer (some ⟨P,0,none⟩)]] w fun e w'=>e=.returned (.tuple #[])/\NumsAt w' g (jbK (fun x:Fin N=>x.1) F l (List.finRange N))/\w.grownBy w' (some g):=by
 obtain⟨W1,aj,o,m,R,am⟩:=jaI w #[.int .i64 r,.int .i64 c,.slice (some ⟨g,0,none⟩) len cap] 174 #[.func (.func 275) #[] #[.pointer (some ⟨M,0,none⟩),.pointer (some ⟨P,0,none⟩)]] 343;have af:=hg.lt;have ag:w.grownBy W1 (some g):=jaK R _;have t:=jqi O r2 c2 sa N L H W1 ((R.block _ (S O (by simp)).1).trans hb);have ae:CI (fun x:Fin N=>x.1) F l g w.heap.size #[.int .i64 r,.int .i64 c,.slice (some ⟨g,0,none⟩) len cap] #[.func (.func 275) #[] #[.pointer (some ⟨M,0,none⟩),.pointer (some ⟨P,0,none⟩)]] w [] W1:=⟨hg.block (R.block _ af),o,m,ag⟩;have Y:=Lib.hid hF;have HL:=Lib.hid hl;have ab:=Lib.hid q;have aa:=Lib.hid f;have ac:=Lib.hid s;clear hF hl q f s o m hg hb;refine jay Tryz.func273 rfl ?_;simp only[Tryz.ntmps273,List.size_toArray,List.length_cons,List.length_nil,Nat.reduceAdd,Nat.reduceSub,Array.replicate_succ,Array.replicate_zero,List.push_toArray,List.append_toArray,List.nil_append,List.cons_append];go_wp2_with fail
 refine jer [O] 6 (fun x:Fin N=>.int .i64 (x.1:Nat)) (gf:=279) (lb:=#[.pointer (some ⟨O,0,none⟩)]) rfl (enters_of Tryz.func279 (by kernel_rfl) rfl)
  t (fun k hk=>Nat.lt_of_lt_of_le (S k hk).1 (by omega)) (Below.refl _ _) (fun _=>rfl) (CI (fun x:Fin N=>x.1) F l g w.heap.size #[.int .i64 r,.int .i64 c,.slice (some ⟨g,0,none⟩) len cap] #[.func (.func 275) #[] #[.pointer (some ⟨M,0,none⟩),.pointer (some ⟨P,0,none⟩)]] w) (juV _ F l g w.heap.size _ _ w _ (by omega)) ae ?assign ?body ?fin
 case assign =>
  rintro l E x W K hI hK;simp only[List.zip_toArray,List.zip_cons_cons,List.zip_nil_right,List.size_toArray,List.foldl_toArray',List.foldl_cons,List.foldl_nil,List.setIfInBounds_toArray,List.set_cons_succ,List.set_cons_zero] at hK ⊢;gi_wp2;exact hI
 case body =>
  rintro lo E x W ⟨X,hX,hT,i⟩ ak;simp only[List.zip_toArray,List.zip_cons_cons,List.zip_nil_right,List.size_toArray,List.foldl_toArray',List.foldl_cons,List.foldl_nil,List.setIfInBounds_toArray,List.set_cons_succ,List.set_cons_zero];have hp:=ac.out x;have J:=jcD (fun x:Fin N=>x.1) F E l;rw[HL.out] at J
  have HS:Hid (jbK (fun x:Fin N=>x.1) F l (E++[x])=(jbK (fun x:Fin N=>x.1) F l E).set x.1 (F x.1 ((jbK (fun x:Fin N=>x.1) F l E).getD x.1 0))):=by
   unfold Hid jbK;rw[List.foldl_append];rfl
  have T:=jgC (fun x:Fin N=>x.1) F aa.out E l ab.out;generalize jbK (fun x:Fin N=>x.1) F l E=r1 at X J HS T;have H:NumsAt W.drew g r1:=X.block rfl;have U:W.drew.heap[w.heap.size]? = some (.cells #[.int .i64 r,.int .i64 c,.slice (some ⟨g,0,none⟩) len cap] 174 (0,0)):=hX;have n:W.drew.heap[w.heap.size+1]? = some (.cells #[.func (.func 275) #[] #[.pointer (some ⟨M,0,none⟩),.pointer (some ⟨P,0,none⟩)]] 343 (0,0)):=hT;have HP:Hid (x.1<r1.length):=by show x.1<r1.length;omega
  have V:=jbT r1 T x.1;have y2:W.drew.cell? ⟨w.heap.size,2,none⟩=some (.slice (some ⟨g,0,none⟩) len cap):=cCc U 2;have y4:W.drew.cell? ⟨w.heap.size+1,0,none⟩=some (.func (.func 275) #[] #[.pointer (some ⟨M,0,none⟩),.pointer (some ⟨P,0,none⟩)]):=cCc n 0;have ai:=H.cell HP.out;have Q:Hid (∀ A,NumsAt A g r1->A.cell? ⟨g,x.1,none⟩=some (.int .u64 (r1.getD x.1 0))):=fun A h=>h.cell HP.out
  generalize r1.getD x.1 0=y at ai V HS Q;have HF:=Lib.hid (Y.out W.drew x _ (jei i) V);have u:=Lib.hid H;have z:=Lib.hid U;have HG:=Lib.hid i;have d:=Lib.hid hX;have Z:=Lib.hid hT
  have fin:∀ (a:Act) A,Below W.drew.heap.size W.drew A->NumsAt A g r1->ownPostG W1.heap.size (KL [O]) (CI (fun x:Fin N=>x.1) F l g w.heap.size #[.int .i64 r,.int .i64 c,.slice (some ⟨g,0,none⟩) len cap] #[.func (.func 275) #[] #[.pointer (some ⟨M,0,none⟩),.pointer (some ⟨P,0,none⟩)]] w) (fun _ _ _=>False) (E++[x]) W   .normal a (A.setCell ⟨g,x.1,none⟩ (.int .u64 (F x.1 y))):=fun _ A C B=>by
   have ad:W.grownBy A (some g):=(jei (World.grownBy.refl W (some g))).trans (jaK C _);have G:=ad.trans (jeC A g x.1 (.int .u64 (F x.1 y)));refine⟨KeepsFrom.of_grownBy G (fun j e=>by cases e;omega),KL.grown G (fun k hk e=>by cases e;exact (S _ hk).2 rfl),?_,(G.block _ (Array.getElem?_eq_some_iff.1 d.out).1 (fun e=>by cases e;omega)).trans d.out,(G.block _ (Array.getElem?_eq_some_iff.1 Z.out).1 (fun e=>by cases e;omega)).trans Z.out,HG.out.trans G⟩;rw[HS.out];exact B.set _ _
  have al:((x.1:Nat):Int)<len:=by omega
  clear i hX hT X H U n T V Y;gi_wp2_with fail;refine jcM (F:=Fence.wide) rfl (by kernel_rfl) (by kernel_rfl) ?_;change wpAnyIn _ _ _ _ _ _ _ _ _ (World.drew _)
  ·
   refine tai 0 ?_;refine tai 1 ?_;refine tai 3 ?_;refine tai 5 ?_;refine tai 6 ?_;refine tai 7 ?_;refine tai 9 ?_;refine rdi [2,4,8] (.cons rfl (fun K hK=>?_) (.cons rfl (fun K hK=>?_) (.cons rfl (fun K hK=>?_) .nil)))
   all_goals go_simp
   all_goals (refine hK _ _ ?_;clear hK K)
   all_goals first
    | (refine rqi [4,8] (.cons rfl (fun K hK=>?_) (.cons rfl (fun K hK=>?_) .nil)))
    | (refine rqi [2,8] (.cons rfl (fun K hK=>?_) (.cons rfl (fun K hK=>?_) .nil)))
    | (refine tqi 10 (v:=?_) rfl ?_ ?_;rotate_left;(intro w;go_simp;first | done | with_reducible rfl | rw[if_neg (by omega)]);refine rqi [2,4,11] (.cons rfl (fun K hK=>?_) (.cons rfl (fun K hK=>?_) (.cons rfl (fun K hK=>?_) .nil))))
   all_goals go_simp
   all_goals (refine hK _ _ ?_;clear hK K)
   all_goals first
    | (refine rqi [8] (.cons rfl (fun K hK=>?_) .nil))
    | (refine tqi 10 (v:=?_) rfl ?_ ?_;rotate_left;(intro w;go_simp;first | done | with_reducible rfl | rw[if_neg (by omega)]);refine rqi [4,11] (.cons rfl (fun K hK=>?_) (.cons rfl (fun K hK=>?_) .nil)))
    | (refine tqi 10 (v:=?_) rfl ?_ ?_;rotate_left;(intro w;go_simp;first | done | with_reducible rfl | rw[if_neg (by omega)]);refine rqi [2,11] (.cons rfl (fun K hK=>?_) (.cons rfl (fun K hK=>?_) .nil)))
    | (refine rqi [4,11] (.cons rfl (fun K hK=>?_) (.cons rfl (fun K hK=>?_) .nil)))
    | (refine rqi [2,11] (.cons rfl (fun K hK=>?_) (.cons rfl (fun K hK=>?_) .nil)))
    | (refine rqi [2,4] (.cons rfl (fun K hK=>?_) (.cons rfl (fun K hK=>?_) .nil)))
   all_goals go_simp
   all_goals (refine hK _ _ ?_;clear hK K)
   all_goals first
    | (refine tqi 10 (v:=?_) rfl ?_ ?_;rotate_left;(intro w;go_simp;first | done | with_reducible rfl | rw[if_neg (by omega)]);refine rqi [11] (.cons rfl (fun K hK=>?_) .nil))
    | (refine rqi [11] (.cons rfl (fun K hK=>?_) .nil))
    | (refine rqi [4] (.cons rfl (fun K hK=>?_) .nil))
    | (refine rqi [2,12] (.cons rfl (fun K hK=>?_) (.cons rfl (fun K hK=>?_) .nil)))
   all_goals go_simp
   all_goals first
    |
     refine⟨trivial,(callsIn_wide.2 HF.out).mono ?_⟩;rintro e A ⟨rfl,C⟩;have I:=(C.block _ (Array.getElem?_eq_some_iff.1 z.out).1).trans z.out;have B:NumsAt A g r1:=u.out.block (C.block _ u.out.lt);have z2:A.cell? ⟨w.heap.size,2,none⟩=some (.slice (some ⟨g,0,none⟩) len cap):=cCc I 2;have z3:=Q.out A B;have z4:=B.frozen x.1;refine hK _ _ ?_;clear hK K I
    | (refine hK _ _ ?_;clear hK K)
   all_goals first
    | (refine rqi [12] (.cons rfl (fun K hK=>?_) .nil))
    | (refine rqi [2] (.cons rfl (fun K hK=>?_) .nil))
   all_goals go_simp
   all_goals first
    |
     refine⟨trivial,(callsIn_wide.2 HF.out).mono ?_⟩;rintro e A ⟨rfl,C⟩;have I:=(C.block _ (Array.getElem?_eq_some_iff.1 z.out).1).trans z.out;have B:NumsAt A g r1:=u.out.block (C.block _ u.out.lt);have z2:A.cell? ⟨w.heap.size,2,none⟩=some (.slice (some ⟨g,0,none⟩) len cap):=cCc I 2;have z3:=Q.out A B;have z4:=B.frozen x.1;refine hK _ _ ?_;clear hK K I
    | (refine hK _ _ ?_;clear hK K)
   all_goals (refine tki 13 (v:=?_) rfl ?_ ?_;rotate_left;(intro w;go_simp;first | done | with_reducible rfl | rw[if_neg (by omega)]);refine rdi [14] (.cons rfl (fun K hK=>?_) .nil))
   all_goals go_simp
   all_goals (refine hK _ _ ?_;clear hK K)
   all_goals (refine wpAnyIn_done (by kernel_rfl) ?_ _)
   all_goals
    exact fin { tmps:=#[],defers:=[] } A C B
 case fin =>
  rintro D W hD ⟨X,hX,hT,i⟩ hK;have ah:some g≠some D:=fun e=>by cases e;omega
  refine jaX (v:=.tuple #[]) hK (results_none rfl _ _ _) ⟨rfl,?_,?_⟩
  ·exact X.block ((grownBy_putObj' _ D _).block _ X.lt ah)
  ·exact i.andThen (grownBy_putObj' _ D _) (fun j e=>by cases e;exact .inl (by omega))
end Go.Proofs.YtafhpamnegmilaaGreatDoor
namespace Go.Proofs.YtafhpamnegmilaaGreatDoor
open Go Go.RowKit Go.Shelf
theorem jjv {α:Type} (A:α->Nat) (F:Nat->Int->Int) (E:∀ p x y,F p x=F p y):∀ (C:List α) (l:List Int) (i:Nat),(jbK A F l C).getD i 0=if i∈C.map A/\i<l.length then F i 0 else l.getD i 0
 | [],l,i=>by simp[jbK]
 | p::C,l,i=>by
  show (jbK A F (l.set (A p) (F (A p) (l.getD (A p) 0))) C).getD i 0=_;rw[jjv A F E C,List.length_set,jlE];by_cases D:i∈C.map A/\i<l.length
  ·rw[if_pos D,if_pos ⟨List.mem_cons_of_mem _ D.1,D.2⟩]
  ·rw[if_neg D]
   by_cases B:A p=i/\i<l.length
   ·rw[if_pos B,if_pos ⟨by rw[List.map_cons,B.1];exact List.mem_cons_self,B.2⟩,B.1]
    exact E _ _ _
   ·rw[if_neg B,if_neg (fun h=>?_)]
    rcases List.mem_cons.1 h.1 with e | e
    ·exact B ⟨e.symm,h.2⟩
    ·exact D ⟨e,h.2⟩
def juZ (c:Nat) (l:List Int) (p:Nat) (_:Int):Int:=jdf (l.getD (p / (c / 2)*c+p % (c / 2)) 0) (l.getD (p / (c / 2)*c+p % (c / 2)+c / 2) 0)
theorem jo2 (c:Nat) (l:List Int):jbK (fun x:Fin (2*(c / 2))=>x.1) (juZ c l) (List.replicate (2*(c / 2)) 0) (List.finRange (2*(c / 2)))=jdW c l:=by
 refine jlD _ _ (by rw[jcD,jf0];simp;omega) (fun i A=>?_);rw[jcD,List.length_replicate] at A;have B:i∈(List.finRange (2*(c / 2))).map (fun x:Fin (2*(c / 2))=>x.1):=List.mem_map.2 ⟨⟨i,A⟩,List.mem_finRange _,rfl⟩;rw[jjv _ _ (fun p x y=>rfl),jtu _ _ _ (by omega),if_pos ⟨B,by simpa using A⟩];rfl
theorem jt8 (c L U p:Nat) (I:Int) (l:List Int) (a:Option Addr) (len cap:Nat) (v:Value) (w:World) (X:c=8\/c=16\/c=32) (z:p<2*(c / 2)) (t:l.length=2*c) (E:jc8 l) (M:SlE jaG 1 w.heap.size w a len l)
  (i:w.heap[L]? = some (.cells #[.int .i64 2,.int .i64 ((c / 2:Nat):Int),v] 174 (0,0))) (hx:w.heap[U]? = some (.cells #[.int .i64 2,.int .i64 c,.slice a len cap] 36 (0,0))) :
  CR 275 #[.int .i64 p,.int .u64 I,.pointer (some ⟨L,0,none⟩),.pointer (some ⟨U,0,none⟩)] w (.int .u64 (juZ c l p I)):=by
 obtain⟨q,F⟩:∃ q,p / (c / 2)*c+p % (c / 2)=q:=⟨_,rfl⟩;obtain⟨d,Q⟩:∃ d,c / 2=d:=⟨_,rfl⟩;have ai:q+d<len:=by rw[M.1,t,<- F,<- Q];rcases X with rfl | rfl | rfl<;>simp only[Nat.reduceDiv] at z ⊢<;>omega
 have j:=M.1;obtain⟨x,G⟩:∃ x,l[q]? = some x:=⟨_,List.getElem?_eq_getElem (by omega)⟩;obtain⟨y,H⟩:∃ y,l[q+d]? = some y:=⟨_,List.getElem?_eq_getElem (by omega)⟩;have r:juZ c l p I=jdf x y:=by unfold juZ;rw[F,Q,List.getD_eq_getElem?_getD,G,List.getD_eq_getElem?_getD,H];rfl
 rw[r];have k:U64 x:=E x (List.mem_of_getElem? G);have m:U64 y:=E y (List.mem_of_getElem? H);obtain⟨B,off,rfl,ad,O⟩:=M.2 q x G;obtain⟨ac,ab,e2,-,P⟩:=M.2 (q+d) y H
 cases e2
 have n:w.cell? ⟨B,off+q,none⟩=some (.int .u64 x):=by have g:=O 0 (by omega);rwa [Nat.mul_one] at g
 have T:w.cell? ⟨B,off+(q+d),none⟩=some (.int .u64 y):=by have g:=P 0 (by omega);rwa [Nat.mul_one] at g
 have R:(d=4/\c=8)\/(d=8/\c=16)\/(d=16/\c=32):=by omega
 have af:1<=d/\d<=16:=by clear F;omega
 have s:c<=32:=by clear F;omega
 have u:len<=64:=by clear F;omega
 have S:wrap64 (wrap64 (wrap64 ((p:Int) / (d:Int))*(c:Int))+(p:Int) % (d:Int))=(q:Int):=by
  have hb:p / d*c<=32/\p % d<=16/\p / d<=32:=by rcases R with⟨rfl,rfl⟩ | ⟨rfl,rfl⟩ | ⟨rfl,rfl⟩<;>omega
  rw[show (p:Int) / (d:Int)=((p / d:Nat):Int) by rw[Int.natCast_ediv],jbD (p / d) (by omega),<- Int.natCast_mul,jbD _ (by omega),show (p:Int) % (d:Int)=((p % d:Nat):Int) by rw[Int.natCast_emod],<- Int.natCast_add,jbD _ (by omega),<- F,Q]
 rw[Q] at i;clear F Q X R z t j;have ae:(0:Int)<d:=by omega
 have aj:(q:Int)<len:=by omega
 have aa:(q:Int)+d<len:=by omega
 obtain⟨f0,Z,f2⟩:=cl3 i;obtain⟨g0,g1,f⟩:=cl3 hx;clear O P i hx M r E;go_enter Tryz.func275,Tryz.ntmps275;go_wp2_with fail;go_quiet (fail);go_wp2_with fail;rw[S];have C:Bw w (w.drewN nq):=bDr (Below.refl _ _) nq;obtain⟨A,N⟩:∃ A,w.drewN nq=A:=⟨_,rfl⟩;rw[N] at C ⊢;have T:w.cell? ⟨B,off+((q:Int)+(d:Int)).toNat,none⟩=some (.int .u64 y):=by rw[show ((q:Int)+(d:Int)).toNat=q+d by omega];exact T
 have Y:Hid (∀ W,Bw A W->W.cell? ⟨L,1,none⟩=some (.int .i64 d)/\W.cell? ⟨U,2,none⟩=some (.slice (some ⟨B,off,none⟩) len cap)/\W.cell? ⟨B,off+q,none⟩=some (.int .u64 x)/\W.cell? ⟨B,off+((q:Int)+(d:Int)).toNat,none⟩=some (.int .u64 y)/\Bw A W):=fun W h=>by
  have V:=C.trans (h.mono C.size);have D:∀ b o v,w.cell? ⟨b,o,none⟩=some v->b<w.heap.size:=fun b o v X=>World.block_lt_of_cell? w _ X
  exact⟨(V.cell (p:=⟨L,1,none⟩) (D _ _ _ Z)).trans Z,(V.cell (p:=⟨U,2,none⟩) (D _ _ _ f)).trans f,(V.cell (p:=⟨B,off+q,none⟩) (D _ _ _ n)).trans n,(V.cell (p:=⟨B,off+((q:Int)+(d:Int)).toNat,none⟩) (D _ _ _ T)).trans T,h⟩
 obtain⟨m0,m1,m2,m3,mB⟩:=Y.out A (Below.refl _ _);have HT:Hid (Calls Tryz.prog 276 #[.slice (some ⟨A.heap.size,0,none⟩) 2 2] (A.alloc (.cells #[.int .u64 x,.int .u64 y] 48)).drew fun e w'=>e=.returned (.int .u64 (jdf x y))/\w'=(A.alloc (.cells #[.int .u64 x,.int .u64 y] 48)).drew):=jf4 A.heap.size x y _ (cCc (W:=A.alloc _) (World.alloc_heap_new A _) 0) (cCc (W:=A.alloc _) (World.alloc_heap_new A _) 1) k m;have J:=Lib.hid C;have ak:IntKind.i64.wrap ((q:Int)+(d:Int))=(q:Int)+(d:Int):=IntWalk.i64_in _ (by omega);have ag:(0:Int)<=q:=by omega
 have ah:(0:Int)<=(q:Int)+d:=by omega
 clear N n T f0 Z f2 g0 g1 f S C
 go_region_held3 (fun w'=>w'.cell? ⟨L,1,none⟩=some (.int .i64 d)/\w'.cell? ⟨U,2,none⟩=some (.slice (some ⟨B,off,none⟩) len cap)/\w'.cell? ⟨B,off+q,none⟩=some (.int .u64 x)/\w'.cell? ⟨B,off+((q:Int)+(d:Int)).toNat,none⟩=some (.int .u64 y)/\Bw A w')
  (first
   | exact Y.out _ (Below.refl _ _).drew
   | (go_split_ands;refine Y.out _ ?_;first | assumption | exact Below.alloc (by assumption) (Below.size (by assumption)) _ | exact Below.drew (by assumption) | exact Below.trans (by assumption) (Below.mono (by assumption) (Below.size (by assumption)))))
  (first
   | (go_at_call 276;refine HT.out.mono ?_;rintro e w5 ⟨rfl,rfl⟩))
 go_wp2_with fail;go_ret;exact⟨rfl,J.out.trans (((Below.refl _ A).alloc (Nat.le_refl _) _).drew.mono J.out.size)⟩
end Go.Proofs.YtafhpamnegmilaaGreatDoor
namespace Go.Proofs.YtafhpamnegmilaaGreatDoor
open Go Go.RowKit Go.Shelf Go.Maps
theorem jvL:Keyed Tryz.prog 3:=int_keyed Tryz.underlying3
theorem jfn:Tryz.prog.underlying 346=some (.map 3 48):=by kernel_rfl
theorem jxt (w:World):(zeroValue 48).run Tryz.prog w=.ok (.int .u64 0) w:=by kernel_rfl
def MapIs (W:World) (b K:Nat) (l:List (Int × Int)):Prop:=∃ (nn:Nat) (D:DataW Unit),W.ownsMap Tryz.prog 3 (plainElem Tryz.prog 48) b nn D/\nn<=K/\∀ p z,D.atKey (.int .i64 p) z=match jb6 l p with
 | some x=>.lit (.int .u64 x)
 | none=>z
theorem MapIs.kept {W B:World} {b K:Nat} {l:List (Int × Int)} {row:Option Nat} (h:MapIs W b K l) (F:W.grownBy B row) (A:some b≠row):MapIs B b K l:=by
 obtain⟨G,D,C,E⟩:=h;exact⟨G,D,C.kept F A,E⟩
theorem MapIs.lt {W:World} {b K:Nat} {l:List (Int × Int)} (h:MapIs W b K l):b<W.heap.size:=by
 obtain⟨C,D,A,B⟩:=h;exact A.lt
theorem juY {p:Int} (h:I64 p):(Lit.int .i64 p).wf=true:=WalkArith.wf_i64 h
theorem jw5 {p:Int} (h:U64 p):(Lit.int .u64 p).wf=true:=by unfold U64 at h;simp[Lit.wf,IntKind.min,IntKind.max,IntKind.signed,IntKind.bits];omega
def jc9 (l:List (Int × Int)) (p:Int):Int:=(jb6 l p).getD 0
theorem MapIs.look {W:World} {b K:Nat} {l:List (Int × Int)} (h:MapIs W b K l) {p:Int} (F:I64 p):(Instr.lookup 346 (.map (some b)) (.int .i64 p) false).run Tryz.prog W=.ok (.int .u64 (jc9 l p)) W:=by
 obtain⟨H,D,C,G,E⟩:=h;obtain⟨c,hr,A,-⟩:=C.lookup_int (key:=.int .i64 p) jvL jfn Tryz.underlying48 (jxt W) (keyOf_int_mk Tryz.underlying3 (juY F));rw[E] at A
 have e:c=jc9 l p:=by
  unfold jc9
  cases B:jb6 l p with
  | none=>rw[B] at A;simpa using A.symm
  | some x=>rw[B] at A;simpa using A.symm
 rw[<- e];exact hr
theorem MapIs.update {W:World} {b K:Nat} {l:List (Int × Int)} (h:MapIs W b K l) {p n:Int} (J:I64 p) (E:U64 n) (hK:K<=5000) (L:jb5 l) (A:jbj l):∃ w',(Instr.mapUpdate 346 (.map (some b)) (.int .i64 p) (.int .u64 (jdf (jc9 l p) n))).run Tryz.prog W=.ok () w'/\MapIs w' b (K+1) (jaC l p n)/\W.grownBy w' (some b):=by
 obtain⟨N,D,C,O,F⟩:=h
 have M:U64 (jdf (jc9 l p) n):=by
  refine jfj _ _ ?_ E;unfold jc9
  cases G:jb6 l p with
  | none=>exact jsj
  | some x=>exact jll A G
 obtain⟨w',hr,I,H⟩:=C.update (key:=.int .i64 p) jvL jfn (by unfold maxLen;omega) (keyOf_int_mk Tryz.underlying3 (juY J)) (plainElem_int Tryz.underlying48 (jw5 M));refine⟨w',hr,⟨N+1,_,I,by omega,fun q z=>?_⟩,H⟩;rw[jlk l p n q L];by_cases B:q=p
 ·subst B
  rw[if_pos rfl,atKey_put_same (k:=.int .i64 q) (C.tidy jvL).isMap trivial];unfold jwA jc9
  cases jb6 l q with
  | none=>simp only[Option.getD_none];rw[jw0 n E]
  | some x=>rfl
 ·rw[if_neg B,atKey_put_other (by simpa using B)]
  exact F q z
theorem jns (b K:Nat) (f:Int) (p n:Int) (l:List (Int × Int)) (w:World) (T:MapIs w b K l) (V:I64 p) (U:U64 n) (hK:K<=5000) (c:jb5 l) (R:jbj l) :
  Calls Tryz.prog 289 #[.agg #[.map (some b),.int .i64 f],.int .i64 p,.int .u64 n] w fun e w'=>e=.returned (.tuple #[])/\MapIs w' b (K+1) (jaC l p n)/\w.grownBy w' (some b):=by
 obtain⟨C,d,N,D,X⟩:=jaf w #[.map (some b),.int .i64 f] 348;have g:=T.lt
 have Z:U64 (jc9 l p):=by
  unfold jc9
  cases h:jb6 l p with
  | none=>exact jsj
  | some x=>exact jll R h
 have E:MapIs C.drew b K l:=T.kept (jei (jaK D none)) (by simp);have S:=E.look V;obtain⟨P,M,F,A,i⟩:=jaf C.drew #[.int .u64 (jc9 l p),.int .u64 n] 48;have J:MapIs P b K l:=E.kept (jaK A none) (by simp);obtain⟨Q,Y,L,I⟩:=J.update V U hK c R;have H:=Lib.hid (jkp C.drew.heap.size (jc9 l p) n P (cCc F 0) (cCc F 1) Z U);rw[show C.drew.heap.size=w.heap.size+1 from X] at H;have B:Hid ((C.alloc (.cells #[.int .u64 (jc9 l p),.int .u64 n] 48)).drew=P):=by rw[Hid,<- M];rfl
 have G:C.drew.heap[w.heap.size]? = some (.cells #[.map (some b),.int .i64 f] 348 (0,0)):=N;have O:=jab A (Nat.le_refl _) G;have k:C.drew.cell? ⟨w.heap.size,0,none⟩=some (.map (some b)):=cCc G 0;have m:P.cell? ⟨w.heap.size,0,none⟩=some (.map (some b)):=cCc O 0;have a:w.grownBy Q (some b):=((jei (jaK D (some b))).trans (jaK A (some b))).trans I;have fin:Ending.returned (.tuple #[])=Ending.returned (.tuple #[])/\MapIs Q b (K+1) (jaC l p n)/\w.grownBy Q (some b):=⟨rfl,L,a⟩;generalize jdf (jc9 l p) n=s at Y H;generalize jc9 l p=x at S H B Z;clear T E J L I a G O N F D A M V U c R Z;go_enter Tryz.func289,Tryz.ntmps289;go_wp2_with fail;refine wp_region_any (by kernel_rfl) ?_;change wpAny _ _ _ _ _ _ _ (World.drew _)
 ·
  refine ta 0 ?_;refine ta 2 ?_;refine ta 3 ?_;refine ta 5 ?_;refine ta 7 ?_;refine rd [1,4] (.cons rfl (fun K hK=>?_) (.cons rfl (fun K hK=>?_) .nil))
  all_goals go_simp
  all_goals (refine hK _ _ ?_;clear hK K)
  all_goals first
   | (refine rq [4] (.cons rfl (fun K hK=>?_) .nil))
   | (refine rq [1,6] (.cons rfl (fun K hK=>?_) (.cons rfl (fun K hK=>?_) .nil)))
  all_goals go_simp
  all_goals (refine hK _ _ ?_;clear hK K)
  all_goals first
   | (refine rq [6] (.cons rfl (fun K hK=>?_) .nil))
   | (refine rq [1,8] (.cons rfl (fun K hK=>?_) (.cons rfl (fun K hK=>?_) .nil)))
  all_goals go_simp
  all_goals first
   |
    rw[B.out];refine hK _ _ ?_;clear hK K
   | (refine hK _ _ ?_;clear hK K)
  all_goals first
   | (refine rq [8] (.cons rfl (fun K hK=>?_) .nil))
   | (refine rq [1,9] (.cons rfl (fun K hK=>?_) (.cons rfl (fun K hK=>?_) .nil)))
  all_goals go_simp
  all_goals first
   |
    rw[B.out];refine hK _ _ ?_;clear hK K
   |
    refine H.out.mono ?_;rintro e j ⟨rfl,rfl⟩;refine hK _ _ ?_;clear hK K
   | (refine hK _ _ ?_;clear hK K)
  all_goals first
   | (refine rq [9] (.cons rfl (fun K hK=>?_) .nil))
   | (refine rq [1] (.cons rfl (fun K hK=>?_) .nil))
  all_goals go_simp
  all_goals first
   |
    refine H.out.mono ?_;rintro e j ⟨rfl,rfl⟩;refine hK _ _ ?_;clear hK K
   | (refine hK _ _ ?_;clear hK K)
  all_goals (refine rd [10] (.cons rfl (fun K hK=>?_) .nil))
  all_goals go_simp
  all_goals (refine hK _ _ ?_;clear hK K)
  all_goals (refine wpAny_done (by kernel_rfl) ?_ _)
  all_goals
   go_end0;exact⟨rfl,fin.2⟩
end Go.Proofs.YtafhpamnegmilaaGreatDoor
namespace Go.Proofs.YtafhpamnegmilaaGreatDoor
open Go Go.RowKit Go.Shelf Go.Maps
theorem jmQ (a:List (Int × Int)) (b:Int × Int) (h:jb5 (a++[b])):jaC a b.1 b.2=a++[b]:=jia [b] a h
theorem jrA (w:World):MapIs (w.alloc (.map #[] 0)) w.heap.size 0 []:=⟨0,_,World.ownsMap_made _ _ _ _,Nat.le_refl _,fun _ _=>rfl⟩
theorem jjy (f:Nat) (w:World) (P:f<=3) :
  Calls Tryz.prog 287 #[.int .i64 f] w fun e w'=>∃ b,e=.returned (.tuple #[.agg #[.map (some b),.int .i64 f],.nilIface])/\MapIs w' b 0 []/\w.heap.size<=b/\Bw w w':=by
 have L:=jlN f P;have Q:=@run_makeMap Tryz.prog;obtain⟨N,O,I,C,M⟩:=jaf w #[.map none,.int .i64 0] 348;obtain⟨B,D⟩:∃ B,N.alloc (.map #[] 0)=B:=⟨_,rfl⟩;have G:MapIs B (w.heap.size+1) 0 []:=by rw[<- D,<- M];exact jrA N
 have A:B.heap[w.heap.size]? = some (.cells #[.map none,.int .i64 0] 348 (0,0)):=by rw[<- D];exact (Below.heap_alloc _ _ _ (by omega)).trans I
 have E:Bw w B:=by rw[<- D];exact C.alloc C.size _
 obtain⟨T,U⟩:=cl2 A;obtain⟨X,Y⟩:=cz2 A;have J:=jbB (u:=.map (some (w.heap.size+1))) (v:=.int .i64 f) A;have F:=(E.setCell (p:=⟨w.heap.size,0,none⟩) (Nat.le_refl _) (.map (some (w.heap.size+1)))).setCell (p:=⟨w.heap.size,1,none⟩) (Nat.le_refl _) (.int .i64 f);have H:=(G.kept (jeC B w.heap.size 0 (.map (some (w.heap.size+1)))) (by simp)).kept (jeC _ w.heap.size 1 (.int .i64 f)) (by simp);clear I A C E G;go_enter Tryz.func287,Tryz.ntmps287;go_wp2_with (first | (go_at_call 197;refine (L _).mono ?_;rintro e w' ⟨rfl,rfl⟩) | fail);generalize (B.setCell ⟨w.heap.size,0,none⟩ (.map (some (w.heap.size+1)))).setCell ⟨w.heap.size,1,none⟩ (.int .i64 f)=V at J F H ⊢;obtain⟨R,S⟩:=cl2 J;exact bodyPost_ret (v:=.tuple #[.agg #[.map (some (w.heap.size+1)),.int .i64 f],.nilIface]) (by simp[results,Tryz.f287,go_sem,R,S]) rfl ⟨_,rfl,H,Nat.le_succ _,F⟩
theorem jm6 (f:Nat) (l:List (Int × Int)) (a:Option Addr) (len cap:Nat) (w:World) (hf:f<=3) (hL:SlE jbO 2 w.heap.size w a len l) (hr:jaP f l=true) (hu:jb5 l) (s:jbj l) (O:len<=1000) (hp:∀ b∈l,I64 b.1) (hm:len<=maxLen) :
  Calls Tryz.prog 292 #[.agg #[.int .i64 f,.slice a len cap]] w fun e w'=>∃ b,e=.returned (.tuple #[.agg #[.map (some b),.int .i64 f],.nilIface])/\MapIs w' b l.length l/\w.heap.size<=b/\Bw w w':=by
 have hR:Hid (∀ z,Bw w z->CR 179 #[.agg #[.int .i64 f,.slice a len cap]] z (.bool true)):=fun z hb=>(jcN f l a len cap z ((hL.below hb).mono hb.size) hm (fun b hb=>(hp b hb).2)).mono fun e w' h=>⟨by rw[h.1,hr],h.2⟩
 have hB:=fun w=>jjy f w hf
 obtain⟨W0,ai,R,n,Y,an⟩:=jaI w #[.int .i64 f,.slice a len cap] 39 #[.map none,.int .i64 0] 348;have aa:=Lib.hid n;have ab:=Lib.hid R;obtain⟨z0,z1⟩:=cl2 R;clear n R;go_enter Tryz.func292,Tryz.ntmps292;go_wp2_with fail;refine (hR.out _ Y).mono ?_;rintro e z ⟨rfl,A⟩;have D:=jab A (Nat.le_refl _) ab.out;obtain⟨y0,y1⟩:=cl2 D;go_wp2_with fail;refine (hB _).mono ?_;rintro e w2 ⟨b,rfl,S,al,B⟩;obtain⟨W3,aj,o,C,ao⟩:=jaf w2 #[.map (some b),.int .i64 f] 348;have am:=S.lt;have ah:=A.size;have J:=B.size;have L:=jab (B.trans (C.mono J)) (Nat.le_refl _) D;have M:=jab (B.trans (C.mono J)) (Nat.le_refl _) (jab A (Nat.le_refl _) aa.out);have ad:MapIs W3 b 0 []:=S.kept (jaK C none) (by simp);have I:Bw w W3:=(Y.trans (A.mono (by omega))).trans ((B.mono (by omega)).trans (C.mono (by omega)));have U:=Lib.hid o;have X:=Lib.hid M;obtain⟨q0,q1⟩:=cl2 L;have HL:=Lib.hid hL;have P:Hid (jb5 l/\jbj l/\(∀ b∈l,I64 b.1)/\len<=1000/\len=l.length):=⟨hu,s,hp,O,hL.1⟩;have H:=Lib.hid I;clear D L M o C B A S hL hu s hp hr hm I;have af:=O;go_wp2_with fail;go_loopw [7,23] (fun _ i wr=>∃ k:Nat,k<=len/\i=.int .i64 k/\MapIs wr b k (l.take k)/\W3.grownBy wr (some b)) (fun _ i _=>len-(intOf i).toNat)
 case atStart=>exact⟨0,Nat.zero_le _,rfl,ad,World.grownBy.refl _ _⟩
 case round =>
  obtain⟨k,hk,rfl,hM,T⟩:=hrel;have G:=(T.block _ (Array.getElem?_eq_some_iff.1 U.out).1 (fun e=>by cases e;omega)).trans U.out;have E:=(T.block _ (Array.getElem?_eq_some_iff.1 X.out).1 (fun e=>by cases e;omega)).trans X.out;have Q:Bw w wr:=H.out.grown T H.out.size (fun j e=>by cases e;omega);by_cases ag:k<len
  ·obtain⟨x,b1,o1,hx,ea,A,p0,p1⟩:=jdU (HL.out.below Q) ag
   subst ea;have HX:=Lib.hid hx;have t:I64 x.1:=P.out.2.2.1 x (List.mem_of_getElem? hx);have y:U64 x.2:=P.out.2.1 x (List.mem_of_getElem? hx);obtain⟨x1,x2⟩:=x;dsimp only at p0 p1 t y;obtain⟨W4,ak,q,F,ap⟩:=jaf wr #[.int .i64 x1,.int .u64 x2] 132;have d:MapIs W4 b k (l.take k):=hM.kept (jaK F none) (by simp);have N:=jab F (Nat.le_refl _) G;have hP:=jns b k f x1 x2 (l.take k) W4 d t y (by omega) (P.out.1.sublist (List.take_sublist _ _)) (fun c hc=>P.out.2.1 c (List.mem_of_mem_take hc));obtain⟨u0,u1⟩:=cl2 q;obtain⟨v0,v1⟩:=cl2 N;have HG:=Lib.hid (T.trans (jaK F (some b)));clear hx G E q N d hM F T;go_wp2_with fail;refine hP.mono ?_;rintro e w6 ⟨rfl,ae,ac⟩;go_wp2_with fail;go_roundw
   case rel=>exact⟨k+1,by omega,by simp,by rw[jai HX.out,<- jmQ _ _ (by rw[<- jai HX.out];exact P.out.1.sublist (List.take_sublist _ _))];exact ae,HG.out.trans ac⟩
   case measure=>simp[intOf];omega
  ·obtain rfl:k=len:=by omega
   have m:MapIs wr b l.length l:=by have:=hM;rwa [List.take_of_length_le (by rw[P.out.2.2.2.2];exact Nat.le_refl _),P.out.2.2.2.2] at this
   obtain⟨u0,u1⟩:=cl2 G;obtain⟨o0,o1⟩:=cl2 E;obtain⟨g0,g1⟩:=cz2 E;have r:=jbB (u:=.map (some b)) (v:=.int .i64 f) E;have Z:=(Q.setCell (p:=⟨w.heap.size+1,0,none⟩) (Nat.le_succ _) (.map (some b))).setCell (p:=⟨w.heap.size+1,1,none⟩) (Nat.le_succ _) (.int .i64 f);have g:=(m.kept (jeC wr (w.heap.size+1) 0 (.map (some b))) (by simp;omega)).kept (jeC _ (w.heap.size+1) 1 (.int .i64 f)) (by simp;omega);clear G E hM m T Q;go_wp2_with fail;generalize (wr.setCell ⟨w.heap.size+1,0,none⟩ (.map (some b))).setCell ⟨w.heap.size+1,1,none⟩ (.int .i64 f)=V at r Z g ⊢;obtain⟨j0,j1⟩:=cl2 r;exact bodyPost_ret (v:=.tuple #[.agg #[.map (some b),.int .i64 f],.nilIface]) (by simp[results,Tryz.f292,go_sem,j0,j1]) rfl ⟨b,rfl,g,by omega,Z⟩
end Go.Proofs.YtafhpamnegmilaaGreatDoor
namespace Go.Proofs
open Go.RowKit Go.Maps Go.Sort Go.Shelf
def Tryz.keysA_ren:Go.Shelf.Ren:=⟨fun | 7=>295 | 10=>298 | n=>n,fun | 23=>346 | 26=>3 | 3=>48 | 28=>264 | 0=>0 | 27=>263 | 33=>225 | 4=>4 | n=>n,fun | n=>n⟩
theorem Tryz.keysA:Go.Proofs.SlLaysZI.n7 Tryz.prog Tryz.keysA_ren:={
 mixed:=by kernel_rfl
 f7:=⟨Tryz.f295.name,by decide,Tryz.func295.trans (congrArg some (by kernel_rfl))⟩
 f10:=⟨Tryz.f298.name,by decide,Tryz.func298.trans (congrArg some (by kernel_rfl))⟩
 t0:=by kernel_rfl
 a0:=fun w=>by kernel_rfl
 z0:=fun w=>by kernel_rfl
 v0:=fun w=>by kernel_rfl
 t4:=by kernel_rfl
 a4:=fun w=>by kernel_rfl
 z4:=fun w=>by kernel_rfl
 v4:=fun w=>by kernel_rfl
 t23:=by kernel_rfl
 a23:=fun w=>by kernel_rfl
 z23:=fun w=>by kernel_rfl
 v23:=fun w=>by kernel_rfl
 t26:=by kernel_rfl
 a26:=fun w=>by kernel_rfl
 z26:=fun w=>by kernel_rfl
 v26:=fun w=>by kernel_rfl
 t27:=by kernel_rfl
 a27:=fun w=>by kernel_rfl
 z27:=fun w=>by kernel_rfl
 v27:=fun w=>by kernel_rfl
 t28:=by kernel_rfl
 a28:=fun w=>by kernel_rfl
 z28:=fun w=>by kernel_rfl
 v28:=fun w=>by kernel_rfl
 t33:=by kernel_rfl
 a33:=fun w=>by kernel_rfl
 z33:=fun w=>by kernel_rfl
 v33:=fun w=>by kernel_rfl }
def Tryz.sortedA_ren:Go.Shelf.Ren:=⟨fun | 6=>294 | 8=>296 | 9=>297 | 11=>299 | n=>n,fun | 26=>3 | 28=>264 | 24=>25 | 0=>0 | 3=>3 | 33=>225 | n=>n,fun | n=>n⟩
theorem Tryz.sortedA:Go.Proofs.SlLaysZI.n6 Tryz.prog Tryz.sortedA_ren:={
 mixed:=by kernel_rfl
 f6:=⟨Tryz.f294.name,by decide,Tryz.func294.trans (congrArg some (by kernel_rfl))⟩
 f8:=⟨Tryz.f296.name,by decide,Tryz.func296.trans (congrArg some (by kernel_rfl))⟩
 f11:=⟨Tryz.f299.name,by decide,Tryz.func299.trans (congrArg some (by kernel_rfl))⟩
 t0:=by kernel_rfl
 a0:=fun w=>by kernel_rfl
 z0:=fun w=>by kernel_rfl
 v0:=fun w=>by kernel_rfl
 t24:=by kernel_rfl
 a24:=fun w=>by kernel_rfl
 z24:=fun w=>by kernel_rfl
 v24:=fun w=>by kernel_rfl
 t26:=by kernel_rfl
 a26:=fun w=>by kernel_rfl
 z26:=fun w=>by kernel_rfl
 v26:=fun w=>by kernel_rfl
 t28:=by kernel_rfl
 a28:=fun w=>by kernel_rfl
 z28:=fun w=>by kernel_rfl
 v28:=fun w=>by kernel_rfl
 i26:=by kernel_rfl }
end Go.Proofs
namespace Go.Proofs.YtafhpamnegmilaaGreatDoor
open Go Go.RowKit Go.Shelf Go.Maps Go.Sort
theorem jw4 (m:Nat):AnyZI.SortsIn Tryz.prog Tryz.sortedA_ren Fence.wide m :=
 ⟨fun B off cap ss W D A C=>callsIn_wide.2 (Tryz.slices_Sort_int B off cap ss W D A C),fun p cap W=>callsIn_wide.2 (Tryz.slices_Sort_int_none p cap W)⟩
theorem jtX (A:Option Nat) (W:World):Calls Tryz.prog 295 #[.map A] W fun e w'=>e=.returned (.func (.func 298) #[] #[.pointer (some ⟨W.heap.size,0,none⟩)])/\w'=W.alloc (.cells #[.map A] 346) :=
 (callsIn_wide (n:=5)).1 (AnyZI.keys_in Tryz.keysA Fence.wide 5 trivial rfl A W)
theorem jpT (b G:Nat) (D:DataW Unit) (w:World) (A:w.ownsMap Tryz.prog 3 (plainElem Tryz.prog 48) b G D) (F:Maps.size D<=100000) :
  Calls Tryz.prog 294 #[.func (.func 298) #[] #[.pointer (some ⟨w.heap.size,0,none⟩)]] (w.alloc (.cells #[.map (some b)] 346)) fun e w'=>∃ (v:Value) (ss:List Int),e=.returned v/\ss.Perm (intKeys D) /\
   w'.ownsRow w.heap.size 3 1 v ss.length ((ss.mergeSort (fun x y=>decide (x<=y))).map encZ)/\(v=.slice none 0 0↔ss=[])/\Bw w w':=by
 have C:=A.lt
 have B:SeqGives Fence.wide 2 Tryz.prog 298 #[.pointer (some ⟨w.heap.size,0,none⟩)] encZ (fun ss=>ss.Perm (intKeys D)) (Maps.size D) (w.alloc (.cells #[.map (some b)] 346)) :=
  AnyZI.keys_gives (ρ:=Tryz.keysA_ren) { Tryz.keysA with } Fence.wide _ trivial rfl (by omega) w.heap.size b G D _ (by simp) (by simp) (by
   obtain⟨es,clock,P,H,F,O⟩:=A;exact⟨es,clock,(Below.heap_alloc _ _ b C).trans P,H,F,O⟩)
 have E:=AnyZI.sorted_in Tryz.sortedA Fence.wide 5 trivial trivial trivial trivial rfl (by omega) (jw4 _) (enters_of Tryz.func297 (by kernel_rfl) rfl) 298 #[.pointer (some ⟨w.heap.size,0,none⟩)] trivial (enters_of Tryz.func298 (by kernel_rfl) rfl) _ _ (by unfold maxLen;omega) (by omega) _ B;change CallsIn _ _ Tryz.prog 294 _ _ _ at E;refine (callsIn_wide (n:=5)).1 (E.mono ?_);rintro e w' ⟨v,ss,I,J,L,M,N⟩;exact⟨v,ss,I,J,jl6 L (by simp),M,((Below.refl _ w).alloc (Nat.le_refl _) _).trans (N.mono (by simp))⟩
end Go.Proofs.YtafhpamnegmilaaGreatDoor
namespace Go.Proofs.YtafhpamnegmilaaGreatDoor
open Go Go.RowKit Go.Shelf
attribute [local go_sem] Oper.semAt_some
attribute [-go_sem] Builtin.append_
def jfD (x:Lab):ByteArray:=x.name++(⟨#[61]⟩:ByteArray)++⟨(jbp (rl x.value 0)).toArray⟩
def jng (ls:List Lab):ByteArray:=⟨(Lib.join ((ls.map jfD).map (·.data.toList)) [44]).toArray⟩
theorem jhG:Tryz.prog.underlying 106=some (.slice 9):=by kernel_rfl
theorem jhC:(Tryz.prog.info? 9).map (fun i=>(i.zero,i.size,i.bytes))=some (some (.string ⟨#[]⟩),1,16):=by kernel_rfl
def jf6 (s:ByteArray):List Value:=[.string s]
theorem jd4 {w:World} {A e B n:Nat} {v:Value} {xs:List Value} (h:w.ownsRow A e B v n xs):∃ a cap,v=.slice a n cap:=by
 rcases h.2 with⟨rfl,rfl⟩ | ⟨g,cap,C,rfl,_⟩
 ·exact⟨none,0,rfl⟩
 ·exact⟨_,cap,rfl⟩
end Go.Proofs.YtafhpamnegmilaaGreatDoor
