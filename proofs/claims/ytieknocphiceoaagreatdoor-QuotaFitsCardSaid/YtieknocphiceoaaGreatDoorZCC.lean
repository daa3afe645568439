/- Package hist: Bounds, with the least value. Regions that draw their order inside a round: by the walk outside of one. Of no program. Package cms: change, by told and Add's function. Package cms: change, by all and Lower's function. -/
import Derived.Test.YtieknocphiceoaaGreatDoorZJ1
namespace Go.Proofs.YtieknocphiceoaaGreatDoor
open Go Go.RowKit Go.Shelf
def jbR (f:Nat) (n:Int):Int:=if n=0 then 0 else if (f:Int)<=(n-1) / 2^f then bits .or .u64 (IntKind.u64.wrap (2^((n-1) / 2^f).toNat)) (IntKind.u64.wrap (IntKind.u64.wrap (bits .and .i64 (n-1) (2^f-1))*2^((n-1) / 2^f-(f:Int)).toNat))
 else bits .or .u64 (2^((n-1) / 2^f).toNat) (IntKind.u64.wrap (bits .and .i64 (n-1) (2^f-1)) / 2^(f-((n-1) / 2^f).toNat))
def BdL (lo:Int) (w:World) (e:Ending) (w':World):Prop:=∃ hi:Int,e=.returned (.tuple #[.int .u64 lo,.int .u64 hi,.bool true])/\Below w.heap.size w w'
theorem jni:∀ f∈[1,2,3],∀ n∈List.range 513,jap ((f:Nat):Int) ((n:Nat):Int)=true->jgT ((f:Nat)-1:Int) (jbR f ((n:Nat):Int)).toNat=jaQ ((n:Nat):Int)/\(0<=jbR f ((n:Nat):Int)/\jbR f ((n:Nat):Int)<=18446744073709551615):=by decide +kernel
theorem jb7 (f:Nat) (hf:f<=3) (n:Int) (h:jap f n=true):0<=n/\n<=512:=by
 have hn0:0<=n:=by
  unfold jap at h;split at h
  ·rename_i hc
   simp only[Bool.and_eq_true,decide_eq_true_eq] at hc;exact hc.2
  ·cases h
 refine⟨hn0,?_⟩;by_cases h0:n=0
 ·omega
 rw[jdd _ _ (by omega) (jbX f hf)] at h;rcases (by omega:f=0\/f=1\/f=2\/f=3) with rfl | rfl | rfl | rfl
 ·simp only[show (((0:Nat):Int)).toNat=0 from rfl] at h
  by_cases hc:64<=(n-1) / 2^0
  ·rw[if_pos hc] at h;cases h
  ·omega
 ·simp only[show (((1:Nat):Int)).toNat=1 from rfl] at h
  by_cases hc:64<=(n-1) / 2^1
  ·rw[if_pos hc] at h;cases h
  ·omega
 ·simp only[show (((2:Nat):Int)).toNat=2 from rfl] at h
  by_cases hc:64<=(n-1) / 2^2
  ·rw[if_pos hc] at h;cases h
  ·omega
 ·simp only[show (((3:Nat):Int)).toNat=3 from rfl] at h
  by_cases hc:64<=(n-1) / 2^3
  ·rw[if_pos hc] at h;cases h
  ·omega
theorem jhw (f:Nat) (h1:1<=f) (h3:f<=3) (n:Int) (h:jap f n=true):jgT ((f:Int)-1) (jbR f n).toNat=jaQ n/\U64 (jbR f n):=by
 obtain⟨n0,n1⟩:=jb7 f h3 n h;have:=jni f (by simp;omega) n.toNat (by simp;omega);rw[Int.toNat_of_nonneg n0] at this;exact this h
set_option maxHeartbeats 1000000 in
theorem joS (w:World):Calls Tryz.prog 219 #[.int .i64 1,.int .i64 0] w (BdL 0 w):=by
 have hF:jaq 1=true:=rfl;go_enter Tryz.func219,Tryz.ntmps219;go_wp2_with fail;refine jad 0 rfl ?_;go_wp2_with (go_at_call 218;refine (jai _ _).mono ?_;rintro e w' ⟨rfl,rfl⟩)
 first | rw[jae] | (go_step3;refine And.intro (rfl:(0:Nat)=0) ?_;go_wp2_with fail;go_wp2_with fail;rw[Exit.noGoto_ret]) | (go_step3;go_wp2_with fail;rw[jae])
 go_ret3;exact⟨_,rfl,Below.refl _ _⟩
set_option maxHeartbeats 1000000 in
theorem joO (n:Int) (w:World) (h1:1<=n) (h2:n<=9223372036854775807) (h3:(n-1) / 2<64) (h4:1<=(n-1) / 2):Calls Tryz.prog 219 #[.int .i64 1,.int .i64 n] w (BdL (bits .or .u64 (IntKind.u64.wrap (2^((n-1) / 2).toNat)) (IntKind.u64.wrap (IntKind.u64.wrap (bits .and .i64 (n-1) 1)*2^(((n-1) / 2).toNat-1)))) w):=by
 have t0:(n==0)=false:=by rw[beq_eq_false_iff_ne];omega
 have hF:jaq 1=true:=rfl;go_enter Tryz.func219,Tryz.ntmps219;go_wp2_with fail;refine jad 0 rfl ?_;go_wp2_with (go_at_call 218;refine (jai _ _).mono ?_;rintro e w' ⟨rfl,rfl⟩);go_quiet (fail);go_wp2_with fail;go_quiet (fail);go_wp2_with fail
 first | rw[jae] | (go_step3;refine And.intro (rfl:(0:Nat)=0) ?_;go_wp2_with fail;go_wp2_with fail;rw[Exit.noGoto_ret]) | (go_step3;go_wp2_with fail;rw[jae])
 go_ret3;exact⟨_,rfl,bDr (bDr (Below.refl _ _) _) _⟩
set_option maxHeartbeats 1000000 in
theorem joI (n:Int) (w:World) (h1:1<=n) (h2:n<=9223372036854775807) (h3:(n-1) / 2=0) (hc:(bits .and .i64 (bits .and .i64 (n-1) 1) 1==0)=true):Calls Tryz.prog 219 #[.int .i64 1,.int .i64 n] w (BdL (bits .or .u64 1 (IntKind.u64.wrap (bits .and .i64 (n-1) 1) / 2)) w):=by
 have t0:(n==0)=false:=by rw[beq_eq_false_iff_ne];omega
 have hF:jaq 1=true:=rfl;go_enter Tryz.func219,Tryz.ntmps219;go_wp2_with fail;refine jad 0 rfl ?_;go_wp2_with (go_at_call 218;refine (jai _ _).mono ?_;rintro e w' ⟨rfl,rfl⟩);go_quiet (fail);go_wp2_with fail
 first | rw[jae] | (go_step3;refine And.intro (rfl:(0:Nat)=0) ?_;go_wp2_with fail;go_wp2_with fail;rw[Exit.noGoto_ret]) | (go_step3;go_wp2_with fail;rw[jae])
 go_ret3;exact⟨_,rfl,bDr (Below.refl _ _) _⟩
set_option maxHeartbeats 1000000 in
theorem joT (w:World):Calls Tryz.prog 219 #[.int .i64 2,.int .i64 0] w (BdL 0 w):=by
 have hF:jaq 2=true:=rfl;go_enter Tryz.func219,Tryz.ntmps219;go_wp2_with fail;refine jad 0 rfl ?_;go_wp2_with (go_at_call 218;refine (jai _ _).mono ?_;rintro e w' ⟨rfl,rfl⟩)
 first | rw[jae] | (go_step3;refine And.intro (rfl:(0:Nat)=0) ?_;go_wp2_with fail;go_wp2_with fail;rw[Exit.noGoto_ret]) | (go_step3;go_wp2_with fail;rw[jae])
 go_ret3;exact⟨_,rfl,Below.refl _ _⟩
set_option maxHeartbeats 1000000 in
theorem joP (n:Int) (w:World) (h1:1<=n) (h2:n<=9223372036854775807) (h3:(n-1) / 4<64) (h4:2<=(n-1) / 4):Calls Tryz.prog 219 #[.int .i64 2,.int .i64 n] w (BdL (bits .or .u64 (IntKind.u64.wrap (2^((n-1) / 4).toNat)) (IntKind.u64.wrap (IntKind.u64.wrap (bits .and .i64 (n-1) 3)*2^((n-1) / 4-2).toNat))) w):=by
 have t0:(n==0)=false:=by rw[beq_eq_false_iff_ne];omega
 have hF:jaq 2=true:=rfl;go_enter Tryz.func219,Tryz.ntmps219;go_wp2_with fail;refine jad 0 rfl ?_;go_wp2_with (go_at_call 218;refine (jai _ _).mono ?_;rintro e w' ⟨rfl,rfl⟩);go_quiet (fail);go_wp2_with fail;go_quiet (fail);go_wp2_with fail
 first | rw[jae] | (go_step3;refine And.intro (rfl:(0:Nat)=0) ?_;go_wp2_with fail;go_wp2_with fail;rw[Exit.noGoto_ret]) | (go_step3;go_wp2_with fail;rw[jae])
 go_ret3;exact⟨_,rfl,bDr (bDr (Below.refl _ _) _) _⟩
set_option maxHeartbeats 1000000 in
theorem joJ (n:Int) (w:World) (h1:1<=n) (h2:n<=9223372036854775807) (h3:(n-1) / 4=0) (hc:(bits .and .i64 (bits .and .i64 (n-1) 3) 3==0)=true):Calls Tryz.prog 219 #[.int .i64 2,.int .i64 n] w (BdL (bits .or .u64 1 (IntKind.u64.wrap (bits .and .i64 (n-1) 3) / 4)) w):=by
 have t0:(n==0)=false:=by rw[beq_eq_false_iff_ne];omega
 have hF:jaq 2=true:=rfl;go_enter Tryz.func219,Tryz.ntmps219;go_wp2_with fail;refine jad 0 rfl ?_;go_wp2_with (go_at_call 218;refine (jai _ _).mono ?_;rintro e w' ⟨rfl,rfl⟩);go_quiet (fail);go_wp2_with fail
 first | rw[jae] | (go_step3;refine And.intro (rfl:(0:Nat)=0) ?_;go_wp2_with fail;go_wp2_with fail;rw[Exit.noGoto_ret]) | (go_step3;go_wp2_with fail;rw[jae])
 go_ret3;exact⟨_,rfl,bDr (Below.refl _ _) _⟩
set_option maxHeartbeats 1000000 in
theorem joK (n:Int) (w:World) (h1:1<=n) (h2:n<=9223372036854775807) (h3:(n-1) / 4=1) (hc:(bits .and .i64 (bits .and .i64 (n-1) 3) 1==0)=true):Calls Tryz.prog 219 #[.int .i64 2,.int .i64 n] w (BdL (bits .or .u64 2 (IntKind.u64.wrap (bits .and .i64 (n-1) 3) / 2)) w):=by
 have t0:(n==0)=false:=by rw[beq_eq_false_iff_ne];omega
 have hF:jaq 2=true:=rfl;go_enter Tryz.func219,Tryz.ntmps219;go_wp2_with fail;refine jad 0 rfl ?_;go_wp2_with (go_at_call 218;refine (jai _ _).mono ?_;rintro e w' ⟨rfl,rfl⟩);go_quiet (fail);go_wp2_with fail
 first | rw[jae] | (go_step3;refine And.intro (rfl:(0:Nat)=0) ?_;go_wp2_with fail;go_wp2_with fail;rw[Exit.noGoto_ret]) | (go_step3;go_wp2_with fail;rw[jae])
 go_ret3;exact⟨_,rfl,bDr (Below.refl _ _) _⟩
set_option maxHeartbeats 1000000 in
theorem joU (w:World):Calls Tryz.prog 219 #[.int .i64 3,.int .i64 0] w (BdL 0 w):=by
 have hF:jaq 3=true:=rfl;go_enter Tryz.func219,Tryz.ntmps219;go_wp2_with fail;refine jad 0 rfl ?_;go_wp2_with (go_at_call 218;refine (jai _ _).mono ?_;rintro e w' ⟨rfl,rfl⟩)
 first | rw[jae] | (go_step3;refine And.intro (rfl:(0:Nat)=0) ?_;go_wp2_with fail;go_wp2_with fail;rw[Exit.noGoto_ret]) | (go_step3;go_wp2_with fail;rw[jae])
 go_ret3;exact⟨_,rfl,Below.refl _ _⟩
set_option maxHeartbeats 1000000 in
theorem joQ (n:Int) (w:World) (h1:1<=n) (h2:n<=9223372036854775807) (h3:(n-1) / 8<64) (h4:3<=(n-1) / 8):Calls Tryz.prog 219 #[.int .i64 3,.int .i64 n] w (BdL (bits .or .u64 (IntKind.u64.wrap (2^((n-1) / 8).toNat)) (IntKind.u64.wrap (IntKind.u64.wrap (bits .and .i64 (n-1) 7)*2^((n-1) / 8-3).toNat))) w):=by
 have t0:(n==0)=false:=by rw[beq_eq_false_iff_ne];omega
 have hF:jaq 3=true:=rfl;go_enter Tryz.func219,Tryz.ntmps219;go_wp2_with fail;refine jad 0 rfl ?_;go_wp2_with (go_at_call 218;refine (jai _ _).mono ?_;rintro e w' ⟨rfl,rfl⟩);go_quiet (fail);go_wp2_with fail;go_quiet (fail);go_wp2_with fail
 first | rw[jae] | (go_step3;refine And.intro (rfl:(0:Nat)=0) ?_;go_wp2_with fail;go_wp2_with fail;rw[Exit.noGoto_ret]) | (go_step3;go_wp2_with fail;rw[jae])
 go_ret3;exact⟨_,rfl,bDr (bDr (Below.refl _ _) _) _⟩
set_option maxHeartbeats 1000000 in
theorem joL (n:Int) (w:World) (h1:1<=n) (h2:n<=9223372036854775807) (h3:(n-1) / 8=0) (hc:(bits .and .i64 (bits .and .i64 (n-1) 7) 7==0)=true):Calls Tryz.prog 219 #[.int .i64 3,.int .i64 n] w (BdL (bits .or .u64 1 (IntKind.u64.wrap (bits .and .i64 (n-1) 7) / 8)) w):=by
 have t0:(n==0)=false:=by rw[beq_eq_false_iff_ne];omega
 have hF:jaq 3=true:=rfl;go_enter Tryz.func219,Tryz.ntmps219;go_wp2_with fail;refine jad 0 rfl ?_;go_wp2_with (go_at_call 218;refine (jai _ _).mono ?_;rintro e w' ⟨rfl,rfl⟩);go_quiet (fail);go_wp2_with fail
 first | rw[jae] | (go_step3;refine And.intro (rfl:(0:Nat)=0) ?_;go_wp2_with fail;go_wp2_with fail;rw[Exit.noGoto_ret]) | (go_step3;go_wp2_with fail;rw[jae])
 go_ret3;exact⟨_,rfl,bDr (Below.refl _ _) _⟩
set_option maxHeartbeats 1000000 in
theorem joM (n:Int) (w:World) (h1:1<=n) (h2:n<=9223372036854775807) (h3:(n-1) / 8=1) (hc:(bits .and .i64 (bits .and .i64 (n-1) 7) 3==0)=true):Calls Tryz.prog 219 #[.int .i64 3,.int .i64 n] w (BdL (bits .or .u64 2 (IntKind.u64.wrap (bits .and .i64 (n-1) 7) / 4)) w):=by
 have t0:(n==0)=false:=by rw[beq_eq_false_iff_ne];omega
 have hF:jaq 3=true:=rfl;go_enter Tryz.func219,Tryz.ntmps219;go_wp2_with fail;refine jad 0 rfl ?_;go_wp2_with (go_at_call 218;refine (jai _ _).mono ?_;rintro e w' ⟨rfl,rfl⟩);go_quiet (fail);go_wp2_with fail
 first | rw[jae] | (go_step3;refine And.intro (rfl:(0:Nat)=0) ?_;go_wp2_with fail;go_wp2_with fail;rw[Exit.noGoto_ret]) | (go_step3;go_wp2_with fail;rw[jae])
 go_ret3;exact⟨_,rfl,bDr (Below.refl _ _) _⟩
set_option maxHeartbeats 1000000 in
theorem joN (n:Int) (w:World) (h1:1<=n) (h2:n<=9223372036854775807) (h3:(n-1) / 8=2) (hc:(bits .and .i64 (bits .and .i64 (n-1) 7) 1==0)=true):Calls Tryz.prog 219 #[.int .i64 3,.int .i64 n] w (BdL (bits .or .u64 4 (IntKind.u64.wrap (bits .and .i64 (n-1) 7) / 2)) w):=by
 have t0:(n==0)=false:=by rw[beq_eq_false_iff_ne];omega
 have hF:jaq 3=true:=rfl;go_enter Tryz.func219,Tryz.ntmps219;go_wp2_with fail;refine jad 0 rfl ?_;go_wp2_with (go_at_call 218;refine (jai _ _).mono ?_;rintro e w' ⟨rfl,rfl⟩);go_quiet (fail);go_wp2_with fail
 first | rw[jae] | (go_step3;refine And.intro (rfl:(0:Nat)=0) ?_;go_wp2_with fail;go_wp2_with fail;rw[Exit.noGoto_ret]) | (go_step3;go_wp2_with fail;rw[jae])
 go_ret3;exact⟨_,rfl,bDr (Below.refl _ _) _⟩
theorem jiF (f:Nat) (h1:1<=f) (hf:f<=3) (n:Int) (w:World) (h:jap f n=true):Calls Tryz.prog 219 #[.int .i64 f,.int .i64 n] w (BdL (jbR f n) w):=by
 obtain⟨n0,n1⟩:=jb7 f hf n h;by_cases hz:n=0
 ·subst hz
  rcases (by omega:f=1\/f=2\/f=3) with rfl | rfl | rfl
  ·exact joS w
  ·exact joT w
  ·exact joU w
 rw[jdd _ _ (by omega) (jbX f hf)] at h;unfold jbR;rw[if_neg hz];rcases (by omega:f=1\/f=2\/f=3) with rfl | rfl | rfl
 ·simp only[show ((1:Int)).toNat=1 from rfl,show ((2:Int)^1)=2 from rfl,show (((1:Nat):Int))=1 from rfl,Int.reduceSub] at h ⊢
  by_cases hc:64<=(n-1) / 2
  ·rw[if_pos hc] at h;cases h
  rw[if_neg hc] at h;by_cases h2:(1:Int)<=(n-1) / 2
  ·rw[if_pos h2];rw[show ((n-1) / 2-1).toNat=((n-1) / 2).toNat-1 by omega];exact joO n w (by omega) (by omega) (by omega) (by omega)
  rw[if_neg h2] at h ⊢;have e:(n-1) / 2=0:=by omega
  rw[e] at h ⊢;exact joI n w (by omega) (by omega) e h
 ·simp only[show ((2:Int)).toNat=2 from rfl,show ((2:Int)^2)=4 from rfl,show (((2:Nat):Int))=2 from rfl,Int.reduceSub] at h ⊢
  by_cases hc:64<=(n-1) / 4
  ·rw[if_pos hc] at h;cases h
  rw[if_neg hc] at h;by_cases h2:(2:Int)<=(n-1) / 4
  ·rw[if_pos h2];exact joP n w (by omega) (by omega) (by omega) (by omega)
  rw[if_neg h2] at h ⊢;rcases (by omega:(n-1) / 4=0\/(n-1) / 4=1) with e | e<;>rw[e] at h ⊢
  ·exact joJ n w (by omega) (by omega) e h
  ·exact joK n w (by omega) (by omega) e h
 ·simp only[show ((3:Int)).toNat=3 from rfl,show ((2:Int)^3)=8 from rfl,show (((3:Nat):Int))=3 from rfl,Int.reduceSub] at h ⊢
  by_cases hc:64<=(n-1) / 8
  ·rw[if_pos hc] at h;cases h
  rw[if_neg hc] at h;by_cases h2:(3:Int)<=(n-1) / 8
  ·rw[if_pos h2];exact joQ n w (by omega) (by omega) (by omega) (by omega)
  rw[if_neg h2] at h ⊢;rcases (by omega:(n-1) / 8=0\/(n-1) / 8=1\/(n-1) / 8=2) with e | e | e<;>rw[e] at h ⊢
  ·exact joL n w (by omega) (by omega) e h
  ·exact joM n w (by omega) (by omega) e h
  ·exact joN n w (by omega) (by omega) e h
end Go.Proofs.YtieknocphiceoaaGreatDoor
namespace Go.Proofs.YtieknocphiceoaaGreatDoor
open Go Go.RowKit
section
variable {F:Fence} {n:Nat} {P:Program} {ops:Array Oper} {Q:Exit->Act->World->Prop} {md:Region.Mode} {l:Nat}
theorem jkK {o:Oper} {K:Act->World->Prop} {a:Act} {w:World} (hro:F.round=none) (hd:∀ c,o.op≠.defer c) (h:o.wpIn F n P a w K Q):o.wpIn (F.inRound l) n P a w K Q:=by
 unfold Oper.wpIn at h ⊢;refine⟨h.1,?_⟩;have h2:=h.2;rw[hro,Oper.semAt_none] at h2;rw[Fence.inRound_round,Oper.semAt_some _ _ _ hd];generalize (execOp a.eval o).run P w=r at h2 ⊢
 cases r with
 | ok x w'=>cases x<;>exact h2
 | halt x w'=>cases x<;>exact h2
theorem jjK {i:Nat} {K:Act->World->Prop} {a:Act} {w:World} (hro:F.round=none) (hd:∀ (i:Nat) (o:Oper),ops[i]? = some o->∀ c,o.op≠.defer c) (h:wpOpIn F n P ops Q i K a w):wpOpIn (F.inRound l) n P ops Q i K a w:=by
 unfold wpOpIn at h ⊢
 cases ho:ops[i]? with
 | none=>simpa only[ho] using h
 | some o =>
  simp only[ho] at h ⊢;split
  ·rename_i hw;rw[if_pos hw] at h;exact jkK hro (hd i o ho) h
  ·rename_i hw;rw[if_neg hw] at h;exact h
theorem jiC (hro:F.round=none) (hd:∀ (i:Nat) (o:Oper),ops[i]? = some o->∀ c,o.op≠.defer c) (fuel:Nat):∀ (listed:Array Bool) (a:Act) (w:World),wpAnyIn F n P md ops Q fuel listed a w->wpAnyIn (F.inRound l) n P md ops Q fuel listed a w:=by
 induction fuel with
 | zero=>intro listed a w h;exact h
 | succ fuel ih=>intro listed a w h;exact⟨h.1,fun i hi=>jjK hro hd (wpOpIn_mono (fun a' w' h'=>ih (listed.setIfInBounds i true) a' w' h') (h.2 i hi))⟩
def jij (ops:Array Oper):Bool:=ops.toList.all fun o=>match o.op with | .defer _=>false | _=>true
theorem jik (h:jij ops=true):∀ (i:Nat) (o:Oper),ops[i]? = some o->∀ c,o.op≠.defer c:=by
 intro i o ho c hc;rw[jij,List.all_eq_true] at h;have h1:=h o (by rw[<- Array.getElem?_toList] at ho;exact List.mem_of_getElem? ho);rw[hc] at h1
 cases h1
theorem jdo {id:Nat} {a:Act} {w:World} (hro:F.round=none) (hm:P.follows .mixedOrders=true) (hd:jij ops=true)
  (h:wpAnyIn F n P .any ops Q ops.size (Array.replicate ops.size false) a w.drew):(Code.region id ops true).wpIn (F.inRound l) n P Q a w :=
 wpIn_region_any hm (jiC hro (jik hd) _ _ _ _ h)
end
end Go.Proofs.YtieknocphiceoaaGreatDoor
namespace Go.Proofs.YtieknocphiceoaaGreatDoor
open Go Go.RowKit Go.Shelf
attribute [local go_sem] Oper.semAt_some
def NumsAt (W:World) (g:Nat) (l:List Int):Prop:=W.heap[g]? = some (.cells (l.map (Value.int .u64)).toArray 55 (0,0))
theorem NumsAt.lt {W:World} {g:Nat} {l:List Int} (h:NumsAt W g l):g<W.heap.size:=(Array.getElem?_eq_some_iff.1 h).1
theorem NumsAt.cell {W:World} {g:Nat} {l:List Int} (h:NumsAt W g l) {j:Nat} (hj:j<l.length):W.cell? ⟨g,j,none⟩=some (.int .u64 (l.getD j 0)):=by
 rw[cCc h j];simp[List.getD_eq_getElem?_getD,hj]
theorem NumsAt.frozen {W:World} {g:Nat} {l:List Int} (h:NumsAt W g l) (j:Nat):W.frozen? ⟨g,j,none⟩=false:=cFz h j
theorem NumsAt.block {W W':World} {g:Nat} {l:List Int} (h:NumsAt W g l) (hb:W'.heap[g]? = W.heap[g]?):NumsAt W' g l:=hb.trans h
theorem NumsAt.set {W:World} {g:Nat} {l:List Int} (h:NumsAt W g l) (p:Nat) (x:Int):NumsAt (W.setCell ⟨g,p,none⟩ (.int .u64 x)) g (l.set p x):=by
 have:=hSk (i:=p) h (.int .u64 x);unfold NumsAt;rw[this];congr 2;simp[List.map_set]
theorem jbe {W W':World} (h:Below W.heap.size W W') (row:Option Nat):W.grownBy W' row:=⟨h.os,h.tape,h.output,h.size,fun k hk _=>h.block k hk⟩
def jcK {α:Type} (pl:α->Nat) (F:Nat->Int->Int) (l:List Int) (ps:List α):List Int:=ps.foldl (fun l p=>l.set (pl p) (F (pl p) (l.getD (pl p) 0))) l
theorem jd5 {α:Type} (pl:α->Nat) (F:Nat->Int->Int):∀ (ps:List α) (l:List Int),(jcK pl F l ps).length=l.length
 | [],_=>rfl
 | p::ps,l=>by
  show (jcK pl F (l.set (pl p) _) ps).length=_;rw[jd5 pl F ps,List.length_set]
theorem jhl {α:Type} (pl:α->Nat) (F:Nat->Int->Int) (hF:∀ p x,U64 x->U64 (F p x)):∀ (ps:List α) (l:List Int),jdK l->jdK (jcK pl F l ps)
 | [],_,h=>h
 | p::ps,l,h=>by
  refine jhl pl F hF ps _ (fun x hx=>?_);rcases List.mem_or_eq_of_mem_set hx with hx | rfl
  ·exact h x hx
  ·exact hF _ _ (jc1 l h _)
def CI {α:Type} (pl:α->Nat) (F:Nat->Int->Int) (l:List Int) (g B:Nat) (wv tv:Array Value) (w:World) (pre:List α) (W:World):Prop :=
 NumsAt W g (jcK pl F l pre)/\W.heap[B]? = some (.cells wv 161 (0,0))/\W.heap[B+1]? = some (.cells tv 357 (0,0))/\w.grownBy W (some g)
theorem jrH {α:Type} (pl:α->Nat) (F:Nat->Int->Int) (l:List Int) (g B:Nat) (wv tv:Array Value) (w:World) (C:Nat) (hC:w.heap.size<=C):OwnFrom C (CI pl F l g B wv tv w):=fun pre X Y row hs hg hr=>by
 obtain⟨h1,h2,h3,h4⟩:=hs
 have hne:∀ (k:Nat) (o:Obj),X.heap[k]? = some o->o.isCells=true->Y.heap[k]? = some o:=fun k o hk hc=>by
  refine (hg.block k (Array.getElem?_eq_some_iff.1 hk).1 (fun e=>?_)).trans hk;obtain⟨-,o',ho',hc'⟩:=hr k e.symm;rw[hk] at ho'
  cases ho'
  rw[hc] at hc'
  cases hc'
 exact⟨hne _ _ h1 rfl,hne _ _ h2 rfl,hne _ _ h3 rfl,h4.andThen hg (fun j e=>.inl (Nat.le_trans hC (hr j e).1))⟩
end Go.Proofs.YtieknocphiceoaaGreatDoor
namespace Go.Proofs.YtieknocphiceoaaGreatDoor
open Go Go.RowKit Go.Shelf
attribute [local go_sem] Oper.semAt_some
set_option maxRecDepth 100000 in
set_option maxHeartbeats 8000000 in
theorem jlv (F:Nat->Int->Int) (wb fb xb g len cap N cap2:Nat) (r c r2 c2:Int) (sa:Option Addr) (l:List Int) (w:World)
  (hN1:N<=1000) (hb:w.heap[wb]? = some (.cells #[.int .i64 r2,.int .i64 c2,.slice sa N cap2] 161 (0,0))) (hg:NumsAt w g l) (hl:l.length=len) (hlu:jdK l) (hBs:∀ b∈[wb],b<w.heap.size/\b≠g)
  (hF:∀ W (p:Fin N) x,w.grownBy W (some g)->U64 x->Calls Tryz.prog 296 #[.int .i64 (p.1:Nat),.int .u64 x,.pointer (some ⟨fb,0,none⟩),.pointer (some ⟨xb,0,none⟩)] W fun e w'=>e=.returned (.int .u64 (F p.1 x))/\Below W.heap.size W w') (hFu:∀ p x,U64 x->U64 (F p x)) (hpl:∀ p:Fin N,p.1<len) :
  Calls Tryz.prog 294 #[.agg #[.int .i64 r,.int .i64 c,.slice (some ⟨g,0,none⟩) len cap],.func (.func 300) #[] #[.pointer (some ⟨wb,0,none⟩)],.func (.func 296) #[] #[.pointer (some ⟨fb,0,none⟩),.pointer (some ⟨xb,0,none⟩)]] w fun e w'=>e=.returned (.tuple #[])/\NumsAt w' g (jcK (fun x:Fin N=>x.1) F l (List.finRange N))/\w.grownBy w' (some g):=by
 obtain⟨W1,hW1,hX1,hT1,hB1,hs1⟩:=jaS w #[.int .i64 r,.int .i64 c,.slice (some ⟨g,0,none⟩) len cap] 161 #[.func (.func 296) #[] #[.pointer (some ⟨fb,0,none⟩),.pointer (some ⟨xb,0,none⟩)]] 357;have hgl:=hg.lt;have hgw:w.grownBy W1 (some g):=jbe hB1 _;have hseq:=jqx wb r2 c2 sa N cap2 hN1 W1 ((hB1.block _ (hBs wb (by simp)).1).trans hb);have hI0:CI (fun x:Fin N=>x.1) F l g w.heap.size #[.int .i64 r,.int .i64 c,.slice (some ⟨g,0,none⟩) len cap] #[.func (.func 296) #[] #[.pointer (some ⟨fb,0,none⟩),.pointer (some ⟨xb,0,none⟩)]] w [] W1:=⟨hg.block (hB1.block _ hgl),hX1,hT1,hgw⟩;have HFF:=Lib.hid hF;have HL:=Lib.hid hl;have HLU:=Lib.hid hlu;have HFU:=Lib.hid hFu;have HPL:=Lib.hid hpl;clear hF hl hlu hFu hpl hX1 hT1 hg hb;refine jaT Tryz.func294 rfl ?_;simp only[Tryz.ntmps294,List.size_toArray,List.length_cons,List.length_nil,Nat.reduceAdd,Nat.reduceSub,Array.replicate_succ,Array.replicate_zero,List.push_toArray,List.append_toArray,List.nil_append,List.cons_append];go_wp2_with fail
 refine je2 [wb] 6 (fun x:Fin N=>.int .i64 (x.1:Nat)) (gf:=300) (lb:=#[.pointer (some ⟨wb,0,none⟩)]) rfl (enters_of Tryz.func300 (by kernel_rfl) rfl)
  hseq (fun k hk=>Nat.lt_of_lt_of_le (hBs k hk).1 (by omega)) (Below.refl _ _) (fun _=>rfl) (CI (fun x:Fin N=>x.1) F l g w.heap.size #[.int .i64 r,.int .i64 c,.slice (some ⟨g,0,none⟩) len cap] #[.func (.func 296) #[] #[.pointer (some ⟨fb,0,none⟩),.pointer (some ⟨xb,0,none⟩)]] w) (jrH _ F l g w.heap.size _ _ w _ (by omega)) hI0 ?assign ?body ?fin
 case assign =>
  rintro l pre x W K hI hK;simp only[List.zip_toArray,List.zip_cons_cons,List.zip_nil_right,List.size_toArray,List.foldl_toArray',List.foldl_cons,List.foldl_nil,List.setIfInBounds_toArray,List.set_cons_succ,List.set_cons_zero] at hK ⊢;gi_wp2;exact hI
 case body =>
  rintro lo pre x W ⟨hN,hX,hT,hG⟩ hlt;simp only[List.zip_toArray,List.zip_cons_cons,List.zip_nil_right,List.size_toArray,List.foldl_toArray',List.foldl_cons,List.foldl_nil,List.setIfInBounds_toArray,List.set_cons_succ,List.set_cons_zero];have hp:=HPL.out x;have hlen1:=jd5 (fun x:Fin N=>x.1) F pre l;rw[HL.out] at hlen1
  have HS:Hid (jcK (fun x:Fin N=>x.1) F l (pre++[x])=(jcK (fun x:Fin N=>x.1) F l pre).set x.1 (F x.1 ((jcK (fun x:Fin N=>x.1) F l pre).getD x.1 0))):=by
   unfold Hid jcK;rw[List.foldl_append];rfl
  have hU1:=jhl (fun x:Fin N=>x.1) F HFU.out pre l HLU.out;generalize jcK (fun x:Fin N=>x.1) F l pre=r1 at hN hlen1 HS hU1;have hN1:NumsAt W.drew g r1:=hN.block rfl;have hX2:W.drew.heap[w.heap.size]? = some (.cells #[.int .i64 r,.int .i64 c,.slice (some ⟨g,0,none⟩) len cap] 161 (0,0)):=hX;have hT2:W.drew.heap[w.heap.size+1]? = some (.cells #[.func (.func 296) #[] #[.pointer (some ⟨fb,0,none⟩),.pointer (some ⟨xb,0,none⟩)]] 357 (0,0)):=hT;have HP:Hid (x.1<r1.length):=by show x.1<r1.length;omega
  have hxu:=jc1 r1 hU1 x.1;have y2:W.drew.cell? ⟨w.heap.size,2,none⟩=some (.slice (some ⟨g,0,none⟩) len cap):=cCc hX2 2;have y4:W.drew.cell? ⟨w.heap.size+1,0,none⟩=some (.func (.func 296) #[] #[.pointer (some ⟨fb,0,none⟩),.pointer (some ⟨xb,0,none⟩)]):=cCc hT2 0;have y11:=hN1.cell HP.out;have HYC:Hid (∀ w5,NumsAt w5 g r1->w5.cell? ⟨g,x.1,none⟩=some (.int .u64 (r1.getD x.1 0))):=fun w5 h=>h.cell HP.out
  generalize r1.getD x.1 0=y at y11 hxu HS HYC;have HF:=Lib.hid (HFF.out W.drew x _ (jen hG) hxu);have HN:=Lib.hid hN1;have HX:=Lib.hid hX2;have HG:=Lib.hid hG;have HXX:=Lib.hid hX;have HTT:=Lib.hid hT
  have fin:∀ (a:Act) w5,Below W.drew.heap.size W.drew w5->NumsAt w5 g r1->ownPostG W1.heap.size (KL [wb]) (CI (fun x:Fin N=>x.1) F l g w.heap.size #[.int .i64 r,.int .i64 c,.slice (some ⟨g,0,none⟩) len cap] #[.func (.func 296) #[] #[.pointer (some ⟨fb,0,none⟩),.pointer (some ⟨xb,0,none⟩)]] w) (fun _ _ _=>False) (pre++[x]) W   .normal a (w5.setCell ⟨g,x.1,none⟩ (.int .u64 (F x.1 y))):=fun _ w5 hb5 hN5=>by
   have hG5:W.grownBy w5 (some g):=(jen (World.grownBy.refl W (some g))).trans (jbe hb5 _);have hG6:=hG5.trans (jfs w5 g x.1 (.int .u64 (F x.1 y)));refine⟨KeepsFrom.of_grownBy hG6 (fun j e=>by cases e;omega),KL.grown hG6 (fun k hk e=>by cases e;exact (hBs _ hk).2 rfl),?_,(hG6.block _ (Array.getElem?_eq_some_iff.1 HXX.out).1 (fun e=>by cases e;omega)).trans HXX.out,(hG6.block _ (Array.getElem?_eq_some_iff.1 HTT.out).1 (fun e=>by cases e;omega)).trans HTT.out,HG.out.trans hG6⟩;rw[HS.out];exact hN5.set _ _
  have hpi:((x.1:Nat):Int)<len:=by omega
  clear hG hX hT hN hN1 hX2 hT2 hU1 hxu HFF;gi_wp2_with fail;refine jdo (F:=Fence.wide) rfl (by kernel_rfl) (by kernel_rfl) ?_;change wpAnyIn _ _ _ _ _ _ _ _ _ (World.drew _);refine wpAnyIn_take (i:=0) (v:=?_) rfl rfl (by kernel_rfl) (by kernel_rfl) (by kernel_rfl) (fun _ _ _ h=>h) ⟨Or.inl ⟨by rfl,?_⟩,fun _=>rfl⟩ ?_;rotate_left
  ·intro w;go_simp;with_reducible rfl
  refine wpAnyIn_take (i:=1) (v:=?_) rfl rfl (by kernel_rfl) (by kernel_rfl) (by kernel_rfl) (fun _ _ _ h=>h) ⟨Or.inl ⟨by rfl,?_⟩,fun _=>rfl⟩ ?_;rotate_left
  ·intro w;go_simp;with_reducible rfl
  refine wpAnyIn_take (i:=3) (v:=?_) rfl rfl (by kernel_rfl) (by kernel_rfl) (by kernel_rfl) (fun _ _ _ h=>h) ⟨Or.inl ⟨by rfl,?_⟩,fun _=>rfl⟩ ?_;rotate_left
  ·intro w;go_simp;with_reducible rfl
  refine wpAnyIn_take (i:=5) (v:=?_) rfl rfl (by kernel_rfl) (by kernel_rfl) (by kernel_rfl) (fun _ _ _ h=>h) ⟨Or.inl ⟨by rfl,?_⟩,fun _=>rfl⟩ ?_;rotate_left
  ·intro w;go_simp;with_reducible rfl
  refine wpAnyIn_take (i:=6) (v:=?_) rfl rfl (by kernel_rfl) (by kernel_rfl) (by kernel_rfl) (fun _ _ _ h=>h) ⟨Or.inl ⟨by rfl,?_⟩,fun _=>rfl⟩ ?_;rotate_left
  ·intro w;go_simp;with_reducible rfl
  refine wpAnyIn_take (i:=7) (v:=?_) rfl rfl (by kernel_rfl) (by kernel_rfl) (by kernel_rfl) (fun _ _ _ h=>h) ⟨Or.inl ⟨by rfl,?_⟩,fun _=>rfl⟩ ?_;rotate_left
  ·intro w;go_simp;with_reducible rfl
  refine wpAnyIn_take (i:=9) (v:=?_) rfl rfl (by kernel_rfl) (by kernel_rfl) (by kernel_rfl) (fun _ _ _ h=>h) ⟨Or.inl ⟨by rfl,?_⟩,fun _=>rfl⟩ ?_;rotate_left
  ·intro w;go_simp;with_reducible rfl
  refine wpAnyIn_ready (rs:=[2,4,8]) (by kernel_rfl) (by simp) ?_;refine AllReadyIn.cons rfl (fun K hK=>?_) ?_
  ·go_simp
   refine hK _ _ ?_;clear hK K;refine wpAnyIn_ready (rs:=[4,8]) (by kernel_rfl) (by simp) ?_;refine AllReadyIn.cons rfl (fun K hK=>?_) ?_
   ·go_simp
    refine hK _ _ ?_;clear hK K;refine wpAnyIn_ready (rs:=[8]) (by kernel_rfl) (by simp) ?_;refine AllReadyIn.cons rfl (fun K hK=>?_) ?_
    ·go_simp
     refine hK _ _ ?_;clear hK K;refine wpAnyIn_take (i:=10) (v:=?_) rfl rfl (by kernel_rfl) (by kernel_rfl) (by kernel_rfl) (fun _ _ _ h=>h) ⟨Or.inl ⟨by rfl,?_⟩,fun _=>rfl⟩ ?_;rotate_left
     ·intro w;go_simp;first | done | with_reducible rfl | rw[if_neg (by omega)]
     refine wpAnyIn_ready (rs:=[11]) (by kernel_rfl) (by simp) ?_;refine AllReadyIn.cons rfl (fun K hK=>?_) ?_
     ·go_simp
      refine hK _ _ ?_;clear hK K;refine wpAnyIn_ready (rs:=[12]) (by kernel_rfl) (by simp) ?_;refine AllReadyIn.cons rfl (fun K hK=>?_) ?_
      ·go_simp
       refine⟨trivial,(callsIn_wide.2 HF.out).mono ?_⟩;rintro e w5 ⟨rfl,hb5⟩;have hX5:=(hb5.block _ (Array.getElem?_eq_some_iff.1 HX.out).1).trans HX.out;have hN5:NumsAt w5 g r1:=HN.out.block (hb5.block _ HN.out.lt);have z2:w5.cell? ⟨w.heap.size,2,none⟩=some (.slice (some ⟨g,0,none⟩) len cap):=cCc hX5 2;have z3:=HYC.out w5 hN5;have z4:=hN5.frozen x.1;refine hK _ _ ?_;clear hK K hX5;refine wpAnyIn_take (i:=13) (v:=?_) rfl rfl (by kernel_rfl) (by kernel_rfl) (by kernel_rfl) (fun _ _ _ h=>h) ⟨Or.inl ⟨by rfl,?_⟩,fun _=>rfl⟩ ?_;rotate_left
       ·intro w;go_simp;first | done | with_reducible rfl | rw[if_neg (by omega)]
       refine wpAnyIn_ready (rs:=[14]) (by kernel_rfl) (by simp) ?_;refine AllReadyIn.cons rfl (fun K hK=>?_) ?_
       ·go_simp
        refine hK _ _ ?_;clear hK K;refine wpAnyIn_done (by kernel_rfl) ?_ _;exact fin { tmps:=#[],defers:=[] } w5 hb5 hN5
       exact AllReadyIn.nil
      exact AllReadyIn.nil
     exact AllReadyIn.nil
    exact AllReadyIn.nil
   refine AllReadyIn.cons rfl (fun K hK=>?_) ?_
   ·go_simp
    refine hK _ _ ?_;clear hK K;refine wpAnyIn_take (i:=10) (v:=?_) rfl rfl (by kernel_rfl) (by kernel_rfl) (by kernel_rfl) (fun _ _ _ h=>h) ⟨Or.inl ⟨by rfl,?_⟩,fun _=>rfl⟩ ?_;rotate_left
    ·intro w;go_simp;first | done | with_reducible rfl | rw[if_neg (by omega)]
    refine wpAnyIn_ready (rs:=[4,11]) (by kernel_rfl) (by simp) ?_;refine AllReadyIn.cons rfl (fun K hK=>?_) ?_
    ·go_simp
     refine hK _ _ ?_;clear hK K;refine wpAnyIn_ready (rs:=[11]) (by kernel_rfl) (by simp) ?_;refine AllReadyIn.cons rfl (fun K hK=>?_) ?_
     ·go_simp
      refine hK _ _ ?_;clear hK K;refine wpAnyIn_ready (rs:=[12]) (by kernel_rfl) (by simp) ?_;refine AllReadyIn.cons rfl (fun K hK=>?_) ?_
      ·go_simp
       refine⟨trivial,(callsIn_wide.2 HF.out).mono ?_⟩;rintro e w5 ⟨rfl,hb5⟩;have hX5:=(hb5.block _ (Array.getElem?_eq_some_iff.1 HX.out).1).trans HX.out;have hN5:NumsAt w5 g r1:=HN.out.block (hb5.block _ HN.out.lt);have z2:w5.cell? ⟨w.heap.size,2,none⟩=some (.slice (some ⟨g,0,none⟩) len cap):=cCc hX5 2;have z3:=HYC.out w5 hN5;have z4:=hN5.frozen x.1;refine hK _ _ ?_;clear hK K hX5;refine wpAnyIn_take (i:=13) (v:=?_) rfl rfl (by kernel_rfl) (by kernel_rfl) (by kernel_rfl) (fun _ _ _ h=>h) ⟨Or.inl ⟨by rfl,?_⟩,fun _=>rfl⟩ ?_;rotate_left
       ·intro w;go_simp;first | done | with_reducible rfl | rw[if_neg (by omega)]
       refine wpAnyIn_ready (rs:=[14]) (by kernel_rfl) (by simp) ?_;refine AllReadyIn.cons rfl (fun K hK=>?_) ?_
       ·go_simp
        refine hK _ _ ?_;clear hK K;refine wpAnyIn_done (by kernel_rfl) ?_ _;exact fin { tmps:=#[],defers:=[] } w5 hb5 hN5
       exact AllReadyIn.nil
      exact AllReadyIn.nil
     exact AllReadyIn.nil
    refine AllReadyIn.cons rfl (fun K hK=>?_) ?_
    ·go_simp
     refine hK _ _ ?_;clear hK K;refine wpAnyIn_ready (rs:=[4]) (by kernel_rfl) (by simp) ?_;refine AllReadyIn.cons rfl (fun K hK=>?_) ?_
     ·go_simp
      refine hK _ _ ?_;clear hK K;refine wpAnyIn_ready (rs:=[12]) (by kernel_rfl) (by simp) ?_;refine AllReadyIn.cons rfl (fun K hK=>?_) ?_
      ·go_simp
       refine⟨trivial,(callsIn_wide.2 HF.out).mono ?_⟩;rintro e w5 ⟨rfl,hb5⟩;have hX5:=(hb5.block _ (Array.getElem?_eq_some_iff.1 HX.out).1).trans HX.out;have hN5:NumsAt w5 g r1:=HN.out.block (hb5.block _ HN.out.lt);have z2:w5.cell? ⟨w.heap.size,2,none⟩=some (.slice (some ⟨g,0,none⟩) len cap):=cCc hX5 2;have z3:=HYC.out w5 hN5;have z4:=hN5.frozen x.1;refine hK _ _ ?_;clear hK K hX5;refine wpAnyIn_take (i:=13) (v:=?_) rfl rfl (by kernel_rfl) (by kernel_rfl) (by kernel_rfl) (fun _ _ _ h=>h) ⟨Or.inl ⟨by rfl,?_⟩,fun _=>rfl⟩ ?_;rotate_left
       ·intro w;go_simp;first | done | with_reducible rfl | rw[if_neg (by omega)]
       refine wpAnyIn_ready (rs:=[14]) (by kernel_rfl) (by simp) ?_;refine AllReadyIn.cons rfl (fun K hK=>?_) ?_
       ·go_simp
        refine hK _ _ ?_;clear hK K;refine wpAnyIn_done (by kernel_rfl) ?_ _;exact fin { tmps:=#[],defers:=[] } w5 hb5 hN5
       exact AllReadyIn.nil
      exact AllReadyIn.nil
     exact AllReadyIn.nil
    exact AllReadyIn.nil
   exact AllReadyIn.nil
  refine AllReadyIn.cons rfl (fun K hK=>?_) ?_
  ·go_simp
   refine hK _ _ ?_;clear hK K;refine wpAnyIn_ready (rs:=[2,8]) (by kernel_rfl) (by simp) ?_;refine AllReadyIn.cons rfl (fun K hK=>?_) ?_
   ·go_simp
    refine hK _ _ ?_;clear hK K;refine wpAnyIn_ready (rs:=[8]) (by kernel_rfl) (by simp) ?_;refine AllReadyIn.cons rfl (fun K hK=>?_) ?_
    ·go_simp
     refine hK _ _ ?_;clear hK K;refine wpAnyIn_take (i:=10) (v:=?_) rfl rfl (by kernel_rfl) (by kernel_rfl) (by kernel_rfl) (fun _ _ _ h=>h) ⟨Or.inl ⟨by rfl,?_⟩,fun _=>rfl⟩ ?_;rotate_left
     ·intro w;go_simp;first | done | with_reducible rfl | rw[if_neg (by omega)]
     refine wpAnyIn_ready (rs:=[11]) (by kernel_rfl) (by simp) ?_;refine AllReadyIn.cons rfl (fun K hK=>?_) ?_
     ·go_simp
      refine hK _ _ ?_;clear hK K;refine wpAnyIn_ready (rs:=[12]) (by kernel_rfl) (by simp) ?_;refine AllReadyIn.cons rfl (fun K hK=>?_) ?_
      ·go_simp
       refine⟨trivial,(callsIn_wide.2 HF.out).mono ?_⟩;rintro e w5 ⟨rfl,hb5⟩;have hX5:=(hb5.block _ (Array.getElem?_eq_some_iff.1 HX.out).1).trans HX.out;have hN5:NumsAt w5 g r1:=HN.out.block (hb5.block _ HN.out.lt);have z2:w5.cell? ⟨w.heap.size,2,none⟩=some (.slice (some ⟨g,0,none⟩) len cap):=cCc hX5 2;have z3:=HYC.out w5 hN5;have z4:=hN5.frozen x.1;refine hK _ _ ?_;clear hK K hX5;refine wpAnyIn_take (i:=13) (v:=?_) rfl rfl (by kernel_rfl) (by kernel_rfl) (by kernel_rfl) (fun _ _ _ h=>h) ⟨Or.inl ⟨by rfl,?_⟩,fun _=>rfl⟩ ?_;rotate_left
       ·intro w;go_simp;first | done | with_reducible rfl | rw[if_neg (by omega)]
       refine wpAnyIn_ready (rs:=[14]) (by kernel_rfl) (by simp) ?_;refine AllReadyIn.cons rfl (fun K hK=>?_) ?_
       ·go_simp
        refine hK _ _ ?_;clear hK K;refine wpAnyIn_done (by kernel_rfl) ?_ _;exact fin { tmps:=#[],defers:=[] } w5 hb5 hN5
       exact AllReadyIn.nil
      exact AllReadyIn.nil
     exact AllReadyIn.nil
    exact AllReadyIn.nil
   refine AllReadyIn.cons rfl (fun K hK=>?_) ?_
   ·go_simp
    refine hK _ _ ?_;clear hK K;refine wpAnyIn_take (i:=10) (v:=?_) rfl rfl (by kernel_rfl) (by kernel_rfl) (by kernel_rfl) (fun _ _ _ h=>h) ⟨Or.inl ⟨by rfl,?_⟩,fun _=>rfl⟩ ?_;rotate_left
    ·intro w;go_simp;first | done | with_reducible rfl | rw[if_neg (by omega)]
    refine wpAnyIn_ready (rs:=[2,11]) (by kernel_rfl) (by simp) ?_;refine AllReadyIn.cons rfl (fun K hK=>?_) ?_
    ·go_simp
     refine hK _ _ ?_;clear hK K;refine wpAnyIn_ready (rs:=[11]) (by kernel_rfl) (by simp) ?_;refine AllReadyIn.cons rfl (fun K hK=>?_) ?_
     ·go_simp
      refine hK _ _ ?_;clear hK K;refine wpAnyIn_ready (rs:=[12]) (by kernel_rfl) (by simp) ?_;refine AllReadyIn.cons rfl (fun K hK=>?_) ?_
      ·go_simp
       refine⟨trivial,(callsIn_wide.2 HF.out).mono ?_⟩;rintro e w5 ⟨rfl,hb5⟩;have hX5:=(hb5.block _ (Array.getElem?_eq_some_iff.1 HX.out).1).trans HX.out;have hN5:NumsAt w5 g r1:=HN.out.block (hb5.block _ HN.out.lt);have z2:w5.cell? ⟨w.heap.size,2,none⟩=some (.slice (some ⟨g,0,none⟩) len cap):=cCc hX5 2;have z3:=HYC.out w5 hN5;have z4:=hN5.frozen x.1;refine hK _ _ ?_;clear hK K hX5;refine wpAnyIn_take (i:=13) (v:=?_) rfl rfl (by kernel_rfl) (by kernel_rfl) (by kernel_rfl) (fun _ _ _ h=>h) ⟨Or.inl ⟨by rfl,?_⟩,fun _=>rfl⟩ ?_;rotate_left
       ·intro w;go_simp;first | done | with_reducible rfl | rw[if_neg (by omega)]
       refine wpAnyIn_ready (rs:=[14]) (by kernel_rfl) (by simp) ?_;refine AllReadyIn.cons rfl (fun K hK=>?_) ?_
       ·go_simp
        refine hK _ _ ?_;clear hK K;refine wpAnyIn_done (by kernel_rfl) ?_ _;exact fin { tmps:=#[],defers:=[] } w5 hb5 hN5
       exact AllReadyIn.nil
      exact AllReadyIn.nil
     exact AllReadyIn.nil
    refine AllReadyIn.cons rfl (fun K hK=>?_) ?_
    ·go_simp
     refine hK _ _ ?_;clear hK K;refine wpAnyIn_ready (rs:=[2,12]) (by kernel_rfl) (by simp) ?_;refine AllReadyIn.cons rfl (fun K hK=>?_) ?_
     ·go_simp
      refine hK _ _ ?_;clear hK K;refine wpAnyIn_ready (rs:=[12]) (by kernel_rfl) (by simp) ?_;refine AllReadyIn.cons rfl (fun K hK=>?_) ?_
      ·go_simp
       refine⟨trivial,(callsIn_wide.2 HF.out).mono ?_⟩;rintro e w5 ⟨rfl,hb5⟩;have hX5:=(hb5.block _ (Array.getElem?_eq_some_iff.1 HX.out).1).trans HX.out;have hN5:NumsAt w5 g r1:=HN.out.block (hb5.block _ HN.out.lt);have z2:w5.cell? ⟨w.heap.size,2,none⟩=some (.slice (some ⟨g,0,none⟩) len cap):=cCc hX5 2;have z3:=HYC.out w5 hN5;have z4:=hN5.frozen x.1;refine hK _ _ ?_;clear hK K hX5;refine wpAnyIn_take (i:=13) (v:=?_) rfl rfl (by kernel_rfl) (by kernel_rfl) (by kernel_rfl) (fun _ _ _ h=>h) ⟨Or.inl ⟨by rfl,?_⟩,fun _=>rfl⟩ ?_;rotate_left
       ·intro w;go_simp;first | done | with_reducible rfl | rw[if_neg (by omega)]
       refine wpAnyIn_ready (rs:=[14]) (by kernel_rfl) (by simp) ?_;refine AllReadyIn.cons rfl (fun K hK=>?_) ?_
       ·go_simp
        refine hK _ _ ?_;clear hK K;refine wpAnyIn_done (by kernel_rfl) ?_ _;exact fin { tmps:=#[],defers:=[] } w5 hb5 hN5
       exact AllReadyIn.nil
      exact AllReadyIn.nil
     refine AllReadyIn.cons rfl (fun K hK=>?_) ?_
     ·go_simp
      refine⟨trivial,(callsIn_wide.2 HF.out).mono ?_⟩;rintro e w5 ⟨rfl,hb5⟩;have hX5:=(hb5.block _ (Array.getElem?_eq_some_iff.1 HX.out).1).trans HX.out;have hN5:NumsAt w5 g r1:=HN.out.block (hb5.block _ HN.out.lt);have z2:w5.cell? ⟨w.heap.size,2,none⟩=some (.slice (some ⟨g,0,none⟩) len cap):=cCc hX5 2;have z3:=HYC.out w5 hN5;have z4:=hN5.frozen x.1;refine hK _ _ ?_;clear hK K hX5;refine wpAnyIn_ready (rs:=[2]) (by kernel_rfl) (by simp) ?_;refine AllReadyIn.cons rfl (fun K hK=>?_) ?_
      ·go_simp
       refine hK _ _ ?_;clear hK K;refine wpAnyIn_take (i:=13) (v:=?_) rfl rfl (by kernel_rfl) (by kernel_rfl) (by kernel_rfl) (fun _ _ _ h=>h) ⟨Or.inl ⟨by rfl,?_⟩,fun _=>rfl⟩ ?_;rotate_left
       ·intro w;go_simp;first | done | with_reducible rfl | rw[if_neg (by omega)]
       refine wpAnyIn_ready (rs:=[14]) (by kernel_rfl) (by simp) ?_;refine AllReadyIn.cons rfl (fun K hK=>?_) ?_
       ·go_simp
        refine hK _ _ ?_;clear hK K;refine wpAnyIn_done (by kernel_rfl) ?_ _;exact fin { tmps:=#[],defers:=[] } w5 hb5 hN5
       exact AllReadyIn.nil
      exact AllReadyIn.nil
     exact AllReadyIn.nil
    exact AllReadyIn.nil
   exact AllReadyIn.nil
  refine AllReadyIn.cons rfl (fun K hK=>?_) ?_
  ·go_simp
   refine hK _ _ ?_;clear hK K;refine wpAnyIn_take (i:=10) (v:=?_) rfl rfl (by kernel_rfl) (by kernel_rfl) (by kernel_rfl) (fun _ _ _ h=>h) ⟨Or.inl ⟨by rfl,?_⟩,fun _=>rfl⟩ ?_;rotate_left
   ·intro w;go_simp;first | done | with_reducible rfl | rw[if_neg (by omega)]
   refine wpAnyIn_ready (rs:=[2,4,11]) (by kernel_rfl) (by simp) ?_;refine AllReadyIn.cons rfl (fun K hK=>?_) ?_
   ·go_simp
    refine hK _ _ ?_;clear hK K;refine wpAnyIn_ready (rs:=[4,11]) (by kernel_rfl) (by simp) ?_;refine AllReadyIn.cons rfl (fun K hK=>?_) ?_
    ·go_simp
     refine hK _ _ ?_;clear hK K;refine wpAnyIn_ready (rs:=[11]) (by kernel_rfl) (by simp) ?_;refine AllReadyIn.cons rfl (fun K hK=>?_) ?_
     ·go_simp
      refine hK _ _ ?_;clear hK K;refine wpAnyIn_ready (rs:=[12]) (by kernel_rfl) (by simp) ?_;refine AllReadyIn.cons rfl (fun K hK=>?_) ?_
      ·go_simp
       refine⟨trivial,(callsIn_wide.2 HF.out).mono ?_⟩;rintro e w5 ⟨rfl,hb5⟩;have hX5:=(hb5.block _ (Array.getElem?_eq_some_iff.1 HX.out).1).trans HX.out;have hN5:NumsAt w5 g r1:=HN.out.block (hb5.block _ HN.out.lt);have z2:w5.cell? ⟨w.heap.size,2,none⟩=some (.slice (some ⟨g,0,none⟩) len cap):=cCc hX5 2;have z3:=HYC.out w5 hN5;have z4:=hN5.frozen x.1;refine hK _ _ ?_;clear hK K hX5;refine wpAnyIn_take (i:=13) (v:=?_) rfl rfl (by kernel_rfl) (by kernel_rfl) (by kernel_rfl) (fun _ _ _ h=>h) ⟨Or.inl ⟨by rfl,?_⟩,fun _=>rfl⟩ ?_;rotate_left
       ·intro w;go_simp;first | done | with_reducible rfl | rw[if_neg (by omega)]
       refine wpAnyIn_ready (rs:=[14]) (by kernel_rfl) (by simp) ?_;refine AllReadyIn.cons rfl (fun K hK=>?_) ?_
       ·go_simp
        refine hK _ _ ?_;clear hK K;refine wpAnyIn_done (by kernel_rfl) ?_ _;exact fin { tmps:=#[],defers:=[] } w5 hb5 hN5
       exact AllReadyIn.nil
      exact AllReadyIn.nil
     exact AllReadyIn.nil
    refine AllReadyIn.cons rfl (fun K hK=>?_) ?_
    ·go_simp
     refine hK _ _ ?_;clear hK K;refine wpAnyIn_ready (rs:=[4]) (by kernel_rfl) (by simp) ?_;refine AllReadyIn.cons rfl (fun K hK=>?_) ?_
     ·go_simp
      refine hK _ _ ?_;clear hK K;refine wpAnyIn_ready (rs:=[12]) (by kernel_rfl) (by simp) ?_;refine AllReadyIn.cons rfl (fun K hK=>?_) ?_
      ·go_simp
       refine⟨trivial,(callsIn_wide.2 HF.out).mono ?_⟩;rintro e w5 ⟨rfl,hb5⟩;have hX5:=(hb5.block _ (Array.getElem?_eq_some_iff.1 HX.out).1).trans HX.out;have hN5:NumsAt w5 g r1:=HN.out.block (hb5.block _ HN.out.lt);have z2:w5.cell? ⟨w.heap.size,2,none⟩=some (.slice (some ⟨g,0,none⟩) len cap):=cCc hX5 2;have z3:=HYC.out w5 hN5;have z4:=hN5.frozen x.1;refine hK _ _ ?_;clear hK K hX5;refine wpAnyIn_take (i:=13) (v:=?_) rfl rfl (by kernel_rfl) (by kernel_rfl) (by kernel_rfl) (fun _ _ _ h=>h) ⟨Or.inl ⟨by rfl,?_⟩,fun _=>rfl⟩ ?_;rotate_left
       ·intro w;go_simp;first | done | with_reducible rfl | rw[if_neg (by omega)]
       refine wpAnyIn_ready (rs:=[14]) (by kernel_rfl) (by simp) ?_;refine AllReadyIn.cons rfl (fun K hK=>?_) ?_
       ·go_simp
        refine hK _ _ ?_;clear hK K;refine wpAnyIn_done (by kernel_rfl) ?_ _;exact fin { tmps:=#[],defers:=[] } w5 hb5 hN5
       exact AllReadyIn.nil
      exact AllReadyIn.nil
     exact AllReadyIn.nil
    exact AllReadyIn.nil
   refine AllReadyIn.cons rfl (fun K hK=>?_) ?_
   ·go_simp
    refine hK _ _ ?_;clear hK K;refine wpAnyIn_ready (rs:=[2,11]) (by kernel_rfl) (by simp) ?_;refine AllReadyIn.cons rfl (fun K hK=>?_) ?_
    ·go_simp
     refine hK _ _ ?_;clear hK K;refine wpAnyIn_ready (rs:=[11]) (by kernel_rfl) (by simp) ?_;refine AllReadyIn.cons rfl (fun K hK=>?_) ?_
     ·go_simp
      refine hK _ _ ?_;clear hK K;refine wpAnyIn_ready (rs:=[12]) (by kernel_rfl) (by simp) ?_;refine AllReadyIn.cons rfl (fun K hK=>?_) ?_
      ·go_simp
       refine⟨trivial,(callsIn_wide.2 HF.out).mono ?_⟩;rintro e w5 ⟨rfl,hb5⟩;have hX5:=(hb5.block _ (Array.getElem?_eq_some_iff.1 HX.out).1).trans HX.out;have hN5:NumsAt w5 g r1:=HN.out.block (hb5.block _ HN.out.lt);have z2:w5.cell? ⟨w.heap.size,2,none⟩=some (.slice (some ⟨g,0,none⟩) len cap):=cCc hX5 2;have z3:=HYC.out w5 hN5;have z4:=hN5.frozen x.1;refine hK _ _ ?_;clear hK K hX5;refine wpAnyIn_take (i:=13) (v:=?_) rfl rfl (by kernel_rfl) (by kernel_rfl) (by kernel_rfl) (fun _ _ _ h=>h) ⟨Or.inl ⟨by rfl,?_⟩,fun _=>rfl⟩ ?_;rotate_left
       ·intro w;go_simp;first | done | with_reducible rfl | rw[if_neg (by omega)]
       refine wpAnyIn_ready (rs:=[14]) (by kernel_rfl) (by simp) ?_;refine AllReadyIn.cons rfl (fun K hK=>?_) ?_
       ·go_simp
        refine hK _ _ ?_;clear hK K;refine wpAnyIn_done (by kernel_rfl) ?_ _;exact fin { tmps:=#[],defers:=[] } w5 hb5 hN5
       exact AllReadyIn.nil
      exact AllReadyIn.nil
     exact AllReadyIn.nil
    refine AllReadyIn.cons rfl (fun K hK=>?_) ?_
    ·go_simp
     refine hK _ _ ?_;clear hK K;refine wpAnyIn_ready (rs:=[2,12]) (by kernel_rfl) (by simp) ?_;refine AllReadyIn.cons rfl (fun K hK=>?_) ?_
     ·go_simp
      refine hK _ _ ?_;clear hK K;refine wpAnyIn_ready (rs:=[12]) (by kernel_rfl) (by simp) ?_;refine AllReadyIn.cons rfl (fun K hK=>?_) ?_
      ·go_simp
       refine⟨trivial,(callsIn_wide.2 HF.out).mono ?_⟩;rintro e w5 ⟨rfl,hb5⟩;have hX5:=(hb5.block _ (Array.getElem?_eq_some_iff.1 HX.out).1).trans HX.out;have hN5:NumsAt w5 g r1:=HN.out.block (hb5.block _ HN.out.lt);have z2:w5.cell? ⟨w.heap.size,2,none⟩=some (.slice (some ⟨g,0,none⟩) len cap):=cCc hX5 2;have z3:=HYC.out w5 hN5;have z4:=hN5.frozen x.1;refine hK _ _ ?_;clear hK K hX5;refine wpAnyIn_take (i:=13) (v:=?_) rfl rfl (by kernel_rfl) (by kernel_rfl) (by kernel_rfl) (fun _ _ _ h=>h) ⟨Or.inl ⟨by rfl,?_⟩,fun _=>rfl⟩ ?_;rotate_left
       ·intro w;go_simp;first | done | with_reducible rfl | rw[if_neg (by omega)]
       refine wpAnyIn_ready (rs:=[14]) (by kernel_rfl) (by simp) ?_;refine AllReadyIn.cons rfl (fun K hK=>?_) ?_
       ·go_simp
        refine hK _ _ ?_;clear hK K;refine wpAnyIn_done (by kernel_rfl) ?_ _;exact fin { tmps:=#[],defers:=[] } w5 hb5 hN5
       exact AllReadyIn.nil
      exact AllReadyIn.nil
     refine AllReadyIn.cons rfl (fun K hK=>?_) ?_
     ·go_simp
      refine⟨trivial,(callsIn_wide.2 HF.out).mono ?_⟩;rintro e w5 ⟨rfl,hb5⟩;have hX5:=(hb5.block _ (Array.getElem?_eq_some_iff.1 HX.out).1).trans HX.out;have hN5:NumsAt w5 g r1:=HN.out.block (hb5.block _ HN.out.lt);have z2:w5.cell? ⟨w.heap.size,2,none⟩=some (.slice (some ⟨g,0,none⟩) len cap):=cCc hX5 2;have z3:=HYC.out w5 hN5;have z4:=hN5.frozen x.1;refine hK _ _ ?_;clear hK K hX5;refine wpAnyIn_ready (rs:=[2]) (by kernel_rfl) (by simp) ?_;refine AllReadyIn.cons rfl (fun K hK=>?_) ?_
      ·go_simp
       refine hK _ _ ?_;clear hK K;refine wpAnyIn_take (i:=13) (v:=?_) rfl rfl (by kernel_rfl) (by kernel_rfl) (by kernel_rfl) (fun _ _ _ h=>h) ⟨Or.inl ⟨by rfl,?_⟩,fun _=>rfl⟩ ?_;rotate_left
       ·intro w;go_simp;first | done | with_reducible rfl | rw[if_neg (by omega)]
       refine wpAnyIn_ready (rs:=[14]) (by kernel_rfl) (by simp) ?_;refine AllReadyIn.cons rfl (fun K hK=>?_) ?_
       ·go_simp
        refine hK _ _ ?_;clear hK K;refine wpAnyIn_done (by kernel_rfl) ?_ _;exact fin { tmps:=#[],defers:=[] } w5 hb5 hN5
       exact AllReadyIn.nil
      exact AllReadyIn.nil
     exact AllReadyIn.nil
    exact AllReadyIn.nil
   refine AllReadyIn.cons rfl (fun K hK=>?_) ?_
   ·go_simp
    refine hK _ _ ?_;clear hK K;refine wpAnyIn_ready (rs:=[2,4]) (by kernel_rfl) (by simp) ?_;refine AllReadyIn.cons rfl (fun K hK=>?_) ?_
    ·go_simp
     refine hK _ _ ?_;clear hK K;refine wpAnyIn_ready (rs:=[4]) (by kernel_rfl) (by simp) ?_;refine AllReadyIn.cons rfl (fun K hK=>?_) ?_
     ·go_simp
      refine hK _ _ ?_;clear hK K;refine wpAnyIn_ready (rs:=[12]) (by kernel_rfl) (by simp) ?_;refine AllReadyIn.cons rfl (fun K hK=>?_) ?_
      ·go_simp
       refine⟨trivial,(callsIn_wide.2 HF.out).mono ?_⟩;rintro e w5 ⟨rfl,hb5⟩;have hX5:=(hb5.block _ (Array.getElem?_eq_some_iff.1 HX.out).1).trans HX.out;have hN5:NumsAt w5 g r1:=HN.out.block (hb5.block _ HN.out.lt);have z2:w5.cell? ⟨w.heap.size,2,none⟩=some (.slice (some ⟨g,0,none⟩) len cap):=cCc hX5 2;have z3:=HYC.out w5 hN5;have z4:=hN5.frozen x.1;refine hK _ _ ?_;clear hK K hX5;refine wpAnyIn_take (i:=13) (v:=?_) rfl rfl (by kernel_rfl) (by kernel_rfl) (by kernel_rfl) (fun _ _ _ h=>h) ⟨Or.inl ⟨by rfl,?_⟩,fun _=>rfl⟩ ?_;rotate_left
       ·intro w;go_simp;first | done | with_reducible rfl | rw[if_neg (by omega)]
       refine wpAnyIn_ready (rs:=[14]) (by kernel_rfl) (by simp) ?_;refine AllReadyIn.cons rfl (fun K hK=>?_) ?_
       ·go_simp
        refine hK _ _ ?_;clear hK K;refine wpAnyIn_done (by kernel_rfl) ?_ _;exact fin { tmps:=#[],defers:=[] } w5 hb5 hN5
       exact AllReadyIn.nil
      exact AllReadyIn.nil
     exact AllReadyIn.nil
    refine AllReadyIn.cons rfl (fun K hK=>?_) ?_
    ·go_simp
     refine hK _ _ ?_;clear hK K;refine wpAnyIn_ready (rs:=[2,12]) (by kernel_rfl) (by simp) ?_;refine AllReadyIn.cons rfl (fun K hK=>?_) ?_
     ·go_simp
      refine hK _ _ ?_;clear hK K;refine wpAnyIn_ready (rs:=[12]) (by kernel_rfl) (by simp) ?_;refine AllReadyIn.cons rfl (fun K hK=>?_) ?_
      ·go_simp
       refine⟨trivial,(callsIn_wide.2 HF.out).mono ?_⟩;rintro e w5 ⟨rfl,hb5⟩;have hX5:=(hb5.block _ (Array.getElem?_eq_some_iff.1 HX.out).1).trans HX.out;have hN5:NumsAt w5 g r1:=HN.out.block (hb5.block _ HN.out.lt);have z2:w5.cell? ⟨w.heap.size,2,none⟩=some (.slice (some ⟨g,0,none⟩) len cap):=cCc hX5 2;have z3:=HYC.out w5 hN5;have z4:=hN5.frozen x.1;refine hK _ _ ?_;clear hK K hX5;refine wpAnyIn_take (i:=13) (v:=?_) rfl rfl (by kernel_rfl) (by kernel_rfl) (by kernel_rfl) (fun _ _ _ h=>h) ⟨Or.inl ⟨by rfl,?_⟩,fun _=>rfl⟩ ?_;rotate_left
       ·intro w;go_simp;first | done | with_reducible rfl | rw[if_neg (by omega)]
       refine wpAnyIn_ready (rs:=[14]) (by kernel_rfl) (by simp) ?_;refine AllReadyIn.cons rfl (fun K hK=>?_) ?_
       ·go_simp
        refine hK _ _ ?_;clear hK K;refine wpAnyIn_done (by kernel_rfl) ?_ _;exact fin { tmps:=#[],defers:=[] } w5 hb5 hN5
       exact AllReadyIn.nil
      exact AllReadyIn.nil
     refine AllReadyIn.cons rfl (fun K hK=>?_) ?_
     ·go_simp
      refine⟨trivial,(callsIn_wide.2 HF.out).mono ?_⟩;rintro e w5 ⟨rfl,hb5⟩;have hX5:=(hb5.block _ (Array.getElem?_eq_some_iff.1 HX.out).1).trans HX.out;have hN5:NumsAt w5 g r1:=HN.out.block (hb5.block _ HN.out.lt);have z2:w5.cell? ⟨w.heap.size,2,none⟩=some (.slice (some ⟨g,0,none⟩) len cap):=cCc hX5 2;have z3:=HYC.out w5 hN5;have z4:=hN5.frozen x.1;refine hK _ _ ?_;clear hK K hX5;refine wpAnyIn_ready (rs:=[2]) (by kernel_rfl) (by simp) ?_;refine AllReadyIn.cons rfl (fun K hK=>?_) ?_
      ·go_simp
       refine hK _ _ ?_;clear hK K;refine wpAnyIn_take (i:=13) (v:=?_) rfl rfl (by kernel_rfl) (by kernel_rfl) (by kernel_rfl) (fun _ _ _ h=>h) ⟨Or.inl ⟨by rfl,?_⟩,fun _=>rfl⟩ ?_;rotate_left
       ·intro w;go_simp;first | done | with_reducible rfl | rw[if_neg (by omega)]
       refine wpAnyIn_ready (rs:=[14]) (by kernel_rfl) (by simp) ?_;refine AllReadyIn.cons rfl (fun K hK=>?_) ?_
       ·go_simp
        refine hK _ _ ?_;clear hK K;refine wpAnyIn_done (by kernel_rfl) ?_ _;exact fin { tmps:=#[],defers:=[] } w5 hb5 hN5
       exact AllReadyIn.nil
      exact AllReadyIn.nil
     exact AllReadyIn.nil
    exact AllReadyIn.nil
   exact AllReadyIn.nil
  exact AllReadyIn.nil
 case fin =>
  rintro D W hD ⟨hN,hX,hT,hG⟩ hK;have hne:some g≠some D:=fun e=>by cases e;omega
  refine jbY (v:=.tuple #[]) hK (results_none rfl _ _ _) ⟨rfl,?_,?_⟩
  ·exact hN.block ((grownBy_putObj' _ D _).block _ hN.lt hne)
  ·exact hG.andThen (grownBy_putObj' _ D _) (fun j e=>by cases e;exact .inl (by omega))
end Go.Proofs.YtieknocphiceoaaGreatDoor
