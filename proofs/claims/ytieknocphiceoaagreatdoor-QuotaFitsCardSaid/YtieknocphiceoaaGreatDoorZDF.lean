/- The reference of layer 9: Bounds. The reference of layer 9: Right, Same. The reference of layer 9: Same. The reference of layer 10: Bottom; Same at equal sketches. The reference of layer 10: Same, at any sketches. The reference of layer 9: put. Printed by gen_df.py. -/
import Derived.Test.YtieknocphiceoaaGreatDoorZTC
namespace Go.Proofs.YtieknocphiceoaaGreatDoor
open Go Go.RowKit Go.Shelf
def jgH (f n:Nat):Nat:=if (n-1) / 2^f<f then ((n-1) % 2^f+2^f) / 2^(f-(n-1) / 2^f) else ((n-1) % 2^f+2^f)*2^((n-1) / 2^f-f)
theorem jpK:∀ f∈[1,2,3],∀ n∈List.range 25,1<=n->(n-1) / 2^f<f->jap ((f:Nat):Int) ((n:Nat):Int)=(jgT ((f:Nat):Int) (jgH f n)==((n:Nat):Int)):=by decide +kernel
theorem jla:∀ f∈[1,2,3],∀ n∈List.range 513,1<=n->jap ((f:Nat):Int) ((n:Nat):Int)=true->((jgH f n:Nat):Int)=jbR f ((n:Nat):Int):=by decide +kernel
theorem jpJ (f n:Nat) (hf:f<=3) (h1:1<=n) (hb:f<=(n-1) / 2^f) (h64:(n-1) / 2^f<64):jap f n=true:=by
 have e1:(((n:Int)-1) / 2^((f:Int)).toNat)=(((n-1) / 2^f:Nat):Int):=by
  rw[Int.toNat_natCast,show ((n:Int)-1)=((n-1:Nat):Int) by omega];simp
 unfold jap;rw[jbX f hf,e1,decide_eq_true (by omega:(0:Int)<=n),Bool.and_true,if_pos rfl,if_neg (by simp;omega),if_neg (by omega),if_pos (by omega)]
theorem jr0 (f n:Nat) (h1:1<=n) (h64:64<=(n-1) / 2^f):jap f n=false:=by
 have e1:(((n:Int)-1) / 2^((f:Int)).toNat)=(((n-1) / 2^f:Nat):Int):=by
  rw[Int.toNat_natCast,show ((n:Int)-1)=((n-1:Nat):Int) by omega];simp
 unfold jap;split
 ·rw[e1,if_neg (by simp;omega),if_pos (by omega)]
 ·rfl
def BdR (f n:Int) (w:World) (e:Ending) (w':World):Prop:=∃ lo hi:Int,e=.returned (.tuple #[.int .u64 lo,.int .u64 hi,.bool (jap f n)])/\(jap f n=true->1<=f->lo=jbR f.toNat n)/\Below w.heap.size w w'
theorem BdR.of {f n lo hi:Int} {w w':World} {b:Bool} (h1:jap f n=b) (h2:b=true->1<=f->lo=jbR f.toNat n) (hB:Below w.heap.size w w'):BdR f n w (.returned (.tuple #[.int .u64 lo,.int .u64 hi,.bool b])) w':=⟨lo,hi,by rw[h1],(by rw[h1];exact h2),hB⟩
set_option maxHeartbeats 1000000 in
theorem jgv (f n:Int) (h:f<0\/3<f\/n<0) (w:World):Calls Tryz.prog 180 #[.int .i64 f,.int .i64 n] w (BdR f n w):=by
 have HB:Hid (jap f n=false):=by
  unfold jap jaq;rw[Hid,if_neg];simp;omega
 have HE:Hid (BdR f n w (.returned (.tuple #[.int .u64 0,.int .u64 0,.bool false])) w):=BdR.of HB.out (fun h=>by cases h) (Below.refl _ _);by_cases h1:f<0
 ·generalize hQ:BdR f n w=Q at HE ⊢
  clear hQ;go_enter Tryz.func180,Tryz.ntmps180;go_wp2_with fail;go_ret3;exact HE.out
 by_cases h2:3<f
 ·generalize hQ:BdR f n w=Q at HE ⊢
  clear hQ;go_enter Tryz.func180,Tryz.ntmps180;go_wp2_with fail;go_ret3;exact HE.out
 ·have h3:n<0:=by omega
  generalize hQ:BdR f n w=Q at HE ⊢;clear hQ;go_enter Tryz.func180,Tryz.ntmps180;go_wp2_with fail;go_ret3;exact HE.out
set_option maxHeartbeats 1000000 in
theorem jg7 (f:Nat) (hf:f<=3) (w:World):Calls Tryz.prog 180 #[.int .i64 f,.int .i64 0] w (BdR f 0 w):=by
 have HE:Hid (BdR f 0 w (.returned (.tuple #[.int .u64 0,.int .u64 0,.bool true])) w):=by
  refine BdR.of (by unfold jap;rw[jbX f hf];rfl) (fun _ h=>?_) (Below.refl _ _);rcases (by omega:f=1\/f=2\/f=3) with rfl | rfl | rfl<;>decide +kernel
 generalize hQ:BdR f 0 w=Q at HE ⊢;clear hQ;rcases (by omega:f=0\/f=1\/f=2\/f=3) with rfl | rfl | rfl | rfl
 all_goals go_enter Tryz.func180,Tryz.ntmps180
 all_goals go_wp2_with fail
 all_goals go_ret3
 all_goals exact HE.out
set_option maxHeartbeats 1000000 in
theorem jfG (f n:Nat) (hf:f<=3) (h1:64*2^f<n) (hn:n<9223372036854775808) (w:World):Calls Tryz.prog 180 #[.int .i64 f,.int .i64 n] w (BdR f n w):=by
 have HE:Hid (BdR f n w (.returned (.tuple #[.int .u64 0,.int .u64 0,.bool false])) w):=by
  refine BdR.of (jr0 f n (by omega) ?_) (fun h=>by cases h) (Below.refl _ _);rw[Nat.le_div_iff_mul_le (Nat.two_pow_pos _)];omega
 generalize hQ:BdR f n w=Q at HE ⊢;clear hQ;rcases (by omega:f=0\/f=1\/f=2\/f=3) with rfl | rfl | rfl | rfl
 all_goals simp only[Nat.reducePow,Nat.reduceMul] at h1
 all_goals go_enter Tryz.func180,Tryz.ntmps180
 all_goals go_wp2_with fail
 all_goals go_ret3
 all_goals exact HE.out
set_option maxHeartbeats 2000000 in
theorem jfg (f n:Nat) (hf:f<=3) (h1:1<=n) (hb:f<=(n-1) / 2^f) (h64:(n-1) / 2^f<64) (w:World):Calls Tryz.prog 180 #[.int .i64 f,.int .i64 n] w (BdR f n w):=by
 have HOk:=jpJ f n hf h1 hb h64
 have hle:n<=512:=by
  have h2:n-1<64*2^f:=(Nat.div_lt_iff_lt_mul (Nat.two_pow_pos _)).1 h64;have h3:2^f<=2^3:=Nat.pow_le_pow_right (by omega) hf;omega
 have HE:Hid (∀ (lo hi:Int) w',lo=jgH f n->Below w.heap.size w w'->BdR f n w (.returned (.tuple #[.int .u64 lo,.int .u64 hi,.bool true])) w'):=fun lo hi w' hlo hB=>by
  refine BdR.of HOk (fun _ h=>?_) hB;have hf1:1<=f:=by omega
  rw[hlo,Int.toNat_natCast];exact jla f (by simp;omega) n (List.mem_range.2 (by omega)) h1 HOk
 have hlow:jgH f n=((n-1) % 2^f+2^f)*2^((n-1) / 2^f-f):=by unfold jgH;rw[if_neg (by omega)]
 have hsm:((n-1) % 2^f+2^f)*2^((n-1) / 2^f-f)<2^64:=by
  have g1:=Nat.mod_lt (n-1) (Nat.two_pow_pos f);have g2:(n-1) % 2^f+2^f<2^(f+1):=by rw[Nat.pow_succ];omega
  have g3:((n-1) % 2^f+2^f)*2^((n-1) / 2^f-f)<2^(f+1)*2^((n-1) / 2^f-f):=Nat.mul_lt_mul_of_pos_right g2 (Nat.two_pow_pos _);rw[<- Nat.pow_add] at g3;exact Nat.lt_of_lt_of_le g3 (Nat.pow_le_pow_right (by omega) (by omega))
 generalize hQ:BdR f n w=Q at HE ⊢;clear hQ HOk;rw[hlow] at HE;clear hlow;obtain⟨m,rfl⟩:∃ m,n=m+1:=⟨n-1,by omega⟩;simp only[Nat.add_sub_cancel] at *;rcases (by omega:f=0\/f=1\/f=2\/f=3) with rfl | rfl | rfl | rfl
 ·simp only[Nat.pow_zero,Nat.div_one,Nat.mod_one,Nat.sub_zero,Nat.zero_add,Nat.one_mul] at *
  have e4:IntKind.u64.wrap (2^m)=((2^m:Nat):Int):=by
   have e:(2:Int)^m=((2^m:Nat):Int):=by simp
   rw[e];generalize 2^m=q at hsm;exact IntWalk.u64_in _ (by omega)
  have HE4:=Lib.hid e4;clear e4;go_enter Tryz.func180,Tryz.ntmps180;go_wp2_with fail;go_quiet (fail);go_wp2_with fail;go_quiet (fail);go_wp2_with fail;go_ret3;exact HE.out _ _ _ HE4.out (bDr (bDr (Below.refl _ _) _) _)
 ·simp only[Nat.reducePow] at *
  obtain⟨c,hc⟩:∃ c,m / 2=c+1:=⟨m / 2-1,by omega⟩;obtain⟨p,hp⟩:∃ p,m % 2=p:=⟨_,rfl⟩;rw[hc,hp,Nat.add_sub_cancel] at HE hsm
  have e4:IntKind.u64.wrap (((m:Int) % 2+2)*2^(m / 2-1))=(((p+2)*2^c:Nat):Int):=by
   rw[show m / 2-1=c by omega,show (m:Int) % 2=(p:Int) by omega];have e:((p:Int)+2)*2^c=(((p+2)*2^c:Nat):Int):=by simp
   rw[e];exact IntWalk.u64_in _ (by omega)
  have HE4:=Lib.hid e4;clear e4;go_enter Tryz.func180,Tryz.ntmps180;go_wp2_with fail;go_quiet (fail);go_wp2_with fail;go_quiet (fail);go_wp2_with fail;go_ret3;exact HE.out _ _ _ HE4.out (bDr (bDr (Below.refl _ _) _) _)
 ·simp only[Nat.reducePow] at *
  obtain⟨c,hc⟩:∃ c,m / 4=c+2:=⟨m / 4-2,by omega⟩;obtain⟨p,hp⟩:∃ p,m % 4=p:=⟨_,rfl⟩;rw[hc,hp,Nat.add_sub_cancel] at HE hsm
  have e4:IntKind.u64.wrap (((m:Int) % 4+4)*2^(m / 4-2))=(((p+4)*2^c:Nat):Int):=by
   rw[show m / 4-2=c by omega,show (m:Int) % 4=(p:Int) by omega];have e:((p:Int)+4)*2^c=(((p+4)*2^c:Nat):Int):=by simp
   rw[e];exact IntWalk.u64_in _ (by omega)
  have HE4:=Lib.hid e4;clear e4;go_enter Tryz.func180,Tryz.ntmps180;go_wp2_with fail;go_quiet (fail);go_wp2_with fail;go_quiet (fail);go_wp2_with fail;go_ret3;exact HE.out _ _ _ HE4.out (bDr (bDr (Below.refl _ _) _) _)
 ·simp only[Nat.reducePow] at *
  obtain⟨c,hc⟩:∃ c,m / 8=c+3:=⟨m / 8-3,by omega⟩;obtain⟨p,hp⟩:∃ p,m % 8=p:=⟨_,rfl⟩;rw[hc,hp,Nat.add_sub_cancel] at HE hsm
  have e4:IntKind.u64.wrap (((m:Int) % 8+8)*2^(m / 8-3))=(((p+8)*2^c:Nat):Int):=by
   rw[show m / 8-3=c by omega,show (m:Int) % 8=(p:Int) by omega];have e:((p:Int)+8)*2^c=(((p+8)*2^c:Nat):Int):=by simp
   rw[e];exact IntWalk.u64_in _ (by omega)
  have HE4:=Lib.hid e4;clear e4;go_enter Tryz.func180,Tryz.ntmps180;go_wp2_with fail;go_quiet (fail);go_wp2_with fail;go_quiet (fail);go_wp2_with fail;go_ret3;exact HE.out _ _ _ HE4.out (bDr (bDr (Below.refl _ _) _) _)
set_option maxHeartbeats 2000000 in
theorem jfH (f n:Nat) (hf:f<=3) (h1:1<=n) (hb:(n-1) / 2^f<f) (w:World):Calls Tryz.prog 180 #[.int .i64 f,.int .i64 n] w (BdR f n w):=by
 have hf1:1<=f:=Nat.lt_of_le_of_lt (Nat.zero_le _) hb
 have hle:n<25:=by
  have h2:n-1<f*2^f:=(Nat.div_lt_iff_lt_mul (Nat.two_pow_pos _)).1 hb;have h3:f*2^f<=3*2^3:=Nat.mul_le_mul hf (Nat.pow_le_pow_right (by omega) hf);omega
 have HOk:Hid (jap f n=(jgT f (jgH f n)==(n:Int))):=jpK f (by simp;omega) n (List.mem_range.2 hle) h1 hb
 have HT:Hid (∀ (lo hi:Int) w',lo=jgH f n->(jgT f (jgH f n)==(n:Int))=true->Below w.heap.size w w'->BdR f n w (.returned (.tuple #[.int .u64 lo,.int .u64 hi,.bool true])) w'):=fun lo hi w' hlo hq hB=>by
  have hok:=HOk.out.trans hq;refine BdR.of hok (fun _ h=>?_) hB;rw[hlo,Int.toNat_natCast];exact jla f (by simp;omega) n (List.mem_range.2 (by omega)) h1 hok
 have HF:Hid (∀ (lo hi:Int) w',(jgT f (jgH f n)==(n:Int))=false->Below w.heap.size w w'->BdR f n w (.returned (.tuple #[.int .u64 lo,.int .u64 hi,.bool false])) w'):=fun lo hi w' hq hB=>BdR.of (HOk.out.trans hq) (fun h=>by cases h) hB
 have hlow:jgH f n=((n-1) % 2^f+2^f) / 2^(f-(n-1) / 2^f):=by unfold jgH;rw[if_pos hb]
 generalize hQ:BdR f n w=Q at HT HF ⊢;clear hQ HOk;rw[hlow] at HT HF;clear hlow;obtain⟨m,rfl⟩:∃ m,n=m+1:=⟨n-1,by omega⟩;simp only[Nat.add_sub_cancel] at *
 have hcases:(f=1/\m / 2^f=0)\/(f=2/\m / 2^f=0)\/(f=2/\m / 2^f=1)\/(f=3/\m / 2^f=0)\/(f=3/\m / 2^f=1)\/(f=3/\m / 2^f=2):=by
  rcases (by omega:f=1\/f=2\/f=3) with rfl | rfl | rfl
  ·exact .inl ⟨rfl,by omega⟩
  ·rcases (by omega:m / 2^2=0\/m / 2^2=1) with h | h
   ·exact .inr (.inl ⟨rfl,h⟩)
   ·exact .inr (.inr (.inl ⟨rfl,h⟩))
  ·rcases (by omega:m / 2^3=0\/m / 2^3=1\/m / 2^3=2) with h | h | h
   ·exact .inr (.inr (.inr (.inl ⟨rfl,h⟩)))
   ·exact .inr (.inr (.inr (.inr (.inl ⟨rfl,h⟩))))
   ·exact .inr (.inr (.inr (.inr (.inr ⟨rfl,h⟩))))
 rcases hcases with⟨rfl,hc⟩ | ⟨rfl,hc⟩ | ⟨rfl,hc⟩ | ⟨rfl,hc⟩ | ⟨rfl,hc⟩ | ⟨rfl,hc⟩
 ·simp only[Nat.reducePow] at hc hb HT HF
  rw[hc] at HT HF;simp only[Nat.reduceSub,Nat.reducePow] at HT HF;obtain⟨p,hp⟩:∃ p,m % 2=p:=⟨_,rfl⟩;have hp4:p<2:=by omega
  rw[hp] at HT HF;have e0:(m:Int) / 2=0:=by omega
  have e1:(m:Int) % 2=(p:Int):=by omega
  obtain⟨lo,hlo⟩:∃ lo,(p+2) / 2=lo:=⟨_,rfl⟩;have e2:((p:Int)+2) / 2=(lo:Int):=by omega
  have hl16:lo<2^64:=by omega
  have HBk:=Lib.hid (fun W=>ja0 1 lo (by omega) hl16 W);rw[hlo] at HT HF;have hbk:=IntWalk.i64_in;clear hlo hp;generalize hk:jgT (1:Nat) lo=k at HBk HT HF
  cases hq:(k==((m:Int)+1)) with
  | true =>
   have t0:(k != ((m:Int)+1))=false:=by rw[bne,hq];rfl
   have HT2:=Lib.hid (fun lo hi w' h hB=>HT.out lo hi w' h (by rw[<- hq];simp) hB);clear HF HT hq;go_enter Tryz.func180,Tryz.ntmps180;go_wp2_with fail;go_quiet (fail);go_wp2_with (go_at_call 184;refine (HBk.out _).mono ?_;rintro e w1 ⟨rfl,rfl⟩);go_ret3;exact HT2.out _ _ _ rfl (bDr (Below.refl _ _) _)
  | false =>
   have t0:(k != ((m:Int)+1))=true:=by rw[bne,hq];rfl
   have HF2:=Lib.hid (fun lo hi w' hB=>HF.out lo hi w' (by rw[<- hq];simp) hB);clear HF HT hq;go_enter Tryz.func180,Tryz.ntmps180;go_wp2_with fail;go_quiet (fail);go_wp2_with (go_at_call 184;refine (HBk.out _).mono ?_;rintro e w1 ⟨rfl,rfl⟩);go_ret3;exact HF2.out _ _ _ (bDr (Below.refl _ _) _)
 ·simp only[Nat.reducePow] at hc hb HT HF
  rw[hc] at HT HF;simp only[Nat.reduceSub,Nat.reducePow] at HT HF;obtain⟨p,hp⟩:∃ p,m % 4=p:=⟨_,rfl⟩;have hp4:p<4:=by omega
  rw[hp] at HT HF;have e0:(m:Int) / 4=0:=by omega
  have e1:(m:Int) % 4=(p:Int):=by omega
  obtain⟨lo,hlo⟩:∃ lo,(p+4) / 4=lo:=⟨_,rfl⟩;have e2:((p:Int)+4) / 4=(lo:Int):=by omega
  have hl16:lo<2^64:=by omega
  have HBk:=Lib.hid (fun W=>ja0 2 lo (by omega) hl16 W);rw[hlo] at HT HF;have hbk:=IntWalk.i64_in;clear hlo hp;generalize hk:jgT (2:Nat) lo=k at HBk HT HF
  cases hq:(k==((m:Int)+1)) with
  | true =>
   have t0:(k != ((m:Int)+1))=false:=by rw[bne,hq];rfl
   have HT2:=Lib.hid (fun lo hi w' h hB=>HT.out lo hi w' h (by rw[<- hq];simp) hB);clear HF HT hq;go_enter Tryz.func180,Tryz.ntmps180;go_wp2_with fail;go_quiet (fail);go_wp2_with (go_at_call 184;refine (HBk.out _).mono ?_;rintro e w1 ⟨rfl,rfl⟩);go_ret3;exact HT2.out _ _ _ rfl (bDr (Below.refl _ _) _)
  | false =>
   have t0:(k != ((m:Int)+1))=true:=by rw[bne,hq];rfl
   have HF2:=Lib.hid (fun lo hi w' hB=>HF.out lo hi w' (by rw[<- hq];simp) hB);clear HF HT hq;go_enter Tryz.func180,Tryz.ntmps180;go_wp2_with fail;go_quiet (fail);go_wp2_with (go_at_call 184;refine (HBk.out _).mono ?_;rintro e w1 ⟨rfl,rfl⟩);go_ret3;exact HF2.out _ _ _ (bDr (Below.refl _ _) _)
 ·simp only[Nat.reducePow] at hc hb HT HF
  rw[hc] at HT HF;simp only[Nat.reduceSub,Nat.reducePow] at HT HF;obtain⟨p,hp⟩:∃ p,m % 4=p:=⟨_,rfl⟩;have hp4:p<4:=by omega
  rw[hp] at HT HF;have e0:(m:Int) / 4=1:=by omega
  have e1:(m:Int) % 4=(p:Int):=by omega
  obtain⟨lo,hlo⟩:∃ lo,(p+4) / 2=lo:=⟨_,rfl⟩;have e2:((p:Int)+4) / 2=(lo:Int):=by omega
  have hl16:lo<2^64:=by omega
  have HBk:=Lib.hid (fun W=>ja0 2 lo (by omega) hl16 W);rw[hlo] at HT HF;have hbk:=IntWalk.i64_in;clear hlo hp;generalize hk:jgT (2:Nat) lo=k at HBk HT HF
  cases hq:(k==((m:Int)+1)) with
  | true =>
   have t0:(k != ((m:Int)+1))=false:=by rw[bne,hq];rfl
   have HT2:=Lib.hid (fun lo hi w' h hB=>HT.out lo hi w' h (by rw[<- hq];simp) hB);clear HF HT hq;go_enter Tryz.func180,Tryz.ntmps180;go_wp2_with fail;go_quiet (fail);go_wp2_with (go_at_call 184;refine (HBk.out _).mono ?_;rintro e w1 ⟨rfl,rfl⟩);go_ret3;exact HT2.out _ _ _ rfl (bDr (Below.refl _ _) _)
  | false =>
   have t0:(k != ((m:Int)+1))=true:=by rw[bne,hq];rfl
   have HF2:=Lib.hid (fun lo hi w' hB=>HF.out lo hi w' (by rw[<- hq];simp) hB);clear HF HT hq;go_enter Tryz.func180,Tryz.ntmps180;go_wp2_with fail;go_quiet (fail);go_wp2_with (go_at_call 184;refine (HBk.out _).mono ?_;rintro e w1 ⟨rfl,rfl⟩);go_ret3;exact HF2.out _ _ _ (bDr (Below.refl _ _) _)
 ·simp only[Nat.reducePow] at hc hb HT HF
  rw[hc] at HT HF;simp only[Nat.reduceSub,Nat.reducePow] at HT HF;obtain⟨p,hp⟩:∃ p,m % 8=p:=⟨_,rfl⟩;have hp4:p<8:=by omega
  rw[hp] at HT HF;have e0:(m:Int) / 8=0:=by omega
  have e1:(m:Int) % 8=(p:Int):=by omega
  obtain⟨lo,hlo⟩:∃ lo,(p+8) / 8=lo:=⟨_,rfl⟩;have e2:((p:Int)+8) / 8=(lo:Int):=by omega
  have hl16:lo<2^64:=by omega
  have HBk:=Lib.hid (fun W=>ja0 3 lo (by omega) hl16 W);rw[hlo] at HT HF;have hbk:=IntWalk.i64_in;clear hlo hp;generalize hk:jgT (3:Nat) lo=k at HBk HT HF
  cases hq:(k==((m:Int)+1)) with
  | true =>
   have t0:(k != ((m:Int)+1))=false:=by rw[bne,hq];rfl
   have HT2:=Lib.hid (fun lo hi w' h hB=>HT.out lo hi w' h (by rw[<- hq];simp) hB);clear HF HT hq;go_enter Tryz.func180,Tryz.ntmps180;go_wp2_with fail;go_quiet (fail);go_wp2_with (go_at_call 184;refine (HBk.out _).mono ?_;rintro e w1 ⟨rfl,rfl⟩);go_ret3;exact HT2.out _ _ _ rfl (bDr (Below.refl _ _) _)
  | false =>
   have t0:(k != ((m:Int)+1))=true:=by rw[bne,hq];rfl
   have HF2:=Lib.hid (fun lo hi w' hB=>HF.out lo hi w' (by rw[<- hq];simp) hB);clear HF HT hq;go_enter Tryz.func180,Tryz.ntmps180;go_wp2_with fail;go_quiet (fail);go_wp2_with (go_at_call 184;refine (HBk.out _).mono ?_;rintro e w1 ⟨rfl,rfl⟩);go_ret3;exact HF2.out _ _ _ (bDr (Below.refl _ _) _)
 ·simp only[Nat.reducePow] at hc hb HT HF
  rw[hc] at HT HF;simp only[Nat.reduceSub,Nat.reducePow] at HT HF;obtain⟨p,hp⟩:∃ p,m % 8=p:=⟨_,rfl⟩;have hp4:p<8:=by omega
  rw[hp] at HT HF;have e0:(m:Int) / 8=1:=by omega
  have e1:(m:Int) % 8=(p:Int):=by omega
  obtain⟨lo,hlo⟩:∃ lo,(p+8) / 4=lo:=⟨_,rfl⟩;have e2:((p:Int)+8) / 4=(lo:Int):=by omega
  have hl16:lo<2^64:=by omega
  have HBk:=Lib.hid (fun W=>ja0 3 lo (by omega) hl16 W);rw[hlo] at HT HF;have hbk:=IntWalk.i64_in;clear hlo hp;generalize hk:jgT (3:Nat) lo=k at HBk HT HF
  cases hq:(k==((m:Int)+1)) with
  | true =>
   have t0:(k != ((m:Int)+1))=false:=by rw[bne,hq];rfl
   have HT2:=Lib.hid (fun lo hi w' h hB=>HT.out lo hi w' h (by rw[<- hq];simp) hB);clear HF HT hq;go_enter Tryz.func180,Tryz.ntmps180;go_wp2_with fail;go_quiet (fail);go_wp2_with (go_at_call 184;refine (HBk.out _).mono ?_;rintro e w1 ⟨rfl,rfl⟩);go_ret3;exact HT2.out _ _ _ rfl (bDr (Below.refl _ _) _)
  | false =>
   have t0:(k != ((m:Int)+1))=true:=by rw[bne,hq];rfl
   have HF2:=Lib.hid (fun lo hi w' hB=>HF.out lo hi w' (by rw[<- hq];simp) hB);clear HF HT hq;go_enter Tryz.func180,Tryz.ntmps180;go_wp2_with fail;go_quiet (fail);go_wp2_with (go_at_call 184;refine (HBk.out _).mono ?_;rintro e w1 ⟨rfl,rfl⟩);go_ret3;exact HF2.out _ _ _ (bDr (Below.refl _ _) _)
 ·simp only[Nat.reducePow] at hc hb HT HF
  rw[hc] at HT HF;simp only[Nat.reduceSub,Nat.reducePow] at HT HF;obtain⟨p,hp⟩:∃ p,m % 8=p:=⟨_,rfl⟩;have hp4:p<8:=by omega
  rw[hp] at HT HF;have e0:(m:Int) / 8=2:=by omega
  have e1:(m:Int) % 8=(p:Int):=by omega
  obtain⟨lo,hlo⟩:∃ lo,(p+8) / 2=lo:=⟨_,rfl⟩;have e2:((p:Int)+8) / 2=(lo:Int):=by omega
  have hl16:lo<2^64:=by omega
  have HBk:=Lib.hid (fun W=>ja0 3 lo (by omega) hl16 W);rw[hlo] at HT HF;have hbk:=IntWalk.i64_in;clear hlo hp;generalize hk:jgT (3:Nat) lo=k at HBk HT HF
  cases hq:(k==((m:Int)+1)) with
  | true =>
   have t0:(k != ((m:Int)+1))=false:=by rw[bne,hq];rfl
   have HT2:=Lib.hid (fun lo hi w' h hB=>HT.out lo hi w' h (by rw[<- hq];simp) hB);clear HF HT hq;go_enter Tryz.func180,Tryz.ntmps180;go_wp2_with fail;go_quiet (fail);go_wp2_with (go_at_call 184;refine (HBk.out _).mono ?_;rintro e w1 ⟨rfl,rfl⟩);go_ret3;exact HT2.out _ _ _ rfl (bDr (Below.refl _ _) _)
  | false =>
   have t0:(k != ((m:Int)+1))=true:=by rw[bne,hq];rfl
   have HF2:=Lib.hid (fun lo hi w' hB=>HF.out lo hi w' (by rw[<- hq];simp) hB);clear HF HT hq;go_enter Tryz.func180,Tryz.ntmps180;go_wp2_with fail;go_quiet (fail);go_wp2_with (go_at_call 184;refine (HBk.out _).mono ?_;rintro e w1 ⟨rfl,rfl⟩);go_ret3;exact HF2.out _ _ _ (bDr (Below.refl _ _) _)
theorem jdD (f n:Int) (hN:I64 n) (w:World):Calls Tryz.prog 180 #[.int .i64 f,.int .i64 n] w (BdR f n w):=by
 by_cases h:f<0\/3<f\/n<0
 ·exact jgv f n h w
 obtain⟨f,rfl⟩:∃ m:Nat,f=m:=⟨f.toNat,by omega⟩;obtain⟨n,rfl⟩:∃ m:Nat,n=m:=⟨n.toNat,by omega⟩;have hf:f<=3:=by omega
 have hn:=hN.2;rcases Nat.eq_zero_or_pos n with rfl | h1
 ·exact jg7 f hf w
 by_cases h64:64<=(n-1) / 2^f
 ·refine jfG f n hf ?_ (by omega) w
  have:=(Nat.le_div_iff_mul_le (Nat.two_pow_pos f)).1 h64;omega
 by_cases hb:f<=(n-1) / 2^f
 ·exact jfg f n hf h1 hb (by omega) w
 ·exact jfH f n hf h1 (by omega) w
def jdj (l:List (Int × Int)) (k:Nat):Int:=if k=0 then -1 else (l[k-1]?.map (·.1)).getD (-1)
theorem jgp {l:List (Int × Int)} {k:Nat} {x:Int × Int} (h:l[k]? = some x):jdj l (k+1)=x.1:=by simp[jdj,h]
theorem jm7 {f:Int} {l:List (Int × Int)} {k:Nat} {x:Int × Int} (h:l[k]? = some x):(jbM (jbg f) (jdj l k) (l.drop k)).isSome=(!(x.2==0 || !jap f x.1||decide (x.1<=jdj l k))&&(jbM (jbg f) (jdj l (k+1)) (l.drop (k+1))).isSome):=by
 rw[jaJ h,jcF,jgp h];unfold jbg
 cases hc:(x.2==0 || !jap f x.1||decide (x.1<=jdj l k)) with
 | true=>rfl
 | false=>rfl
set_option maxRecDepth 100000 in
set_option maxHeartbeats 2000000 in
theorem jdZ (f:Int) (a:Option Addr) (len cap:Nat) (l:List (Int × Int)) (w:World) (hL:SlE jb5 2 w.heap.size w a len l) (hm:len<=maxLen) (hU:joi l) :
  Calls Tryz.prog 143 #[.agg #[.int .i64 f,.slice a len cap]] w fun e w'=>e=.returned (.bool (jaX f l))/\Below w.heap.size w w':=by
 have hlen:=hL.1;unfold maxLen at hm;obtain⟨W0,hW0,hX0,hB0,hs0⟩:=jah w #[.int .i64 f,.slice a len cap] 48;have HL:=Lib.hid (hL.go hB0);have HU:=Lib.hid hU;have HN:=Lib.hid hlen;have HB0:=Lib.hid hB0;have HE:Hid (jaX f l=(jaq f&&(jbM (jbg f) (jdj l 0) (l.drop 0)).isSome)):=rfl;have HFi:Hid (jaq f=(decide (0<=f)&&decide (f<=3))):=rfl;have hz0:w.heap.size<W0.heap.size:=by omega
 clear hL hB0 hlen hU;generalize jaX f l=bR at HE ⊢;obtain⟨c0,c1⟩:=cl2 hX0;clear hX0;go_enter Tryz.func143,Tryz.ntmps143;go_wp2_with fail;go_loopw [3] (fun i wr=>∃ (k:Nat),i=.int .i64 k/\k<=len/\Below W0.heap.size W0 wr/\Hid (bR=(jaq f&&(jbM (jbg f) (jdj l k) (l.drop k)).isSome))) (fun i _=>len-(intOf i).toNat)
 case atStart=>exact⟨0,rfl,Nat.zero_le _,Below.refl _ _,HE.out⟩
 case round =>
  obtain⟨k,rfl,hk,hB,HS⟩:=hrel;have hsz:=hB.size;have r0:wr.cell? ⟨w.heap.size,0,none⟩=some (.int .i64 f):=(hB.cell (p:=⟨w.heap.size,0,none⟩) hz0).trans c0;have r1:wr.cell? ⟨w.heap.size,1,none⟩=some (.slice a len cap):=(hB.cell (p:=⟨w.heap.size,1,none⟩) hz0).trans c1;by_cases hlt:k<len
  ·obtain⟨x,b,off,hx,rfl,hbb,hc⟩:=HL.out.at (j:=k) hlt
   have hkp:∀ W,Below wr.heap.size wr W->W.cell? ⟨w.heap.size,0,none⟩=some (.int .i64 f)/\W.cell? ⟨w.heap.size,1,none⟩=some (.slice (some ⟨b,off,none⟩) len cap)/\W.cell? ⟨b,off+k*2,none⟩=some (.int .i64 x.1)/\Below wr.heap.size wr W:=fun W h =>
    ⟨(h.cell (p:=⟨w.heap.size,0,none⟩) (Nat.lt_of_lt_of_le hz0 hsz)).trans r0,(h.cell (p:=⟨w.heap.size,1,none⟩) (Nat.lt_of_lt_of_le hz0 hsz)).trans r1,(h.cell (p:=⟨b,off+k*2,none⟩) (Nat.lt_of_lt_of_le hbb hsz)).trans ((hB.cell (p:=⟨b,off+k*2,none⟩) hbb).trans (hc 0 (by omega))),h⟩
   have HKP:=Lib.hid hkp;obtain⟨q0,q1,q2,qB⟩:=hkp wr (Below.refl _ _);obtain⟨⟨u1,u2⟩,v1,v2⟩:=HU.out x (List.mem_of_getElem? hx);have HBd:Hid (∀ W,Calls Tryz.prog 180 #[.int .i64 f,.int .i64 x.1] W (BdR f x.1 W)):=fun W=>jdD f x.1 ⟨u1,u2⟩ W
   have i1:(k:Int)<(len:Int):=by omega
   have HX:=Lib.hid hx;have HC:Hid (W0.cell? ⟨b,off+k*2+1,none⟩=some (.int .u64 x.2)):=hc 1 (by omega);clear hkp hc hx r0 r1;go_wp2_with fail
   go_region_held3 (fun w'=>w'.cell? ⟨w.heap.size,0,none⟩=some (.int .i64 f)/\w'.cell? ⟨w.heap.size,1,none⟩=some (.slice (some ⟨b,off,none⟩) len cap)/\w'.cell? ⟨b,off+k*2,none⟩=some (.int .i64 x.1)/\Below wr.heap.size wr w')
    (first
     | with_reducible exact HKP.out _ qB.drew
     | (go_split_ands;with_reducible refine HKP.out _ ?_;with_reducible first | exact Below.trans (by assumption) (Below.mono (by assumption) (Below.size (by assumption))) | assumption)
     | go_keep)
    (first | (go_at_call 180;refine (HBd.out _).mono ?_;rintro e w6 ⟨lo,hi,rfl,-,hb6⟩))
   rename_i hHeld
   obtain⟨q0,q1,q2,qB⟩:=hHeld;have hBd:Below W0.heap.size W0 w6:=hB.trans (qB.mono hsz);have q3:w6.cell? ⟨b,off+k*2+1,none⟩=some (.int .u64 x.2):=(hBd.cell (p:=⟨b,off+k*2+1,none⟩) hbb).trans HC.out;have HNo:Hid ((x.2==0 || !jap f x.1||decide (x.1<=jdj l k))=true->bR=false):=fun h=>by rw[HS.out,jm7 HX.out,h];simp
   have HYes:Hid ((x.2==0 || !jap f x.1||decide (x.1<=jdj l k))=false->bR=(jaq f&&(jbM (jbg f) (jdj l (k+1)) (l.drop (k+1))).isSome)):=fun h=>by rw[HS.out,jm7 HX.out,h];rfl
   clear HS HBd HC hb6 HKP
   have HP0:Hid (jap f x.1=true->0<=x.1):=fun h=>by
    unfold jap at h;split at h
    ·rename_i h2
     simp only[Bool.and_eq_true,decide_eq_true_eq] at h2;exact h2.2
    ·cases h
   generalize jap f x.1=bo at *
   cases bo with
   | false =>
    have H9:Hid (bR=false):=HNo.out (by simp);clear HNo HYes;go_wp2_with fail;go_quiet (fail);go_wp2_with fail;go_ret;exact⟨by rw[H9.out];rfl,HB0.out.trans ((bDr hBd _).mono HB0.out.size)⟩
   | true =>
    by_cases hz:x.2=0
    ·have H9:Hid (bR=false):=HNo.out (by simp[hz])
     have t0:(x.2==0)=true:=by rw[hz];rfl
     clear HNo HYes;go_wp2_with fail;go_quiet (fail);go_wp2_with fail;go_ret;exact⟨by rw[H9.out];rfl,HB0.out.trans ((bDr hBd _).mono HB0.out.size)⟩
    have t0:(x.2==0)=false:=beq_eq_false_iff_ne.2 hz;by_cases hk0:k=0
    ·subst hk0
     have H9:=Lib.hid (HYes.out (by rw[t0];simp[jdj];have:=HP0.out rfl;omega));simp only[Nat.zero_mul,Nat.add_zero,Int.natCast_zero] at q2 q3 i1 ⊢;have i2:(0:Int)<=0:=by omega
     clear HNo HYes;go_wp2_with fail;go_quiet (fail);go_wp2_with fail;go_roundw
     case rel=>exact⟨1,by go_num,by omega,bDr hBd _,H9.out⟩
     case measure=>simp[intOf];omega
    ·obtain⟨j,rfl⟩:∃ j,k=j+1:=⟨k-1,by omega⟩
     obtain⟨y,b',off',hy,e1,hbb',hc'⟩:=HL.out.at (j:=j) (by omega);injection e1 with e1
     injection e1 with e1 e2
     subst e1;subst e2;have q4:w6.cell? ⟨b,off+j*2,none⟩=some (.int .i64 y.1):=(hBd.cell (p:=⟨b,off+j*2,none⟩) hbb).trans (hc' 0 (by omega));have hpv:jdj l (j+1)=y.1:=jgp hy;rw[hpv] at HNo HYes;obtain⟨⟨y1,y2⟩,-,-⟩:=HU.out y (List.mem_of_getElem? hy);have i2:(0:Int)<(j:Int)+1:=by omega
     have i3:(j:Int)+1<(len:Int):=by omega
     have i4:(j:Int)<(len:Int):=by omega
     clear hc' hy hpv;by_cases hxy:x.1<=y.1
     ·have t1:decide (x.1<=y.1)=true:=decide_eq_true hxy
      have H9:Hid (bR=false):=HNo.out (by rw[t1];simp);clear HNo HYes;go_wp2_with fail;go_quiet (fail);go_wp2_with fail;go_ret;exact⟨by rw[H9.out];rfl,HB0.out.trans ((bDr hBd _).mono HB0.out.size)⟩
     ·have t1:decide (x.1<=y.1)=false:=decide_eq_false hxy
      have H9:=Lib.hid (HYes.out (by rw[t1,t0];rfl));clear HNo HYes;go_wp2_with fail;go_quiet (fail);go_wp2_with fail;go_roundw
      case rel=>exact⟨j+1+1,by go_num,by omega,bDr hBd _,H9.out⟩
      case measure=>simp[intOf];omega
  ·obtain rfl:k=len:=by omega
   have H9:Hid (bR=jaq f):=by rw[Hid,HS.out,List.drop_of_length_le (by rw[HN.out];exact Nat.le_refl _)];simp[jeL]
   by_cases h1:0<=f
   ·by_cases h2:f<=3
    ·have H8:Hid (bR=true):=by rw[Hid,H9.out,HFi.out,decide_eq_true h1,decide_eq_true h2];rfl
     go_wp2_with fail;go_ret;exact⟨by rw[H8.out];rfl,HB0.out.trans (hB.mono HB0.out.size)⟩
    ·have H8:Hid (bR=false):=by rw[Hid,H9.out,HFi.out,decide_eq_false h2,Bool.and_false]
     go_wp2_with fail;go_ret;exact⟨by rw[H8.out];rfl,HB0.out.trans (hB.mono HB0.out.size)⟩
   ·have H8:Hid (bR=false):=by rw[Hid,H9.out,HFi.out,decide_eq_false h1,Bool.false_and]
    go_wp2_with fail;go_ret;exact⟨by rw[H8.out];rfl,HB0.out.trans (hB.mono HB0.out.size)⟩
set_option maxRecDepth 100000 in
set_option maxHeartbeats 2000000 in
theorem jg8 (f1:Int) (a1:Option Addr) (len1 cap1:Nat) (l1:List (Int × Int)) (f2:Int) (a2:Option Addr) (len2 cap2:Nat) (l2:List (Int × Int)) (w:World) (h1:SlE jb5 2 w.heap.size w a1 len1 l1) (h2:SlE jb5 2 w.heap.size w a2 len2 l2) (hm:len1<=maxLen) :
  Calls Tryz.prog 63 #[.agg #[.int .i64 f1,.slice a1 len1 cap1],.agg #[.int .i64 f2,.slice a2 len2 cap2]] w fun e w'=>e=.returned (.bool (f1==f2&&l1==l2))/\Below w.heap.size w w':=by
 have e1:=h1.1;have e2:=h2.1;unfold maxLen at hm;obtain⟨W0,hW0,hX0,hX1,hB0,hs0⟩:=jaS w #[.int .i64 f1,.slice a1 len1 cap1] 48 #[.int .i64 f2,.slice a2 len2 cap2] 48;have H1:=Lib.hid (h1.go hB0);have H2:=Lib.hid (h2.go hB0);have HB0:=Lib.hid hB0;have hz0:w.heap.size<W0.heap.size:=by omega
 have hz1:w.heap.size+1<W0.heap.size:=by omega
 obtain⟨d0,d1⟩:=cl2 hX0;obtain⟨g0,g1⟩:=cl2 hX1;clear hX0 hX1 hB0 h1 h2
 cases hr:(f1==f2) with
 | false =>
  have t0:(f1 != f2)=true:=by rw[bne,hr];rfl
  clear hr e1 e2;go_enter Tryz.func63,Tryz.ntmps63;go_wp2_with fail;go_ret;exact⟨rfl,HB0.out⟩
 | true =>
  have t0:(f1 != f2)=false:=by rw[bne,hr];rfl
  rw[Bool.true_and];clear hr;by_cases hl:len1=len2
  ·subst hl
   have t1:((len1:Int) != (len1:Int))=false:=by simp
   have E1:=Lib.hid e1;have E2:=Lib.hid e2;clear e1 e2;go_enter Tryz.func63,Tryz.ntmps63;go_wp2_with fail;go_loopw [5] (fun i wr=>∃ (k:Nat),i=.int .i64 k/\k<=len1/\Below W0.heap.size W0 wr/\Hid (l1.take k=l2.take k)) (fun i _=>len1-(intOf i).toNat)
   case atStart=>exact⟨0,rfl,Nat.zero_le _,Below.refl _ _,rfl⟩
   case round =>
    obtain⟨k,rfl,hk,hB,HF⟩:=hrel;have r0:wr.cell? ⟨w.heap.size,1,none⟩=some (.slice a1 len1 cap1):=(hB.cell (p:=⟨w.heap.size,1,none⟩) hz0).trans d1;have r1:wr.cell? ⟨w.heap.size+1,1,none⟩=some (.slice a2 len1 cap2):=(hB.cell (p:=⟨w.heap.size+1,1,none⟩) hz1).trans g1;by_cases hlt:k<len1
    ·obtain⟨x,b1,o1,hx,ea1,hb1,hc1⟩:=(H1.out.below hB).at hlt
     obtain⟨y,b2,o2,hy,ea2,hb2,hc2⟩:=(H2.out.below hB).at hlt;subst ea1;subst ea2;have p0:wr.cell? ⟨b1,o1+k*2,none⟩=some (.int .i64 x.1):=hc1 0 (by omega);have p1:wr.cell? ⟨b1,o1+k*2+1,none⟩=some (.int .u64 x.2):=hc1 1 (by omega);have q0:wr.cell? ⟨b2,o2+k*2,none⟩=some (.int .i64 y.1):=hc2 0 (by omega);have q1:wr.cell? ⟨b2,o2+k*2+1,none⟩=some (.int .u64 y.2):=hc2 1 (by omega);have i0:(0:Int)<=(k:Int):=by omega
     have i1:(k:Int)<(len1:Int):=by omega
     have HX:=Lib.hid hx;have HY:=Lib.hid hy;obtain⟨x1,x2⟩:=x;obtain⟨y1,y2⟩:=y;dsimp only at p0 p1 q0 q1;clear hc1 hc2 hx hy
     have hne:¬ (x1=y1/\x2=y2)->(l1==l2)=false:=fun h=>by
      rw[beq_eq_false_iff_ne];intro e;have hx:=HX.out;rw[e,HY.out] at hx;have h3:=Option.some.inj hx;injection h3 with h4 h5
      exact h ⟨h4.symm,h5.symm⟩
     have HNe:=Lib.hid hne;clear hne;by_cases hx1:x1=y1
     ·by_cases hx2:x2=y2
      ·subst hx1;subst hx2
       clear HNe;go_wp2_with fail;go_quiet (fail);go_wp2_with fail;go_roundw
       case rel=>exact⟨k+1,by go_num,by omega,bDr hB _,by rw[Hid,jan HX.out,jan HY.out,HF.out]⟩
       case measure=>simp[intOf];omega
      ·have H9:Hid ((l1==l2)=false):=HNe.out (fun h=>hx2 h.2)
       have n2:(x2==y2)=false:=beq_eq_false_iff_ne.2 hx2;clear HNe;go_wp2_with fail;go_quiet (fail);go_wp2_with fail;go_ret;exact⟨by rw[H9.out];rfl,HB0.out.trans ((bDr hB _).mono HB0.out.size)⟩
     ·have H9:Hid ((l1==l2)=false):=HNe.out (fun h=>hx1 h.1)
      have n1:(x1==y1)=false:=beq_eq_false_iff_ne.2 hx1;clear HNe;go_wp2_with fail;go_quiet (fail);go_wp2_with fail;go_ret;exact⟨by rw[H9.out];rfl,HB0.out.trans ((bDr hB _).mono HB0.out.size)⟩
    ·obtain rfl:k=len1:=by omega
     go_wp2_with fail;go_ret;have h9:=HF.out;rw[List.take_of_length_le (by rw[<- E1.out];omega),List.take_of_length_le (by rw[<- E2.out];omega)] at h9;exact⟨by rw[h9];simp,HB0.out.trans (hB.mono HB0.out.size)⟩
  ·have t1:((len1:Int) != (len2:Int))=true:=by rw[bne_iff_ne];omega
   have hne:Hid ((l1==l2)=false):=by
    rw[Hid,beq_eq_false_iff_ne];intro e;rw[e] at e1;omega
   clear e1 e2;go_enter Tryz.func63,Tryz.ntmps63;go_wp2_with fail;go_ret;exact⟨by rw[hne.out];rfl,HB0.out⟩
theorem jat (k:Int) (w:World):Calls Tryz.prog 49 #[.int .i64 k] w fun e w'=>e=.returned (.int .i64 (jal k))/\w=w':=by
 cases h1:(k==1) with
 | true =>
  go_enter Tryz.func49,Tryz.ntmps49;go_wp2;go_ret;exact⟨by simp[jal,h1],rfl⟩
 | false =>
  cases h2:(k==2) with
  | true =>
   go_enter Tryz.func49,Tryz.ntmps49;go_wp2;go_ret;exact⟨by simp[jal,h1,h2],rfl⟩
  | false =>
   cases h3:(k==3) with
   | true =>
    go_enter Tryz.func49,Tryz.ntmps49;go_wp2;go_ret;exact⟨by simp[jal,h1,h2,h3],rfl⟩
   | false =>
    go_enter Tryz.func49,Tryz.ntmps49;go_wp2;go_ret;exact⟨by simp[jal,h1,h2,h3],rfl⟩
set_option maxRecDepth 100000 in
set_option maxHeartbeats 4000000 in
theorem ja7 (x y:Sk) (s t:SS) (w:World) (hx:s.At w.heap.size w x) (hy:t.At w.heap.size w y) :
  Calls Tryz.prog 26 #[.agg #[.int .i64 x.kind,.int .i64 x.level,.slice s.ea s.el s.ec,.int .i64 x.hb,.string x.hr,.int .i64 x.cr,.int .i64 x.cc,.slice s.ca s.cl s.cc,.int .i64 x.gf,.slice s.ga s.gl s.gc],.agg #[.int .i64 y.kind,.int .i64 y.level,.slice t.ea t.el t.ec,.int .i64 y.hb,.string y.hr,.int .i64 y.cr,.int .i64 y.cc,.slice t.ca t.cl t.cc,.int .i64 y.gf,.slice t.ga t.gl t.gc]] w fun e w'=>e=.returned (.bool (jay x y))/\Below w.heap.size w w':=by
 obtain⟨W0,hW0,hX0,hX1,hB0,hs0⟩:=jaS w #[.int .i64 x.kind,.int .i64 x.level,.slice s.ea s.el s.ec,.int .i64 x.hb,.string x.hr,.int .i64 x.cr,.int .i64 x.cc,.slice s.ca s.cl s.cc,.int .i64 x.gf,.slice s.ga s.gl s.gc] 50 #[.int .i64 y.kind,.int .i64 y.level,.slice t.ea t.el t.ec,.int .i64 y.hb,.string y.hr,.int .i64 y.cr,.int .i64 y.cc,.slice t.ca t.cl t.cc,.int .i64 y.gf,.slice t.ga t.gl t.gc] 50;have HB0:=Lib.hid hB0;have HX0:=Lib.hid hX0;have HX1:=Lib.hid hX1;obtain⟨c0,c1,c2,c3,c4,c5,c6,c7,c8,c9⟩:=jaL hX0;obtain⟨d0,d1,d2,d3,d4,d5,d6,d7,d8,d9⟩:=jaL hX1;have n1:=jmP x.hb y.hb x.hr y.hr;have n2:=jp8;have gx:=hx.go hB0;have gy:=hy.go hB0;clear hx hy hX0 hX1 hB0;have hE:=Lib.hid (jdk s.ea s.el s.ec x.e t.ea t.el t.ec y.e W0 gx.e.1 gy.e.1 (Nat.le_trans gx.e.2.1 gx.e.2.2.1));have G:=Lib.hid (And.intro gx gy);clear gx gy
 cases h1:(x.kind==y.kind) with
 | false =>
  have HR:Hid (jay x y=false):=by simp[Hid,jay,h1]
  clear n1;go_enter Tryz.func26,Tryz.ntmps26;go_wp2_with fail;go_ret;exact⟨by rw[HR.out];rfl,HB0.out⟩
 | true =>
 cases h2:(x.level==y.level) with
 | false =>
  have HR:Hid (jay x y=false):=by simp[Hid,jay,h2]
  clear n1;go_enter Tryz.func26,Tryz.ntmps26;go_wp2_with fail;go_ret;exact⟨by rw[HR.out];rfl,HB0.out⟩
 | true =>
 have HR:Hid (jay x y=((x.hb==y.hb&&x.hr.toList==y.hr.toList)&&x.e==y.e&&(x.cr==y.cr&&x.cc==y.cc&&x.cl==y.cl)&&(x.gf==y.gf&&x.gl==y.gl))):=by simp only[Hid,jay,h1,h2,Bool.true_and]
 generalize hh:(x.hb==y.hb&&x.hr.toList==y.hr.toList)=bh at HR n1;generalize he:(x.e==y.e)=be at HR hE;clear hh he;go_enter Tryz.func26,Tryz.ntmps26;go_wp2_with fail;refine hE.out.mono ?_;rintro e w1 ⟨rfl,hb1⟩;have hX0':=jak hb1 (Nat.le_refl _) HX0.out;have hX1':=jak hb1 (Nat.le_refl _) HX1.out;obtain⟨p0,p1,p2,p3,p4,p5,p6,p7,p8,p9⟩:=jaL hX0';obtain⟨q0,q1,q2,q3,q4,q5,q6,q7,q8,q9⟩:=jaL hX1';have gx1:=G.out.1.go hb1;have gy1:=G.out.2.go hb1;have hC:=Lib.hid (jg6 x.cr x.cc s.ca s.cl s.cc x.cl y.cr y.cc t.ca t.cl t.cc y.cl w1 gx1.c.1 gy1.c.1 (Nat.le_trans gx1.c.2.1 gx1.c.2.2.1));have G1:=Lib.hid (And.intro gx1 gy1);have HX0':=Lib.hid hX0';have HX1':=Lib.hid hX1';have HB1:=Lib.hid (HB0.out.trans (hb1.mono HB0.out.size));clear hW0 hE c0 c1 c2 c3 c4 c5 c6 c7 c8 c9 d0 d1 d2 d3 d4 d5 d6 d7 d8 d9 gx1 gy1 G hX0' hX1' hb1
 cases be with
 | false =>
  clear hC n1;go_wp2_with fail;go_ret;exact⟨by rw[HR.out];simp,HB1.out⟩
 | true =>
 cases bh with
 | false =>
  clear hC;go_wp2_with fail;go_ret;exact⟨by rw[HR.out];simp,HB1.out⟩
 | true =>
 generalize hc:(x.cr==y.cr&&x.cc==y.cc&&x.cl==y.cl)=bc at HR hC;clear hc;go_wp2_with fail;refine hC.out.mono ?_;rintro e w2 ⟨rfl,hb2⟩;have hX0:=jak hb2 (Nat.le_refl _) HX0'.out;have hX1:=jak hb2 (Nat.le_refl _) HX1'.out;obtain⟨r0,r1,r2,r3,r4,r5,r6,r7,r8,r9⟩:=jaL hX0;obtain⟨u0,u1,u2,u3,u4,u5,u6,u7,u8,u9⟩:=jaL hX1;have gx2:=G1.out.1.go hb2;have gy2:=G1.out.2.go hb2;have hH:=Lib.hid (jg8 x.gf s.ga s.gl s.gc x.gl y.gf t.ga t.gl t.gc y.gl w2 gx2.g.1 gy2.g.1 (Nat.le_trans gx2.g.2.1 gx2.g.2.2.1));have HB2:=Lib.hid (HB1.out.trans (hb2.mono HB1.out.size));clear hC p0 p1 p2 p3 p4 p5 p6 p7 p8 p9 q0 q1 q2 q3 q4 q5 q6 q7 q8 q9 gx2 gy2 G1 hX0 hX1 hb2
 cases bc with
 | false =>
  clear hH;go_wp2_with fail;go_ret;exact⟨by rw[HR.out];simp,HB2.out⟩
 | true =>
 go_wp2_with fail;refine hH.out.mono ?_;rintro e w3 ⟨rfl,hb3⟩;clear hH;go_wp2_with fail;go_ret;exact⟨by rw[HR.out];simp,HB2.out.trans (hb3.mono HB2.out.size)⟩
end Go.Proofs.YtieknocphiceoaaGreatDoor
namespace Go.Proofs.YtieknocphiceoaaGreatDoor
open Go Go.RowKit Go.Shelf
theorem jpT (a:Option Addr) (len cap m:Nat) (w:World) (h:m<=cap):(Instr.slice 46 (.slice a len cap) none (some (.int .i64 (m:Int))) none).run Tryz.prog w=.ok (.slice a m cap) w:=by
 have hz:=jhn a cap 2;unfold jc6 at hz;have hs:(sizeOf 118).run Tryz.prog w=.ok 2 w:=by kernel_rfl
 have he:Tryz.prog.elem 46=118:=by kernel_rfl
 rw[run_slice_h (t:=46) (a:=a) (len:=len) (cap:=cap) (w:=w) (ht:=by rw[he];exact jco) (kh:=.i64) (h:=(m:Int)) (by omega) (by omega),he,hs];simp only[Result.andThen,sliced,Int.toNat_natCast,Nat.sub_zero,hz]
theorem jkW (a:Option Addr) (len cap k:Nat) (w:World) (h:k<=len):(Instr.slice 46 (.slice a len cap) (some (.int .i64 (k:Int))) none none).run Tryz.prog w=.ok (.slice (jc6 a cap k 2) (len-k) (cap-k)) w:=by
 have hs:(sizeOf 118).run Tryz.prog w=.ok 2 w:=by kernel_rfl
 have he:Tryz.prog.elem 46=118:=by kernel_rfl
 rw[run_slice_l (t:=46) (a:=a) (len:=len) (cap:=cap) (w:=w) (ht:=by rw[he];exact jco) (kl:=.i64) (l:=(k:Int)) (by omega) (by omega),he,hs];simp only[Result.andThen,sliced,Int.toNat_natCast,jc6]
def jiE (a0:Option Addr) (m:List (Int × Int)) (w:World) (e:Ending) (w':World):Prop:=∃ a cap,e=.returned (.slice a m.length cap)/\SlC jb5 2 w'.heap.size w' a m.length cap m/\(∀ z,a=some z->a0=some z\/w.heap.size<=z.block)/\Below w.heap.size w w'
theorem jhR {w w':World} {n:Nat} {v:Value} {m:List (Int × Int)} (h:w'.ownsRow w.heap.size 118 2 v n (m.flatMap jb5)) (hn:n=m.length) (hB:Below w.heap.size w w'):jiE none m w (.returned v) w':=by
 subst hn;obtain⟨a',cap',hv,hS,hF⟩:=jaE (enc:=jb5) (fun _=>rfl) h;exact⟨a',cap',by rw[hv],hS,fun z hz=>.inr (hF z hz),hB⟩
attribute [-go_sem] Builtin.append_ run_slice_any run_slice_h run_slice_l
set_option maxRecDepth 100000 in
set_option maxHeartbeats 4000000 in
theorem jg9 (p n:Int) (l:List (Int × Int)) (a:Option Addr) (len cap:Nat) (w:World) (hL:SlC jb5 2 w.heap.size w a len cap l) (hlen:len<=2000) (hn:U64 n) (hU:jbG l) :
  Calls Tryz.prog 165 #[.slice a len cap,.int .i64 p,.int .u64 n] w (jiE a (jc3 l p n) w):=by
 have hll:=hL.1.1;have HL:=Lib.hid hL;have HLL:=Lib.hid hll;have HU:=Lib.hid hU;have hcap:len<=cap:=hL.2.1;have hn0:=hn.1;have hn1:=hn.2;clear hL hll hU;obtain⟨R,hR⟩:∃ R,jaF l p n=R:=⟨_,rfl⟩;have HR:=Lib.hid hR;obtain⟨R2,hR2⟩:∃ R,jc3 l p n=R:=⟨_,rfl⟩;rw[hR2];have HR2:Hid ((n=0->R2=l)/\(¬ n=0->R2=R)):=⟨fun h=>by rw[<- hR2];exact if_pos h,fun h=>by rw[<- hR2,<- hR];exact if_neg h⟩;clear hR hR2;go_enter Tryz.func165,Tryz.ntmps165;go_wp2_with fail;go_loopw [7] (fun i wr=>∃ k:Nat,i=.int .i64 k/\k<=len/\Hid (R=l.take k++jaF (l.drop k) p n)/\Below w.heap.size w wr) (fun i _=>len-(intOf i).toNat)
 case atStart=>exact⟨0,rfl,Nat.zero_le _,by rw[Hid,List.take_zero,List.drop_zero,List.nil_append,HR.out],Below.refl _ _⟩
 case round =>
  obtain⟨k,rfl,hk,HK,hB⟩:=hrel;have HB:=Lib.hid hB;have HLr:=Lib.hid (HL.out.go hB);have htk:=fun W=>jpT a len cap k W (by omega)
  have hfr:=fun W=>jkW a len cap k W hk
  have i0:(0:Int)<=(k:Int):=Int.natCast_nonneg _;have HLn:=Lib.hid hlen;by_cases hlt:k<len
  ·obtain⟨x,hx⟩:∃ x,l[k]? = some x:=⟨_,List.getElem?_eq_getElem (by rw[<- HLL.out];exact hlt)⟩
   obtain⟨b,off,rfl,hbb,hc⟩:=HLr.out.1.2 k x hx;have c0:wr.cell? ⟨b,off+k*2,none⟩=some (.int .i64 x.1):=hc 0 (by omega);have c1:wr.cell? ⟨b,off+k*2+1,none⟩=some (.int .u64 x.2):=hc 1 (by omega);have HBB:=Lib.hid hbb;have i1:(k:Int)<(len:Int):=by omega
   have HD:=Lib.hid (jaJ hx);have HX:=Lib.hid hx;obtain⟨x1,x2⟩:=x;dsimp only at c0 c1;clear hc hx hB hbb;by_cases hxn:x1<p
   ·have HS:Hid (R=l.take (k+1)++jaF (l.drop (k+1)) p n):=by
     rw[Hid,HK.out,HD.out,jjT hxn,jan HX.out,List.append_assoc];rfl
    go_wp2_with fail;go_roundw
    case rel=>exact⟨k+1,by go_num,by omega,HS.out,HB.out⟩
    case measure=>simp[intOf];omega
   ·by_cases hn0':n=0
    ·have HE:Hid (R2=l):=HR2.out.1 hn0'
     subst hn0';go_wp2_with fail;go_ret;rw[HE.out];unfold jiE;rw[<- HLL.out];exact⟨_,cap,rfl,HLr.out,fun z hz=>.inl hz,HB.out⟩
    ·have t0:(n==0)=false:=by rw[beq_eq_false_iff_ne];exact hn0'
     have HE2:Hid (R2=R):=HR2.out.2 hn0';obtain⟨v1,w1,hap1,hO1,hB1,hz1,hk1,-⟩:=jaW Tryz.prog (cap:=cap) 46 jco jcq rfl (by decide) (World.ownsRow_nil wr wr.heap.size 118 2) (Below.refl wr.heap.size wr) (Nat.le_refl _) (Nat.le_refl _) (fun _=>rfl) (HLr.out.take k hk).1 jc9 (by omega) (by omega) (by decide);rw[List.nil_append,Nat.zero_add] at hO1;by_cases hxe:x1=p
     ·have u2:U64 x2:=HU.out (x1,x2) (List.mem_of_getElem? HX.out)
      have HE:Hid (R2=l.take k++(p,jdl x2 n)::l.drop (k+1)):=by rw[Hid,HE2.out,HK.out,HD.out,hxe,jmz]
      have HP:Hid (∀ W,Calls Tryz.prog 164 #[.int .u64 x2,.int .u64 n] W fun e w'=>e=.returned (.int .u64 (jdl x2 n))/\w'=W):=fun W=>jeg x2 n W u2 ⟨hn0,hn1⟩
      have hfr1:∀ W,(Instr.slice 46 (.slice (some ⟨b,off,none⟩) len cap) (some (.int .i64 (IntKind.i64.wrap ((k:Int)+1)))) none none).run Tryz.prog W=.ok (.slice (jc6 (some ⟨b,off,none⟩) cap (k+1) 2) (len-(k+1)) (cap-(k+1))) W:=fun W=>by rw[show IntKind.i64.wrap ((k:Int)+1)=((k+1:Nat):Int) from by rw[IntWalk.i64_in _ (by omega)];rfl];exact jkW (some ⟨b,off,none⟩) len cap (k+1) W (by omega)
      have c1':w1.cell? ⟨b,off+k*2+1,none⟩=some (.int .u64 x2):=(hB1.cell (p:=⟨b,off+k*2+1,none⟩) HBB.out).trans c1;have c0':w1.cell? ⟨b,off+k*2,none⟩=some (.int .i64 x1):=(hB1.cell (p:=⟨b,off+k*2,none⟩) HBB.out).trans c0;generalize jdl x2 n=s at HE HP;obtain⟨g2,c2,w2,hap2,hO2,hB2,hz2,-,-⟩:=jax Tryz.prog 46 jco jcq rfl (by decide) (W:=w1.drew) (jeW hO1 (Below.refl _ _).drew) hB1.drew (Nat.le_refl _) hz1 (jb5 (p,s)) rfl (jc9 _) (by omega) (by decide);have hap2:(Builtin.append_ #[46,46] 46 #[v1,.slice (some ⟨w1.heap.size,0,none⟩) 1 1]).run Tryz.prog (w1.alloc (.cells #[.int .i64 p,.int .u64 s] 118)).drew=.ok (.slice (some ⟨g2,0,none⟩) (k+1) c2) w2:=hap2;obtain⟨v3,w3,hap3,hO3,hB3,hz3,-,-⟩:=jaW Tryz.prog (cap:=cap-(k+1)) 46 jco jcq rfl (by decide) hO2 hB2 (Nat.le_refl _) (Nat.le_of_lt (Nat.lt_of_le_of_lt hz1 hz2)) (fun _=>rfl) (((HLr.out.below hB2).mono hB2.size).drop (k+1) hlt).1 jc9 (by omega) (by omega) (by decide);have HO3:Hid (w3.ownsRow wr.heap.size 118 2 v3 (k+1+(len-(k+1))) (((l.take k).flatMap jb5++jb5 (p,s))++(l.drop (k+1)).flatMap jb5)):=hO3;have HB3:=Lib.hid hB3;have hxe':(x1==p)=true:=by rw[beq_iff_eq];exact hxe
      subst hxe;clear hO1 hO2 hO3 hB1 hB2 hB3 hk1;go_wp2_with fail;refine wp_region_any (by kernel_rfl) ?_;change wpAny _ _ _ _ _ _ _ (World.drew _);refine tk 0 (v:=?_) rfl ?_ ?_;rotate_left
      ·intro w;go_simp;with_reducible rfl
      refine tk 1 (v:=?_) rfl ?_ ?_;rotate_left
      ·intro w;go_simp;with_reducible rfl
      refine tk 2 (v:=?_) rfl ?_ ?_;rotate_left
      ·intro w;go_simp;with_reducible rfl
      refine tk 3 (v:=?_) rfl ?_ ?_;rotate_left
      ·intro w;go_simp;with_reducible rfl
      refine tk 4 (v:=?_) rfl ?_ ?_;rotate_left
      ·intro w;go_simp;with_reducible rfl
      refine tk 5 (v:=?_) rfl ?_ ?_;rotate_left
      ·intro w;go_simp;with_reducible rfl
      refine tk 7 (v:=?_) rfl ?_ ?_;rotate_left
      ·intro w;go_simp;with_reducible rfl
      refine tk 12 (v:=?_) rfl ?_ ?_;rotate_left
      ·intro w;go_simp;with_reducible rfl
      refine tk 13 (v:=?_) rfl ?_ ?_;rotate_left
      ·intro w;go_simp;with_reducible rfl
      refine tk 14 (v:=?_) rfl ?_ ?_;rotate_left
      ·intro w;go_simp;with_reducible rfl
      refine tk 15 (v:=?_) rfl ?_ ?_;rotate_left
      ·intro w;go_simp;with_reducible rfl
      refine wpAny_ready (rs:=[6]) (by kernel_rfl) (by simp) ?_;refine AllReady.cons rfl (fun K hK=>?_) ?_
      ·go_simp
       refine hK _ _ ?_;clear hK K;refine wpAny_ready (rs:=[8]) (by kernel_rfl) (by simp) ?_;refine AllReady.cons rfl (fun K hK=>?_) ?_
       ·go_simp
        refine (HP.out _).mono ?_;rintro e w' ⟨rfl,h9⟩;subst w';refine hK _ _ ?_;clear hK K;refine tk 9 (v:=?_) rfl ?_ ?_;rotate_left
        ·intro w;go_simp;with_reducible rfl
        refine wpAny_ready (rs:=[10]) (by kernel_rfl) (by simp) ?_;refine AllReady.cons rfl (fun K hK=>?_) ?_
        ·go_simp
         refine hK _ _ ?_;clear hK K;refine wpAny_ready (rs:=[11]) (by kernel_rfl) (by simp) ?_;refine AllReady.cons rfl (fun K hK=>?_) ?_
         ·go_simp
          refine hK _ _ ?_;clear hK K;refine wpAny_ready (rs:=[16]) (by kernel_rfl) (by simp) ?_;refine AllReady.cons rfl (fun K hK=>?_) ?_
          ·go_simp
           refine hK _ _ ?_;clear hK K;refine wpAny_ready (rs:=[17]) (by kernel_rfl) (by simp) ?_;refine AllReady.cons rfl (fun K hK=>?_) ?_
           ·go_simp
            refine hK _ _ ?_;clear hK K;refine wpAny_done (by kernel_rfl) ?_ _;go_wp2_with fail;go_ret;have HF:jiE none R2 wr (.returned v3) w3:=jhR (w:=wr) (m:=R2) (by have h1:=HO3.out;rw[HE.out,List.flatMap_append,List.flatMap_cons,<- List.append_assoc];exact h1) (by have:=HLL.out;rw[HE.out,List.length_append,List.length_take,List.length_cons,List.length_drop];omega) HB3.out;obtain⟨a',cap',h1,h2,h4,h3⟩:=HF;exact⟨a',cap',h1,h2,fun z hz=>.inr (Nat.le_trans HB.out.size ((h4 z hz).resolve_left (by simp))),HB.out.trans (h3.mono HB.out.size)⟩
           exact AllReady.nil
          exact AllReady.nil
         exact AllReady.nil
        exact AllReady.nil
       exact AllReady.nil
      exact AllReady.nil
     ·have t1:(x1==p)=false:=by rw[beq_eq_false_iff_ne];exact hxe
      have HE:Hid (R2=l.take k++(p,n)::l.drop k):=by rw[Hid,HE2.out,HK.out,HD.out,jjU hxn hxe]
      have c0':w1.cell? ⟨b,off+k*2,none⟩=some (.int .i64 x1):=(hB1.cell (p:=⟨b,off+k*2,none⟩) HBB.out).trans c0;obtain⟨g2,c2,w2,hap2,hO2,hB2,hz2,-,-⟩:=jax Tryz.prog 46 jco jcq rfl (by decide) (W:=w1.drew) (jeW hO1 (Below.refl _ _).drew) hB1.drew (Nat.le_refl _) hz1 (jb5 (p,n)) rfl (jc9 _) (by omega) (by decide);have hap2:(Builtin.append_ #[46,46] 46 #[v1,.slice (some ⟨w1.heap.size,0,none⟩) 1 1]).run Tryz.prog (w1.alloc (.cells #[.int .i64 p,.int .u64 n] 118)).drew=.ok (.slice (some ⟨g2,0,none⟩) (k+1) c2) w2:=hap2;obtain⟨v3,w3,hap3,hO3,hB3,hz3,-,-⟩:=jaW Tryz.prog (cap:=cap-k) 46 jco jcq rfl (by decide) hO2 hB2 (Nat.le_refl _) (Nat.le_of_lt (Nat.lt_of_le_of_lt hz1 hz2)) (fun _=>rfl) (((HLr.out.below hB2).mono hB2.size).drop k hk).1 jc9 (by omega) (by omega) (by decide);have HO3:Hid (w3.ownsRow wr.heap.size 118 2 v3 (k+1+(len-k)) (((l.take k).flatMap jb5++jb5 (p,n))++(l.drop k).flatMap jb5)):=hO3;have HB3:=Lib.hid hB3;clear hO1 hO2 hO3 hB1 hB2 hB3 hk1;go_wp2_with fail;refine wp_region_any (by kernel_rfl) ?_;change wpAny _ _ _ _ _ _ _ (World.drew _);refine tk 0 (v:=?_) rfl ?_ ?_;rotate_left
      ·intro w;go_simp;with_reducible rfl
      refine tk 1 (v:=?_) rfl ?_ ?_;rotate_left
      ·intro w;go_simp;with_reducible rfl
      refine tk 2 (v:=?_) rfl ?_ ?_;rotate_left
      ·intro w;go_simp;with_reducible rfl
      refine tk 3 (v:=?_) rfl ?_ ?_;rotate_left
      ·intro w;go_simp;with_reducible rfl
      refine tk 6 (v:=?_) rfl ?_ ?_;rotate_left
      ·intro w;go_simp;with_reducible rfl
      refine tk 7 (v:=?_) rfl ?_ ?_;rotate_left
      ·intro w;go_simp;with_reducible rfl
      refine tk 8 (v:=?_) rfl ?_ ?_;rotate_left
      ·intro w;go_simp;with_reducible rfl
      refine wpAny_ready (rs:=[4]) (by kernel_rfl) (by simp) ?_;refine AllReady.cons rfl (fun K hK=>?_) ?_
      ·go_simp
       refine hK _ _ ?_;clear hK K;refine wpAny_ready (rs:=[5]) (by kernel_rfl) (by simp) ?_;refine AllReady.cons rfl (fun K hK=>?_) ?_
       ·go_simp
        refine hK _ _ ?_;clear hK K;refine wpAny_ready (rs:=[9]) (by kernel_rfl) (by simp) ?_;refine AllReady.cons rfl (fun K hK=>?_) ?_
        ·go_simp
         refine hK _ _ ?_;clear hK K;refine wpAny_ready (rs:=[10]) (by kernel_rfl) (by simp) ?_;refine AllReady.cons rfl (fun K hK=>?_) ?_
         ·go_simp
          refine hK _ _ ?_;clear hK K;refine wpAny_done (by kernel_rfl) ?_ _;go_wp2_with fail;go_ret;have HF:jiE none R2 wr (.returned v3) w3:=jhR (w:=wr) (m:=R2) (by have h1:=HO3.out;rw[HE.out,List.flatMap_append,List.flatMap_cons,<- List.append_assoc];exact h1) (by have:=HLL.out;rw[HE.out,List.length_append,List.length_take,List.length_cons,List.length_drop];omega) HB3.out;obtain⟨a',cap',h1,h2,h4,h3⟩:=HF;exact⟨a',cap',h1,h2,fun z hz=>.inr (Nat.le_trans HB.out.size ((h4 z hz).resolve_left (by simp))),HB.out.trans (h3.mono HB.out.size)⟩
         exact AllReady.nil
        exact AllReady.nil
       exact AllReady.nil
      exact AllReady.nil
  ·obtain rfl:k=len:=by omega
   have HE:Hid (R=l.take k++(p,n)::l.drop k):=by
    rw[Hid,HK.out,List.drop_of_length_le (by rw[<- HLL.out];exact Nat.le_refl _)];rfl
   clear hB;by_cases hn0':n=0
   ·have HE9:Hid (R2=l):=HR2.out.1 hn0'
    subst hn0';go_wp2_with fail;go_ret;rw[HE9.out];unfold jiE;rw[<- HLL.out];exact⟨_,cap,rfl,HLr.out,fun z hz=>.inl hz,HB.out⟩
   ·have t0:(n==0)=false:=by rw[beq_eq_false_iff_ne];exact hn0'
    have HE2:Hid (R2=R):=HR2.out.2 hn0';rw[<- HE2.out] at HE;obtain⟨v1,w1,hap1,hO1,hB1,hz1,hk1,-⟩:=jaW Tryz.prog (cap:=cap) 46 jco jcq rfl (by decide) (World.ownsRow_nil wr wr.heap.size 118 2) (Below.refl wr.heap.size wr) (Nat.le_refl _) (Nat.le_refl _) (fun _=>rfl) (HLr.out.take k hk).1 jc9 (by omega) (by omega) (by decide);rw[List.nil_append,Nat.zero_add] at hO1;obtain⟨g2,c2,w2,hap2,hO2,hB2,hz2,-,-⟩:=jax Tryz.prog 46 jco jcq rfl (by decide) (W:=w1.drew) (jeW hO1 (Below.refl _ _).drew) hB1.drew (Nat.le_refl _) hz1 (jb5 (p,n)) rfl (jc9 _) (by omega) (by decide);have hap2:(Builtin.append_ #[46,46] 46 #[v1,.slice (some ⟨w1.heap.size,0,none⟩) 1 1]).run Tryz.prog (w1.alloc (.cells #[.int .i64 p,.int .u64 n] 118)).drew=.ok (.slice (some ⟨g2,0,none⟩) (k+1) c2) w2:=hap2;obtain⟨v3,w3,hap3,hO3,hB3,hz3,-,-⟩:=jaW Tryz.prog (cap:=cap-k) 46 jco jcq rfl (by decide) hO2 hB2 (Nat.le_refl _) (Nat.le_of_lt (Nat.lt_of_le_of_lt hz1 hz2)) (fun _=>rfl) (((HLr.out.below hB2).mono hB2.size).drop k hk).1 jc9 (by omega) (by omega) (by decide);have HO3:Hid (w3.ownsRow wr.heap.size 118 2 v3 (k+1+(k-k)) (((l.take k).flatMap jb5++jb5 (p,n))++(l.drop k).flatMap jb5)):=hO3;have HB3:=Lib.hid hB3;clear hO1 hO2 hO3 hB1 hB2 hB3 hk1;simp only[Nat.sub_self] at hap3 hfr;go_wp2_with fail;refine wp_region_any (by kernel_rfl) ?_;change wpAny _ _ _ _ _ _ _ (World.drew _);refine tk 0 (v:=?_) rfl ?_ ?_;rotate_left
    ·intro w;go_simp;with_reducible rfl
    refine tk 1 (v:=?_) rfl ?_ ?_;rotate_left
    ·intro w;go_simp;with_reducible rfl
    refine tk 2 (v:=?_) rfl ?_ ?_;rotate_left
    ·intro w;go_simp;with_reducible rfl
    refine tk 3 (v:=?_) rfl ?_ ?_;rotate_left
    ·intro w;go_simp;with_reducible rfl
    refine tk 6 (v:=?_) rfl ?_ ?_;rotate_left
    ·intro w;go_simp;with_reducible rfl
    refine tk 7 (v:=?_) rfl ?_ ?_;rotate_left
    ·intro w;go_simp;with_reducible rfl
    refine tk 8 (v:=?_) rfl ?_ ?_;rotate_left
    ·intro w;go_simp;with_reducible rfl
    refine wpAny_ready (rs:=[4]) (by kernel_rfl) (by simp) ?_;refine AllReady.cons rfl (fun K hK=>?_) ?_
    ·go_simp
     refine hK _ _ ?_;clear hK K;refine wpAny_ready (rs:=[5]) (by kernel_rfl) (by simp) ?_;refine AllReady.cons rfl (fun K hK=>?_) ?_
     ·go_simp
      refine hK _ _ ?_;clear hK K;refine wpAny_ready (rs:=[9]) (by kernel_rfl) (by simp) ?_;refine AllReady.cons rfl (fun K hK=>?_) ?_
      ·go_simp
       refine hK _ _ ?_;clear hK K;refine wpAny_ready (rs:=[10]) (by kernel_rfl) (by simp) ?_;refine AllReady.cons rfl (fun K hK=>?_) ?_
       ·go_simp
        refine hK _ _ ?_;clear hK K;refine wpAny_done (by kernel_rfl) ?_ _;go_wp2_with fail;go_ret;have HF:jiE none R2 wr (.returned v3) w3:=jhR (w:=wr) (m:=R2) (by have h1:=HO3.out;rw[HE.out,List.flatMap_append,List.flatMap_cons,<- List.append_assoc];exact h1) (by have:=HLL.out;rw[HE.out,List.length_append,List.length_take,List.length_cons,List.length_drop];omega) HB3.out;obtain⟨a',cap',h1,h2,h4,h3⟩:=HF;exact⟨a',cap',h1,h2,fun z hz=>.inr (Nat.le_trans HB.out.size ((h4 z hz).resolve_left (by simp))),HB.out.trans (h3.mono HB.out.size)⟩
       exact AllReady.nil
      exact AllReady.nil
     exact AllReady.nil
    exact AllReady.nil
end Go.Proofs.YtieknocphiceoaaGreatDoor
