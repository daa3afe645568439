/- The reference of layer 9: digits, Bucket. The references of layers 7 and 9 in plain data: places digit by digit, bins put in. No program in sight. The reference of layer 7: New, Place, Add, Of, Merge, Lower, Count, at registers that are right. The references' answers in plain data: ranks, greater registers, sums of counters, counters lowered. No program in sight. The reference of layer 8: Add, Merge, Lower, at counters that are right. Printed by gen_de.py. The reference of layer 5 in plain data: a text's runes as texts, patterns, terms. No program in sight. The reference of layer 4: List, Runes, isValue. -/
import Derived.Test.YtieknocphiceoaaGreatDoorZDD
namespace Go.Proofs.YtieknocphiceoaaGreatDoor
open Go Go.RowKit Go.Shelf
theorem jjV (v:Nat) (h:v<2^64) (h0:v≠0):Lib.bitLen v=1+Lib.bitLen (v / 2):=by
 obtain⟨a1,a2,a3⟩:=jcJ v h h0;by_cases h1:v=1
 ·subst h1;rfl
 obtain⟨b1,b2,b3⟩:=jcJ (v / 2) (by omega) (by omega);generalize Lib.bitLen v=m at *;generalize Lib.bitLen (v / 2)=n at *;obtain⟨m',rfl⟩:∃ m',m=m'+1:=⟨m-1,by omega⟩;obtain⟨n',rfl⟩:∃ n',n=n'+1:=⟨n-1,by omega⟩;simp only[Nat.add_sub_cancel,Nat.pow_succ] at *
 have c1:2^n'<2^m':=by
  have:2^n'*2<=v:=by omega
  have h2:2^n'*2<2^m'*2:=by omega
  omega
 have c2:m'<n'+2:=by
  apply (Nat.pow_lt_pow_iff_right (a:=2) (by omega)).1;rw[Nat.pow_succ,Nat.pow_succ];omega
 have c3:=(Nat.pow_lt_pow_iff_right (a:=2) (by omega)).1 c1;omega
theorem joG:Lib.bitLen 0=0:=rfl
theorem jfJ (v:Nat) (hv:v<2^64) (w:World):Calls Tryz.prog 208 #[.int .u64 v] w fun e w'=>e=.returned (.int .i64 (Lib.bitLen v))/\w'=w:=by
 have h64:Lib.bitLen v<=64:=by
  by_cases h:v=0
  ·subst h;decide
  ·exact jeE v hv h
 have HD:Hid (Lib.bitLen v=0+Lib.bitLen v):=by rw[Hid,Nat.zero_add]
 have HV:Hid (v<2^64):=hv;generalize hd:Lib.bitLen v=d at h64 HD ⊢;have HD2:Hid (d=0+Lib.bitLen v):=by rw[Hid,Nat.zero_add,hd]
 clear HD hd hv;go_enter Tryz.func208,Tryz.ntmps208;go_wp2_with fail;go_loopw [0,3] (fun x n wr=>∃ (k u:Nat),x=.int .u64 u/\n=.int .i64 k/\Hid (u<2^64)/\Hid (d=k+Lib.bitLen u)/\wr=w) (fun _ n _=>65-(intOf n).toNat)
 case atStart=>exact⟨0,v,rfl,rfl,HV,HD2,rfl⟩
 case round =>
  obtain⟨k,u,rfl,rfl,HU,HK,rfl⟩:=hrel;by_cases hu:u=0
  ·subst hu
   have H9:Hid (d=k):=by rw[Hid,HK.out,joG];rfl
   go_wp2_with fail;go_ret;exact⟨by rw[H9.out];rfl,rfl⟩
  ·have H9:Hid (d=k+1+Lib.bitLen (u / 2)):=by rw[Hid,HK.out,jjV u HU.out hu];omega
   have hu0:(0:Int)<u:=by omega
   have hk:k<64:=by
    have:=H9.out;omega
   have H8:Hid (u / 2<2^64):=by have:=HU.out;rw[Hid];omega
   have hu64:(u:Int)<=18446744073709551615:=by have:=HU.out;omega
   go_wp2_with fail;go_roundw
   case rel=>exact⟨k+1,u / 2,by go_num,by go_num,H8,H9,trivial⟩
   case measure=>simp[intOf];omega
def bkB (v i:Nat):Nat:=v*2^(64-(Lib.bitLen v-1)) % 2^64 / 2^(64-i)
theorem jsi (v:Nat):bkB v 0=0:=Nat.div_eq_of_lt (Nat.mod_lt _ (by decide))
theorem jrF (v i:Nat) (hi:i<=3):bkB v i<2^i:=by
 unfold bkB;rw[Nat.div_lt_iff_lt_mul (Nat.two_pow_pos _),<- Nat.pow_add,show i+(64-i)=64 by omega];exact Nat.mod_lt _ (by decide)
theorem jrE (v i:Nat) (hi:i<=3):bkB v i<8:=by
 have h:=jrF v i hi;have:2^i<=2^3:=Nat.pow_le_pow_right (by omega) hi;omega
theorem joH (v i:Nat) (hi:i<3):bkB v (i+1)=2*bkB v i+v*2^(64-(Lib.bitLen v-1)) / 2^(63-i) % 2:=by
 unfold bkB;generalize v*2^(64-(Lib.bitLen v-1))=y;rcases (by omega:i=0\/i=1\/i=2) with rfl | rfl | rfl<;>simp only[Nat.reduceSub,Nat.reduceAdd,Nat.reducePow]<;>omega
theorem jqF (v i:Nat) (h0:1<=Lib.bitLen v) (hb:i+2<=Lib.bitLen v) (h64:Lib.bitLen v<=64):v*2^(64-(Lib.bitLen v-1)) / 2^(63-i)=v / 2^(Lib.bitLen v-2-i):=by
 generalize Lib.bitLen v=b at *;have e:63-i=(64-(b-1))+(b-2-i):=by omega
 rw[e,Nat.pow_add,<- Nat.div_div_eq_div_mul,Nat.mul_div_cancel _ (Nat.two_pow_pos _)]
theorem jqE (v i:Nat) (h0:1<=Lib.bitLen v) (hb:Lib.bitLen v<i+2) (hi:i<3):v*2^(64-(Lib.bitLen v-1)) / 2^(63-i) % 2=0:=by
 generalize Lib.bitLen v=b at *;have e:64-(b-1)=(63-i)+((i+1-b)+1):=by omega
 rw[e,Nat.pow_add,<- Nat.mul_assoc,Nat.mul_comm v,Nat.mul_assoc,Nat.mul_div_cancel_left _ (Nat.two_pow_pos _),Nat.pow_succ,<- Nat.mul_assoc,Nat.mul_mod_left]
theorem jqO (f v:Nat) (h:v≠0):jgT f v=1+(((Lib.bitLen v-1)*2^f+bkB v f:Nat):Int):=by
 unfold jgT bkB;rw[if_neg h,Int.toNat_natCast]
set_option maxHeartbeats 1000000 in
theorem ja0 (f v:Nat) (hf:f<=3) (hv:v<2^64) (w:World):Calls Tryz.prog 184 #[.int .i64 f,.int .u64 v] w fun e w'=>e=.returned (.int .i64 (jgT f v))/\w'=w:=by
 by_cases h0:v=0
 ·subst h0
  have H9:Hid (jgT f 0=0):=by rw[Hid];rfl
  generalize jgT f 0=r at H9 ⊢;have hf0:(0:Int)<=f/\(f:Int)<=3:=by omega
  obtain⟨g1,g2⟩:=hf0;go_enter Tryz.func184,Tryz.ntmps184;go_wp2_with fail;go_ret;exact⟨by rw[H9.out];rfl,rfl⟩
 obtain⟨b1,-,-⟩:=jcJ v hv h0;have b2:=jeE v hv h0;have HE:=Lib.hid (jqO f v h0);generalize jgT f v=r at HE ⊢;have HDi:=Lib.hid (jfJ v hv)
 have HS:Hid (∀ j,j<3->bkB v (j+1)=2*bkB v j+(if j+2<=Lib.bitLen v then v / 2^(Lib.bitLen v-2-j) % 2 else 0)):=fun j hj=>by
  rw[joH v j hj];split
  ·rename_i h;rw[jqF v j b1 h b2]
  ·rename_i h;rw[jqE v j b1 (by omega) hj]
 have HB0:=Lib.hid (jsi v);have HBl:Hid (∀ j,j<=3->bkB v j<8):=fun j hj=>jrE v j hj
 generalize Lib.bitLen v=b at *;have hv0:(0:Int)<v:=by omega
 have hv64:(v:Int)<=18446744073709551615:=by omega
 have hf0:(0:Int)<=f/\(f:Int)<=3:=by omega
 obtain⟨g1,g2⟩:=hf0;have hne:((v:Int)==0)=false:=by rw[beq_eq_false_iff_ne];omega
 clear h0 hv;go_enter Tryz.func184,Tryz.ntmps184;go_wp2_with (go_at_call 208;refine (HDi.out _).mono ?_;rintro e w1 ⟨rfl,rfl⟩);go_loopw [6,7] (fun x i wr=>∃ (j u:Nat),i=.int .i64 ((j:Int)+1)/\x=.int .i64 u/\j<=f/\Hid (u=bkB v j)/\u<8/\wr=w1) (fun _ i _=>4-(intOf i).toNat)
 case atStart=>exact⟨0,0,rfl,rfl,Nat.zero_le _,HB0.out.symm,by omega,rfl⟩
 case round =>
  obtain⟨j,u,rfl,rfl,hj,HU,hu8,rfl⟩:=hrel;by_cases hlt:j<f
  ·have HN:=Lib.hid (HS.out j (by omega))
   have HN8:=HBl.out (j+1) (by omega);by_cases hc:j+2<=b
   ·obtain⟨c,rfl⟩:∃ c,b=c+j+2:=⟨b-2-j,by omega⟩
    have e0:(((c+j+2:Nat):Int)-1-((j:Int)+1))=(c:Int):=by omega
    have H9:Hid (bkB v (j+1)=2*u+v / 2^c % 2):=by rw[Hid,HN.out,if_pos hc,<- HU.out,show c+j+2-2-j=c by omega]
    generalize hd:v / 2^c=d at H9;have hd2:(v:Int) / 2^c=(d:Int):=by rw[<- hd];simp
    go_wp2_with fail;go_roundw
    case rel=>exact⟨j+1,2*u+d % 2,by go_num,by go_num,by omega,H9.out.symm,by rw[<- H9.out];exact HN8,trivial⟩
    case measure=>simp[intOf];omega
   ·have H9:Hid (bkB v (j+1)=2*u):=by rw[Hid,HN.out,if_neg hc,<- HU.out];rfl
    go_wp2_with fail;go_roundw
    case rel=>exact⟨j+1,2*u,by go_num,by go_num,by omega,H9.out.symm,by rw[<- H9.out];exact HN8,trivial⟩
    case measure=>simp[intOf];omega
  ·obtain rfl:j=f:=by omega
   have H9:Hid (r=1+(((b-1)*2^j+u:Nat):Int)):=by rw[Hid,HE.out,<- HU.out]
   rcases (by omega:j=0\/j=1\/j=2\/j=3) with rfl | rfl | rfl | rfl
   all_goals go_wp2_with fail
   all_goals go_ret
   all_goals exact⟨by rw[H9.out];congr 1;show Value.int .i64 _=Value.int .i64 _;congr 1;omega,rfl⟩
theorem jmA {x m:Nat} (h1:2^m<=x) (h2:x<2^(m+1)) (h:x<2^64):Lib.bitLen x=m+1:=by
 have h0:x≠0:=by have:=Nat.two_pow_pos m;omega
 obtain⟨a1,a2,a3⟩:=jcJ x h h0;generalize Lib.bitLen x=n at *;obtain⟨n',rfl⟩:∃ n',n=n'+1:=⟨n-1,by omega⟩;rw[Nat.add_sub_cancel] at a2;have c1:=(Nat.pow_lt_pow_iff_right (a:=2) (by omega)).1 (Nat.lt_of_le_of_lt h1 a3);have c2:=(Nat.pow_lt_pow_iff_right (a:=2) (by omega)).1 (Nat.lt_of_le_of_lt a2 h2);omega
def jnn (b n k:Nat):Prop:=n % 2^(64-b) / 2^(64-k)=0
theorem jqz (n k:Nat) (hk:k<64):n / 2^(64-(k+1))=2*(n / 2^(64-k))+n / 2^(63-k) % 2:=by
 have e1:64-(k+1)=63-k:=by omega
 have e2:64-k=(63-k)+1:=by omega
 rw[e1,e2,Nat.pow_succ,<- Nat.div_div_eq_div_mul];generalize n / 2^(63-k)=m;omega
theorem jjd (b n k:Nat) (hb:b<=k) (hk:k<64) (h:jnn b n k):n % 2^(64-b) / 2^(63-k)=n / 2^(63-k) % 2:=by
 unfold jnn at h;have e1:64-b=(63-k)+(k+1-b):=by omega
 have e2:64-k=(63-k)+1:=by omega
 have h3:n % 2^(64-b) / 2^(63-k)=n / 2^(63-k) % 2^(k+1-b):=by rw[e1,Nat.pow_add,Nat.mod_mul_right_div_self]
 have h4:n / 2^(63-k) % 2^(k+1-b) % 2=n / 2^(63-k) % 2:=Nat.mod_mod_of_dvd _ (by rw[show k+1-b=(k-b)+1 by omega,Nat.pow_succ];exact Nat.dvd_mul_left _ _);rw[e2,Nat.pow_succ,<- Nat.div_div_eq_div_mul,h3] at h;rw[h3];omega
theorem jpz (b n k:Nat) (hb:b<=k) (hk:k<64) (h:jnn b n k) (hd:n / 2^(63-k) % 2=0):jnn b n (k+1):=by
 have h1:=jjd b n k hb hk h;unfold jnn;rw[show 64-(k+1)=63-k by omega,h1,hd]
theorem jno (b n:Nat) (_hb:b<=64):jnn b n b:=by
 unfold jnn;exact Nat.div_eq_of_lt (Nat.mod_lt _ (Nat.two_pow_pos _))
theorem jjA (b n:Nat) (hb:b<=64):n*2^b % 2^64=n % 2^(64-b)*2^b:=by
 conv=>lhs;rw[show 64=(64-b)+b by omega,Nat.pow_add,Nat.mul_mod_mul_right]
theorem jpH (b n k:Nat) (hb:b<=k) (hk:k<64) (h:jnn b n k) (hd:n / 2^(63-k) % 2=1):jcs b n=1+(k-b):=by
 have h1:=jjd b n k hb hk h;rw[hd] at h1
 have hq1:2^(63-k)<=n % 2^(64-b):=by
  have:=Nat.div_mul_le_self (n % 2^(64-b)) (2^(63-k));rw[h1,Nat.one_mul] at this;exact this
 have hq2:n % 2^(64-b)<2^(63-k+1):=by
  rw[Nat.pow_succ];have:=Nat.lt_div_mul_add (a:=n % 2^(64-b)) (Nat.two_pow_pos (63-k));rw[h1] at this;omega
 unfold jcs;rw[jjA b n (by omega)];generalize n % 2^(64-b)=q at hq1 hq2;have p1:2^(63-k+b)<=q*2^b:=by rw[Nat.pow_add];exact Nat.mul_le_mul_right _ hq1
 have p2:q*2^b<2^(63-k+b+1):=by
  rw[show 63-k+b+1=(63-k+1)+b by omega,Nat.pow_add];exact Nat.mul_lt_mul_of_pos_right hq2 (Nat.two_pow_pos b)
 have p3:2^(63-k+b+1)<=2^64:=Nat.pow_le_pow_right (by omega) (by omega);have h0:q*2^b≠0:=by have:=Nat.two_pow_pos (63-k+b);omega
 rw[if_neg h0,jmA p1 p2 (by omega)];omega
theorem jnG (b n:Nat) (hb:b<=64) (h:jnn b n 64):jcs b n=65-b:=by
 unfold jnn at h;simp only[Nat.sub_self,Nat.pow_zero,Nat.div_one] at h;unfold jcs;rw[jjA b n hb,h,Nat.zero_mul,if_pos rfl]
def jc3 (l:List (Int × Int)) (p n:Int):List (Int × Int):=if n=0 then l else jaF l p n
def jda (a l:List (Int × Int)):List (Int × Int):=l.foldl (fun a b=>jc3 a b.1 b.2) a
theorem jhB:∀ (l a:List (Int × Int)),(∀ b∈l,b.2≠0)->jda a l=jbn a l
 | [],_,_=>rfl
 | b::l,a,h=>by
  have h1:jc3 a b.1 b.2=jaF a b.1 b.2:=if_neg (h b List.mem_cons_self);show jda (jc3 a b.1 b.2) l=jbn (jaF a b.1 b.2) l;rw[h1];exact jhB l _ (fun c hc=>h c (List.mem_cons_of_mem _ hc))
theorem jm6 {l:List (Int × Int)} (h:∀ b∈l,b.2≠0) (hu:jbG l):jeN l=jda [] (l.map fun b=>(jaQ b.1,b.2)):=by
 rw[jpg h hu,jhB _ _ (jeM h hu).1]
theorem jjy (a l:List (Int × Int)) (b:Int × Int):jda a (l++[b])=jc3 (jda a l) b.1 b.2:=by unfold jda;rw[List.foldl_append];rfl
theorem jl1 (l:List (Int × Int)) (p n:Int):(jc3 l p n).length<=l.length+1:=by
 unfold jc3;split
 ·omega
 ·exact je5 l p n
theorem jgF:∀ (l a:List (Int × Int)),(jda a l).length<=a.length+l.length
 | [],_=>Nat.le_refl _
 | b::l,a=>by
  have h1:=jgF l (jc3 a b.1 b.2);have h2:=jl1 a b.1 b.2;show (jda (jc3 a b.1 b.2) l).length<=_;rw[List.length_cons];omega
theorem jjT {q m p n:Int} {t:List (Int × Int)} (h:q<p):jaF ((q,m)::t) p n=(q,m)::jaF t p n:=by rw[jaF,if_pos h]
theorem jmz {q m n:Int} {t:List (Int × Int)}:jaF ((q,m)::t) q n=(q,jdl m n)::t:=by rw[jaF,if_neg (by omega),if_pos rfl]
theorem jjU {q m p n:Int} {t:List (Int × Int)} (h:¬ q<p) (h2:q≠p):jaF ((q,m)::t) p n=(p,n)::(q,m)::t:=by rw[jaF,if_neg h,if_neg h2]
theorem jdY (b:Nat) (h1:3<=b) (h2:b<=8) (w:World):Calls Tryz.prog 179 #[.int .i64 b] w fun e w'=>e=.returned (.bool true)/\w'=w :=
 (jcx b w).mono fun e w' ⟨h3,h4⟩=>⟨by rw[h3];simp[jby];omega,h4⟩
theorem jef (b:Nat) (r:List Nat) (w:World) (h1:3<=b) (h2:b<=8) (hl:r.length=2^b) (hr:∀ i,r.getD i 0<=65-b) :
  Calls Tryz.prog 141 #[.agg #[.int .i64 b,.string (jaA r)]] w fun e w'=>e=.returned (.bool true)/\Below w.heap.size w w' :=
 (jdX b (jaA r) w).mono fun e w' h=>⟨by rw[h.1,jep b r h1 h2 hl hr],h.2⟩
def jcp (b:Nat) (r:List Nat) (w:World) (e:Ending) (w':World):Prop:=e=.returned (.tuple #[.agg #[.int .i64 b,.string (jaA r)],.int .i64 0])/\Below w.heap.size w w'
theorem jhI {W:World} {b:Nat} {x y:Value} {t:TypeId} (u v:Value) (h:W.heap[b]? = some (.cells #[x,y] t (0,0))) :
  ∃ V,(W.setCell ⟨b,0,none⟩ u).setCell ⟨b,1,none⟩ v=V/\V.heap[b]? = some (.cells #[u,v] t (0,0))/\(∀ n w0,Below n w0 W->n<=b->Below n w0 V) :=
 ⟨_,rfl,hSk (hSk h _) _,fun _ _ hb hn=>(hb.setCell (p:=⟨b,0,none⟩) hn _).setCell (p:=⟨b,1,none⟩) hn _⟩
set_option maxRecDepth 100000 in
set_option maxHeartbeats 1000000 in
theorem jio (b:Nat) (w:World) (h1:3<=b) (h2:b<=8):Calls Tryz.prog 182 #[.int .i64 b] w (jcp b (jaY b) w):=by
 have hib:=Lib.hid (fun w=>jdY b h1 h2 w);have hp:2^b<=2^8:=Nat.pow_le_pow_right (by omega) h2
 have hw:IntKind.i64.wrap (2^b)=((2^b:Nat):Int):=by
  have h9:∀ n:Nat,n<=256->IntKind.i64.wrap (n:Int)=n:=fun n h=>IntWalk.i64_in _ (by omega)
  simpa using h9 (2^b) hp
 unfold jaY jcp;generalize 2^b=len at hp hw ⊢;obtain⟨W0,hW0,hX0,hB0,hs0⟩:=jah w #[.int .i64 0,.string ⟨#[]⟩] 43;obtain⟨W1,hmk,hr1,hB1,hs1⟩:=jkg W0 len (by omega);have hX1:=(hB1.block _ (by omega)).trans hX0;have hcv:=je0 (cap:=len) hr1 (List.length_replicate ..);rw[hs0] at hmk hcv;generalize jaA (List.replicate len 0)=out at hcv ⊢;obtain⟨d0,d1⟩:=cl2 hX1;obtain⟨f0,f1⟩:=cz2 hX1;obtain⟨V,hV,hXV,hBV⟩:=jhI (.int .i64 b) (.string out) hX1;obtain⟨k0,k1⟩:=cl2 hXV;have HB:Hid (Below w.heap.size w V):=hBV _ _ (hB0.trans (hB1.mono hB0.size)) (Nat.le_refl _);clear hp hX0 hX1 hr1 hB0 hB1 hs1 hXV hBV;go_enter Tryz.func182,Tryz.ntmps182;go_wp2_with (go_at_call 179;refine (hib.out _).mono ?_;rintro e w' ⟨rfl,rfl⟩);exact bodyPost_ret (v:=.tuple #[.agg #[.int .i64 b,.string out],.int .i64 0]) (by simp[results,Tryz.f182,go_sem,k0,k1]) rfl ⟨rfl,HB.out⟩
set_option maxRecDepth 100000 in
set_option maxHeartbeats 1000000 in
theorem jgt (b n:Nat) (w:World) (h1:3<=b) (h2:b<=8) (hn:n<2^64):Calls Tryz.prog 207 #[.int .i64 b,.int .u64 n] w fun e w'=>e=.returned (.tuple #[.int .i64 (jka b n:Nat),.int .i64 (jcs b n:Nat)])/\w'=w:=by
 have hib:=Lib.hid (fun w=>jdY b h1 h2 w);have H12:Hid (3<=b/\b<=8):=⟨h1,h2⟩;have HN:Hid (n<2^64):=hn;have HA:=Lib.hid (jh5 b n h2 hn);have HAt:Hid (jka b n=n / 2^(64-b)):=rfl;have HS:=Lib.hid (fun k=>jqz n k);have HD:=Lib.hid (fun k=>jpz b n k);have HS0:=Lib.hid (jno b n (by omega));have HR1:=Lib.hid (fun k=>jpH b n k);have HR0:=Lib.hid (jnG b n (by omega));have HDg:Hid (∀ j,n / 2^j % 2=0\/n / 2^j % 2=1):=fun j=>by have:=Nat.mod_lt (n / 2^j) (show 0<2 by omega);omega
 generalize jka b n=at_ at HA HAt ⊢;generalize jcs b n=rk at HR1 HR0 ⊢;have ib:(b:Int)<=8:=by omega
 have ib3:(3:Int)<=b:=by omega
 clear hn;go_enter Tryz.func207,Tryz.ntmps207;go_wp2_with (go_at_call 179;refine (hib.out _).mono ?_;rintro e w' ⟨rfl,h9⟩;subst w');go_loopw [6,7,8] (fun av rv i wr=>∃ (k A R:Nat),i=.int .i64 ((63:Int)-k)/\k<=64/\av=.int .i64 A/\rv=.int .i64 R/\A<=255/\R<=70/\Hid (k<=b->A=n / 2^(64-k)/\R=1)/\Hid (b<=k->A=at_/\R=1+(k-b)/\jnn b n k)/\wr=w) (fun _ _ i _=>(intOf i+1).toNat)
 case atStart=>exact⟨0,0,1,rfl,Nat.zero_le _,rfl,rfl,by omega,by omega,fun _=>⟨(Nat.div_eq_of_lt HN.out).symm,rfl⟩,fun h=>by have:=H12.out.1;omega,rfl⟩
 case round =>
  obtain⟨k,A,R,rfl,hk,rfl,rfl,hA,hR,H1,H2,rfl⟩:=hrel;by_cases hlt:k<64
  ·obtain⟨j,hj⟩:∃ j:Nat,63-k=j:=⟨_,rfl⟩
   have e1:(63:Int)-(k:Int)=(j:Int):=by omega
   have hj63:j<=63:=by omega
   obtain⟨d,hd⟩:∃ d,n / 2^j % 2=d:=⟨_,rfl⟩;have hd2:d<=1:=by rcases HDg.out j with h | h<;>omega
   have HDd:=Lib.hid hd;have hdi:((n:Int) / 2^j % 2)=(d:Int):=by rw[<- hd];simp
   have hdt:((n:Int) / 2^j).tmod 2=(d:Int):=by rw[Int.tmod_eq_emod_of_nonneg (Int.ediv_nonneg (by omega) (Int.le_of_lt (by exact Int.pow_pos (by decide))))];exact hdi
   rw[e1];have HK:=Lib.hid hj;have j0:(0:Int)<=(j:Int):=by omega
   clear hd;by_cases hb:k<b
   ·have g1:(64:Int)-(b:Int)<=(j:Int):=by omega
    have HB:=Lib.hid hb;have HL:=Lib.hid hlt;clear hb hlt hk;go_wp2_with fail;go_roundw
    case rel =>
     obtain⟨a1,a2⟩:=H1.out (Nat.le_of_lt HB.out);have hs:=HS.out k HL.out;rw[HK.out,HDd.out,<- a1] at hs
     have hA2:2*A+d<=255:=by
      rw[<- hs];have hb8:=H12.out.2;have hbl:=HB.out
      have hp:n<2^(64-(k+1))*2^8:=by
       refine Nat.lt_of_lt_of_le HN.out ?_;rw[<- Nat.pow_add];exact Nat.pow_le_pow_right (by omega) (by omega)
      have:=Nat.div_lt_of_lt_mul hp;omega
     refine⟨k+1,2*A+d,R,by first | go_num | (congr 1;omega),by have:=HL.out;omega,by first | go_num | (congr 1;omega),rfl,hA2,hR,fun _=>⟨hs.symm,a2⟩,fun h=>?_,by first | rfl | trivial⟩;have hk1:k+1=b:=by have:=HB.out;omega
     subst hk1;exact⟨by rw[<- hs,HAt.out],by omega,HS0.out⟩
    case measure=>simp[intOf];try omega
   ·have g1:¬ (64:Int)-(b:Int)<=(j:Int):=by omega
    have HB:Hid (b<=k):=by rw[Hid];omega
    have HL:=Lib.hid hlt;obtain⟨a1,a2,a3⟩:=H2.out (by omega);have HZ:=Lib.hid a3;rcases (by omega:d=0\/d=1) with rfl | rfl
    ·have HNx:=Lib.hid (HD.out k HB.out HL.out HZ.out (by rw[HK.out];exact HDd.out))
     have HRk:Hid (A=at_/\R=1+(k-b)):=⟨a1,a2⟩;have hR2:R<=69:=by have:=H12.out.1;omega
     clear hb hlt hk a1 a2 a3;go_wp2_with fail;go_roundw
     case rel =>
      refine⟨k+1,A,R+1,by first | go_num | (congr 1;omega),by have:=HL.out;omega,rfl,by first | go_num | (congr 1;omega),hA,by omega,fun h=>by have:=HB.out;omega,fun _=>⟨HRk.out.1,by have:=HRk.out.2;have:=HB.out;omega,HNx.out⟩,by first | rfl | trivial⟩
     case measure=>simp[intOf];try omega
    ·have HF:=Lib.hid (HR1.out k HB.out HL.out HZ.out (by rw[HK.out];exact HDd.out))
     have HRk:Hid (A=at_/\R=1+(k-b)):=⟨a1,a2⟩;clear hb hlt hk a1 a2 a3;go_wp2_with fail;go_ret2;exact⟨by rw[HRk.out.1,HRk.out.2,HF.out];rfl,rfl⟩
  ·obtain rfl:k=64:=by omega
   obtain⟨a1,a2,a3⟩:=H2.out (by have:=H12.out.2;omega);have HF:=Lib.hid (HR0.out a3);have HRk:Hid (A=at_/\R=1+(64-b)):=⟨a1,a2⟩;have e1:(63:Int)-((64:Nat):Int) = -1:=rfl;rw[e1];clear a1 a2 a3 hk hlt;go_wp2_with fail;go_ret2;exact⟨by rw[HRk.out.1,HRk.out.2,HF.out,show 1+(64-b)=65-b by have:=H12.out.2;omega];rfl,rfl⟩
set_option maxRecDepth 100000 in
set_option maxHeartbeats 2000000 in
theorem jin (b:Nat) (r:List Nat) (n:Nat) (w:World) (h1:3<=b) (h2:b<=8) (hl:r.length=2^b) (hr:∀ i,r.getD i 0<=65-b) (hn:n<2^64) :
  Calls Tryz.prog 183 #[.agg #[.int .i64 b,.string (jaA r)],.int .u64 n] w (jcp b (jfA b r n) w):=by
 have hR:=Lib.hid (fun w1=>jef b r w1 h1 h2 hl hr);have hPl:=Lib.hid (fun w1=>jgt b n w1 h1 h2 hn);have hp:=jh5 b n h2 hn;have hrk:jcs b n<=65:=by unfold jcs;split<;>omega
 have hx:=hr (jka b n);have hnum:=jfa r (fun x hx=>by have:=jia hr x hx;omega);have hz:=jbW r;have hp8:2^b<=2^8:=Nat.pow_le_pow_right (by omega) h2;unfold jfA jcp;generalize jka b n=p at hPl hp hx ⊢;generalize jcs b n=k at hPl hrk ⊢;obtain⟨x,hxe⟩:∃ x,r.getD p 0=x:=⟨_,rfl⟩;have hxs:r[p]? = some x:=by rw[<- hxe,List.getD_eq_getElem?_getD,List.getElem?_eq_getElem (by omega)];rfl
 have hx65:x<=65:=by omega
 unfold jbo;rw[hxe];obtain⟨m,hm⟩:∃ m,max x k=m:=⟨_,rfl⟩;have hmi:max (x:Int) (k:Int)=(m:Int):=by omega
 have hm8:IntKind.u8.wrap (m:Int)=(m:Int):=by
  have:m<256:=by omega
  simp[IntKind.wrap,IntKind.bits,IntKind.signed];omega
 rw[hm];obtain⟨out,hout⟩:∃ out,jaA (r.set p m)=out:=⟨_,rfl⟩;rw[hout];have HOUT:=Lib.hid hout;have HXS:=Lib.hid hxs;have HL:=Lib.hid hl;generalize jaA r=s at hR hnum hz ⊢;have HN:=Lib.hid hnum;have hsz:s.size=2^b:=by omega
 obtain⟨W0,hW0,hX0,hXr,hB0,hs0⟩:=jaS w #[.int .i64 b,.string s] 43 #[.int .i64 0,.string ⟨#[]⟩] 43;have HX0:=Lib.hid hX0;have HXr:=Lib.hid hXr;have HB0:=Lib.hid hB0;obtain⟨c0,c1⟩:=cl2 hX0;have HSZ:=Lib.hid hsz;have pi:(p:Int)<((2^b:Nat):Int):=by omega
 clear hX0 hXr hB0 hnum hz hsz hout hxs hl hr hx hxe h1 h2 hn hm;go_enter Tryz.func183,Tryz.ntmps183;go_wp2_with fail;refine (hR.out _).mono ?_;rintro e w1 ⟨rfl,hb1⟩;have hX1:=jak hb1 (Nat.le_refl _) HX0.out;have hXr1:=jak hb1 (Nat.le_refl _) HXr.out;obtain⟨d0,d1⟩:=cl2 hX1;have HB1:=Lib.hid hb1;obtain⟨W2,cap,hcv,hr2,hB2,hs2⟩:=jjz w1 s;rw[HN.out] at hr2;rw[HSZ.out] at hcv;generalize hg:w1.heap.size=g at hcv hr2 hB2 hs2;have hgw:w.heap.size+1<g:=by rw[<- hg];have:=hb1.size;omega
 have q0:=hr2.cell HXS.out;have q1:=hr2.frozen HXS.out;obtain⟨W3,hW3⟩:∃ W3,W2.setCell ⟨g,p,none⟩ (.int .u8 (m:Int))=W3:=⟨_,rfl⟩;have hr3:RegsAt W3 g (r.set p m):=by rw[<- hW3];exact hr2.set p m
 have hX3:W3.heap[w.heap.size]? = some (.cells #[.int .i64 b,.string s] 43 (0,0)):=by
  rw[<- hW3];exact (jam (p:=⟨g,p,none⟩) (by show g≠_;omega) _).trans ((hB2.block _ (by omega)).trans hX1)
 have hXr3:W3.heap[w.heap.size+1]? = some (.cells #[.int .i64 0,.string ⟨#[]⟩] 43 (0,0)):=by
  rw[<- hW3];exact (jam (p:=⟨g,p,none⟩) (by show g≠_;omega) _).trans ((hB2.block _ (by omega)).trans hXr1)
 have hB3:Below w.heap.size w W3:=by
  rw[<- hW3];exact ((HB0.out.trans (HB1.out.mono HB0.out.size)).trans (hB2.mono (by omega))).setCell (p:=⟨g,p,none⟩) (by show w.heap.size<=g;omega) _
 have hcs:=je0 (cap:=cap) hr3 (List.length_set.trans HL.out);rw[HOUT.out] at hcs;obtain⟨u0,u1⟩:=cl2 hX3;obtain⟨y0,y1⟩:=cl2 hXr3;obtain⟨f0,f1⟩:=cz2 hXr3;obtain⟨V,hV,hXV,hBV⟩:=jhI (.int .i64 b) (.string out) hXr3;obtain⟨k0,k1⟩:=cl2 hXV;have HBV:Hid (Below w.heap.size w V):=hBV _ _ hB3 (by omega);clear hX1 hXr1 hg hr2 hB2 hs2 hr3 hX3 hXr3 hB3 hXV hBV hb1;go_wp2_with (go_at_call 207;refine (hPl.out _).mono ?_;rintro e w' ⟨rfl,h9⟩;subst w');exact bodyPost_ret (v:=.tuple #[.agg #[.int .i64 b,.string out],.int .i64 0]) (by simp[results,Tryz.f183,go_sem,k0,k1]) rfl ⟨rfl,HBV.out⟩
theorem jkb (b:Nat) (r:List Nat) (l:List Nat) (n:Nat):jct b r (l++[n])=jfA b (jct b r l) n:=by unfold jct;rw[List.foldl_append];rfl
set_option maxRecDepth 100000 in
set_option maxHeartbeats 2000000 in
theorem jjs (b:Nat) (l:List Int) (a:Option Addr) (len cap:Nat) (w:World) (h1:3<=b) (h2:b<=8) (hL:SlE jbH 1 w.heap.size w a len l) (hu:jdK l) (hlen:len<=1000) :
  Calls Tryz.prog 145 #[.int .i64 b,.slice a len cap] w (jcp b (jct b (jaY b) (l.map Int.toNat)) w):=by
 have hll:=hL.1;obtain⟨W0,hW0,hXr,hB0,hs0⟩:=jah w #[.int .i64 0,.string ⟨#[]⟩] 43;have HL:=Lib.hid (hL.go hB0);have HN:Hid (∀ W,Calls Tryz.prog 182 #[.int .i64 b] W (jcp b (jaY b) W)):=fun W=>jio b W h1 h2
 have HA:Hid (∀ (r:List Nat) (n:Nat) W,r.length=2^b->(∀ i,r.getD i 0<=65-b)->n<2^64->Calls Tryz.prog 183 #[.agg #[.int .i64 b,.string (jaA r)],.int .u64 n] W (jcp b (jfA b r n) W)):=fun r n W hl hr hn=>jin b r n W h1 h2 hl hr hn
 have HLn:Hid (∀ m:List Nat,(jct b (jaY b) m).length=2^b):=fun m=>by rw[jdO];exact List.length_replicate ..
 have HLe:Hid (∀ (m:List Nat) i,(jct b (jaY b) m).getD i 0<=65-b):=fun m=>jh6 b h2 m _ (ji2 b _)
 have HS0:Hid (jct b (jaY b) ((l.take 0).map Int.toNat)=jaY b):=rfl;have HSn:Hid (∀ (k:Nat) (x:Int),l[k]? = some x->jct b (jaY b) ((l.take (k+1)).map Int.toNat)=jfA b (jct b (jaY b) ((l.take k).map Int.toNat)) x.toNat):=fun k x hx=>by rw[jan hx,List.map_append];exact jkb ..
 obtain⟨S,hS⟩:∃ S:Nat->List Nat,∀ k,S k=jct b (jaY b) ((l.take k).map Int.toNat):=⟨_,fun _=>rfl⟩;have HS:=Lib.hid hS;have HEn:Hid (S len=jct b (jaY b) (l.map Int.toNat)):=by rw[Hid,hS,List.take_of_length_le (by omega)]
 have HU:=Lib.hid hu;have HLL:=Lib.hid hll;have HXr:=Lib.hid hXr;have HB0:=Lib.hid hB0;unfold jcp;rw[<- HEn.out];obtain⟨out,hout⟩:∃ out,jaA (S len)=out:=⟨_,rfl⟩;rw[hout];have HOUT:=Lib.hid hout;clear hXr hB0 hL hll hu h1 h2 hS hout;go_enter Tryz.func145,Tryz.ntmps145;go_wp2_with fail;refine (HN.out _).mono ?_;rintro e w1 ⟨rfl,hb1⟩;obtain⟨W2,hW2,hX2,hB2,hs2⟩:=jah w1 #[.int .i64 b,.string (jaA (jaY b))] 43;have hz1:=hb1.size;have hb02:=hb1.trans (hB2.mono hb1.size);have HX2:Hid (W2.heap[w1.heap.size]? = some (.cells #[.int .i64 b,.string (jaA (S 0))] 43 (0,0))):=by rw[Hid,HS.out,HS0.out];exact hX2
 have HB2:=Lib.hid hb02;clear hX2 hB2 hs2 hb1 hb02;go_wp2_with fail;go_loopw [7,8] (fun ev i wr=>∃ k:Nat,ev=.int .i64 0/\i=.int .i64 k/\k<=len/\Hid (wr.heap[w1.heap.size]? = some (.cells #[.int .i64 b,.string (jaA (S k))] 43 (0,0)))/\Hid (Below W0.heap.size W0 wr)) (fun _ i _=>len-(intOf i).toNat)
 case atStart=>exact⟨0,rfl,rfl,Nat.zero_le _,HX2,HB2⟩
 case round =>
  obtain⟨k,rfl,rfl,hk,HX,HB⟩:=hrel;have i0:(0:Int)<=(k:Int):=Int.natCast_nonneg _;have hXk:=HX.out;obtain⟨c0,c1⟩:=cl2 hXk;by_cases hlt:k<len
  ·obtain⟨x,hx⟩:∃ x,l[k]? = some x:=⟨_,List.getElem?_eq_getElem (by rw[<- HLL.out];exact hlt)⟩
   obtain⟨bb,off,rfl,hbb,hc⟩:=HL.out.2 k x hx
   have hc0:wr.cell? ⟨bb,off+k,none⟩=some (.int .u64 x):=by
    have h1:=hc 0 (by omega);simp only[Nat.mul_one,Nat.add_zero] at h1;exact (HB.out.cell (p:=⟨bb,off+k,none⟩) hbb).trans h1
   obtain⟨x0,x1⟩:=HU.out x (List.mem_of_getElem? hx);obtain⟨n,rfl⟩:=Int.eq_ofNat_of_zero_le x0;have HSk:Hid (S (k+1)=jfA b (S k) n):=by rw[Hid,HS.out,HS.out,HSn.out k _ hx,Int.toNat_natCast]
   have HAd:=Lib.hid (HA.out (S k) n wr.drew (by rw[HS.out];exact HLn.out _) (by rw[HS.out];exact HLe.out _) (by omega));have i1:(k:Int)<(len:Int):=by omega
   obtain⟨f0,f1⟩:=cz2 hXk;generalize jaA (S k)=sk at hXk c1 HAd HX;have HXk:Hid (wr.drew.heap[w1.heap.size]? = some (.cells #[.int .i64 b,.string sk] 43 (0,0))):=hXk;have hBd:Below W0.heap.size W0 wr.drew:=HB.out.drew;have HB:=Lib.hid hBd;clear hc hx hXk HX x0 x1 hBd;have HZ:Hid (W0.heap.size<=w1.heap.size):=hz1;go_wp2_with fail
   -- region Of
   refine wp_region_any (by kernel_rfl) ?_;change wpAny _ _ _ _ _ _ _ (World.drew _);refine tk 1 (v:=?_) rfl ?_ ?_;rotate_left
   ·intro w;go_simp;with_reducible rfl
   refine tk 2 (v:=?_) rfl ?_ ?_;rotate_left
   ·intro w;go_simp;with_reducible rfl
   refine tk 3 (v:=?_) rfl ?_ ?_;rotate_left
   ·intro w;go_simp;with_reducible rfl
   refine wpAny_ready (rs:=[0,4]) (by kernel_rfl) (by simp) ?_;refine AllReady.cons rfl (fun K hK=>?_) ?_
   ·go_simp
    refine hK _ _ ?_;clear hK K;refine wpAny_ready (rs:=[4]) (by kernel_rfl) (by simp) ?_;refine AllReady.cons rfl (fun K hK=>?_) ?_
    ·go_simp
     refine hK _ _ ?_;clear hK K;refine wpAny_ready (rs:=[5]) (by kernel_rfl) (by simp) ?_;refine AllReady.cons rfl (fun K hK=>?_) ?_
     ·go_simp
      refine HAd.out.mono ?_;rintro e w3 ⟨rfl,hb3⟩;have hX3:=jak hb3 (Nat.le_refl _) HXk.out;obtain⟨g0,g1⟩:=cz2 hX3;obtain⟨d0,d1⟩:=cl2 hX3;obtain⟨V,hV,hXV,hBV⟩:=jhI (.int .i64 b) (.string (jaA (jfA b (S k) n))) hX3;refine hK _ _ ?_;clear hK K;refine tk 6 (v:=?_) rfl ?_ ?_;rotate_left
      ·intro w;go_simp;with_reducible rfl
      refine tk 7 (v:=?_) rfl ?_ ?_;rotate_left
      ·intro w;go_simp;with_reducible rfl
      refine tk 8 (v:=?_) rfl ?_ ?_;rotate_left
      ·intro w;go_simp;with_reducible rfl
      refine wpAny_ready (rs:=[9]) (by kernel_rfl) (by simp) ?_;refine AllReady.cons rfl (fun K hK=>?_) ?_
      ·go_simp
       refine hK _ _ ?_;clear hK K;refine wpAny_ready (rs:=[10]) (by kernel_rfl) (by simp) ?_;refine AllReady.cons rfl (fun K hK=>?_) ?_
       ·go_simp
        refine hK _ _ ?_;clear hK K;refine wpAny_done (by kernel_rfl) ?_ _;go_wp2_with fail
        all_goals go_roundw
        case rel=>exact⟨k+1,rfl,by go_num,by omega,by rw[Hid,HSk.out];exact hXV,hBV _ _ (HB.out.trans (hb3.mono HB.out.size)) HZ.out⟩
        case measure=>simp[intOf];try omega
       exact AllReady.nil
      exact AllReady.nil
     exact AllReady.nil
    exact AllReady.nil
   refine AllReady.cons rfl (fun K hK=>?_) ?_
   ·go_simp
    refine hK _ _ ?_;clear hK K;refine wpAny_ready (rs:=[0]) (by kernel_rfl) (by simp) ?_;refine AllReady.cons rfl (fun K hK=>?_) ?_
    ·go_simp
     refine hK _ _ ?_;clear hK K;refine wpAny_ready (rs:=[5]) (by kernel_rfl) (by simp) ?_;refine AllReady.cons rfl (fun K hK=>?_) ?_
     ·go_simp
      refine HAd.out.mono ?_;rintro e w3 ⟨rfl,hb3⟩;have hX3:=jak hb3 (Nat.le_refl _) HXk.out;obtain⟨g0,g1⟩:=cz2 hX3;obtain⟨d0,d1⟩:=cl2 hX3;obtain⟨V,hV,hXV,hBV⟩:=jhI (.int .i64 b) (.string (jaA (jfA b (S k) n))) hX3;refine hK _ _ ?_;clear hK K;refine tk 6 (v:=?_) rfl ?_ ?_;rotate_left
      ·intro w;go_simp;with_reducible rfl
      refine tk 7 (v:=?_) rfl ?_ ?_;rotate_left
      ·intro w;go_simp;with_reducible rfl
      refine tk 8 (v:=?_) rfl ?_ ?_;rotate_left
      ·intro w;go_simp;with_reducible rfl
      refine wpAny_ready (rs:=[9]) (by kernel_rfl) (by simp) ?_;refine AllReady.cons rfl (fun K hK=>?_) ?_
      ·go_simp
       refine hK _ _ ?_;clear hK K;refine wpAny_ready (rs:=[10]) (by kernel_rfl) (by simp) ?_;refine AllReady.cons rfl (fun K hK=>?_) ?_
       ·go_simp
        refine hK _ _ ?_;clear hK K;refine wpAny_done (by kernel_rfl) ?_ _;go_wp2_with fail
        all_goals go_roundw
        case rel=>exact⟨k+1,rfl,by go_num,by omega,by rw[Hid,HSk.out];exact hXV,hBV _ _ (HB.out.trans (hb3.mono HB.out.size)) HZ.out⟩
        case measure=>simp[intOf];try omega
       exact AllReady.nil
      exact AllReady.nil
     exact AllReady.nil
    exact AllReady.nil
   exact AllReady.nil
   -- end
  ·obtain rfl:k=len:=by omega
   rw[HOUT.out] at hXk c1;have hXr:wr.heap[w.heap.size]? = some (.cells #[.int .i64 0,.string ⟨#[]⟩] 43 (0,0)):=jak HB.out (Nat.le_refl _) HXr.out;obtain⟨t0,t1⟩:=cl2 hXr;obtain⟨f0,f1⟩:=cz2 hXr;obtain⟨V,hV,hXV,hBV⟩:=jhI (.int .i64 b) (.string out) hXr;obtain⟨v0,v1⟩:=cl2 hXV;have HBV:Hid (Below w.heap.size w V):=hBV _ _ (HB0.out.trans (HB.out.mono HB0.out.size)) (Nat.le_refl _);clear hXr hXV hBV hXk HX;go_wp2_with fail;exact bodyPost_ret (v:=.tuple #[.agg #[.int .i64 b,.string out],.int .i64 0]) (by simp[results,Tryz.f145,go_sem,v0,v1]) rfl ⟨rfl,HBV.out⟩
set_option maxRecDepth 100000 in
set_option maxHeartbeats 4000000 in
theorem jgs (b:Nat) (r:List Nat) (w:World) (h1:4<=b) (h2:b<=8) (hl:r.length=2^b) (hr:∀ i,r.getD i 0<=65-b) :
  Calls Tryz.prog 146 #[.agg #[.int .i64 b,.string (jaA r)]] w (jcp (b-1) (jeo b r) w):=by
 have hR:=Lib.hid (fun w1=>jef b r w1 (by omega) h2 hl hr);have hby:Hid (∀ (i:Nat) (hi:i<(jaA r).size),((jaA r)[i]'hi).toNat=r.getD i 0):=fun i hi=>jlf r (fun x hx=>by have:=jia hr x hx;omega) i hi
 have hz:=jbW r;rw[hl] at hz;unfold jcp;rw[show (((b-1:Nat)):Int)=(b:Int)-1 by omega];obtain⟨out,hout⟩:∃ out,jaA (jeo b r)=out:=⟨_,rfl⟩;rw[hout];have HOUT:=Lib.hid hout;have HRb:=Lib.hid hr;have HK0:=Lib.hid (jqb b r);have HKA:=Lib.hid (jk1 b r);have HKL:=Lib.hid (fun k=>jcC b r k);have HKS:=Lib.hid (fun k=>jjc b r k);have HKT:=Lib.hid (fun k i (hi:i<2^(b-1))=>jgk b r k i hi);have hN8:2^(b-1)<=2^7:=Nat.pow_le_pow_right (by omega) (by omega);have hzN:(jaA r).size=2*2^(b-1):=by rw[hz,<- Nat.pow_succ',show (b-1).succ=b by omega]
 have HN0:Hid (jaY (b-1)=List.replicate (2^(b-1)) 0):=rfl;generalize jaA r=s at hR hby hzN ⊢;generalize 2^(b-1)=N at hN8 hzN HKA HKL HKT HN0;have hN128:N<=128:=hN8;obtain⟨W0,hW0,hX0,hXr,hB0,hs0⟩:=jaS w #[.int .i64 b,.string s] 43 #[.int .i64 0,.string ⟨#[]⟩] 43;have HX:Hid (∀ W,Below W0.heap.size W0 W->W.heap[w.heap.size]? = some (.cells #[.int .i64 b,.string s] 43 (0,0))/\W.heap[w.heap.size+1]? = some (.cells #[.int .i64 0,.string ⟨#[]⟩] 43 (0,0))):=fun W hb=>⟨jak hb (Nat.le_refl _) hX0,jak hb (Nat.le_refl _) hXr⟩
 have HB0:=Lib.hid hB0;obtain⟨c0,c1⟩:=cl2 hX0;have HZN:=Lib.hid hzN;have hb3:((b:Int)==3)=false:=by rw[beq_eq_false_iff_ne];omega
 have hq1:(s.size:Int) / 2=(N:Int):=by omega
 have hq2:(s.size:Int).tdiv 2=(N:Int):=by rw[Int.tdiv_eq_ediv_of_nonneg (Int.natCast_nonneg _)];exact hq1
 have hb8:(b:Int)<=8:=by omega
 have hb4:(4:Int)<=b:=by omega
 clear hX0 hXr hB0 hz hout hl hr hzN hN8;go_enter Tryz.func146,Tryz.ntmps146;go_wp2_with fail;refine (hR.out _).mono ?_;rintro e w1 ⟨rfl,hb1⟩;obtain⟨hX1,hXr1⟩:=HX.out w1 hb1;obtain⟨x0,x1⟩:=cl2 hX1;obtain⟨W3,hmk,hr3,hB3,hs3⟩:=jkg w1 N (by omega);generalize hg:w1.heap.size=g at hmk hr3 hB3 hs3;have hz01:=hb1.size;have hgw:w.heap.size+1<g:=by omega
 have HK:Hid (∀ W,OnlyAt g W3 W->W.heap[w.heap.size]? = some (.cells #[.int .i64 b,.string s] 43 (0,0))/\W.heap[w.heap.size+1]? = some (.cells #[.int .i64 0,.string ⟨#[]⟩] 43 (0,0))):=fun W ho =>
  ⟨(ho.2 _ (by omega)).trans ((hB3.block _ (by omega)).trans hX1),(ho.2 _ (by omega)).trans ((hB3.block _ (by omega)).trans hXr1)⟩
 have HB3:Hid (Below w.heap.size w W3):=(HB0.out.trans (hb1.mono HB0.out.size)).trans (hB3.mono (by omega));have HR3:Hid (RegsAt W3 g (jlP b r 0)):=by rw[HK0.out,HN0.out];exact hr3
 clear hX1 hXr1 hr3 hB3 hs3 hb1 hg hz01;go_wp2_with fail;go_loopw [5] (fun i wr=>∃ k:Nat,i=.int .i64 k/\k<=N/\Hid (OnlyAt g W3 wr)/\Hid (RegsAt wr g (jlP b r k))/\Hid (Below w.heap.size w wr)) (fun i _=>N-(intOf i).toNat)
 case atStart=>exact⟨0,rfl,Nat.zero_le _,OnlyAt.refl _ _,HR3,HB3⟩
 case round =>
  obtain⟨k,rfl,hk,HO,HRk,HBk⟩:=hrel;obtain⟨hX4,hXr4⟩:=HK.out wr HO.out;obtain⟨u0,u1⟩:=cl2 hX4;have i0:(0:Int)<=(k:Int):=Int.natCast_nonneg _;by_cases hlt:k<N
  ·have hs1:2*k<s.size:=by rw[HZN.out];omega
   have hs2:2*k+1<s.size:=by rw[HZN.out];omega
   have ex:=hby.out (2*k) hs1;have ey:=hby.out (2*k+1) hs2;have HS:=Lib.hid (HKS.out k);have hxb:=HRb.out (2*k);have hkt:=HKT.out k k hlt;rw[if_neg (by omega)] at hkt;have hkl:=HKL.out k;generalize r.getD (2*k) 0=x at ex HS hxb;generalize r.getD (2*k+1) 0=y at ey HS;generalize jlP b r k=r0 at HRk HS hkt hkl
   have hxs:r0[k]? = some 0:=by
    rw[List.getD_eq_getElem?_getD] at hkt;rw[List.getElem?_eq_getElem (by omega)] at hkt ⊢;exact congrArg some hkt
   have q0:=HRk.out.cell hxs;have q1:=HRk.out.frozen hxs;have i1:(k:Int)<(N:Int):=by omega
   have HG:Hid (w.heap.size<=g):=by show w.heap.size<=g;omega
   have ht:∀ m,jbo r0 k m=r0.set k m:=fun m=>by unfold jbo;rw[hkt,Nat.zero_max]
   have HT:=Lib.hid ht;have hlen0:r0.length=N:=hkl;clear hX4 hXr4 hkt hkl hxs ht;by_cases hx:x=0
   ·subst hx
    by_cases hy:y=0
    ·subst hy
     go_wp2_with fail
     all_goals go_roundw
     case rel=>exact⟨k+1,by go_num,by omega,HO.out,by rw[Hid,<- HS.out];show RegsAt _ g (jbo (jbo r0 k 0) k 0);rw[jcv,jcv];exact HRk.out,HBk.out⟩
     case measure=>simp[intOf];try omega
    ·have hy0:(0:Int)<(y:Int):=by omega
     have h1y:Hid (jmi y=1):=if_neg hy;have hmx:max (0:Int) 1=1:=rfl;clear hy;go_wp2_with fail
     all_goals go_roundw
     case rel=>exact⟨k+1,by go_num,by omega,HO.out.set k _,by rw[Hid,<- HS.out,show upR 0=0 from rfl,jcv,h1y.out,HT.out];exact HRk.out.set k 1,HBk.out.setCell (p:=⟨g,k,none⟩) HG.out _⟩
     case measure=>simp[intOf];try omega
   ·have hx0:(0:Int)<(x:Int):=by omega
    have hup:Hid (upR x=x+1):=if_neg hx;have hm:((x:Int)+1) % 256=(x:Int)+1:=by omega
    have hm2:IntKind.u8.wrap ((x:Int)+1)=(x:Int)+1:=by simp[IntKind.wrap,IntKind.bits,IntKind.signed];omega
    have hmx:max ((x:Int)+1) 1=(x:Int)+1:=by omega
    have hx1:Hid (∀ (l:List Nat),(l.set k (x+1)).length=N->(jbo (l.set k (x+1)) k 1)=(l.set k (x+1)).set k (x+1)):=fun l hl=>by
     unfold jbo;rw[List.length_set] at hl;rw[List.getD_eq_getElem?_getD,List.getElem?_set,if_pos rfl,if_pos (by omega)];simp
    have HLr:Hid ((r0.set k (x+1)).length=N):=by rw[Hid,List.length_set,hlen0]
    clear hx;obtain⟨W4,hW4⟩:∃ W4,wr.setCell ⟨g,k,none⟩ (.int .u8 ((x:Int)+1))=W4:=⟨_,rfl⟩;have hO4:OnlyAt g W3 W4:=by rw[<- hW4];exact HO.out.set k _
    have hR4:RegsAt W4 g (r0.set k (x+1)):=by rw[<- hW4];exact HRk.out.set k (x+1)
    have hB4:Below w.heap.size w W4:=by rw[<- hW4];exact HBk.out.setCell (p:=⟨g,k,none⟩) HG.out _
    obtain⟨hX5,-⟩:=HK.out W4 hO4;obtain⟨z0,z1⟩:=cl2 hX5
    have hx5:(r0.set k (x+1))[k]? = some (x+1):=by
     have:=HLr.out;rw[List.length_set] at this;rw[List.getElem?_set,if_pos rfl,if_pos (by omega)]
    have q2:W4.cell? ⟨g,k,none⟩=some (.int .u8 ((x:Int)+1)):=hR4.cell hx5;have q3:=hR4.frozen hx5;have HO4:=Lib.hid hO4;have HR4:=Lib.hid hR4;have HB4:=Lib.hid hB4;clear hX5 hx5 hO4 hR4 hB4;by_cases hy:y=0
    ·subst hy
     go_wp2_with fail
     all_goals go_roundw
     case rel=>exact⟨k+1,by go_num,by omega,HO4.out,by rw[Hid,<- HS.out,hup.out,HT.out];show RegsAt _ g (jbo (r0.set k (x+1)) k 0);rw[jcv];exact HR4.out,HB4.out⟩
     case measure=>simp[intOf];try omega
    ·have hy0:(0:Int)<(y:Int):=by omega
     have h1y:Hid (jmi y=1):=if_neg hy;clear hy;go_wp2_with fail
     all_goals go_roundw
     case rel=>exact⟨k+1,by go_num,by omega,HO4.out.set k _,by rw[Hid,<- HS.out,hup.out,HT.out,h1y.out,hx1.out _ HLr.out];exact HR4.out.set k (x+1),HB4.out.setCell (p:=⟨g,k,none⟩) HG.out _⟩
     case measure=>simp[intOf];try omega
  ·obtain rfl:k=N:=by omega
   have hcs:=je0 (cap:=k) HRk.out (HKL.out k);rw[HKA.out,HOUT.out] at hcs;obtain⟨t0,t1⟩:=cl2 hXr4;obtain⟨f0,f1⟩:=cz2 hXr4;obtain⟨V,hV,hXV,hBV⟩:=jhI (.int .i64 ((b:Int)-1)) (.string out) hXr4;obtain⟨v0,v1⟩:=cl2 hXV;have HBV:Hid (Below w.heap.size w V):=hBV _ _ HBk.out (by omega);clear hX4 hXr4 hXV hBV;go_wp2_with fail;exact bodyPost_ret (v:=.tuple #[.agg #[.int .i64 ((b:Int)-1),.string out],.int .i64 0]) (by simp[results,Tryz.f146,go_sem,v0,v1]) rfl ⟨rfl,HBV.out⟩
theorem jmF (c:Nat) (l:List Int) (r j:Nat) (hr:r=0\/r=1) (hj:j<c / 2):(jdf c l)[r*(c / 2)+j]? = some (jdl (l.getD (r*c+j) 0) (l.getD (r*c+c / 2+j) 0)):=by
 have h1:r*(c / 2)+j<c / 2+c / 2:=by rcases hr with rfl | rfl<;>omega
 have h2:(r*(c / 2)+j) / (c / 2)=r:=by rw[Nat.mul_comm,Nat.mul_add_div (by omega),Nat.div_eq_of_lt hj,Nat.add_zero]
 have h3:(r*(c / 2)+j) % (c / 2)=j:=by rw[Nat.mul_comm,Nat.mul_add_mod,Nat.mod_eq_of_lt hj]
 unfold jdf;rw[List.getElem?_map,List.getElem?_range h1,Option.map_some,h2,h3,show r*c+j+c / 2=r*c+c / 2+j by omega]
end Go.Proofs.YtieknocphiceoaaGreatDoor
namespace Go.Proofs.YtieknocphiceoaaGreatDoor
open Go Go.RowKit Go.Shelf
theorem jhz {w:World} {base e size n:Nat} {v:Value} {xs:List Value} (h:w.ownsRow base e size v n xs):∃ a cap,v=.slice a n cap:=by
 rcases h.2 with⟨rfl,rfl⟩ | ⟨g,cap,cur,rfl,_⟩
 ·exact⟨none,0,rfl⟩
 ·exact⟨_,cap,rfl⟩
theorem jeW {A B:World} {base e size n:Nat} {v:Value} {xs:List Value} (h:A.ownsRow base e size v n xs) (hb:Below A.heap.size A B):B.ownsRow base e size v n xs:=by
 refine⟨h.1,?_⟩;rcases h.2 with h2 | ⟨g,cap,cur,rfl,h3,h4,h5⟩
 ·exact .inl h2
 ·exact .inr ⟨g,cap,cur,rfl,h3,jak hb (Nat.le_refl _) h4,h5⟩
def GrowN (W:World) (base:Nat) (v:Value) (l:List Int):Prop:=W.ownsRow base 55 1 v l.length (l.map (Value.int .u64))
theorem GrowN.push {W w0:World} {B base:Nat} {v:Value} {l:List Int} (h:GrowN W base v l) (hB:Below B w0 W) (hBb:B<=base) (hbase:base<=W.heap.size) (hn:l.length<4294967281) (x:Int) :
  ∃ g cap w1,(Builtin.append_ #[39,39] 39 #[v,.slice (some ⟨W.heap.size,0,none⟩) 1 1]).run Tryz.prog (W.alloc (.cells #[.int .u64 x] 55))=.ok (.slice (some ⟨g,0,none⟩) (l.length+1) cap) w1 /\
   GrowN w1 base (.slice (some ⟨g,0,none⟩) (l.length+1) cap) (l++[x])/\Below B w0 w1/\W.heap.size<w1.heap.size/\(∀ k,k<base->w1.heap[k]? = W.heap[k]?):=by
 obtain⟨g,cap,w1,h1,h2,h3,h4,h5,-⟩:=jax Tryz.prog 39 jiA jh9 rfl (by decide) (W:=W) h hB hBb hbase [.int .u64 x] rfl (by simp[Value.oneCell']) hn (by decide);refine⟨g,cap,w1,h1,?_,h3,h4,h5⟩;unfold GrowN;rw[List.length_append,List.map_append];exact h2
theorem GrowN.slC {W:World} {base:Nat} {v:Value} {l:List Int} (h:GrowN W base v l):∃ a cap,v=.slice a l.length cap/\SlC jbH 1 W.heap.size W a l.length cap l:=by
 have h1:W.ownsRow base 55 1 v l.length (l.flatMap jbH):=by rw[jkV];exact h
 obtain⟨a,cap,hv,hS,-⟩:=jaE (enc:=jbH) (fun _=>rfl) h1;exact⟨a,cap,hv,hS⟩
theorem GrowN.form {W:World} {base:Nat} {v:Value} {l:List Int} (h:GrowN W base v l):∃ a cap,v=.slice a l.length cap:=jhz h
theorem GrowN.go {A B:World} {base:Nat} {v:Value} {l:List Int} (h:GrowN A base v l) (hb:Below A.heap.size A B):GrowN B base v l:=jeW h hb
attribute [-go_sem] Builtin.append_
end Go.Proofs.YtieknocphiceoaaGreatDoor
namespace Go.Proofs.YtieknocphiceoaaGreatDoor
open Go Go.RowKit
def jqN (l:List UInt8):List UInt8:=l.take (Lib.decodeL l).2
def jmj (s:ByteArray) (pos:Nat):List (List UInt8):=(rl s pos).map fun p=>jqN (s.data.toList.drop p.1)
theorem jnX (s:ByteArray) (pos:Nat) (h:pos<s.size):jmj s pos=jqN (s.data.toList.drop pos)::jmj s (pos+(Lib.decodeL (s.data.toList.drop pos)).2):=by
 unfold jmj;rw[jd0 s pos h,List.map_cons,Lib.decodeL_drop]
theorem jpU (s:ByteArray) (pos:Nat) (h:¬ pos<s.size):jmj s pos=[]:=by
 unfold jmj;rw[jej s pos h];rfl
theorem jpV (s:ByteArray) (pos:Nat):(jmj s pos).length=(rl s pos).length:=by unfold jmj;rw[List.length_map]
end Go.Proofs.YtieknocphiceoaaGreatDoor
namespace Go.Proofs.YtieknocphiceoaaGreatDoor
open Go Go.RowKit Go.Shelf
def GrowT (W:World) (base:Nat) (v:Value) (l:List ByteArray):Prop:=W.ownsRow base 9 1 v l.length (l.map Value.string)
theorem GrowT.push {W w0:World} {B base:Nat} {v:Value} {l:List ByteArray} (h:GrowT W base v l) (hB:Below B w0 W) (hBb:B<=base) (hbase:base<=W.heap.size) (hn:l.length<4294967281) (x:ByteArray) :
  ∃ g cap w1,(Builtin.append_ #[141,141] 141 #[v,.slice (some ⟨W.heap.size,0,none⟩) 1 1]).run Tryz.prog (W.alloc (.cells #[.string x] 9))=.ok (.slice (some ⟨g,0,none⟩) (l.length+1) cap) w1 /\
   GrowT w1 base (.slice (some ⟨g,0,none⟩) (l.length+1) cap) (l++[x])/\Below B w0 w1/\W.heap.size<w1.heap.size/\(∀ k,k<base->w1.heap[k]? = W.heap[k]?):=by
 obtain⟨g,cap,w1,h1,h2,h3,h4,h5,-⟩:=jax Tryz.prog 141 jbQ jbP rfl (by decide) (W:=W) h hB hBb hbase [.string x] rfl (by simp[Value.oneCell']) hn (by decide);refine⟨g,cap,w1,h1,?_,h3,h4,h5⟩;unfold GrowT;rw[List.length_append,List.map_append];exact h2
theorem jqL (l:List ByteArray):l.flatMap jgW=l.map Value.string:=by
 induction l with
 | nil=>rfl
 | cons x xs ih=>rw[List.flatMap_cons,ih];rfl
theorem GrowT.slC {W:World} {base:Nat} {v:Value} {l:List ByteArray} (h:GrowT W base v l):∃ a cap,v=.slice a l.length cap/\SlC jgW 1 W.heap.size W a l.length cap l:=by
 have h1:W.ownsRow base 9 1 v l.length (l.flatMap jgW):=by rw[jqL];exact h
 obtain⟨a,cap,hv,hS,-⟩:=jaE (enc:=jgW) (fun _=>rfl) h1;exact⟨a,cap,hv,hS⟩
theorem GrowT.form {W:World} {base:Nat} {v:Value} {l:List ByteArray} (h:GrowT W base v l):∃ a cap,v=.slice a l.length cap:=jhz h
theorem GrowT.go {A B:World} {base:Nat} {v:Value} {l:List ByteArray} (h:GrowT A base v l) (hb:Below A.heap.size A B):GrowT B base v l:=jeW h hb
def jlO (s:ByteArray):List (List UInt8):=if jbc s then jmj s 0 else []
def jhO (s:ByteArray) (w:World) (e:Ending) (w':World):Prop :=
 ∃ a cap,∃ l:List ByteArray,e=.returned (.tuple #[.slice a l.length cap,.bool (jbc s)])/\l.map (·.data.toList)=jlO s/\SlC jgW 1 w'.heap.size w' a l.length cap l/\Below w.heap.size w w'
theorem jeI (s:ByteArray) (pos:Nat):(s.extract pos s.size).data.toList=s.data.toList.drop pos:=by
 rw[ByteArray.data_extract,Array.toList_extract,List.extract_eq_take_drop];exact List.take_of_length_le (by rw[List.length_drop,Array.length_toList];exact Nat.le_refl _)
theorem jqH (s:ByteArray) (pos n:Nat):(s.extract pos s.size).extract n (s.extract pos s.size).size=s.extract (pos+n) s.size:=by
 apply ByteArray.ext;apply Array.ext';rw[jeI,jeI,jeI,List.drop_drop]
theorem jo7 (s:ByteArray) (pos n:Nat):((s.extract pos s.size).extract 0 n).data.toList=(s.data.toList.drop pos).take n:=by
 rw[ByteArray.data_extract,Array.toList_extract,List.extract_eq_take_drop,List.drop_zero,Nat.sub_zero,jeI]
attribute [-go_sem] Builtin.append_
set_option maxRecDepth 100000 in
set_option maxHeartbeats 2000000 in
theorem jg1 (s:ByteArray) (w:World) (hs:s.size<4294967281) :
  Calls Tryz.prog 159 #[.string s] w (jhO s w):=by
 have HR:Hid (jbc s=jeU s 0):=rfl;have HT:Hid (jlO s=if jbc s then jmj s 0 else []):=rfl;have HP:∀ e w',jhO s w e w'=∃ a cap,∃ l:List ByteArray,e=.returned (.tuple #[.slice a l.length cap,.bool (jbc s)])/\l.map (·.data.toList)=jlO s/\SlC jgW 1 w'.heap.size w' a l.length cap l/\Below w.heap.size w w':=fun _ _=>rfl
 have HP:=Lib.hid HP;generalize jhO s w=Q at HP ⊢;generalize jbc s=R at HR HT HP;generalize jlO s=T at HT HP;have hG0:GrowT w w.heap.size (.slice none 0 0) []:=⟨rfl,.inl ⟨rfl,rfl⟩⟩;go_enter Tryz.func159,Tryz.ntmps159;go_wp2_with fail;go_loopw [0,4] (fun sv v wr=>∃ (pos:Nat) (done:List ByteArray),sv=.string (s.extract pos s.size)/\pos<=s.size/\Below w.heap.size w wr/\Hid (GrowT wr w.heap.size v done/\done.length<=pos/\R=jeU s pos/\jmj s 0=done.map (·.data.toList)++jmj s pos)) (fun sv _ _=>match sv with | .string t=>t.size | _=>0)
 case atStart=>exact⟨0,[],by rw[ByteArray.extract_zero_size],Nat.zero_le _,Below.refl _ _,hG0,Nat.le_refl _,HR.out,rfl⟩
 case round =>
  obtain⟨pos,done,rfl,hpos,hB,HS⟩:=hrel;obtain⟨va,vc,rfl⟩:=HS.out.1.form;have hts:(s.extract pos s.size).size=s.size-pos:=by rw[ByteArray.size_extract,Nat.min_self]
  have HTL:=Lib.hid (jeI s pos);have HEX:=Lib.hid (jqH s pos);have HHD:=Lib.hid (jo7 s pos);generalize s.extract pos s.size=t at hts HTL HEX HHD ⊢;by_cases hlt:pos<s.size
  ·have h0:0<t.size:=by omega
   have e0:t.toList.isEmpty=false:=by rw[jdc,beq_eq_false_iff_ne];omega
   have hSz:=jg3 t wr h0 (by omega);rw[HTL.out] at hSz;have hok:=jgn s pos hlt;have hne:s.data.toList.drop pos≠[]:=by intro e;have:=jhY s pos;rw[e] at this;exact absurd this (by simp;omega)
   have HK:=Lib.hid (jkp _ hne);have htk:=jnX s pos hlt;have hln:=jhY s pos;unfold jll at hSz;unfold jqN at htk;generalize (Lib.decodeL (s.data.toList.drop pos)).2=d at hSz HK hok htk
   cases hb:jhe (s.data.toList.drop pos) with
   | true =>
    rw[hb] at hSz hok;simp only[if_true] at hSz;have H9:Hid (R=false):=by rw[Hid,HS.out.2.2.1,hok];rfl
    clear HK hok htk hb;go_wp2_with (go_at_call 193;refine hSz.mono ?_;rintro e w' ⟨rfl,hb'⟩);rw[HP.out];exact⟨none,0,[],by rw[H9.out];rfl,by rw[HT.out,H9.out];rfl,SlC.nil,hB.trans (hb'.mono hB.size)⟩
   | false =>
    rw[hb] at hSz hok;simp only[Bool.false_eq_true,if_false] at hSz;obtain⟨z1,z2,-⟩:=HK.out hb;rw[hln] at z2;have e2:((d:Int)==0)=false:=by rw[beq_eq_false_iff_ne];omega
    have H8:Hid (R=jeU s (pos+d)):=by rw[Hid,HS.out.2.2.1,hok];rfl
    have H7:=Lib.hid htk;have i1:(d:Int)<=(t.size:Int):=by omega
    have i2:(0:Int)<=(d:Int):=by omega
    clear HK hok htk hb hne hln;go_wp2_with (go_at_call 193;refine hSz.mono ?_;rintro e w' ⟨rfl,hb'⟩;have HB':=Lib.hid (hB.trans (hb'.mono hB.size));obtain⟨g,cap,w5,hap,hG5,hB5,hz5,-⟩:=(HS.out.1.go hb').push HB'.out (Nat.le_refl _) HB'.out.size (by have:=HS.out.2.1;omega) (t.extract 0 d);have HG5:=Lib.hid hG5;clear hG5);go_roundw
    case rel =>
     refine⟨pos+d,done++[t.extract 0 d],by rw[<- hts,HEX.out],by omega,hB5,?_,by rw[List.length_append];have:=HS.out.2.1;simp;omega,H8.out,?_⟩
     ·exact HG5.out
     ·rw[HS.out.2.2.2,H7.out,List.map_append,List.append_assoc]
      show _=_++([(t.extract 0 d).data.toList]++_);rw[HHD.out];rfl
    case measure =>
     show (t.extract d (s.size-pos)).size<t.size;rw[ByteArray.size_extract];omega
  ·have h9:pos=s.size:=by omega
   have e0:t.toList.isEmpty=true:=by rw[jdc,beq_iff_eq];omega
   have H9:Hid (R=true):=by rw[Hid,HS.out.2.2.1,jlS s pos hlt]
   have H8:Hid (jmj s 0=done.map (·.data.toList)):=by rw[Hid,HS.out.2.2.2,jpU s pos hlt,List.append_nil]
   go_wp2_with fail;rw[HP.out];obtain⟨a',c',e',hS⟩:=HS.out.1.slC
   cases e'
   exact⟨va,vc,done,by rw[H9.out];rfl,by rw[HT.out,H9.out,H8.out];rfl,hS,hB⟩
theorem jnj (s:ByteArray):((jlO s).length:Int)=jcT s:=by
 unfold jlO jcT
 cases jbc s
 ·rfl
 ·rw[if_pos rfl,if_pos rfl,jpV]
theorem jgq (s:ByteArray) (w:World) (hs:s.size<4294967281) :
  Calls Tryz.prog 178 #[.string s] w fun e w'=>e=.returned (.tuple #[.int .i64 (jcT s),.bool (jbc s)])/\Below w.heap.size w w':=by
 have hL:=jg1 s w hs;have hn:=jnj s;go_enter Tryz.func178,Tryz.ntmps178;go_wp2_with (go_at_call 159;refine hL.mono ?_;rintro e w' ⟨a,cap,l,rfl,hl,-,hb'⟩);go_ret2;have e:(l.length:Int)=jcT s:=by rw[<- hn,<- hl,List.length_map]
 exact⟨by rw[<- e];rfl,hb'⟩
set_option maxRecDepth 100000 in
set_option maxHeartbeats 1000000 in
theorem jff (s:ByteArray) (w:World) (hs:s.size<4294967281) :
  Calls Tryz.prog 139 #[.string s] w fun e w'=>e=.returned (.bool (jbh s))/\Below w.heap.size w w':=by
 have HL:Hid (jbh s=((s.data.toList.drop 0).all jbS&&(jbc s&&decide ((rl s 0).length<=24)))):=rfl;have hRu:∀ w,_:=fun w=>jgq s w hs
 have HRn:Hid (jbc s=true->jcT s=((rl s 0).length:Int)):=fun h=>by unfold jcT;rw[if_pos h]
 generalize jbh s=R at HL ⊢;generalize jcT s=n at hRu HRn;generalize jbc s=b at hRu HRn HL;have HRu:=Lib.hid hRu;clear hRu;go_enter Tryz.func139,Tryz.ntmps139;go_wp2_with fail;go_loopw [3] (fun i wr=>∃ (k:Nat),i=.int .i64 k/\k<=s.size/\Below w.heap.size w wr/\Hid (R=((s.data.toList.drop k).all jbS&&(b&&decide ((rl s 0).length<=24))))) (fun i _=>s.size-(intOf i).toNat)
 case atStart=>exact⟨0,rfl,Nat.zero_le _,Below.refl _ _,HL⟩
 case round =>
  obtain⟨k,rfl,hk,hB,HS⟩:=hrel;by_cases hlt:k<s.size
  ·have HX:=Lib.hid (jp3 jbS s k hlt)
   have hx:=UInt8.toNat_lt (s[k]'hlt);by_cases h1:(s[k]'hlt).toNat<32
   ·have H9:Hid (R=false):=by rw[Hid,HS.out,HX.out,show jbS (s[k]'hlt)=false by unfold jbS;simp;omega];rfl
    go_wp2_with fail;go_ret;exact⟨by rw[H9.out];rfl,hB⟩
   ·by_cases h2:(s[k]'hlt).toNat=127
    ·have H9:Hid (R=false):=by rw[Hid,HS.out,HX.out,show jbS (s[k]'hlt)=false by unfold jbS;rw[h2];rfl];rfl
     have e7:(((s[k]'hlt).toNat:Int)==127)=true:=by rw[beq_iff_eq];omega
     go_wp2_with fail;go_ret;exact⟨by rw[H9.out];rfl,hB⟩
    ·have H9:Hid (R=((s.data.toList.drop (k+1)).all jbS&&(b&&decide ((rl s 0).length<=24)))):=by rw[Hid,HS.out,HX.out,show jbS (s[k]'hlt)=true by unfold jbS;simp;omega];rfl
     have e7:(((s[k]'hlt).toNat:Int)==127)=false:=by rw[beq_eq_false_iff_ne];omega
     go_wp2_with fail;go_roundw
     case rel=>exact⟨k+1,by go_num,by omega,hB,H9.out⟩
     case measure=>simp[intOf];omega
  ·have HP:=Lib.hid (jdS s k (by omega))
   cases b with
   | false =>
    have H9:Hid (R=false):=by rw[Hid,HS.out];simp
    go_wp2_with (go_at_call 178;refine (HRu.out _).mono ?_;rintro e w' ⟨rfl,hb'⟩);go_ret;exact⟨by rw[H9.out];rfl,hB.trans (hb'.mono hB.size)⟩
   | true =>
    have hn:=HRn.out rfl
    have H9:Hid (R=decide (n<=24)):=by
     rw[Hid,HS.out,HP.out,hn];show decide ((rl s 0).length<=24)=_;exact decide_eq_decide.2 (by omega)
    clear hn;go_wp2_with (go_at_call 178;refine (HRu.out _).mono ?_;rintro e w' ⟨rfl,hb'⟩);go_ret;exact⟨by rw[H9.out];rfl,hB.trans (hb'.mono hB.size)⟩
end Go.Proofs.YtieknocphiceoaaGreatDoor
