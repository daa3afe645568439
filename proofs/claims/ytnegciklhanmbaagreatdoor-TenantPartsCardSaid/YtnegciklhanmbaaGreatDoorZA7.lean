/- Package cms: together, col, blank, the iterators. Package hist: together, Bucket. Package hist: Bounds, with the least value. Regions that draw their order inside a round: by the walk outside of one. Of no program. -/
import Derived.Test.YtnegciklhanmbaaGreatDoorZJ1
set_option maxHeartbeats 8000000
set_option maxRecDepth 100000
namespace Go.Proofs.YtnegciklhanmbaaGreatDoor
open Go Go.RowKit
section
open Go.Shelf
attribute [local go_sem] Oper.semAt_some
theorem jdT (b:Nat) (x y:Int) (w:World) (F:w.cell? ⟨b,0,none⟩=some (.int .u64 x)) (G:w.cell? ⟨b,1,none⟩=some (.int .u64 y)) (C:U64 x) (D:U64 y) :
  Calls Tryz.prog 298 #[.slice (some ⟨b,0,none⟩) 2 2] w fun e w'=>e=.returned (.int .u64 (jeb x y))/\w'=w:=by
 obtain⟨I,J⟩:=C;obtain⟨L,M⟩:=D;have H:decide (18446744073709551615<x)=false:=by simp;omega
 by_cases A:18446744073709551615-x<y
 ·have B:jeb x y=18446744073709551615:=by unfold jeb;rw[if_pos A]
  rw[B];have E:decide (18446744073709551615-x<y)=true:=by simpa using A
  go_enter Tryz.func298,Tryz.ntmps298;go_wp2_with fail;refine wp_loop_rounds 3 ?_;rw[rounds_succ];go_wp2_with fail;rw[rounds_succ];go_wp2_with fail;go_ret;exact⟨rfl,rfl⟩
 ·have B:jeb x y=x+y:=by unfold jeb;rw[if_neg A]
  rw[B];have E:decide (18446744073709551615-x<y)=false:=by simpa using A
  go_enter Tryz.func298,Tryz.ntmps298;go_wp2_with fail;refine wp_loop_rounds 3 ?_;rw[rounds_succ];go_wp2_with fail;rw[rounds_succ];go_wp2_with fail;rw[rounds_succ];go_wp2_with fail;go_ret;exact⟨rfl,rfl⟩
theorem jch (n:Int) (A:0<=n) (B:n<18446744073709551616):IntKind.u64.wrap n=n:=by simp[IntKind.wrap,IntKind.bits,IntKind.signed];omega
theorem jxa (row h:Nat) (c:Int) (hr:row<=4) (H:h<2^64) (D:0<c) (E:c<=100) :
  wrap64 ((IntKind.u64.wrap ((h:Int) / 4294967296+IntKind.u64.wrap ((row:Int)*((h:Int) % 4294967296)))).tmod c)=((h / 4294967296+row*(h % 4294967296):Nat):Int) % c:=by
 have B:((row:Int)*((h:Int) % 4294967296))=((row*(h % 4294967296):Nat):Int):=by simp
 have A:row*(h % 4294967296)<4*4294967296+1:=by
  have:=Nat.mul_le_mul hr (show h % 4294967296<=4294967295 by omega);omega
 rw[B];generalize row*(h % 4294967296)=m at A ⊢;rw[jch (m:Int) (by omega) (by omega),jch _ (by omega) (by omega),Int.tmod_eq_emod_of_nonneg (by omega)];have C:(h:Int) / 4294967296+(m:Int)=((h / 4294967296+m:Nat):Int):=by omega
 rw[C];generalize h / 4294967296+m=q;have F:=Int.emod_nonneg (q:Int) (show c≠0 by omega);have G:=Int.emod_lt_of_pos (q:Int) D;unfold wrap64;omega
theorem jtM (r c:Int) (v:Value) (row:Nat) (h:Nat) (w:World) (hr:row<=4) (D:h<2^64) (C:0<c) (A:c<=100) :
  Calls Tryz.prog 245 #[.agg #[.int .i64 r,.int .i64 c,v],.int .i64 row,.int .u64 h] w fun e w'=>e=.returned (.int .i64 (((h / 4294967296+row*(h % 4294967296):Nat):Int) % c))/\w'=w.alloc (.cells #[.int .i64 r,.int .i64 c,v] 227):=by
 have B:=Lib.hid (jxa row h c hr D C A);go_enter Tryz.func245,Tryz.ntmps245;go_wp2_with fail;go_ret;exact⟨by rw[<- B.out];rfl,rfl⟩
theorem jko (r c:Int) (v:Value) (h:Int) (w:World) :
  Calls Tryz.prog 296 #[.agg #[.int .i64 r,.int .i64 c,v],.int .u64 h] w fun e w'=>e=.returned (.func (.func 302) #[] #[.pointer (some ⟨w.heap.size,0,none⟩),.pointer (some ⟨w.heap.size+1,0,none⟩)])/\w'=(w.alloc (.cells #[.int .i64 r,.int .i64 c,v] 227)).alloc (.cells #[.int .u64 h] 22):=by
 go_enter Tryz.func296,Tryz.ntmps296;go_wp2;go_ret;exact⟨rfl,rfl⟩
theorem jjp (r c:Int) (v:Value) (w:World) :
  Calls Tryz.prog 299 #[.agg #[.int .i64 r,.int .i64 c,v]] w fun e w'=>e=.returned (.func (.func 303) #[] #[.pointer (some ⟨w.heap.size,0,none⟩)])/\w'=w.alloc (.cells #[.int .i64 r,.int .i64 c,v] 227):=by
 go_enter Tryz.func299,Tryz.ntmps299;go_wp2;go_ret;exact⟨rfl,rfl⟩
theorem jx8 (l F:Nat) (r c:Int) (P:Option Addr) (N cap:Nat) (X:N<=1000) (J M:List (Fin N)->World->Prop)
  (T:∀ A x W,J A W->A.length<N->YieldAt Fence.wide 7 Tryz.prog l #[.int .i64 (x.1:Nat)] W fun e C =>
   (e=.returned (.bool true)/\J (A++[x]) C/\KL [F] W C)\/(e=.returned (.bool false)/\M (A++[x]) C))
  (W:World) (hb:W.heap[F]? = some (.cells #[.int .i64 r,.int .i64 c,.slice P N cap] 227 (0,0))) (R:J [] W) :
  CallsIn Fence.wide 8 Tryz.prog 303 #[.func (.yield l) #[] #[],.pointer (some ⟨F,0,none⟩)] W fun e C=>(∃ v,e=.returned v) /\
   ((∃ Q,Q=List.finRange N/\J Q C)\/(∃ A,A <+: List.finRange N/\M A C)):=by
 refine callsIn_of_wp Tryz.func303 rfl trivial ?_ rfl;simp only[Tryz.ntmps303,List.size_toArray,List.length_cons,List.length_nil,Nat.reduceAdd,Nat.reduceSub,Array.replicate_succ,Array.replicate_zero,List.push_toArray,List.append_toArray,List.nil_append,List.cons_append];have c2:W.cell? ⟨F,2,none⟩=some (.slice P N cap):=cCc hb 2;gi_wp2;gi_loopw [3,8] (fun _ i wr=>∃ k:Nat,k<=N/\i=.int .i64 k/\J ((List.finRange N).take k) wr/\KL [F] W wr) (fun _ i _=>N-(intOf i).toNat)
 case atStart=>exact⟨0,Nat.zero_le _,rfl,R,KL.refl _ _⟩
 case round =>
  obtain⟨k,Y,rfl,D,I⟩:=hrel;by_cases B:k<N
  ·have O:(List.finRange N)[k]? = some ⟨k,B⟩:=by rw[List.getElem?_eq_getElem (by simpa using B)];simp
   obtain⟨V,tmps,assign,body,Z,S⟩:=T _ ⟨k,B⟩ _ D (by rw[List.length_take,List.length_finRange];omega);have L:=Lib.hid O;clear O;gi_wp2;refine S.mono ?_;rintro e U (⟨rfl,G,H⟩ | ⟨rfl,E⟩)
   ·gi_wp2
    go_roundw
    case rel=>exact⟨k+1,by omega,by simp,by rw[jaf L.out];exact G,I.trans H⟩
    case measure=>simp[intOf];omega
   ·gi_wp2
    refine bodyPost_ret (results_none rfl _ _ _) rfl ?_;exact⟨⟨_,rfl⟩,.inr ⟨_,by have h:=List.take_prefix (k+1) (List.finRange N);rwa [jaf L.out] at h,E⟩⟩
  ·obtain rfl:k=N:=by omega
   gi_wp2
   go_end0;exact⟨⟨_,rfl⟩,.inl ⟨_,List.take_of_length_le (by simp),D⟩⟩
theorem jp3 (A:Nat) (r c:Int) (C:Option Addr) (N cap:Nat) (F:N<=1000) (w:World) (hb:w.heap[A]? = some (.cells #[.int .i64 r,.int .i64 c,.slice C N cap] 227 (0,0))) :
  SeqStopsK Fence.wide 8 Tryz.prog 303 #[.pointer (some ⟨A,0,none⟩)] (fun x:Fin N=>#[.int .i64 (x.1:Nat)]) (KL [A]) (fun I=>I=List.finRange N) (fun B=>B <+: List.finRange N) N w:=fun l J D W G _ _ H E =>
 jx8 l A r c C N cap F J D H W (known G (Nat.le_refl _) hb) E
theorem jf8 (c row h:Nat) (A:0<c) (hr:row<2):jjv c row h<2*c:=by
 unfold jjv;have:=Nat.mod_lt (h / 4294967296+row*(h % 4294967296)) A;rcases (by omega:row=0\/row=1) with rfl | rfl<;>omega
def jdr (c h:Nat) (hc:0<c):List { n:Nat // n<2*c }:=[⟨jjv c 0 h,jf8 c 0 h hc (by omega)⟩,⟨jjv c 1 h,jf8 c 1 h hc (by omega)⟩]
theorem jsz (c h k:Nat) (A:0<c) (B:k<2):(jdr c h A)[k]? = some ⟨jjv c k h,jf8 c k h A B⟩:=by
 rcases (by omega:k=0\/k=1) with rfl | rfl<;>rfl
theorem jx2 (l L G:Nat) (c h:Nat) (v:Value) (M:0<c) (aa:c<=32) (hh:h<2^64) (J o:List { n:Nat // n<2*c }->World->Prop)
  (hY:∀ H x W,J H W->H.length<2->YieldAt Fence.wide 7 Tryz.prog l #[.int .i64 (x.1:Nat)] W fun e Y =>
   (e=.returned (.bool true)/\J (H++[x]) Y/\KL [L,G] W Y)\/(e=.returned (.bool false)/\o (H++[x]) Y))
  (W:World) (hJ:AbidesFrom W.heap.size J) (hb:W.heap[L]? = some (.cells #[.int .i64 2,.int .i64 c,v] 227 (0,0))) (s:W.heap[G]? = some (.cells #[.int .u64 h] 22 (0,0))) (h0:J [] W) :
  CallsIn Fence.wide 8 Tryz.prog 302 #[.func (.yield l) #[] #[],.pointer (some ⟨L,0,none⟩),.pointer (some ⟨G,0,none⟩)] W fun e Y=>(∃ v,e=.returned v) /\
   ((∃ j,j=jdr c h M/\J j Y)\/(∃ H,H <+: jdr c h M/\o H Y)):=by
 refine callsIn_of_wp Tryz.func302 rfl trivial ?_ rfl;simp only[Tryz.ntmps302,List.size_toArray,List.length_cons,List.length_nil,Nat.reduceAdd,Nat.reduceSub,Array.replicate_succ,Array.replicate_zero,List.push_toArray,List.append_toArray,List.nil_append,List.cons_append];have c0:W.cell? ⟨L,0,none⟩=some (.int .i64 2):=cCc hb 0;gi_wp2;gi_loopw [4,8] (fun _ i wr=>∃ k:Nat,k<=2/\i=.int .i64 k/\J ((jdr c h M).take k) wr/\KL [L,G] W wr) (fun _ i _=>2-(intOf i).toNat)
 case atStart=>exact⟨0,by omega,rfl,h0,KL.refl _ _⟩
 case round =>
  obtain⟨k,hk,rfl,d,V⟩:=hrel;by_cases R:k<2
  ·have z:=jsz c h k M R
   have hq:=Nat.mod_lt (h / 4294967296+k*(h % 4294967296)) M
   have P:Hid (∀ W,Calls Tryz.prog 245 #[.agg #[.int .i64 2,.int .i64 c,v],.int .i64 k,.int .u64 h] W fun e w'=>e=.returned (.int .i64 (((h / 4294967296+k*(h % 4294967296)) % c:Nat):Int))/\w'=W.alloc (.cells #[.int .i64 2,.int .i64 c,v] 227)):=fun W=>by
    have:=jtM 2 c v k h W (by omega) hh (by omega) (by omega);rw[<- Int.natCast_emod] at this;exact this
   obtain⟨O,T⟩:∃ O,wr.drew.alloc (.cells #[.int .i64 2,.int .i64 c,v] 227)=O:=⟨_,rfl⟩;have N:wr.grownBy O none:=by rw[<- T];exact (jcp (World.grownBy.refl wr none)).trans (World.grownBy_alloc _ _ _)
   have a:=hJ _ _ _ none d N (fun r e=>by cases e);obtain⟨fn,tmps,assign,body,p,S⟩:=hY _ ⟨jjv c k h,jf8 c k h M R⟩ O a (by rw[List.length_take];show min k 2<2;omega);have Z:=V L (by simp) _ hb;have Q:=V G (by simp) _ s;have g0:wr.drew.cell? ⟨L,0,none⟩=some (.int .i64 2):=cCc (W:=wr) Z 0;have g1:wr.drew.cell? ⟨L,1,none⟩=some (.int .i64 c):=cCc (W:=wr) Z 1;have g2:wr.drew.cell? ⟨L,2,none⟩=some v:=cCc (W:=wr) Z 2;have g3:wr.drew.cell? ⟨G,0,none⟩=some (.int .u64 h):=cCc (W:=wr) Q 0;have U:O.heap[L]? = _:=(N.block L (Array.getElem?_eq_some_iff.1 Z).1 (by simp)).trans Z;have f:O.heap[G]? = _:=(N.block G (Array.getElem?_eq_some_iff.1 Q).1 (by simp)).trans Q;have k1:O.cell? ⟨L,1,none⟩=some (.int .i64 c):=cCc U 1;have k0:O.cell? ⟨L,0,none⟩=some (.int .i64 2):=cCc U 0;have I:=Lib.hid T;have t:KL [L,G] wr O:=KL.grown N (fun b _=>by simp);have F:∀ D,J ((jdr c h M).take k++[⟨jjv c k h,jf8 c k h M R⟩]) D->KL [L,G] O D->∃ k':Nat,k'<=2/\Value.int .i64 ((k:Int)+1)=.int .i64 k'/\J ((jdr c h M).take k') D/\KL [L,G] W D:=fun D B C=>⟨k+1,by omega,by simp,by rw[jaf z];exact B,(V.trans t).trans C⟩
   have E:∀ D,o ((jdr c h M).take k++[⟨jjv c k h,jf8 c k h M R⟩]) D->(∃ v,Ending.returned (.tuple #[])=.returned v)/\((∃ j,j=jdr c h M/\J j D)\/(∃ H,H <+: jdr c h M/\o H D)):=fun D A=>⟨⟨_,rfl⟩,.inr ⟨_,by have h:=List.take_prefix (k+1) (jdr c h M);rwa [jaf z] at h,A⟩⟩
   have g:((jjv c k h:Nat):Int)=((k*c:Nat):Int)+(((h / 4294967296+k*(h % 4294967296)) % c:Nat):Int):=by unfold jjv;omega
   rw[g] at p;have y:k*c<=1*c:=Nat.mul_le_mul_right c (by omega);have u:((k:Int)*(c:Int))=((k*c:Nat):Int):=by simp
   generalize (h / 4294967296+k*(h % 4294967296)) % c=q at hq P p;generalize k*c=m at u y p;have hE:IntKind.i64.wrap (IntKind.i64.wrap ((k:Int)*(c:Int))+(q:Int))=(m:Int)+(q:Int):=by rw[u,IntWalk.i64_in (m:Int) (by omega),IntWalk.i64_in _ (by omega)]
   rw[<- hE] at p;clear T z Z Q U f N a g u hE;gi_wp2;refine wpIn_region_any (by kernel_rfl) ?_;change wpAnyIn _ _ _ _ _ _ _ _ _ (World.drew _);refine wpAnyIn_take (i:=0) (v:=?_) rfl rfl (by kernel_rfl) (by kernel_rfl) (by kernel_rfl) (fun _ _ _ h=>h) ⟨Or.inl ⟨by rfl,?_⟩,fun _=>rfl⟩ ?_;rotate_left
   ·intro w;go_simp;with_reducible rfl
   refine wpAnyIn_take (i:=1) (v:=?_) rfl rfl (by kernel_rfl) (by kernel_rfl) (by kernel_rfl) (fun _ _ _ h=>h) ⟨Or.inl ⟨by rfl,?_⟩,fun _=>rfl⟩ ?_;rotate_left
   ·intro w;go_simp;with_reducible rfl
   refine wpAnyIn_take (i:=2) (v:=?_) rfl rfl (by kernel_rfl) (by kernel_rfl) (by kernel_rfl) (fun _ _ _ h=>h) ⟨Or.inl ⟨by rfl,?_⟩,fun _=>rfl⟩ ?_;rotate_left
   ·intro w;go_simp;with_reducible rfl
   refine wpAnyIn_take (i:=3) (v:=?_) rfl rfl (by kernel_rfl) (by kernel_rfl) (by kernel_rfl) (fun _ _ _ h=>h) ⟨Or.inl ⟨by rfl,?_⟩,fun _=>rfl⟩ ?_;rotate_left
   ·intro w;go_simp;with_reducible rfl
   refine wpAnyIn_take (i:=7) (v:=?_) rfl rfl (by kernel_rfl) (by kernel_rfl) (by kernel_rfl) (fun _ _ _ h=>h) ⟨Or.inl ⟨by rfl,?_⟩,fun _=>rfl⟩ ?_;rotate_left
   ·intro w;go_simp;with_reducible rfl
   refine wpAnyIn_ready (rs:=[4,6,8]) (by kernel_rfl) (by simp) ?_;refine AllReadyIn.cons rfl (fun K hK=>?_) ?_
   ·go_simp
    refine hK _ _ ?_;clear hK K;refine wpAnyIn_take (i:=5) (v:=?_) rfl rfl (by kernel_rfl) (by kernel_rfl) (by kernel_rfl) (fun _ _ _ h=>h) ⟨Or.inl ⟨by rfl,?_⟩,fun _=>rfl⟩ ?_;rotate_left
    ·intro w;go_simp;with_reducible rfl
    refine wpAnyIn_ready (rs:=[6,8]) (by kernel_rfl) (by simp) ?_;refine AllReadyIn.cons rfl (fun K hK=>?_) ?_
    ·go_simp
     refine hK _ _ ?_;clear hK K;refine wpAnyIn_ready (rs:=[8]) (by kernel_rfl) (by simp) ?_;refine AllReadyIn.cons rfl (fun K hK=>?_) ?_
     ·go_simp
      refine hK _ _ ?_;clear hK K;refine wpAnyIn_ready (rs:=[9]) (by kernel_rfl) (by simp) ?_;refine AllReadyIn.cons rfl (fun K hK=>?_) ?_
      ·go_simp
       refine⟨trivial,(callsIn_wide.2 (P.out _)).mono ?_⟩;rintro e X ⟨rfl,rfl⟩;rw[I.out];refine hK _ _ ?_;clear hK K;refine wpAnyIn_take (i:=10) (v:=?_) rfl rfl (by kernel_rfl) (by kernel_rfl) (by kernel_rfl) (fun _ _ _ h=>h) ⟨Or.inl ⟨by rfl,?_⟩,fun _=>rfl⟩ ?_;rotate_left
       ·intro w;go_simp;with_reducible rfl
       refine wpAnyIn_ready (rs:=[11]) (by kernel_rfl) (by simp) ?_;refine AllReadyIn.cons rfl (fun K hK=>?_) ?_
       ·go_simp
        refine S.mono ?_;rintro e D (⟨rfl,B,C⟩ | ⟨rfl,A⟩)
        ·refine hK _ _ ?_
         clear hK K
         ·
          refine tai 12 ?_;refine wpAnyIn_done (by kernel_rfl) ?_ _
          all_goals
           gi_wp2
           go_roundw
           case rel=>exact F D B C
           case measure=>simp[intOf];omega
        ·refine hK _ _ ?_
         clear hK K
         ·
          refine tai 12 ?_;refine wpAnyIn_done (by kernel_rfl) ?_ _
          all_goals
           gi_wp2
           refine bodyPost_ret (results_none rfl _ _ _) rfl ?_;exact E D A
       exact AllReadyIn.nil
      exact AllReadyIn.nil
     exact AllReadyIn.nil
    refine AllReadyIn.cons rfl (fun K hK=>?_) ?_
    ·go_simp
     refine hK _ _ ?_;clear hK K;refine wpAnyIn_ready (rs:=[6]) (by kernel_rfl) (by simp) ?_;refine AllReadyIn.cons rfl (fun K hK=>?_) ?_
     ·go_simp
      refine hK _ _ ?_;clear hK K;refine wpAnyIn_ready (rs:=[9]) (by kernel_rfl) (by simp) ?_;refine AllReadyIn.cons rfl (fun K hK=>?_) ?_
      ·go_simp
       refine⟨trivial,(callsIn_wide.2 (P.out _)).mono ?_⟩;rintro e X ⟨rfl,rfl⟩;rw[I.out];refine hK _ _ ?_;clear hK K;refine wpAnyIn_take (i:=10) (v:=?_) rfl rfl (by kernel_rfl) (by kernel_rfl) (by kernel_rfl) (fun _ _ _ h=>h) ⟨Or.inl ⟨by rfl,?_⟩,fun _=>rfl⟩ ?_;rotate_left
       ·intro w;go_simp;with_reducible rfl
       refine wpAnyIn_ready (rs:=[11]) (by kernel_rfl) (by simp) ?_;refine AllReadyIn.cons rfl (fun K hK=>?_) ?_
       ·go_simp
        refine S.mono ?_;rintro e D (⟨rfl,B,C⟩ | ⟨rfl,A⟩)
        ·refine hK _ _ ?_
         clear hK K
         ·
          refine tai 12 ?_;refine wpAnyIn_done (by kernel_rfl) ?_ _
          all_goals
           gi_wp2
           go_roundw
           case rel=>exact F D B C
           case measure=>simp[intOf];omega
        ·refine hK _ _ ?_
         clear hK K
         ·
          refine tai 12 ?_;refine wpAnyIn_done (by kernel_rfl) ?_ _
          all_goals
           gi_wp2
           refine bodyPost_ret (results_none rfl _ _ _) rfl ?_;exact E D A
       exact AllReadyIn.nil
      exact AllReadyIn.nil
     exact AllReadyIn.nil
    exact AllReadyIn.nil
   refine AllReadyIn.cons rfl (fun K hK=>?_) ?_
   ·go_simp
    refine hK _ _ ?_;clear hK K;refine wpAnyIn_ready (rs:=[4,8]) (by kernel_rfl) (by simp) ?_;refine AllReadyIn.cons rfl (fun K hK=>?_) ?_
    ·go_simp
     refine hK _ _ ?_;clear hK K;refine wpAnyIn_take (i:=5) (v:=?_) rfl rfl (by kernel_rfl) (by kernel_rfl) (by kernel_rfl) (fun _ _ _ h=>h) ⟨Or.inl ⟨by rfl,?_⟩,fun _=>rfl⟩ ?_;rotate_left
     ·intro w;go_simp;with_reducible rfl
     refine wpAnyIn_ready (rs:=[8]) (by kernel_rfl) (by simp) ?_;refine AllReadyIn.cons rfl (fun K hK=>?_) ?_
     ·go_simp
      refine hK _ _ ?_;clear hK K;refine wpAnyIn_ready (rs:=[9]) (by kernel_rfl) (by simp) ?_;refine AllReadyIn.cons rfl (fun K hK=>?_) ?_
      ·go_simp
       refine⟨trivial,(callsIn_wide.2 (P.out _)).mono ?_⟩;rintro e X ⟨rfl,rfl⟩;rw[I.out];refine hK _ _ ?_;clear hK K;refine wpAnyIn_take (i:=10) (v:=?_) rfl rfl (by kernel_rfl) (by kernel_rfl) (by kernel_rfl) (fun _ _ _ h=>h) ⟨Or.inl ⟨by rfl,?_⟩,fun _=>rfl⟩ ?_;rotate_left
       ·intro w;go_simp;with_reducible rfl
       refine wpAnyIn_ready (rs:=[11]) (by kernel_rfl) (by simp) ?_;refine AllReadyIn.cons rfl (fun K hK=>?_) ?_
       ·go_simp
        refine S.mono ?_;rintro e D (⟨rfl,B,C⟩ | ⟨rfl,A⟩)
        ·refine hK _ _ ?_
         clear hK K
         ·
          refine tai 12 ?_;refine wpAnyIn_done (by kernel_rfl) ?_ _
          all_goals
           gi_wp2
           go_roundw
           case rel=>exact F D B C
           case measure=>simp[intOf];omega
        ·refine hK _ _ ?_
         clear hK K
         ·
          refine tai 12 ?_;refine wpAnyIn_done (by kernel_rfl) ?_ _
          all_goals
           gi_wp2
           refine bodyPost_ret (results_none rfl _ _ _) rfl ?_;exact E D A
       exact AllReadyIn.nil
      exact AllReadyIn.nil
     exact AllReadyIn.nil
    refine AllReadyIn.cons rfl (fun K hK=>?_) ?_
    ·go_simp
     refine hK _ _ ?_;clear hK K;refine wpAnyIn_ready (rs:=[4,9]) (by kernel_rfl) (by simp) ?_;refine AllReadyIn.cons rfl (fun K hK=>?_) ?_
     ·go_simp
      refine hK _ _ ?_;clear hK K;refine wpAnyIn_take (i:=5) (v:=?_) rfl rfl (by kernel_rfl) (by kernel_rfl) (by kernel_rfl) (fun _ _ _ h=>h) ⟨Or.inl ⟨by rfl,?_⟩,fun _=>rfl⟩ ?_;rotate_left
      ·intro w;go_simp;with_reducible rfl
      refine wpAnyIn_ready (rs:=[9]) (by kernel_rfl) (by simp) ?_;refine AllReadyIn.cons rfl (fun K hK=>?_) ?_
      ·go_simp
       refine⟨trivial,(callsIn_wide.2 (P.out _)).mono ?_⟩;rintro e X ⟨rfl,rfl⟩;rw[I.out];refine hK _ _ ?_;clear hK K;refine wpAnyIn_take (i:=10) (v:=?_) rfl rfl (by kernel_rfl) (by kernel_rfl) (by kernel_rfl) (fun _ _ _ h=>h) ⟨Or.inl ⟨by rfl,?_⟩,fun _=>rfl⟩ ?_;rotate_left
       ·intro w;go_simp;with_reducible rfl
       refine wpAnyIn_ready (rs:=[11]) (by kernel_rfl) (by simp) ?_;refine AllReadyIn.cons rfl (fun K hK=>?_) ?_
       ·go_simp
        refine S.mono ?_;rintro e D (⟨rfl,B,C⟩ | ⟨rfl,A⟩)
        ·refine hK _ _ ?_
         clear hK K
         ·
          refine tai 12 ?_;refine wpAnyIn_done (by kernel_rfl) ?_ _
          all_goals
           gi_wp2
           go_roundw
           case rel=>exact F D B C
           case measure=>simp[intOf];omega
        ·refine hK _ _ ?_
         clear hK K
         ·
          refine tai 12 ?_;refine wpAnyIn_done (by kernel_rfl) ?_ _
          all_goals
           gi_wp2
           refine bodyPost_ret (results_none rfl _ _ _) rfl ?_;exact E D A
       exact AllReadyIn.nil
      exact AllReadyIn.nil
     refine AllReadyIn.cons rfl (fun K hK=>?_) ?_
     ·go_simp
      refine⟨trivial,(callsIn_wide.2 (P.out _)).mono ?_⟩;rintro e X ⟨rfl,rfl⟩;rw[I.out];refine hK _ _ ?_;clear hK K;refine wpAnyIn_ready (rs:=[4]) (by kernel_rfl) (by simp) ?_;refine AllReadyIn.cons rfl (fun K hK=>?_) ?_
      ·go_simp
       refine hK _ _ ?_;clear hK K;refine wpAnyIn_take (i:=5) (v:=?_) rfl rfl (by kernel_rfl) (by kernel_rfl) (by kernel_rfl) (fun _ _ _ h=>h) ⟨Or.inl ⟨by rfl,?_⟩,fun _=>rfl⟩ ?_;rotate_left
       ·intro w;go_simp;with_reducible rfl
       refine wpAnyIn_take (i:=10) (v:=?_) rfl rfl (by kernel_rfl) (by kernel_rfl) (by kernel_rfl) (fun _ _ _ h=>h) ⟨Or.inl ⟨by rfl,?_⟩,fun _=>rfl⟩ ?_;rotate_left
       ·intro w;go_simp;with_reducible rfl
       refine wpAnyIn_ready (rs:=[11]) (by kernel_rfl) (by simp) ?_;refine AllReadyIn.cons rfl (fun K hK=>?_) ?_
       ·go_simp
        refine S.mono ?_;rintro e D (⟨rfl,B,C⟩ | ⟨rfl,A⟩)
        ·refine hK _ _ ?_
         clear hK K
         ·
          refine tai 12 ?_;refine wpAnyIn_done (by kernel_rfl) ?_ _
          all_goals
           gi_wp2
           go_roundw
           case rel=>exact F D B C
           case measure=>simp[intOf];omega
        ·refine hK _ _ ?_
         clear hK K
         ·
          refine tai 12 ?_;refine wpAnyIn_done (by kernel_rfl) ?_ _
          all_goals
           gi_wp2
           refine bodyPost_ret (results_none rfl _ _ _) rfl ?_;exact E D A
       exact AllReadyIn.nil
      exact AllReadyIn.nil
     exact AllReadyIn.nil
    exact AllReadyIn.nil
   refine AllReadyIn.cons rfl (fun K hK=>?_) ?_
   ·go_simp
    refine hK _ _ ?_;clear hK K;refine wpAnyIn_ready (rs:=[4,6]) (by kernel_rfl) (by simp) ?_;refine AllReadyIn.cons rfl (fun K hK=>?_) ?_
    ·go_simp
     refine hK _ _ ?_;clear hK K;refine wpAnyIn_take (i:=5) (v:=?_) rfl rfl (by kernel_rfl) (by kernel_rfl) (by kernel_rfl) (fun _ _ _ h=>h) ⟨Or.inl ⟨by rfl,?_⟩,fun _=>rfl⟩ ?_;rotate_left
     ·intro w;go_simp;with_reducible rfl
     refine wpAnyIn_ready (rs:=[6]) (by kernel_rfl) (by simp) ?_;refine AllReadyIn.cons rfl (fun K hK=>?_) ?_
     ·go_simp
      refine hK _ _ ?_;clear hK K;refine wpAnyIn_ready (rs:=[9]) (by kernel_rfl) (by simp) ?_;refine AllReadyIn.cons rfl (fun K hK=>?_) ?_
      ·go_simp
       refine⟨trivial,(callsIn_wide.2 (P.out _)).mono ?_⟩;rintro e X ⟨rfl,rfl⟩;rw[I.out];refine hK _ _ ?_;clear hK K;refine wpAnyIn_take (i:=10) (v:=?_) rfl rfl (by kernel_rfl) (by kernel_rfl) (by kernel_rfl) (fun _ _ _ h=>h) ⟨Or.inl ⟨by rfl,?_⟩,fun _=>rfl⟩ ?_;rotate_left
       ·intro w;go_simp;with_reducible rfl
       refine wpAnyIn_ready (rs:=[11]) (by kernel_rfl) (by simp) ?_;refine AllReadyIn.cons rfl (fun K hK=>?_) ?_
       ·go_simp
        refine S.mono ?_;rintro e D (⟨rfl,B,C⟩ | ⟨rfl,A⟩)
        ·refine hK _ _ ?_
         clear hK K
         ·
          refine tai 12 ?_;refine wpAnyIn_done (by kernel_rfl) ?_ _
          all_goals
           gi_wp2
           go_roundw
           case rel=>exact F D B C
           case measure=>simp[intOf];omega
        ·refine hK _ _ ?_
         clear hK K
         ·
          refine tai 12 ?_;refine wpAnyIn_done (by kernel_rfl) ?_ _
          all_goals
           gi_wp2
           refine bodyPost_ret (results_none rfl _ _ _) rfl ?_;exact E D A
       exact AllReadyIn.nil
      exact AllReadyIn.nil
     exact AllReadyIn.nil
    refine AllReadyIn.cons rfl (fun K hK=>?_) ?_
    ·go_simp
     refine hK _ _ ?_;clear hK K;refine wpAnyIn_ready (rs:=[4,9]) (by kernel_rfl) (by simp) ?_;refine AllReadyIn.cons rfl (fun K hK=>?_) ?_
     ·go_simp
      refine hK _ _ ?_;clear hK K;refine wpAnyIn_take (i:=5) (v:=?_) rfl rfl (by kernel_rfl) (by kernel_rfl) (by kernel_rfl) (fun _ _ _ h=>h) ⟨Or.inl ⟨by rfl,?_⟩,fun _=>rfl⟩ ?_;rotate_left
      ·intro w;go_simp;with_reducible rfl
      refine wpAnyIn_ready (rs:=[9]) (by kernel_rfl) (by simp) ?_;refine AllReadyIn.cons rfl (fun K hK=>?_) ?_
      ·go_simp
       refine⟨trivial,(callsIn_wide.2 (P.out _)).mono ?_⟩;rintro e X ⟨rfl,rfl⟩;rw[I.out];refine hK _ _ ?_;clear hK K;refine wpAnyIn_take (i:=10) (v:=?_) rfl rfl (by kernel_rfl) (by kernel_rfl) (by kernel_rfl) (fun _ _ _ h=>h) ⟨Or.inl ⟨by rfl,?_⟩,fun _=>rfl⟩ ?_;rotate_left
       ·intro w;go_simp;with_reducible rfl
       refine wpAnyIn_ready (rs:=[11]) (by kernel_rfl) (by simp) ?_;refine AllReadyIn.cons rfl (fun K hK=>?_) ?_
       ·go_simp
        refine S.mono ?_;rintro e D (⟨rfl,B,C⟩ | ⟨rfl,A⟩)
        ·refine hK _ _ ?_
         clear hK K
         ·
          refine tai 12 ?_;refine wpAnyIn_done (by kernel_rfl) ?_ _
          all_goals
           gi_wp2
           go_roundw
           case rel=>exact F D B C
           case measure=>simp[intOf];omega
        ·refine hK _ _ ?_
         clear hK K
         ·
          refine tai 12 ?_;refine wpAnyIn_done (by kernel_rfl) ?_ _
          all_goals
           gi_wp2
           refine bodyPost_ret (results_none rfl _ _ _) rfl ?_;exact E D A
       exact AllReadyIn.nil
      exact AllReadyIn.nil
     refine AllReadyIn.cons rfl (fun K hK=>?_) ?_
     ·go_simp
      refine⟨trivial,(callsIn_wide.2 (P.out _)).mono ?_⟩;rintro e X ⟨rfl,rfl⟩;rw[I.out];refine hK _ _ ?_;clear hK K;refine wpAnyIn_ready (rs:=[4]) (by kernel_rfl) (by simp) ?_;refine AllReadyIn.cons rfl (fun K hK=>?_) ?_
      ·go_simp
       refine hK _ _ ?_;clear hK K;refine wpAnyIn_take (i:=5) (v:=?_) rfl rfl (by kernel_rfl) (by kernel_rfl) (by kernel_rfl) (fun _ _ _ h=>h) ⟨Or.inl ⟨by rfl,?_⟩,fun _=>rfl⟩ ?_;rotate_left
       ·intro w;go_simp;with_reducible rfl
       refine wpAnyIn_take (i:=10) (v:=?_) rfl rfl (by kernel_rfl) (by kernel_rfl) (by kernel_rfl) (fun _ _ _ h=>h) ⟨Or.inl ⟨by rfl,?_⟩,fun _=>rfl⟩ ?_;rotate_left
       ·intro w;go_simp;with_reducible rfl
       refine wpAnyIn_ready (rs:=[11]) (by kernel_rfl) (by simp) ?_;refine AllReadyIn.cons rfl (fun K hK=>?_) ?_
       ·go_simp
        refine S.mono ?_;rintro e D (⟨rfl,B,C⟩ | ⟨rfl,A⟩)
        ·refine hK _ _ ?_
         clear hK K
         ·
          refine tai 12 ?_;refine wpAnyIn_done (by kernel_rfl) ?_ _
          all_goals
           gi_wp2
           go_roundw
           case rel=>exact F D B C
           case measure=>simp[intOf];omega
        ·refine hK _ _ ?_
         clear hK K
         ·
          refine tai 12 ?_;refine wpAnyIn_done (by kernel_rfl) ?_ _
          all_goals
           gi_wp2
           refine bodyPost_ret (results_none rfl _ _ _) rfl ?_;exact E D A
       exact AllReadyIn.nil
      exact AllReadyIn.nil
     exact AllReadyIn.nil
    exact AllReadyIn.nil
   exact AllReadyIn.nil
  ·obtain rfl:k=2:=by omega
   gi_wp2
   go_end0;exact⟨⟨_,rfl⟩,.inl ⟨_,List.take_of_length_le (by show 2<=2;omega),d⟩⟩
theorem jod (B A c h:Nat) (v:Value) (D:0<c) (E:c<=32) (N:h<2^64) (w:World) (hb:w.heap[B]? = some (.cells #[.int .i64 2,.int .i64 c,v] 227 (0,0))) (C:w.heap[A]? = some (.cells #[.int .u64 h] 22 (0,0))) :
  SeqStopsK Fence.wide 8 Tryz.prog 302 #[.pointer (some ⟨B,0,none⟩),.pointer (some ⟨A,0,none⟩)] (fun x : { n:Nat // n<2*c }=>#[.int .i64 (x.1:Nat)]) (KL [B,A]) (fun O=>O=jdr c h D) (fun F=>F <+: jdr c h D) 2 w:=fun l J H W G L _ M I =>
 jx2 l B A c h v D E N J H M W L (known G (Nat.le_refl _) hb) (known G (Nat.le_refl _) C) I
end
section
open Go.Shelf
theorem jfP (b:Nat) (x y:Int) (w:World) (F:w.cell? ⟨b,0,none⟩=some (.int .u64 x)) (G:w.cell? ⟨b,1,none⟩=some (.int .u64 y)) (C:U64 x) (D:U64 y) :
  Calls Tryz.prog 320 #[.slice (some ⟨b,0,none⟩) 2 2] w fun e w'=>e=.returned (.int .u64 (jeb x y))/\w'=w:=by
 obtain⟨I,J⟩:=C;obtain⟨L,M⟩:=D;have H:decide (18446744073709551615<x)=false:=by simp;omega
 by_cases A:18446744073709551615-x<y
 ·have B:jeb x y=18446744073709551615:=by unfold jeb;rw[if_pos A]
  rw[B];have E:decide (18446744073709551615-x<y)=true:=by simpa using A
  go_enter Tryz.func320,Tryz.ntmps320;go_wp2_with fail;refine wp_loop_rounds 3 ?_;rw[rounds_succ];go_wp2_with fail;rw[rounds_succ];go_wp2_with fail;go_ret;exact⟨rfl,rfl⟩
 ·have B:jeb x y=x+y:=by unfold jeb;rw[if_neg A]
  rw[B];have E:decide (18446744073709551615-x<y)=false:=by simpa using A
  go_enter Tryz.func320,Tryz.ntmps320;go_wp2_with fail;refine wp_loop_rounds 3 ?_;rw[rounds_succ];go_wp2_with fail;rw[rounds_succ];go_wp2_with fail;rw[rounds_succ];go_wp2_with fail;go_ret;exact⟨rfl,rfl⟩
theorem jmL (A M:Nat):A % M*2 % M=A*2 % M:=by rw[Nat.mul_mod (A % M) 2 M,Nat.mod_mod,<- Nat.mul_mod]
theorem jxR (b f v:Nat) (hb:b<=63) (L:f<=3):wrap64 (wrap64 (1+wrap64 ((b:Int)*2^f))+wrap64 (IntKind.u64.wrap (IntKind.u64.wrap ((v:Int)*2^(63-b))*2) / 2^(64-f)))=1+((b*2^f+v*2^(64-b) % 2^64 / 2^(64-f):Nat):Int):=by
 have E:((v:Int)*2^(63-b))=((v*2^(63-b):Nat):Int):=by simp
 have F:v*2^(64-b)=v*2^(63-b)*2:=by rw[Nat.mul_assoc,<- Nat.pow_succ,show (63-b).succ=64-b by omega]
 rw[E,F,jeJ];generalize v*2^(63-b)=A;have G:((A % 2^64:Nat):Int)*2=((A % 2^64*2:Nat):Int):=(Int.natCast_mul _ 2).symm;rw[G,jeJ,jmL];have C:A*2 % 2^64<2^64:=Nat.mod_lt _ (Nat.two_pow_pos 64);generalize A*2 % 2^64=O at C ⊢
 have D:O / 2^(64-f)<2^f:=by
  rw[Nat.div_lt_iff_lt_mul (Nat.two_pow_pos _),<- Nat.pow_add,show f+(64-f)=64 by omega];exact C
 have H:(O:Int) / 2^(64-f)=((O / 2^(64-f):Nat):Int):=by rw[Int.natCast_ediv,Int.natCast_pow];rfl
 have I:(b:Int)*2^f=((b*2^f:Nat):Int):=by rw[Int.natCast_mul,Int.natCast_pow];rfl
 rw[H,I];have B:2^f<=2^3:=Nat.pow_le_pow_right (by omega) L;have J:b*2^f<=63*2^3:=Nat.mul_le_mul hb B;generalize O / 2^(64-f)=q at D ⊢;generalize b*2^f=m at J ⊢;generalize 2^f=z at D B;rw[jbr m (by omega),jbr q (by omega),show (1+(m:Int))=((1+m:Nat):Int) by omega,jbr (1+m) (by omega),show (((1+m:Nat):Int)+(q:Int))=((1+m+q:Nat):Int) by omega,jbr (1+m+q) (by omega)];omega
theorem jlm (f:Nat) (C:f<=3) (w:World):Calls Tryz.prog 201 #[.int .i64 f] w fun e w'=>e=.returned (.bool true)/\w'=w:=(jae f w).mono fun e w' ⟨A,B⟩=>⟨by rw[A,jbZ f C],B.symm⟩
theorem jf4 (f:Nat) (v:Nat) (w:World) (G:f<=3) (H:v<2^64):CR 316 #[.int .i64 f,.int .u64 v] w (.int .i64 (jhB f v)):=by
 have C:=jlm f G;by_cases B:v=0
 ·subst B
  go_enter Tryz.func316,Tryz.ntmps316;go_wp2_with (first | (go_at_call 201;refine (C _).mono ?_;rintro e w' ⟨rfl,rfl⟩) | fail);go_ret;exact⟨rfl,Below.refl _ _⟩
 ·have F:=Tryz.bits_Len64 (v:Int) w (by omega) (by omega)
  rw[Int.toNat_natCast] at F;have D:=jhl v H B;have A:=(jfD v H B).1;have L:((v:Int)==0)=false:=by rw[beq_eq_false_iff_ne];omega
  have E:jhB f v=1+((Lib.bitLen v-1)*2^f+v*2^(64-(Lib.bitLen v-1)) % 2^64 / 2^(64-f):Nat):=by
   unfold jhB;rw[if_neg B,Int.toNat_natCast]
  obtain⟨b,hb⟩:∃ b,Lib.bitLen v=b+1:=⟨Lib.bitLen v-1,by omega⟩;rw[hb] at F D E;have I:=Lib.hid E;have J:=Lib.hid (jxR b f v (by omega) G);clear E hb A B;go_enter Tryz.func316,Tryz.ntmps316;go_wp2_with (first | (go_at_call 201;refine (C _).mono ?_;rintro e w' ⟨rfl,rfl⟩) | (go_at_call 147;refine F.mono ?_;rintro e w' ⟨rfl,rfl⟩) | fail);go_quiet (fail);go_wp2_with fail;go_ret;exact⟨by rw[I.out,Nat.add_sub_cancel,<- J.out];rfl,bDr (Below.refl _ _) _⟩
def jeu (f:Nat) (n:Int):Int:=if n=0 then 0 else if (f:Int)<=(n-1) / 2^f then bits .or .u64 (IntKind.u64.wrap (2^((n-1) / 2^f).toNat)) (IntKind.u64.wrap (IntKind.u64.wrap (bits .and .i64 (n-1) (2^f-1))*2^((n-1) / 2^f-(f:Int)).toNat))
 else bits .or .u64 (2^((n-1) / 2^f).toNat) (IntKind.u64.wrap (bits .and .i64 (n-1) (2^f-1)) / 2^(f-((n-1) / 2^f).toNat))
def BdL (lo:Int) (w:World) (e:Ending) (w':World):Prop:=∃ hi:Int,e=.returned (.tuple #[.int .u64 lo,.int .u64 hi,.bool true])/\Bw w w'
theorem jq8:∀ f∈[1,2,3],∀ n∈List.range 513,jaz ((f:Nat):Int) ((n:Nat):Int)=true->jhB ((f:Nat)-1:Int) (jeu f ((n:Nat):Int)).toNat=jaY ((n:Nat):Int)/\(0<=jeu f ((n:Nat):Int)/\jeu f ((n:Nat):Int)<=18446744073709551615):=by decide +kernel
theorem jb6 (f:Nat) (C:f<=3) (n:Int) (h:jaz f n=true):0<=n/\n<=512:=by
 have B:0<=n:=by
  unfold jaz at h;split at h
  ·rename_i A
   simp only[Bool.and_eq_true,decide_eq_true_eq] at A;exact A.2
  ·cases h
 refine⟨B,?_⟩;by_cases D:n=0
 ·omega
 rw[jcW _ _ (by omega) (jbZ f C)] at h;rcases (by omega:f=0\/f=1\/f=2\/f=3) with rfl | rfl | rfl | rfl
 ·simp only[show (((0:Nat):Int)).toNat=0 from rfl] at h
  by_cases A:64<=(n-1) / 2^0
  ·rw[if_pos A] at h;cases h
  ·omega
 ·simp only[show (((1:Nat):Int)).toNat=1 from rfl] at h
  by_cases A:64<=(n-1) / 2^1
  ·rw[if_pos A] at h;cases h
  ·omega
 ·simp only[show (((2:Nat):Int)).toNat=2 from rfl] at h
  by_cases A:64<=(n-1) / 2^2
  ·rw[if_pos A] at h;cases h
  ·omega
 ·simp only[show (((3:Nat):Int)).toNat=3 from rfl] at h
  by_cases A:64<=(n-1) / 2^3
  ·rw[if_pos A] at h;cases h
  ·omega
theorem jo8 (f:Nat) (C:1<=f) (A:f<=3) (n:Int) (h:jaz f n=true):jhB ((f:Int)-1) (jeu f n).toNat=jaY n/\U64 (jeu f n):=by
 obtain⟨B,D⟩:=jb6 f A n h;have:=jq8 f (by simp;omega) n.toNat (by simp;omega);rw[Int.toNat_of_nonneg B] at this;exact this h
theorem jtG (w:World):Calls Tryz.prog 202 #[.int .i64 1,.int .i64 0] w (BdL 0 w):=by
 have A:jar 1=true:=rfl;go_enter Tryz.func202,Tryz.ntmps202;go_wp2_with fail;refine jac 0 rfl ?_;go_wp2_with (go_at_call 201;refine (jae _ _).mono ?_;rintro e w' ⟨rfl,rfl⟩)
 first | rw[jad] | (go_step3;refine And.intro (rfl:(0:Nat)=0) ?_;go_wp2_with fail;go_wp2_with fail;rw[Exit.noGoto_ret]) | (go_step3;go_wp2_with fail;rw[jad])
 go_ret3;exact⟨_,rfl,Below.refl _ _⟩
theorem jtD (n:Int) (w:World) (A:1<=n) (B:n<=9223372036854775807) (C:(n-1) / 2<64) (D:1<=(n-1) / 2):Calls Tryz.prog 202 #[.int .i64 1,.int .i64 n] w (BdL (bits .or .u64 (IntKind.u64.wrap (2^((n-1) / 2).toNat)) (IntKind.u64.wrap (IntKind.u64.wrap (bits .and .i64 (n-1) 1)*2^(((n-1) / 2).toNat-1)))) w):=by
 have F:(n==0)=false:=by rw[beq_eq_false_iff_ne];omega
 have E:jar 1=true:=rfl;go_enter Tryz.func202,Tryz.ntmps202;go_wp2_with fail;refine jac 0 rfl ?_;go_wp2_with (go_at_call 201;refine (jae _ _).mono ?_;rintro e w' ⟨rfl,rfl⟩);go_quiet (fail);go_wp2_with fail;go_quiet (fail);go_wp2_with fail
 first | rw[jad] | (go_step3;refine And.intro (rfl:(0:Nat)=0) ?_;go_wp2_with fail;go_wp2_with fail;rw[Exit.noGoto_ret]) | (go_step3;go_wp2_with fail;rw[jad])
 go_ret3;exact⟨_,rfl,bDr (bDr (Below.refl _ _) _) _⟩
theorem jtx (n:Int) (w:World) (A:1<=n) (B:n<=9223372036854775807) (C:(n-1) / 2=0) (E:(bits .and .i64 (bits .and .i64 (n-1) 1) 1==0)=true):Calls Tryz.prog 202 #[.int .i64 1,.int .i64 n] w (BdL (bits .or .u64 1 (IntKind.u64.wrap (bits .and .i64 (n-1) 1) / 2)) w):=by
 have F:(n==0)=false:=by rw[beq_eq_false_iff_ne];omega
 have D:jar 1=true:=rfl;go_enter Tryz.func202,Tryz.ntmps202;go_wp2_with fail;refine jac 0 rfl ?_;go_wp2_with (go_at_call 201;refine (jae _ _).mono ?_;rintro e w' ⟨rfl,rfl⟩);go_quiet (fail);go_wp2_with fail
 first | rw[jad] | (go_step3;refine And.intro (rfl:(0:Nat)=0) ?_;go_wp2_with fail;go_wp2_with fail;rw[Exit.noGoto_ret]) | (go_step3;go_wp2_with fail;rw[jad])
 go_ret3;exact⟨_,rfl,bDr (Below.refl _ _) _⟩
theorem jtH (w:World):Calls Tryz.prog 202 #[.int .i64 2,.int .i64 0] w (BdL 0 w):=by
 have A:jar 2=true:=rfl;go_enter Tryz.func202,Tryz.ntmps202;go_wp2_with fail;refine jac 0 rfl ?_;go_wp2_with (go_at_call 201;refine (jae _ _).mono ?_;rintro e w' ⟨rfl,rfl⟩)
 first | rw[jad] | (go_step3;refine And.intro (rfl:(0:Nat)=0) ?_;go_wp2_with fail;go_wp2_with fail;rw[Exit.noGoto_ret]) | (go_step3;go_wp2_with fail;rw[jad])
 go_ret3;exact⟨_,rfl,Below.refl _ _⟩
theorem jtE (n:Int) (w:World) (A:1<=n) (B:n<=9223372036854775807) (C:(n-1) / 4<64) (D:2<=(n-1) / 4):Calls Tryz.prog 202 #[.int .i64 2,.int .i64 n] w (BdL (bits .or .u64 (IntKind.u64.wrap (2^((n-1) / 4).toNat)) (IntKind.u64.wrap (IntKind.u64.wrap (bits .and .i64 (n-1) 3)*2^((n-1) / 4-2).toNat))) w):=by
 have F:(n==0)=false:=by rw[beq_eq_false_iff_ne];omega
 have E:jar 2=true:=rfl;go_enter Tryz.func202,Tryz.ntmps202;go_wp2_with fail;refine jac 0 rfl ?_;go_wp2_with (go_at_call 201;refine (jae _ _).mono ?_;rintro e w' ⟨rfl,rfl⟩);go_quiet (fail);go_wp2_with fail;go_quiet (fail);go_wp2_with fail
 first | rw[jad] | (go_step3;refine And.intro (rfl:(0:Nat)=0) ?_;go_wp2_with fail;go_wp2_with fail;rw[Exit.noGoto_ret]) | (go_step3;go_wp2_with fail;rw[jad])
 go_ret3;exact⟨_,rfl,bDr (bDr (Below.refl _ _) _) _⟩
theorem jty (n:Int) (w:World) (A:1<=n) (B:n<=9223372036854775807) (C:(n-1) / 4=0) (E:(bits .and .i64 (bits .and .i64 (n-1) 3) 3==0)=true):Calls Tryz.prog 202 #[.int .i64 2,.int .i64 n] w (BdL (bits .or .u64 1 (IntKind.u64.wrap (bits .and .i64 (n-1) 3) / 4)) w):=by
 have F:(n==0)=false:=by rw[beq_eq_false_iff_ne];omega
 have D:jar 2=true:=rfl;go_enter Tryz.func202,Tryz.ntmps202;go_wp2_with fail;refine jac 0 rfl ?_;go_wp2_with (go_at_call 201;refine (jae _ _).mono ?_;rintro e w' ⟨rfl,rfl⟩);go_quiet (fail);go_wp2_with fail
 first | rw[jad] | (go_step3;refine And.intro (rfl:(0:Nat)=0) ?_;go_wp2_with fail;go_wp2_with fail;rw[Exit.noGoto_ret]) | (go_step3;go_wp2_with fail;rw[jad])
 go_ret3;exact⟨_,rfl,bDr (Below.refl _ _) _⟩
theorem jtz (n:Int) (w:World) (A:1<=n) (B:n<=9223372036854775807) (C:(n-1) / 4=1) (E:(bits .and .i64 (bits .and .i64 (n-1) 3) 1==0)=true):Calls Tryz.prog 202 #[.int .i64 2,.int .i64 n] w (BdL (bits .or .u64 2 (IntKind.u64.wrap (bits .and .i64 (n-1) 3) / 2)) w):=by
 have F:(n==0)=false:=by rw[beq_eq_false_iff_ne];omega
 have D:jar 2=true:=rfl;go_enter Tryz.func202,Tryz.ntmps202;go_wp2_with fail;refine jac 0 rfl ?_;go_wp2_with (go_at_call 201;refine (jae _ _).mono ?_;rintro e w' ⟨rfl,rfl⟩);go_quiet (fail);go_wp2_with fail
 first | rw[jad] | (go_step3;refine And.intro (rfl:(0:Nat)=0) ?_;go_wp2_with fail;go_wp2_with fail;rw[Exit.noGoto_ret]) | (go_step3;go_wp2_with fail;rw[jad])
 go_ret3;exact⟨_,rfl,bDr (Below.refl _ _) _⟩
theorem jtI (w:World):Calls Tryz.prog 202 #[.int .i64 3,.int .i64 0] w (BdL 0 w):=by
 have A:jar 3=true:=rfl;go_enter Tryz.func202,Tryz.ntmps202;go_wp2_with fail;refine jac 0 rfl ?_;go_wp2_with (go_at_call 201;refine (jae _ _).mono ?_;rintro e w' ⟨rfl,rfl⟩)
 first | rw[jad] | (go_step3;refine And.intro (rfl:(0:Nat)=0) ?_;go_wp2_with fail;go_wp2_with fail;rw[Exit.noGoto_ret]) | (go_step3;go_wp2_with fail;rw[jad])
 go_ret3;exact⟨_,rfl,Below.refl _ _⟩
theorem jtF (n:Int) (w:World) (A:1<=n) (B:n<=9223372036854775807) (C:(n-1) / 8<64) (D:3<=(n-1) / 8):Calls Tryz.prog 202 #[.int .i64 3,.int .i64 n] w (BdL (bits .or .u64 (IntKind.u64.wrap (2^((n-1) / 8).toNat)) (IntKind.u64.wrap (IntKind.u64.wrap (bits .and .i64 (n-1) 7)*2^((n-1) / 8-3).toNat))) w):=by
 have F:(n==0)=false:=by rw[beq_eq_false_iff_ne];omega
 have E:jar 3=true:=rfl;go_enter Tryz.func202,Tryz.ntmps202;go_wp2_with fail;refine jac 0 rfl ?_;go_wp2_with (go_at_call 201;refine (jae _ _).mono ?_;rintro e w' ⟨rfl,rfl⟩);go_quiet (fail);go_wp2_with fail;go_quiet (fail);go_wp2_with fail
 first | rw[jad] | (go_step3;refine And.intro (rfl:(0:Nat)=0) ?_;go_wp2_with fail;go_wp2_with fail;rw[Exit.noGoto_ret]) | (go_step3;go_wp2_with fail;rw[jad])
 go_ret3;exact⟨_,rfl,bDr (bDr (Below.refl _ _) _) _⟩
theorem jtA (n:Int) (w:World) (A:1<=n) (B:n<=9223372036854775807) (C:(n-1) / 8=0) (E:(bits .and .i64 (bits .and .i64 (n-1) 7) 7==0)=true):Calls Tryz.prog 202 #[.int .i64 3,.int .i64 n] w (BdL (bits .or .u64 1 (IntKind.u64.wrap (bits .and .i64 (n-1) 7) / 8)) w):=by
 have F:(n==0)=false:=by rw[beq_eq_false_iff_ne];omega
 have D:jar 3=true:=rfl;go_enter Tryz.func202,Tryz.ntmps202;go_wp2_with fail;refine jac 0 rfl ?_;go_wp2_with (go_at_call 201;refine (jae _ _).mono ?_;rintro e w' ⟨rfl,rfl⟩);go_quiet (fail);go_wp2_with fail
 first | rw[jad] | (go_step3;refine And.intro (rfl:(0:Nat)=0) ?_;go_wp2_with fail;go_wp2_with fail;rw[Exit.noGoto_ret]) | (go_step3;go_wp2_with fail;rw[jad])
 go_ret3;exact⟨_,rfl,bDr (Below.refl _ _) _⟩
theorem jtB (n:Int) (w:World) (A:1<=n) (B:n<=9223372036854775807) (C:(n-1) / 8=1) (E:(bits .and .i64 (bits .and .i64 (n-1) 7) 3==0)=true):Calls Tryz.prog 202 #[.int .i64 3,.int .i64 n] w (BdL (bits .or .u64 2 (IntKind.u64.wrap (bits .and .i64 (n-1) 7) / 4)) w):=by
 have F:(n==0)=false:=by rw[beq_eq_false_iff_ne];omega
 have D:jar 3=true:=rfl;go_enter Tryz.func202,Tryz.ntmps202;go_wp2_with fail;refine jac 0 rfl ?_;go_wp2_with (go_at_call 201;refine (jae _ _).mono ?_;rintro e w' ⟨rfl,rfl⟩);go_quiet (fail);go_wp2_with fail
 first | rw[jad] | (go_step3;refine And.intro (rfl:(0:Nat)=0) ?_;go_wp2_with fail;go_wp2_with fail;rw[Exit.noGoto_ret]) | (go_step3;go_wp2_with fail;rw[jad])
 go_ret3;exact⟨_,rfl,bDr (Below.refl _ _) _⟩
theorem jtC (n:Int) (w:World) (A:1<=n) (B:n<=9223372036854775807) (C:(n-1) / 8=2) (E:(bits .and .i64 (bits .and .i64 (n-1) 7) 1==0)=true):Calls Tryz.prog 202 #[.int .i64 3,.int .i64 n] w (BdL (bits .or .u64 4 (IntKind.u64.wrap (bits .and .i64 (n-1) 7) / 2)) w):=by
 have F:(n==0)=false:=by rw[beq_eq_false_iff_ne];omega
 have D:jar 3=true:=rfl;go_enter Tryz.func202,Tryz.ntmps202;go_wp2_with fail;refine jac 0 rfl ?_;go_wp2_with (go_at_call 201;refine (jae _ _).mono ?_;rintro e w' ⟨rfl,rfl⟩);go_quiet (fail);go_wp2_with fail
 first | rw[jad] | (go_step3;refine And.intro (rfl:(0:Nat)=0) ?_;go_wp2_with fail;go_wp2_with fail;rw[Exit.noGoto_ret]) | (go_step3;go_wp2_with fail;rw[jad])
 go_ret3;exact⟨_,rfl,bDr (Below.refl _ _) _⟩
theorem jkC (f:Nat) (E:1<=f) (C:f<=3) (n:Int) (w:World) (h:jaz f n=true):Calls Tryz.prog 202 #[.int .i64 f,.int .i64 n] w (BdL (jeu f n) w):=by
 obtain⟨F,G⟩:=jb6 f C n h;by_cases D:n=0
 ·subst D
  rcases (by omega:f=1\/f=2\/f=3) with rfl | rfl | rfl
  ·exact jtG w
  ·exact jtH w
  ·exact jtI w
 rw[jcW _ _ (by omega) (jbZ f C)] at h;unfold jeu;rw[if_neg D];rcases (by omega:f=1\/f=2\/f=3) with rfl | rfl | rfl
 ·simp only[show ((1:Int)).toNat=1 from rfl,show ((2:Int)^1)=2 from rfl,show (((1:Nat):Int))=1 from rfl,Int.reduceSub] at h ⊢
  by_cases B:64<=(n-1) / 2
  ·rw[if_pos B] at h;cases h
  rw[if_neg B] at h;by_cases A:(1:Int)<=(n-1) / 2
  ·rw[if_pos A];rw[show ((n-1) / 2-1).toNat=((n-1) / 2).toNat-1 by omega];exact jtD n w (by omega) (by omega) (by omega) (by omega)
  rw[if_neg A] at h ⊢;have e:(n-1) / 2=0:=by omega
  rw[e] at h ⊢;exact jtx n w (by omega) (by omega) e h
 ·simp only[show ((2:Int)).toNat=2 from rfl,show ((2:Int)^2)=4 from rfl,show (((2:Nat):Int))=2 from rfl,Int.reduceSub] at h ⊢
  by_cases B:64<=(n-1) / 4
  ·rw[if_pos B] at h;cases h
  rw[if_neg B] at h;by_cases A:(2:Int)<=(n-1) / 4
  ·rw[if_pos A];exact jtE n w (by omega) (by omega) (by omega) (by omega)
  rw[if_neg A] at h ⊢;rcases (by omega:(n-1) / 4=0\/(n-1) / 4=1) with e | e<;>rw[e] at h ⊢
  ·exact jty n w (by omega) (by omega) e h
  ·exact jtz n w (by omega) (by omega) e h
 ·simp only[show ((3:Int)).toNat=3 from rfl,show ((2:Int)^3)=8 from rfl,show (((3:Nat):Int))=3 from rfl,Int.reduceSub] at h ⊢
  by_cases B:64<=(n-1) / 8
  ·rw[if_pos B] at h;cases h
  rw[if_neg B] at h;by_cases A:(3:Int)<=(n-1) / 8
  ·rw[if_pos A];exact jtF n w (by omega) (by omega) (by omega) (by omega)
  rw[if_neg A] at h ⊢;rcases (by omega:(n-1) / 8=0\/(n-1) / 8=1\/(n-1) / 8=2) with e | e | e<;>rw[e] at h ⊢
  ·exact jtA n w (by omega) (by omega) e h
  ·exact jtB n w (by omega) (by omega) e h
  ·exact jtC n w (by omega) (by omega) e h
end
section
section
variable {F:Fence} {n:Nat} {P:Program} {ops:Array Oper} {Q:Exit->Act->World->Prop} {md:Region.Mode} {l:Nat}
theorem jno {o:Oper} {K:Act->World->Prop} {a:Act} {w:World} (B:F.round=none) (C:∀ c,o.op≠.defer c) (h:o.wpIn F n P a w K Q):o.wpIn (F.inRound l) n P a w K Q:=by
 unfold Oper.wpIn at h ⊢;refine⟨h.1,?_⟩;have A:=h.2;rw[B,Oper.semAt_none] at A;rw[Fence.inRound_round,Oper.semAt_some _ _ _ C];generalize (execOp a.eval o).run P w=r at A ⊢
 cases r with
 | ok x w'=>cases x<;>exact A
 | halt x w'=>cases x<;>exact A
theorem jl4 {i:Nat} {K:Act->World->Prop} {a:Act} {w:World} (B:F.round=none) (D:∀ (i:Nat) (o:Oper),ops[i]? = some o->∀ c,o.op≠.defer c) (h:wpOpIn F n P ops Q i K a w):wpOpIn (F.inRound l) n P ops Q i K a w:=by
 unfold wpOpIn at h ⊢
 cases A:ops[i]? with
 | none=>simpa only[A] using h
 | some o =>
  simp only[A] at h ⊢;split
  ·rename_i C;rw[if_pos C] at h;exact jno B (D i o A) h
  ·rename_i C;rw[if_neg C] at h;exact h
theorem jkt (C:F.round=none) (G:∀ (i:Nat) (o:Oper),ops[i]? = some o->∀ c,o.op≠.defer c) (B:Nat):∀ (A:Array Bool) (a:Act) (w:World),wpAnyIn F n P md ops Q B A a w->wpAnyIn (F.inRound l) n P md ops Q B A a w:=by
 induction B with
 | zero=>intro A a w h;exact h
 | succ B ih=>intro A a w h;exact⟨h.1,fun i H=>jl4 C G (wpOpIn_mono (fun D w' E=>ih (A.setIfInBounds i true) D w' E) (h.2 i H))⟩
def jj5 (ops:Array Oper):Bool:=ops.toList.all fun o=>match o.op with | .defer _=>false | _=>true
theorem jj6 (h:jj5 ops=true):∀ (i:Nat) (o:Oper),ops[i]? = some o->∀ c,o.op≠.defer c:=by
 intro i o B c C;rw[jj5,List.all_eq_true] at h;have A:=h o (by rw[<- Array.getElem?_toList] at B;exact List.mem_of_getElem? B);rw[C] at A
 cases A
theorem jbE {D:Nat} {a:Act} {w:World} (A:F.round=none) (C:P.follows .mixedOrders=true) (B:jj5 ops=true)
  (h:wpAnyIn F n P .any ops Q ops.size (Array.replicate ops.size false) a w.drew):(Code.region D ops true).wpIn (F.inRound l) n P Q a w :=
 wpIn_region_any C (jkt A (jj6 B) _ _ _ _ h)
end
end
end Go.Proofs.YtnegciklhanmbaaGreatDoor
