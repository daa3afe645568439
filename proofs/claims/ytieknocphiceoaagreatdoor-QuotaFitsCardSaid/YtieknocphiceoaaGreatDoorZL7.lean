/- slices.Clone and slices.Equal at []api.Label: printed by wip/tools/gen_l5.py. Package label: Text. Package label over slices by their elements: Right, Text. -/
import Derived.Test.YtieknocphiceoaaGreatDoorZL4
namespace Go.Proofs.YtieknocphiceoaaGreatDoor
open Go Go.RowKit
theorem jkG:Tryz.prog.underlying 68=some (.slice 67):=by kernel_rfl
theorem jkY:(Tryz.prog.info? 67).map (fun i=>(i.zero,i.size,i.bytes))=some (some (.agg #[.string ⟨#[]⟩,.string ⟨#[]⟩]),2,32):=by kernel_rfl
theorem jho (a:Option Addr) (n c:Nat) (w:World):(binOp .eql 68 (.slice a n c) (.slice none 0 0)).run Tryz.prog w=.ok (.bool a.isNone) w:=Lib.run_eql_slice_nil w _ _ a n c 0 0 jkG
theorem jnA (x:Lab):∀ u∈Lab.enc x,u.oneCell'=true:=by
 intro u hu;simp only[Lab.enc,List.mem_cons,List.not_mem_nil,or_false] at hu;rcases hu with rfl | rfl<;>rfl
set_option maxHeartbeats 1000000 in
theorem jmD (a:Option Addr) (len cap:Nat) (l:List Lab) (w:World) (hL:SlE Lab.enc 2 w.heap.size w a len l) (hll:len<2147483648) :
  Calls Tryz.prog 85 #[.slice a len cap] w fun e w'=>∃ a' cap',e=.returned (.slice a' len cap')/\SlC Lab.enc 2 w'.heap.size w' a' len cap' l/\(∀ x,a'=some x->w.heap.size<=x.block)/\Below w.heap.size w w':=by
 have he:=jho a len cap;have hlen:=hL.1
 cases a with
 | none =>
  have hl0:l=[]:=by
   cases l with
   | nil=>rfl
   | cons y ys=>obtain⟨b,off,e,_⟩:=hL.2 0 y rfl;cases e
  subst hl0;obtain rfl:len=0:=hlen;clear hL;go_enter Tryz.func85,Tryz.ntmps85;go_wp2_with fail;go_ret;exact⟨none,0,rfl,SlC.nil,(fun x h=>by cases h),Below.refl _ _⟩
 | some a =>
  have hB1:Below w.heap.size w (w.alloc (.cells #[] 67)):=(Below.refl _ w).alloc (Nat.le_refl _) _;have hown:(w.alloc (.cells #[] 67)).ownsRow w.heap.size 67 2 (.slice (some ⟨w.heap.size,0,none⟩) 0 0) 0 []:=⟨rfl,.inr ⟨w.heap.size,0,#[],rfl,Nat.le_refl _,World.alloc_heap_new _ _,Nat.le_refl _,by unfold maxLen;omega,rfl,rfl⟩⟩;have hL1:=hL.go hB1;obtain⟨v4,w4,hap4,hown4,hB4,hz4,-,-⟩:=jaW Tryz.prog (cap:=cap) 68 jkG jkY rfl (by decide) hown hB1 (Nat.le_refl _) (by simp) (fun _=>rfl) hL1 jnA (by omega) hll (by decide);rw[Nat.zero_add,List.nil_append,hlen] at hown4;obtain⟨a4,c4,hv4,hs4,hb4⟩:=jaE (enc:=Lab.enc) (fun _=>rfl) hown4;have HS:Hid (SlC Lab.enc 2 w4.heap.size w4 a4 len c4 l):=by rw[Hid,hlen];exact hs4
  rw[<- hlen] at hv4;subst hv4;clear hL hL1 hown hs4 hown4 hlen;go_enter Tryz.func85,Tryz.ntmps85;go_wp2_with (at_builtin;refine jcw rfl _ _ _ rfl rfl rfl hap4 ?_);go_ret;exact⟨_,_,rfl,HS.out,hb4,hB4⟩
set_option maxRecDepth 100000 in
set_option maxHeartbeats 1000000 in
theorem jmQ (a1:Option Addr) (len1 cap1:Nat) (l1:List Lab) (a2:Option Addr) (len2 cap2:Nat) (l2:List Lab) (w:World) (h1:SlE Lab.enc 2 w.heap.size w a1 len1 l1) (h2:SlE Lab.enc 2 w.heap.size w a2 len2 l2) (hm:len1<=maxLen) :
  Calls Tryz.prog 66 #[.slice a1 len1 cap1,.slice a2 len2 cap2] w fun e w'=>e=.returned (.bool (l1==l2))/\Below w.heap.size w w':=by
 have e1:=h1.1;have e2:=h2.1;unfold maxLen at hm;by_cases hl:len1=len2
 ·subst hl
  have t0:((len1:Int) != (len1:Int))=false:=by simp
  have E1:=Lib.hid e1;have E2:=Lib.hid e2;clear e1 e2;go_enter Tryz.func66,Tryz.ntmps66;go_wp2_with fail;go_loopw [5,13] (fun _ i wr=>∃ (k:Nat),i=.int .i64 k/\k<=len1/\Below w.heap.size w wr/\Hid (l1.take k=l2.take k)) (fun _ i _=>len1-(intOf i).toNat)
  case atStart=>exact⟨0,rfl,Nat.zero_le _,Below.refl _ _,rfl⟩
  case round =>
   obtain⟨k,rfl,hk,hB,HF⟩:=hrel;by_cases hlt:k<len1
   ·obtain⟨x,b1,o1,hx,ea1,hb1,hc1⟩:=(h1.below hB).at hlt
    obtain⟨y,b2,o2,hy,ea2,hb2,hc2⟩:=(h2.below hB).at hlt;subst ea1;subst ea2;have p0:wr.cell? ⟨b1,o1+k*2,none⟩=some (.string x.name):=hc1 0 (by omega);have p1:wr.cell? ⟨b1,o1+k*2+1,none⟩=some (.string x.value):=hc1 1 (by omega);have q0:wr.cell? ⟨b2,o2+k*2,none⟩=some (.string y.name):=hc2 0 (by omega);have q1:wr.cell? ⟨b2,o2+k*2+1,none⟩=some (.string y.value):=hc2 1 (by omega);have n2:=jmN;have i0:(0:Int)<=(k:Int):=by omega
    have i1:(k:Int)<(len1:Int):=by omega
    have HX:=Lib.hid hx;have HY:=Lib.hid hy;clear hc1 hc2 hx hy h1 h2;by_cases hxy:x=y
    ·have n1:∀ w,(binOp .neq 67 (.agg #[.string x.name,.string x.value]) (.agg #[.string y.name,.string y.value])).run Tryz.prog w=.ok (.bool false) w:=fun w=>by rw[jii,jc5,jc5,hxy];simp
     have HXY:Hid (x=y):=hxy;clear hxy;go_wp2_with fail;go_quiet (fail);go_wp2_with fail;go_roundw
     case rel=>exact⟨k+1,by go_num,by omega,bDr hB _,by rw[Hid,jan HX.out,jan HY.out,HF.out,HXY.out]⟩
     case measure=>simp[intOf];omega
    ·have n1:∀ w,(binOp .neq 67 (.agg #[.string x.name,.string x.value]) (.agg #[.string y.name,.string y.value])).run Tryz.prog w=.ok (.bool true) w:=fun w=>by rw[jii,jc5,jc5];cases x;cases y;simp only[Lab.mk.injEq] at hxy;rw[<- Bool.decide_and,decide_eq_false hxy];rfl
     have HXY:Hid (¬ x=y):=hxy;clear hxy;go_wp2_with fail;go_quiet (fail);go_wp2_with fail;go_ret
     have hne:(l1==l2)=false:=by
      rw[beq_eq_false_iff_ne];intro e;have hx:=HX.out;rw[e,HY.out] at hx;exact HXY.out (Option.some.inj hx).symm
     exact⟨by rw[hne];rfl,bDr hB _⟩
   ·obtain rfl:k=len1:=by omega
    clear h1 h2;go_wp2_with fail;go_ret;have h9:=HF.out;rw[List.take_of_length_le (by rw[<- E1.out];omega),List.take_of_length_le (by rw[<- E2.out];omega)] at h9;exact⟨by rw[h9];simp,hB⟩
 ·have t0:((len1:Int) != (len2:Int))=true:=by rw[bne_iff_ne];omega
  have hne:Hid ((l1==l2)=false):=by
   rw[Hid,beq_eq_false_iff_ne];intro e;rw[e,<- e2] at e1;exact hl e1
  clear h1 h2 e1 e2 hl;go_enter Tryz.func66,Tryz.ntmps66;go_wp2_with fail;go_ret;exact⟨by rw[hne.out];rfl,Below.refl _ _⟩
end Go.Proofs.YtieknocphiceoaaGreatDoor
namespace Go.Proofs.YtieknocphiceoaaGreatDoor
open Go Go.RowKit Go.Shelf
attribute [local go_sem] Oper.semAt_some
attribute [-go_sem] Builtin.append_
def jc7 (x:Lab):ByteArray:=x.name++(⟨#[61]⟩:ByteArray)++⟨(jaH (rl x.value 0)).toArray⟩
def jdw (ls:List Lab):ByteArray:=⟨(Lib.join ((ls.map jc7).map (·.data.toList)) [44]).toArray⟩
theorem jbQ:Tryz.prog.underlying 141=some (.slice 9):=by kernel_rfl
theorem jbP:(Tryz.prog.info? 9).map (fun i=>(i.zero,i.size,i.bytes))=some (some (.string ⟨#[]⟩),1,16):=by kernel_rfl
def jgW (s:ByteArray):List Value:=[.string s]
theorem jcj {w:World} {base e size n:Nat} {v:Value} {xs:List Value} (h:w.ownsRow base e size v n xs):∃ a cap,v=.slice a n cap:=by
 rcases h.2 with⟨rfl,rfl⟩ | ⟨g,cap,cur,rfl,_⟩
 ·exact⟨none,0,rfl⟩
 ·exact⟨_,cap,rfl⟩
theorem jmv {W w1:World} {B base e size n:Nat} {v:Value} {xs:List Value} (hown:W.ownsRow base e size v n xs) (hz:W.heap.size<=w1.heap.size) (h6:∀ k,k<W.heap.size->some k≠v.ownBlock->w1.heap[k]? = W.heap[k]?):KeepsFrom B W w1 :=
 ⟨hz,fun k o _ hk ho=>by
  refine (h6 k (Array.getElem?_eq_some_iff.1 hk).1 (fun e=>?_)).trans hk;rcases hown.2 with⟨rfl,_⟩ | ⟨g,cap,cur,rfl,_,hg,_⟩
  ·cases e
  ·have:k=g:=by cases e;rfl
   subst this;rw[hg] at hk;cases hk;cases ho⟩
theorem jkZ (sep:List UInt8) (M:Nat) (xs:List (List UInt8)) (h:∀ x∈xs,x.length<=M):(Lib.join xs sep).length<=xs.length*(M+sep.length):=by
 have ht:∀ r:List (List UInt8),(∀ x∈r,x.length<=M)->(Lib.joinTail sep r).length<=r.length*(M+sep.length):=by
  intro r
  induction r with
  | nil=>intro _;simp[Lib.joinTail]
  | cons x r ih =>
   intro hr;have h1:=ih (fun y hy=>hr y (List.mem_cons_of_mem _ hy));have h2:=hr x (List.mem_cons_self ..);simp only[Lib.joinTail,List.map_cons,List.flatten_cons,List.length_append,List.length_cons,Nat.add_mul] at h1 ⊢;omega
 cases xs with
 | nil=>simp[Lib.join_nil]
 | cons x r =>
  have h1:=ht r (fun y hy=>h y (List.mem_cons_of_mem _ hy));have h2:=h x (List.mem_cons_self ..);rw[Lib.join_cons,List.length_append,List.length_cons,Nat.add_mul];omega
theorem jgg (u:jiD):(jc7 u.1).data.toList.length<=30064770967:=by
 have h1:=u.2.1;have h2:=u.2.2;have h3:=jeu (rl u.1.value 0);have h4:=jqh u.1.value 0
 have e:(jc7 u.1).size=u.1.name.size+1+(jaH (rl u.1.value 0)).length:=by
  simp[jc7,ByteArray.size_append];rfl
 rw[<- Lib.size_eq,e];omega
def jdb (pre:List jiD):List ByteArray:=(pre.map (·.1)).map jc7
theorem jkE (pre:List jiD):(jdb pre).length=pre.length:=by simp[jdb]
def jqu (n N:Nat) (w:World) (pre:List jiD) (W:World):Prop :=
 ∃ v,Boxed W n 141 v/\W.ownsRow N 9 1 v pre.length ((jdb pre).flatMap jgW)/\Below w.heap.size w W
theorem jnW {n N:Nat} {w:World} (hn:w.heap.size<=n) (hN:n<N):OwnFrom N (jqu n N w):=fun s X Y row hs hg hr=>by
 obtain⟨v,h1,h2,h3⟩:=hs;refine⟨v,jjj N n _ (fun _:Unit=>v) () X Y row h1 hg hr,h2.kept hg ?_,ownFrom_below (Nat.le_refl _) (by omega) () X Y row h3 hg hr⟩;rcases h2.2 with⟨rfl,_⟩ | ⟨g,cap,cur,rfl,hgb,hgg,_⟩
 ·exact .inl rfl
 ·refine .inr (fun e=>?_)
  have e':row=some g:=by rw[<- e];rfl
  obtain⟨_,o,ho,hc⟩:=hr g e';rw[hgg] at ho;cases ho;cases hc
set_option maxRecDepth 100000 in
set_option maxHeartbeats 1000000 in
theorem jfB (a0:Option Addr) (cap:Nat) (ls:List jiD) (w:World) (hL:Labs w.heap.size w (.slice a0 ls.length cap) (ls.map (·.1))) (hG:GW w) (h3:ls.length<4294967281) (hR:jar (ls.map (·.1))=true) :
  Calls Tryz.prog 79 #[.slice a0 ls.length cap] w fun e w'=>e=.returned (.tuple #[.string (jdw (ls.map (·.1))),.int .i64 0])/\Below w.heap.size w w':=by
 refine jaT Tryz.func79 rfl ?_;simp only[Tryz.ntmps79,List.size_toArray,List.length_cons,List.length_nil,Nat.reduceAdd,Nat.reduceSub,Array.replicate_succ,Array.replicate_zero,List.push_toArray,List.append_toArray,List.nil_append,List.cons_append];have hG1:=hG;go_wp2_with (first | (go_at_call 101;refine (jcL a0 cap ls _ hL hG h3).mono ?_;rw[hR];rintro e w1 ⟨rfl,hb1⟩) | (go_at_call 128;refine (jkR _ _ _ _).mono ?_;rintro e w' ⟨rfl,rfl⟩));have bR:=Boxed.new w1 141 (.slice none 0 0);have bN:=Boxed.new (w1.alloc (.cells #[.slice none 0 0] 141)) 68 (.slice a0 ls.length cap);have hB0:Below w.heap.size w ((w1.alloc (.cells #[.slice none 0 0] 141)).alloc (.cells #[.slice a0 ls.length cap] 68)):=(hb1.alloc hb1.size _).alloc (by have:=hb1.size;simp;omega) _;simp only[World.size_alloc] at bN;have bR0:=bR.alloc (.cells #[.slice a0 ls.length cap] 68);have hsz:((w1.alloc (.cells #[.slice none 0 0] 141)).alloc (.cells #[.slice a0 ls.length cap] 68)).heap.size=w1.heap.size+2:=by simp
 generalize ((w1.alloc (.cells #[.slice none 0 0] 141)).alloc (.cells #[.slice a0 ls.length cap] 68))=W0 at bR0 bN hB0 hsz ⊢;clear bR;have hw1:=hb1.size
 refine jfy 67 (fun x:jiD=>#[.string x.1.name,.string x.1.value]) 5 (gf:=195) (lb:=#[.pointer (some ⟨w1.heap.size+1,0,none⟩)]) rfl (enters_of Tryz.func195 (by kernel_rfl) rfl)
  (jhK (w1.heap.size+1) w.heap.size _ ls h3 W0 (by omega) (by omega) bN.cell (SlAt.below hB0 hL)) (by omega) (Below.refl _ _) (fun _=>rfl)
  (jqu w1.heap.size W0.heap.size w) (fun _ _ _=>False) (jnW (by omega) (by omega)) (fun c=>fun _ _ _ _ h=>h.elim)
  ⟨_,bR0,World.ownsRow_nil _ _ _ _,hB0⟩ ?assign ?body ?done ?stop
 case assign =>
  rintro l pre x W K ⟨v,k0,k1,k2⟩ hs hK;simp only[List.zip_toArray,List.zip_cons_cons,List.zip_nil_right,List.size_toArray,List.foldl_toArray',List.foldl_cons,List.foldl_nil,List.setIfInBounds_toArray,List.set_cons_succ,List.set_cons_zero] at hK ⊢;gi_wp2;exact⟨v,k0.alloc _,k1.alloc _,k2.alloc k2.size _⟩
 case body =>
  rintro l pre x W Bx ⟨v,k0,k1,hB⟩ hBx hBl hx hlt;have c0:=cCc hx 0;have c1:=cCc hx 1;simp at c0 c1;obtain⟨va,vc,rfl⟩:=jcj k1;have c3:=k0.cell;have c4:=k0.frozen;simp only[List.zip_toArray,List.zip_cons_cons,List.zip_nil_right,List.size_toArray,List.foldl_toArray',List.foldl_cons,List.foldl_nil,List.setIfInBounds_toArray,List.set_cons_succ,List.set_cons_zero];have hmx:Tryz.prog.follows .mixedOrders=true:=by kernel_rfl
  have hq:=jl0 x.1.value W.drew (by have:=x.2.2;omega);have hbx:w1.heap.size<W.heap.size:=k0.lt;have hlen:pre.length<4294967281:=by omega
  have hn1:x.1.name.size<4294967281:=x.2.1;have hq1:(jaH (rl x.1.value 0)).length<=5*4294967281:=by have h1:=jeu (rl x.1.value 0);have h2:=jqh x.1.value 0;have h3:=x.2.2;omega
  clear hx
  have fin:∀ (w2 w4:World) (g cap':Nat) (hb2:Below W.drew.heap.size W.drew w2) (hown4:w4.ownsRow W0.heap.size 9 1 (.slice (some ⟨g,0,none⟩) (pre.length+1) cap') (pre.length+1) ((jdb pre).flatMap jgW++[.string (x.1.name++(⟨#[61]⟩:ByteArray)++(⟨(jaH (rl x.1.value 0)).toArray⟩:ByteArray))])) (hB4:Below w.heap.size W w4) (hz4:w2.heap.size<w4.heap.size) (hbl4:∀ k,k<W0.heap.size->w4.heap[k]? = w2.heap[k]?) (hoth4:∀ k,k<w2.heap.size->some k≠(Value.slice va pre.length vc).ownBlock->w4.heap[k]? = w2.heap[k]?),
    KeepsFrom W0.heap.size W (w4.setCell ⟨w1.heap.size,0,none⟩ (.slice (some ⟨g,0,none⟩) (pre.length+1) cap'))/\Below w.heap.size W (w4.setCell ⟨w1.heap.size,0,none⟩ (.slice (some ⟨g,0,none⟩) (pre.length+1) cap'))/\jqu w1.heap.size W0.heap.size w (pre++[x]) (w4.setCell ⟨w1.heap.size,0,none⟩ (.slice (some ⟨g,0,none⟩) (pre.length+1) cap')):=by
   intro w2 w4 g cap' hb2 hown4 hB4 hz4 hbl4 hoth4;have d2:Boxed w4 w1.heap.size 141 _:=(hbl4 _ (by omega)).trans (jcz hb2 hbx k0);have hkd:KeepsFrom W0.heap.size W W.drew:=(KeepsOthers.drew _).from _
   refine⟨((hkd.trans (jkM hb2 (Nat.le_refl _))).trans (jmv (jaC (w':=w2) k1 (fun j _ hj=>hb2.block j hj)) (by omega) hoth4)).trans ((KeepsOthers.setCell _ _ _).from _),hB4.setCell (p:=⟨w1.heap.size,0,none⟩) hw1 _,_,d2.set _,?_,(hB.trans hB4).setCell (p:=⟨w1.heap.size,0,none⟩) hw1 _⟩;have hq:=ownsRow_setCell_below hown4 (a:=⟨w1.heap.size,0,none⟩) (by show w1.heap.size<_;omega) (.slice (some ⟨g,0,none⟩) (pre.length+1) cap');simpa [jdb,jgW,jc7] using hq
  gi_wp2_with fail
  refine jdo (F:=Fence.wide) rfl hmx rfl ?_;refine wpAnyIn_take (i:=1) (v:=?_) rfl rfl (by kernel_rfl) (by kernel_rfl) (by kernel_rfl) (fun _ _ _ h=>h) ⟨Or.inl ⟨by rfl,?_⟩,fun _=>rfl⟩ ?_;rotate_left
  ·intro w;go_simp;with_reducible rfl
  refine wpAnyIn_take (i:=4) (v:=?_) rfl rfl (by kernel_rfl) (by kernel_rfl) (by kernel_rfl) (fun _ _ _ h=>h) ⟨Or.inl ⟨by rfl,?_⟩,fun _=>rfl⟩ ?_;rotate_left
  ·intro w;go_simp;with_reducible rfl
  refine wpAnyIn_ready (rs:=[0,2,5]) (by kernel_rfl) (by simp) ?_;refine AllReadyIn.cons rfl (fun K hK=>?_) ?_
  ·go_simp
   refine hK _ _ ?_;clear hK K;refine wpAnyIn_ready (rs:=[2,5]) (by kernel_rfl) (by simp) ?_;refine AllReadyIn.cons rfl (fun K hK=>?_) ?_
   ·go_simp
    refine hK _ _ ?_;clear hK K;refine wpAnyIn_take (i:=3) (v:=?_) rfl rfl (by kernel_rfl) (by kernel_rfl) (by kernel_rfl) (fun _ _ _ h=>h) ⟨Or.inl ⟨by rfl,?_⟩,fun _=>rfl⟩ ?_;rotate_left
    ·intro w;go_simp;rw[if_neg (by omega)]
    refine wpAnyIn_ready (rs:=[5]) (by kernel_rfl) (by simp) ?_;refine AllReadyIn.cons rfl (fun K hK=>?_) ?_
    ·go_simp
     refine hK _ _ ?_;clear hK K;refine wpAnyIn_ready (rs:=[6]) (by kernel_rfl) (by simp) ?_;refine AllReadyIn.cons rfl (fun K hK=>?_) ?_
     ·go_simp
      refine⟨trivial,(callsIn_wide.2 hq).mono ?_⟩;rintro e w2 ⟨rfl,hb2⟩;obtain⟨g,cap',w4,hap,hown4,hB4,hz4,hbl4,hoth4⟩:=jax Tryz.prog 141 jbQ jbP rfl (by decide) (jaC (w':=w2) k1 (fun j _ hj=>hb2.block j hj)) ((Below.refl w.heap.size W).drew.trans (hb2.mono hB.size)) (by omega) (by have:=hb2.size;have:W.drew.heap.size=W.heap.size:=rfl;omega) [.string (x.1.name++(⟨#[61]⟩:ByteArray)++(⟨(jaH (rl x.1.value 0)).toArray⟩:ByteArray))] rfl (by simp[Value.oneCell']) hlen (by decide);have hz2:W.heap.size<=w2.heap.size:=hb2.size;have hw2:w1.heap.size<w2.heap.size:=Nat.lt_of_lt_of_le hbx hz2;have hx2:Bx<w2.heap.size:=Nat.lt_of_lt_of_le hBl hz2;have d0:=(hb2.cell (p:=⟨Bx,0,none⟩) hBl).trans c0;have d1:=(hb2.cell (p:=⟨w1.heap.size,0,none⟩) hbx).trans c3;have d2:Boxed w4 w1.heap.size 141 _:=(hbl4 _ (by omega)).trans (jcz hb2 hbx k0);have d3:=d2.cell;have d4:=d2.frozen;refine hK _ _ ?_;clear hK K hq;refine wpAnyIn_take (i:=7) (v:=?_) rfl rfl (by kernel_rfl) (by kernel_rfl) (by kernel_rfl) (fun _ _ _ h=>h) ⟨Or.inl ⟨by rfl,?_⟩,fun _=>rfl⟩ ?_;rotate_left
      ·intro w;go_simp;rw[if_neg (by omega)]
      refine wpAnyIn_ready (rs:=[8]) (by kernel_rfl) (by simp) ?_;refine AllReadyIn.cons rfl (fun K hK=>?_) ?_
      ·go_simp
       refine hK _ _ ?_;clear hK K;refine wpAnyIn_ready (rs:=[9]) (by kernel_rfl) (by simp) ?_;refine AllReadyIn.cons rfl (fun K hK=>?_) ?_
       ·go_simp
        refine hK _ _ ?_;clear hK K;refine wpAnyIn_ready (rs:=[10]) (by kernel_rfl) (by simp) ?_;refine AllReadyIn.cons rfl (fun K hK=>?_) ?_
        ·go_simp
         refine hK _ _ ?_;clear hK K;refine wpAnyIn_done (by kernel_rfl) ?_ _;exact fin w2 w4 g cap' hb2 hown4 hB4 hz4 hbl4 hoth4
        exact AllReadyIn.nil
       exact AllReadyIn.nil
      exact AllReadyIn.nil
     exact AllReadyIn.nil
    exact AllReadyIn.nil
   refine AllReadyIn.cons rfl (fun K hK=>?_) ?_
   ·go_simp
    refine hK _ _ ?_;clear hK K;refine wpAnyIn_ready (rs:=[2,6]) (by kernel_rfl) (by simp) ?_;refine AllReadyIn.cons rfl (fun K hK=>?_) ?_
    ·go_simp
     refine hK _ _ ?_;clear hK K;refine wpAnyIn_take (i:=3) (v:=?_) rfl rfl (by kernel_rfl) (by kernel_rfl) (by kernel_rfl) (fun _ _ _ h=>h) ⟨Or.inl ⟨by rfl,?_⟩,fun _=>rfl⟩ ?_;rotate_left
     ·intro w;go_simp;rw[if_neg (by omega)]
     refine wpAnyIn_ready (rs:=[6]) (by kernel_rfl) (by simp) ?_;refine AllReadyIn.cons rfl (fun K hK=>?_) ?_
     ·go_simp
      refine⟨trivial,(callsIn_wide.2 hq).mono ?_⟩;rintro e w2 ⟨rfl,hb2⟩;obtain⟨g,cap',w4,hap,hown4,hB4,hz4,hbl4,hoth4⟩:=jax Tryz.prog 141 jbQ jbP rfl (by decide) (jaC (w':=w2) k1 (fun j _ hj=>hb2.block j hj)) ((Below.refl w.heap.size W).drew.trans (hb2.mono hB.size)) (by omega) (by have:=hb2.size;have:W.drew.heap.size=W.heap.size:=rfl;omega) [.string (x.1.name++(⟨#[61]⟩:ByteArray)++(⟨(jaH (rl x.1.value 0)).toArray⟩:ByteArray))] rfl (by simp[Value.oneCell']) hlen (by decide);have hz2:W.heap.size<=w2.heap.size:=hb2.size;have hw2:w1.heap.size<w2.heap.size:=Nat.lt_of_lt_of_le hbx hz2;have hx2:Bx<w2.heap.size:=Nat.lt_of_lt_of_le hBl hz2;have d0:=(hb2.cell (p:=⟨Bx,0,none⟩) hBl).trans c0;have d1:=(hb2.cell (p:=⟨w1.heap.size,0,none⟩) hbx).trans c3;have d2:Boxed w4 w1.heap.size 141 _:=(hbl4 _ (by omega)).trans (jcz hb2 hbx k0);have d3:=d2.cell;have d4:=d2.frozen;refine hK _ _ ?_;clear hK K hq;refine wpAnyIn_take (i:=7) (v:=?_) rfl rfl (by kernel_rfl) (by kernel_rfl) (by kernel_rfl) (fun _ _ _ h=>h) ⟨Or.inl ⟨by rfl,?_⟩,fun _=>rfl⟩ ?_;rotate_left
      ·intro w;go_simp;rw[if_neg (by omega)]
      refine wpAnyIn_ready (rs:=[8]) (by kernel_rfl) (by simp) ?_;refine AllReadyIn.cons rfl (fun K hK=>?_) ?_
      ·go_simp
       refine hK _ _ ?_;clear hK K;refine wpAnyIn_ready (rs:=[9]) (by kernel_rfl) (by simp) ?_;refine AllReadyIn.cons rfl (fun K hK=>?_) ?_
       ·go_simp
        refine hK _ _ ?_;clear hK K;refine wpAnyIn_ready (rs:=[10]) (by kernel_rfl) (by simp) ?_;refine AllReadyIn.cons rfl (fun K hK=>?_) ?_
        ·go_simp
         refine hK _ _ ?_;clear hK K;refine wpAnyIn_done (by kernel_rfl) ?_ _;exact fin w2 w4 g cap' hb2 hown4 hB4 hz4 hbl4 hoth4
        exact AllReadyIn.nil
       exact AllReadyIn.nil
      exact AllReadyIn.nil
     exact AllReadyIn.nil
    refine AllReadyIn.cons rfl (fun K hK=>?_) ?_
    ·go_simp
     refine⟨trivial,(callsIn_wide.2 hq).mono ?_⟩;rintro e w2 ⟨rfl,hb2⟩;obtain⟨g,cap',w4,hap,hown4,hB4,hz4,hbl4,hoth4⟩:=jax Tryz.prog 141 jbQ jbP rfl (by decide) (jaC (w':=w2) k1 (fun j _ hj=>hb2.block j hj)) ((Below.refl w.heap.size W).drew.trans (hb2.mono hB.size)) (by omega) (by have:=hb2.size;have:W.drew.heap.size=W.heap.size:=rfl;omega) [.string (x.1.name++(⟨#[61]⟩:ByteArray)++(⟨(jaH (rl x.1.value 0)).toArray⟩:ByteArray))] rfl (by simp[Value.oneCell']) hlen (by decide);have hz2:W.heap.size<=w2.heap.size:=hb2.size;have hw2:w1.heap.size<w2.heap.size:=Nat.lt_of_lt_of_le hbx hz2;have hx2:Bx<w2.heap.size:=Nat.lt_of_lt_of_le hBl hz2;have d0:=(hb2.cell (p:=⟨Bx,0,none⟩) hBl).trans c0;have d1:=(hb2.cell (p:=⟨w1.heap.size,0,none⟩) hbx).trans c3;have d2:Boxed w4 w1.heap.size 141 _:=(hbl4 _ (by omega)).trans (jcz hb2 hbx k0);have d3:=d2.cell;have d4:=d2.frozen;refine hK _ _ ?_;clear hK K hq;refine wpAnyIn_ready (rs:=[2]) (by kernel_rfl) (by simp) ?_;refine AllReadyIn.cons rfl (fun K hK=>?_) ?_
     ·go_simp
      refine hK _ _ ?_;clear hK K;refine wpAnyIn_take (i:=3) (v:=?_) rfl rfl (by kernel_rfl) (by kernel_rfl) (by kernel_rfl) (fun _ _ _ h=>h) ⟨Or.inl ⟨by rfl,?_⟩,fun _=>rfl⟩ ?_;rotate_left
      ·intro w;go_simp;rw[if_neg (by omega)]
      refine wpAnyIn_take (i:=7) (v:=?_) rfl rfl (by kernel_rfl) (by kernel_rfl) (by kernel_rfl) (fun _ _ _ h=>h) ⟨Or.inl ⟨by rfl,?_⟩,fun _=>rfl⟩ ?_;rotate_left
      ·intro w;go_simp;rw[if_neg (by omega)]
      refine wpAnyIn_ready (rs:=[8]) (by kernel_rfl) (by simp) ?_;refine AllReadyIn.cons rfl (fun K hK=>?_) ?_
      ·go_simp
       refine hK _ _ ?_;clear hK K;refine wpAnyIn_ready (rs:=[9]) (by kernel_rfl) (by simp) ?_;refine AllReadyIn.cons rfl (fun K hK=>?_) ?_
       ·go_simp
        refine hK _ _ ?_;clear hK K;refine wpAnyIn_ready (rs:=[10]) (by kernel_rfl) (by simp) ?_;refine AllReadyIn.cons rfl (fun K hK=>?_) ?_
        ·go_simp
         refine hK _ _ ?_;clear hK K;refine wpAnyIn_done (by kernel_rfl) ?_ _;exact fin w2 w4 g cap' hb2 hown4 hB4 hz4 hbl4 hoth4
        exact AllReadyIn.nil
       exact AllReadyIn.nil
      exact AllReadyIn.nil
     exact AllReadyIn.nil
    exact AllReadyIn.nil
   exact AllReadyIn.nil
  refine AllReadyIn.cons rfl (fun K hK=>?_) ?_
  ·go_simp
   refine hK _ _ ?_;clear hK K;refine wpAnyIn_take (i:=3) (v:=?_) rfl rfl (by kernel_rfl) (by kernel_rfl) (by kernel_rfl) (fun _ _ _ h=>h) ⟨Or.inl ⟨by rfl,?_⟩,fun _=>rfl⟩ ?_;rotate_left
   ·intro w;go_simp;rw[if_neg (by omega)]
   refine wpAnyIn_ready (rs:=[0,5]) (by kernel_rfl) (by simp) ?_;refine AllReadyIn.cons rfl (fun K hK=>?_) ?_
   ·go_simp
    refine hK _ _ ?_;clear hK K;refine wpAnyIn_ready (rs:=[5]) (by kernel_rfl) (by simp) ?_;refine AllReadyIn.cons rfl (fun K hK=>?_) ?_
    ·go_simp
     refine hK _ _ ?_;clear hK K;refine wpAnyIn_ready (rs:=[6]) (by kernel_rfl) (by simp) ?_;refine AllReadyIn.cons rfl (fun K hK=>?_) ?_
     ·go_simp
      refine⟨trivial,(callsIn_wide.2 hq).mono ?_⟩;rintro e w2 ⟨rfl,hb2⟩;obtain⟨g,cap',w4,hap,hown4,hB4,hz4,hbl4,hoth4⟩:=jax Tryz.prog 141 jbQ jbP rfl (by decide) (jaC (w':=w2) k1 (fun j _ hj=>hb2.block j hj)) ((Below.refl w.heap.size W).drew.trans (hb2.mono hB.size)) (by omega) (by have:=hb2.size;have:W.drew.heap.size=W.heap.size:=rfl;omega) [.string (x.1.name++(⟨#[61]⟩:ByteArray)++(⟨(jaH (rl x.1.value 0)).toArray⟩:ByteArray))] rfl (by simp[Value.oneCell']) hlen (by decide);have hz2:W.heap.size<=w2.heap.size:=hb2.size;have hw2:w1.heap.size<w2.heap.size:=Nat.lt_of_lt_of_le hbx hz2;have hx2:Bx<w2.heap.size:=Nat.lt_of_lt_of_le hBl hz2;have d0:=(hb2.cell (p:=⟨Bx,0,none⟩) hBl).trans c0;have d1:=(hb2.cell (p:=⟨w1.heap.size,0,none⟩) hbx).trans c3;have d2:Boxed w4 w1.heap.size 141 _:=(hbl4 _ (by omega)).trans (jcz hb2 hbx k0);have d3:=d2.cell;have d4:=d2.frozen;refine hK _ _ ?_;clear hK K hq;refine wpAnyIn_take (i:=7) (v:=?_) rfl rfl (by kernel_rfl) (by kernel_rfl) (by kernel_rfl) (fun _ _ _ h=>h) ⟨Or.inl ⟨by rfl,?_⟩,fun _=>rfl⟩ ?_;rotate_left
      ·intro w;go_simp;rw[if_neg (by omega)]
      refine wpAnyIn_ready (rs:=[8]) (by kernel_rfl) (by simp) ?_;refine AllReadyIn.cons rfl (fun K hK=>?_) ?_
      ·go_simp
       refine hK _ _ ?_;clear hK K;refine wpAnyIn_ready (rs:=[9]) (by kernel_rfl) (by simp) ?_;refine AllReadyIn.cons rfl (fun K hK=>?_) ?_
       ·go_simp
        refine hK _ _ ?_;clear hK K;refine wpAnyIn_ready (rs:=[10]) (by kernel_rfl) (by simp) ?_;refine AllReadyIn.cons rfl (fun K hK=>?_) ?_
        ·go_simp
         refine hK _ _ ?_;clear hK K;refine wpAnyIn_done (by kernel_rfl) ?_ _;exact fin w2 w4 g cap' hb2 hown4 hB4 hz4 hbl4 hoth4
        exact AllReadyIn.nil
       exact AllReadyIn.nil
      exact AllReadyIn.nil
     exact AllReadyIn.nil
    exact AllReadyIn.nil
   refine AllReadyIn.cons rfl (fun K hK=>?_) ?_
   ·go_simp
    refine hK _ _ ?_;clear hK K;refine wpAnyIn_ready (rs:=[0,6]) (by kernel_rfl) (by simp) ?_;refine AllReadyIn.cons rfl (fun K hK=>?_) ?_
    ·go_simp
     refine hK _ _ ?_;clear hK K;refine wpAnyIn_ready (rs:=[6]) (by kernel_rfl) (by simp) ?_;refine AllReadyIn.cons rfl (fun K hK=>?_) ?_
     ·go_simp
      refine⟨trivial,(callsIn_wide.2 hq).mono ?_⟩;rintro e w2 ⟨rfl,hb2⟩;obtain⟨g,cap',w4,hap,hown4,hB4,hz4,hbl4,hoth4⟩:=jax Tryz.prog 141 jbQ jbP rfl (by decide) (jaC (w':=w2) k1 (fun j _ hj=>hb2.block j hj)) ((Below.refl w.heap.size W).drew.trans (hb2.mono hB.size)) (by omega) (by have:=hb2.size;have:W.drew.heap.size=W.heap.size:=rfl;omega) [.string (x.1.name++(⟨#[61]⟩:ByteArray)++(⟨(jaH (rl x.1.value 0)).toArray⟩:ByteArray))] rfl (by simp[Value.oneCell']) hlen (by decide);have hz2:W.heap.size<=w2.heap.size:=hb2.size;have hw2:w1.heap.size<w2.heap.size:=Nat.lt_of_lt_of_le hbx hz2;have hx2:Bx<w2.heap.size:=Nat.lt_of_lt_of_le hBl hz2;have d0:=(hb2.cell (p:=⟨Bx,0,none⟩) hBl).trans c0;have d1:=(hb2.cell (p:=⟨w1.heap.size,0,none⟩) hbx).trans c3;have d2:Boxed w4 w1.heap.size 141 _:=(hbl4 _ (by omega)).trans (jcz hb2 hbx k0);have d3:=d2.cell;have d4:=d2.frozen;refine hK _ _ ?_;clear hK K hq;refine wpAnyIn_take (i:=7) (v:=?_) rfl rfl (by kernel_rfl) (by kernel_rfl) (by kernel_rfl) (fun _ _ _ h=>h) ⟨Or.inl ⟨by rfl,?_⟩,fun _=>rfl⟩ ?_;rotate_left
      ·intro w;go_simp;rw[if_neg (by omega)]
      refine wpAnyIn_ready (rs:=[8]) (by kernel_rfl) (by simp) ?_;refine AllReadyIn.cons rfl (fun K hK=>?_) ?_
      ·go_simp
       refine hK _ _ ?_;clear hK K;refine wpAnyIn_ready (rs:=[9]) (by kernel_rfl) (by simp) ?_;refine AllReadyIn.cons rfl (fun K hK=>?_) ?_
       ·go_simp
        refine hK _ _ ?_;clear hK K;refine wpAnyIn_ready (rs:=[10]) (by kernel_rfl) (by simp) ?_;refine AllReadyIn.cons rfl (fun K hK=>?_) ?_
        ·go_simp
         refine hK _ _ ?_;clear hK K;refine wpAnyIn_done (by kernel_rfl) ?_ _;exact fin w2 w4 g cap' hb2 hown4 hB4 hz4 hbl4 hoth4
        exact AllReadyIn.nil
       exact AllReadyIn.nil
      exact AllReadyIn.nil
     exact AllReadyIn.nil
    refine AllReadyIn.cons rfl (fun K hK=>?_) ?_
    ·go_simp
     refine⟨trivial,(callsIn_wide.2 hq).mono ?_⟩;rintro e w2 ⟨rfl,hb2⟩;obtain⟨g,cap',w4,hap,hown4,hB4,hz4,hbl4,hoth4⟩:=jax Tryz.prog 141 jbQ jbP rfl (by decide) (jaC (w':=w2) k1 (fun j _ hj=>hb2.block j hj)) ((Below.refl w.heap.size W).drew.trans (hb2.mono hB.size)) (by omega) (by have:=hb2.size;have:W.drew.heap.size=W.heap.size:=rfl;omega) [.string (x.1.name++(⟨#[61]⟩:ByteArray)++(⟨(jaH (rl x.1.value 0)).toArray⟩:ByteArray))] rfl (by simp[Value.oneCell']) hlen (by decide);have hz2:W.heap.size<=w2.heap.size:=hb2.size;have hw2:w1.heap.size<w2.heap.size:=Nat.lt_of_lt_of_le hbx hz2;have hx2:Bx<w2.heap.size:=Nat.lt_of_lt_of_le hBl hz2;have d0:=(hb2.cell (p:=⟨Bx,0,none⟩) hBl).trans c0;have d1:=(hb2.cell (p:=⟨w1.heap.size,0,none⟩) hbx).trans c3;have d2:Boxed w4 w1.heap.size 141 _:=(hbl4 _ (by omega)).trans (jcz hb2 hbx k0);have d3:=d2.cell;have d4:=d2.frozen;refine hK _ _ ?_;clear hK K hq;refine wpAnyIn_take (i:=7) (v:=?_) rfl rfl (by kernel_rfl) (by kernel_rfl) (by kernel_rfl) (fun _ _ _ h=>h) ⟨Or.inl ⟨by rfl,?_⟩,fun _=>rfl⟩ ?_;rotate_left
     ·intro w;go_simp;rw[if_neg (by omega)]
     refine wpAnyIn_ready (rs:=[0,8]) (by kernel_rfl) (by simp) ?_;refine AllReadyIn.cons rfl (fun K hK=>?_) ?_
     ·go_simp
      refine hK _ _ ?_;clear hK K;refine wpAnyIn_ready (rs:=[8]) (by kernel_rfl) (by simp) ?_;refine AllReadyIn.cons rfl (fun K hK=>?_) ?_
      ·go_simp
       refine hK _ _ ?_;clear hK K;refine wpAnyIn_ready (rs:=[9]) (by kernel_rfl) (by simp) ?_;refine AllReadyIn.cons rfl (fun K hK=>?_) ?_
       ·go_simp
        refine hK _ _ ?_;clear hK K;refine wpAnyIn_ready (rs:=[10]) (by kernel_rfl) (by simp) ?_;refine AllReadyIn.cons rfl (fun K hK=>?_) ?_
        ·go_simp
         refine hK _ _ ?_;clear hK K;refine wpAnyIn_done (by kernel_rfl) ?_ _;exact fin w2 w4 g cap' hb2 hown4 hB4 hz4 hbl4 hoth4
        exact AllReadyIn.nil
       exact AllReadyIn.nil
      exact AllReadyIn.nil
     refine AllReadyIn.cons rfl (fun K hK=>?_) ?_
     ·go_simp
      refine hK _ _ ?_;clear hK K;refine wpAnyIn_ready (rs:=[0]) (by kernel_rfl) (by simp) ?_;refine AllReadyIn.cons rfl (fun K hK=>?_) ?_
      ·go_simp
       refine hK _ _ ?_;clear hK K;refine wpAnyIn_ready (rs:=[9]) (by kernel_rfl) (by simp) ?_;refine AllReadyIn.cons rfl (fun K hK=>?_) ?_
       ·go_simp
        refine hK _ _ ?_;clear hK K;refine wpAnyIn_ready (rs:=[10]) (by kernel_rfl) (by simp) ?_;refine AllReadyIn.cons rfl (fun K hK=>?_) ?_
        ·go_simp
         refine hK _ _ ?_;clear hK K;refine wpAnyIn_done (by kernel_rfl) ?_ _;exact fin w2 w4 g cap' hb2 hown4 hB4 hz4 hbl4 hoth4
        exact AllReadyIn.nil
       exact AllReadyIn.nil
      exact AllReadyIn.nil
     exact AllReadyIn.nil
    exact AllReadyIn.nil
   exact AllReadyIn.nil
  refine AllReadyIn.cons rfl (fun K hK=>?_) ?_
  ·go_simp
   refine hK _ _ ?_;clear hK K;refine wpAnyIn_ready (rs:=[0,2,6]) (by kernel_rfl) (by simp) ?_;refine AllReadyIn.cons rfl (fun K hK=>?_) ?_
   ·go_simp
    refine hK _ _ ?_;clear hK K;refine wpAnyIn_ready (rs:=[2,6]) (by kernel_rfl) (by simp) ?_;refine AllReadyIn.cons rfl (fun K hK=>?_) ?_
    ·go_simp
     refine hK _ _ ?_;clear hK K;refine wpAnyIn_take (i:=3) (v:=?_) rfl rfl (by kernel_rfl) (by kernel_rfl) (by kernel_rfl) (fun _ _ _ h=>h) ⟨Or.inl ⟨by rfl,?_⟩,fun _=>rfl⟩ ?_;rotate_left
     ·intro w;go_simp;rw[if_neg (by omega)]
     refine wpAnyIn_ready (rs:=[6]) (by kernel_rfl) (by simp) ?_;refine AllReadyIn.cons rfl (fun K hK=>?_) ?_
     ·go_simp
      refine⟨trivial,(callsIn_wide.2 hq).mono ?_⟩;rintro e w2 ⟨rfl,hb2⟩;obtain⟨g,cap',w4,hap,hown4,hB4,hz4,hbl4,hoth4⟩:=jax Tryz.prog 141 jbQ jbP rfl (by decide) (jaC (w':=w2) k1 (fun j _ hj=>hb2.block j hj)) ((Below.refl w.heap.size W).drew.trans (hb2.mono hB.size)) (by omega) (by have:=hb2.size;have:W.drew.heap.size=W.heap.size:=rfl;omega) [.string (x.1.name++(⟨#[61]⟩:ByteArray)++(⟨(jaH (rl x.1.value 0)).toArray⟩:ByteArray))] rfl (by simp[Value.oneCell']) hlen (by decide);have hz2:W.heap.size<=w2.heap.size:=hb2.size;have hw2:w1.heap.size<w2.heap.size:=Nat.lt_of_lt_of_le hbx hz2;have hx2:Bx<w2.heap.size:=Nat.lt_of_lt_of_le hBl hz2;have d0:=(hb2.cell (p:=⟨Bx,0,none⟩) hBl).trans c0;have d1:=(hb2.cell (p:=⟨w1.heap.size,0,none⟩) hbx).trans c3;have d2:Boxed w4 w1.heap.size 141 _:=(hbl4 _ (by omega)).trans (jcz hb2 hbx k0);have d3:=d2.cell;have d4:=d2.frozen;refine hK _ _ ?_;clear hK K hq;refine wpAnyIn_take (i:=7) (v:=?_) rfl rfl (by kernel_rfl) (by kernel_rfl) (by kernel_rfl) (fun _ _ _ h=>h) ⟨Or.inl ⟨by rfl,?_⟩,fun _=>rfl⟩ ?_;rotate_left
      ·intro w;go_simp;rw[if_neg (by omega)]
      refine wpAnyIn_ready (rs:=[8]) (by kernel_rfl) (by simp) ?_;refine AllReadyIn.cons rfl (fun K hK=>?_) ?_
      ·go_simp
       refine hK _ _ ?_;clear hK K;refine wpAnyIn_ready (rs:=[9]) (by kernel_rfl) (by simp) ?_;refine AllReadyIn.cons rfl (fun K hK=>?_) ?_
       ·go_simp
        refine hK _ _ ?_;clear hK K;refine wpAnyIn_ready (rs:=[10]) (by kernel_rfl) (by simp) ?_;refine AllReadyIn.cons rfl (fun K hK=>?_) ?_
        ·go_simp
         refine hK _ _ ?_;clear hK K;refine wpAnyIn_done (by kernel_rfl) ?_ _;exact fin w2 w4 g cap' hb2 hown4 hB4 hz4 hbl4 hoth4
        exact AllReadyIn.nil
       exact AllReadyIn.nil
      exact AllReadyIn.nil
     exact AllReadyIn.nil
    refine AllReadyIn.cons rfl (fun K hK=>?_) ?_
    ·go_simp
     refine⟨trivial,(callsIn_wide.2 hq).mono ?_⟩;rintro e w2 ⟨rfl,hb2⟩;obtain⟨g,cap',w4,hap,hown4,hB4,hz4,hbl4,hoth4⟩:=jax Tryz.prog 141 jbQ jbP rfl (by decide) (jaC (w':=w2) k1 (fun j _ hj=>hb2.block j hj)) ((Below.refl w.heap.size W).drew.trans (hb2.mono hB.size)) (by omega) (by have:=hb2.size;have:W.drew.heap.size=W.heap.size:=rfl;omega) [.string (x.1.name++(⟨#[61]⟩:ByteArray)++(⟨(jaH (rl x.1.value 0)).toArray⟩:ByteArray))] rfl (by simp[Value.oneCell']) hlen (by decide);have hz2:W.heap.size<=w2.heap.size:=hb2.size;have hw2:w1.heap.size<w2.heap.size:=Nat.lt_of_lt_of_le hbx hz2;have hx2:Bx<w2.heap.size:=Nat.lt_of_lt_of_le hBl hz2;have d0:=(hb2.cell (p:=⟨Bx,0,none⟩) hBl).trans c0;have d1:=(hb2.cell (p:=⟨w1.heap.size,0,none⟩) hbx).trans c3;have d2:Boxed w4 w1.heap.size 141 _:=(hbl4 _ (by omega)).trans (jcz hb2 hbx k0);have d3:=d2.cell;have d4:=d2.frozen;refine hK _ _ ?_;clear hK K hq;refine wpAnyIn_ready (rs:=[2]) (by kernel_rfl) (by simp) ?_;refine AllReadyIn.cons rfl (fun K hK=>?_) ?_
     ·go_simp
      refine hK _ _ ?_;clear hK K;refine wpAnyIn_take (i:=3) (v:=?_) rfl rfl (by kernel_rfl) (by kernel_rfl) (by kernel_rfl) (fun _ _ _ h=>h) ⟨Or.inl ⟨by rfl,?_⟩,fun _=>rfl⟩ ?_;rotate_left
      ·intro w;go_simp;rw[if_neg (by omega)]
      refine wpAnyIn_take (i:=7) (v:=?_) rfl rfl (by kernel_rfl) (by kernel_rfl) (by kernel_rfl) (fun _ _ _ h=>h) ⟨Or.inl ⟨by rfl,?_⟩,fun _=>rfl⟩ ?_;rotate_left
      ·intro w;go_simp;rw[if_neg (by omega)]
      refine wpAnyIn_ready (rs:=[8]) (by kernel_rfl) (by simp) ?_;refine AllReadyIn.cons rfl (fun K hK=>?_) ?_
      ·go_simp
       refine hK _ _ ?_;clear hK K;refine wpAnyIn_ready (rs:=[9]) (by kernel_rfl) (by simp) ?_;refine AllReadyIn.cons rfl (fun K hK=>?_) ?_
       ·go_simp
        refine hK _ _ ?_;clear hK K;refine wpAnyIn_ready (rs:=[10]) (by kernel_rfl) (by simp) ?_;refine AllReadyIn.cons rfl (fun K hK=>?_) ?_
        ·go_simp
         refine hK _ _ ?_;clear hK K;refine wpAnyIn_done (by kernel_rfl) ?_ _;exact fin w2 w4 g cap' hb2 hown4 hB4 hz4 hbl4 hoth4
        exact AllReadyIn.nil
       exact AllReadyIn.nil
      exact AllReadyIn.nil
     exact AllReadyIn.nil
    exact AllReadyIn.nil
   refine AllReadyIn.cons rfl (fun K hK=>?_) ?_
   ·go_simp
    refine hK _ _ ?_;clear hK K;refine wpAnyIn_take (i:=3) (v:=?_) rfl rfl (by kernel_rfl) (by kernel_rfl) (by kernel_rfl) (fun _ _ _ h=>h) ⟨Or.inl ⟨by rfl,?_⟩,fun _=>rfl⟩ ?_;rotate_left
    ·intro w;go_simp;rw[if_neg (by omega)]
    refine wpAnyIn_ready (rs:=[0,6]) (by kernel_rfl) (by simp) ?_;refine AllReadyIn.cons rfl (fun K hK=>?_) ?_
    ·go_simp
     refine hK _ _ ?_;clear hK K;refine wpAnyIn_ready (rs:=[6]) (by kernel_rfl) (by simp) ?_;refine AllReadyIn.cons rfl (fun K hK=>?_) ?_
     ·go_simp
      refine⟨trivial,(callsIn_wide.2 hq).mono ?_⟩;rintro e w2 ⟨rfl,hb2⟩;obtain⟨g,cap',w4,hap,hown4,hB4,hz4,hbl4,hoth4⟩:=jax Tryz.prog 141 jbQ jbP rfl (by decide) (jaC (w':=w2) k1 (fun j _ hj=>hb2.block j hj)) ((Below.refl w.heap.size W).drew.trans (hb2.mono hB.size)) (by omega) (by have:=hb2.size;have:W.drew.heap.size=W.heap.size:=rfl;omega) [.string (x.1.name++(⟨#[61]⟩:ByteArray)++(⟨(jaH (rl x.1.value 0)).toArray⟩:ByteArray))] rfl (by simp[Value.oneCell']) hlen (by decide);have hz2:W.heap.size<=w2.heap.size:=hb2.size;have hw2:w1.heap.size<w2.heap.size:=Nat.lt_of_lt_of_le hbx hz2;have hx2:Bx<w2.heap.size:=Nat.lt_of_lt_of_le hBl hz2;have d0:=(hb2.cell (p:=⟨Bx,0,none⟩) hBl).trans c0;have d1:=(hb2.cell (p:=⟨w1.heap.size,0,none⟩) hbx).trans c3;have d2:Boxed w4 w1.heap.size 141 _:=(hbl4 _ (by omega)).trans (jcz hb2 hbx k0);have d3:=d2.cell;have d4:=d2.frozen;refine hK _ _ ?_;clear hK K hq;refine wpAnyIn_take (i:=7) (v:=?_) rfl rfl (by kernel_rfl) (by kernel_rfl) (by kernel_rfl) (fun _ _ _ h=>h) ⟨Or.inl ⟨by rfl,?_⟩,fun _=>rfl⟩ ?_;rotate_left
      ·intro w;go_simp;rw[if_neg (by omega)]
      refine wpAnyIn_ready (rs:=[8]) (by kernel_rfl) (by simp) ?_;refine AllReadyIn.cons rfl (fun K hK=>?_) ?_
      ·go_simp
       refine hK _ _ ?_;clear hK K;refine wpAnyIn_ready (rs:=[9]) (by kernel_rfl) (by simp) ?_;refine AllReadyIn.cons rfl (fun K hK=>?_) ?_
       ·go_simp
        refine hK _ _ ?_;clear hK K;refine wpAnyIn_ready (rs:=[10]) (by kernel_rfl) (by simp) ?_;refine AllReadyIn.cons rfl (fun K hK=>?_) ?_
        ·go_simp
         refine hK _ _ ?_;clear hK K;refine wpAnyIn_done (by kernel_rfl) ?_ _;exact fin w2 w4 g cap' hb2 hown4 hB4 hz4 hbl4 hoth4
        exact AllReadyIn.nil
       exact AllReadyIn.nil
      exact AllReadyIn.nil
     exact AllReadyIn.nil
    refine AllReadyIn.cons rfl (fun K hK=>?_) ?_
    ·go_simp
     refine⟨trivial,(callsIn_wide.2 hq).mono ?_⟩;rintro e w2 ⟨rfl,hb2⟩;obtain⟨g,cap',w4,hap,hown4,hB4,hz4,hbl4,hoth4⟩:=jax Tryz.prog 141 jbQ jbP rfl (by decide) (jaC (w':=w2) k1 (fun j _ hj=>hb2.block j hj)) ((Below.refl w.heap.size W).drew.trans (hb2.mono hB.size)) (by omega) (by have:=hb2.size;have:W.drew.heap.size=W.heap.size:=rfl;omega) [.string (x.1.name++(⟨#[61]⟩:ByteArray)++(⟨(jaH (rl x.1.value 0)).toArray⟩:ByteArray))] rfl (by simp[Value.oneCell']) hlen (by decide);have hz2:W.heap.size<=w2.heap.size:=hb2.size;have hw2:w1.heap.size<w2.heap.size:=Nat.lt_of_lt_of_le hbx hz2;have hx2:Bx<w2.heap.size:=Nat.lt_of_lt_of_le hBl hz2;have d0:=(hb2.cell (p:=⟨Bx,0,none⟩) hBl).trans c0;have d1:=(hb2.cell (p:=⟨w1.heap.size,0,none⟩) hbx).trans c3;have d2:Boxed w4 w1.heap.size 141 _:=(hbl4 _ (by omega)).trans (jcz hb2 hbx k0);have d3:=d2.cell;have d4:=d2.frozen;refine hK _ _ ?_;clear hK K hq;refine wpAnyIn_take (i:=7) (v:=?_) rfl rfl (by kernel_rfl) (by kernel_rfl) (by kernel_rfl) (fun _ _ _ h=>h) ⟨Or.inl ⟨by rfl,?_⟩,fun _=>rfl⟩ ?_;rotate_left
     ·intro w;go_simp;rw[if_neg (by omega)]
     refine wpAnyIn_ready (rs:=[0,8]) (by kernel_rfl) (by simp) ?_;refine AllReadyIn.cons rfl (fun K hK=>?_) ?_
     ·go_simp
      refine hK _ _ ?_;clear hK K;refine wpAnyIn_ready (rs:=[8]) (by kernel_rfl) (by simp) ?_;refine AllReadyIn.cons rfl (fun K hK=>?_) ?_
      ·go_simp
       refine hK _ _ ?_;clear hK K;refine wpAnyIn_ready (rs:=[9]) (by kernel_rfl) (by simp) ?_;refine AllReadyIn.cons rfl (fun K hK=>?_) ?_
       ·go_simp
        refine hK _ _ ?_;clear hK K;refine wpAnyIn_ready (rs:=[10]) (by kernel_rfl) (by simp) ?_;refine AllReadyIn.cons rfl (fun K hK=>?_) ?_
        ·go_simp
         refine hK _ _ ?_;clear hK K;refine wpAnyIn_done (by kernel_rfl) ?_ _;exact fin w2 w4 g cap' hb2 hown4 hB4 hz4 hbl4 hoth4
        exact AllReadyIn.nil
       exact AllReadyIn.nil
      exact AllReadyIn.nil
     refine AllReadyIn.cons rfl (fun K hK=>?_) ?_
     ·go_simp
      refine hK _ _ ?_;clear hK K;refine wpAnyIn_ready (rs:=[0]) (by kernel_rfl) (by simp) ?_;refine AllReadyIn.cons rfl (fun K hK=>?_) ?_
      ·go_simp
       refine hK _ _ ?_;clear hK K;refine wpAnyIn_ready (rs:=[9]) (by kernel_rfl) (by simp) ?_;refine AllReadyIn.cons rfl (fun K hK=>?_) ?_
       ·go_simp
        refine hK _ _ ?_;clear hK K;refine wpAnyIn_ready (rs:=[10]) (by kernel_rfl) (by simp) ?_;refine AllReadyIn.cons rfl (fun K hK=>?_) ?_
        ·go_simp
         refine hK _ _ ?_;clear hK K;refine wpAnyIn_done (by kernel_rfl) ?_ _;exact fin w2 w4 g cap' hb2 hown4 hB4 hz4 hbl4 hoth4
        exact AllReadyIn.nil
       exact AllReadyIn.nil
      exact AllReadyIn.nil
     exact AllReadyIn.nil
    exact AllReadyIn.nil
   refine AllReadyIn.cons rfl (fun K hK=>?_) ?_
   ·go_simp
    refine⟨trivial,(callsIn_wide.2 hq).mono ?_⟩;rintro e w2 ⟨rfl,hb2⟩;obtain⟨g,cap',w4,hap,hown4,hB4,hz4,hbl4,hoth4⟩:=jax Tryz.prog 141 jbQ jbP rfl (by decide) (jaC (w':=w2) k1 (fun j _ hj=>hb2.block j hj)) ((Below.refl w.heap.size W).drew.trans (hb2.mono hB.size)) (by omega) (by have:=hb2.size;have:W.drew.heap.size=W.heap.size:=rfl;omega) [.string (x.1.name++(⟨#[61]⟩:ByteArray)++(⟨(jaH (rl x.1.value 0)).toArray⟩:ByteArray))] rfl (by simp[Value.oneCell']) hlen (by decide);have hz2:W.heap.size<=w2.heap.size:=hb2.size;have hw2:w1.heap.size<w2.heap.size:=Nat.lt_of_lt_of_le hbx hz2;have hx2:Bx<w2.heap.size:=Nat.lt_of_lt_of_le hBl hz2;have d0:=(hb2.cell (p:=⟨Bx,0,none⟩) hBl).trans c0;have d1:=(hb2.cell (p:=⟨w1.heap.size,0,none⟩) hbx).trans c3;have d2:Boxed w4 w1.heap.size 141 _:=(hbl4 _ (by omega)).trans (jcz hb2 hbx k0);have d3:=d2.cell;have d4:=d2.frozen;refine hK _ _ ?_;clear hK K hq;refine wpAnyIn_ready (rs:=[0,2]) (by kernel_rfl) (by simp) ?_;refine AllReadyIn.cons rfl (fun K hK=>?_) ?_
    ·go_simp
     refine hK _ _ ?_;clear hK K;refine wpAnyIn_ready (rs:=[2]) (by kernel_rfl) (by simp) ?_;refine AllReadyIn.cons rfl (fun K hK=>?_) ?_
     ·go_simp
      refine hK _ _ ?_;clear hK K;refine wpAnyIn_take (i:=3) (v:=?_) rfl rfl (by kernel_rfl) (by kernel_rfl) (by kernel_rfl) (fun _ _ _ h=>h) ⟨Or.inl ⟨by rfl,?_⟩,fun _=>rfl⟩ ?_;rotate_left
      ·intro w;go_simp;rw[if_neg (by omega)]
      refine wpAnyIn_take (i:=7) (v:=?_) rfl rfl (by kernel_rfl) (by kernel_rfl) (by kernel_rfl) (fun _ _ _ h=>h) ⟨Or.inl ⟨by rfl,?_⟩,fun _=>rfl⟩ ?_;rotate_left
      ·intro w;go_simp;rw[if_neg (by omega)]
      refine wpAnyIn_ready (rs:=[8]) (by kernel_rfl) (by simp) ?_;refine AllReadyIn.cons rfl (fun K hK=>?_) ?_
      ·go_simp
       refine hK _ _ ?_;clear hK K;refine wpAnyIn_ready (rs:=[9]) (by kernel_rfl) (by simp) ?_;refine AllReadyIn.cons rfl (fun K hK=>?_) ?_
       ·go_simp
        refine hK _ _ ?_;clear hK K;refine wpAnyIn_ready (rs:=[10]) (by kernel_rfl) (by simp) ?_;refine AllReadyIn.cons rfl (fun K hK=>?_) ?_
        ·go_simp
         refine hK _ _ ?_;clear hK K;refine wpAnyIn_done (by kernel_rfl) ?_ _;exact fin w2 w4 g cap' hb2 hown4 hB4 hz4 hbl4 hoth4
        exact AllReadyIn.nil
       exact AllReadyIn.nil
      exact AllReadyIn.nil
     exact AllReadyIn.nil
    refine AllReadyIn.cons rfl (fun K hK=>?_) ?_
    ·go_simp
     refine hK _ _ ?_;clear hK K;refine wpAnyIn_take (i:=3) (v:=?_) rfl rfl (by kernel_rfl) (by kernel_rfl) (by kernel_rfl) (fun _ _ _ h=>h) ⟨Or.inl ⟨by rfl,?_⟩,fun _=>rfl⟩ ?_;rotate_left
     ·intro w;go_simp;rw[if_neg (by omega)]
     refine wpAnyIn_take (i:=7) (v:=?_) rfl rfl (by kernel_rfl) (by kernel_rfl) (by kernel_rfl) (fun _ _ _ h=>h) ⟨Or.inl ⟨by rfl,?_⟩,fun _=>rfl⟩ ?_;rotate_left
     ·intro w;go_simp;rw[if_neg (by omega)]
     refine wpAnyIn_ready (rs:=[0,8]) (by kernel_rfl) (by simp) ?_;refine AllReadyIn.cons rfl (fun K hK=>?_) ?_
     ·go_simp
      refine hK _ _ ?_;clear hK K;refine wpAnyIn_ready (rs:=[8]) (by kernel_rfl) (by simp) ?_;refine AllReadyIn.cons rfl (fun K hK=>?_) ?_
      ·go_simp
       refine hK _ _ ?_;clear hK K;refine wpAnyIn_ready (rs:=[9]) (by kernel_rfl) (by simp) ?_;refine AllReadyIn.cons rfl (fun K hK=>?_) ?_
       ·go_simp
        refine hK _ _ ?_;clear hK K;refine wpAnyIn_ready (rs:=[10]) (by kernel_rfl) (by simp) ?_;refine AllReadyIn.cons rfl (fun K hK=>?_) ?_
        ·go_simp
         refine hK _ _ ?_;clear hK K;refine wpAnyIn_done (by kernel_rfl) ?_ _;exact fin w2 w4 g cap' hb2 hown4 hB4 hz4 hbl4 hoth4
        exact AllReadyIn.nil
       exact AllReadyIn.nil
      exact AllReadyIn.nil
     refine AllReadyIn.cons rfl (fun K hK=>?_) ?_
     ·go_simp
      refine hK _ _ ?_;clear hK K;refine wpAnyIn_ready (rs:=[0]) (by kernel_rfl) (by simp) ?_;refine AllReadyIn.cons rfl (fun K hK=>?_) ?_
      ·go_simp
       refine hK _ _ ?_;clear hK K;refine wpAnyIn_ready (rs:=[9]) (by kernel_rfl) (by simp) ?_;refine AllReadyIn.cons rfl (fun K hK=>?_) ?_
       ·go_simp
        refine hK _ _ ?_;clear hK K;refine wpAnyIn_ready (rs:=[10]) (by kernel_rfl) (by simp) ?_;refine AllReadyIn.cons rfl (fun K hK=>?_) ?_
        ·go_simp
         refine hK _ _ ?_;clear hK K;refine wpAnyIn_done (by kernel_rfl) ?_ _;exact fin w2 w4 g cap' hb2 hown4 hB4 hz4 hbl4 hoth4
        exact AllReadyIn.nil
       exact AllReadyIn.nil
      exact AllReadyIn.nil
     exact AllReadyIn.nil
    exact AllReadyIn.nil
   exact AllReadyIn.nil
  exact AllReadyIn.nil
 case done =>
  rintro D W hD ⟨v,k0,k1,hB⟩ hK;have z0:=k0.cell;have hln:=jkE ls;obtain⟨va,vc,rfl,hsl,-⟩:=jaE (enc:=jgW) (l:=jdb ls) (fun _=>rfl) (by rw[hln];exact k1);rw[hln] at hsl z0
  have hl0:0<ls.length:=by
   rcases Nat.eq_zero_or_pos ls.length with h | h
   ·rw[jar,List.length_map,h] at hR;simp at hR
   ·exact h
  have hl6:ls.length<=6:=by
   rw[jar,List.length_map] at hR;simp at hR;omega
  obtain⟨y,b,off,-,rfl,hbb,-⟩:=hsl.1.at hl0
  have hjc:∀ (j:Nat) z,(jdb ls)[j]? = some z->W.cell? ⟨b,off+j,none⟩=some (.string z):=fun j z hz=>by
   obtain⟨b',off',e,-,hc⟩:=hsl.1.2 j z hz;injection e with e1
   injection e1 with e1 e2
   subst e1;subst e2;have:=hc 0 Nat.one_pos;rwa [Nat.mul_one,Nat.add_zero] at this
  have hjl:=jkZ [44] 30064770967 ((jdb ls).map (·.data.toList)) (by
   intro z hz;simp only[jdb,List.map_map,List.mem_map,Function.comp] at hz;obtain⟨u,-,rfl⟩:=hz;exact jgg u)
  have hj:=Tryz.strings_Join b off vc (jdb ls) ⟨#[44]⟩ W hjc hbb (by rw[hln];omega) (by rw[hln];exact hsl.2.1) (by
   refine Nat.le_trans hjl ?_;rw[List.length_map,hln];exact Nat.le_trans (Nat.mul_le_mul_right (30064770967+([44]:List UInt8).length) hl6) (by decide))
  rw[hln] at hj;have HK:=Lib.hid hK;have HD:Hid (W0.heap.size<=D/\D<W.heap.size):=⟨hD,(Array.getElem?_eq_some_iff.1 hK).1⟩;have hz:=hB.size;clear hjl hjc hl0 hl6 hln k1 k0 hsl hR hL hG hG1 hD hK hsz;go_wp2_with (go_at_call 130;refine hj.mono ?_;rintro e w3 ⟨rfl,hb3⟩);have hK3:=(hb3.block D HD.out.2).trans HK.out;have hDs:w.heap.size<=D:=by have:=HD.out.1;have:=hB0.size;omega
  refine jbY hK3 (results_tmp2 rfl _ _ _) ⟨rfl,jls (hB.trans (hb3.mono hz)) hDs hK3⟩
 case stop =>
  rintro D c pre W hD hp h;exact h.elim
set_option maxHeartbeats 1000000 in
theorem jfC (a0:Option Addr) (cap:Nat) (ls:List jiD) (w:World) (hL:Labs w.heap.size w (.slice a0 ls.length cap) (ls.map (·.1))) (hG:GW w) (h3:ls.length<4294967281) (hR:jar (ls.map (·.1))=false) :
  Calls Tryz.prog 79 #[.slice a0 ls.length cap] w fun e w'=>e=.returned (.tuple #[.string ⟨#[]⟩,.int .i64 40])/\Below w.heap.size w w':=by
 refine jaT Tryz.func79 rfl ?_;simp only[Tryz.ntmps79,List.size_toArray,List.length_cons,List.length_nil,Nat.reduceAdd,Nat.reduceSub,Array.replicate_succ,Array.replicate_zero,List.push_toArray,List.append_toArray,List.nil_append,List.cons_append];go_wp2_with (go_at_call 101;refine (jcL a0 cap ls _ hL hG h3).mono ?_;rw[hR];rintro e w1 ⟨rfl,hb1⟩);exact jci (results_tmp2 rfl _ _ _) rfl ⟨rfl,hb1⟩
end Go.Proofs.YtieknocphiceoaaGreatDoor
namespace Go.Proofs.YtieknocphiceoaaGreatDoor
open Go Go.RowKit Go.Shelf
def jez (l:List Lab):Prop:=∀ x∈l,x.ok
theorem jkf (l:List Lab) (h:jez l):∃ ls:List jiD,ls.map (·.1)=l:=by
 induction l with
 | nil=>exact⟨[],rfl⟩
 | cons x xs ih =>
  obtain⟨ls,hls⟩:=ih (fun y hy=>h y (List.mem_cons_of_mem _ hy));exact⟨⟨x,h x (List.mem_cons_self ..)⟩::ls,by rw[List.map_cons,hls]⟩
theorem jfb (x:Lab):x.enc.length=2:=rfl
def je1 (l:List Lab):ByteArray:=if jar l then jdw l else ⟨#[]⟩
def jro (l:List Lab):Int:=if jar l then 0 else 40
theorem jdR (a0:Option Addr) (cap:Nat) (w:World) :
  Calls Tryz.prog 101 #[.slice a0 0 cap] w fun e w'=>e=.returned (.bool false)/\w'=w:=by
 refine jaT Tryz.func101 rfl ?_;simp only[Tryz.ntmps101,List.size_toArray,List.length_cons,List.length_nil,Nat.reduceAdd,Nat.reduceSub,Array.replicate_succ,Array.replicate_zero,List.push_toArray,List.append_toArray,List.nil_append,List.cons_append];go_wp2_with fail;go_step3;go_wp2_with fail;exact jci (results_tmp rfl _ _ _) rfl ⟨rfl,rfl⟩
theorem jeQ (a:Option Addr) (len cap:Nat) (l:List Lab) (w:World) (h:SlE Lab.enc 2 w.heap.size w a len l) (ho:jez l) (hG:GW w) (hm:len<4294967281) :
  Calls Tryz.prog 101 #[.slice a len cap] w fun e w'=>e=.returned (.bool (jar l))/\Below w.heap.size w w':=by
 rcases Nat.eq_zero_or_pos len with h0 | h0
 ·subst h0
  obtain rfl:l=[]:=List.eq_nil_of_length_eq_zero h.1.symm;refine (jdR a cap w).mono ?_;rintro e w' ⟨rfl,rfl⟩;exact⟨rfl,Below.refl _ _⟩
 ·have hat:=h.to_at (cap:=cap) jfb h0
  obtain⟨ls,rfl⟩:=jkf l ho;have hl:=h.1;rw[List.length_map] at hl;subst hl;exact jcL a cap ls w hat hG hm
set_option maxHeartbeats 1000000 in
theorem jgZ (a0:Option Addr) (cap:Nat) (w:World) :
  Calls Tryz.prog 79 #[.slice a0 0 cap] w fun e w'=>e=.returned (.tuple #[.string ⟨#[]⟩,.int .i64 40])/\Below w.heap.size w w':=by
 refine jaT Tryz.func79 rfl ?_;simp only[Tryz.ntmps79,List.size_toArray,List.length_cons,List.length_nil,Nat.reduceAdd,Nat.reduceSub,Array.replicate_succ,Array.replicate_zero,List.push_toArray,List.append_toArray,List.nil_append,List.cons_append];go_wp2_with (go_at_call 101;refine (jdR a0 cap _).mono ?_;rintro e w1 ⟨rfl,rfl⟩);exact jci (results_tmp2 rfl _ _ _) rfl ⟨rfl,Below.refl _ _⟩
theorem jjb (a:Option Addr) (len cap:Nat) (l:List Lab) (w:World) (h:SlE Lab.enc 2 w.heap.size w a len l) (ho:jez l) (hG:GW w) (hm:len<4294967281) :
  Calls Tryz.prog 79 #[.slice a len cap] w fun e w'=>e=.returned (.tuple #[.string (je1 l),.int .i64 (jro l)])/\Below w.heap.size w w':=by
 rcases Nat.eq_zero_or_pos len with h0 | h0
 ·subst h0
  obtain rfl:l=[]:=List.eq_nil_of_length_eq_zero h.1.symm;exact jgZ a cap w
 ·have hat:=h.to_at (cap:=cap) jfb h0
  obtain⟨ls,rfl⟩:=jkf l ho;have hl:=h.1;rw[List.length_map] at hl;subst hl
  cases hR:jar (ls.map (·.1)) with
  | true=>rw[je1,jro,if_pos hR,if_pos hR];exact jfB a cap ls w hat hG hm hR
  | false=>rw[je1,jro,hR];exact jfC a cap ls w hat hG hm hR
end Go.Proofs.YtieknocphiceoaaGreatDoor
