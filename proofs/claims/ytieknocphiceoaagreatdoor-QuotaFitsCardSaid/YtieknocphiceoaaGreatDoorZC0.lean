/- Package hll: ranks, Right. Package exact: gather. Registers as plain data: what a number tells, and the registers of one digit less. No program in sight. The law of a range over a function, for an iterator that reads some blocks; slices.Values at uint64 by it. Maps whose keys are integers written out: a new map that is filled, a look-up in it. Of no program. Package ladder: Same. Package ladder: the bodies of sketches: held.distinct, held.count, held.lie; kinds. Package ladder: held.count, held.lie; kinds. Counters as plain data: a number added, half as many columns. No program in sight. -/
import Derived.Lib.BitFns
import Derived.Lib.ItoaNum
import Derived.WideMake
import Derived.Test.YtieknocphiceoaaGreatDoorZXA
namespace Go.Proofs.YtieknocphiceoaaGreatDoor
open Go Go.RowKit Go.Shelf
attribute [local go_sem] Oper.semAt_some
theorem jnH (s:ByteArray) (w:World) :
  Calls Tryz.prog 217 #[.string s] w fun e w'=>e=.returned (.func (.func 227) #[] #[.pointer (some ⟨w.heap.size,0,none⟩)])/\w'=w.alloc (.cells #[.string s] 9):=by
 go_enter Tryz.func217,Tryz.ntmps217;go_wp2;go_ret;exact⟨rfl,rfl⟩
theorem jjN {α:Type} {P:Program} {g:Operand} {ps:Array Tmp} {assign body:Code} {Q:Exit->Act->World->Prop} {a:Act} {w:World} (s:Nat) (val:α->Value)
  {gf:Nat} {lb:Array Value} (hg:a.eval g=.func (.func gf) #[] lb) (eg:∀ args w,(callFunc gf args).run P w=.ok (.enter gf args) w)
  {encs:α->Array Value} {n₀:Nat} {xs:List α} {N:Nat} {w0:World} (hseq:SeqStopsK Fence.wide 8 P gf lb encs (Below n₀) (fun ys=>ys=xs) (fun pre=>pre <+: xs) N w0)
  (hn₀:n₀<=w.heap.size) (hb0:Below w0.heap.size w0 w) (hps:∀ x,(encs x).size=ps.size)
  (I:List α->World->Prop) (Ix:Code->List α->World->Prop) (hI:OwnFrom w.heap.size I) (hIx:∀ c,OwnFrom w.heap.size (Ix c)) (h0:I [] w)
  (hassign:∀ (l:Nat) (pre:List α) (x:α) (W:World) (K:Act->World->Prop),I pre W ->
   (I pre W->K { tmps:=((ps.zip (encs x)).foldl (fun t (p,v)=>t.setIfInBounds p v) a.tmps).setIfInBounds s (val x),defers:=[] } W) ->
   assign.wpIn (Fence.wide.inRound l) 7 P (Exit.then K (fun _ _ _=>False)) { tmps:=(ps.zip (encs x)).foldl (fun t (p,v)=>t.setIfInBounds p v) a.tmps,defers:=[] } W)
  (hbody:∀ (l:Nat) (pre:List α) (x:α) (W:World),I pre W->pre.length<N ->
   body.wpIn (Fence.wide.inRound l) 7 P (ownPostG w.heap.size (Below n₀) I Ix (pre++[x]) W) { tmps:=((ps.zip (encs x)).foldl (fun t (p,v)=>t.setIfInBounds p v) a.tmps).setIfInBounds s (val x),defers:=[] } W)
  (hdone:∀ (D:Nat) (W:World),w.heap.size<=D->I xs W->W.heap[D]? = some (.deferred (some []))->Q .normal { a with defers:={ target:=.collected D,args:=#[] }::a.defers } W)
  (hstop:∀ (D:Nat) (c:Code) (pre:List α) (W:World),w.heap.size<=D->pre <+: xs->Ix c pre W->W.heap[D]? = some (.deferred (some []))->c.wp P Q { a with defers:={ target:=.collected D,args:=#[] }::a.defers } W) :
  (Code.rangeFunc g ps assign body).wp P Q a w :=
 jlm hg eg hseq hn₀ hb0 hps I Ix hI hIx h0
  (fun x a' _=>a' = { tmps:=((ps.zip (encs x)).foldl (fun t (p,v)=>t.setIfInBounds p v) a.tmps).setIfInBounds s (val x),defers:=[] }) (fun _ _=>ownFrom_pure _ _)
  (fun l pre x W K hi hK=>hassign l pre x W K hi (fun hi'=>hK _ _ (KeepsFrom.refl _ _) (Below.refl _ _) hi' rfl))
  (fun l pre x a' W hi hax hlt=>by subst hax;exact hbody l pre x W hi hlt) hdone hstop
def je3 (s:ByteArray):List (Nat × UInt8):=(List.range s.size).map fun i=>(i,s.data.toList.getD i 0)
def jcf (b:Int) (l:List (Nat × UInt8)):Bool:=l.all fun p => !decide (65-b<(p.2.toNat:Int))
theorem jcb (b:Int) (l m:List (Nat × UInt8)):jcf b (l++m)=(jcf b l&&jcf b m):=List.all_append
theorem jfe (b:Int) (x:Nat × UInt8):jcf b [x] = !decide (65-b<(x.2.toNat:Int)):=by simp[jcf]
theorem jk6 (b:Int) (s:ByteArray):jcf b (je3 s)=jcg b s:=by
 have h:s.data.toList=(je3 s).map (·.2):=by
  apply List.ext_getElem?;intro i;by_cases hi:i<s.size
  ·simp[je3,hi]
  ·simp[je3,hi]
 unfold jcg jcf;rw[h,List.all_map];rfl
theorem jk7 (s:ByteArray):(je3 s).length=s.size:=by simp[je3]
theorem jnx (s:ByteArray) (k:Nat) (h:k<s.size):(je3 s)[k]? = some (k,s[k]'h):=by
 simp[je3,h];rfl
set_option maxRecDepth 100000 in
set_option maxHeartbeats 1000000 in
theorem jrZ (l Bs n₀:Nat) (s:ByteArray) (hreach:s.size<4294967281) (J Jx:List (Nat × UInt8)->World->Prop)
  (hY:∀ pre x W,J pre W->pre.length<(je3 s).length->YieldAt Fence.wide 7 Tryz.prog l #[.int .i64 x.1,.int .u8 x.2.toNat] W fun e W' =>
   (e=.returned (.bool true)/\J (pre++[x]) W'/\Below n₀ W W')\/(e=.returned (.bool false)/\Jx (pre++[x]) W'))
  (W:World) (hn₀:Bs<n₀) (hBs:W.cell? ⟨Bs,0,none⟩=some (.string s)) (h0:J [] W) :
  CallsIn Fence.wide 8 Tryz.prog 227 #[.func (.yield l) #[] #[],.pointer (some ⟨Bs,0,none⟩)] W fun e W'=>(∃ v,e=.returned v) /\
   ((∃ ys,ys=je3 s/\J ys W')\/(∃ pre,pre <+: je3 s/\Jx pre W')):=by
 have hol:=jk7 s;refine callsIn_of_wp Tryz.func227 rfl trivial ?_ rfl;simp only[Tryz.ntmps227,List.size_toArray,List.length_cons,List.length_nil,Nat.reduceAdd,Nat.reduceSub,Array.replicate_succ,Array.replicate_zero,List.push_toArray,List.append_toArray,List.nil_append,List.cons_append];have HO:=Lib.hid hol;clear hol;gi_wp2;gi_loopw [3,6] (fun _ i wr=>∃ k:Nat,k<=s.size/\i=.int .i64 k/\J ((je3 s).take k) wr/\Below n₀ W wr) (fun _ i _=>s.size-(intOf i).toNat)
 case atStart=>exact⟨0,Nat.zero_le _,rfl,h0,Below.refl _ _⟩
 case round =>
  obtain⟨k,hk,rfl,hJs,hnx⟩:=hrel;by_cases hlt:k<s.size
  ·have hx:=jnx s k hlt
   obtain⟨fn,tmps,assign,body,hy,hR⟩:=hY _ (k,s[k]'hlt) _ hJs (by rw[List.length_take,HO.out];omega);have HX:=Lib.hid hx;have c0:wr.cell? ⟨Bs,0,none⟩=some (.string s):=(hnx.cell (p:=⟨Bs,0,none⟩) hn₀).trans hBs;clear hx;gi_wp2;refine hR.mono ?_;rintro e W3 (⟨rfl,hJ3,hk3⟩ | ⟨rfl,hJx3⟩)
   ·gi_wp2
    go_roundw
    case rel=>exact⟨k+1,by omega,by simp,by rw[jan HX.out];exact hJ3,hnx.trans hk3⟩
    case measure=>simp[intOf];omega
   ·gi_wp2
    refine bodyPost_ret (results_none rfl _ _ _) rfl ?_;exact⟨⟨_,rfl⟩,.inr ⟨_,by have h:=List.take_prefix (k+1) (je3 s);rwa [jan HX.out] at h,hJx3⟩⟩
  ·obtain rfl:k=s.size:=by omega
   gi_wp2
   go_end0;exact⟨⟨_,rfl⟩,.inl ⟨_,List.take_of_length_le (by rw[HO.out];omega),hJs⟩⟩
theorem jnI (Bs n₀:Nat) (s:ByteArray) (hreach:s.size<4294967281) (w:World) (hBs:Bs<w.heap.size) (hlt:Bs<n₀) (hc:w.cell? ⟨Bs,0,none⟩=some (.string s)) :
  SeqStopsK Fence.wide 8 Tryz.prog 227 #[.pointer (some ⟨Bs,0,none⟩)] (fun x:Nat × UInt8=>#[.int .i64 x.1,.int .u8 x.2.toNat]) (Below n₀) (fun ys=>ys=je3 s) (fun pre=>pre <+: je3 s) (je3 s).length w:=fun l J Jx W hW _ _ hY h0 =>
 jrZ l Bs n₀ s hreach J Jx hY W hlt ((hW.cell (p:=⟨Bs,0,none⟩) hBs).trans hc) h0
set_option maxRecDepth 100000 in
set_option maxHeartbeats 2000000 in
theorem jh7 (b:Int) (s:ByteArray) (w:World) (hb1:3<=b) (hb2:b<=8) (hs:(s.size:Int)=2^b.toNat) :
  Calls Tryz.prog 200 #[.agg #[.int .i64 b,.string s]] w fun e w'=>e=.returned (.bool (jcg b s))/\Below w.heap.size w w':=by
 obtain⟨W0,hW0,hX0,hB0,hs0⟩:=jah w #[.int .i64 b,.string s] 43;obtain⟨c0,c1⟩:=cl2 hX0;refine jaT Tryz.func200 rfl ?_;simp only[Tryz.ntmps200,List.size_toArray,List.length_cons,List.length_nil,Nat.reduceAdd,Nat.reduceSub,Array.replicate_succ,Array.replicate_zero,List.push_toArray,List.append_toArray,List.nil_append,List.cons_append];have hib:∀ w,Calls Tryz.prog 216 #[.int .i64 b] w fun e w'=>e=.returned (.bool true)/\w'=w:=fun w=>(jdi b w).mono fun e w' ⟨h1,h2⟩=>⟨by rw[h1];simp[jby,hb1,hb2],h2.symm⟩
 have hs256:s.size<=256:=by
  have h1:(2:Int)^b.toNat<=2^8:=by
   have:(2:Nat)^b.toNat<=2^8:=Nat.pow_le_pow_right (by omega) (by omega);exact_mod_cast this
  omega
 have hw:IntKind.i64.wrap (2^b.toNat)=(s.size:Int):=by rw[<- hs];exact IntWalk.i64_in _ (by omega)
 have t0:((s.size:Int) != (s.size:Int))=false:=by simp
 have HIB:=Lib.hid hib;clear hs hib;go_wp2_with fail;go_step3;go_wp2_with fail;go_quiet ((go_at_call 216;exact Calls.quiet_of_same (HIB.out _)));go_wp2_with fail;go_step3;have hBn:Below w.heap.size w (W0.drewN nq):=bDr hB0 nq;obtain⟨Wa,hWa,hXa,hBa,hsa⟩:=jah (W0.drewN nq) #[.bool true] 4;have hz:(W0.drewN nq).heap.size=w.heap.size+1:=hs0;rw[hz] at hXa hBa hsa;have hXb:Wa.heap[w.heap.size]? = some (.cells #[.int .i64 b,.string s] 43 (0,0)):=(hBa.block _ (by omega)).trans hX0;have ca:Wa.cell? ⟨w.heap.size,1,none⟩=some (.string s):=cCc hXb 1;obtain⟨W1,hW1,hX2,hB1,hs1⟩:=jah Wa #[.string s] 9;rw[hsa] at hX2 hB1 hs1;have hX3:=(hB1.block _ (by omega)).trans hXb;have hX1:=(hB1.block _ (by omega)).trans hXa;have hBw:Below w.heap.size w W1:=(hBn.trans (hBa.mono (by omega))).trans (hB1.mono (by omega));have HW:=Lib.hid hW1;have hsa':w.heap.size+1+1<=Wa.heap.size:=by omega
 rw[hWa];clear hW0 hX0 hs0 hW1 hWa hz hXa hXb;go_wp2_with fail;refine (jnH _ _).mono ?_;rintro e w' ⟨rfl,rfl⟩;rw[hsa,HW.out];clear hsa hsa' ca;go_wp2_with fail;have hcs:W1.cell? ⟨w.heap.size+1+1,0,none⟩=some (.string s):=cCc hX2 0;clear c0 c1 HW
 refine jjN 5 (fun x:Nat × UInt8=>.int .u8 x.2.toNat) (gf:=227) (lb:=#[.pointer (some ⟨w.heap.size+1+1,0,none⟩)]) rfl (enters_of Tryz.func227 (by kernel_rfl) rfl)
  (jnI (w.heap.size+1+1) W1.heap.size s (by omega) W1 (by omega) (by omega) hcs) (Nat.le_refl _) (Below.refl _ _) (fun _=>rfl)
  (fun pre W=>Below W1.heap.size W1 W/\jcf b pre=true)
  (fun c pre W=>Boxed W (w.heap.size+1) 4 (.bool false)/\(c=.exit 0/\jcf b pre=false)/\Below w.heap.size w W)
  ((ownFrom_below (Nat.le_refl _) (Nat.le_refl _)).and (ownFrom_pure _ _))
  (fun c=>(jjj _ _ _ _).and ((ownFrom_pure _ _).and (ownFrom_below (Nat.le_refl _) (by omega))))
  ⟨Below.refl _ _,rfl⟩ ?assign ?body ?done ?stop
 case assign =>
  rintro l pre x W K hI hK;simp only[List.zip_toArray,List.zip_cons_cons,List.zip_nil_right,List.size_toArray,List.foldl_toArray',List.foldl_cons,List.foldl_nil,List.setIfInBounds_toArray,List.set_cons_succ,List.set_cons_zero] at hK ⊢;gi_wp2;exact hI
 case body =>
  rintro l pre x W ⟨hB,hg⟩ hlt;simp only[List.zip_toArray,List.zip_cons_cons,List.zip_nil_right,List.size_toArray,List.foldl_toArray',List.foldl_cons,List.foldl_nil,List.setIfInBounds_toArray,List.set_cons_succ,List.set_cons_zero];have hXw:=(hB.block _ (by omega)).trans hX3;have hXv:=(hB.block _ (by omega)).trans hX1;have c0:W.cell? ⟨w.heap.size,0,none⟩=some (.int .i64 b):=cCc hXw 0;have c1:W.cell? ⟨w.heap.size+1,0,none⟩=some (.bool true):=cCc hXv 0;have c2:W.frozen? ⟨w.heap.size+1,0,none⟩=false:=cFz hXv 0;have hb1':Boxed W (w.heap.size+1) 4 (.bool true):=hXv;have hBB:Below w.heap.size w W:=hBw.trans (hB.mono hBw.size);have HG:=Lib.hid hg;have hx:=UInt8.toNat_lt x.2;have hwx:wrap64 (x.2.toNat:Int)=(x.2.toNat:Int):=by unfold wrap64;omega
  clear hg hXw hXv hX1 hX2 hX3 hs1;by_cases ht:65-b<(x.2.toNat:Int)
  ·gi_wp2_with fail
   exact⟨(KeepsOthers.setCell _ _ _).from _,hb1'.set _,⟨rfl,by rw[jcb,HG.out,jfe,decide_eq_true ht];rfl⟩,hBB.setCell (p:=⟨w.heap.size+1,0,none⟩) (Nat.le_succ _) _⟩
  ·gi_wp2_with fail
   exact⟨KeepsFrom.refl _ _,Below.refl _ _,hB,by rw[jcb,HG.out,jfe,decide_eq_false (by omega)];rfl⟩
 case done =>
  rintro D W hD ⟨hB,hg⟩ hK;have hXv:=(hB.block _ (by omega)).trans hX1;have c1:W.cell? ⟨w.heap.size+1,0,none⟩=some (.bool true):=cCc hXv 0;have hBB:Below w.heap.size w W:=hBw.trans (hB.mono hBw.size);have hDs:w.heap.size<=D:=by omega
  clear hX1 hX2 hX3 hs1 hXv;go_wp2_with fail;refine jbY hK (results_tmp rfl _ _ _) ⟨by rw[<- jk6,hg];rfl,jls hBB hDs hK⟩
 case stop =>
  rintro D c pre W hD hp ⟨hb1',⟨rfl,hg⟩,hB⟩ hK;have c3:=hb1'.cell;have hDs:w.heap.size<=D:=by omega
  clear hX1 hX2 hX3 hs1;go_wp2_with fail
  have h9:jcg b s=false:=by
   rw[<- jk6];obtain⟨t,ht⟩:=hp;rw[<- ht,jcb,hg];rfl
  refine jbY hK (results_tmp rfl _ _ _) ⟨by rw[h9];rfl,jls hB hDs hK⟩
set_option maxRecDepth 100000 in
set_option maxHeartbeats 2000000 in
theorem jeO (b:Int) (s:ByteArray) (w:World) :
  Calls Tryz.prog 200 #[.agg #[.int .i64 b,.string s]] w fun e w'=>e=.returned (.bool (jaR b s))/\Below w.heap.size w w':=by
 cases hb:jby b with
 | true =>
  have hr:3<=b/\b<=8:=by simpa [jby] using hb
  by_cases hs:(s.size:Int)=2^b.toNat
  ·refine (jh7 b s w hr.1 hr.2 hs).mono ?_
   rintro e w' ⟨rfl,h⟩;have h2:((s.size:Int)==2^b.toNat)=true:=beq_iff_eq.2 hs;exact⟨by simp only[jaR,hb,h2,Bool.true_and],h⟩
  ·obtain⟨W0,hW0,hX0,hB0,hs0⟩:=jah w #[.int .i64 b,.string s] 43
   obtain⟨c0,c1⟩:=cl2 hX0;have hib:∀ w,Calls Tryz.prog 216 #[.int .i64 b] w fun e w'=>e=.returned (.bool true)/\w'=w:=fun w=>(jdi b w).mono fun e w' ⟨h1,h2⟩=>⟨by rw[h1,hb],h2.symm⟩
   have HIB:=Lib.hid hib
   have hp:(2:Int)^b.toNat<=256:=by
    have:(2:Nat)^b.toNat<=2^8:=Nat.pow_le_pow_right (by omega) (by omega);exact_mod_cast this
   have hp0:(0:Int)<=2^b.toNat:=by
    have:(0:Nat)<=2^b.toNat:=Nat.zero_le _;exact_mod_cast this
   generalize hq:(2:Int)^b.toNat=q at hs hp hp0;have hw:IntKind.i64.wrap (2^b.toNat)=q:=by rw[hq];exact IntWalk.i64_in _ (by omega)
   have t0:((s.size:Int) != q)=true:=by rw[bne_iff_ne];exact hs
   have HR:Hid (jaR b s=false):=by
    have h2:((s.size:Int)==2^b.toNat)=false:=by rw[hq,beq_eq_false_iff_ne];exact hs
    simp only[Hid,jaR,h2,Bool.and_false,Bool.false_and]
   obtain⟨hr1,hr2⟩:=hr;clear hb hib hq hs hX0 hs0;refine jaT Tryz.func200 rfl ?_;simp only[Tryz.ntmps200,List.size_toArray,List.length_cons,List.length_nil,Nat.reduceAdd,Nat.reduceSub,Array.replicate_succ,Array.replicate_zero,List.push_toArray,List.append_toArray,List.nil_append,List.cons_append];go_wp2_with fail;go_step3;go_wp2_with fail;go_quiet ((go_at_call 216;exact Calls.quiet_of_same (HIB.out _)));go_wp2_with fail;exact jci (results_tmp rfl _ _ _) rfl ⟨by rw[HR.out];rfl,bDr hB0 _⟩
 | false =>
  obtain⟨W0,hW0,hX0,hB0,hs0⟩:=jah w #[.int .i64 b,.string s] 43;have c0:W0.cell? ⟨w.heap.size,0,none⟩=some (.int .i64 b):=cCc hX0 0;have hib:∀ w,Calls Tryz.prog 216 #[.int .i64 b] w fun e w'=>e=.returned (.bool false)/\w'=w:=fun w=>(jdi b w).mono fun e w' ⟨h1,h2⟩=>⟨by rw[h1,hb],h2.symm⟩
  have HIB:=Lib.hid hib;have HR:Hid (jaR b s=false):=by simp only[Hid,jaR,hb,Bool.false_and]
  clear hb hib hX0 hs0;refine jaT Tryz.func200 rfl ?_;simp only[Tryz.ntmps200,List.size_toArray,List.length_cons,List.length_nil,Nat.reduceAdd,Nat.reduceSub,Array.replicate_succ,Array.replicate_zero,List.push_toArray,List.append_toArray,List.nil_append,List.cons_append];go_wp2_with fail;go_step3;go_wp2_with fail;go_quiet ((go_at_call 216;exact Calls.quiet_of_same (HIB.out _)));go_wp2_with fail;exact jci (results_tmp rfl _ _ _) rfl ⟨by rw[HR.out];rfl,bDr hB0 _⟩
end Go.Proofs.YtieknocphiceoaaGreatDoor
namespace Go.Proofs.YtieknocphiceoaaGreatDoor
open Go Go.RowKit Go.Shelf
attribute [local go_sem] Oper.semAt_some
theorem joY {X Y:World} {row:Option Nat} {p:Addr} {v:Value} (hc:X.cell? p=some v) (hg:X.grownBy Y row) (hr:∀ r,row=some r->∃ o:Obj,X.heap[r]? = some o/\o.isCells=false):Y.cell? p=some v:=by
 have hlt:=World.block_lt_of_cell? X _ hc;refine (World.cell?_of_block (hg.block _ hlt (fun e=>?_))).trans hc;obtain⟨o,ho,h2⟩:=hr _ e.symm;unfold World.cell? at hc;rw[ho] at hc
 cases o<;>simp_all [Obj.isCells]
attribute [-go_sem] Builtin.append_
end Go.Proofs.YtieknocphiceoaaGreatDoor
namespace Go.Proofs.YtieknocphiceoaaGreatDoor
open Go Go.RowKit
def jka (b n:Nat):Nat:=n / 2^(64-b)
def jcs (b n:Nat):Nat:=if n*2^b % 2^64=0 then 65-b else 65-Lib.bitLen (n*2^b % 2^64)
def jbo (r:List Nat) (p k:Nat):List Nat:=r.set p (max (r.getD p 0) k)
def jfA (b:Nat) (r:List Nat) (n:Nat):List Nat:=jbo r (jka b n) (jcs b n)
def jct (b:Nat) (r:List Nat) (l:List Nat):List Nat:=l.foldl (jfA b) r
def upR (x:Nat):Nat:=if x=0 then 0 else x+1
def jmi (x:Nat):Nat:=if x=0 then 0 else 1
def jeo (b:Nat) (r:List Nat):List Nat:=(List.range (2^(b-1))).map fun i=>max (upR (r.getD (2*i) 0)) (jmi (r.getD (2*i+1) 0))
def jaY (b:Nat):List Nat:=List.replicate (2^b) 0
theorem jcJ (x:Nat) (h:x<2^64) (h0:x≠0):1<=Lib.bitLen x/\2^(Lib.bitLen x-1)<=x/\x<2^Lib.bitLen x:=Lib.bitLenAux_bounds 64 x h h0
theorem jeE (x:Nat) (h:x<2^64) (h0:x≠0):Lib.bitLen x<=64:=by
 obtain⟨h1,h2,h3⟩:=jcJ x h h0;apply Classical.byContradiction;intro hc;have:2^64<=2^(Lib.bitLen x-1):=Nat.pow_le_pow_right (by omega) (by omega);omega
theorem ji3 (b n:Nat) (hb:b<=8):jcs b n<=65-b:=by
 unfold jcs;split
 ·omega
 ·rename_i h
  obtain⟨h1,h2,h3⟩:=jcJ _ (Nat.mod_lt (n*2^b) (by decide:0<2^64)) h
  have h4:2^b ∣ n*2^b % 2^64:=by
   have h5:2^b ∣ 2^64:=Nat.pow_dvd_pow 2 (by omega);exact (Nat.dvd_mod_iff h5).2 (Nat.dvd_mul_left _ _)
  have h6:2^b<=n*2^b % 2^64:=Nat.le_of_dvd (by omega) h4;have h7:b<Lib.bitLen (n*2^b % 2^64):=(Nat.pow_lt_pow_iff_right (by omega:1<2)).1 (by omega);omega
theorem jh5 (b n:Nat) (hb:b<=8) (hn:n<2^64):jka b n<2^b:=by
 unfold jka;rw[Nat.div_lt_iff_lt_mul (Nat.two_pow_pos _),<- Nat.pow_add,show b+(64-b)=64 by omega];exact hn
theorem jcG (r:List Nat) (p k:Nat):(jbo r p k).length=r.length:=by simp[jbo]
theorem jm8 (b:Nat) (r:List Nat) (n:Nat):(jfA b r n).length=r.length:=jcG _ _ _
theorem jdO (b:Nat):∀ (l r:List Nat),(jct b r l).length=r.length
 | [],_=>rfl
 | x::l,r=>by
  show (jct b (jfA b r x) l).length=_;rw[jdO b l,jm8]
theorem jgc (b:Nat) (r:List Nat):(jeo b r).length=2^(b-1):=by simp[jeo]
theorem jpa (r:List Nat) (p i v:Nat):(r.set p v).getD i 0=if p=i/\i<r.length then v else r.getD i 0:=by
 simp only[List.getD_eq_getElem?_getD,List.getElem?_set];by_cases h:p=i
 ·subst h
  by_cases hl:p<r.length
  ·simp[hl]
  ·simp[hl]
 ·simp[h]
theorem jix (r:List Nat) (p i k:Nat):(jbo r p k).getD i 0=if p=i/\i<r.length then max (r.getD i 0) k else r.getD i 0:=by
 unfold jbo;rw[jpa];split
 ·rename_i h;rw[h.1]
 ·rfl
theorem jfS (r s:List Nat) (hl:r.length=s.length) (h:∀ i,i<r.length->r.getD i 0=s.getD i 0):r=s:=by
 apply List.ext_getElem hl;intro i h1 h2;have:=h i h1;simpa [List.getD_eq_getElem?_getD,List.getElem?_eq_getElem h1,List.getElem?_eq_getElem h2] using this
theorem jqc (b:Nat) (r:List Nat) (i:Nat) (hi:i<2^(b-1)):(jeo b r).getD i 0=max (upR (r.getD (2*i) 0)) (jmi (r.getD (2*i+1) 0)):=by
 simp[jeo,List.getD_eq_getElem?_getD,hi]
theorem jq4 (x:Nat):jmi x<=1:=by unfold jmi;split<;>omega
theorem jm9 (r:List Nat) (p k m:Nat) (hr:∀ i,r.getD i 0<=m) (hk:k<=m):∀ i,(jbo r p k).getD i 0<=m:=fun i=>by
 rw[jix];have:=hr i;split<;>omega
end Go.Proofs.YtieknocphiceoaaGreatDoor
namespace Go.Proofs.YtieknocphiceoaaGreatDoor
open Go Go.RowKit Go.Shelf
attribute [local go_sem] Oper.semAt_some
def KL (L:List Nat) (W W':World):Prop:=∀ b∈L,∀ o,W.heap[b]? = some o->W'.heap[b]? = some o
theorem KL.trans {L:List Nat} {X Y Z:World} (h:KL L X Y) (k:KL L Y Z):KL L X Z:=fun b hb o ho=>k b hb o (h b hb o ho)
theorem KL.refl (L:List Nat) (X:World):KL L X X:=fun _ _ _ h=>h
theorem KL.below {L:List Nat} {n:Nat} {X Y:World} (h:Below n X Y) (hL:∀ b∈L,b<n):KL L X Y:=fun b hb _ ho=>(h.block b (hL b hb)).trans ho
theorem KL.grown {L:List Nat} {X Y:World} {row:Option Nat} (h:X.grownBy Y row) (hL:∀ b∈L,some b≠row):KL L X Y:=fun b hb _ ho=>(h.block b (Array.getElem?_eq_some_iff.1 ho).1 (hL b hb)).trans ho
theorem jkL {α:Type} {P:Program} {g:Operand} {ps:Array Tmp} {assign body:Code} {Q:Exit->Act->World->Prop} {a:Act} {w:World} (L:List Nat) (T:α->Array Value)
  {gf:Nat} {lb:Array Value} (hg:a.eval g=.func (.func gf) #[] lb) (eg:∀ args w,(callFunc gf args).run P w=.ok (.enter gf args) w)
  {encs:α->Array Value} {xs:List α} {N:Nat} {w0:World} (hseq:SeqStopsK Fence.wide 8 P gf lb encs (KL L) (fun ys=>ys=xs) (fun pre=>pre <+: xs) N w0)
  (hL:∀ b∈L,b<w.heap.size) (hb0:Below w0.heap.size w0 w) (hps:∀ x,(encs x).size=ps.size)
  (I:List α->World->Prop) (Ix:Code->List α->World->Prop) (hI:OwnFrom w.heap.size I) (hIx:∀ c,OwnFrom w.heap.size (Ix c)) (h0:I [] w)
  (hassign:∀ (l:Nat) (pre:List α) (x:α) (W:World) (K:Act->World->Prop),I pre W->(I pre W->K { tmps:=T x,defers:=[] } W) ->
   assign.wpIn (Fence.wide.inRound l) 7 P (Exit.then K (fun _ _ _=>False)) { tmps:=(ps.zip (encs x)).foldl (fun t (p,v)=>t.setIfInBounds p v) a.tmps,defers:=[] } W)
  (hbody:∀ (l:Nat) (pre:List α) (x:α) (W:World),I pre W->pre.length<N->body.wpIn (Fence.wide.inRound l) 7 P (ownPostG w.heap.size (KL L) I Ix (pre++[x]) W) { tmps:=T x,defers:=[] } W)
  (hdone:∀ (D:Nat) (W:World),w.heap.size<=D->I xs W->W.heap[D]? = some (.deferred (some []))->Q .normal { a with defers:={ target:=.collected D,args:=#[] }::a.defers } W)
  (hstop:∀ (D:Nat) (c:Code) (pre:List α) (W:World),w.heap.size<=D->pre <+: xs->Ix c pre W->W.heap[D]? = some (.deferred (some []))->c.wp P Q { a with defers:={ target:=.collected D,args:=#[] }::a.defers } W) :
  (Code.rangeFunc g ps assign body).wp P Q a w :=
 (wpIn_wide (n:=9)).1 (wpIn_rangeFunc_ownH rfl (by omega) hg trivial eg hseq (fun h k=>h.trans k)
  (fun W l o o' hl h _ _ b hb o2 h2=>(World.putObj_heap_other (by have:=hL b hb;omega)).trans h2) hb0 hps I Ix hI hIx h0 (fun x a' _=>a' = { tmps:=T x,defers:=[] }) (fun _ _=>ownFrom_pure _ _)
  (fun l pre x W K hi hK=>hassign l pre x W K hi (fun hi'=>hK _ _ (KeepsFrom.refl _ _) (KL.refl _ _) hi' rfl))
  (fun l pre x a' W _ _ hi hax hlt=>by subst hax;exact hbody l pre x W hi hlt) (fun D ys W hD e hi hK=>by subst e;exact hdone D W hD hi hK) (fun D c pre W hD hp hi hK=>wpIn_wide.2 (hstop D c pre W hD hp hi hK)))
theorem jjM {α:Type} {P:Program} {g:Operand} {ps:Array Tmp} {assign body:Code} {Q:Exit->Act->World->Prop} {a:Act} {w:World} (L:List Nat) (T:α->Array Value)
  {gf:Nat} {lb:Array Value} (hg:a.eval g=.func (.func gf) #[] lb) (eg:∀ args w,(callFunc gf args).run P w=.ok (.enter gf args) w)
  {encs:α->Array Value} {xs:List α} {N:Nat} {w0:World} (hseq:SeqStopsK Fence.wide 8 P gf lb encs (KL L) (fun ys=>ys=xs) (fun pre=>pre <+: xs) N w0)
  (hL:∀ b∈L,b<w.heap.size) (hb0:Below w0.heap.size w0 w) (hps:∀ x,(encs x).size=ps.size)
  (I:List α->World->Prop) (hI:OwnFrom w.heap.size I) (h0:I [] w)
  (hassign:∀ (l:Nat) (pre:List α) (x:α) (W:World) (K:Act->World->Prop),I pre W->(I pre W->K { tmps:=T x,defers:=[] } W) ->
   assign.wpIn (Fence.wide.inRound l) 7 P (Exit.then K (fun _ _ _=>False)) { tmps:=(ps.zip (encs x)).foldl (fun t (p,v)=>t.setIfInBounds p v) a.tmps,defers:=[] } W)
  (hbody:∀ (l:Nat) (pre:List α) (x:α) (W:World),I pre W->pre.length<N->body.wpIn (Fence.wide.inRound l) 7 P (ownPostG w.heap.size (KL L) I (fun _ _ _=>False) (pre++[x]) W) { tmps:=T x,defers:=[] } W)
  (hdone:∀ (D:Nat) (W:World),w.heap.size<=D->I xs W->W.heap[D]? = some (.deferred (some []))->Q .normal { a with defers:={ target:=.collected D,args:=#[] }::a.defers } W) :
  (Code.rangeFunc g ps assign body).wp P Q a w :=
 jkL L T hg eg hseq hL hb0 hps I (fun _ _ _=>False) hI (fun _ _ _ _ _ h _ _=>h) h0 hassign hbody hdone (fun _ _ _ _ _ _ h _=>h.elim)
theorem SlE.kl {Bs b n₀ off len:Nat} {W W':World} {l:List Int} (h:KL [Bs,b] W W') (hs:SlE jbH 1 n₀ W (some ⟨b,off,none⟩) len l):SlE jbH 1 n₀ W' (some ⟨b,off,none⟩) len l:=by
 refine⟨hs.1,fun j x hx=>?_⟩;obtain⟨b',off',e,hb,hc⟩:=hs.2 j x hx
 cases e
 refine⟨b,off,rfl,hb,fun i hi=>?_⟩;obtain rfl:i=0:=by omega
 have h1:W.cell? ⟨b,off+j*1+0,none⟩=some (.int .u64 x):=hc 0 hi;show W'.cell? ⟨b,off+j*1+0,none⟩=some (.int .u64 x)
 cases ho:W.heap[b]? with
 | none=>simp[World.cell?,ho] at h1
 | some o=>exact (World.cell?_of_block (w:=W) (w':=W') (a:=⟨b,off+j*1+0,none⟩) ((h b (by simp) o ho).trans ho.symm)).trans h1
set_option maxRecDepth 100000 in
set_option maxHeartbeats 1000000 in
theorem jmd {α:Type} (f:α->Int) (l Bs n₀ b off cap:Nat) (ls:List α) (hreach:ls.length<4294967281) (J Jx:List α->World->Prop)
  (hY:∀ pre x W,J pre W->pre.length<ls.length->YieldAt Fence.wide 7 Tryz.prog l #[.int .u64 (f x)] W fun e W' =>
   (e=.returned (.bool true)/\J (pre++[x]) W'/\KL [Bs,b] W W')\/(e=.returned (.bool false)/\Jx (pre++[x]) W'))
  (W:World) (hBs:W.heap[Bs]? = some (.cells #[.slice (some ⟨b,off,none⟩) ls.length cap] 39 (0,0))) (hc:SlE jbH 1 n₀ W (some ⟨b,off,none⟩) ls.length (ls.map f)) (h0:J [] W) :
  CallsIn Fence.wide 8 Tryz.prog 271 #[.func (.yield l) #[] #[],.pointer (some ⟨Bs,0,none⟩)] W fun e W'=>(∃ v,e=.returned v) /\
   ((∃ ys,ys=ls/\J ys W')\/(∃ pre,pre <+: ls/\Jx pre W')):=by
 refine callsIn_of_wp Tryz.func271 rfl trivial ?_ rfl;simp only[Tryz.ntmps271,List.size_toArray,List.length_cons,List.length_nil,Nat.reduceAdd,Nat.reduceSub,Array.replicate_succ,Array.replicate_zero,List.push_toArray,List.append_toArray,List.nil_append,List.cons_append];have c9:W.cell? ⟨Bs,0,none⟩=some (.slice (some ⟨b,off,none⟩) ls.length cap):=cCc hBs 0;gi_wp2;gi_loopw [7] (fun i wr=>∃ k:Nat,k<=ls.length/\i=.int .i64 k/\J (ls.take k) wr/\KL [Bs,b] W wr) (fun i _=>ls.length-(intOf i).toNat)
 case atStart=>exact⟨0,Nat.zero_le _,rfl,h0,KL.refl _ _⟩
 case round =>
  obtain⟨k,hk,rfl,hJs,hnx⟩:=hrel;by_cases hlt:k<ls.length
  ·obtain⟨x,hx⟩:∃ x,ls[k]? = some x:=⟨_,List.getElem?_eq_getElem hlt⟩
   obtain⟨b9,off9,e9,hb,hc0⟩:=(SlE.kl hnx hc).2 k (f x) (by rw[List.getElem?_map,hx];rfl)
   cases e9
   have c0:wr.cell? ⟨b,off+k,none⟩=some (.int .u64 (f x)):=by have h1:=hc0 0 (by omega);rwa [Nat.mul_one] at h1
   obtain⟨fn,tmps,assign,body,hy,hR⟩:=hY _ x _ hJs (by simp;omega);clear hc0;have HX:=Lib.hid hx;clear hx;gi_wp2;refine hR.mono ?_;rintro e W3 (⟨rfl,hJ3,hk3⟩ | ⟨rfl,hJx3⟩)
   ·gi_wp2
    go_roundw
    case rel=>exact⟨k+1,by omega,by simp,by rw[List.take_add_one,HX.out];exact hJ3,hnx.trans hk3⟩
    case measure=>simp[intOf];omega
   ·gi_wp2
    refine bodyPost_ret (results_none rfl _ _ _) rfl ?_;exact⟨⟨_,rfl⟩,.inr ⟨_,by have h:=List.take_prefix (k+1) ls;rwa [List.take_add_one,HX.out] at h,hJx3⟩⟩
  ·obtain rfl:k=ls.length:=by omega
   gi_wp2
   go_end0;exact⟨⟨_,rfl⟩,.inl ⟨_,List.take_length,hJs⟩⟩
theorem joa {α:Type} (f:α->Int) (Bs b n₀:Nat) (a:Option Addr) (len cap:Nat) (ls:List α) (hreach:len<4294967281) (w:World) (hn₀:n₀<=w.heap.size)
  (hc:w.heap[Bs]? = some (.cells #[.slice a len cap] 39 (0,0))) (hI:SlE jbH 1 n₀ w a len (ls.map f)) (hab:0<len->∀ x,a=some x->x.block=b) :
  SeqStopsK Fence.wide 8 Tryz.prog 271 #[.pointer (some ⟨Bs,0,none⟩)] (fun x:α=>#[.int .u64 (f x)]) (KL [Bs,b]) (fun ys=>ys=ls) (fun pre=>pre <+: ls) ls.length w:=fun l J Jx W hW _ _ hY h0=>by
 have hc':=jak hW (Nat.le_refl _) hc;have hI':SlE jbH 1 n₀ W a len (ls.map f):=hI.below (hW.mono hn₀);have hll:len=ls.length:=by have:=hI'.1;rwa [List.length_map] at this
 rcases Nat.eq_zero_or_pos len with h | h
 ·obtain rfl:ls=[]:=List.eq_nil_of_length_eq_zero (by omega)
  rw[h] at hc';exact (jgP l Bs a cap (fun _=>J []) W (cCc hc' 0) h0).mono fun e W' ⟨he,hj⟩=>⟨he,.inl ⟨_,rfl,hj⟩⟩
 ·obtain⟨x,b',off,-,rfl,-,-⟩:=hI'.at h
  obtain rfl:=hab h _ rfl;rw[hll] at hc' hI';exact jmd f l Bs n₀ _ off cap ls (by omega) J Jx hY W hc' hI' h0
end Go.Proofs.YtieknocphiceoaaGreatDoor
namespace Go.Proofs.YtieknocphiceoaaGreatDoor
open Go Go.RowKit
theorem jmu (w:World) (o o':Obj) : { w.alloc o with heap:=(w.alloc o).heap.setIfInBounds w.heap.size o' }=w.alloc o':=by
 have:(w.heap.push o).setIfInBounds w.heap.size o'=w.heap.push o':=by
  apply Array.ext
  ·simp
  ·intro i h1 h2
   rw[Array.getElem_setIfInBounds (by simpa using h2)];by_cases hi:w.heap.size=i
   ·subst hi;simp
   ·have h3:i<w.heap.size:=by simp at h2;omega
    simp[hi,Array.getElem_push_lt h3]
 unfold World.alloc;simp only[this]
theorem jdT {P:Program} (w:World) {mty kt et:TypeId} {ik:IntKind} {clock:Nat} {es:Array MapEntry} {n:Int} (val:Value) (hm:P.underlying mty=some (.map kt et)) (hk:P.underlying kt=some (.int ik))
  (hf:Instr.findNow (.int ik) (.int ik n) es.toList 0=some none) :
  (Instr.mapUpdate mty (.map (some w.heap.size)) (.int ik n) val).run P (w.alloc (.map es clock))=.ok () (w.alloc (.map (es.push { key:=.int ik n,val:=val,born:=clock }) (clock+1))):=by
 have hb:(w.alloc (.map es clock)).heap[w.heap.size]? = some (.map es clock):=World.alloc_heap_new _ _;have hc:(Instr.checkKey false 10000 kt (.int ik n)).run P (w.alloc (.map es clock))=.ok () (w.alloc (.map es clock)):=MapKept.run_checkKey (k:=.int ik n) hk (by simp[MapKept.IsKey]) false 9999;simp[Instr.mapUpdate,run_underlying hm,MapKept.run_getObj_map hb,hc,MapKept.run_findKey hk hf,MapKept.run_setObj_map _ hb,Result.andThen];exact jmu w _ _
theorem jic {P:Program} {w:World} {mty kt et:TypeId} {ik:IntKind} {r clock:Nat} {es:Array MapEntry} {n:Int} {i:Nat} {v:Value} (hm:P.underlying mty=some (.map kt et)) (hk:P.underlying kt=some (.int ik))
  (hb:w.heap[r]? = some (.map es clock)) (hf:Instr.findNow (.int ik) (.int ik n) es.toList 0=some (some (i,v))) :
  (Instr.lookup mty (.map (some r)) (.int ik n) true).run P w=.ok (.tuple #[v,.bool true]) w/\(Instr.lookup mty (.map (some r)) (.int ik n) false).run P w=.ok v w:=by
 have hc:∀ b,(Instr.checkKey b 10000 kt (.int ik n)).run P w=.ok () w:=fun b=>MapKept.run_checkKey (k:=.int ik n) hk (by simp[MapKept.IsKey]) b 9999
 constructor<;>simp[Instr.lookup,run_underlying hm,MapKept.run_getObj_map hb,hc,MapKept.run_findKey hk hf,Result.andThen]
theorem jid {P:Program} {w:World} {mty kt et:TypeId} {ik:IntKind} {r clock:Nat} {es:Array MapEntry} {n:Int} {z:Value} (hm:P.underlying mty=some (.map kt et)) (hk:P.underlying kt=some (.int ik))
  (hb:w.heap[r]? = some (.map es clock)) (hz:(zeroValue et).run P w=.ok z w) (hf:Instr.findNow (.int ik) (.int ik n) es.toList 0=some none) :
  (Instr.lookup mty (.map (some r)) (.int ik n) true).run P w=.ok (.tuple #[z,.bool false]) w:=by
 have hc:∀ b,(Instr.checkKey b 10000 kt (.int ik n)).run P w=.ok () w:=fun b=>MapKept.run_checkKey (k:=.int ik n) hk (by simp[MapKept.IsKey]) b 9999
 simp[Instr.lookup,run_underlying hm,MapKept.run_getObj_map hb,hc,MapKept.run_findKey hk hf,hz,Result.andThen]
theorem jmP (b1 b2:Int) (r1 r2:ByteArray) (w:World):(binOp .eql 43 (.agg #[.int .i64 b1,.string r1]) (.agg #[.int .i64 b2,.string r2])).run Tryz.prog w=.ok (.bool (b1==b2&&r1.toList==r2.toList)) w:=by
 have h1:Tryz.prog.underlying 43=some (.struct (Tryz.prog.fieldsOf 43)):=by kernel_rfl
 have h2:Tryz.prog.stoodInHeld 43=false:=by kernel_rfl
 have h3 : (Tryz.prog.fieldsOf 43).toList = [{ name := "Bits", type := 3, offset := 0, embedded := false, tag := "", pkgPath := "", byteOffset := 0 }, { name := "Regs", type := 9, offset := 1, embedded := false, tag := "", pkgPath := "", byteOffset := 8 }] := by kernel_rfl
 rw[run_eql_struct,run_equalIn_agg w 9999 _ _ _ h1 h2,h3]
 cases ha:(b1==b2)<;>cases hb:(r1.toList==r2.toList)<;>simp[go_sem,ha,hb,Tryz.underlying3,Tryz.underlying9]
theorem jp8:Tryz.prog.eqGuardType Tryz.prog.depth 43=false:=by kernel_rfl
set_option maxRecDepth 100000 in
set_option maxHeartbeats 2000000 in
theorem jca (x y:Sk) (s t:SS) (w:World) (hx:s.At w.heap.size w x) (hy:t.At w.heap.size w y) :
  Calls Tryz.prog 67 #[.agg #[.int .i64 x.kind,.int .i64 x.level,.slice s.ea s.el s.ec,.int .i64 x.hb,.string x.hr,.int .i64 x.cr,.int .i64 x.cc,.slice s.ca s.cl s.cc,.int .i64 x.gf,.slice s.ga s.gl s.gc],.agg #[.int .i64 y.kind,.int .i64 y.level,.slice t.ea t.el t.ec,.int .i64 y.hb,.string y.hr,.int .i64 y.cr,.int .i64 y.cc,.slice t.ca t.cl t.cc,.int .i64 y.gf,.slice t.ga t.gl t.gc]] w fun e w'=>e=.returned (.bool (jay x y))/\Below w.heap.size w w':=by
 obtain⟨W0,hW0,hX0,hX1,hB0,hs0⟩:=jaS w #[.int .i64 x.kind,.int .i64 x.level,.slice s.ea s.el s.ec,.int .i64 x.hb,.string x.hr,.int .i64 x.cr,.int .i64 x.cc,.slice s.ca s.cl s.cc,.int .i64 x.gf,.slice s.ga s.gl s.gc] 50 #[.int .i64 y.kind,.int .i64 y.level,.slice t.ea t.el t.ec,.int .i64 y.hb,.string y.hr,.int .i64 y.cr,.int .i64 y.cc,.slice t.ca t.cl t.cc,.int .i64 y.gf,.slice t.ga t.gl t.gc] 50;obtain⟨c0,c1,c2,c3,c4,c5,c6,c7,c8,c9⟩:=jaL hX0;obtain⟨d0,d1,d2,d3,d4,d5,d6,d7,d8,d9⟩:=jaL hX1;have n1:=jmP x.hb y.hb x.hr y.hr;have n2:=jp8;have gx:=hx.go hB0;have gy:=hy.go hB0;clear hx hy;have hE:=jgX s.ea s.el s.ec x.e t.ea t.el t.ec y.e W0 gx.e.1 gy.e.1 (Nat.le_trans gx.e.2.1 gx.e.2.2.1)
 cases h1:(x.kind==y.kind) with
 | false =>
  have HR:Hid (jay x y=false):=by simp[Hid,jay,h1]
  clear hE gx gy;go_enter Tryz.func67,Tryz.ntmps67;go_wp2_with fail;go_ret;exact⟨by rw[HR.out];rfl,hB0⟩
 | true =>
  cases h2:(x.level==y.level) with
  | false =>
   have HR:Hid (jay x y=false):=by simp[Hid,jay,h2]
   clear hE gx gy;go_enter Tryz.func67,Tryz.ntmps67;go_wp2_with fail;go_ret;exact⟨by rw[HR.out];rfl,hB0⟩
  | true =>
   cases h3:(x.hb==y.hb&&x.hr.toList==y.hr.toList) with
   | false =>
    have HR:Hid (jay x y=false):=by simp only[Hid,jay,h3,Bool.and_false,Bool.false_and]
    rw[h3] at n1;clear hE gx gy h3;go_enter Tryz.func67,Tryz.ntmps67;go_wp2_with fail;go_ret;exact⟨by rw[HR.out];rfl,hB0⟩
   | true =>
    have HR:Hid (jay x y=(x.e==y.e&&(x.cr==y.cr&&x.cc==y.cc&&x.cl==y.cl)&&(x.gf==y.gf&&x.gl==y.gl))):=by simp only[Hid,jay,h1,h2,h3,Bool.true_and]
    rw[h3] at n1;have G:=Lib.hid (And.intro gx gy);clear h3 gx gy;go_enter Tryz.func67,Tryz.ntmps67;go_wp2_with fail;refine hE.mono ?_;rintro e w1 ⟨rfl,hb1⟩;have hX0':=jak hb1 (Nat.le_refl _) hX0;have hX1':=jak hb1 (Nat.le_refl _) hX1;obtain⟨p0,p1,p2,p3,p4,p5,p6,p7,p8,p9⟩:=jaL hX0';obtain⟨q0,q1,q2,q3,q4,q5,q6,q7,q8,q9⟩:=jaL hX1';have gx1:=G.out.1.go hb1;have gy1:=G.out.2.go hb1;have hC:=jiS x.cr x.cc s.ca s.cl s.cc x.cl y.cr y.cc t.ca t.cl t.cc y.cl w1 gx1.c.1 gy1.c.1 (Nat.le_trans gx1.c.2.1 gx1.c.2.2.1);have G1:=Lib.hid (And.intro gx1 gy1);have hB1:=hB0.trans (hb1.mono hB0.size);clear hW0 hE c0 c1 c2 c3 c4 c5 c6 c7 c8 c9 d0 d1 d2 d3 d4 d5 d6 d7 d8 d9 gx1 gy1 G hX0 hX1 hb1;generalize he:(x.e==y.e)=be at HR;clear he
    cases be with
    | false =>
     clear hC;go_wp2_with fail;go_ret;exact⟨by rw[HR.out];rfl,hB1⟩
    | true =>
     go_wp2_with fail;refine hC.mono ?_;rintro e w2 ⟨rfl,hb2⟩;have hX0:=jak hb2 (Nat.le_refl _) hX0';have hX1:=jak hb2 (Nat.le_refl _) hX1';obtain⟨r0,r1,r2,r3,r4,r5,r6,r7,r8,r9⟩:=jaL hX0;obtain⟨u0,u1,u2,u3,u4,u5,u6,u7,u8,u9⟩:=jaL hX1;have gx2:=G1.out.1.go hb2;have gy2:=G1.out.2.go hb2;have hH:=jh4 x.gf s.ga s.gl s.gc x.gl y.gf t.ga t.gl t.gc y.gl w2 gx2.g.1 gy2.g.1 (Nat.le_trans gx2.g.2.1 gx2.g.2.2.1);have hB2:=hB1.trans (hb2.mono hB1.size);clear hC p0 p1 p2 p3 p4 p5 p6 p7 p8 p9 q0 q1 q2 q3 q4 q5 q6 q7 q8 q9 gx2 gy2 G1 hX0 hX1 hX0' hX1' hb2;generalize hc:(x.cr==y.cr&&x.cc==y.cc&&x.cl==y.cl)=bc at HR;clear hc
     cases bc with
     | false =>
      clear hH;go_wp2_with fail;go_ret;exact⟨by rw[HR.out];rfl,hB2⟩
     | true =>
      go_wp2_with fail;refine hH.mono ?_;rintro e w3 ⟨rfl,hb3⟩;clear hH;go_wp2_with fail;go_ret;exact⟨by rw[HR.out];simp,hB2.trans (hb3.mono hB2.size)⟩
structure HeldIn (x:Sk) (s:SS) (w W:World):Prop where
 box:W.heap[w.heap.size]? = some (.cells #[.int .i64 x.kind,.int .i64 x.level,.slice s.ea s.el s.ec,.int .i64 x.hb,.string x.hr,.int .i64 x.cr,.int .i64 x.cc,.slice s.ca s.cl s.cc,.int .i64 x.gf,.slice s.ga s.gl s.gc] 183 (0,0))
 lists:s.At W.heap.size W x
 below:Below w.heap.size w W
theorem HeldIn.go {x:Sk} {s:SS} {w W W':World} (h:HeldIn x s w W) (hb:Below W.heap.size W W'):HeldIn x s w W':=⟨jak hb (Nat.le_refl _) h.box,h.lists.go hb,h.below.trans (hb.mono h.below.size)⟩
theorem jh3 (x:Sk) (s:SS) (w:World) (hx:s.At w.heap.size w x):HeldIn x s w (w.alloc (.cells #[.int .i64 x.kind,.int .i64 x.level,.slice s.ea s.el s.ec,.int .i64 x.hb,.string x.hr,.int .i64 x.cr,.int .i64 x.cc,.slice s.ca s.cl s.cc,.int .i64 x.gf,.slice s.ga s.gl s.gc] 183)) :=
 have hB:Below w.heap.size w (w.alloc (.cells #[.int .i64 x.kind,.int .i64 x.level,.slice s.ea s.el s.ec,.int .i64 x.hb,.string x.hr,.int .i64 x.cr,.int .i64 x.cc,.slice s.ca s.cl s.cc,.int .i64 x.gf,.slice s.ga s.gl s.gc] 183)):=(Below.refl _ w).alloc (Nat.le_refl _) _;⟨World.alloc_heap_new _ _,hx.go hB,hB⟩
set_option maxRecDepth 100000 in
set_option maxHeartbeats 2000000 in
theorem jhV (x:Sk) (s:SS) (w:World) (hx:s.At w.heap.size w x) (h0:(x.level==0)=true) :
  Calls Tryz.prog 174 #[.agg #[.int .i64 x.kind,.int .i64 x.level,.slice s.ea s.el s.ec,.int .i64 x.hb,.string x.hr,.int .i64 x.cr,.int .i64 x.cc,.slice s.ca s.cl s.cc,.int .i64 x.gf,.slice s.ga s.gl s.gc]] w fun e w'=>e=.returned (.tuple #[.iface 239 (.agg #[.slice s.ea s.el s.ec]),.bool (ja9 x.e)])/\Below w.heap.size w w':=by
 have hI:=jh3 x s w hx;obtain⟨W0,hW0⟩:∃ W0,w.alloc (.cells #[.int .i64 x.kind,.int .i64 x.level,.slice s.ea s.el s.ec,.int .i64 x.hb,.string x.hr,.int .i64 x.cr,.int .i64 x.cc,.slice s.ca s.cl s.cc,.int .i64 x.gf,.slice s.ga s.gl s.gc] 183)=W0:=⟨_,rfl⟩;rw[hW0] at hI;obtain⟨c0,c1,c2,c3,c4,c5,c6,c7,c8,c9⟩:=jaL hI.box;let Inv:World->Prop:=HeldIn x s w;have hgo:∀ W W',Inv W->Below W.heap.size W W'->Inv W':=fun W W' h hb=>HeldIn.go h hb
 have q0:∀ X:WIn Inv,X.world.cell? ⟨w.heap.size,0,none⟩=some (.int .i64 x.kind):=fun X=>cCc X.ok.box 0
 have q1:∀ X:WIn Inv,X.world.cell? ⟨w.heap.size,1,none⟩=some (.int .i64 x.level):=fun X=>cCc X.ok.box 1
 have q2:∀ X:WIn Inv,X.world.cell? ⟨w.heap.size,2,none⟩=some (.slice s.ea s.el s.ec):=fun X=>cCc X.ok.box 2
 have q3:∀ X:WIn Inv,X.world.cell? ⟨w.heap.size,3,none⟩=some (.int .i64 x.hb):=fun X=>cCc X.ok.box 3
 have q4:∀ X:WIn Inv,X.world.cell? ⟨w.heap.size,4,none⟩=some (.string x.hr):=fun X=>cCc X.ok.box 4
 have q5:∀ X:WIn Inv,X.world.cell? ⟨w.heap.size,5,none⟩=some (.int .i64 x.cr):=fun X=>cCc X.ok.box 5
 have q6:∀ X:WIn Inv,X.world.cell? ⟨w.heap.size,6,none⟩=some (.int .i64 x.cc):=fun X=>cCc X.ok.box 6
 have q7:∀ X:WIn Inv,X.world.cell? ⟨w.heap.size,7,none⟩=some (.slice s.ca s.cl s.cc):=fun X=>cCc X.ok.box 7
 have q8:∀ X:WIn Inv,X.world.cell? ⟨w.heap.size,8,none⟩=some (.int .i64 x.gf):=fun X=>cCc X.ok.box 8
 have q9:∀ X:WIn Inv,X.world.cell? ⟨w.heap.size,9,none⟩=some (.slice s.ga s.gl s.gc):=fun X=>cCc X.ok.box 9
 have K1:Hid (∀ X:WIn Inv,Calls Tryz.prog 199 #[.agg #[.slice s.ea s.el s.ec]] X.world fun e w'=>e=.returned (.bool (ja9 x.e))/\∃ Y:WIn Inv,w'=Y.world):=fun X=>jab hgo (jf5 x.e s.ea s.el s.ec X.world (HeldIn.lists X.ok).e.1)
 have hfin:Hid (∀ X:WIn Inv,Below w.heap.size w X.world):=fun X=>HeldIn.below X.ok
 have hI0:Hid (Inv W0.drew):=hI.go (Below.refl _ _).drew;have hne:Nonempty (WIn Inv):=⟨⟨_,hI0.out⟩⟩;clear hx hI hgo;clear_value Inv;go_enter Tryz.func174,Tryz.ntmps174;go_wp2_with fail;refine jac Inv (by kernel_rfl) (by kernel_rfl) hI0.out ?_
 repeat (first | go_big_quiet_step ((go_at_call 199;with_reducible exact K1.out _)) | quiet_step ((go_at_call 199;with_reducible exact K1.out _)))
 refine wpQuiet_nil ?_;rintro _ ⟨X,rfl⟩;go_wp2_with fail;go_ret2;exact⟨rfl,hfin.out X⟩
set_option maxRecDepth 100000 in
set_option maxHeartbeats 2000000 in
theorem jhW (x:Sk) (s:SS) (w:World) (hx:s.At w.heap.size w x) (h0:(x.level==0)=false) (h1:0<=x.level) (h2:x.level<=4) :
  Calls Tryz.prog 174 #[.agg #[.int .i64 x.kind,.int .i64 x.level,.slice s.ea s.el s.ec,.int .i64 x.hb,.string x.hr,.int .i64 x.cr,.int .i64 x.cc,.slice s.ca s.cl s.cc,.int .i64 x.gf,.slice s.ga s.gl s.gc]] w fun e w'=>e=.returned (.tuple #[.iface 241 (.agg #[.int .i64 x.hb,.string x.hr]),.bool (jaR x.hb x.hr&&(x.hb==8-x.level))])/\Below w.heap.size w w':=by
 have hI:=jh3 x s w hx;obtain⟨W0,hW0⟩:∃ W0,w.alloc (.cells #[.int .i64 x.kind,.int .i64 x.level,.slice s.ea s.el s.ec,.int .i64 x.hb,.string x.hr,.int .i64 x.cr,.int .i64 x.cc,.slice s.ca s.cl s.cc,.int .i64 x.gf,.slice s.ga s.gl s.gc] 183)=W0:=⟨_,rfl⟩;rw[hW0] at hI;obtain⟨c0,c1,c2,c3,c4,c5,c6,c7,c8,c9⟩:=jaL hI.box;let Inv:World->Prop:=HeldIn x s w;have hgo:∀ W W',Inv W->Below W.heap.size W W'->Inv W':=fun W W' h hb=>HeldIn.go h hb
 have q0:∀ X:WIn Inv,X.world.cell? ⟨w.heap.size,0,none⟩=some (.int .i64 x.kind):=fun X=>cCc X.ok.box 0
 have q1:∀ X:WIn Inv,X.world.cell? ⟨w.heap.size,1,none⟩=some (.int .i64 x.level):=fun X=>cCc X.ok.box 1
 have q2:∀ X:WIn Inv,X.world.cell? ⟨w.heap.size,2,none⟩=some (.slice s.ea s.el s.ec):=fun X=>cCc X.ok.box 2
 have q3:∀ X:WIn Inv,X.world.cell? ⟨w.heap.size,3,none⟩=some (.int .i64 x.hb):=fun X=>cCc X.ok.box 3
 have q4:∀ X:WIn Inv,X.world.cell? ⟨w.heap.size,4,none⟩=some (.string x.hr):=fun X=>cCc X.ok.box 4
 have q5:∀ X:WIn Inv,X.world.cell? ⟨w.heap.size,5,none⟩=some (.int .i64 x.cr):=fun X=>cCc X.ok.box 5
 have q6:∀ X:WIn Inv,X.world.cell? ⟨w.heap.size,6,none⟩=some (.int .i64 x.cc):=fun X=>cCc X.ok.box 6
 have q7:∀ X:WIn Inv,X.world.cell? ⟨w.heap.size,7,none⟩=some (.slice s.ca s.cl s.cc):=fun X=>cCc X.ok.box 7
 have q8:∀ X:WIn Inv,X.world.cell? ⟨w.heap.size,8,none⟩=some (.int .i64 x.gf):=fun X=>cCc X.ok.box 8
 have q9:∀ X:WIn Inv,X.world.cell? ⟨w.heap.size,9,none⟩=some (.slice s.ga s.gl s.gc):=fun X=>cCc X.ok.box 9
 have K0:Hid (∀ X:WIn Inv,Calls Tryz.prog 200 #[.agg #[.int .i64 x.hb,.string x.hr]] X.world fun e w'=>e=.returned (.bool (jaR x.hb x.hr))/\∃ Y:WIn Inv,w'=Y.world):=fun X=>jab hgo (jeO x.hb x.hr X.world)
 have hfin:Hid (∀ X:WIn Inv,Below w.heap.size w X.world):=fun X=>HeldIn.below X.ok
 have hI0:Hid (Inv W0.drew):=hI.go (Below.refl _ _).drew;have hne:Nonempty (WIn Inv):=⟨⟨_,hI0.out⟩⟩;have hw:IntKind.i64.wrap (8-x.level)=8-x.level:=IntWalk.i64_in _ (by omega);clear hx hI hgo;clear_value Inv;generalize jaR x.hb x.hr=b1 at K0 ⊢
 cases b1
 ·have K1:=Lib.hid K0.out
  clear K0;go_enter Tryz.func174,Tryz.ntmps174;go_wp2_with fail;refine jac Inv (by kernel_rfl) (by kernel_rfl) hI0.out ?_
  repeat (first | go_big_quiet_step ((go_at_call 200;with_reducible exact K1.out _)) | quiet_step ((go_at_call 200;with_reducible exact K1.out _)))
  refine wpQuiet_nil ?_;rintro _ ⟨X,rfl⟩;go_wp2_with fail;go_ret2;exact⟨rfl,hfin.out X⟩
 ·have K1:=Lib.hid K0.out
  clear K0;go_enter Tryz.func174,Tryz.ntmps174;go_wp2_with fail;refine jac Inv (by kernel_rfl) (by kernel_rfl) hI0.out ?_
  repeat (first | go_big_quiet_step ((go_at_call 200;with_reducible exact K1.out _)) | quiet_step ((go_at_call 200;with_reducible exact K1.out _)))
  refine wpQuiet_nil ?_;rintro _ ⟨X,rfl⟩;go_wp2_with fail;go_ret2;exact⟨by simp,hfin.out X⟩
set_option maxRecDepth 100000 in
set_option maxHeartbeats 4000000 in
theorem jmJ (x:Sk) (s:SS) (w:World) (hx:s.At w.heap.size w x) (h1:0<=x.level) (h2:x.level<=3) :
  Calls Tryz.prog 175 #[.agg #[.int .i64 x.kind,.int .i64 x.level,.slice s.ea s.el s.ec,.int .i64 x.hb,.string x.hr,.int .i64 x.cr,.int .i64 x.cc,.slice s.ca s.cl s.cc,.int .i64 x.gf,.slice s.ga s.gl s.gc]] w fun e w'=>e=.returned (.tuple #[.iface 242 (.agg #[.int .i64 x.cr,.int .i64 x.cc,.slice s.ca s.cl s.cc]),.bool (jaN x.cr x.cc x.cl&&(x.cr==2)&&(x.cc==32 / 2^x.level.toNat))])/\Below w.heap.size w w':=by
 have hI:=jh3 x s w hx;obtain⟨W0,hW0⟩:∃ W0,w.alloc (.cells #[.int .i64 x.kind,.int .i64 x.level,.slice s.ea s.el s.ec,.int .i64 x.hb,.string x.hr,.int .i64 x.cr,.int .i64 x.cc,.slice s.ca s.cl s.cc,.int .i64 x.gf,.slice s.ga s.gl s.gc] 183)=W0:=⟨_,rfl⟩;rw[hW0] at hI;obtain⟨c0,c1,c2,c3,c4,c5,c6,c7,c8,c9⟩:=jaL hI.box;let Inv:World->Prop:=HeldIn x s w;have hgo:∀ W W',Inv W->Below W.heap.size W W'->Inv W':=fun W W' h hb=>HeldIn.go h hb
 have q0:∀ X:WIn Inv,X.world.cell? ⟨w.heap.size,0,none⟩=some (.int .i64 x.kind):=fun X=>cCc X.ok.box 0
 have q1:∀ X:WIn Inv,X.world.cell? ⟨w.heap.size,1,none⟩=some (.int .i64 x.level):=fun X=>cCc X.ok.box 1
 have q2:∀ X:WIn Inv,X.world.cell? ⟨w.heap.size,2,none⟩=some (.slice s.ea s.el s.ec):=fun X=>cCc X.ok.box 2
 have q3:∀ X:WIn Inv,X.world.cell? ⟨w.heap.size,3,none⟩=some (.int .i64 x.hb):=fun X=>cCc X.ok.box 3
 have q4:∀ X:WIn Inv,X.world.cell? ⟨w.heap.size,4,none⟩=some (.string x.hr):=fun X=>cCc X.ok.box 4
 have q5:∀ X:WIn Inv,X.world.cell? ⟨w.heap.size,5,none⟩=some (.int .i64 x.cr):=fun X=>cCc X.ok.box 5
 have q6:∀ X:WIn Inv,X.world.cell? ⟨w.heap.size,6,none⟩=some (.int .i64 x.cc):=fun X=>cCc X.ok.box 6
 have q7:∀ X:WIn Inv,X.world.cell? ⟨w.heap.size,7,none⟩=some (.slice s.ca s.cl s.cc):=fun X=>cCc X.ok.box 7
 have q8:∀ X:WIn Inv,X.world.cell? ⟨w.heap.size,8,none⟩=some (.int .i64 x.gf):=fun X=>cCc X.ok.box 8
 have q9:∀ X:WIn Inv,X.world.cell? ⟨w.heap.size,9,none⟩=some (.slice s.ga s.gl s.gc):=fun X=>cCc X.ok.box 9
 have K0:Hid (∀ X:WIn Inv,Calls Tryz.prog 201 #[.agg #[.int .i64 x.cr,.int .i64 x.cc,.slice s.ca s.cl s.cc]] X.world fun e w'=>e=.returned (.bool (jaN x.cr x.cc x.cl))/\∃ Y:WIn Inv,w'=Y.world):=fun X=>jab hgo (jeG x.cr x.cc x.cl s.ca s.cl s.cc X.world (HeldIn.lists X.ok).c.1.1)
 have hfin:Hid (∀ X:WIn Inv,Below w.heap.size w X.world):=fun X=>HeldIn.below X.ok
 have hI0:Hid (Inv W0.drew):=hI.go (Below.refl _ _).drew;have hne:Nonempty (WIn Inv):=⟨⟨_,hI0.out⟩⟩;clear hx hI hgo;clear_value Inv;generalize jaN x.cr x.cc x.cl=b1 at K0 ⊢;have hcs:b1=false\/(b1=true/\(x.cr==2)=false)\/(b1=true/\(x.cr==2)=true):=by cases b1<;>cases h:(x.cr==2)<;>simp_all
 have K1:=Lib.hid K0.out;clear K0;rcases hcs with rfl | ⟨rfl,t2⟩ | ⟨rfl,t2⟩
 ·go_enter Tryz.func175,Tryz.ntmps175
  go_wp2_with fail;refine jac Inv (by kernel_rfl) (by kernel_rfl) hI0.out ?_
  repeat (first | go_big_quiet_step ((go_at_call 201;with_reducible exact K1.out _)) | quiet_step ((go_at_call 201;with_reducible exact K1.out _)))
  refine wpQuiet_nil ?_;rintro _ ⟨X,rfl⟩;go_wp2_with fail;go_ret2;exact⟨rfl,hfin.out X⟩
 ·go_enter Tryz.func175,Tryz.ntmps175
  go_wp2_with fail;refine jac Inv (by kernel_rfl) (by kernel_rfl) hI0.out ?_
  repeat (first | go_big_quiet_step ((go_at_call 201;with_reducible exact K1.out _)) | quiet_step ((go_at_call 201;with_reducible exact K1.out _)))
  refine wpQuiet_nil ?_;rintro _ ⟨X,rfl⟩;go_wp2_with fail;go_ret2;exact⟨by simp[t2],hfin.out X⟩
 ·go_enter Tryz.func175,Tryz.ntmps175
  go_wp2_with fail;refine jac Inv (by kernel_rfl) (by kernel_rfl) hI0.out ?_
  repeat (first | go_big_quiet_step ((go_at_call 201;with_reducible exact K1.out _)) | quiet_step ((go_at_call 201;with_reducible exact K1.out _)))
  refine wpQuiet_nil ?_;rintro _ ⟨X,rfl⟩;go_wp2_with fail;go_ret2;exact⟨by simp[t2],hfin.out X⟩
set_option maxRecDepth 100000 in
set_option maxHeartbeats 4000000 in
theorem jqU (x:Sk) (s:SS) (w:World) (hx:s.At w.heap.size w x) (h1:0<=x.level) (h2:x.level<=3) (hb:∀ b∈x.gl,b.1<=9223372036854775807) :
  Calls Tryz.prog 176 #[.agg #[.int .i64 x.kind,.int .i64 x.level,.slice s.ea s.el s.ec,.int .i64 x.hb,.string x.hr,.int .i64 x.cr,.int .i64 x.cc,.slice s.ca s.cl s.cc,.int .i64 x.gf,.slice s.ga s.gl s.gc]] w fun e w'=>e=.returned (.tuple #[.iface 244 (.agg #[.int .i64 x.gf,.slice s.ga s.gl s.gc]),.bool (jaX x.gf x.gl&&(x.gf==3-x.level))])/\Below w.heap.size w w':=by
 have hI:=jh3 x s w hx;obtain⟨W0,hW0⟩:∃ W0,w.alloc (.cells #[.int .i64 x.kind,.int .i64 x.level,.slice s.ea s.el s.ec,.int .i64 x.hb,.string x.hr,.int .i64 x.cr,.int .i64 x.cc,.slice s.ca s.cl s.cc,.int .i64 x.gf,.slice s.ga s.gl s.gc] 183)=W0:=⟨_,rfl⟩;rw[hW0] at hI;obtain⟨c0,c1,c2,c3,c4,c5,c6,c7,c8,c9⟩:=jaL hI.box;let Inv:World->Prop:=HeldIn x s w;have hgo:∀ W W',Inv W->Below W.heap.size W W'->Inv W':=fun W W' h hb=>HeldIn.go h hb
 have q0:∀ X:WIn Inv,X.world.cell? ⟨w.heap.size,0,none⟩=some (.int .i64 x.kind):=fun X=>cCc X.ok.box 0
 have q1:∀ X:WIn Inv,X.world.cell? ⟨w.heap.size,1,none⟩=some (.int .i64 x.level):=fun X=>cCc X.ok.box 1
 have q2:∀ X:WIn Inv,X.world.cell? ⟨w.heap.size,2,none⟩=some (.slice s.ea s.el s.ec):=fun X=>cCc X.ok.box 2
 have q3:∀ X:WIn Inv,X.world.cell? ⟨w.heap.size,3,none⟩=some (.int .i64 x.hb):=fun X=>cCc X.ok.box 3
 have q4:∀ X:WIn Inv,X.world.cell? ⟨w.heap.size,4,none⟩=some (.string x.hr):=fun X=>cCc X.ok.box 4
 have q5:∀ X:WIn Inv,X.world.cell? ⟨w.heap.size,5,none⟩=some (.int .i64 x.cr):=fun X=>cCc X.ok.box 5
 have q6:∀ X:WIn Inv,X.world.cell? ⟨w.heap.size,6,none⟩=some (.int .i64 x.cc):=fun X=>cCc X.ok.box 6
 have q7:∀ X:WIn Inv,X.world.cell? ⟨w.heap.size,7,none⟩=some (.slice s.ca s.cl s.cc):=fun X=>cCc X.ok.box 7
 have q8:∀ X:WIn Inv,X.world.cell? ⟨w.heap.size,8,none⟩=some (.int .i64 x.gf):=fun X=>cCc X.ok.box 8
 have q9:∀ X:WIn Inv,X.world.cell? ⟨w.heap.size,9,none⟩=some (.slice s.ga s.gl s.gc):=fun X=>cCc X.ok.box 9
 have K0:Hid (∀ X:WIn Inv,Calls Tryz.prog 202 #[.agg #[.int .i64 x.gf,.slice s.ga s.gl s.gc]] X.world fun e w'=>e=.returned (.bool (jaX x.gf x.gl))/\∃ Y:WIn Inv,w'=Y.world):=fun X=>jab hgo (jee x.gf x.gl s.ga s.gl s.gc X.world (HeldIn.lists X.ok).g.1 (Nat.le_trans (HeldIn.lists X.ok).g.2.1 (HeldIn.lists X.ok).g.2.2.1) hb)
 have hfin:Hid (∀ X:WIn Inv,Below w.heap.size w X.world):=fun X=>HeldIn.below X.ok
 have hI0:Hid (Inv W0.drew):=hI.go (Below.refl _ _).drew;have hne:Nonempty (WIn Inv):=⟨⟨_,hI0.out⟩⟩;have hw:IntKind.i64.wrap (3-x.level)=3-x.level:=IntWalk.i64_in _ (by omega);clear hx hI hgo hb;clear_value Inv;generalize jaX x.gf x.gl=b1 at K0 ⊢;have K1:=Lib.hid K0.out;clear K0
 cases b1
 ·go_enter Tryz.func176,Tryz.ntmps176
  go_wp2_with fail;refine jac Inv (by kernel_rfl) (by kernel_rfl) hI0.out ?_
  repeat (first | go_big_quiet_step ((go_at_call 202;with_reducible exact K1.out _)) | quiet_step ((go_at_call 202;with_reducible exact K1.out _)))
  refine wpQuiet_nil ?_;rintro _ ⟨X,rfl⟩;go_wp2_with fail;go_ret2;exact⟨rfl,hfin.out X⟩
 ·go_enter Tryz.func176,Tryz.ntmps176
  go_wp2_with fail;refine jac Inv (by kernel_rfl) (by kernel_rfl) hI0.out ?_
  repeat (first | go_big_quiet_step ((go_at_call 202;with_reducible exact K1.out _)) | quiet_step ((go_at_call 202;with_reducible exact K1.out _)))
  refine wpQuiet_nil ?_;rintro _ ⟨X,rfl⟩;go_wp2_with fail;go_ret2;exact⟨by simp,hfin.out X⟩
def jdu:Array MapEntry:=#[{ key:=.int .i64 1,val:=.func (.func 174) #[] #[],born:=0 },{ key:=.int .i64 2,val:=.func (.func 175) #[] #[],born:=1 },{ key:=.int .i64 3,val:=.func (.func 176) #[] #[],born:=2 }]
theorem jcU:Tryz.prog.underlying 179=some (.map 3 177):=by kernel_rfl
theorem jnc (w:World):Calls Tryz.prog 135 #[] w fun e w'=>e=.returned (.map (some w.heap.size))/\w'=w.alloc (.map jdu 3):=by
 have hmm:=@run_makeMap Tryz.prog;have u1:=jdT (P:=Tryz.prog) w (clock:=0) (es:=#[]) (n:=1) (.func (.func 174) #[] #[]) jcU Tryz.underlying3 rfl;have u2:=jdT (P:=Tryz.prog) w (clock:=1) (es:=#[{ key:=.int .i64 1,val:=.func (.func 174) #[] #[],born:=0 }]) (n:=2) (.func (.func 175) #[] #[]) jcU Tryz.underlying3 rfl;have u3:=jdT (P:=Tryz.prog) w (clock:=2) (es:=#[{ key:=.int .i64 1,val:=.func (.func 174) #[] #[],born:=0 },{ key:=.int .i64 2,val:=.func (.func 175) #[] #[],born:=1 }]) (n:=3) (.func (.func 176) #[] #[]) jcU Tryz.underlying3 rfl;simp only[List.push_toArray,List.nil_append,List.cons_append,Nat.zero_add,Nat.reduceAdd] at u1 u2 u3;go_enter Tryz.func135,Tryz.ntmps135;go_wp2_with fail;go_ret;exact⟨rfl,rfl⟩
def jdl (a b:Int):Int:=if 18446744073709551615-a<b then 18446744073709551615 else a+b
def jsx (c row h:Nat):Nat:=row*c+(h / 4294967296+row*(h % 4294967296)) % c
def jrI (l:List Int) (p:Nat) (n:Int):List Int:=l.set p (jdl (l.getD p 0) n)
def jsl (c:Nat) (l:List Int) (h:Nat) (n:Int):List Int:=jrI (jrI l (jsx c 0 h) n) (jsx c 1 h) n
def jdf (c:Nat) (l:List Int):List Int:=(List.range (c / 2+c / 2)).map fun p=>jdl (l.getD (p / (c / 2)*c+p % (c / 2)) 0) (l.getD (p / (c / 2)*c+p % (c / 2)+c / 2) 0)
def jp7 (c:Nat):List Int:=List.replicate (c+c) 0
theorem jfU (a b:Int) (ha:U64 a) (hb:U64 b):U64 (jdl a b):=by
 unfold U64 jdl at *;split<;>omega
theorem jnZ:U64 0:=by unfold U64;omega
theorem jc1 (l:List Int) (h:jdK l) (i:Nat):U64 (l.getD i 0):=by
 by_cases hi:i<l.length
 ·rw[List.getD_eq_getElem?_getD,List.getElem?_eq_getElem hi]
  exact h _ (List.getElem_mem _)
 ·rw[List.getD_eq_getElem?_getD,List.getElem?_eq_none (by omega)]
  exact jnZ
theorem jm2 (r:List Int) (p i:Nat) (v:Int):(r.set p v).getD i 0=if p=i/\i<r.length then v else r.getD i 0:=by
 simp only[List.getD_eq_getElem?_getD,List.getElem?_set];by_cases h:p=i
 ·subst h
  by_cases hl:p<r.length
  ·simp[hl]
  ·simp[hl]
 ·simp[h]
theorem jm1 (r s:List Int) (hl:r.length=s.length) (h:∀ i,i<r.length->r.getD i 0=s.getD i 0):r=s:=by
 apply List.ext_getElem hl;intro i h1 h2;have:=h i h1;simpa [List.getD_eq_getElem?_getD,List.getElem?_eq_getElem h1,List.getElem?_eq_getElem h2] using this
theorem jeF (c:Nat) (l:List Int):(jdf c l).length=c / 2+c / 2:=by simp[jdf]
theorem joZ (c:Nat) (l:List Int) (p:Nat) (hp:p<c / 2+c / 2):(jdf c l).getD p 0=jdl (l.getD (p / (c / 2)*c+p % (c / 2)) 0) (l.getD (p / (c / 2)*c+p % (c / 2)+c / 2) 0):=by
 simp[jdf,List.getD_eq_getElem?_getD,hp]
theorem jmG (c:Nat) (l:List Int) (hl:jdK l):jdK (jdf c l):=by
 intro x hx;obtain⟨p,-,rfl⟩:=List.mem_map.1 hx;exact jfU _ _ (jc1 l hl _) (jc1 l hl _)
end Go.Proofs.YtieknocphiceoaaGreatDoor
