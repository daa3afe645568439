/- Package hll: begin, add. Package hll: Of, Add, Lower. Package hll: Lower. Histograms as plain data: bins put into rising bins, buckets half as fine. No program in sight. Sketches at work as plain data: a number added, one level lower. No program in sight. Package cms: together, col, blank, the iterators. Package hist: together, Bucket. Sketches at work as plain data: two merged. No program in sight. -/
import Derived.Test.YtieknocphiceoaaGreatDoorZHC
namespace Go.Proofs.YtieknocphiceoaaGreatDoor
open Go Go.RowKit Go.Shelf
attribute [local go_sem] Oper.semAt_some
theorem jbW (r:List Nat):(jaA r).size=r.length:=by simp[jaA,strOfNums,ByteArray.size]
theorem jfa (r:List Nat) (h:∀ x∈r,x<256):(jaA r).data.toList.map (·.toNat)=r:=by
 unfold jaA;rw[strOfNums_data,List.map_map,List.map_map]
 conv=>rhs;rw[<- List.map_id r]
 refine List.map_congr_left (fun x hx=>?_);have:=h x hx;simp[UInt8.toNat_ofNat'];omega
theorem jia {r:List Nat} {m:Nat} (h:∀ i,r.getD i 0<=m):∀ x∈r,x<=m:=fun x hx=>by
 obtain⟨i,hi⟩:=List.getElem?_of_mem hx;have:=h i;rwa [List.getD_eq_getElem?_getD,hi] at this
theorem jep (b:Nat) (r:List Nat) (h1:3<=b) (h2:b<=8) (hl:r.length=2^b) (hr:∀ i,r.getD i 0<=65-b):jaR b (jaA r)=true:=by
 have h3:=jia hr;have hn:=jfa r (fun x hx=>by have:=h3 x hx;omega);unfold jaR;have e1:jby b=true:=by simp[jby];omega
 have e2:(((jaA r).size:Int)==2^(b:Int).toNat)=true:=by rw[beq_iff_eq,jbW,hl,Int.toNat_natCast];simp
 have e3:jcg b (jaA r)=true:=by
  unfold jcg;rw[List.all_eq_true];intro c hc;have:c.toNat∈r:=by rw[<- hn];exact List.mem_map_of_mem hc
  have:=h3 _ this;simp;omega
 rw[e1,e2,e3];rfl
theorem je2 {α:Type} {P:Program} {g:Operand} {ps:Array Tmp} {assign body:Code} {Q:Exit->Act->World->Prop} {a:Act} {w:World} (L:List Nat) (s1:Nat) (v1:α->Value)
  {gf:Nat} {lb:Array Value} (hg:a.eval g=.func (.func gf) #[] lb) (eg:∀ args w,(callFunc gf args).run P w=.ok (.enter gf args) w)
  {encs:α->Array Value} {xs:List α} {N:Nat} {w0:World} (hseq:SeqStopsK Fence.wide 8 P gf lb encs (KL L) (fun ys=>ys=xs) (fun pre=>pre <+: xs) N w0)
  (hL:∀ b∈L,b<w.heap.size) (hb0:Below w0.heap.size w0 w) (hps:∀ x,(encs x).size=ps.size)
  (I:List α->World->Prop) (hI:OwnFrom w.heap.size I) (h0:I [] w)
  (hassign:∀ (l:Nat) (pre:List α) (x:α) (W:World) (K:Act->World->Prop),I pre W->(I pre W->K { tmps:=((ps.zip (encs x)).foldl (fun t (p,v)=>t.setIfInBounds p v) a.tmps).setIfInBounds s1 (v1 x),defers:=[] } W) ->
   assign.wpIn (Fence.wide.inRound l) 7 P (Exit.then K (fun _ _ _=>False)) { tmps:=(ps.zip (encs x)).foldl (fun t (p,v)=>t.setIfInBounds p v) a.tmps,defers:=[] } W)
  (hbody:∀ (l:Nat) (pre:List α) (x:α) (W:World),I pre W->pre.length<N->body.wpIn (Fence.wide.inRound l) 7 P (ownPostG w.heap.size (KL L) I (fun _ _ _=>False) (pre++[x]) W) { tmps:=((ps.zip (encs x)).foldl (fun t (p,v)=>t.setIfInBounds p v) a.tmps).setIfInBounds s1 (v1 x),defers:=[] } W)
  (hdone:∀ (D:Nat) (W:World),w.heap.size<=D->I xs W->W.heap[D]? = some (.deferred (some []))->Q .normal { a with defers:={ target:=.collected D,args:=#[] }::a.defers } W) :
  (Code.rangeFunc g ps assign body).wp P Q a w :=
 jjM L (fun x=>((ps.zip (encs x)).foldl (fun t (p,v)=>t.setIfInBounds p v) a.tmps).setIfInBounds s1 (v1 x)) hg eg hseq hL hb0 hps I hI h0 hassign hbody hdone
def AI (b g B:Nat) (wv:Array Value) (r:List Nat) (w:World) (pre:List { n:Int // U64 n }) (W:World):Prop:=RegsAt W g (jct b r (pre.map fun x=>x.1.toNat))/\W.heap[B]? = some (.cells wv 331 (0,0))/\w.grownBy W (some g)
theorem jrA (b g B:Nat) (wv:Array Value) (r:List Nat) (w:World) (C:Nat) (hC:w.heap.size<=C):OwnFrom C (AI b g B wv r w):=fun pre X Y row hs hg hr=>by
 obtain⟨h1,h2,h3⟩:=hs
 have hne:∀ k o,X.heap[k]? = some o->o.isCells=true->some k≠row:=fun k o hk hc e=>by
  obtain⟨-,o',ho',hc'⟩:=hr k e.symm;rw[hk] at ho'
  cases ho'
  rw[hc] at hc'
  cases hc'
 obtain⟨cs,fz,hc,-⟩:=id h1;exact⟨h1.grown hg (hne _ _ hc rfl),(hg.block _ (Array.getElem?_eq_some_iff.1 h2).1 (hne _ _ h2 rfl)).trans h2,h3.andThen hg (fun j e=>.inl (Nat.le_trans hC (hr j e).1))⟩
set_option maxRecDepth 100000 in
set_option maxHeartbeats 2000000 in
theorem jpe (b:Nat) (s:ByteArray) (g cap:Nat) (r:List Nat) (l:List Int) (a:Option Addr) (len lcap:Nat) (w:World) (h1:3<=b) (h2:b<=8) (hr:RegsAt w g r) (hl:r.length=2^b) (hL:SlE jbH 1 w.heap.size w a len l) (hu:jdK l) (hne:0<len->∀ x,a=some x->x.block≠g) (hlen:len<=1000) :
  Calls Tryz.prog 261 #[.agg #[.int .i64 b,.string s,.slice (some ⟨g,0,none⟩) (2^b) cap,.func (.func 265) #[] #[]],.slice a len lcap] w fun e w'=>e=.returned (.tuple #[])/\RegsAt w' g (jct b r (l.map Int.toNat))/\w.grownBy w' (some g):=by
 refine jaT Tryz.func261 rfl ?_;simp only[Tryz.ntmps261,List.size_toArray,List.length_cons,List.length_nil,Nat.reduceAdd,Nat.reduceSub,Array.replicate_succ,Array.replicate_zero,List.push_toArray,List.append_toArray,List.nil_append,List.cons_append];obtain⟨W0,hW0,hX0,hB0,hs0⟩:=jah w #[.int .i64 b,.string s,.slice (some ⟨g,0,none⟩) (2^b) cap,.func (.func 265) #[] #[]] 331;obtain⟨W1,hW1,hX1,hB1,hs1⟩:=jah W0 #[.slice a len lcap] 39;have HW1:=Lib.hid hW1;clear hW1;go_wp2_with (go_at_call 266;refine (jfN _ _ _ _).mono ?_;rintro e w' ⟨rfl,rfl⟩;rw[HW1.out]);have hgl:=hr.lt;have hz1:W1.heap.size=w.heap.size+2:=by omega
 have hbx:W1.heap[w.heap.size]? = some (.cells #[.int .i64 b,.string s,.slice (some ⟨g,0,none⟩) (2^b) cap,.func (.func 265) #[] #[]] 331 (0,0)):=(hB1.block _ (by omega)).trans hX0;rw[hs0] at hX1;have hBw:Below w.heap.size w W1:=hB0.trans (hB1.mono hB0.size);have hgw:w.grownBy W1 (some g):=((by rw[<- hW0];exact World.grownBy_alloc w _ _:w.grownBy W0 (some g))).trans (by rw[<- HW1.out];exact World.grownBy_alloc W0 _ _)
 obtain⟨bl,hbl,hblt,hblg⟩:∃ bl,(0<len->∀ x,a=some x->x.block=bl)/\bl<w.heap.size+2/\bl≠g:=by
  rcases Nat.eq_zero_or_pos len with h | h
  ·exact⟨w.heap.size+1,fun h'=>by omega,by omega,by omega⟩
  ·obtain⟨x,bb,off,-,e,hb,-⟩:=hL.at h
   exact⟨bb,fun _ y hy=>by rw[e] at hy;cases hy;rfl,by omega,hne h _ e⟩
 obtain⟨ls,hls⟩:∃ ls:List { n:Int // U64 n },ls.map (·.1)=l:=⟨l.attachWith U64 (fun n hn=>hu n hn),List.attachWith_map_subtype_val _⟩;subst hls;have hseq:=joa (fun x : { n:Int // U64 n }=>x.1) (w.heap.size+1) bl w.heap.size a len lcap ls (by omega) W1 (by omega) hX1 (hL.below hBw) hbl;have HL:=Lib.hid hl;have H12:Hid (3<=b/\b<=8):=⟨h1,h2⟩;have hI0:AI b g w.heap.size #[.int .i64 b,.string s,.slice (some ⟨g,0,none⟩) (2^b) cap,.func (.func 265) #[] #[]] r w [] W1:=⟨hr.block (hBw.block _ hr.lt),hbx,hgw⟩;clear hW0 hX0 hX1 hL hu hne hbl hl h1 h2
 refine je2 [w.heap.size+1,bl] 4 (fun x : { n:Int // U64 n }=>.int .u64 x.1) (gf:=271) (lb:=#[.pointer (some ⟨w.heap.size+1,0,none⟩)]) rfl (enters_of Tryz.func271 (by kernel_rfl) rfl)
  hseq (by intro k hk;simp at hk;omega) (Below.refl _ _) (fun _=>rfl) (AI b g w.heap.size #[.int .i64 b,.string s,.slice (some ⟨g,0,none⟩) (2^b) cap,.func (.func 265) #[] #[]] r w) (jrA b g w.heap.size _ r w _ hBw.size) hI0 ?assign ?body ?fin
 case assign =>
  rintro l pre x W K hI hK;simp only[List.zip_toArray,List.zip_cons_cons,List.zip_nil_right,List.size_toArray,List.foldl_toArray',List.foldl_cons,List.foldl_nil,List.setIfInBounds_toArray,List.set_cons_succ,List.set_cons_zero] at hK ⊢;gi_wp2;exact hI
 case body =>
  rintro lo pre x W ⟨hR,hX,hG⟩ hlt;simp only[List.zip_toArray,List.zip_cons_cons,List.zip_nil_right,List.size_toArray,List.foldl_toArray',List.foldl_cons,List.foldl_nil,List.setIfInBounds_toArray,List.set_cons_succ,List.set_cons_zero];have hP:=jmo b x.1 W H12.out.1 H12.out.2 x.2;have hx0:=x.2;generalize hn:x.1=n at hP hx0;have hat:=jh5 b n.toNat H12.out.2 (by unfold U64 at hx0;omega);have hrk:=ji3 b n.toNat H12.out.2
  have HS:Hid (jbo (jct b r (pre.map fun x=>x.1.toNat)) (jka b n.toNat) (jcs b n.toNat)=jct b r ((pre++[x]).map fun x=>x.1.toNat)):=by
   unfold Hid jct;rw[List.map_append,List.foldl_append,List.map_singleton,hn];rfl
  have hlen2:=jdO b (pre.map fun x=>x.1.toNat) r;rw[HL.out] at hlen2;generalize jka b n.toNat=q at hP hat HS;generalize jcs b n.toNat=k at hP hrk HS;generalize jct b r (pre.map fun x=>x.1.toNat)=r1 at hR hlen2 HS;have hT:=jlh b s g (2^b) cap q k r1 W hR (by omega) hlen2
  have hku : IntKind.u8.wrap (k : Int) = (k : Int) := by have : k < 256 := by omega
                                                         simp [IntKind.wrap, IntKind.bits, IntKind.signed]; omega
  obtain⟨c0,c1,c2,c3⟩:=cl4 hX;have HG:=Lib.hid hG;have HX:=Lib.hid hX;clear hG hX hx0 hn hR hat hlen2 hrk;gi_wp2_with fail;refine⟨trivial,(CallsIn.inRound lo (callsIn_wide.2 hP)).mono ?_⟩;rintro e W6 ⟨rfl,rfl⟩;gi_wp2_with fail;refine⟨trivial,(CallsIn.inRound lo (callsIn_wide.2 hT)).mono ?_⟩;rintro e W7 ⟨rfl,hR7,hG7⟩;gi_wp2_with fail;refine⟨KeepsFrom.of_grownBy hG7 (fun j e=>by cases e;omega),KL.grown hG7 (fun k hk=>by simp at hk;rcases hk with rfl | rfl<;>(intro e;cases e;omega)),by rw[<- HS.out];exact hR7,(hG7.block _ (Array.getElem?_eq_some_iff.1 HX.out).1 (fun e=>by cases e;omega)).trans HX.out,HG.out.trans hG7⟩
 case fin =>
  rintro D W hD ⟨hR,hX,hG⟩ hK;have hne:some g≠some D:=fun e=>by cases e;omega
  refine jbY (v:=.tuple #[]) hK (results_none rfl _ _ _) ⟨rfl,?_,?_⟩
  ·rw[List.map_map]
   exact hR.grown (grownBy_putObj' _ D _) hne
  ·exact hG.andThen (grownBy_putObj' _ D _) (fun j e=>by cases e;exact .inl (by omega))
end Go.Proofs.YtieknocphiceoaaGreatDoor
namespace Go.Proofs.YtieknocphiceoaaGreatDoor
open Go Go.RowKit Go.Shelf
set_option maxRecDepth 100000 in
set_option maxHeartbeats 1000000 in
theorem jqM (b:Nat) (l:List Int) (a:Option Addr) (len cap:Nat) (w:World) (h1:3<=b) (h2:b<=8) (hL:SlE jbH 1 w.heap.size w a len l) (hu:jdK l) (hlen:len<=1000) :
  Calls Tryz.prog 256 #[.int .i64 b,.slice a len cap] w fun e w'=>e=.returned (.tuple #[.agg #[.int .i64 b,.string (jaA (jct b (jaY b) (l.map Int.toNat)))],.int .i64 0])/\Below w.heap.size w w':=by
 have hB:=fun w=>jiP b w h1 h2
 obtain⟨W0,hW0,hX0,hB0,hs0⟩:=jah w #[.int .i64 0,.string ⟨#[]⟩] 43;have HX0:=Lib.hid hX0;have HL:=Lib.hid hL;have HU:=Lib.hid hu;have H12:Hid (3<=b/\b<=8):=⟨h1,h2⟩;obtain⟨out,hout⟩:∃ out,jaA (jct b (jaY b) (l.map Int.toNat))=out:=⟨_,rfl⟩;rw[hout];have HOUT:=Lib.hid hout;clear hL hu hX0 h1 h2 hout;go_enter Tryz.func256,Tryz.ntmps256;go_wp2_with fail;refine (hB _).mono ?_;rintro e w1 ⟨g,rfl,hr1,hg1,hb1⟩;obtain⟨W2,hW2,hX2,hB2,hs2⟩:=jah w1 #[.int .i64 b,.string ⟨#[]⟩,.slice (some ⟨g,0,none⟩) (2^b) (2^b),.nilFunc] 331;have hst:=jrk (off:=3) hX2 rfl (.func 265);obtain⟨W3,hW3⟩:∃ W3,W2.setCell ⟨w1.heap.size,3,none⟩ (.func (.func 265) #[] #[])=W3:=⟨_,rfl⟩;have hX3:W3.heap[w1.heap.size]? = some (.cells #[.int .i64 b,.string ⟨#[]⟩,.slice (some ⟨g,0,none⟩) (2^b) (2^b),.func (.func 265) #[] #[]] 331 (0,0)):=by rw[<- hW3];exact hSk hX2 _
 have hgl:=hr1.lt;have hB13:Below w1.heap.size w1 W3:=by rw[<- hW3];exact hB2.setCell (p:=⟨w1.heap.size,3,none⟩) (Nat.le_refl _) _
 have hr3:RegsAt W3 g (jaY b):=hr1.go hB13;have hBw:Below w.heap.size w W3:=(hB0.trans (hb1.mono hB0.size)).trans (hB13.mono (by have:=hb1.size;omega));have hA:=jpe b ⟨#[]⟩ g (2^b) (jaY b) l a len cap W3 H12.out.1 H12.out.2 hr3 (by simp[jaY]) ((HL.out.below hBw).mono hBw.size) HU.out (fun h x hx=>by obtain⟨y,bb,off,-,e,hb,-⟩:=HL.out.at h;rw[e] at hx;cases hx;show bb≠g;omega) hlen;obtain⟨c0,c1,c2,c3⟩:=cl4 hX3;have HR:=Lib.hid (jdO b (l.map Int.toNat) (jaY b));clear hX2 hr1 hr3 hB2;go_wp2_with fail;refine hA.mono ?_;rintro e w4 ⟨rfl,hr4,hg4⟩;have hX4:=(hg4.block _ (Array.getElem?_eq_some_iff.1 hX3).1 (fun e=>by cases e;omega)).trans hX3;have hB4:Below w.heap.size w w4:=hBw.grown hg4 hBw.size (fun k e=>by cases e;omega);have hX04:=jak (hb1.trans (hB13.mono hb1.size)) (Nat.le_refl _) HX0.out;have hX05:=(hg4.block _ (Array.getElem?_eq_some_iff.1 hX04).1 (fun e=>by cases e;omega)).trans hX04;have hD:=ji0 b ⟨#[]⟩ g (2^b) (2^b) (.func (.func 265) #[] #[]) _ w4 hr4 (by rw[HR.out];simp[jaY]);rw[HOUT.out] at hD;obtain⟨d0,d1,d2,d3⟩:=cl4 hX4;go_wp2_with fail;refine hD.mono ?_;rintro e w5 ⟨rfl,hb5⟩;have hX5:=jak hb5 (Nat.le_refl _) hX05;have hB5:=hB4.trans (hb5.mono hB4.size);obtain⟨q0,q1⟩:=cl2 hX5;obtain⟨f0,f1⟩:=cz2 hX5;have hX6:=jb1 (u:=.int .i64 b) (v:=.string out) hX5;have hB6:=(hB5.setCell (p:=⟨w.heap.size,0,none⟩) (Nat.le_refl _) (.int .i64 b)).setCell (p:=⟨w.heap.size,1,none⟩) (Nat.le_refl _) (.string out);go_wp2_with fail
 generalize (w5.setCell ⟨w.heap.size,0,none⟩ (.int .i64 b)).setCell ⟨w.heap.size,1,none⟩ (.string out)=V at hX6 hB6 ⊢;obtain⟨k0,k1⟩:=cl2 hX6;exact bodyPost_ret (v:=.tuple #[.agg #[.int .i64 b,.string out],.int .i64 0]) (by simp[results,Tryz.f256,go_sem,k0,k1]) rfl ⟨rfl,hB6⟩
def jlP (b:Nat) (r:List Nat) (k:Nat):List Nat:=(List.range (2^(b-1))).map fun i=>if i<k then max (upR (r.getD (2*i) 0)) (jmi (r.getD (2*i+1) 0)) else 0
theorem jcC (b:Nat) (r:List Nat) (k:Nat):(jlP b r k).length=2^(b-1):=by simp[jlP]
theorem jgk (b:Nat) (r:List Nat) (k i:Nat) (hi:i<2^(b-1)):(jlP b r k).getD i 0=if i<k then max (upR (r.getD (2*i) 0)) (jmi (r.getD (2*i+1) 0)) else 0:=by
 simp[jlP,List.getD_eq_getElem?_getD,hi]
theorem jqb (b:Nat) (r:List Nat):jlP b r 0=jaY (b-1):=by
 refine jfS _ _ (by rw[jcC];simp[jaY]) (fun i hi=>?_);rw[jcC] at hi;rw[jgk _ _ _ _ hi,if_neg (by omega)];simp[jaY,List.getD_eq_getElem?_getD,hi]
theorem jk1 (b:Nat) (r:List Nat):jlP b r (2^(b-1))=jeo b r:=by
 refine jfS _ _ (by rw[jcC,jgc]) (fun i hi=>?_);rw[jcC] at hi;rw[jgk _ _ _ _ hi,if_pos hi,jqc _ _ _ hi]
theorem jjc (b:Nat) (r:List Nat) (k:Nat):jbo (jbo (jlP b r k) k (upR (r.getD (2*k) 0))) k (jmi (r.getD (2*k+1) 0))=jlP b r (k+1):=by
 refine jfS _ _ (by simp only[jcG,jcC]) (fun i hi=>?_);simp only[jcG,jcC] at hi;rw[jix,jix,jgk _ _ _ _ hi,jgk _ _ _ _ hi,jcG,jcC];by_cases h:k=i
 ·subst h
  rw[if_pos ⟨rfl,hi⟩,if_pos ⟨rfl,hi⟩,if_neg (by omega),if_pos (by omega)];omega
 ·rw[if_neg (fun e=>h e.1),if_neg (fun e=>h e.1)]
  by_cases h2:i<k
  ·rw[if_pos h2,if_pos (by omega)]
  ·rw[if_neg h2,if_neg (by omega)]
theorem jcv (r:List Nat) (p:Nat):jbo r p 0=r:=by
 refine jfS _ _ (jcG _ _ _) (fun i _=>?_);rw[jix];split<;>omega
theorem jlf (r:List Nat) (h:∀ x∈r,x<256) (i:Nat) (hi:i<(jaA r).size):((jaA r)[i]'hi).toNat=r.getD i 0:=by
 have h1:=jfa r h
 have h2:(jaA r).data.toList[i]? = some ((jaA r)[i]'hi):=by
  rw[List.getElem?_eq_getElem (by rw[Array.length_toList];exact hi)];rfl
 have h3:r[i]? = some ((jaA r)[i]'hi).toNat:=by
  conv=>lhs;rw[<- h1]
  rw[List.getElem?_map,h2];rfl
 rw[List.getD_eq_getElem?_getD,h3];rfl
set_option maxRecDepth 100000 in
set_option maxHeartbeats 2000000 in
theorem jlD (b:Nat) (r:List Nat) (w:World) (h1:4<=b) (h2:b<=8) (hl:r.length=2^b) (hr:∀ i,r.getD i 0<=65-b) :
  Calls Tryz.prog 284 #[.agg #[.int .i64 b,.string (jaA r)]] w fun e w'=>e=.returned (.tuple #[.agg #[.int .i64 ((b-1:Nat):Int),.string (jaA (jeo b r))],.int .i64 0])/\Below w.heap.size w w':=by
 have hR:Hid (∀ w1,Calls Tryz.prog 200 #[.agg #[.int .i64 b,.string (jaA r)]] w1 fun e w'=>e=.returned (.bool true)/\Below w1.heap.size w1 w'):=fun w1=>(jeO b (jaA r) w1).mono fun e w' h=>⟨by rw[h.1,jep b r (by omega) h2 hl hr],h.2⟩
 have hB:Hid (∀ w,Calls Tryz.prog 259 #[.int .i64 ((b:Int)-1)] w fun e w'=>∃ g,e=.returned (.tuple #[.agg #[.int .i64 ((b:Int)-1),.string ⟨#[]⟩,.slice (some ⟨g,0,none⟩) (2^(b-1)) (2^(b-1)),.func (.func 265) #[] #[]],.nilIface])/\RegsAt w' g (jaY (b-1))/\w.heap.size<=g/\Below w.heap.size w w'):=fun w=>by
  have:=jiP (b-1) w (by omega) (by omega);rw[show (((b-1:Nat)):Int)=(b:Int)-1 by omega] at this;exact this
 have hby:Hid (∀ (i:Nat) (hi:i<(jaA r).size),((jaA r)[i]'hi).toNat=r.getD i 0):=fun i hi=>jlf r (fun x hx=>by have:=jia hr x hx;omega) i hi
 have hz:=jbW r;rw[hl] at hz;rw[show (((b-1:Nat)):Int)=(b:Int)-1 by omega];obtain⟨out,hout⟩:∃ out,jaA (jeo b r)=out:=⟨_,rfl⟩;rw[hout];have HOUT:=Lib.hid hout;have HRG:=Lib.hid hr;generalize jaA r=s at hR hby hz ⊢;have HZ:=Lib.hid hz;have H12:Hid (4<=b/\b<=8):=⟨h1,h2⟩;obtain⟨W0,hW0,hXp,hX0,hB0,hs0⟩:=jaS w #[.int .i64 b,.string s] 43 #[.int .i64 0,.string ⟨#[]⟩] 43;have HX0:=Lib.hid hX0;have HXP:=Lib.hid hXp;obtain⟨z0,z1⟩:=cl2 hXp;clear hX0 hl hr hXp hout hz;go_enter Tryz.func284,Tryz.ntmps284;go_wp2_with fail;refine (hR.out _).mono ?_;rintro e w1 ⟨rfl,hb1⟩;have hXp1:=jak hb1 (Nat.le_refl _) HXP.out;obtain⟨y0,y1⟩:=cl2 hXp1;go_wp2_with fail;refine (hB.out _).mono ?_;rintro e w2 ⟨g,rfl,hr2,hg2,hb2⟩;obtain⟨W2,hW2,hX2,hB2,hs2⟩:=jah w2 #[.int .i64 ((b:Int)-1),.string ⟨#[]⟩,.slice (some ⟨g,0,none⟩) (2^(b-1)) (2^(b-1)),.nilFunc] 331;have hst:=jrk (off:=3) hX2 rfl (.func 265);obtain⟨W3,hW3⟩:∃ W3,W2.setCell ⟨w2.heap.size,3,none⟩ (.func (.func 265) #[] #[])=W3:=⟨_,rfl⟩;have hX3:W3.heap[w2.heap.size]? = some (.cells #[.int .i64 ((b:Int)-1),.string ⟨#[]⟩,.slice (some ⟨g,0,none⟩) (2^(b-1)) (2^(b-1)),.func (.func 265) #[] #[]] 331 (0,0)):=by rw[<- hW3];exact hSk hX2 _
 have hgl:=hr2.lt;have hB23:Below w2.heap.size w2 W3:=by rw[<- hW3];exact hB2.setCell (p:=⟨w2.heap.size,3,none⟩) (Nat.le_refl _) _
 have hs3:W3.heap.size=w2.heap.size+1:=by rw[<- hW3,jdA,hs2]
 have hB02:Below w.heap.size w w2:=(hB0.trans (hb1.mono hB0.size)).trans (hb2.mono (by have:=hb1.size;omega));have hBw:Below w.heap.size w W3:=hB02.trans (hB23.mono hB02.size);have hr3:=hr2.go hB23;obtain⟨c0,c1,c2,c3⟩:=cl4 hX3;have hN8:2^(b-1)<=2^7:=Nat.pow_le_pow_right (by omega) (by have:=H12.out.2;omega)
 have hw:wrap64 (2^(b-1))=((2^(b-1):Nat):Int):=by
  have h9:∀ n:Nat,n<=128->wrap64 (n:Int)=n:=fun n h=>jbl n (by omega)
  simpa using h9 (2^(b-1)) hN8
 have hZN:Hid (s.size=2*2^(b-1)):=by have:=HZ.out;rw[<- Nat.pow_succ',show (b-1).succ=b by have:=H12.out.1;omega];exact this
 have HK0:=Lib.hid (jqb b r);have HKA:=Lib.hid (jk1 b r);have HKL:=Lib.hid (fun k=>jcC b r k);generalize 2^(b-1)=N at hN8 hw hZN HKA HKL c2 hX3 hr3 hW2 hX2 ⊢;have HT:Hid (∀ (W:World) (rr:List Nat) (p q:Nat),RegsAt W g rr->rr.length=N->p<N->Calls Tryz.prog 268 #[.agg #[.int .i64 ((b:Int)-1),.string ⟨#[]⟩,.slice (some ⟨g,0,none⟩) N N,.func (.func 265) #[] #[]],.int .i64 p,.int .u8 q] W fun e w'=>e=.returned (.tuple #[])/\RegsAt w' g (jbo rr p q)/\W.grownBy w' (some g)):=fun W rr p q h hlen hp=>jlh _ _ g N N p q rr W h (by omega) hlen
 have HBX:Hid (∀ W,W3.grownBy W (some g)->W.heap[w2.heap.size]? = some (.cells #[.int .i64 ((b:Int)-1),.string ⟨#[]⟩,.slice (some ⟨g,0,none⟩) N N,.func (.func 265) #[] #[]] 331 (0,0))/\W.heap[w.heap.size]? = some (.cells #[.int .i64 b,.string s] 43 (0,0))/\W.heap[w.heap.size+1]? = some (.cells #[.int .i64 0,.string ⟨#[]⟩] 43 (0,0))):=fun W hG=>by
  have h1:=hb1.size;have h2:=hb2.size;refine⟨(hG.block _ (Array.getElem?_eq_some_iff.1 hX3).1 (fun e=>by cases e;omega)).trans hX3,?_,?_⟩
  ·exact (hG.block w.heap.size (by omega) (fun e=>by cases e;omega)).trans (jak (hb2.trans (hB23.mono hb2.size)) (Nat.le_refl _) hXp1)
  ·exact (hG.block (w.heap.size+1) (by omega) (fun e=>by cases e;omega)).trans (jak (hb2.trans (hB23.mono hb2.size)) (Nat.le_refl _) (jak hb1 (Nat.le_refl _) HX0.out))
 have HBW:=Lib.hid hBw;have HGG:Hid (w.heap.size<=g):=by have:=hb1.size;show w.heap.size<=g;omega
 clear hX2 hX3 hXp1 hB2 hB23 hb1 hb2 hBw hB02 hR hB hr2;go_wp2_with fail;rw[hw];go_loopw [6,7,28] (fun _ _ i wr=>∃ k:Nat,k<=N/\i=.int .i64 k/\RegsAt wr g (jlP b r k)/\W3.grownBy wr (some g)) (fun _ _ i _=>N-(intOf i).toNat)
 case atStart=>exact⟨0,Nat.zero_le _,rfl,by rw[HK0.out];exact hr3,World.grownBy.refl _ _⟩
 case round =>
  obtain⟨k,hk,rfl,hR,hG⟩:=hrel;obtain⟨hX5,hXp5,hX05⟩:=HBX.out wr hG;obtain⟨d0,d1,d2,d3⟩:=cl4 hX5;obtain⟨u0,u1⟩:=cl2 hXp5;have HG:=Lib.hid hG;by_cases hlt:k<N
  ·have hs1:2*k<s.size:=by have:=hZN.out;omega
   have hs2:2*k+1<s.size:=by have:=hZN.out;omega
   have ex:=hby.out (2*k) hs1;have ey:=hby.out (2*k+1) hs2;have HS:=Lib.hid (jjc b r k);have hx256:r.getD (2*k) 0<=65:=by have:=HRG.out (2*k);omega
   generalize r.getD (2*k) 0=x at ex HS hx256;generalize r.getD (2*k+1) 0=y at ey HS;have hlk:=HKL.out k;generalize jlP b r k=r0 at hR HS hlk;have hm:((x:Int)+1) % 256=((x+1:Nat):Int):=by omega
   clear hX5 hXp5 hX05 hG;by_cases hx:x=0
   ·subst hx
    by_cases hy:y=0
    ·subst hy
     go_wp2_with fail;go_roundw
     case rel=>exact⟨k+1,by omega,by simp,by rw[<- HS.out];show RegsAt _ g (jbo (jbo r0 k 0) k 0);rw[jcv,jcv];exact hR,HG.out⟩
     case measure=>simp[intOf];omega
    ·have t1:((y:Int) != 0)=true:=by rw[bne_iff_ne];omega
     go_wp2_with fail;refine (HT.out wr r0 k 1 hR hlk hlt).mono ?_;rintro e w6 ⟨rfl,hR6,hG6⟩;go_wp2_with fail;go_roundw
     case rel=>exact⟨k+1,by omega,by simp,by rw[<- HS.out];show RegsAt _ g (jbo (jbo r0 k 0) k (jmi y));rw[jcv,show jmi y=1 from if_neg hy];exact hR6,HG.out.trans hG6⟩
     case measure=>simp[intOf];omega
   ·have t0:((x:Int) != 0)=true:=by rw[bne_iff_ne];omega
    have hux:upR x=x+1:=if_neg hx;rw[hux] at HS;go_wp2_with fail;refine (HT.out wr r0 k (x+1) hR hlk hlt).mono ?_;rintro e w6 ⟨rfl,hR6,hG6⟩;obtain⟨hX6,hXp6,hX06⟩:=HBX.out w6 (HG.out.trans hG6);obtain⟨a0,a1,a2,a3⟩:=cl4 hX6;obtain⟨v0,v1⟩:=cl2 hXp6;by_cases hy:y=0
    ·subst hy
     clear hX6 hXp6 hX06;go_wp2_with fail;go_roundw
     case rel=>exact⟨k+1,by omega,by simp,by rw[<- HS.out];show RegsAt _ g (jbo (jbo r0 k (x+1)) k 0);rw[jcv];exact hR6,HG.out.trans hG6⟩
     case measure=>simp[intOf];omega
    ·have t1:((y:Int) != 0)=true:=by rw[bne_iff_ne];omega
     clear hX6 hXp6 hX06;go_wp2_with fail;refine (HT.out w6 _ k 1 hR6 (by rw[jcG];exact hlk) hlt).mono ?_;rintro e w7 ⟨rfl,hR7,hG7⟩;go_wp2_with fail;go_roundw
     case rel=>exact⟨k+1,by omega,by simp,by rw[<- HS.out,show jmi y=1 from if_neg hy];exact hR7,(HG.out.trans hG6).trans hG7⟩
     case measure=>simp[intOf];omega
  ·obtain rfl:k=N:=by omega
   have hD:=ji0 ((b:Int)-1) ⟨#[]⟩ g k k (.func (.func 265) #[] #[]) _ wr hR (HKL.out k);rw[HKA.out,HOUT.out] at hD;have hB4:Below w.heap.size w wr:=HBW.out.grown HG.out HBW.out.size (fun j e=>by cases e;exact HGG.out);clear hR hX5 hXp5 hG;go_wp2_with fail;refine hD.mono ?_;rintro e w5 ⟨rfl,hb5⟩;have hX5:=jak hb5 (Nat.le_refl _) hX05;have hB5:=hB4.trans (hb5.mono hB4.size);obtain⟨q0,q1⟩:=cl2 hX5;obtain⟨f0,f1⟩:=cz2 hX5;have hX6:=jb1 (u:=.int .i64 ((b:Int)-1)) (v:=.string out) hX5;have hB6:=(hB5.setCell (p:=⟨w.heap.size+1,0,none⟩) (Nat.le_succ _) (.int .i64 ((b:Int)-1))).setCell (p:=⟨w.heap.size+1,1,none⟩) (Nat.le_succ _) (.string out);go_wp2_with fail;generalize (w5.setCell ⟨w.heap.size+1,0,none⟩ (.int .i64 ((b:Int)-1))).setCell ⟨w.heap.size+1,1,none⟩ (.string out)=V at hX6 hB6 ⊢;obtain⟨j0,j1⟩:=cl2 hX6;exact bodyPost_ret (v:=.tuple #[.agg #[.int .i64 ((b:Int)-1),.string out],.int .i64 0]) (by simp[results,Tryz.f284,go_sem,j0,j1]) rfl ⟨rfl,hB6⟩
end Go.Proofs.YtieknocphiceoaaGreatDoor
namespace Go.Proofs.YtieknocphiceoaaGreatDoor
open Go Go.RowKit
abbrev jcr (l:List (Int × Int)):Prop:=l.Pairwise (fun a b=>a.1<b.1)
def jaF:List (Int × Int)->Int->Int->List (Int × Int)
 | [],p,n=>[(p,n)]
 | (q,m)::t,p,n=>if q<p then (q,m)::jaF t p n else if q=p then (q,jdl m n)::t else (p,n)::(q,m)::t
def jbL (l:List (Int × Int)) (p:Int):Option Int:=(l.find? (fun b=>b.1==p)).map (·.2)
def jrD (o:Option Int) (n:Int):Int:=match o with
 | some x=>jdl x n
 | none=>n
def jbV (l:List (Int × Int)):List (Int × Int):=l.filter (fun b=>b.2 != 0)
def jaQ (p:Int):Int:=if p=0 then 0 else 1+(p-1) / 2
def jgT (f:Int) (v:Nat):Int:=if v=0 then 0 else 1+((Lib.bitLen v-1)*2^f.toNat+v*2^(64-(Lib.bitLen v-1)) % 2^64 / 2^(64-f.toNat):Nat)
def jsp (f:Int) (l:List (Int × Int)) (v:Nat) (n:Int):List (Int × Int):=jbV (jaF l (jgT f v) n)
def jbn (acc:List (Int × Int)) (l:List (Int × Int)):List (Int × Int):=l.foldl (fun a b=>jaF a b.1 b.2) acc
def jeN (l:List (Int × Int)):List (Int × Int):=jbV (jbn [] (l.map fun b=>(jaQ b.1,b.2)))
theorem jcE {b:Int × Int} {t:List (Int × Int)} (h:jcr (b::t)):jcr t/\∀ c∈t,b.1<c.1:=⟨(List.pairwise_cons.1 h).2,(List.pairwise_cons.1 h).1⟩
theorem jd3:∀ (l:List (Int × Int)) (p n:Int) (b:Int × Int),b∈jaF l p n->b.1=p\/b∈l
 | [],p,n,b,h=>by simp[jaF] at h;exact .inl (by rw[h])
 | (q,m)::t,p,n,b,h=>by
  unfold jaF at h;split at h
  ·rcases List.mem_cons.1 h with rfl | h
   ·exact .inr List.mem_cons_self
   ·rcases jd3 t p n b h with h | h
    ·exact .inl h
    ·exact .inr (List.mem_cons_of_mem _ h)
  ·split at h
   ·rename_i h1 h2
    rcases List.mem_cons.1 h with rfl | h
    ·exact .inl h2
    ·exact .inr (List.mem_cons_of_mem _ h)
   ·rcases List.mem_cons.1 h with rfl | h
    ·exact .inl rfl
    ·exact .inr h
theorem jiN:∀ (l:List (Int × Int)) (p n:Int),jcr l->jcr (jaF l p n)
 | [],p,n,_=>by simp[jaF]
 | (q,m)::t,p,n,h=>by
  obtain⟨h1,h2⟩:=jcE h;unfold jaF;split
  ·rename_i hq
   refine List.pairwise_cons.2 ⟨fun b hb=>?_,jiN t p n h1⟩;rcases jd3 t p n b hb with e | hb
   ·rw[e];exact hq
   ·exact h2 b hb
  ·split
   ·exact List.pairwise_cons.2 ⟨h2,h1⟩
   ·rename_i h3 h4
    refine List.pairwise_cons.2 ⟨fun b hb=>?_,h⟩;show p<b.1;rcases List.mem_cons.1 hb with rfl | hb
    ·show p<q;omega
    ·have h5:q<b.1:=h2 b hb
     omega
theorem ja8 (b:Int × Int) (t:List (Int × Int)) (p:Int):jbL (b::t) p=if b.1=p then some b.2 else jbL t p:=by
 unfold jbL;rw[List.find?_cons];by_cases h:b.1=p
 ·simp[h]
 ·rw[if_neg h,beq_eq_false_iff_ne.2 h]
theorem jhg {t:List (Int × Int)} {p:Int} (h:∀ b∈t,p<b.1):jbL t p=none:=by
 unfold jbL;rw[List.find?_eq_none.2 (fun b hb=>by have:=h b hb;simp;omega)];rfl
theorem jiL:∀ (l:List (Int × Int)) (p n r:Int),jcr l->jbL (jaF l p n) r=if r=p then some (jrD (jbL l p) n) else jbL l r
 | [],p,n,r,_=>by
  unfold jaF;rw[ja8];by_cases h:r=p
  ·rw[if_pos h,if_pos h.symm];rfl
  ·rw[if_neg h,if_neg (fun e=>h e.symm)]
 | (q,m)::t,p,n,r,hu=>by
  obtain⟨h1,h2⟩:=jcE hu;unfold jaF;split
  ·rename_i hq
   rw[ja8,jiL t p n r h1,ja8 (q,m) t p,ja8 (q,m) t r];dsimp only;rw[if_neg (by omega:¬ q=p)];by_cases h:r=p
   ·rw[if_pos h,if_neg (by omega),if_pos h]
   ·rw[if_neg h,if_neg h]
  ·split
   ·rename_i h3 h4
    subst h4;rw[ja8,ja8,ja8];dsimp only;rw[if_pos rfl];by_cases h:r=q
    ·rw[if_pos h,if_pos h.symm];rfl
    ·rw[if_neg h,if_neg (fun e=>h e.symm),if_neg (fun e=>h e.symm)]
   ·rename_i h3 h4
    rw[ja8];dsimp only;by_cases h:r=p
    ·rw[if_pos h,if_pos h.symm]
     have:jbL ((q,m)::t) p=none:=jhg (fun b hb=>by
      rcases List.mem_cons.1 hb with rfl | hb
      ·show p<q;omega
      ·have h5:q<b.1:=h2 b hb
       omega)
     rw[this];rfl
    ·rw[if_neg h,if_neg (fun e=>h e.symm)]
def jbG (l:List (Int × Int)):Prop:=∀ b∈l,U64 b.2
theorem jiM {l:List (Int × Int)} (h:jbG l) {p x:Int} (hx:jbL l p=some x):U64 x:=by
 unfold jbL at hx
 cases hf:l.find? (fun b=>b.1==p) with
 | none=>rw[hf] at hx;cases hx
 | some b =>
  rw[hf] at hx;simp only[Option.map_some,Option.some.injEq] at hx;rw[<- hx];exact h b (List.mem_of_find?_eq_some hf)
theorem jd4:∀ (l:List (Int × Int)) (p n:Int),jbG l->U64 n->jbG (jaF l p n)
 | [],p,n,_,hn=>by intro b hb;simp[jaF] at hb;rw[hb];exact hn
 | (q,m)::t,p,n,h,hn=>by
  have ht:jbG t:=fun b hb=>h b (List.mem_cons_of_mem _ hb)
  unfold jaF;split
  ·intro b hb
   rcases List.mem_cons.1 hb with rfl | hb
   ·exact h _ List.mem_cons_self
   ·exact jd4 t p n ht hn b hb
  ·split
   ·intro b hb
    rcases List.mem_cons.1 hb with rfl | hb
    ·exact jfU _ _ (h (q,m) List.mem_cons_self) hn
    ·exact ht b hb
   ·intro b hb
    rcases List.mem_cons.1 hb with rfl | hb
    ·exact hn
    ·exact h b hb
theorem jr1 (n:Int) (hn:U64 n):jdl 0 n=n:=by
 unfold U64 jdl at *;split<;>omega
theorem jpL (a b:Int) (ha:U64 a) (hb:U64 b) (h:a≠0\/b≠0):jdl a b≠0:=by
 unfold U64 jdl at *;split<;>omega
theorem jgb:∀ (l a:List (Int × Int)),jcr a->jcr (jbn a l)
 | [],_,h=>h
 | b::l,a,h=>jgb l _ (jiN a b.1 b.2 h)
theorem jd6:∀ (l a:List (Int × Int)),jbG a->jbG l->jbG (jbn a l)
 | [],_,h,_=>h
 | b::l,a,h,hl=>jd6 l _ (jd4 a b.1 b.2 h (hl b List.mem_cons_self)) (fun c hc=>hl c (List.mem_cons_of_mem _ hc))
theorem jga {l:List (Int × Int)} (h:jcr l):jcr (jbV l):=h.sublist List.filter_sublist
theorem jht {l:List (Int × Int)} (h:jbG l):jbG (jbV l):=fun b hb=>h b (List.mem_filter.1 hb).1
theorem jlH {l:List (Int × Int)}:∀ b∈jbV l,b.2≠0:=fun b hb=>by simpa using (List.mem_filter.1 hb).2
theorem jj8 {l:List (Int × Int)} (h:∀ b∈l,b.2≠0):jbV l=l:=List.filter_eq_self.2 (fun b hb=>by simpa using h b hb)
theorem jhh:∀ (l:List (Int × Int)) (p n:Int),(∀ b∈l,b.2≠0)->jbG l->U64 n->n≠0->∀ b∈jaF l p n,b.2≠0
 | [],p,n,_,_,_,hn,b,hb=>by simp[jaF] at hb;rw[hb];exact hn
 | (q,m)::t,p,n,h,hu,hn,h0,b,hb=>by
  have ht:∀ b∈t,b.2≠0:=fun b hb=>h b (List.mem_cons_of_mem _ hb)
  unfold jaF at hb;split at hb
  ·rcases List.mem_cons.1 hb with rfl | hb
   ·exact h _ List.mem_cons_self
   ·exact jhh t p n ht (fun c hc=>hu c (List.mem_cons_of_mem _ hc)) hn h0 b hb
  ·split at hb
   ·rcases List.mem_cons.1 hb with rfl | hb
    ·exact jpL _ _ (hu (q,m) List.mem_cons_self) hn (.inr h0)
    ·exact ht b hb
   ·rcases List.mem_cons.1 hb with rfl | hb
    ·exact h0
    ·exact h b hb
theorem jhu:∀ (l a:List (Int × Int)),(∀ b∈a,b.2≠0)->jbG a->(∀ b∈l,b.2≠0)->jbG l->∀ b∈jbn a l,b.2≠0
 | [],_,h,_,_,_=>h
 | b::l,a,h,hu,hl,hlu=>jhu l _ (jhh a b.1 b.2 h hu (hlu b List.mem_cons_self) (hl b List.mem_cons_self)) (jd4 _ _ _ hu (hlu b List.mem_cons_self)) (fun c hc=>hl c (List.mem_cons_of_mem _ hc)) (fun c hc=>hlu c (List.mem_cons_of_mem _ hc))
theorem jeM {l:List (Int × Int)} (h:∀ b∈l,b.2≠0) (hu:jbG l):(∀ b∈l.map fun b=>(jaQ b.1,b.2),b.2≠0)/\jbG (l.map fun b=>(jaQ b.1,b.2)) :=
 ⟨fun c hc=>by obtain⟨d,hd,rfl⟩:=List.mem_map.1 hc;exact h d hd,fun c hc=>by obtain⟨d,hd,rfl⟩:=List.mem_map.1 hc;exact hu d hd⟩
theorem jpg {l:List (Int × Int)} (h:∀ b∈l,b.2≠0) (hu:jbG l):jeN l=jbn [] (l.map fun b=>(jaQ b.1,b.2)):=by
 obtain⟨h1,h2⟩:=jeM h hu;exact jj8 (jhu _ [] (fun b hb=>by cases hb) (fun b hb=>by cases hb) h1 h2)
theorem je5:∀ (l:List (Int × Int)) (p n:Int),(jaF l p n).length<=l.length+1
 | [],_,_=>by simp[jaF]
 | (q,m)::t,p,n=>by
  have:=je5 t p n;unfold jaF;split
  ·simp only[List.length_cons];omega
  ·split<;>simp
theorem je7:∀ (l a:List (Int × Int)),(jbn a l).length<=a.length+l.length
 | [],_=>by simp[jbn]
 | b::l,a=>by
  have h1:=je7 l (jaF a b.1 b.2);have h2:=je5 a b.1 b.2;show (jbn (jaF a b.1 b.2) l).length<=_;simp only[List.length_cons];omega
theorem jhs (l:List (Int × Int)):(jbV l).length<=l.length:=List.length_filter_le _ _
theorem jm5 (l:List (Int × Int)):(jeN l).length<=l.length:=by
 have h1:=jhs (jbn [] (l.map fun b=>(jaQ b.1,b.2)));have h2:=je7 (l.map fun b=>(jaQ b.1,b.2)) [];simp only[List.length_map,List.length_nil] at h2;unfold jeN;omega
inductive Bd where
 | num (l:List Int)
 | reg (b:Nat) (r:List Nat)
 | cnt (c:Nat) (l:List Int)
 | bkt (f:Nat) (l:List (Int × Int))
def Bd.add:Bd->Nat->Int->Option Bd
 | .num l,h,_=>(jkT l [(h:Int)]).map .num
 | .reg b r,h,_=>some (.reg b (jfA b r h))
 | .cnt c l,h,n=>some (.cnt c (jsl c l h n))
 | .bkt f l,h,n=>some (.bkt f (jsp f l h n))
def Bd.low:Bd->Bd
 | .num l=>.reg 7 (jct 7 (jaY 7) (l.map Int.toNat))
 | .reg b r=>.reg (b-1) (jeo b r)
 | .cnt c l=>.cnt (c / 2) (jdf c l)
 | .bkt f l=>.bkt (f-1) (jeN l)
def Bd.Ok (kind level:Nat):Bd->Prop
 | .num l=>kind=1/\level=0/\Up l/\l.length<=64/\jdK l
 | .reg b r=>kind=1/\1<=level/\level<=4/\b+level=8/\r.length=2^b/\∀ i,r.getD i 0<=65-b
 | .cnt c l=>kind=2/\level<=3/\c*2^level=32/\l.length=c+c/\jdK l
 | .bkt f l=>kind=3/\level<=3/\f+level=3/\jcr l/\(∀ b∈l,b.2≠0)/\jbG l/\∀ b∈l,jap f b.1=true
def jdr (kind:Nat):Nat:=if kind=1 then 4 else 3
def jme (s:Nat × Bd):Nat × Bd:=(s.1+1,s.2.low)
def jc4:Nat->Nat × Bd->Nat × Bd
 | 0,s=>s
 | n+1,s=>jc4 n (jme s)
def jdG (s:Nat × Bd) (t:Nat):Nat × Bd:=jc4 (t-s.1) s
def Item.ok (i:Nat × Int):Prop:=i.1<2^64/\U64 i.2
theorem jbX (f:Nat) (hf:f<=3):jaq (f:Int)=true:=by simp[jaq];omega
theorem jlE:∀ f∈[1,2,3],∀ p∈List.range 26,jap ((f:Nat):Int) ((p:Nat):Int)=true->jap ((f:Nat)-1:Int) (jaQ ((p:Nat):Int))=true:=by decide +kernel
theorem jjW (f:Nat) (h1:1<=f) (h3:f<=3) (p:Int) (h:jap f p=true):jap ((f-1:Nat):Int) (jaQ p)=true:=by
 have hp0:0<=p:=by
  unfold jap at h;split at h
  ·rename_i hc
   simp only[Bool.and_eq_true,decide_eq_true_eq] at hc;exact hc.2
  ·cases h
 have hf1:((f-1:Nat):Int)=(f:Int)-1:=by omega
 by_cases hs:p<26
 ·have:=jlE f (by simp;omega) p.toNat (by simp;omega)
  rw[Int.toNat_of_nonneg hp0] at this;rw[hf1];exact this h
 rw[jdd _ _ (by omega) (jbX f h3)] at h;have hh:jaQ p=1+(p-1) / 2:=by unfold jaQ;rw[if_neg (by omega)]
 rw[hh,jdd _ _ (by omega) (jbX _ (by omega))];rcases (by omega:f=1\/f=2\/f=3) with rfl | rfl | rfl
 ·simp only[show (((1:Nat):Int)).toNat=1 from rfl,show (((1-1:Nat):Int)).toNat=0 from rfl] at h ⊢
  by_cases hc:64<=(p-1) / 2^1
  ·rw[if_pos hc] at h;cases h
  ·rw[if_neg (by omega),if_pos (by omega)]
 ·simp only[show (((2:Nat):Int)).toNat=2 from rfl,show (((2-1:Nat):Int)).toNat=1 from rfl] at h ⊢
  by_cases hc:64<=(p-1) / 2^2
  ·rw[if_pos hc] at h;cases h
  ·rw[if_neg (by omega),if_pos (by omega)]
 ·simp only[show (((3:Nat):Int)).toNat=3 from rfl,show (((3-1:Nat):Int)).toNat=2 from rfl] at h ⊢
  by_cases hc:64<=(p-1) / 2^3
  ·rw[if_pos hc] at h;cases h
  ·rw[if_neg (by omega),if_pos (by omega)]
theorem jmH {c level:Nat} (h3:level<=3) (h:c*2^level=32):(level=0/\c=32)\/(level=1/\c=16)\/(level=2/\c=8)\/(level=3/\c=4):=by
 rcases (by omega:level=0\/level=1\/level=2\/level=3) with rfl | rfl | rfl | rfl<;>simp only[Nat.reducePow] at h<;>omega
theorem jh6 (b:Nat) (hb:b<=8):∀ (l r:List Nat),(∀ i,r.getD i 0<=65-b)->∀ i,(jct b r l).getD i 0<=65-b
 | [],_,h=>h
 | x::l,r,h=>jh6 b hb l _ (jm9 r _ _ _ h (ji3 b x hb))
theorem ji2 (b m:Nat):∀ i,(jaY b).getD i 0<=m:=fun i=>by
 unfold jaY;rw[List.getD_eq_getElem?_getD,List.getElem?_replicate];split<;>simp
theorem jpi (b:Nat) (h1:4<=b) (h2:b<=8) (r:List Nat) (h:∀ i,r.getD i 0<=65-b):∀ i,(jeo b r).getD i 0<=65-(b-1):=fun i=>by
 by_cases hi:i<2^(b-1)
 ·rw[jqc _ _ _ hi]
  have g1:=h (2*i);have g2:=jq4 (r.getD (2*i+1) 0);have g3:upR (r.getD (2*i) 0)<=r.getD (2*i) 0+1:=by unfold upR;split<;>omega
  omega
 ·rw[List.getD_eq_getElem?_getD,List.getElem?_eq_none (by rw[jgc];omega)]
  simp
theorem je8:∀ (l a:List (Int × Int)) (x:Int × Int),x∈jbn a l->x∈a\/(∃ y∈a,x.1=y.1)\/∃ y∈l,x.1=y.1
 | [],_,_,h=>.inl h
 | b::l,a,x,h=>by
  rcases je8 l (jaF a b.1 b.2) x h with h | ⟨y,hy,e⟩ | ⟨y,hy,e⟩
  ·rcases jd3 _ _ _ x h with e | h
   ·exact .inr (.inr ⟨b,List.mem_cons_self,e⟩)
   ·exact .inl h
  ·rcases jd3 _ _ _ y hy with e2 | h
   ·exact .inr (.inr ⟨b,List.mem_cons_self,e.trans e2⟩)
   ·exact .inr (.inl ⟨y,h,e⟩)
  ·exact .inr (.inr ⟨y,List.mem_cons_of_mem _ hy,e⟩)
theorem jeC {k L:Nat} {b:Bd} (hb:b.Ok k L) (hL:L<jdr k):b.low.Ok k (L+1):=by
 cases b with
 | num l =>
  obtain⟨h1,h2,h3,h4,h5⟩:=hb;subst h1;subst h2;exact⟨rfl,by omega,by omega,by omega,by rw[jdO];simp[jaY],jh6 7 (by omega) _ _ (ji2 7 _)⟩
 | reg b r =>
  obtain⟨h1,h2,h3,h4,h5,h6⟩:=hb;subst h1;have hL4:L<4:=hL;exact⟨rfl,by omega,by omega,by omega,by rw[jgc],jpi b (by omega) (by omega) r h6⟩
 | cnt c l =>
  obtain⟨h1,h2,h3,h4,h5⟩:=hb;subst h1;have hL3:L<3:=hL;refine⟨rfl,by omega,?_,by rw[jeF],jmG c l h5⟩;rcases jmH h2 h3 with⟨rfl,rfl⟩ | ⟨rfl,rfl⟩ | ⟨rfl,rfl⟩ | ⟨rfl,rfl⟩<;>first | rfl | omega
 | bkt f l =>
  obtain⟨h1,h2,h3,h4,h5,h6,h7⟩:=hb;subst h1;have hL3:L<3:=hL;obtain⟨g1,g2⟩:=jeM h5 h6;refine⟨rfl,by omega,by omega,?_,jlH,jht (jd6 _ [] (fun b hb=>by cases hb) g2),?_⟩
  ·exact jga (jgb _ [] List.Pairwise.nil)
  ·intro x hx
   rcases je8 _ _ x (List.mem_filter.1 hx).1 with h | ⟨y,hy,e⟩ | ⟨y,hy,e⟩
   ·cases h
   ·cases hy
   ·obtain⟨z,hz,rfl⟩:=List.mem_map.1 hy
    rw[e];exact jjW f (by omega) (by omega) z.1 (h7 z hz)
theorem jny {k L:Nat} {b:Bd} (hb:b.Ok k L):L<=jdr k:=by
 cases b with
 | num l=>obtain⟨h1,h2,-⟩:=hb;subst h1;subst h2;decide
 | reg b r=>obtain⟨h1,h2,h3,-⟩:=hb;subst h1;exact h3
 | cnt c l=>obtain⟨h1,h2,-⟩:=hb;subst h1;exact h2
 | bkt f l=>obtain⟨h1,h2,-⟩:=hb;subst h1;exact h2
theorem jog {s:Nat × Bd} {t:Nat} (h:t<=s.1):jdG s t=s:=by
 unfold jdG;rw[show t-s.1=0 by omega];rfl
theorem jpY {s:Nat × Bd} {t:Nat} (h:s.1<t):jdG s t=jdG (jme s) t:=by
 unfold jdG;rw[show t-s.1=(t-(s.1+1))+1 by omega];rfl
theorem jkJ {k:Nat} (t:Nat) (ht:t<=jdr k):∀ (m:Nat) (s:Nat × Bd),t-s.1=m->s.2.Ok k s.1->(jdG s t).2.Ok k (jdG s t).1/\(jdG s t).1=max s.1 t:=by
 intro m
 induction m with
 | zero=>intro s hm hs;rw[jog (by omega)];exact⟨hs,by omega⟩
 | succ m ih =>
  intro s hm hs;rw[jpY (by omega)];have h:=ih (jme s) (by show t-(s.1+1)=m;omega) (jeC hs (by omega));exact⟨h.1,by rw[h.2];show max (s.1+1) t=_;omega⟩
def jjS (k:Nat):Bd:=if k=1 then .num [] else if k=2 then .cnt 32 (jp7 32) else .bkt 3 []
theorem jkN (k:Nat) (h:k=1\/k=2\/k=3):(jjS k).Ok k 0:=by
 rcases h with rfl | rfl | rfl
 ·exact⟨rfl,rfl,List.Pairwise.nil,by simp,fun n hn=>by cases hn⟩
 ·refine⟨rfl,by omega,rfl,by simp[jp7],fun n hn=>?_⟩
  rw[List.eq_of_mem_replicate hn];exact jnZ
 ·exact⟨rfl,by omega,rfl,List.Pairwise.nil,(fun b hb=>by cases hb),(fun b hb=>by cases hb),fun b hb=>by cases hb⟩
end Go.Proofs.YtieknocphiceoaaGreatDoor
namespace Go.Proofs.YtieknocphiceoaaGreatDoor
open Go Go.RowKit Go.Shelf
attribute [local go_sem] Oper.semAt_some
set_option maxRecDepth 100000 in
set_option maxHeartbeats 1000000 in
theorem jhT (b:Nat) (x y:Int) (w:World) (h0:w.cell? ⟨b,0,none⟩=some (.int .u64 x)) (h1:w.cell? ⟨b,1,none⟩=some (.int .u64 y)) (hx:U64 x) (hy:U64 y) :
  Calls Tryz.prog 297 #[.slice (some ⟨b,0,none⟩) 2 2] w fun e w'=>e=.returned (.int .u64 (jdl x y))/\w'=w:=by
 obtain⟨x0,x1⟩:=hx;obtain⟨y0,y1⟩:=hy;have t0:decide (18446744073709551615<x)=false:=by simp;omega
 by_cases hc:18446744073709551615-x<y
 ·have hs:jdl x y=18446744073709551615:=by unfold jdl;rw[if_pos hc]
  rw[hs];have t1:decide (18446744073709551615-x<y)=true:=by simpa using hc
  go_enter Tryz.func297,Tryz.ntmps297;go_wp2_with fail;refine wp_loop_rounds 3 ?_;rw[rounds_succ];go_wp2_with fail;rw[rounds_succ];go_wp2_with fail;go_ret;exact⟨rfl,rfl⟩
 ·have hs:jdl x y=x+y:=by unfold jdl;rw[if_neg hc]
  rw[hs];have t1:decide (18446744073709551615-x<y)=false:=by simpa using hc
  go_enter Tryz.func297,Tryz.ntmps297;go_wp2_with fail;refine wp_loop_rounds 3 ?_;rw[rounds_succ];go_wp2_with fail;rw[rounds_succ];go_wp2_with fail;rw[rounds_succ];go_wp2_with fail;go_ret;exact⟨rfl,rfl⟩
theorem jn0 (n:Int) (h0:0<=n) (h1:n<18446744073709551616):IntKind.u64.wrap n=n:=by simp[IntKind.wrap,IntKind.bits,IntKind.signed];omega
theorem jjQ (r c:Int) (v:Value) (w:World) :
  Calls Tryz.prog 295 #[.agg #[.int .i64 r,.int .i64 c,v]] w fun e w'=>e=.returned (.func (.func 300) #[] #[.pointer (some ⟨w.heap.size,0,none⟩)])/\w'=w.alloc (.cells #[.int .i64 r,.int .i64 c,v] 161):=by
 go_enter Tryz.func295,Tryz.ntmps295;go_wp2;go_ret;exact⟨rfl,rfl⟩
set_option maxRecDepth 100000 in
set_option maxHeartbeats 1000000 in
theorem jsC (l wb:Nat) (r c:Int) (sa:Option Addr) (N cap:Nat) (hN:N<=1000) (J Jx:List (Fin N)->World->Prop)
  (hY:∀ pre x W,J pre W->pre.length<N->YieldAt Fence.wide 7 Tryz.prog l #[.int .i64 (x.1:Nat)] W fun e W' =>
   (e=.returned (.bool true)/\J (pre++[x]) W'/\KL [wb] W W')\/(e=.returned (.bool false)/\Jx (pre++[x]) W'))
  (W:World) (hb:W.heap[wb]? = some (.cells #[.int .i64 r,.int .i64 c,.slice sa N cap] 161 (0,0))) (h0:J [] W) :
  CallsIn Fence.wide 8 Tryz.prog 300 #[.func (.yield l) #[] #[],.pointer (some ⟨wb,0,none⟩)] W fun e W'=>(∃ v,e=.returned v) /\
   ((∃ ys,ys=List.finRange N/\J ys W')\/(∃ pre,pre <+: List.finRange N/\Jx pre W')):=by
 refine callsIn_of_wp Tryz.func300 rfl trivial ?_ rfl;simp only[Tryz.ntmps300,List.size_toArray,List.length_cons,List.length_nil,Nat.reduceAdd,Nat.reduceSub,Array.replicate_succ,Array.replicate_zero,List.push_toArray,List.append_toArray,List.nil_append,List.cons_append];have c2:W.cell? ⟨wb,2,none⟩=some (.slice sa N cap):=cCc hb 2;gi_wp2;gi_loopw [3,8] (fun _ i wr=>∃ k:Nat,k<=N/\i=.int .i64 k/\J ((List.finRange N).take k) wr/\KL [wb] W wr) (fun _ i _=>N-(intOf i).toNat)
 case atStart=>exact⟨0,Nat.zero_le _,rfl,h0,KL.refl _ _⟩
 case round =>
  obtain⟨k,hk,rfl,hJs,hnx⟩:=hrel;by_cases hlt:k<N
  ·have hx:(List.finRange N)[k]? = some ⟨k,hlt⟩:=by rw[List.getElem?_eq_getElem (by simpa using hlt)];simp
   obtain⟨fn,tmps,assign,body,hy,hR⟩:=hY _ ⟨k,hlt⟩ _ hJs (by rw[List.length_take,List.length_finRange];omega);have HX:=Lib.hid hx;clear hx;gi_wp2;refine hR.mono ?_;rintro e W3 (⟨rfl,hJ3,hk3⟩ | ⟨rfl,hJx3⟩)
   ·gi_wp2
    go_roundw
    case rel=>exact⟨k+1,by omega,by simp,by rw[jan HX.out];exact hJ3,hnx.trans hk3⟩
    case measure=>simp[intOf];omega
   ·gi_wp2
    refine bodyPost_ret (results_none rfl _ _ _) rfl ?_;exact⟨⟨_,rfl⟩,.inr ⟨_,by have h:=List.take_prefix (k+1) (List.finRange N);rwa [jan HX.out] at h,hJx3⟩⟩
  ·obtain rfl:k=N:=by omega
   gi_wp2
   go_end0;exact⟨⟨_,rfl⟩,.inl ⟨_,List.take_of_length_le (by simp),hJs⟩⟩
theorem jqx (wb:Nat) (r c:Int) (sa:Option Addr) (N cap:Nat) (hN:N<=1000) (w:World) (hb:w.heap[wb]? = some (.cells #[.int .i64 r,.int .i64 c,.slice sa N cap] 161 (0,0))) :
  SeqStopsK Fence.wide 8 Tryz.prog 300 #[.pointer (some ⟨wb,0,none⟩)] (fun x:Fin N=>#[.int .i64 (x.1:Nat)]) (KL [wb]) (fun ys=>ys=List.finRange N) (fun pre=>pre <+: List.finRange N) N w:=fun l J Jx W hW _ _ hY h0 =>
 jsC l wb r c sa N cap hN J Jx hY W (jak hW (Nat.le_refl _) hb) h0
end Go.Proofs.YtieknocphiceoaaGreatDoor
namespace Go.Proofs.YtieknocphiceoaaGreatDoor
open Go Go.RowKit Go.Shelf
set_option maxRecDepth 100000 in
set_option maxHeartbeats 1000000 in
theorem jh8 (b:Nat) (x y:Int) (w:World) (h0:w.cell? ⟨b,0,none⟩=some (.int .u64 x)) (h1:w.cell? ⟨b,1,none⟩=some (.int .u64 y)) (hx:U64 x) (hy:U64 y) :
  Calls Tryz.prog 314 #[.slice (some ⟨b,0,none⟩) 2 2] w fun e w'=>e=.returned (.int .u64 (jdl x y))/\w'=w:=by
 obtain⟨x0,x1⟩:=hx;obtain⟨y0,y1⟩:=hy;have t0:decide (18446744073709551615<x)=false:=by simp;omega
 by_cases hc:18446744073709551615-x<y
 ·have hs:jdl x y=18446744073709551615:=by unfold jdl;rw[if_pos hc]
  rw[hs];have t1:decide (18446744073709551615-x<y)=true:=by simpa using hc
  go_enter Tryz.func314,Tryz.ntmps314;go_wp2_with fail;refine wp_loop_rounds 3 ?_;rw[rounds_succ];go_wp2_with fail;rw[rounds_succ];go_wp2_with fail;go_ret;exact⟨rfl,rfl⟩
 ·have hs:jdl x y=x+y:=by unfold jdl;rw[if_neg hc]
  rw[hs];have t1:decide (18446744073709551615-x<y)=false:=by simpa using hc
  go_enter Tryz.func314,Tryz.ntmps314;go_wp2_with fail;refine wp_loop_rounds 3 ?_;rw[rounds_succ];go_wp2_with fail;rw[rounds_succ];go_wp2_with fail;rw[rounds_succ];go_wp2_with fail;go_ret;exact⟨rfl,rfl⟩
theorem jkj (A M:Nat):A % M*2 % M=A*2 % M:=by rw[Nat.mul_mod (A % M) 2 M,Nat.mod_mod,<- Nat.mul_mod]
theorem jsj (b f v:Nat) (hb:b<=63) (hf:f<=3):wrap64 (wrap64 (1+wrap64 ((b:Int)*2^f))+wrap64 (IntKind.u64.wrap (IntKind.u64.wrap ((v:Int)*2^(63-b))*2) / 2^(64-f)))=1+((b*2^f+v*2^(64-b) % 2^64 / 2^(64-f):Nat):Int):=by
 have e1:((v:Int)*2^(63-b))=((v*2^(63-b):Nat):Int):=by simp
 have e2:v*2^(64-b)=v*2^(63-b)*2:=by rw[Nat.mul_assoc,<- Nat.pow_succ,show (63-b).succ=64-b by omega]
 rw[e1,e2,jd2];generalize v*2^(63-b)=A;have e3:((A % 2^64:Nat):Int)*2=((A % 2^64*2:Nat):Int):=(Int.natCast_mul _ 2).symm;rw[e3,jd2,jkj];have hO:A*2 % 2^64<2^64:=Nat.mod_lt _ (Nat.two_pow_pos 64);generalize A*2 % 2^64=O at hO ⊢
 have hq:O / 2^(64-f)<2^f:=by
  rw[Nat.div_lt_iff_lt_mul (Nat.two_pow_pos _),<- Nat.pow_add,show f+(64-f)=64 by omega];exact hO
 have e4:(O:Int) / 2^(64-f)=((O / 2^(64-f):Nat):Int):=by rw[Int.natCast_ediv,Int.natCast_pow];rfl
 have e5:(b:Int)*2^f=((b*2^f:Nat):Int):=by rw[Int.natCast_mul,Int.natCast_pow];rfl
 rw[e4,e5];have h8:2^f<=2^3:=Nat.pow_le_pow_right (by omega) hf;have h9:b*2^f<=63*2^3:=Nat.mul_le_mul hb h8;generalize O / 2^(64-f)=q at hq ⊢;generalize b*2^f=m at h9 ⊢;generalize 2^f=z at hq h8;rw[jbl m (by omega),jbl q (by omega),show (1+(m:Int))=((1+m:Nat):Int) by omega,jbl (1+m) (by omega),show (((1+m:Nat):Int)+(q:Int))=((1+m+q:Nat):Int) by omega,jbl (1+m+q) (by omega)];omega
theorem ji4 (f:Nat) (hf:f<=3) (w:World):Calls Tryz.prog 218 #[.int .i64 f] w fun e w'=>e=.returned (.bool true)/\w'=w:=(jai f w).mono fun e w' ⟨h1,h2⟩=>⟨by rw[h1,jbX f hf],h2.symm⟩
set_option maxRecDepth 100000 in
set_option maxHeartbeats 1000000 in
theorem jlp (f:Nat) (v:Nat) (w:World) (hf:f<=3) (hv:v<2^64):Calls Tryz.prog 311 #[.int .i64 f,.int .u64 v] w fun e w'=>e=.returned (.int .i64 (jgT f v))/\Below w.heap.size w w':=by
 have hib:=ji4 f hf;by_cases h0:v=0
 ·subst h0
  go_enter Tryz.func311,Tryz.ntmps311;go_wp2_with (first | (go_at_call 218;refine (hib _).mono ?_;rintro e w' ⟨rfl,rfl⟩) | fail);go_ret;exact⟨rfl,Below.refl _ _⟩
 ·have hL:=Tryz.bits_Len64 (v:Int) w (by omega) (by omega)
  rw[Int.toNat_natCast] at hL;have hlen:=jeE v hv h0;have hlen1:=(jcJ v hv h0).1;have t0:((v:Int)==0)=false:=by rw[beq_eq_false_iff_ne];omega
  have hB:jgT f v=1+((Lib.bitLen v-1)*2^f+v*2^(64-(Lib.bitLen v-1)) % 2^64 / 2^(64-f):Nat):=by
   unfold jgT;rw[if_neg h0,Int.toNat_natCast]
  obtain⟨b,hb⟩:∃ b,Lib.bitLen v=b+1:=⟨Lib.bitLen v-1,by omega⟩;rw[hb] at hL hlen hB;have HB:=Lib.hid hB;have HQ:=Lib.hid (jsj b f v (by omega) hf);clear hB hb hlen1 h0;go_enter Tryz.func311,Tryz.ntmps311;go_wp2_with (first | (go_at_call 218;refine (hib _).mono ?_;rintro e w' ⟨rfl,rfl⟩) | (go_at_call 278;refine hL.mono ?_;rintro e w' ⟨rfl,rfl⟩) | fail);go_quiet (fail);go_wp2_with fail;go_ret;exact⟨by rw[HB.out,Nat.add_sub_cancel,<- HQ.out];rfl,bDr (Below.refl _ _) _⟩
end Go.Proofs.YtieknocphiceoaaGreatDoor
namespace Go.Proofs.YtieknocphiceoaaGreatDoor
open Go Go.RowKit
def Bd.wide:Bd->Prop
 | .num _=>False
 | _=>True
end Go.Proofs.YtieknocphiceoaaGreatDoor
