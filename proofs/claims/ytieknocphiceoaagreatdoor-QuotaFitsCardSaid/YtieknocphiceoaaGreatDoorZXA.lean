/- slices.Clone at []uint64, []api.Bin, []api.Label: printed by wip/tools/gen_x5.py. Package exact: Right, Same; slices.Equal and slices.Clone at []uint64. slices.Equal at []uint64; exact.Same, cms.Same, hist.Same: printed by wip/tools/gen_x7.py. An address moved on, as a slice expression moves it. Of no program. Package exact: with. slices.Values at uint64; package exact: each; a copy of numbers. Package hist: Same. Packages cms, hll, hist: shapes; cms.Right; hist.Bounds. Packages hist, cms: Bounds whole, Right. -/
import Derived.Test.YtieknocphiceoaaGreatDoorProg
import Derived.Lib.SliceRun
import Derived.Shelf.SlSorted.Search
import Derived.ArgAppend
import Derived.Laws.CopyRow
import Derived.Laws.CopyOwn
import Derived.Laws.Tables
import Derived.Laws.BitsAllLaws
import Derived.Test.YtieknocphiceoaaGreatDoorZE0
namespace Go.Proofs.YtieknocphiceoaaGreatDoor
open Go Go.RowKit
theorem jiA:Tryz.prog.underlying 39=some (.slice 55):=by kernel_rfl
theorem jh9:(Tryz.prog.info? 55).map (fun i=>(i.zero,i.size,i.bytes))=some (some (.int .u64 0),1,8):=by kernel_rfl
theorem jlA (a:Option Addr) (n c:Nat) (w:World):(binOp .eql 39 (.slice a n c) (.slice none 0 0)).run Tryz.prog w=.ok (.bool a.isNone) w:=Lib.run_eql_slice_nil w _ _ a n c 0 0 jiA
theorem jq5 (x:Int):∀ u∈jbH x,u.oneCell'=true:=by
 intro u hu;simp only[jbH,List.mem_cons,List.not_mem_nil,or_false] at hu;rcases hu with rfl<;>rfl
set_option maxHeartbeats 1000000 in
theorem jde (a:Option Addr) (len cap:Nat) (l:List Int) (w:World) (hL:SlE jbH 1 w.heap.size w a len l) (hll:len<2147483648) :
  Calls Tryz.prog 86 #[.slice a len cap] w fun e w'=>∃ a' cap',e=.returned (.slice a' len cap')/\SlC jbH 1 w'.heap.size w' a' len cap' l/\(∀ x,a'=some x->w.heap.size<=x.block)/\Below w.heap.size w w':=by
 have he:=jlA a len cap;have hlen:=hL.1
 cases a with
 | none =>
  have hl0:l=[]:=by
   cases l with
   | nil=>rfl
   | cons y ys=>obtain⟨b,off,e,_⟩:=hL.2 0 y rfl;cases e
  subst hl0;obtain rfl:len=0:=hlen;clear hL;go_enter Tryz.func86,Tryz.ntmps86;go_wp2_with fail;go_ret;exact⟨none,0,rfl,SlC.nil,(fun x h=>by cases h),Below.refl _ _⟩
 | some a =>
  have hB1:Below w.heap.size w (w.alloc (.cells #[] 55)):=(Below.refl _ w).alloc (Nat.le_refl _) _;have hown:(w.alloc (.cells #[] 55)).ownsRow w.heap.size 55 1 (.slice (some ⟨w.heap.size,0,none⟩) 0 0) 0 []:=⟨rfl,.inr ⟨w.heap.size,0,#[],rfl,Nat.le_refl _,World.alloc_heap_new _ _,Nat.le_refl _,by unfold maxLen;omega,rfl,rfl⟩⟩;have hL1:=hL.go hB1;obtain⟨v4,w4,hap4,hown4,hB4,hz4,-,-⟩:=jaW Tryz.prog (cap:=cap) 39 jiA jh9 rfl (by decide) hown hB1 (Nat.le_refl _) (by simp) (fun _=>rfl) hL1 jq5 (by omega) hll (by decide);rw[Nat.zero_add,List.nil_append,hlen] at hown4;obtain⟨a4,c4,hv4,hs4,hb4⟩:=jaE (enc:=jbH) (fun _=>rfl) hown4;have HS:Hid (SlC jbH 1 w4.heap.size w4 a4 len c4 l):=by rw[Hid,hlen];exact hs4
  rw[<- hlen] at hv4;subst hv4;clear hL hL1 hown hs4 hown4 hlen;go_enter Tryz.func86,Tryz.ntmps86;go_wp2_with (at_builtin;refine jcw rfl _ _ _ rfl rfl rfl hap4 ?_);go_ret;exact⟨_,_,rfl,HS.out,hb4,hB4⟩
theorem jco:Tryz.prog.underlying 46=some (.slice 118):=by kernel_rfl
theorem jcq:(Tryz.prog.info? 118).map (fun i=>(i.zero,i.size,i.bytes))=some (some (.agg #[.int .i64 0,.int .u64 0]),2,16):=by kernel_rfl
theorem jly (a:Option Addr) (n c:Nat) (w:World):(binOp .eql 46 (.slice a n c) (.slice none 0 0)).run Tryz.prog w=.ok (.bool a.isNone) w:=Lib.run_eql_slice_nil w _ _ a n c 0 0 jco
theorem jc9 (x:(Int × Int)):∀ u∈jb5 x,u.oneCell'=true:=by
 intro u hu;simp only[jb5,List.mem_cons,List.not_mem_nil,or_false] at hu;rcases hu with rfl | rfl<;>rfl
set_option maxHeartbeats 1000000 in
theorem jf2 (a:Option Addr) (len cap:Nat) (l:List (Int × Int)) (w:World) (hL:SlE jb5 2 w.heap.size w a len l) (hll:len<2147483648) :
  Calls Tryz.prog 87 #[.slice a len cap] w fun e w'=>∃ a' cap',e=.returned (.slice a' len cap')/\SlC jb5 2 w'.heap.size w' a' len cap' l/\(∀ x,a'=some x->w.heap.size<=x.block)/\Below w.heap.size w w':=by
 have he:=jly a len cap;have hlen:=hL.1
 cases a with
 | none =>
  have hl0:l=[]:=by
   cases l with
   | nil=>rfl
   | cons y ys=>obtain⟨b,off,e,_⟩:=hL.2 0 y rfl;cases e
  subst hl0;obtain rfl:len=0:=hlen;clear hL;go_enter Tryz.func87,Tryz.ntmps87;go_wp2_with fail;go_ret;exact⟨none,0,rfl,SlC.nil,(fun x h=>by cases h),Below.refl _ _⟩
 | some a =>
  have hB1:Below w.heap.size w (w.alloc (.cells #[] 118)):=(Below.refl _ w).alloc (Nat.le_refl _) _;have hown:(w.alloc (.cells #[] 118)).ownsRow w.heap.size 118 2 (.slice (some ⟨w.heap.size,0,none⟩) 0 0) 0 []:=⟨rfl,.inr ⟨w.heap.size,0,#[],rfl,Nat.le_refl _,World.alloc_heap_new _ _,Nat.le_refl _,by unfold maxLen;omega,rfl,rfl⟩⟩;have hL1:=hL.go hB1;obtain⟨v4,w4,hap4,hown4,hB4,hz4,-,-⟩:=jaW Tryz.prog (cap:=cap) 46 jco jcq rfl (by decide) hown hB1 (Nat.le_refl _) (by simp) (fun _=>rfl) hL1 jc9 (by omega) hll (by decide);rw[Nat.zero_add,List.nil_append,hlen] at hown4;obtain⟨a4,c4,hv4,hs4,hb4⟩:=jaE (enc:=jb5) (fun _=>rfl) hown4;have HS:Hid (SlC jb5 2 w4.heap.size w4 a4 len c4 l):=by rw[Hid,hlen];exact hs4
  rw[<- hlen] at hv4;subst hv4;clear hL hL1 hown hs4 hown4 hlen;go_enter Tryz.func87,Tryz.ntmps87;go_wp2_with (at_builtin;refine jcw rfl _ _ _ rfl rfl rfl hap4 ?_);go_ret;exact⟨_,_,rfl,HS.out,hb4,hB4⟩
theorem jli {n₀:Nat} {w:World} {a:Option Addr} {len:Nat} {l:List Int} (h:SlE jbH 1 n₀ w a len l) {j:Nat} (hj:j<len):∃ x b off,l[j]? = some x/\a=some ⟨b,off,none⟩/\b<n₀/\w.cell? ⟨b,off+j,none⟩=some (.int .u64 x):=by
 obtain⟨x,b,off,hx,e,hb,hc⟩:=h.at hj;have:=hc 0 (by omega);rw[Nat.mul_one,Nat.add_zero] at this;exact⟨x,b,off,hx,e,hb,this⟩
set_option maxRecDepth 100000 in
set_option maxHeartbeats 2000000 in
theorem jf5 (l:List Int) (a:Option Addr) (len cap:Nat) (w:World) (hL:SlE jbH 1 w.heap.size w a len l) :
  Calls Tryz.prog 199 #[.agg #[.slice a len cap]] w fun e w'=>e=.returned (.bool (ja9 l))/\Below w.heap.size w w':=by
 have HL:=Lib.hid hL.1;have hB0:Below w.heap.size w (w.alloc (.cells #[.slice a len cap] 41)):=(Below.refl _ w).alloc (Nat.le_refl _) _;by_cases h64:len<=64
 ·have t1:decide ((64:Int)<len)=false:=by simp;omega
  have HR:Hid (ja9 l=(jbM jcB none l).isSome):=by simp only[Hid,ja9];rw[decide_eq_true (by rw[<- HL.out];exact h64)];simp
  have hL0:=hL.below hB0;have c0:(w.alloc (.cells #[.slice a len cap] 41)).cell? ⟨w.heap.size,0,none⟩=some (.slice a len cap):=cCc (World.alloc_heap_new w (.cells #[.slice a len cap] 41)) 0;go_enter Tryz.func199,Tryz.ntmps199;go_wp2_with fail;generalize hW:w.alloc (.cells #[.slice a len cap] 41)=W0 at hB0 hL0 c0 ⊢;clear hW hL;go_loop [12] (fun i=>∃ (k:Nat) (st:Option Int),i=.int .i64 k/\k<=len/\Hid (jbM jcB none (l.take k)=some st)) (fun i=>len-(intOf i).toNat)
  case atStart=>exact⟨0,none,rfl,Nat.zero_le _,rfl⟩
  case round =>
   obtain⟨k,st,rfl,hk,HF⟩:=hrel;by_cases hlt:k<len
   ·obtain⟨x,b,off,hx,ea,hb,hc⟩:=jli hL0 hlt
    subst ea;have HS:=Lib.hid (jhr hx HF.out);have HX:=Lib.hid hx;rcases Nat.eq_zero_or_pos k with h0 | hpos
    ·subst h0
     rw[Nat.add_zero] at hc;clear hx;go_wp2_with fail;go_round
     case rel=>exact⟨1,some x,rfl,by omega,by have h1:=HS.out;have h2:=HF.out;simp[jeL] at h2;subst h2;exact Lib.hid (by simpa [jcB] using h1)⟩
     case measure=>simp[intOf];omega
    ·obtain⟨y,b',off',hy,ea',hb',hc'⟩:=jli hL0 (show k-1<len by omega)
     injection ea' with e1
     injection e1 with e1 e2
     subst e1;subst e2
     have hst:Hid (st=some y):=by
      have h1:=jj1 _ _ _ HF.out;rw[List.getLast?_eq_getElem?] at h1;have h2:(l.take k).length=k:=by rw[List.length_take,<- HL.out];omega
      rw[h2,List.getElem?_take_of_lt (by omega),hy] at h1;exact h1
     have t3:decide ((0:Int)<(k:Int))=true:=by simp;omega
     have i1:(1:Int)<=(k:Int):=by omega
     clear hx hy;by_cases hle:x<=y
     ·go_wp2_with fail
      go_ret;have h9:jbM jcB none l=none:=jhq (k:=k+1) (by rw[HS.out,hst.out];simp[jcB,hle]);exact⟨by rw[HR.out,h9];rfl,hB0⟩
     ·go_wp2_with fail
      go_round
      case rel=>exact⟨k+1,some x,by go_num,by omega,by rw[Hid,HS.out,hst.out];simp[jcB,hle]⟩
      case measure=>simp[intOf];omega
   ·obtain rfl:k=len:=by omega
    go_wp2_with fail;go_ret;have h9:=HF.out;rw[List.take_of_length_le (by rw[<- HL.out];omega)] at h9;exact⟨by rw[HR.out,h9];rfl,hB0⟩
 ·have t1:decide ((64:Int)<len)=true:=by simp;omega
  have HR:Hid (ja9 l=false):=by simp only[Hid,ja9];rw[decide_eq_false (by rw[<- HL.out];exact h64)];simp
  clear hL;go_enter Tryz.func199,Tryz.ntmps199;go_wp2_with fail;go_ret;exact⟨by rw[HR.out];rfl,hB0⟩
theorem bDr {B:Nat} {w w':World} (h:Below B w w'):∀ n,Below B w (w'.drewN n)
 | 0=>h
 | n+1=>(bDr h n).drew
set_option maxRecDepth 100000 in
set_option maxHeartbeats 1000000 in
theorem jiV (a1:Option Addr) (len1 cap1:Nat) (l1:List Int) (a2:Option Addr) (len2 cap2:Nat) (l2:List Int) (w:World) (h1:SlE jbH 1 w.heap.size w a1 len1 l1) (h2:SlE jbH 1 w.heap.size w a2 len2 l2) (hm:len1<=maxLen) :
  Calls Tryz.prog 166 #[.slice a1 len1 cap1,.slice a2 len2 cap2] w fun e w'=>e=.returned (.bool (l1==l2))/\Below w.heap.size w w':=by
 have e1:=h1.1;have e2:=h2.1;unfold maxLen at hm;by_cases hl:len1=len2
 ·subst hl
  have t0:((len1:Int) != (len1:Int))=false:=by simp
  have E1:=Lib.hid e1;have E2:=Lib.hid e2;clear e1 e2;go_enter Tryz.func166,Tryz.ntmps166;go_wp2_with fail;go_loopw [5,13] (fun _ i wr=>∃ (k:Nat),i=.int .i64 k/\k<=len1/\Below w.heap.size w wr/\Hid (l1.take k=l2.take k)) (fun _ i _=>len1-(intOf i).toNat)
  case atStart=>exact⟨0,rfl,Nat.zero_le _,Below.refl _ _,rfl⟩
  case round =>
   obtain⟨k,rfl,hk,hB,HF⟩:=hrel;by_cases hlt:k<len1
   ·obtain⟨x,b1,o1,hx,ea1,hb1,hc1⟩:=(h1.below hB).at hlt
    obtain⟨y,b2,o2,hy,ea2,hb2,hc2⟩:=(h2.below hB).at hlt;subst ea1;subst ea2;have c1:wr.cell? ⟨b1,o1+k,none⟩=some (.int .u64 x):=by have:=hc1 0 (by omega);rwa [Nat.mul_one,Nat.add_zero] at this
    have c2:wr.cell? ⟨b2,o2+k,none⟩=some (.int .u64 y):=by have:=hc2 0 (by omega);rwa [Nat.mul_one,Nat.add_zero] at this
    have i0:(0:Int)<=(k:Int):=by omega
    have i1:(k:Int)<(len1:Int):=by omega
    have HX:=Lib.hid hx;have HY:=Lib.hid hy;clear hc1 hc2 hx hy h1 h2;by_cases hxy:x=y
    ·have t1:(x != y)=false:=by simp[hxy]
     have HXY:Hid (x=y):=hxy;clear hxy;go_wp2_with fail;go_quiet (fail);go_wp2_with fail;go_roundw
     case rel=>exact⟨k+1,by go_num,by omega,bDr hB _,by rw[Hid,jan HX.out,jan HY.out,HF.out,HXY.out]⟩
     case measure=>simp[intOf];omega
    ·have t1:(x != y)=true:=by simp[hxy]
     have HXY:Hid (¬ x=y):=hxy;clear hxy;go_wp2_with fail;go_quiet (fail);go_wp2_with fail;go_ret
     have hne:(l1==l2)=false:=by
      rw[beq_eq_false_iff_ne];intro e;have hx:=HX.out;rw[e,HY.out] at hx;exact HXY.out (Option.some.inj hx).symm
     exact⟨by rw[hne];rfl,bDr hB _⟩
   ·obtain rfl:k=len1:=by omega
    clear h1 h2;go_wp2_with fail;go_ret;have h9:=HF.out;rw[List.take_of_length_le (by rw[<- E1.out];omega),List.take_of_length_le (by rw[<- E2.out];omega)] at h9;exact⟨by rw[h9];simp,hB⟩
 ·have t0:((len1:Int) != (len2:Int))=true:=by rw[bne_iff_ne];omega
  have hne:Hid ((l1==l2)=false):=by
   rw[Hid,beq_eq_false_iff_ne];intro e;rw[e,<- e2] at e1;exact hl e1
  clear h1 h2 e1 e2 hl;go_enter Tryz.func166,Tryz.ntmps166;go_wp2_with fail;go_ret;exact⟨by rw[hne.out];rfl,Below.refl _ _⟩
theorem jgX (a1:Option Addr) (len1 cap1:Nat) (l1:List Int) (a2:Option Addr) (len2 cap2:Nat) (l2:List Int) (w:World) (h1:SlE jbH 1 w.heap.size w a1 len1 l1) (h2:SlE jbH 1 w.heap.size w a2 len2 l2) (hm:len1<=maxLen) :
  Calls Tryz.prog 116 #[.agg #[.slice a1 len1 cap1],.agg #[.slice a2 len2 cap2]] w fun e w'=>e=.returned (.bool (l1==l2))/\Below w.heap.size w w':=by
 obtain⟨W0,hW0,hX0,hX1,hB0,hs0⟩:=jaS w #[.slice a1 len1 cap1] 41 #[.slice a2 len2 cap2] 41;have c0:W0.cell? ⟨w.heap.size,0,none⟩=some (.slice a1 len1 cap1):=cCc hX0 0;have c1:W0.cell? ⟨w.heap.size+1,0,none⟩=some (.slice a2 len2 cap2):=cCc hX1 0;have hE:=jiV a1 len1 cap1 l1 a2 len2 cap2 l2 W0 (h1.go hB0) (h2.go hB0) hm;clear h1 h2 hX0 hX1 hs0;go_enter Tryz.func116,Tryz.ntmps116;go_wp2_with fail;refine hE.mono ?_;rintro e w1 ⟨rfl,hb1⟩;clear hW0 hE;go_wp2_with fail;go_ret;exact⟨rfl,hB0.trans (hb1.mono hB0.size)⟩
theorem jiS (r1 k1:Int) (a1:Option Addr) (len1 cap1:Nat) (l1:List Int) (r2 k2:Int) (a2:Option Addr) (len2 cap2:Nat) (l2:List Int) (w:World) (h1:SlE jbH 1 w.heap.size w a1 len1 l1) (h2:SlE jbH 1 w.heap.size w a2 len2 l2) (hm:len1<=maxLen) :
  Calls Tryz.prog 117 #[.agg #[.int .i64 r1,.int .i64 k1,.slice a1 len1 cap1],.agg #[.int .i64 r2,.int .i64 k2,.slice a2 len2 cap2]] w fun e w'=>e=.returned (.bool (r1==r2&&k1==k2&&l1==l2))/\Below w.heap.size w w':=by
 obtain⟨W0,hW0,hX0,hX1,hB0,hs0⟩:=jaS w #[.int .i64 r1,.int .i64 k1,.slice a1 len1 cap1] 45 #[.int .i64 r2,.int .i64 k2,.slice a2 len2 cap2] 45;obtain⟨c0,c1,c2⟩:=cl3 hX0;obtain⟨d0,d1,d2⟩:=cl3 hX1;have hE:=jiV a1 len1 cap1 l1 a2 len2 cap2 l2 W0 (h1.go hB0) (h2.go hB0) hm;clear h1 h2 hX0 hX1 hs0
 cases t1:(r1==r2) with
 | false =>
  go_enter Tryz.func117,Tryz.ntmps117;go_wp2_with fail;go_ret;exact⟨rfl,hB0⟩
 | true =>
  cases t2:(k1==k2) with
  | false =>
   go_enter Tryz.func117,Tryz.ntmps117;go_wp2_with fail;go_ret;exact⟨rfl,hB0⟩
  | true =>
   go_enter Tryz.func117,Tryz.ntmps117;go_wp2_with fail;refine hE.mono ?_;rintro e w1 ⟨rfl,hb1⟩;clear hW0 hE;go_wp2_with fail;go_ret;exact⟨by simp,hB0.trans (hb1.mono hB0.size)⟩
end Go.Proofs.YtieknocphiceoaaGreatDoor
namespace Go.Proofs.YtieknocphiceoaaGreatDoor
open Go Go.RowKit Go.Shelf
def jc6 (a:Option Addr) (cap m k:Nat):Option Addr:=if cap=m then a else a.map (·.add (m*k))
theorem SlC.drop {α:Type} {enc:α->List Value} {k n₀:Nat} {w:World} {a:Option Addr} {len cap:Nat} {l:List α} (hs:SlC enc k n₀ w a len cap l) (m:Nat) (hm:m<=len):SlC enc k n₀ w (jc6 a cap m k) (len-m) (cap-m) (l.drop m):=by
 have hl:=hs.1.1;have hc:=hs.2.1;have hmx:=hs.2.2.1;refine⟨⟨by rw[List.length_drop];omega,fun j x hx=>?_⟩,by omega,by omega,fun h=>?_,fun x hx hpos=>?_⟩
 ·rw[List.getElem?_drop] at hx
  obtain⟨b,off,e,hb,hcell⟩:=hs.1.2 (m+j) x hx;have hlt:=(List.getElem?_eq_some_iff.1 hx).1;refine⟨b,off+m*k,?_,hb,fun i hi=>?_⟩
  ·rw[jc6,if_neg (by omega),e,Option.map_some,jfO rfl]
  ·rw[<- hcell i hi];congr 2;rw[Nat.add_mul];omega
 ·by_cases h0:cap=m
  ·omega
  ·rw[jc6,if_neg h0] at h
   have:=hs.2.2.2.1 (by simpa using h);omega
 ·rw[jc6,if_neg (by omega)] at hx
  cases a with
  | none=>cases hx
  | some z =>
   obtain⟨h1,h2⟩:=hs.2.2.2.2 z rfl (by omega);rw[Option.map_some] at hx;injection hx with hx
   rw[<- hx,jfO h1];exact⟨rfl,h2⟩
theorem jhn (a:Option Addr) (cap k:Nat):jc6 a cap 0 k=a:=by
 unfold jc6;split
 ·rfl
 ·cases a<;>simp[Addr.add]
end Go.Proofs.YtieknocphiceoaaGreatDoor
namespace Go.Proofs.YtieknocphiceoaaGreatDoor
open Go Go.RowKit Go.Shelf
theorem jnC {w:World} {b b' e size n:Nat} {v:Value} {xs:List Value} (h:w.ownsRow b e size v n xs) (hb:b'<=b):w.ownsRow b' e size v n xs :=
 ⟨h.1,h.2.imp id (fun ⟨g,cap,cur,h1,h2,h3⟩=>⟨g,cap,cur,h1,Nat.le_trans hb h2,h3⟩)⟩
attribute [-go_sem] Builtin.append_ run_slice_any run_slice_hm run_slice_l
end Go.Proofs.YtieknocphiceoaaGreatDoor
namespace Go.Proofs.YtieknocphiceoaaGreatDoor
open Go Go.RowKit Go.Shelf
attribute [local go_sem] Oper.semAt_some
theorem jfN (a:Option Addr) (len cap:Nat) (w:World) :
  Calls Tryz.prog 266 #[.slice a len cap] w fun e w'=>e=.returned (.func (.func 271) #[] #[.pointer (some ⟨w.heap.size,0,none⟩)])/\w'=w.alloc (.cells #[.slice a len cap] 39):=by
 go_enter Tryz.func266,Tryz.ntmps266;go_wp2;go_ret;exact⟨rfl,rfl⟩
set_option maxRecDepth 100000 in
set_option maxHeartbeats 1000000 in
theorem jgP (l Bs:Nat) (a:Option Addr) (cap:Nat) (J:List Int->World->Prop) (W:World) (hBs:W.cell? ⟨Bs,0,none⟩=some (.slice a 0 cap)) (h0:J [] W) :
  CallsIn Fence.wide 8 Tryz.prog 271 #[.func (.yield l) #[] #[],.pointer (some ⟨Bs,0,none⟩)] W fun e W'=>(∃ v,e=.returned v)/\J [] W':=by
 refine callsIn_of_wp Tryz.func271 rfl trivial ?_ rfl;simp only[Tryz.ntmps271,List.size_toArray,List.length_cons,List.length_nil,Nat.reduceAdd,Nat.reduceSub,Array.replicate_succ,Array.replicate_zero,List.push_toArray,List.append_toArray,List.nil_append,List.cons_append];gi_wp2;gi_loopw [7] (fun i wr=>i=.int .i64 0/\J [] wr) (fun _ _=>0)
 case atStart=>exact⟨rfl,h0⟩
 case round =>
  obtain⟨rfl,hJs⟩:=hrel;gi_wp2;go_end0;exact⟨⟨_,rfl⟩,hJs⟩
end Go.Proofs.YtieknocphiceoaaGreatDoor
namespace Go.Proofs.YtieknocphiceoaaGreatDoor
open Go Go.RowKit
theorem jeD {n₀:Nat} {w:World} {a:Option Addr} {len:Nat} {l:List (Int × Int)} (h:SlE jb5 2 n₀ w a len l) {j:Nat} (hj:j<len) :
  ∃ x b off,l[j]? = some x/\a=some ⟨b,off,none⟩/\b<n₀/\w.cell? ⟨b,off+j*2,none⟩=some (.int .i64 x.1)/\w.cell? ⟨b,off+j*2+1,none⟩=some (.int .u64 x.2):=by
 obtain⟨x,b,off,hx,e,hb,hc⟩:=h.at hj;exact⟨x,b,off,hx,e,hb,hc 0 (by omega),hc 1 (by omega)⟩
theorem jrJ:Tryz.prog.eqGuardType Tryz.prog.depth 118=false:=by kernel_rfl
theorem jnv (x1 x2 y1 y2:Int) (w:World):(binOp .neq 118 (.agg #[.int .i64 x1,.int .u64 x2]) (.agg #[.int .i64 y1,.int .u64 y2])).run Tryz.prog w=.ok (.bool (!(x1==y1&&x2==y2))) w:=by
 have h1:Tryz.prog.underlying 118=some (.struct (Tryz.prog.fieldsOf 118)):=by kernel_rfl
 have h2:Tryz.prog.stoodInHeld 118=false:=by kernel_rfl
 have h3 : (Tryz.prog.fieldsOf 118).toList = [{ name := "At", type := 3, offset := 0, embedded := false, tag := "", pkgPath := "", byteOffset := 0 }, { name := "N", type := 55, offset := 1, embedded := false, tag := "", pkgPath := "", byteOffset := 8 }] := by kernel_rfl
 rw[run_neq_struct,run_equalIn_agg w 9999 _ _ _ h1 h2,h3]
 cases ha:(x1==y1)<;>cases hb:(x2==y2)<;>simp[go_sem,ha,hb,Tryz.underlying3,Tryz.underlying55]
set_option maxRecDepth 100000 in
set_option maxHeartbeats 1000000 in
theorem jh4 (f1:Int) (a1:Option Addr) (len1 cap1:Nat) (l1:List (Int × Int)) (f2:Int) (a2:Option Addr) (len2 cap2:Nat) (l2:List (Int × Int)) (w:World) (h1:SlE jb5 2 w.heap.size w a1 len1 l1) (h2:SlE jb5 2 w.heap.size w a2 len2 l2) (hm:len1<=maxLen) :
  Calls Tryz.prog 118 #[.agg #[.int .i64 f1,.slice a1 len1 cap1],.agg #[.int .i64 f2,.slice a2 len2 cap2]] w fun e w'=>e=.returned (.bool (f1==f2&&l1==l2))/\Below w.heap.size w w':=by
 unfold maxLen at hm;obtain⟨W0,hW0,hX0,hX1,hB0,hs0⟩:=jaS w #[.int .i64 f1,.slice a1 len1 cap1] 48 #[.int .i64 f2,.slice a2 len2 cap2] 48;obtain⟨c0,c1⟩:=cl2 hX0;obtain⟨d0,d1⟩:=cl2 hX1;have hz0:w.heap.size+1<W0.heap.size:=by omega
 by_cases hf:f1=f2
 ·have t1:(f1 != f2)=false:=by simp[hf]
  have HF1:Hid ((f1==f2)=true):=by simp[Hid,hf]
  clear hf;by_cases hl:len1=len2
  ·subst hl
   have t0:((len1:Int) != (len1:Int))=false:=by simp
   have E1:=Lib.hid h1.1;have E2:=Lib.hid h2.1;have g1:=h1.below hB0;have g2:=h2.below hB0;clear h1 h2 hs0;go_enter Tryz.func118,Tryz.ntmps118;go_wp2_with fail;clear hW0;go_loopw [5,6,24] (fun _ _ i wr=>∃ (k:Nat),i=.int .i64 k/\k<=len1/\Below W0.heap.size W0 wr/\Hid (l1.take k=l2.take k)) (fun _ _ i _=>len1-(intOf i).toNat)
   case atStart=>exact⟨0,rfl,Nat.zero_le _,Below.refl _ _,rfl⟩
   case round =>
    obtain⟨k,rfl,hk,hB,HF⟩:=hrel;have hzB:=hB.size;by_cases hlt:k<len1
    ·obtain⟨x,b1,o1,hx,ea1,hb1,p0,p1⟩:=jeD (g1.below (hB.mono hB0.size)) hlt
     obtain⟨y,b2,o2,hy,ea2,hb2,q0,q1⟩:=jeD (g2.below (hB.mono hB0.size)) hlt;subst ea1;subst ea2;obtain⟨x1,x2⟩:=x;obtain⟨y1,y2⟩:=y;dsimp only at p0 p1 q0 q1;have i0:(0:Int)<=(k:Int):=by omega
     have i1:(k:Int)<(len1:Int):=by omega
     have e1:wr.cell? ⟨w.heap.size+1,1,none⟩=some (.slice (some ⟨b2,o2,none⟩) len1 cap2):=(hB.cell (p:=⟨w.heap.size+1,1,none⟩) hz0).trans d1;have HX:=Lib.hid hx;have HY:=Lib.hid hy;obtain⟨W2,hW2,hX2,hB2,hs2⟩:=jah wr #[.int .i64 x1,.int .u64 x2] 118;obtain⟨r0,r1⟩:=cl2 hX2;have u0:W2.cell? ⟨b2,o2+k*2,none⟩=some (.int .i64 y1):=(hB2.cell (p:=⟨b2,o2+k*2,none⟩) (by show b2<_;omega)).trans q0;have u1:W2.cell? ⟨b2,o2+k*2+1,none⟩=some (.int .u64 y2):=(hB2.cell (p:=⟨b2,o2+k*2+1,none⟩) (by show b2<_;omega)).trans q1;have u2:W2.cell? ⟨w.heap.size+1,1,none⟩=some (.slice (some ⟨b2,o2,none⟩) len1 cap2):=(hB2.cell (p:=⟨w.heap.size+1,1,none⟩) (by show w.heap.size+1<_;omega)).trans e1;have hBB:Below W0.heap.size W0 W2:=hB.trans (hB2.mono hzB);have n2:=jrJ;clear hx hy g1 g2 hX2 q0 q1 c0 c1 d0 d1 hX0 hX1;by_cases hxy:x1=y1/\x2=y2
     ·have n1:∀ w,(binOp .neq 118 (.agg #[.int .i64 x1,.int .u64 x2]) (.agg #[.int .i64 y1,.int .u64 y2])).run Tryz.prog w=.ok (.bool false) w:=fun w=>by rw[jnv];simp[hxy.1,hxy.2]
      have HXY:=Lib.hid hxy;clear hxy;go_wp2_with fail;go_quiet (fail);go_wp2_with fail;go_roundw
      case rel=>exact⟨k+1,by go_num,by omega,bDr hBB _,by rw[Hid,jan HX.out,jan HY.out,HF.out,HXY.out.1,HXY.out.2]⟩
      case measure=>simp[intOf];omega
     ·have n1:∀ w,(binOp .neq 118 (.agg #[.int .i64 x1,.int .u64 x2]) (.agg #[.int .i64 y1,.int .u64 y2])).run Tryz.prog w=.ok (.bool true) w:=fun w=>by
       rw[jnv];have:(x1==y1&&x2==y2)=false:=by rw[Bool.eq_false_iff];intro h;simp at h;exact hxy h
       rw[this];rfl
      have HXY:=Lib.hid hxy;clear hxy;go_wp2_with fail;go_quiet (fail);go_wp2_with fail;go_ret
      have hne:(l1==l2)=false:=by
       rw[beq_eq_false_iff_ne];intro e;have hx:=HX.out;rw[e,HY.out] at hx;have:=Option.some.inj hx;simp only[Prod.mk.injEq] at this;exact HXY.out ⟨this.1.symm,this.2.symm⟩
      exact⟨by rw[hne];simp,hB0.trans ((bDr hBB _).mono hB0.size)⟩
    ·obtain rfl:k=len1:=by omega
     clear g1 g2;go_wp2_with fail;go_ret;have h9:=HF.out;rw[List.take_of_length_le (by rw[<- E1.out];omega),List.take_of_length_le (by rw[<- E2.out];omega)] at h9;exact⟨by rw[h9,HF1.out];simp,hB0.trans (hB.mono hB0.size)⟩
  ·have t0:((len1:Int) != (len2:Int))=true:=by rw[bne_iff_ne];omega
   have hne:Hid ((l1==l2)=false):=by
    rw[Hid,beq_eq_false_iff_ne];intro e;have e1:=h1.1;rw[e,<- h2.1] at e1;exact hl e1
   clear h1 h2 hl hs0;go_enter Tryz.func118,Tryz.ntmps118;go_wp2_with fail;go_ret;exact⟨by rw[hne.out];simp,hB0⟩
 ·have t1:(f1 != f2)=true:=by simp[hf]
  have HF1:Hid ((f1==f2)=false):=by simp[Hid,hf]
  clear hf h1 h2 hs0;go_enter Tryz.func118,Tryz.ntmps118;go_wp2_with fail;go_ret;exact⟨by rw[HF1.out];rfl,hB0⟩
theorem jdi (n:Int) (w:World):Calls Tryz.prog 216 #[.int .i64 n] w fun e w'=>e=.returned (.bool (jby n))/\w=w':=by
 by_cases h1:3<=n
 ·go_enter Tryz.func216,Tryz.ntmps216
  go_wp2;go_ret;exact⟨by simp[jby,h1],rfl⟩
 ·go_enter Tryz.func216,Tryz.ntmps216
  go_wp2;go_ret;exact⟨by simp[jby];omega,rfl⟩
theorem jai (n:Int) (w:World):Calls Tryz.prog 218 #[.int .i64 n] w fun e w'=>e=.returned (.bool (jaq n))/\w=w':=by
 by_cases h1:0<=n
 ·go_enter Tryz.func218,Tryz.ntmps218
  go_wp2;go_ret;exact⟨by simp[jaq,h1],rfl⟩
 ·go_enter Tryz.func218,Tryz.ntmps218
  go_wp2;go_ret;exact⟨by simp[jaq];omega,rfl⟩
theorem jgd (r c:Int) (w:World):Calls Tryz.prog 167 #[.int .i64 r,.int .i64 c] w fun e w'=>e=.returned (.bool (jbr r c))/\w=w':=by
 by_cases h1:r<1
 ·go_enter Tryz.func167,Tryz.ntmps167
  go_wp2;go_ret;exact⟨by simp[jbr];omega,rfl⟩
 by_cases h2:4<r
 ·go_enter Tryz.func167,Tryz.ntmps167
  go_wp2;go_ret;exact⟨by simp[jbr];omega,rfl⟩
 by_cases h3:4<=c
 ·by_cases h4:c<=32
  ·go_enter Tryz.func167,Tryz.ntmps167
   go_wp2;go_ret;exact⟨by simp[jbr,h3,h4];omega,rfl⟩
  ·go_enter Tryz.func167,Tryz.ntmps167
   go_wp2;go_ret;exact⟨by simp[jbr];intros;omega,rfl⟩
 ·go_enter Tryz.func167,Tryz.ntmps167
  go_wp2;go_ret;exact⟨by simp[jbr];intros;omega,rfl⟩
theorem jbi (k:Int) (w:World):Calls Tryz.prog 48 #[.int .i64 k] w fun e w'=>e=.returned (.int .i64 (jal k))/\w=w':=by
 cases h1:(k==1) with
 | true =>
  go_enter Tryz.func48,Tryz.ntmps48;go_wp2;go_ret;exact⟨by simp[jal,h1],rfl⟩
 | false =>
  cases h2:(k==2) with
  | true =>
   go_enter Tryz.func48,Tryz.ntmps48;go_wp2;go_ret;exact⟨by simp[jal,h1,h2],rfl⟩
  | false =>
   cases h3:(k==3) with
   | true =>
    go_enter Tryz.func48,Tryz.ntmps48;go_wp2;go_ret;exact⟨by simp[jal,h1,h2,h3],rfl⟩
   | false =>
    go_enter Tryz.func48,Tryz.ntmps48;go_wp2;go_ret;exact⟨by simp[jal,h1,h2,h3],rfl⟩
def jbT (b:Bool) (w:World) (e:Ending) (w':World):Prop:=∃ lo hi:Int,e=.returned (.tuple #[.int .u64 lo,.int .u64 hi,.bool b])/\Below w.heap.size w w'
theorem jmx (fine n:Int) (w:World) (hb:jap fine n=false) (h:jaq fine=false\/n<0):Calls Tryz.prog 219 #[.int .i64 fine,.int .i64 n] w (jbT (jap fine n) w):=by
 rw[hb];clear hb;rcases h with h | h
 ·go_enter Tryz.func219,Tryz.ntmps219
  go_wp2_with fail;refine jad 0 rfl ?_;go_wp2_with (go_at_call 218;refine (jai _ _).mono ?_;rintro e w' ⟨rfl,rfl⟩)
  first | rw[jae] | (go_step3;refine And.intro (rfl:(0:Nat)=0) ?_;go_wp2_with fail;go_wp2_with fail;rw[Exit.noGoto_ret]) | (go_step3;go_wp2_with fail;rw[jae])
  go_ret3;exact⟨_,_,rfl,Below.refl _ _⟩
 ·cases hf:jaq fine with
  | true =>
   go_enter Tryz.func219,Tryz.ntmps219;go_wp2_with fail;refine jad 0 rfl ?_;go_wp2_with (go_at_call 218;refine (jai _ _).mono ?_;rintro e w' ⟨rfl,rfl⟩)
   first | rw[jae] | (go_step3;refine And.intro (rfl:(0:Nat)=0) ?_;go_wp2_with fail;go_wp2_with fail;rw[Exit.noGoto_ret]) | (go_step3;go_wp2_with fail;rw[jae])
   go_ret3;exact⟨_,_,rfl,Below.refl _ _⟩
  | false =>
   go_enter Tryz.func219,Tryz.ntmps219;go_wp2_with fail;refine jad 0 rfl ?_;go_wp2_with (go_at_call 218;refine (jai _ _).mono ?_;rintro e w' ⟨rfl,rfl⟩)
   first | rw[jae] | (go_step3;refine And.intro (rfl:(0:Nat)=0) ?_;go_wp2_with fail;go_wp2_with fail;rw[Exit.noGoto_ret]) | (go_step3;go_wp2_with fail;rw[jae])
   go_ret3;exact⟨_,_,rfl,Below.refl _ _⟩
set_option maxHeartbeats 1000000 in
theorem joB (w:World):Calls Tryz.prog 219 #[.int .i64 0,.int .i64 0] w (jbT true w):=by
 have hF:jaq 0=true:=rfl;go_enter Tryz.func219,Tryz.ntmps219;go_wp2_with fail;refine jad 0 rfl ?_;go_wp2_with (go_at_call 218;refine (jai _ _).mono ?_;rintro e w' ⟨rfl,rfl⟩)
 first | rw[jae] | (go_step3;refine And.intro (rfl:(0:Nat)=0) ?_;go_wp2_with fail;go_wp2_with fail;rw[Exit.noGoto_ret]) | (go_step3;go_wp2_with fail;rw[jae])
 go_ret3;exact⟨_,_,rfl,Below.refl _ _⟩
set_option maxHeartbeats 1000000 in
theorem jqA (n:Int) (w:World) (h1:1<=n) (h2:n<=9223372036854775807) (h3:64<=(n-1)):Calls Tryz.prog 219 #[.int .i64 0,.int .i64 n] w (jbT false w):=by
 have t0:(n==0)=false:=by rw[beq_eq_false_iff_ne];omega
 have hF:jaq 0=true:=rfl;go_enter Tryz.func219,Tryz.ntmps219;go_wp2_with fail;refine jad 0 rfl ?_;go_wp2_with (go_at_call 218;refine (jai _ _).mono ?_;rintro e w' ⟨rfl,rfl⟩);go_quiet (fail);go_wp2_with fail
 first | rw[jae] | (go_step3;refine And.intro (rfl:(0:Nat)=0) ?_;go_wp2_with fail;go_wp2_with fail;rw[Exit.noGoto_ret]) | (go_step3;go_wp2_with fail;rw[jae])
 go_ret3;exact⟨_,_,rfl,bDr (Below.refl _ _) _⟩
set_option maxHeartbeats 1000000 in
theorem jox (n:Int) (w:World) (h1:1<=n) (h2:n<=9223372036854775807) (h3:(n-1)<64) (_h4:0<=(n-1)):Calls Tryz.prog 219 #[.int .i64 0,.int .i64 n] w (jbT true w):=by
 have t0:(n==0)=false:=by rw[beq_eq_false_iff_ne];omega
 have hF:jaq 0=true:=rfl;go_enter Tryz.func219,Tryz.ntmps219;go_wp2_with fail;refine jad 0 rfl ?_;go_wp2_with (go_at_call 218;refine (jai _ _).mono ?_;rintro e w' ⟨rfl,rfl⟩);go_quiet (fail);go_wp2_with fail;go_quiet (fail);go_wp2_with fail
 first | rw[jae] | (go_step3;refine And.intro (rfl:(0:Nat)=0) ?_;go_wp2_with fail;go_wp2_with fail;rw[Exit.noGoto_ret]) | (go_step3;go_wp2_with fail;rw[jae])
 go_ret3;exact⟨_,_,rfl,bDr (bDr (Below.refl _ _) _) _⟩
set_option maxHeartbeats 1000000 in
theorem joC (w:World):Calls Tryz.prog 219 #[.int .i64 1,.int .i64 0] w (jbT true w):=by
 have hF:jaq 1=true:=rfl;go_enter Tryz.func219,Tryz.ntmps219;go_wp2_with fail;refine jad 0 rfl ?_;go_wp2_with (go_at_call 218;refine (jai _ _).mono ?_;rintro e w' ⟨rfl,rfl⟩)
 first | rw[jae] | (go_step3;refine And.intro (rfl:(0:Nat)=0) ?_;go_wp2_with fail;go_wp2_with fail;rw[Exit.noGoto_ret]) | (go_step3;go_wp2_with fail;rw[jae])
 go_ret3;exact⟨_,_,rfl,Below.refl _ _⟩
set_option maxHeartbeats 1000000 in
theorem jqB (n:Int) (w:World) (h1:1<=n) (h2:n<=9223372036854775807) (h3:64<=(n-1) / 2):Calls Tryz.prog 219 #[.int .i64 1,.int .i64 n] w (jbT false w):=by
 have t0:(n==0)=false:=by rw[beq_eq_false_iff_ne];omega
 have hF:jaq 1=true:=rfl;go_enter Tryz.func219,Tryz.ntmps219;go_wp2_with fail;refine jad 0 rfl ?_;go_wp2_with (go_at_call 218;refine (jai _ _).mono ?_;rintro e w' ⟨rfl,rfl⟩);go_quiet (fail);go_wp2_with fail
 first | rw[jae] | (go_step3;refine And.intro (rfl:(0:Nat)=0) ?_;go_wp2_with fail;go_wp2_with fail;rw[Exit.noGoto_ret]) | (go_step3;go_wp2_with fail;rw[jae])
 go_ret3;exact⟨_,_,rfl,bDr (Below.refl _ _) _⟩
set_option maxHeartbeats 1000000 in
theorem joy (n:Int) (w:World) (h1:1<=n) (h2:n<=9223372036854775807) (h3:(n-1) / 2<64) (h4:1<=(n-1) / 2):Calls Tryz.prog 219 #[.int .i64 1,.int .i64 n] w (jbT true w):=by
 have t0:(n==0)=false:=by rw[beq_eq_false_iff_ne];omega
 have hF:jaq 1=true:=rfl;go_enter Tryz.func219,Tryz.ntmps219;go_wp2_with fail;refine jad 0 rfl ?_;go_wp2_with (go_at_call 218;refine (jai _ _).mono ?_;rintro e w' ⟨rfl,rfl⟩);go_quiet (fail);go_wp2_with fail;go_quiet (fail);go_wp2_with fail
 first | rw[jae] | (go_step3;refine And.intro (rfl:(0:Nat)=0) ?_;go_wp2_with fail;go_wp2_with fail;rw[Exit.noGoto_ret]) | (go_step3;go_wp2_with fail;rw[jae])
 go_ret3;exact⟨_,_,rfl,bDr (bDr (Below.refl _ _) _) _⟩
set_option maxHeartbeats 1000000 in
theorem joD (w:World):Calls Tryz.prog 219 #[.int .i64 2,.int .i64 0] w (jbT true w):=by
 have hF:jaq 2=true:=rfl;go_enter Tryz.func219,Tryz.ntmps219;go_wp2_with fail;refine jad 0 rfl ?_;go_wp2_with (go_at_call 218;refine (jai _ _).mono ?_;rintro e w' ⟨rfl,rfl⟩)
 first | rw[jae] | (go_step3;refine And.intro (rfl:(0:Nat)=0) ?_;go_wp2_with fail;go_wp2_with fail;rw[Exit.noGoto_ret]) | (go_step3;go_wp2_with fail;rw[jae])
 go_ret3;exact⟨_,_,rfl,Below.refl _ _⟩
set_option maxHeartbeats 1000000 in
theorem jqC (n:Int) (w:World) (h1:1<=n) (h2:n<=9223372036854775807) (h3:64<=(n-1) / 4):Calls Tryz.prog 219 #[.int .i64 2,.int .i64 n] w (jbT false w):=by
 have t0:(n==0)=false:=by rw[beq_eq_false_iff_ne];omega
 have hF:jaq 2=true:=rfl;go_enter Tryz.func219,Tryz.ntmps219;go_wp2_with fail;refine jad 0 rfl ?_;go_wp2_with (go_at_call 218;refine (jai _ _).mono ?_;rintro e w' ⟨rfl,rfl⟩);go_quiet (fail);go_wp2_with fail
 first | rw[jae] | (go_step3;refine And.intro (rfl:(0:Nat)=0) ?_;go_wp2_with fail;go_wp2_with fail;rw[Exit.noGoto_ret]) | (go_step3;go_wp2_with fail;rw[jae])
 go_ret3;exact⟨_,_,rfl,bDr (Below.refl _ _) _⟩
set_option maxHeartbeats 1000000 in
theorem joz (n:Int) (w:World) (h1:1<=n) (h2:n<=9223372036854775807) (h3:(n-1) / 4<64) (h4:2<=(n-1) / 4):Calls Tryz.prog 219 #[.int .i64 2,.int .i64 n] w (jbT true w):=by
 have t0:(n==0)=false:=by rw[beq_eq_false_iff_ne];omega
 have hF:jaq 2=true:=rfl;go_enter Tryz.func219,Tryz.ntmps219;go_wp2_with fail;refine jad 0 rfl ?_;go_wp2_with (go_at_call 218;refine (jai _ _).mono ?_;rintro e w' ⟨rfl,rfl⟩);go_quiet (fail);go_wp2_with fail;go_quiet (fail);go_wp2_with fail
 first | rw[jae] | (go_step3;refine And.intro (rfl:(0:Nat)=0) ?_;go_wp2_with fail;go_wp2_with fail;rw[Exit.noGoto_ret]) | (go_step3;go_wp2_with fail;rw[jae])
 go_ret3;exact⟨_,_,rfl,bDr (bDr (Below.refl _ _) _) _⟩
set_option maxHeartbeats 1000000 in
theorem joE (w:World):Calls Tryz.prog 219 #[.int .i64 3,.int .i64 0] w (jbT true w):=by
 have hF:jaq 3=true:=rfl;go_enter Tryz.func219,Tryz.ntmps219;go_wp2_with fail;refine jad 0 rfl ?_;go_wp2_with (go_at_call 218;refine (jai _ _).mono ?_;rintro e w' ⟨rfl,rfl⟩)
 first | rw[jae] | (go_step3;refine And.intro (rfl:(0:Nat)=0) ?_;go_wp2_with fail;go_wp2_with fail;rw[Exit.noGoto_ret]) | (go_step3;go_wp2_with fail;rw[jae])
 go_ret3;exact⟨_,_,rfl,Below.refl _ _⟩
set_option maxHeartbeats 1000000 in
theorem jqD (n:Int) (w:World) (h1:1<=n) (h2:n<=9223372036854775807) (h3:64<=(n-1) / 8):Calls Tryz.prog 219 #[.int .i64 3,.int .i64 n] w (jbT false w):=by
 have t0:(n==0)=false:=by rw[beq_eq_false_iff_ne];omega
 have hF:jaq 3=true:=rfl;go_enter Tryz.func219,Tryz.ntmps219;go_wp2_with fail;refine jad 0 rfl ?_;go_wp2_with (go_at_call 218;refine (jai _ _).mono ?_;rintro e w' ⟨rfl,rfl⟩);go_quiet (fail);go_wp2_with fail
 first | rw[jae] | (go_step3;refine And.intro (rfl:(0:Nat)=0) ?_;go_wp2_with fail;go_wp2_with fail;rw[Exit.noGoto_ret]) | (go_step3;go_wp2_with fail;rw[jae])
 go_ret3;exact⟨_,_,rfl,bDr (Below.refl _ _) _⟩
set_option maxHeartbeats 1000000 in
theorem joA (n:Int) (w:World) (h1:1<=n) (h2:n<=9223372036854775807) (h3:(n-1) / 8<64) (h4:3<=(n-1) / 8):Calls Tryz.prog 219 #[.int .i64 3,.int .i64 n] w (jbT true w):=by
 have t0:(n==0)=false:=by rw[beq_eq_false_iff_ne];omega
 have hF:jaq 3=true:=rfl;go_enter Tryz.func219,Tryz.ntmps219;go_wp2_with fail;refine jad 0 rfl ?_;go_wp2_with (go_at_call 218;refine (jai _ _).mono ?_;rintro e w' ⟨rfl,rfl⟩);go_quiet (fail);go_wp2_with fail;go_quiet (fail);go_wp2_with fail
 first | rw[jae] | (go_step3;refine And.intro (rfl:(0:Nat)=0) ?_;go_wp2_with fail;go_wp2_with fail;rw[Exit.noGoto_ret]) | (go_step3;go_wp2_with fail;rw[jae])
 go_ret3;exact⟨_,_,rfl,bDr (bDr (Below.refl _ _) _) _⟩
set_option maxHeartbeats 1000000 in
theorem jor (n:Int) (w:World) (h1:1<=n) (h2:n<=9223372036854775807) (h3:(n-1) / 2=0) (c:Bool) (hc:(bits .and .i64 (bits .and .i64 (n-1) 1) 1==0)=c):Calls Tryz.prog 219 #[.int .i64 1,.int .i64 n] w (jbT c w):=by
 have t0:(n==0)=false:=by rw[beq_eq_false_iff_ne];omega
 have hF:jaq 1=true:=rfl
 cases c
 ·go_enter Tryz.func219,Tryz.ntmps219
  go_wp2_with fail;refine jad 0 rfl ?_;go_wp2_with (go_at_call 218;refine (jai _ _).mono ?_;rintro e w' ⟨rfl,rfl⟩);go_quiet (fail);go_wp2_with fail
  first | rw[jae] | (go_step3;refine And.intro (rfl:(0:Nat)=0) ?_;go_wp2_with fail;go_wp2_with fail;rw[Exit.noGoto_ret]) | (go_step3;go_wp2_with fail;rw[jae])
  go_ret3;exact⟨_,_,rfl,bDr (Below.refl _ _) _⟩
 ·go_enter Tryz.func219,Tryz.ntmps219
  go_wp2_with fail;refine jad 0 rfl ?_;go_wp2_with (go_at_call 218;refine (jai _ _).mono ?_;rintro e w' ⟨rfl,rfl⟩);go_quiet (fail);go_wp2_with fail
  first | rw[jae] | (go_step3;refine And.intro (rfl:(0:Nat)=0) ?_;go_wp2_with fail;go_wp2_with fail;rw[Exit.noGoto_ret]) | (go_step3;go_wp2_with fail;rw[jae])
  go_ret3;exact⟨_,_,rfl,bDr (Below.refl _ _) _⟩
set_option maxHeartbeats 1000000 in
theorem jos (n:Int) (w:World) (h1:1<=n) (h2:n<=9223372036854775807) (h3:(n-1) / 4=0) (c:Bool) (hc:(bits .and .i64 (bits .and .i64 (n-1) 3) 3==0)=c):Calls Tryz.prog 219 #[.int .i64 2,.int .i64 n] w (jbT c w):=by
 have t0:(n==0)=false:=by rw[beq_eq_false_iff_ne];omega
 have hF:jaq 2=true:=rfl
 cases c
 ·go_enter Tryz.func219,Tryz.ntmps219
  go_wp2_with fail;refine jad 0 rfl ?_;go_wp2_with (go_at_call 218;refine (jai _ _).mono ?_;rintro e w' ⟨rfl,rfl⟩);go_quiet (fail);go_wp2_with fail
  first | rw[jae] | (go_step3;refine And.intro (rfl:(0:Nat)=0) ?_;go_wp2_with fail;go_wp2_with fail;rw[Exit.noGoto_ret]) | (go_step3;go_wp2_with fail;rw[jae])
  go_ret3;exact⟨_,_,rfl,bDr (Below.refl _ _) _⟩
 ·go_enter Tryz.func219,Tryz.ntmps219
  go_wp2_with fail;refine jad 0 rfl ?_;go_wp2_with (go_at_call 218;refine (jai _ _).mono ?_;rintro e w' ⟨rfl,rfl⟩);go_quiet (fail);go_wp2_with fail
  first | rw[jae] | (go_step3;refine And.intro (rfl:(0:Nat)=0) ?_;go_wp2_with fail;go_wp2_with fail;rw[Exit.noGoto_ret]) | (go_step3;go_wp2_with fail;rw[jae])
  go_ret3;exact⟨_,_,rfl,bDr (Below.refl _ _) _⟩
set_option maxHeartbeats 1000000 in
theorem jot (n:Int) (w:World) (h1:1<=n) (h2:n<=9223372036854775807) (h3:(n-1) / 4=1) (c:Bool) (hc:(bits .and .i64 (bits .and .i64 (n-1) 3) 1==0)=c):Calls Tryz.prog 219 #[.int .i64 2,.int .i64 n] w (jbT c w):=by
 have t0:(n==0)=false:=by rw[beq_eq_false_iff_ne];omega
 have hF:jaq 2=true:=rfl
 cases c
 ·go_enter Tryz.func219,Tryz.ntmps219
  go_wp2_with fail;refine jad 0 rfl ?_;go_wp2_with (go_at_call 218;refine (jai _ _).mono ?_;rintro e w' ⟨rfl,rfl⟩);go_quiet (fail);go_wp2_with fail
  first | rw[jae] | (go_step3;refine And.intro (rfl:(0:Nat)=0) ?_;go_wp2_with fail;go_wp2_with fail;rw[Exit.noGoto_ret]) | (go_step3;go_wp2_with fail;rw[jae])
  go_ret3;exact⟨_,_,rfl,bDr (Below.refl _ _) _⟩
 ·go_enter Tryz.func219,Tryz.ntmps219
  go_wp2_with fail;refine jad 0 rfl ?_;go_wp2_with (go_at_call 218;refine (jai _ _).mono ?_;rintro e w' ⟨rfl,rfl⟩);go_quiet (fail);go_wp2_with fail
  first | rw[jae] | (go_step3;refine And.intro (rfl:(0:Nat)=0) ?_;go_wp2_with fail;go_wp2_with fail;rw[Exit.noGoto_ret]) | (go_step3;go_wp2_with fail;rw[jae])
  go_ret3;exact⟨_,_,rfl,bDr (Below.refl _ _) _⟩
set_option maxHeartbeats 1000000 in
theorem jou (n:Int) (w:World) (h1:1<=n) (h2:n<=9223372036854775807) (h3:(n-1) / 8=0) (c:Bool) (hc:(bits .and .i64 (bits .and .i64 (n-1) 7) 7==0)=c):Calls Tryz.prog 219 #[.int .i64 3,.int .i64 n] w (jbT c w):=by
 have t0:(n==0)=false:=by rw[beq_eq_false_iff_ne];omega
 have hF:jaq 3=true:=rfl
 cases c
 ·go_enter Tryz.func219,Tryz.ntmps219
  go_wp2_with fail;refine jad 0 rfl ?_;go_wp2_with (go_at_call 218;refine (jai _ _).mono ?_;rintro e w' ⟨rfl,rfl⟩);go_quiet (fail);go_wp2_with fail
  first | rw[jae] | (go_step3;refine And.intro (rfl:(0:Nat)=0) ?_;go_wp2_with fail;go_wp2_with fail;rw[Exit.noGoto_ret]) | (go_step3;go_wp2_with fail;rw[jae])
  go_ret3;exact⟨_,_,rfl,bDr (Below.refl _ _) _⟩
 ·go_enter Tryz.func219,Tryz.ntmps219
  go_wp2_with fail;refine jad 0 rfl ?_;go_wp2_with (go_at_call 218;refine (jai _ _).mono ?_;rintro e w' ⟨rfl,rfl⟩);go_quiet (fail);go_wp2_with fail
  first | rw[jae] | (go_step3;refine And.intro (rfl:(0:Nat)=0) ?_;go_wp2_with fail;go_wp2_with fail;rw[Exit.noGoto_ret]) | (go_step3;go_wp2_with fail;rw[jae])
  go_ret3;exact⟨_,_,rfl,bDr (Below.refl _ _) _⟩
set_option maxHeartbeats 1000000 in
theorem jov (n:Int) (w:World) (h1:1<=n) (h2:n<=9223372036854775807) (h3:(n-1) / 8=1) (c:Bool) (hc:(bits .and .i64 (bits .and .i64 (n-1) 7) 3==0)=c):Calls Tryz.prog 219 #[.int .i64 3,.int .i64 n] w (jbT c w):=by
 have t0:(n==0)=false:=by rw[beq_eq_false_iff_ne];omega
 have hF:jaq 3=true:=rfl
 cases c
 ·go_enter Tryz.func219,Tryz.ntmps219
  go_wp2_with fail;refine jad 0 rfl ?_;go_wp2_with (go_at_call 218;refine (jai _ _).mono ?_;rintro e w' ⟨rfl,rfl⟩);go_quiet (fail);go_wp2_with fail
  first | rw[jae] | (go_step3;refine And.intro (rfl:(0:Nat)=0) ?_;go_wp2_with fail;go_wp2_with fail;rw[Exit.noGoto_ret]) | (go_step3;go_wp2_with fail;rw[jae])
  go_ret3;exact⟨_,_,rfl,bDr (Below.refl _ _) _⟩
 ·go_enter Tryz.func219,Tryz.ntmps219
  go_wp2_with fail;refine jad 0 rfl ?_;go_wp2_with (go_at_call 218;refine (jai _ _).mono ?_;rintro e w' ⟨rfl,rfl⟩);go_quiet (fail);go_wp2_with fail
  first | rw[jae] | (go_step3;refine And.intro (rfl:(0:Nat)=0) ?_;go_wp2_with fail;go_wp2_with fail;rw[Exit.noGoto_ret]) | (go_step3;go_wp2_with fail;rw[jae])
  go_ret3;exact⟨_,_,rfl,bDr (Below.refl _ _) _⟩
set_option maxHeartbeats 1000000 in
theorem jow (n:Int) (w:World) (h1:1<=n) (h2:n<=9223372036854775807) (h3:(n-1) / 8=2) (c:Bool) (hc:(bits .and .i64 (bits .and .i64 (n-1) 7) 1==0)=c):Calls Tryz.prog 219 #[.int .i64 3,.int .i64 n] w (jbT c w):=by
 have t0:(n==0)=false:=by rw[beq_eq_false_iff_ne];omega
 have hF:jaq 3=true:=rfl
 cases c
 ·go_enter Tryz.func219,Tryz.ntmps219
  go_wp2_with fail;refine jad 0 rfl ?_;go_wp2_with (go_at_call 218;refine (jai _ _).mono ?_;rintro e w' ⟨rfl,rfl⟩);go_quiet (fail);go_wp2_with fail
  first | rw[jae] | (go_step3;refine And.intro (rfl:(0:Nat)=0) ?_;go_wp2_with fail;go_wp2_with fail;rw[Exit.noGoto_ret]) | (go_step3;go_wp2_with fail;rw[jae])
  go_ret3;exact⟨_,_,rfl,bDr (Below.refl _ _) _⟩
 ·go_enter Tryz.func219,Tryz.ntmps219
  go_wp2_with fail;refine jad 0 rfl ?_;go_wp2_with (go_at_call 218;refine (jai _ _).mono ?_;rintro e w' ⟨rfl,rfl⟩);go_quiet (fail);go_wp2_with fail
  first | rw[jae] | (go_step3;refine And.intro (rfl:(0:Nat)=0) ?_;go_wp2_with fail;go_wp2_with fail;rw[Exit.noGoto_ret]) | (go_step3;go_wp2_with fail;rw[jae])
  go_ret3;exact⟨_,_,rfl,bDr (Below.refl _ _) _⟩
theorem jdd (fine n:Int) (h0:1<=n) (hf:jaq fine=true):jap fine n=(if 64<=(n-1) / 2^fine.toNat then false else if fine<=(n-1) / 2^fine.toNat then true
   else bits .and .i64 (bits .and .i64 (n-1) (2^fine.toNat-1)) (2^(fine-(n-1) / 2^fine.toNat).toNat-1)==0):=by
 unfold jap;have h1:decide (0<=n)=true:=decide_eq_true (by omega);have h2:(n==0)=false:=beq_eq_false_iff_ne.2 (by omega);rw[hf,h1,h2];rfl
theorem jlo (fine n:Int) (hn:n<=9223372036854775807) (w:World):Calls Tryz.prog 219 #[.int .i64 fine,.int .i64 n] w (jbT (jap fine n) w):=by
 cases hf:jaq fine with
 | false=>exact jmx fine n w (by simp[jap,hf]) (.inl hf)
 | true =>
  by_cases h0:n<0
  ·exact jmx fine n w (by simp[jap];intros;omega) (.inr h0)
  by_cases hz:n=0
  ·subst hz
   have hb:jap fine 0=true:=by simp[jap,hf]
   rw[hb];have hr:0<=fine/\fine<=3:=by simpa [jaq] using hf
   rcases (by omega:fine=0\/fine=1\/fine=2\/fine=3) with rfl | rfl | rfl | rfl
   ·exact joB w
   ·exact joC w
   ·exact joD w
   ·exact joE w
  have hr:0<=fine/\fine<=3:=by simpa [jaq] using hf
  rw[jdd fine n (by omega) hf];rcases (by omega:fine=0\/fine=1\/fine=2\/fine=3) with rfl | rfl | rfl | rfl
  ·rw[show (2:Int)^(0:Int).toNat=1 from rfl,Int.ediv_one]
   by_cases h1:64<=n-1
   ·rw[if_pos h1];exact jqA n w (by omega) hn h1
   ·rw[if_neg h1,if_pos (by omega)];exact jox n w (by omega) hn (by omega) (by omega)
  ·rw[show (2:Int)^(1:Int).toNat=2 from rfl]
   by_cases h1:64<=(n-1) / 2
   ·rw[if_pos h1];exact jqB n w (by omega) hn h1
   rw[if_neg h1];by_cases h2:1<=(n-1) / 2
   ·rw[if_pos h2];exact joy n w (by omega) hn (by omega) h2
   rw[if_neg h2];have e:(n-1) / 2=0:=by omega
   rw[e];exact jor n w (by omega) hn e _ rfl
  ·rw[show (2:Int)^(2:Int).toNat=4 from rfl]
   by_cases h1:64<=(n-1) / 4
   ·rw[if_pos h1];exact jqC n w (by omega) hn h1
   rw[if_neg h1];by_cases h2:2<=(n-1) / 4
   ·rw[if_pos h2];exact joz n w (by omega) hn (by omega) h2
   rw[if_neg h2];rcases (by omega:(n-1) / 4=0\/(n-1) / 4=1) with e | e<;>rw[e]
   ·exact jos n w (by omega) hn e _ rfl
   ·exact jot n w (by omega) hn e _ rfl
  ·rw[show (2:Int)^(3:Int).toNat=8 from rfl]
   by_cases h1:64<=(n-1) / 8
   ·rw[if_pos h1];exact jqD n w (by omega) hn h1
   rw[if_neg h1];by_cases h2:3<=(n-1) / 8
   ·rw[if_pos h2];exact joA n w (by omega) hn (by omega) h2
   rw[if_neg h2];rcases (by omega:(n-1) / 8=0\/(n-1) / 8=1\/(n-1) / 8=2) with e | e | e<;>rw[e]
   ·exact jou n w (by omega) hn e _ rfl
   ·exact jov n w (by omega) hn e _ rfl
   ·exact jow n w (by omega) hn e _ rfl
theorem jeG (r c:Int) (l:List Int) (a:Option Addr) (len cap:Nat) (w:World) (hL:len=l.length) :
  Calls Tryz.prog 201 #[.agg #[.int .i64 r,.int .i64 c,.slice a len cap]] w fun e w'=>e=.returned (.bool (jaN r c l))/\Below w.heap.size w w':=by
 have hB0:Below w.heap.size w (w.alloc (.cells #[.int .i64 r,.int .i64 c,.slice a len cap] 45)):=(Below.refl _ w).alloc (Nat.le_refl _) _;have HL:=Lib.hid hL;clear hL;have hs:=fun w=>jgd r c w
 cases h1:jbr r c with
 | false =>
  rw[h1] at hs;have H1:=Lib.hid h1;clear h1;go_enter Tryz.func201,Tryz.ntmps201;go_wp2_with (go_at_call 167;refine (hs _).mono ?_;rintro e w' ⟨rfl,rfl⟩);go_ret;exact⟨by simp[jaN,H1.out],hB0⟩
 | true =>
  rw[h1] at hs;have hr:(1<=r/\r<=4)/\4<=c/\c<=32:=by simp[jbr] at h1;omega
  obtain⟨⟨r1,r2⟩,r3,r4⟩:=hr;have hm1:r*c<=4*32:=Int.mul_le_mul r2 r4 (by omega) (by omega);have hm0:0<=r*c:=Int.mul_nonneg (by omega) (by omega);have hw:IntKind.i64.wrap (r*c)=r*c:=IntWalk.i64_in _ (by omega);have H1:=Lib.hid h1;clear h1;go_enter Tryz.func201,Tryz.ntmps201;go_wp2_with (go_at_call 167;refine (hs _).mono ?_;rintro e w' ⟨rfl,rfl⟩);go_ret;exact⟨by simp[jaN,H1.out,<- HL.out],hB0⟩
set_option maxRecDepth 100000 in
set_option maxHeartbeats 2000000 in
theorem jee (fine:Int) (l:List (Int × Int)) (a:Option Addr) (len cap:Nat) (w:World) (hL:SlE jb5 2 w.heap.size w a len l) (hm:len<=maxLen) (hb:∀ b∈l,b.1<=9223372036854775807) :
  Calls Tryz.prog 202 #[.agg #[.int .i64 fine,.slice a len cap]] w fun e w'=>e=.returned (.bool (jaX fine l))/\Below w.heap.size w w':=by
 unfold maxLen at hm;obtain⟨W0,hW0,hX0,hB0,hs0⟩:=jah w #[.int .i64 fine,.slice a len cap] 48;obtain⟨c0,c1⟩:=cl2 hX0;have hz0:w.heap.size<W0.heap.size:=by omega
 have HL:=Lib.hid hL.1;have hg:=hL.below hB0;have hs:=fun w=>jai fine w
 have HBD:=Lib.hid hb;clear hL hX0 hs0 hb
 cases hf:jaq fine with
 | false =>
  rw[hf] at hs;have HF:=Lib.hid hf;clear hf hg;go_enter Tryz.func202,Tryz.ntmps202;go_wp2_with (go_at_call 218;refine (hs _).mono ?_;rintro e w' ⟨rfl,rfl⟩);go_ret;exact⟨by simp[jaX,HF.out],hB0⟩
 | true =>
  rw[hf] at hs;have HR:Hid (jaX fine l=(jbM (jbg fine) (-1) l).isSome):=by simp[Hid,jaX,hf]
  clear hf;go_enter Tryz.func202,Tryz.ntmps202;go_wp2_with (go_at_call 218;refine (hs _).mono ?_;rintro e w' ⟨rfl,rfl⟩);clear hW0 hs;go_loopw [3,16] (fun la i wr=>∃ (k:Nat) (last:Int),i=.int .i64 k/\la=.int .i64 last/\k<=len/\Below W0.heap.size W0 wr/\Hid (jbM (jbg fine) (-1) (l.take k)=some last)) (fun _ i _=>len-(intOf i).toNat)
  case atStart=>exact⟨0,-1,rfl,rfl,Nat.zero_le _,Below.refl _ _,rfl⟩
  case round =>
   obtain⟨k,last,rfl,rfl,hk,hB,HF⟩:=hrel;have hzB:=hB.size;by_cases hlt:k<len
   ·obtain⟨x,b1,o1,hx,ea,hb1,p0,p1⟩:=jeD (hg.below (hB.mono hB0.size)) hlt
    subst ea;have hxm:x.1<=9223372036854775807:=HBD.out x (List.mem_of_getElem? hx);have HS:=Lib.hid (jhr hx HF.out);obtain⟨x1,x2⟩:=x;dsimp only at p0 p1 hxm;have e0:wr.cell? ⟨w.heap.size,0,none⟩=some (.int .i64 fine):=(hB.cell (p:=⟨w.heap.size,0,none⟩) hz0).trans c0;obtain⟨W2,hW2,hX2,hB2,hs2⟩:=jah wr #[.int .i64 x1,.int .u64 x2] 118;have r0:W2.cell? ⟨wr.heap.size,0,none⟩=some (.int .i64 x1):=cCc hX2 0;have f0:W2.cell? ⟨w.heap.size,0,none⟩=some (.int .i64 fine):=(hB2.cell (p:=⟨w.heap.size,0,none⟩) (by show w.heap.size<_;omega)).trans e0;have hbd:=jlo fine x1 hxm W2;clear hx hg c0 c1 e0;go_wp2_with fail;refine hbd.mono ?_;rintro e w3 ⟨lo,hi,rfl,hb3⟩;have hX3:=jak hb3 (Nat.le_refl _) hX2;obtain⟨s0,s1⟩:=cl2 hX3;have hBB:Below W0.heap.size W0 w3:=hB.trans ((hB2.mono hzB).trans (hb3.mono (by omega)));have HS':Hid (∀ bb,((x2==0) || !jap fine x1||decide (x1<=last))=bb->jbM (jbg fine) (-1) (l.take (k+1))=if bb then none else some x1):=fun bb h=>by rw[HS.out,<- h];rfl
    clear hW2 hX2 hX3 r0 f0 hbd hs2 HS
    have hret:Hid (∀ bb,((x2==0) || !jap fine x1||decide (x1<=last))=bb->bb=true->jaX fine l=false):=fun bb h1 h2=>by
     rw[HR.out,jhq (k:=k+1) (by rw[HS'.out bb h1,h2];rfl)];rfl
    cases h1:(x2==0) with
    | true =>
     have h9:=hret.out true (by rw[h1];rfl) rfl;have H9:=Lib.hid h9;clear h9;go_wp2_with fail;go_ret;exact⟨by rw[H9.out];rfl,hB0.trans (hBB.mono hB0.size)⟩
    | false =>
     cases h2:jap fine x1 with
     | false =>
      have h9:=hret.out true (by rw[h1,h2];rfl) rfl;have H9:=Lib.hid h9;clear h9;go_wp2_with fail;go_ret;exact⟨by rw[H9.out];rfl,hB0.trans (hBB.mono hB0.size)⟩
     | true =>
      by_cases h3:x1<=last
      ·have h9:=hret.out true (by rw[h1,h2,decide_eq_true h3];rfl) rfl
       have H9:=Lib.hid h9;clear h9;go_wp2_with fail;go_ret;exact⟨by rw[H9.out];rfl,hB0.trans (hBB.mono hB0.size)⟩
      ·have H8:=Lib.hid (HS'.out false (by rw[h1,h2,decide_eq_false h3];rfl))
       go_wp2_with fail;go_roundw
       case rel=>exact⟨k+1,x1,by go_num,rfl,by omega,hBB,H8.out⟩
       case measure=>simp[intOf];omega
   ·obtain rfl:k=len:=by omega
    clear hg;go_wp2_with fail;go_ret;have h9:=HF.out;rw[List.take_of_length_le (by rw[<- HL.out];omega)] at h9;exact⟨by rw[HR.out,h9];rfl,hB0.trans (hB.mono hB0.size)⟩
end Go.Proofs.YtieknocphiceoaaGreatDoor
