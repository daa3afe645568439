/- Package field: number, Get. (Printed by gen_w1.py.) Package field: Get, text, GetText. Package wire: the reader: number, atMost, text, ended. -/
import Derived.Test.YtlmlcadcdhhlcaaGreatDoorZW8
set_option maxHeartbeats 4000000
set_option maxRecDepth 100000
namespace Go.Proofs.YtlmlcadcdhhlcaaGreatDoor
open Go Go.RowKit Go.Shelf
section
attribute [local go_sem] Oper.semAt_some
def beW:Int->List UInt8->Int
 | n,[]=>n
 | n,b::r=>beW ((n*256+b.toNat) % 18446744073709551616) r
theorem jeU:∀ (l:List UInt8) (n:Int) (b:UInt8),beW n (l++[b])=(beW n l*256+b.toNat) % 18446744073709551616
 | [],n,b=>rfl
 | c::l,n,b=>by simp only[List.cons_append,beW];exact jeU l _ b
theorem jfU:∀ (l:List UInt8) (n:Int),U64 n->U64 (beW n l)
 | [],n,h=>h
 | c::l,n,h=>by simp only[beW];exact jfU l _ ⟨by omega,by omega⟩
theorem jfT:∀ (l:List UInt8) (n:Int),0<=n->(n+1)*256^l.length<=18446744073709551616->beW n l=jcs n l
 | [],n,_,_=>rfl
 | b::r,n,h,h2=>by
  have D:=UInt8.toNat_lt b;have A:(0:Int)<256^r.length:=Int.pow_pos (by omega);rw[List.length_cons,Int.pow_succ,Int.mul_comm (256^r.length),<- Int.mul_assoc] at h2;have B:(n*256+b.toNat+1)*256^r.length<=(n+1)*256*256^r.length:=Int.mul_le_mul_of_nonneg_right (by omega) (by omega);have C:(n*256+b.toNat+1)*1<=(n*256+b.toNat+1)*256^r.length:=Int.mul_le_mul_of_nonneg_left (by omega) (by omega);simp only[beW,jcs];rw[Int.emod_eq_of_lt (by omega) (by omega)];exact jfT r _ (by omega) (by omega)
theorem jip (l:List UInt8) (h:l.length<=8):beW 0 l=jcs 0 l:=by
 refine jfT l 0 (by omega) ?_;have B:(256:Nat)^l.length<=256^8:=Nat.pow_le_pow_right (by omega) h;have A:=Int.ofNat_le.2 B;rw[Int.natCast_pow,Int.natCast_pow] at A;rw[Int.zero_add,Int.one_mul];exact Int.le_trans A (by decide)
theorem jiG (n:Int) (b:Nat) (h:U64 n) (D:b<256):bits .or .u64 ((n*256) % 18446744073709551616) (b:Int)=(n*256+b) % 18446744073709551616:=by
 obtain⟨B,C⟩:=h;obtain⟨m,rfl⟩:=Int.eq_ofNat_of_zero_le B;have e:((m:Int)*256) % 18446744073709551616=((m*256 % 18446744073709551616:Nat):Int):=by omega
 rw[e,bits_or_u64_nat _ _ (by omega) (by omega)];have A:m*256 % 18446744073709551616=(m % 72057594037927936) <<< 8:=by rw[Nat.shiftLeft_eq];omega
 rw[A,<- Nat.shiftLeft_add_eq_or_of_lt (by omega:b<2^8),Nat.shiftLeft_eq];omega
theorem jbr (s:ByteArray):(s.extract 1 s.size).data.toList=s.data.toList.drop 1:=by
 rw[ByteArray.data_extract,Array.toList_extract,List.extract_eq_take_drop,List.take_of_length_le (by rw[List.length_drop,Array.length_toList];exact Nat.le_refl _)]
theorem jg2 (s t:ByteArray) (f:UInt8) (A:0<s.size) (F:s[0]'A=f) (ht:s.extract 1 s.size=t):jbA s.data.toList=(if t.size<jaj f.toNat then .more else
  if (jaa (jco f.toNat (t.data.toList.take (jaj f.toNat)))).length=1+jaj f.toNat then .got (jco f.toNat (t.data.toList.take (jaj f.toNat))) (t.data.toList.drop (jaj f.toNat)) else .bad):=by
 have D:s.data.toList=f::t.data.toList:=by
  rw[<- ht,jbr];have B:0<s.data.toList.length:=by rw[Array.length_toList];exact A
  have C:s.data.toList[0]'B=f:=by rw[<- F];rfl
  generalize s.data.toList=q at B C ⊢;subst C
  cases q with
  | nil=>exact absurd B (by simp)
  | cons a r=>rfl
 rw[D,jbA];have E:t.data.toList.length=t.size:=Array.length_toList;rw[E]
theorem je2 (s:ByteArray):(jdb s).map (·.2)=s.data.toList:=by
 apply List.ext_getElem?;intro i;by_cases A:i<s.size
 ·simp[jdb,A]
 ·simp[jdb,A]
theorem jgl (t:ByteArray) (k:Nat) (C:k<=t.size) (h:∀ p∈jdb t,p.1≠k):(jdb t).map (·.2)=t.data.toList.take k:=by
 have B:¬ k<t.size:=fun A=>h _ (List.mem_of_getElem? (jeL t k A)) rfl
 rw[je2,List.take_of_length_le (by rw[Array.length_toList];show t.size<=k;omega)]
theorem jgm (t:ByteArray) (k:Nat) (A:List (Nat × UInt8)) (x:Nat × UInt8) (h:A++[x] <+: jdb t) (G:x.1=k):A.map (·.2)=t.data.toList.take k:=by
 have B:(jdb t)[A.length]? = some x:=by
  obtain⟨r,C⟩:=h;rw[<- C,List.append_assoc];simp
 have D:A.length<t.size:=by have:=(List.getElem?_eq_some_iff.1 B).1;rwa [je1] at this
 rw[jeL t _ D] at B;have E:A.length=k:=by rw[<- G,<- Option.some.inj B]
 obtain⟨r,C⟩:=h;have F:A=(jdb t).take k:=by rw[<- C,<- E,List.append_assoc,List.take_left]
 rw[F,List.map_take,je2]
structure NumIn (b k D:Nat) (s:ByteArray) (n:Int) (fm ff:Addr) (w W:World):Prop where
 size:W.heap[w.heap.size]? = some (.cells #[.int .i64 (k:Int)] 3 (0,0))
 num:W.heap[w.heap.size+1]? = some (.cells #[.int .u64 n] 22 (0,0))
 str:W.heap[b]? = some (.cells #[.string s] 206 (0,0))
 ge:GF fm ff W
 dfr:W.heap[D]? = some (.deferred (some []))
 below:Bw w W
theorem NumIn.go {b k D:Nat} {s:ByteArray} {n:Int} {E C:Addr} {w W B:World} (h:NumIn b k D s n E C w W) (A:Bw W B):NumIn b k D s n E C w B :=
 ⟨known A (Nat.le_refl _) h.size,known A (Nat.le_refl _) h.num,known A (Nat.le_refl _) h.str,h.ge.below A,known A (Nat.le_refl _) h.dfr,h.below.trans (A.mono h.below.size)⟩
theorem NumIn.store {b k D:Nat} {s:ByteArray} {n:Int} {B A:Addr} {w W:World} (h:NumIn b k D s n B A w W) (G:GF B A w) (H:b<w.heap.size) (m:Int):NumIn b k D s m B A w (W.setCell ⟨w.heap.size+1,0,none⟩ (.int .u64 m)):=by
 have E:=h.below.setCell (p:=⟨w.heap.size+1,0,none⟩) (Nat.le_succ _) (.int .u64 m);have F:D≠w.heap.size+1:=fun e=>by have C:=h.dfr;rw[e,h.num] at C;cases C
 exact⟨(Below.heap_setCell _ _ _ _ (by show w.heap.size≠w.heap.size+1;omega)).trans h.size,one_setCell h.num,(Below.heap_setCell _ _ _ _ (by show b≠w.heap.size+1;omega)).trans h.str,G.below E,(Below.heap_setCell _ _ _ _ (by show D≠w.heap.size+1;exact F)).trans h.dfr,E⟩
theorem Below.set_both {n b:Nat} {w V:World} (h:Below n w V) (v:Value):Below n (w.setCell ⟨b,0,none⟩ v) (V.setCell ⟨b,0,none⟩ v):=by
 refine⟨h.os,h.tape,h.output,by simpa using h.size,fun k B=>?_⟩;have A:=h.block k B;simp only[World.setCell,Array.getElem?_modify,A]
theorem ja5 (s t:ByteArray) (k:Nat) (ht:s.extract 1 s.size=t):s.extract (1+k) s.size=⟨(t.data.toList.drop k).toArray⟩:=by
 have A:(s.extract (1+k) s.size).data.toList=t.data.toList.drop k:=by
  rw[<- ht,jbr,List.drop_drop,ByteArray.data_extract,Array.toList_extract,List.extract_eq_take_drop,List.take_of_length_le (by rw[List.length_drop,Array.length_toList];exact Nat.le_refl _)]
 rw[<- A,Array.toArray_toList]
theorem jaf (l:List Int):(strOfNums l).size=l.length:=by
 unfold strOfNums;show (l.map _).toArray.size=_;rw[List.size_toArray,List.length_map]
theorem jc9 (b:Nat) (s:ByteArray) (a N:Addr) (w:World) (hX:w.heap[b]? = some (.cells #[.string s] 206 (0,0))) (hl:s.size<4294967281) (hE:GF a N w) :
  Calls Tryz.prog 96 #[.pointer (some ⟨b,0,none⟩)] w fun e w'=>match jbA s.data.toList with
   | .got n r=>e=.returned (.tuple #[.int .u64 n,.nilIface])/\Below w.heap.size (w.setCell ⟨b,0,none⟩ (.string ⟨r.toArray⟩)) w'
   | .more=>e=.returned (.tuple #[.int .u64 0,jcb a])/\Bw w w'
   | .bad=>e=.returned (.tuple #[.int .u64 0,jcb N])/\Bw w w':=by
 have c0:w.cell? ⟨b,0,none⟩=some (.string s):=cCc hX 0;have f0:w.frozen? ⟨b,0,none⟩=false:=cFz hX 0;have g0:=hE.efm;have g1:=hE.eff;have HE:=Lib.hid hE;have HX:=Lib.hid hX;clear hE hX;refine jbS Tryz.func96 rfl ?_;simp only[Tryz.ntmps96,List.size_toArray,List.length_cons,List.length_nil,Nat.reduceAdd,Nat.reduceSub,Array.replicate_succ,Array.replicate_zero,List.push_toArray,List.append_toArray,List.nil_append,List.cons_append];by_cases av:s.size=0
 ·have h1:s.toList.isEmpty=true:=by rw[jag,av];rfl
  have h2:jbA s.data.toList=.more:=by
   have:s.data.toList=[]:=List.eq_nil_of_length_eq_zero (by rw[Array.length_toList];exact av);rw[this];rfl
  rw[h2];go_wp2_with fail;go_step3;go_wp2_with fail;go_quiet (fail);go_wp2_with fail;rw[Exit.noGoto_ret];refine jc8 (v:=.tuple #[.int .u64 0,jcb a]) ?_ rfl ⟨rfl,bDr (Below.refl _ _) _⟩;simp[results,Tryz.f96,go_sem]
 ·have h1:s.toList.isEmpty=false:=by rw[jag];simp[av]
  have au:0<s.size:=by omega
  obtain⟨f,hf⟩:∃ f:UInt8,s[0]'au=f:=⟨_,rfl⟩;obtain⟨t,ht⟩:∃ t:ByteArray,s.extract 1 s.size=t:=⟨_,rfl⟩;have hG:=jg2 s t f au hf ht;have a3:t.size=s.size-1:=by rw[<- ht];simp
  have aS:=UInt8.toNat_lt f;have hb:=je8 f.toNat w aS;have aT:jaj f.toNat<=8:=by unfold jaj;(repeat' split)<;>omega
  obtain⟨k,hk⟩:∃ k,jaj f.toNat=k:=⟨_,rfl⟩;rw[hk] at hb aT hG;have HG:=Lib.hid hG;have HK:=Lib.hid hk;obtain⟨W1,aQ,ao,q,aE⟩:=jab w #[.int .i64 (k:Int)] 3;have c1:W1.cell? ⟨w.heap.size,0,none⟩=some (.int .i64 k):=cCc ao 0;have aN:W1.cell? ⟨b,0,none⟩=some (.string s):=cCc (known q (Nat.le_refl _) HX.out) 0;have aO:W1.cell? ⟨1,0,none⟩=some (jcb a):=(HE.out.below q).efm;clear hk hG;go_wp2_with fail;go_step3;go_wp2_with (go_at_call 119;refine hb.mono ?_;rintro e w1 ⟨rfl,h9⟩;obtain rfl:w=w1:=h9.symm);go_quiet (fail);by_cases a2:(s.size:Int)-1<k
  ·have hG:jbA s.data.toList=.more:=by rw[HG.out,if_pos (by omega)]
   have aK:=Lib.hid hG;clear hG;go_wp2_with fail;go_quiet (fail);go_wp2_with fail;rw[Exit.noGoto_ret];refine jc8 (v:=.tuple #[.int .u64 0,jcb a]) ?_ rfl (by rw[aK.out];exact⟨rfl,bDr (bDr q _) _⟩);simp[results,Tryz.f96,go_sem]
  ·obtain⟨W2,aR,ac,z,aF⟩:=jab (W1.drewN nq) #[.int .u64 0] 22
   have aJ:(W1.drewN nq).heap.size=w.heap.size+1:=aE;rw[aJ] at ac z aF;have aj:W2.heap[w.heap.size]? = some (.cells #[.int .i64 (k:Int)] 3 (0,0)):=(z.block _ (by omega)).trans ao;have ai:W2.heap[b]? = some (.cells #[.string s] 206 (0,0)):=(z.mono (Nat.le_succ _)).block b (by have:=(Array.getElem?_eq_some_iff.1 HX.out).1;omega) |>.trans (show W1.heap[b]? = _ from known q (Nat.le_refl _) HX.out)
   have e0:W2.cell? ⟨w.heap.size+1,0,none⟩=some (.int .u64 0):=cCc ac 0;have e1:W2.frozen? ⟨w.heap.size+1,0,none⟩=false:=cFz ac 0
   obtain⟨V2,an,aD,ar⟩:∃ V,W2.setCell ⟨w.heap.size+1,0,none⟩ (.int .u64 0)=V/\Boxed V (w.heap.size+1) 22 (.int .u64 0)/\∀ j,j≠w.heap.size+1->V.heap[j]? = W2.heap[j]? :=
    ⟨_,rfl,(show Boxed W2 (w.heap.size+1) 22 (.int .u64 0) from ac).set _,fun j hj=>Below.heap_setCell _ _ _ _ hj⟩
   have ah:V2.heap.size=w.heap.size+2:=by rw[<- an];simp;omega
   have ad:b<w.heap.size:=(Array.getElem?_eq_some_iff.1 HX.out).1;have aC:V2.heap[w.heap.size]? = some (.cells #[.int .i64 (k:Int)] 3 (0,0)):=(ar _ (by omega)).trans aj;have aq:V2.heap[b]? = some (.cells #[.string s] 206 (0,0)):=(ar _ (by omega)).trans ai;have d0:V2.cell? ⟨b,0,none⟩=some (.string s):=cCc aq 0;obtain⟨W3,aA,ap,u,aG⟩:=jab V2 #[.string t] 9;have ax:=Lib.hid aA;clear aA;go_wp2_with fail;apply wp_label;go_wp2_with (go_at_call 120;refine (jfs _ _).mono ?_;rintro e w2 ⟨rfl,rfl⟩;rw[ax.out]);rw[ah] at ap u aG;have ak:W3.heap[w.heap.size]? = some (.cells #[.int .i64 (k:Int)] 3 (0,0)):=(u.block _ (by omega)).trans aC;have aB:W3.heap[b]? = some (.cells #[.string s] 206 (0,0)):=(u.block _ (by omega)).trans aq;have al:Boxed W3 (w.heap.size+1) 22 (.int .u64 0):=(u.block _ (by omega)).trans aD;have aa:Bw w W3:=((q.trans (bDr (Below.refl _ _) nq)).trans ((z.mono (by omega)).trans (Below.trans (by rw[<- an];exact (Below.refl _ W2).setCell (p:=⟨w.heap.size+1,0,none⟩) (Nat.le_succ _) _) (u.mono (by omega)))));have am:=jft (w.heap.size+2) t (by omega) W3 ap;clear ao ac aj ai aq aC aD ar d0 e0 e1 c1 aN aO aQ aR an ax u z q ap
   refine jb2 (w.heap.size+2) 7 8 (fun x:Nat × UInt8=>.int .i64 x.1) (fun x:Nat × UInt8=>.int .u8 x.2.toNat) (gf:=149) (lb:=#[.pointer (some ⟨w.heap.size+2,0,none⟩)]) rfl (enters_of Tryz.func149 (by kernel_rfl) rfl)
    am (by omega) (Below.refl _ _) (fun _=>rfl)
    (fun Q W=>W.heap[w.heap.size]? = some (.cells #[.int .i64 (k:Int)] 3 (0,0))/\Boxed W (w.heap.size+1) 22 (.int .u64 (beW 0 (Q.map (·.2))))/\(∀ p∈Q,p.1≠k)/\Bw w W)
    (fun Q W=>W.heap[w.heap.size]? = some (.cells #[.int .i64 (k:Int)] 3 (0,0))/\(∃ pr x,Q=pr++[x]/\x.1=k/\Boxed W (w.heap.size+1) 22 (.int .u64 (beW 0 (pr.map (·.2)))))/\Bw w W)
    ((jcv _ _ (fun _=>#[.int .i64 (k:Int)]) _).and ((jhE _ _ _ (fun Q:List (Nat × UInt8)=>.int .u64 (beW 0 (Q.map (·.2))))).and ((ownFrom_pure _ _).and (ownFrom_below (Nat.le_refl _) aa.size))))
    ((jcv _ _ (fun _=>#[.int .i64 (k:Int)]) _).and (OwnFrom.and (fun s X Y row hs hg hr=>by obtain⟨pr,x,h1,h2,h3⟩:=hs;exact⟨pr,x,h1,h2,jhE _ _ _ (fun _=>.int .u64 (beW 0 (pr.map (·.2)))) s X Y row h3 hg hr⟩) (ownFrom_below (Nat.le_refl _) aa.size)))
    ⟨ak,al,(fun _ h=>by cases h),aa⟩ ?assign ?body ?fin
   case assign =>
    rintro l Q x W K hI hK;simp only[List.zip_toArray,List.zip_cons_cons,List.zip_nil_right,List.size_toArray,List.foldl_toArray',List.foldl_cons,List.foldl_nil,List.setIfInBounds_toArray,List.set_cons_succ,List.set_cons_zero] at hK ⊢;gi_wp2;exact hI
   case body =>
    rintro l Q x W ⟨aw,ag,R,hB⟩ au;simp only[List.zip_toArray,List.zip_cons_cons,List.zip_nil_right,List.size_toArray,List.foldl_toArray',List.foldl_cons,List.foldl_nil,List.setIfInBounds_toArray,List.set_cons_succ,List.set_cons_zero];have c0:W.cell? ⟨w.heap.size,0,none⟩=some (.int .i64 k):=cCc aw 0;have c1:=ag.cell;have c2:=ag.frozen;obtain⟨n,hn⟩:∃ n,beW 0 (Q.map (·.2))=n:=⟨_,rfl⟩;have aI:U64 n:=by rw[<- hn];exact jfU _ 0 ⟨by omega,by omega⟩
    rw[hn] at c1;have HN:=Lib.hid hn;have aL:=Lib.hid R;have ay:=Lib.hid aw;have az:=Lib.hid ag;have aM:=Lib.hid (jiG n x.2.toNat aI (UInt8.toNat_lt _));have a4:=UInt8.toNat_lt x.2;obtain⟨a0,a1⟩:=aI;clear hn R aw ag;by_cases a5:(x.1:Int)=k
    ·gi_wp2_with fail
     exact⟨KeepsFrom.refl _ _,rfl,ay.out,⟨Q,x,rfl,by omega,az.out⟩,hB⟩
    ·gi_wp2_with fail
     refine⟨(KeepsOthers.setCell _ _ _).from _,fun o ho=>(Below.heap_setCell _ _ _ _ (by show w.heap.size+2≠w.heap.size+1;omega)).trans ho,(Below.heap_setCell _ _ _ _ (by show w.heap.size≠w.heap.size+1;omega)).trans ay.out,?_,?_,hB.setCell (p:=⟨w.heap.size+1,0,none⟩) (Nat.le_succ _) _⟩
     ·rw[IntKind.wrap_u64,aM.out,List.map_append,List.map_singleton,jeU,HN.out]
      exact az.out.set _
     ·intro p hp
      rcases List.mem_append.1 hp with hp | hp
      ·exact aL.out p hp
      ·rw[List.mem_singleton.1 hp];omega
   case fin =>
    intro D W hD hI hK;obtain⟨ts,af⟩:∃ ts,t.data.toList.take k=ts:=⟨_,rfl⟩;have aH:ts.length=k:=by rw[<- af,List.length_take,Array.length_toList];show min k t.size=k;omega
    have ab:NumIn b k D s (jcs 0 ts) a N w W:=by
     have hv:beW 0 ts=jcs 0 ts:=jip ts (by omega);rcases hI with⟨h1,h2,h3,h4⟩ | ⟨Q,hp,h1,⟨pr,x,rfl,hx,h2⟩,h4⟩
     ·rw[jgl t k (by omega) h3,af,hv] at h2
      exact⟨h1,h2,known h4 (Nat.le_refl _) HX.out,HE.out.below h4,hK,h4⟩
     ·rw[jgm t k pr x hp hx,af,hv] at h2
      exact⟨h1,h2,known h4 (Nat.le_refl _) HX.out,HE.out.below h4,hK,h4⟩
    have aP:w.heap.size<=D:=Nat.le_trans aa.size hD;have Z:=Lib.hid aP;clear hI hK ak aB al aa aE aF aJ aG ah am;have M:=Lib.hid (HG.out.trans (if_neg (by omega)));rw[af] at M;have U:=jeA ts 0 (by omega);rw[aH] at U;obtain⟨v,hv⟩:∃ v,jcs 0 ts=v:=⟨_,rfl⟩;rw[hv] at ab U;have HU:=Lib.hid (jdv f ts (by rw[aH,HK.out]));have HI:=Lib.hid ab;have c0:W.cell? ⟨w.heap.size+1,0,none⟩=some (.int .u64 v):=cCc ab.num 0;have c1:W.frozen? ⟨w.heap.size+1,0,none⟩=false:=cFz ab.num 0;clear ab HG;obtain⟨A,S⟩:∃ A,jco f.toNat ts=A:=⟨_,rfl⟩;rw[S] at M HU;have aZ:=Lib.hid S;by_cases f0:f.toNat<=240
    ·have e9:(f.toNat:Int)=A:=by rw[<- S];unfold jco;rw[if_pos f0]
     have G:Hid (NumIn b k D s A a N w (W.setCell ⟨w.heap.size+1,0,none⟩ (.int .u64 A))):=HI.out.store HE.out ad _;obtain⟨Wx,O⟩:∃ Wx,W.setCell ⟨w.heap.size+1,0,none⟩ (.int .u64 A)=Wx:=⟨_,rfl⟩;rw[O] at G;clear S;go_wp2_with fail;let Inv:World->Prop:=NumIn b k D s A a N w;have P:∀ W d,Inv W->Bw W d->Inv d:=fun W d h hb=>NumIn.go h hb
     have q0:∀ X:WIn Inv,X.world.cell? ⟨w.heap.size,0,none⟩=some (.int .i64 (k:Int)):=fun X=>cCc (NumIn.size X.ok) 0
     have q1:∀ X:WIn Inv,X.world.cell? ⟨w.heap.size+1,0,none⟩=some (.int .u64 A):=fun X=>cCc (NumIn.num X.ok) 0
     have q2:∀ X:WIn Inv,X.world.cell? ⟨b,0,none⟩=some (.string s):=fun X=>cCc (NumIn.str X.ok) 0
     have q3:∀ X:WIn Inv,X.world.frozen? ⟨b,0,none⟩=false:=fun X=>cFz (NumIn.str X.ok) 0
     have q4:∀ X:WIn Inv,X.world.cell? ⟨2,0,none⟩=some (jcb N):=fun X=>(NumIn.ge X.ok).eff
     have y:Hid (∀ X:WIn Inv,NumIn b k D s A a N w X.world):=fun X=>X.ok
     have T:Hid (∀ X:WIn Inv,Calls Tryz.prog 54 #[.int .u64 A] X.world fun e w'=>e=.returned (.string (strOfNums (jaa A)))/\∃ Y:WIn Inv,w'=Y.world):=fun X=>jaz P (jaw A X.world HU.out)
     obtain⟨i,J⟩:∃ i,strOfNums (jaa A)=i:=⟨_,rfl⟩;have L:i.size=(jaa A).length:=by rw[<- J,jaf]
     rw[J] at T;obtain⟨m,hm⟩:∃ m,(jaa A).length=m:=⟨_,rfl⟩;rw[hm] at L M;have H:Hid (Inv Wx.drew):=G.out.go (Below.refl _ _).drew;have R:Nonempty (WIn Inv):=⟨⟨_,H.out⟩⟩;clear J hm P HI c0 c1;clear_value Inv;refine jaO Inv (by kernel_rfl) (by kernel_rfl) H.out ?_
     repeat (first | go_big_quiet_step ((go_at_call 54;with_reducible exact T.out _)) | quiet_step ((go_at_call 54;with_reducible exact T.out _)))
     refine wpQuiet_nil ?_;rintro _ ⟨X,rfl⟩;have B:=Lib.hid (y.out X);obtain⟨V,I⟩:∃ V,X.world=V:=⟨_,rfl⟩;have r0:V.cell? ⟨w.heap.size,0,none⟩=some (.int .i64 (k:Int)):=by rw[<- I];exact q0 X
     have r2:V.cell? ⟨b,0,none⟩=some (.string s):=by rw[<- I];exact q2 X
     have r3:V.frozen? ⟨b,0,none⟩=false:=by rw[<- I];exact q3 X
     have r1:V.cell? ⟨w.heap.size+1,0,none⟩=some (.int .u64 A):=by rw[<- I];exact q1 X
     have r4:V.cell? ⟨2,0,none⟩=some (jcb N):=by rw[<- I];exact q4 X
     rw[I] at B ⊢;clear q0 q1 q2 q3 q4 y T G H R O I X;by_cases E:m=1+k
     ·have F:=Lib.hid (M.out.trans (if_pos E))
      have g:((m:Int) != 1+k)=false:=by rw[E];simp
      clear L E;go_wp2_with fail;have b2:V.cell? ⟨w.heap.size+1,0,none⟩=some (.int .u64 A):=cCc B.out.num 0;clear r1 r4;go_region;have c:=Lib.hid (ja5 s t k ht);go_wp2_with fail;rw[Exit.noGoto_ret,c.out];have C:(V.setCell ⟨b,0,none⟩ (.string ⟨(t.data.toList.drop k).toArray⟩)).drew.heap[D]? = some (.deferred (some [])):=(Below.heap_setCell _ _ _ _ (by show D≠b;omega)).trans B.out.dfr;refine jaC (v:=.tuple #[.int .u64 A,.nilIface]) C ?_ (by rw[F.out];exact⟨rfl,jcZ ((Below.set_both B.out.below _).drew) Z.out C⟩);simp[results,Tryz.f96,go_sem]
     ·have F:=Lib.hid (M.out.trans (if_neg E))
      have g:((m:Int) != 1+k)=true:=by rw[bne_iff_ne];omega
      clear L E;go_wp2_with fail;go_quiet (fail);go_wp2_with fail;rw[Exit.noGoto_ret];have C:(V.drewN nq).heap[D]? = some (.deferred (some [])):=B.out.dfr;refine jaC (v:=.tuple #[.int .u64 0,jcb N]) C ?_ (by rw[F.out];exact⟨rfl,jcZ (bDr B.out.below _) Z.out C⟩);simp[results,Tryz.f96,go_sem]
    by_cases f1:f.toNat<=248
    ·have ae:k=1:=by rw[<- HK.out];unfold jaj;rw[if_neg f0,if_pos f1]
     have e9:v+(240+256*((f.toNat:Int)-241))=A:=by rw[<- S];unfold jco;rw[if_neg f0,if_pos f1,hv]
     have aX:0<=v:=U.1;have aY:v<=255:=by have:=U.2;rw[ae] at this;omega
     have G:Hid (NumIn b k D s A a N w (W.setCell ⟨w.heap.size+1,0,none⟩ (.int .u64 A))):=HI.out.store HE.out ad _;obtain⟨Wx,O⟩:∃ Wx,W.setCell ⟨w.heap.size+1,0,none⟩ (.int .u64 A)=Wx:=⟨_,rfl⟩;rw[O] at G;clear S U ae;go_wp2_with fail;let Inv:World->Prop:=NumIn b k D s A a N w;have P:∀ W d,Inv W->Bw W d->Inv d:=fun W d h hb=>NumIn.go h hb
     have q0:∀ X:WIn Inv,X.world.cell? ⟨w.heap.size,0,none⟩=some (.int .i64 (k:Int)):=fun X=>cCc (NumIn.size X.ok) 0
     have q1:∀ X:WIn Inv,X.world.cell? ⟨w.heap.size+1,0,none⟩=some (.int .u64 A):=fun X=>cCc (NumIn.num X.ok) 0
     have q2:∀ X:WIn Inv,X.world.cell? ⟨b,0,none⟩=some (.string s):=fun X=>cCc (NumIn.str X.ok) 0
     have q3:∀ X:WIn Inv,X.world.frozen? ⟨b,0,none⟩=false:=fun X=>cFz (NumIn.str X.ok) 0
     have q4:∀ X:WIn Inv,X.world.cell? ⟨2,0,none⟩=some (jcb N):=fun X=>(NumIn.ge X.ok).eff
     have y:Hid (∀ X:WIn Inv,NumIn b k D s A a N w X.world):=fun X=>X.ok
     have T:Hid (∀ X:WIn Inv,Calls Tryz.prog 54 #[.int .u64 A] X.world fun e w'=>e=.returned (.string (strOfNums (jaa A)))/\∃ Y:WIn Inv,w'=Y.world):=fun X=>jaz P (jaw A X.world HU.out)
     obtain⟨i,J⟩:∃ i,strOfNums (jaa A)=i:=⟨_,rfl⟩;have L:i.size=(jaa A).length:=by rw[<- J,jaf]
     rw[J] at T;obtain⟨m,hm⟩:∃ m,(jaa A).length=m:=⟨_,rfl⟩;rw[hm] at L M;have H:Hid (Inv Wx.drew):=G.out.go (Below.refl _ _).drew;have R:Nonempty (WIn Inv):=⟨⟨_,H.out⟩⟩;clear J hm P HI c0 c1;clear_value Inv;refine jaO Inv (by kernel_rfl) (by kernel_rfl) H.out ?_
     repeat (first | go_big_quiet_step ((go_at_call 54;with_reducible exact T.out _)) | quiet_step ((go_at_call 54;with_reducible exact T.out _)))
     refine wpQuiet_nil ?_;rintro _ ⟨X,rfl⟩;have B:=Lib.hid (y.out X);obtain⟨V,I⟩:∃ V,X.world=V:=⟨_,rfl⟩;have r0:V.cell? ⟨w.heap.size,0,none⟩=some (.int .i64 (k:Int)):=by rw[<- I];exact q0 X
     have r2:V.cell? ⟨b,0,none⟩=some (.string s):=by rw[<- I];exact q2 X
     have r3:V.frozen? ⟨b,0,none⟩=false:=by rw[<- I];exact q3 X
     have r1:V.cell? ⟨w.heap.size+1,0,none⟩=some (.int .u64 A):=by rw[<- I];exact q1 X
     have r4:V.cell? ⟨2,0,none⟩=some (jcb N):=by rw[<- I];exact q4 X
     rw[I] at B ⊢;clear q0 q1 q2 q3 q4 y T G H R O I X;by_cases E:m=1+k
     ·have F:=Lib.hid (M.out.trans (if_pos E))
      have g:((m:Int) != 1+k)=false:=by rw[E];simp
      clear L E;go_wp2_with fail;have b2:V.cell? ⟨w.heap.size+1,0,none⟩=some (.int .u64 A):=cCc B.out.num 0;clear r1 r4;go_region;have c:=Lib.hid (ja5 s t k ht);go_wp2_with fail;rw[Exit.noGoto_ret,c.out];have C:(V.setCell ⟨b,0,none⟩ (.string ⟨(t.data.toList.drop k).toArray⟩)).drew.heap[D]? = some (.deferred (some [])):=(Below.heap_setCell _ _ _ _ (by show D≠b;omega)).trans B.out.dfr;refine jaC (v:=.tuple #[.int .u64 A,.nilIface]) C ?_ (by rw[F.out];exact⟨rfl,jcZ ((Below.set_both B.out.below _).drew) Z.out C⟩);simp[results,Tryz.f96,go_sem]
     ·have F:=Lib.hid (M.out.trans (if_neg E))
      have g:((m:Int) != 1+k)=true:=by rw[bne_iff_ne];omega
      clear L E;go_wp2_with fail;go_quiet (fail);go_wp2_with fail;rw[Exit.noGoto_ret];have C:(V.drewN nq).heap[D]? = some (.deferred (some [])):=B.out.dfr;refine jaC (v:=.tuple #[.int .u64 0,jcb N]) C ?_ (by rw[F.out];exact⟨rfl,jcZ (bDr B.out.below _) Z.out C⟩);simp[results,Tryz.f96,go_sem]
    by_cases f2:f.toNat=249
    ·have ae:k=2:=by rw[<- HK.out];unfold jaj;rw[if_neg f0,if_neg f1,if_pos f2]
     have e9:v+2288=A:=by rw[<- S];unfold jco;rw[if_neg f0,if_neg f1,if_pos f2,hv]
     have aX:0<=v:=U.1;have aY:v<=65535:=by have:=U.2;rw[ae] at this;omega
     have aU:decide ((f.toNat:Int)<=240)=false:=by simp;omega
     have aV:decide ((f.toNat:Int)<=248)=false:=by simp;omega
     have aW:((f.toNat:Int)==249)=true:=by simp;omega
     have G:Hid (NumIn b k D s A a N w (W.setCell ⟨w.heap.size+1,0,none⟩ (.int .u64 A))):=HI.out.store HE.out ad _;obtain⟨Wx,O⟩:∃ Wx,W.setCell ⟨w.heap.size+1,0,none⟩ (.int .u64 A)=Wx:=⟨_,rfl⟩;rw[O] at G;clear S U ae;go_wp2_with fail;let Inv:World->Prop:=NumIn b k D s A a N w;have P:∀ W d,Inv W->Bw W d->Inv d:=fun W d h hb=>NumIn.go h hb
     have q0:∀ X:WIn Inv,X.world.cell? ⟨w.heap.size,0,none⟩=some (.int .i64 (k:Int)):=fun X=>cCc (NumIn.size X.ok) 0
     have q1:∀ X:WIn Inv,X.world.cell? ⟨w.heap.size+1,0,none⟩=some (.int .u64 A):=fun X=>cCc (NumIn.num X.ok) 0
     have q2:∀ X:WIn Inv,X.world.cell? ⟨b,0,none⟩=some (.string s):=fun X=>cCc (NumIn.str X.ok) 0
     have q3:∀ X:WIn Inv,X.world.frozen? ⟨b,0,none⟩=false:=fun X=>cFz (NumIn.str X.ok) 0
     have q4:∀ X:WIn Inv,X.world.cell? ⟨2,0,none⟩=some (jcb N):=fun X=>(NumIn.ge X.ok).eff
     have y:Hid (∀ X:WIn Inv,NumIn b k D s A a N w X.world):=fun X=>X.ok
     have T:Hid (∀ X:WIn Inv,Calls Tryz.prog 54 #[.int .u64 A] X.world fun e w'=>e=.returned (.string (strOfNums (jaa A)))/\∃ Y:WIn Inv,w'=Y.world):=fun X=>jaz P (jaw A X.world HU.out)
     obtain⟨i,J⟩:∃ i,strOfNums (jaa A)=i:=⟨_,rfl⟩;have L:i.size=(jaa A).length:=by rw[<- J,jaf]
     rw[J] at T;obtain⟨m,hm⟩:∃ m,(jaa A).length=m:=⟨_,rfl⟩;rw[hm] at L M;have H:Hid (Inv Wx.drew):=G.out.go (Below.refl _ _).drew;have R:Nonempty (WIn Inv):=⟨⟨_,H.out⟩⟩;clear J hm P HI c0 c1;clear_value Inv;refine jaO Inv (by kernel_rfl) (by kernel_rfl) H.out ?_
     repeat (first | go_big_quiet_step ((go_at_call 54;with_reducible exact T.out _)) | quiet_step ((go_at_call 54;with_reducible exact T.out _)))
     refine wpQuiet_nil ?_;rintro _ ⟨X,rfl⟩;have B:=Lib.hid (y.out X);obtain⟨V,I⟩:∃ V,X.world=V:=⟨_,rfl⟩;have r0:V.cell? ⟨w.heap.size,0,none⟩=some (.int .i64 (k:Int)):=by rw[<- I];exact q0 X
     have r2:V.cell? ⟨b,0,none⟩=some (.string s):=by rw[<- I];exact q2 X
     have r3:V.frozen? ⟨b,0,none⟩=false:=by rw[<- I];exact q3 X
     have r1:V.cell? ⟨w.heap.size+1,0,none⟩=some (.int .u64 A):=by rw[<- I];exact q1 X
     have r4:V.cell? ⟨2,0,none⟩=some (jcb N):=by rw[<- I];exact q4 X
     rw[I] at B ⊢;clear q0 q1 q2 q3 q4 y T G H R O I X;by_cases E:m=1+k
     ·have F:=Lib.hid (M.out.trans (if_pos E))
      have g:((m:Int) != 1+k)=false:=by rw[E];simp
      clear L E;go_wp2_with fail;have b2:V.cell? ⟨w.heap.size+1,0,none⟩=some (.int .u64 A):=cCc B.out.num 0;clear r1 r4;go_region;have c:=Lib.hid (ja5 s t k ht);go_wp2_with fail;rw[Exit.noGoto_ret,c.out];have C:(V.setCell ⟨b,0,none⟩ (.string ⟨(t.data.toList.drop k).toArray⟩)).drew.heap[D]? = some (.deferred (some [])):=(Below.heap_setCell _ _ _ _ (by show D≠b;omega)).trans B.out.dfr;refine jaC (v:=.tuple #[.int .u64 A,.nilIface]) C ?_ (by rw[F.out];exact⟨rfl,jcZ ((Below.set_both B.out.below _).drew) Z.out C⟩);simp[results,Tryz.f96,go_sem]
     ·have F:=Lib.hid (M.out.trans (if_neg E))
      have g:((m:Int) != 1+k)=true:=by rw[bne_iff_ne];omega
      clear L E;go_wp2_with fail;go_quiet (fail);go_wp2_with fail;rw[Exit.noGoto_ret];have C:(V.drewN nq).heap[D]? = some (.deferred (some [])):=B.out.dfr;refine jaC (v:=.tuple #[.int .u64 0,jcb N]) C ?_ (by rw[F.out];exact⟨rfl,jcZ (bDr B.out.below _) Z.out C⟩);simp[results,Tryz.f96,go_sem]
    ·have e9:v=A:=by rw[<- S];unfold jco;rw[if_neg f0,if_neg f1,if_neg f2,hv]
     have aU:decide ((f.toNat:Int)<=240)=false:=by simp;omega
     have aV:decide ((f.toNat:Int)<=248)=false:=by simp;omega
     have aW:((f.toNat:Int)==249)=false:=by simp;omega
     rw[e9] at HI;obtain⟨Wx,O⟩:∃ Wx,W=Wx:=⟨_,rfl⟩;have G:=HI;rw[O] at G;clear S U;go_wp2_with fail;let Inv:World->Prop:=NumIn b k D s A a N w;have P:∀ W d,Inv W->Bw W d->Inv d:=fun W d h hb=>NumIn.go h hb
     have q0:∀ X:WIn Inv,X.world.cell? ⟨w.heap.size,0,none⟩=some (.int .i64 (k:Int)):=fun X=>cCc (NumIn.size X.ok) 0
     have q1:∀ X:WIn Inv,X.world.cell? ⟨w.heap.size+1,0,none⟩=some (.int .u64 A):=fun X=>cCc (NumIn.num X.ok) 0
     have q2:∀ X:WIn Inv,X.world.cell? ⟨b,0,none⟩=some (.string s):=fun X=>cCc (NumIn.str X.ok) 0
     have q3:∀ X:WIn Inv,X.world.frozen? ⟨b,0,none⟩=false:=fun X=>cFz (NumIn.str X.ok) 0
     have q4:∀ X:WIn Inv,X.world.cell? ⟨2,0,none⟩=some (jcb N):=fun X=>(NumIn.ge X.ok).eff
     have y:Hid (∀ X:WIn Inv,NumIn b k D s A a N w X.world):=fun X=>X.ok
     have T:Hid (∀ X:WIn Inv,Calls Tryz.prog 54 #[.int .u64 A] X.world fun e w'=>e=.returned (.string (strOfNums (jaa A)))/\∃ Y:WIn Inv,w'=Y.world):=fun X=>jaz P (jaw A X.world HU.out)
     obtain⟨i,J⟩:∃ i,strOfNums (jaa A)=i:=⟨_,rfl⟩;have L:i.size=(jaa A).length:=by rw[<- J,jaf]
     rw[J] at T;obtain⟨m,hm⟩:∃ m,(jaa A).length=m:=⟨_,rfl⟩;rw[hm] at L M;have H:Hid (Inv Wx.drew):=G.out.go (Below.refl _ _).drew;have R:Nonempty (WIn Inv):=⟨⟨_,H.out⟩⟩;clear J hm P HI c0 c1;clear_value Inv;refine jaO Inv (by kernel_rfl) (by kernel_rfl) H.out ?_
     repeat (first | go_big_quiet_step ((go_at_call 54;with_reducible exact T.out _)) | quiet_step ((go_at_call 54;with_reducible exact T.out _)))
     refine wpQuiet_nil ?_;rintro _ ⟨X,rfl⟩;have B:=Lib.hid (y.out X);obtain⟨V,I⟩:∃ V,X.world=V:=⟨_,rfl⟩;have r0:V.cell? ⟨w.heap.size,0,none⟩=some (.int .i64 (k:Int)):=by rw[<- I];exact q0 X
     have r2:V.cell? ⟨b,0,none⟩=some (.string s):=by rw[<- I];exact q2 X
     have r3:V.frozen? ⟨b,0,none⟩=false:=by rw[<- I];exact q3 X
     have r1:V.cell? ⟨w.heap.size+1,0,none⟩=some (.int .u64 A):=by rw[<- I];exact q1 X
     have r4:V.cell? ⟨2,0,none⟩=some (jcb N):=by rw[<- I];exact q4 X
     rw[I] at B ⊢;clear q0 q1 q2 q3 q4 y T G H R O I X;by_cases E:m=1+k
     ·have F:=Lib.hid (M.out.trans (if_pos E))
      have g:((m:Int) != 1+k)=false:=by rw[E];simp
      clear L E;go_wp2_with fail;have b2:V.cell? ⟨w.heap.size+1,0,none⟩=some (.int .u64 A):=cCc B.out.num 0;clear r1 r4;go_region;have c:=Lib.hid (ja5 s t k ht);go_wp2_with fail;rw[Exit.noGoto_ret,c.out];have C:(V.setCell ⟨b,0,none⟩ (.string ⟨(t.data.toList.drop k).toArray⟩)).drew.heap[D]? = some (.deferred (some [])):=(Below.heap_setCell _ _ _ _ (by show D≠b;omega)).trans B.out.dfr;refine jaC (v:=.tuple #[.int .u64 A,.nilIface]) C ?_ (by rw[F.out];exact⟨rfl,jcZ ((Below.set_both B.out.below _).drew) Z.out C⟩);simp[results,Tryz.f96,go_sem]
     ·have F:=Lib.hid (M.out.trans (if_neg E))
      have g:((m:Int) != 1+k)=true:=by rw[bne_iff_ne];omega
      clear L E;go_wp2_with fail;go_quiet (fail);go_wp2_with fail;rw[Exit.noGoto_ret];have C:(V.drewN nq).heap[D]? = some (.deferred (some [])):=B.out.dfr;refine jaC (v:=.tuple #[.int .u64 0,jcb N]) C ?_ (by rw[F.out];exact⟨rfl,jcZ (bDr B.out.below _) Z.out C⟩);simp[results,Tryz.f96,go_sem]
end
def jbt (s:ByteArray):NumR->Value
 | .got n r=>.tuple #[.int .u64 n,.string ⟨r.toArray⟩,.int .i64 0]
 | .more=>.tuple #[.int .u64 0,.string s,.int .i64 20]
 | .bad=>.tuple #[.int .u64 0,.string s,.int .i64 21]
theorem jbm (s:ByteArray) (I H:Addr) (w:World) (S:s.size<4294967281) (J:GF I H w) :
  CR 68 #[.string s] w (jbt s (jbA s.data.toList)):=by
 obtain⟨P,Q,C,B,T⟩:=jab w #[.string s] 206;have F:=jc9 w.heap.size s I H P C S (J.below B);have O:Hid (∀ N,Bw w N->GF I H N):=fun N R=>J.below R
 have L:=Lib.hid C
 cases G:jbA s.data.toList with
 | got n r =>
  rw[G] at F;clear J G C;go_enter Tryz.func68,Tryz.ntmps68;go_wp2_with (go_at_call 96;refine F.mono ?_;rintro e D ⟨rfl,A⟩);have M:D.heap[w.heap.size]? = some (.cells #[.string ⟨r.toArray⟩] 206 (0,0)):=(A.block _ (by omega)).trans (one_setCell L.out);have V:D.cell? ⟨w.heap.size,0,none⟩=some (.string ⟨r.toArray⟩):=cCc M 0;go_quiet (fail);go_wp2_with fail;go_ret3;exact⟨rfl,bDr ((B.setCell (p:=⟨w.heap.size,0,none⟩) (Nat.le_refl _) _).trans (A.mono (by omega))) _⟩
 | more =>
  rw[G] at F;clear J G C;go_enter Tryz.func68,Tryz.ntmps68;go_wp2_with (first | (go_at_call 96;refine F.mono ?_;rintro e D ⟨rfl,A⟩) | (go_at_call 97;refine (jc6 I H D (O.out D (B.trans (A.mono (by omega))))).mono ?_;rintro e U ⟨rfl,E⟩));go_ret3;exact⟨rfl,B.trans ((A.trans (E.mono A.size)).mono (by omega))⟩
 | bad =>
  rw[G] at F;clear J G C;go_enter Tryz.func68,Tryz.ntmps68;go_wp2_with (first | (go_at_call 96;refine F.mono ?_;rintro e D ⟨rfl,A⟩) | (go_at_call 97;refine (jcN I H D (O.out D (B.trans (A.mono (by omega))))).mono ?_;rintro e U ⟨rfl,E⟩));go_ret3;exact⟨rfl,B.trans ((A.trans (E.mono A.size)).mono (by omega))⟩
def jhB (l:List UInt8):Option (ByteArray × List UInt8):=match jbA l with
 | .got n r=>if 400<n\/(r.length:Int)<n then none else some (⟨(r.take n.toNat).toArray⟩,r.drop n.toNat)
 | .more=>none
 | .bad=>none
def jdg (b:Nat) (fm ff:Addr) (w:World) (g:Option (ByteArray × List UInt8)) (e:Ending) (w':World):Prop:=match g with
 | some (t,r)=>e=.returned (.tuple #[.string t,.nilIface])/\Below w.heap.size (w.setCell ⟨b,0,none⟩ (.string ⟨r.toArray⟩)) w'
 | none=>(∃ er,(er=fm\/er=ff)/\e=.returned (.tuple #[.string ⟨#[]⟩,jcb er]))/\Below b w w'
theorem jhu (b:Nat) (s:ByteArray) (I H:Addr) (w:World) (G:w.heap[b]? = some (.cells #[.string s] 206 (0,0))) (Y:s.size<4294967281) (J:∀ W,Below b w W->GF I H W) :
  Calls Tryz.prog 98 #[.pointer (some ⟨b,0,none⟩)] w (jdg b I H w (jhB s.data.toList)):=by
 have D:=jc9 b s I H w G Y (J w (.refl _ _));have V:b<w.heap.size:=(Array.getElem?_eq_some_iff.1 G).1;have P:=Lib.hid G;have O:=Lib.hid J;unfold jhB jdg
 cases E:jbA s.data.toList with
 | more =>
  rw[E] at D;dsimp only at D ⊢;clear J G E;go_enter Tryz.func98,Tryz.ntmps98;go_wp2_with (go_at_call 96;refine D.mono ?_;rintro e B ⟨rfl,A⟩);go_ret2;exact⟨⟨I,.inl rfl,rfl⟩,A.mono (by omega)⟩
 | bad =>
  rw[E] at D;dsimp only at D ⊢;clear J G E;go_enter Tryz.func98,Tryz.ntmps98;go_wp2_with (go_at_call 96;refine D.mono ?_;rintro e B ⟨rfl,A⟩);go_ret2;exact⟨⟨H,.inr rfl,rfl⟩,A.mono (by omega)⟩
 | got n r =>
  rw[E] at D;dsimp only at D ⊢;have f:=(jaS E).1;obtain⟨Z,a⟩:=f
  have N:Hid (∀ B,Below w.heap.size (w.setCell ⟨b,0,none⟩ (.string ⟨r.toArray⟩)) B->B.cell? ⟨b,0,none⟩=some (.string ⟨r.toArray⟩)/\B.frozen? ⟨b,0,none⟩=false/\Hid (Below b w B)/\∀ v,Hid (Below w.heap.size (w.setCell ⟨b,0,none⟩ v) (B.setCell ⟨b,0,none⟩ v))):=fun B F=>by
   have L:B.heap[b]? = some (.cells #[.string ⟨r.toArray⟩] 206 (0,0)):=(F.block _ (by omega)).trans (one_setCell P.out);refine⟨cCc L 0,cFz L 0,((Below.refl b w).setCell (p:=⟨b,0,none⟩) (Nat.le_refl _) _).trans (F.mono (by omega)),fun v=>?_⟩
   exact⟨F.os,F.tape,F.output,by simpa using F.size,fun k X=>by
    by_cases e:k=b
    ·subst e;rw[one_setCell L,one_setCell P.out]
    ·exact (Below.heap_setCell _ _ _ _ e).trans ((F.block k X).trans ((Below.heap_setCell _ _ _ _ e).trans (Below.heap_setCell _ _ _ _ e).symm))⟩
  have d:(ByteArray.mk r.toArray).size=r.length:=by show r.toArray.size=_;rw[List.size_toArray]
  have c:r.length<4294967281:=by
   have L:=(jaS E).2;have g:s.data.toList.length=s.size:=by rw[Array.length_toList];rfl
   omega
  clear J G E;by_cases T:400<n
  ·rw[if_pos (.inl T)]
   go_enter Tryz.func98,Tryz.ntmps98;go_wp2_with (go_at_call 96;refine D.mono ?_;rintro e B ⟨rfl,A⟩;obtain⟨Q,R,C,-⟩:=N.out B A;have S:=(O.out B C.out).eff;clear A);go_quiet (fail);go_wp2_with fail;go_ret2;exact⟨⟨H,.inr rfl,rfl⟩,bDr C.out _⟩
  ·by_cases U:(r.length:Int)<n
   ·rw[if_pos (.inr U)]
    go_enter Tryz.func98,Tryz.ntmps98;go_wp2_with (go_at_call 96;refine D.mono ?_;rintro e B ⟨rfl,A⟩;obtain⟨Q,R,C,-⟩:=N.out B A;have S:=(O.out B C.out).efm;clear A);go_quiet (fail);go_wp2_with fail;go_ret2;exact⟨⟨I,.inl rfl,rfl⟩,bDr C.out _⟩
   ·rw[if_neg (by omega)]
    obtain⟨k,rfl⟩:∃ k:Nat,n=(k:Int):=⟨n.toNat,by omega⟩;rw[Int.toNat_natCast]
    have h:(ByteArray.mk r.toArray).extract 0 k=⟨(r.take k).toArray⟩:=by
     apply ByteArray.ext;simp[ByteArray.data_extract]
    have i:(ByteArray.mk r.toArray).extract k r.length=⟨(r.drop k).toArray⟩:=by
     apply ByteArray.ext;simp[ByteArray.data_extract];exact List.take_of_length_le (by rw[List.length_drop];omega)
    go_enter Tryz.func98,Tryz.ntmps98;go_wp2_with (go_at_call 96;refine D.mono ?_;rintro e B ⟨rfl,A⟩;obtain⟨Q,R,C,M⟩:=N.out B A;clear A);go_ret2;exact⟨rfl,(M _).out⟩
def jdn (s:ByteArray):Option (ByteArray × List UInt8)->Ending->Prop
 | some (t,r),e=>e=.returned (.tuple #[.string t,.string ⟨r.toArray⟩,.int .i64 0])
 | none,e=>∃ n:Int,n≠0/\e=.returned (.tuple #[.string ⟨#[]⟩,.string s,.int .i64 n])
theorem jev (s:ByteArray) (J I:Addr) (w:World) (Z:s.size<4294967281) (L:∀ W,Bw w W->GF J I W) :
  Calls Tryz.prog 69 #[.string s] w fun e b=>jdn s (jhB s.data.toList) e/\Bw w b:=by
 obtain⟨V,Y,D,C,a⟩:=jab w #[.string s] 206;have E:=jhu w.heap.size s J I V D Z (fun W M=>L W (C.trans M));have U:=Lib.hid L;have P:=Lib.hid D;unfold jdg at E;unfold jdn
 cases N:jhB s.data.toList with
 | some x =>
  obtain⟨t,r⟩:=x;rw[N] at E;dsimp only at E ⊢;clear L N D;go_enter Tryz.func69,Tryz.ntmps69;go_wp2_with (go_at_call 98;refine E.mono ?_;rintro e B ⟨rfl,A⟩);have R:B.heap[w.heap.size]? = some (.cells #[.string ⟨r.toArray⟩] 206 (0,0)):=(A.block _ (by omega)).trans (one_setCell P.out);have c:B.cell? ⟨w.heap.size,0,none⟩=some (.string ⟨r.toArray⟩):=cCc R 0;go_quiet (fail);go_wp2_with fail;go_ret3;exact⟨rfl,bDr ((C.setCell (p:=⟨w.heap.size,0,none⟩) (Nat.le_refl _) _).trans (A.mono (by omega))) _⟩
 | none =>
  rw[N] at E;dsimp only at E ⊢
  have Q:Hid (∀ B F,Bw w B->(F=J\/F=I)->∃ O:Int,Hid (O≠0)/\CR 97 #[jcb F] B (.int .i64 O)):=fun B F M h=>by
   rcases h with rfl | rfl
   ·exact⟨20,(by decide:(20:Int)≠0),jc6 _ I B (U.out B M)⟩
   ·exact⟨21,(by decide:(21:Int)≠0),jcN J _ B (U.out B M)⟩
  clear L N D;go_enter Tryz.func69,Tryz.ntmps69;go_wp2_with fail;refine E.mono ?_;rintro e B ⟨⟨F,H,rfl⟩,A⟩;obtain⟨O,T,X⟩:=Q.out B F (C.trans A) H;have G:Hid (Bw w B):=C.trans A;clear H A;go_wp2_with (go_at_call 97;refine X.mono ?_;rintro e d ⟨rfl,S⟩);go_ret3;exact⟨⟨O,T.out,rfl⟩,G.out.trans (S.mono G.out.size)⟩
def RdAt (b:Nat) (st:Rd) (W:World):Prop:=match st with
 | some l=>l.length<4294967281/\W.heap[b]? = some (.cells #[.string ⟨l.toArray⟩,.bool false] 116 (0,0))
 | none=>∃ s:ByteArray,W.heap[b]? = some (.cells #[.string s,.bool true] 116 (0,0))
theorem RdAt.lt {b:Nat} {A:Rd} {W:World} (h:RdAt b A W):b<W.heap.size:=by
 cases A with
 | none=>obtain⟨s,h⟩:=h;exact (Array.getElem?_eq_some_iff.1 h).1
 | some l=>exact (Array.getElem?_eq_some_iff.1 h.2).1
theorem RdAt.keep {b:Nat} {C:Rd} {q:Nat->Prop} {A B:World} (h:RdAt b C A) (D:Kept q A B) (E:q b):RdAt b C B:=by
 cases C with
 | none=>obtain⟨s,h⟩:=h;exact⟨s,D.known E h⟩
 | some l=>exact⟨h.1,D.known E h.2⟩
theorem jeY {l:List UInt8} {n:Int} {r:List UInt8} (h:jbA l=.got n r):r.length<=l.length:=Nat.le_of_lt (jaS h).2
theorem je5 (l:List UInt8):(ByteArray.mk l.toArray).data.toList=l:=rfl
theorem jdx (l:List UInt8):(ByteArray.mk l.toArray).size=l.length:=by show l.toArray.size=_;rw[List.size_toArray]
theorem jgs (l:List UInt8):jaW (some l)=match jhB l with
  | some (t,r)=>(t,some r)
  | none=>(⟨#[]⟩,none):=by
 unfold jaW jhB;dsimp only
 cases jbA l with
 | got n r=>dsimp only;split<;>rfl
 | more=>rfl
 | bad=>rfl
theorem jaR (b:Nat) (M:Rd) (S R:Addr) (w:World) (h:RdAt b M w) (J:GF S R w) :
  Calls Tryz.prog 41 #[.pointer (some ⟨b,0,none⟩)] w fun e U=>e=.returned (.int .u64 (jaA M).1)/\RdAt b (jaA M).2 U/\Kept (· ≠ b) w U:=by
 cases M with
 | none =>
  obtain⟨s,C⟩:=h;have V:w.cell? ⟨b,1,none⟩=some (.bool true):=cCc C 1;have G:Hid (RdAt b none w):=⟨s,C⟩;clear J C;go_enter Tryz.func41,Tryz.ntmps41;go_wp2_with fail;go_ret;exact⟨rfl,G.out,.refl⟩
 | some l =>
  obtain⟨T,C⟩:=h;obtain⟨Y,V⟩:=cl2 C;have H:=jbm ⟨l.toArray⟩ S R w (by rw[jdx];exact T) J;rw[je5] at H;have X:=Lib.hid C
  have I:Hid (∀ A,Bw w A->(A.frozen? ⟨b,0,none⟩=false/\A.cell? ⟨b,0,none⟩=some (.string ⟨l.toArray⟩))/\A.frozen? ⟨b,1,none⟩=false/\A.cell? ⟨b,1,none⟩=some (.bool false)):=fun A E =>
   have L:=known E (Nat.le_refl _) C;⟨⟨cFz L 0,cCc L 0⟩,cFz L 1,cCc L 1⟩
  cases F:jbA l with
  | got n r =>
   rw[F] at H;have e:jaA (some l)=(n,some r):=by unfold jaA;dsimp only;rw[F]
   rw[e]
   have G:Hid (∀ A,Bw w A->RdAt b (some r) (A.setCell ⟨b,0,none⟩ (.string ⟨r.toArray⟩))/\Kept (· ≠ b) w (A.setCell ⟨b,0,none⟩ (.string ⟨r.toArray⟩))):=fun A E =>
    ⟨⟨Nat.lt_of_le_of_lt (jeY F) T,hSk (known E (Nat.le_refl _) C) (i:=0) _⟩,(Kept.of E).set (fun _ h=>h rfl) _ _⟩
   clear J C F e;go_enter Tryz.func41,Tryz.ntmps41;go_wp2_with (go_at_call 68;refine H.mono ?_;rintro e A ⟨rfl,B⟩;unfold jbt;obtain⟨⟨P,N⟩,Q,O⟩:=I.out A B;have D:=Lib.hid B;clear B);go_ret;exact⟨rfl,G.out A D.out⟩
  | more =>
   rw[F] at H;have e:jaA (some l)=(0,none):=by unfold jaA;dsimp only;rw[F]
   rw[e]
   have G:Hid (∀ A,Bw w A->RdAt b none (A.setCell ⟨b,1,none⟩ (.bool true))/\Kept (· ≠ b) w (A.setCell ⟨b,1,none⟩ (.bool true))):=fun A E =>
    ⟨⟨_,hSk (known E (Nat.le_refl _) C) (i:=1) _⟩,(Kept.of E).set (fun _ h=>h rfl) _ _⟩
   clear J C F e;go_enter Tryz.func41,Tryz.ntmps41;go_wp2_with (go_at_call 68;refine H.mono ?_;rintro e A ⟨rfl,B⟩;unfold jbt;obtain⟨⟨P,N⟩,Q,O⟩:=I.out A B;have D:=Lib.hid B;clear B);go_ret;exact⟨rfl,G.out A D.out⟩
  | bad =>
   rw[F] at H;have e:jaA (some l)=(0,none):=by unfold jaA;dsimp only;rw[F]
   rw[e]
   have G:Hid (∀ A,Bw w A->RdAt b none (A.setCell ⟨b,1,none⟩ (.bool true))/\Kept (· ≠ b) w (A.setCell ⟨b,1,none⟩ (.bool true))):=fun A E =>
    ⟨⟨_,hSk (known E (Nat.le_refl _) C) (i:=1) _⟩,(Kept.of E).set (fun _ h=>h rfl) _ _⟩
   clear J C F e;go_enter Tryz.func41,Tryz.ntmps41;go_wp2_with (go_at_call 68;refine H.mono ?_;rintro e A ⟨rfl,B⟩;unfold jbt;obtain⟨⟨P,N⟩,Q,O⟩:=I.out A B;have D:=Lib.hid B;clear B);go_ret;exact⟨rfl,G.out A D.out⟩
theorem ja8 (m:Int) (b:Nat) (B:Rd) (M L:Addr) (w:World) (Q:U64 m) (h:RdAt b B w) (N:GF M L w) :
  Calls Tryz.prog 40 #[.pointer (some ⟨b,0,none⟩),.int .u64 m] w fun e P=>e=.returned (.int .u64 (jan m B).1)/\RdAt b (jan m B).2 P/\Kept (· ≠ b) w P:=by
 have E:=jaR b B M L w h N
 have I:U64 (jaA B).1:=by
  unfold jaA;split
  ·exact⟨by decide,by decide⟩
  ·split
   ·rename_i e;exact (jaS e).1
   ·exact⟨by decide,by decide⟩
   ·exact⟨by decide,by decide⟩
 obtain⟨n,J,e⟩:∃ n J,jaA B=(n,J):=⟨_,_,rfl⟩;rw[e] at E I;dsimp only at E I;obtain⟨T,U⟩:=I;obtain⟨R,S⟩:=Q;unfold jan;rw[e];dsimp only;clear h N e;by_cases O:m<n
 ·rw[if_pos O]
  go_enter Tryz.func40,Tryz.ntmps40
  go_wp2_with
   (go_at_call 41
    refine E.mono ?_;rintro e C ⟨rfl,A,D⟩
    have H:∃ (v:Value) (x:Bool),C.heap[b]? = some (.cells #[v,.bool x] 116 (0,0))/\∃ s,v=.string s:=by
     cases J with
     | none=>obtain⟨s,h⟩:=A;exact⟨_,_,h,_,rfl⟩
     | some l=>exact⟨_,_,A.2,_,rfl⟩
    obtain⟨v,x,F,s,rfl⟩:=H;have V:C.cell? ⟨b,1,none⟩=some (.bool x):=cCc F 1;have X:C.frozen? ⟨b,1,none⟩=false:=cFz F 1;have G:Hid (RdAt b none (C.setCell ⟨b,1,none⟩ (.bool true))/\Kept (· ≠ b) w (C.setCell ⟨b,1,none⟩ (.bool true))):=⟨⟨s,hSk F (i:=1) _⟩,D.set (fun _ h=>h rfl) _ _⟩;clear A D F)
  go_ret;exact⟨rfl,G.out⟩
 ·rw[if_neg O]
  go_enter Tryz.func40,Tryz.ntmps40;go_wp2_with (go_at_call 41;refine E.mono ?_;rintro e C ⟨rfl,A,D⟩;have G:=Lib.hid (And.intro A D);clear A D);go_ret;exact⟨rfl,G.out⟩
theorem jcx (b:Nat) (P:Rd) (S R:Addr) (w:World) (h:RdAt b P w) (N:∀ W,Bw w W->GF S R W) :
  Calls Tryz.prog 42 #[.pointer (some ⟨b,0,none⟩)] w fun e U=>e=.returned (.string (jaW P).1)/\RdAt b (jaW P).2 U/\Kept (· ≠ b) w U:=by
 cases P with
 | none =>
  obtain⟨s,D⟩:=h;have V:w.cell? ⟨b,1,none⟩=some (.bool true):=cCc D 1;have G:Hid (RdAt b none w):=⟨s,D⟩;clear N D;go_enter Tryz.func42,Tryz.ntmps42;go_wp2_with fail;go_ret;exact⟨rfl,G.out,.refl⟩
 | some l =>
  obtain⟨T,D⟩:=h;obtain⟨f,V⟩:=cl2 D;have H:=jev ⟨l.toArray⟩ S R w (by rw[jdx];exact T) N;rw[je5] at H
  have J:Hid (∀ A,Bw w A->(A.frozen? ⟨b,0,none⟩=false/\A.cell? ⟨b,0,none⟩=some (.string ⟨l.toArray⟩))/\A.frozen? ⟨b,1,none⟩=false/\A.cell? ⟨b,1,none⟩=some (.bool false)):=fun A F =>
   have M:=known F (Nat.le_refl _) D;⟨⟨cFz M 0,cCc M 0⟩,cFz M 1,cCc M 1⟩
  rw[jgs]
  cases C:jhB l with
  | some x =>
   obtain⟨t,r⟩:=x;rw[C] at H
   have L:r.length<=l.length:=by
    unfold jhB at C
    cases O:jbA l with
    | got n q =>
     rw[O] at C;dsimp only at C;split at C
     ·cases C
     ·cases C
      have:=jeY O;rw[List.length_drop];omega
    | more=>rw[O] at C;cases C
    | bad=>rw[O] at C;cases C
   have G:Hid (∀ A,Bw w A->RdAt b (some r) (A.setCell ⟨b,0,none⟩ (.string ⟨r.toArray⟩))/\Kept (· ≠ b) w (A.setCell ⟨b,0,none⟩ (.string ⟨r.toArray⟩))):=fun A F =>
    ⟨⟨Nat.lt_of_le_of_lt L T,hSk (known F (Nat.le_refl _) D) (i:=0) _⟩,(Kept.of F).set (fun _ h=>h rfl) _ _⟩
   clear N D C L;dsimp only;go_enter Tryz.func42,Tryz.ntmps42;go_wp2_with (go_at_call 69;refine H.mono ?_;rintro e A ⟨I,B⟩;unfold jdn at I;subst I;obtain⟨⟨Z,X⟩,a,Y⟩:=J.out A B;have E:=Lib.hid B;clear B);go_ret;exact⟨rfl,G.out A E.out⟩
  | none =>
   rw[C] at H
   have G:Hid (∀ A,Bw w A->RdAt b none (A.setCell ⟨b,1,none⟩ (.bool true))/\Kept (· ≠ b) w (A.setCell ⟨b,1,none⟩ (.bool true))):=fun A F =>
    ⟨⟨_,hSk (known F (Nat.le_refl _) D) (i:=1) _⟩,(Kept.of F).set (fun _ h=>h rfl) _ _⟩
   clear N D C;dsimp only;go_enter Tryz.func42,Tryz.ntmps42;go_wp2_with (go_at_call 69;refine H.mono ?_;rintro e A ⟨I,B⟩;unfold jdn at I;obtain⟨d,Q,rfl⟩:=I;have c:(d != 0)=true:=(by simpa using Q);obtain⟨⟨Z,X⟩,a,Y⟩:=J.out A B;have E:=Lib.hid B;clear B);go_ret;exact⟨rfl,G.out A E.out⟩
theorem jcR (b:Nat) (C:Rd) (w:World) (h:RdAt b C w) :
  Calls Tryz.prog 43 #[.pointer (some ⟨b,0,none⟩)] w fun e A=>e=.returned (.bool (decide (C=some [])))/\Kept (· ≠ b) w A/\RdAt b C A:=by
 have D:Hid (∀ A,Bw w A->Kept (· ≠ b) w A/\RdAt b C A):=fun A E=>⟨.of E,h.keep (q:=fun _=>True) (.of E) trivial⟩
 cases C with
 | none =>
  obtain⟨s,B⟩:=h;obtain⟨F,G⟩:=cl2 B;rw[decide_eq_false (by intro h;cases h)];clear B;go_enter Tryz.func43,Tryz.ntmps43;go_wp2_with fail;go_ret;exact⟨rfl,D.out _ (.refl _ _)⟩
 | some l =>
  obtain⟨I,B⟩:=h;obtain⟨F,G⟩:=cl2 B;have H:decide (some l=some [])=l.isEmpty:=by cases l<;>simp
  rw[H];clear B;go_enter Tryz.func43,Tryz.ntmps43;go_wp2_with fail;go_ret;exact⟨rfl,D.out _ (.refl _ _)⟩
end Go.Proofs.YtlmlcadcdhhlcaaGreatDoor
