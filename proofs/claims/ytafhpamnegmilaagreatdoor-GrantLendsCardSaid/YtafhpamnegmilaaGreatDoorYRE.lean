/- Package hll: Merge. The reference of layer 8: Plus, New, Col, Add, Merge, Lower, Count, at counters that are right. The reference of layer 9: digits, Bucket. The references of layers 7 and 9 in plain data: places digit by digit, bins put in. No program in sight. The reference of layer 9: Bounds. -/
import Derived.RegionIn
import Derived.Test.YtafhpamnegmilaaGreatDoorYLR
import Derived.Test.YtafhpamnegmilaaGreatDoorYRC
set_option maxHeartbeats 2000000
set_option maxRecDepth 100000
namespace Go.Proofs.YtafhpamnegmilaaGreatDoor
open Go Go.RowKit Go.Shelf
section
attribute [local go_sem] Oper.semAt_some
theorem jrQ {α:Type} (f:α->Nat × UInt8) (l B:Nat) (s:ByteArray) (O:s.size<4294967281) (E:List α) (D:E.map f=jeM s) (J Y:List α->World->Prop)
  (g:∀ A x W,J A W->A.length<E.length->YieldAt Fence.wide 7 Tryz.prog l #[.int .i64 (f x).1,.int .u8 (f x).2.toNat] W fun e F =>
   (e=.returned (.bool true)/\J (A++[x]) F/\KL [B] W F)\/(e=.returned (.bool false)/\Y (A++[x]) F))
  (W:World) (C:W.heap[B]? = some (.cells #[.string s] 9 (0,0))) (c:J [] W) :
  CallsIn Fence.wide 8 Tryz.prog 205 #[.func (.yield l) #[] #[],.pointer (some ⟨B,0,none⟩)] W fun e F=>(∃ v,e=.returned v) /\
   ((∃ b,b=E/\J b F)\/(∃ A,A <+: E/\Y A F)):=by
 have M:E.length=s.size:=by rw[<- jkF s,<- D,List.length_map]
 refine callsIn_of_wp Tryz.func205 rfl trivial ?_ rfl;simp only[Tryz.ntmps205,List.size_toArray,List.length_cons,List.length_nil,Nat.reduceAdd,Nat.reduceSub,Array.replicate_succ,Array.replicate_zero,List.push_toArray,List.append_toArray,List.nil_append,List.cons_append];have V:=Lib.hid M;have P:=Lib.hid C;have Q:=Lib.hid D;have m:W.cell? ⟨B,0,none⟩=some (.string s):=cCc C 0;clear M C D;gi_wp2;gi_loopw [3,6] (fun _ i wr=>∃ k:Nat,k<=s.size/\i=.int .i64 k/\J (E.take k) wr/\KL [B] W wr) (fun _ i _=>s.size-(intOf i).toNat)
 case atStart=>exact⟨0,Nat.zero_le _,rfl,c,KL.refl _ _⟩
 case round =>
  obtain⟨k,p,rfl,G,L⟩:=hrel;by_cases T:k<s.size
  ·have U:=jnp s k T
   rw[<- Q.out,List.getElem?_map] at U;obtain⟨y,N,I⟩:=Option.map_eq_some_iff.1 U;obtain⟨o,tmps,assign,body,a,d⟩:=g _ y _ G (by rw[List.length_take,V.out];omega);rw[I] at a;dsimp only at a;have X:=Lib.hid N;have Z:=L B (List.mem_singleton.2 rfl) _ P.out;have n:wr.cell? ⟨B,0,none⟩=some (.string s):=cCc Z 0;clear U Z N I;gi_wp2;refine d.mono ?_;rintro e j (⟨rfl,R,S⟩ | ⟨rfl,H⟩)
   ·gi_wp2
    go_roundw
    case rel=>exact⟨k+1,by omega,by simp,by rw[jai X.out];exact R,L.trans S⟩
    case measure=>simp[intOf];omega
   ·gi_wp2
    refine bodyPost_ret (results_none rfl _ _ _) rfl ?_;exact⟨⟨_,rfl⟩,.inr ⟨_,by have h:=List.take_prefix (k+1) E;rwa [jai X.out] at h,H⟩⟩
  ·obtain rfl:k=s.size:=by omega
   gi_wp2
   go_end0;exact⟨⟨_,rfl⟩,.inl ⟨_,List.take_of_length_le (by rw[V.out];omega),G⟩⟩
theorem jur {α:Type} (f:α->Nat × UInt8) (C:Nat) (s:ByteArray) (A:s.size<4294967281) (B:List α) (D:B.map f=jeM s) (w:World) (L:w.heap[C]? = some (.cells #[.string s] 9 (0,0))) :
  SeqStopsK Fence.wide 8 Tryz.prog 205 #[.pointer (some ⟨C,0,none⟩)] (fun x:α=>#[.int .i64 (f x).1,.int .u8 (f x).2.toNat]) (KL [C]) (fun M=>M=B) (fun E=>E <+: B) B.length w:=fun l J F W H _ _ I G =>
 jrQ f l C s A B D J F I W (jab H (Nat.le_refl _) L) G
def jwo (s1 s2:Nat) (x y:Value) (t:Array Value):Array Value:=(t.setIfInBounds s1 x).setIfInBounds s2 y
theorem jk5 {α:Type} {P:Program} {g:Operand} {G:Array Tmp} {assign body:Code} {Q:Exit->Act->World->Prop} {a:Act} {w:World} (L:List Nat) (J M:Nat) (v1 v2:α->Value)
  {gf:Nat} {lb:Array Value} (Z:a.eval g=.func (.func gf) #[] lb) (U:∀ args w,(callFunc gf args).run P w=.ok (.enter gf args) w)
  {A:α->Array Value} {xs:List α} {N:Nat} {S:World} (H:SeqStopsK Fence.wide 8 P gf lb A (KL L) (fun c=>c=xs) (fun C=>C <+: xs) N S)
  (Y:∀ b∈L,b<w.heap.size) (O:Bw S w) (R:∀ x,(A x).size=G.size)
  (I:List α->World->Prop) (X:OwnFrom w.heap.size I) (V:I [] w)
  (B:∀ (l:Nat) (C:List α) (x:α) (W:World) (K:Act->World->Prop),I C W->(I C W->K { tmps:=jwo J M (v1 x) (v2 x) ((G.zip (A x)).foldl (fun t (p,v)=>t.setIfInBounds p v) a.tmps),defers:=[] } W) ->
   assign.wpIn (Fence.wide.inRound l) 7 P (Exit.then K (fun _ _ _=>False)) { tmps:=(G.zip (A x)).foldl (fun t (p,v)=>t.setIfInBounds p v) a.tmps,defers:=[] } W)
  (E:∀ (l:Nat) (C:List α) (x:α) (W:World),I C W->C.length<N->body.wpIn (Fence.wide.inRound l) 7 P (ownPostG w.heap.size (KL L) I (fun _ _ _=>False) (C++[x]) W) { tmps:=jwo J M (v1 x) (v2 x) ((G.zip (A x)).foldl (fun t (p,v)=>t.setIfInBounds p v) a.tmps),defers:=[] } W)
  (F:∀ (D:Nat) (W:World),w.heap.size<=D->I xs W->W.heap[D]? = some (.deferred (some []))->Q .normal { a with defers:={ target:=.collected D,args:=#[] }::a.defers } W) :
  (Code.rangeFunc g G assign body).wp P Q a w:=by
 generalize hT:(fun x=>jwo J M (v1 x) (v2 x) ((G.zip (A x)).foldl (fun t (p,v)=>t.setIfInBounds p v) a.tmps))=T;have e:∀ x,jwo J M (v1 x) (v2 x) ((G.zip (A x)).foldl (fun t (p,v)=>t.setIfInBounds p v) a.tmps)=T x:=fun x=>congrFun hT x
 simp only[e] at B E;exact jhf L T Z U H Y O R I X V B E F
def jc6 (r:List Nat) (l:List (Nat × UInt8)):List Nat:=l.foldl (fun r p=>jbg r p.1 p.2.toNat) r
theorem jdA:∀ (l:List (Nat × UInt8)) (r:List Nat),(jc6 r l).length=r.length
 | [],_=>rfl
 | p::l,r=>by show (jc6 (jbg r p.1 p.2.toNat) l).length=_;rw[jdA l,jcG]
theorem joE (f:Nat->UInt8) (r:List Nat) (j:Nat):∀ n,(jc6 r ((List.range n).map fun i=>(i,f i))).getD j 0=if j<n/\j<r.length then max (r.getD j 0) (f j).toNat else r.getD j 0
 | 0=>by rw[if_neg (by omega)];rfl
 | n+1=>by
  have e:jc6 r ((List.range (n+1)).map fun i=>(i,f i))=jbg (jc6 r ((List.range n).map fun i=>(i,f i))) n (f n).toNat:=by
   unfold jc6;rw[List.range_succ,List.map_append,List.foldl_append];rfl
  rw[e,jiY,jdA,joE f r j n];by_cases h:n=j
  ·subst h
   by_cases A:n<r.length
   ·rw[if_pos ⟨rfl,A⟩,if_neg (by omega),if_pos ⟨by omega,A⟩]
   ·rw[if_neg (by omega),if_neg (by omega),if_neg (by omega)]
  ·rw[if_neg (fun e=>h e.1)]
   by_cases A:j<n/\j<r.length
   ·rw[if_pos A,if_pos (by omega)]
   ·rw[if_neg A,if_neg (by omega)]
theorem jsd (r A:List Nat) (D:r.length=A.length) (h:∀ x∈A,x<256):jc6 r (jeM (jap A))=jd2 r A:=by
 refine jgd _ _ (by rw[jdA,jgh]) fun i B=>?_
 rw[jdA] at B;have C:=jdk A h;unfold jeM;rw[joE,joj _ _ _ B,if_pos ⟨by rw[jbz];omega,B⟩]
 have:((jap A).data.toList.getD i 0).toNat=A.getD i 0:=by
  conv=>rhs;rw[<- C]
  rw[List.getD_eq_getElem?_getD,List.getD_eq_getElem?_getD,List.getElem?_map]
  cases (jap A).data.toList[i]?<;>rfl
 rw[this]
def XI (N g:Nat) (r:List Nat) (w:World) (pre:List { p:Nat × UInt8 // p.1<N }) (W:World):Prop:=RegsAt W g (jc6 r (pre.map (·.1)))/\w.grownBy W (some g)
theorem jw9 (N g:Nat) (r:List Nat) (w:World) (C:Nat) (I:w.heap.size<=C):OwnFrom C (XI N g r w):=fun M X Y row L G hr=>by
 obtain⟨F,H⟩:=L
 have E:∀ k o,X.heap[k]? = some o->o.isCells=true->some k≠row:=fun k o J D e=>by
  obtain⟨-,P,B,A⟩:=hr k e.symm;rw[J] at B
  cases B
  rw[D] at A
  cases A
 obtain⟨cs,O,D,-⟩:=id F;exact⟨F.grown G (E _ _ D rfl),H.andThen G (fun j e=>.inl (Nat.le_trans I (hr j e).1))⟩
theorem jpg (b:Nat) (r C:List Nat) (w:World) (h1:3<=b) (h2:b<=8) (hl:r.length=2^b) (hr:∀ i,r.getD i 0<=65-b) (m:C.length=2^b) (n:∀ i,C.getD i 0<=65-b) :
  CR 264 #[.agg #[.int .i64 b,.string (jap r)],.agg #[.int .i64 b,.string (jap C)]] w (.tuple #[.agg #[.int .i64 b,.string (jap (jd2 r C))],.int .i64 0]):=by
 have L:Hid (∀ w1,CR 177 #[.agg #[.int .i64 b,.string (jap C)]] w1 (.bool true)):=fun w1=>(jdd b (jap C) w1).mono fun e w' h=>⟨by rw[h.1,jdo b C h1 h2 m n],h.2⟩
 have aa:=Lib.hid (fun w=>jpi b r w h1 h2 hl hr);have HT:Hid (∀ (s:ByteArray) (g cap:Nat) (W:World) (rr:List Nat) (p q:Nat),RegsAt W g rr->rr.length=2^b->p<2^b->Calls Tryz.prog 247 #[.agg #[.int .i64 b,.string s,.slice (some ⟨g,0,none⟩) (2^b) cap,.func (.func 244) #[] #[]],.int .i64 p,.int .u8 q] W fun e w'=>e=.returned (.tuple #[])/\RegsAt w' g (jbg rr p q)/\W.grownBy w' (some g)):=fun s g cap W rr p q h aw hp=>jk1 _ s g (2^b) cap p q rr W h (by omega) aw
 have HD:Hid (∀ (s:ByteArray) (g cap:Nat) (W:World),RegsAt W g (jd2 r C)->CR 241 #[.agg #[.int .i64 b,.string s,.slice (some ⟨g,0,none⟩) (2^b) cap,.func (.func 244) #[] #[]]] W (.agg #[.int .i64 b,.string (jap (jd2 r C))])):=fun s g cap W h=>jh8 _ s g (2^b) cap _ _ W h (by rw[jgh,hl])
 have ab:=Lib.hid (jsd r C (by omega) (fun x hx=>by have:=jeH n x hx;omega))
 have hO:∀ p∈jeM (jap C),p.1<2^b:=fun p hp=>by
  obtain⟨i,hi,rfl⟩:=List.mem_map.1 hp;rw[List.mem_range,jbz,m] at hi;exact hi
 have HZ:Hid ((jap C).size<4294967281):=by
  have:2^b<=2^8:=Nat.pow_le_pow_right (by omega) h2;show _<_;rw[jbz];omega
 have HL:Hid (∀ l,(jc6 r l).length=2^b):=fun l=>by rw[jdA,hl]
 obtain⟨ls,ax⟩:∃ ls:List { p:Nat × UInt8 // p.1<2^b },ls.map (·.1)=jeM (jap C):=⟨(jeM (jap C)).attachWith _ hO,List.attachWith_map_subtype_val _⟩;have U:=Lib.hid ax;clear ax hO;generalize jap C=s2 at L ab U HZ ⊢;generalize jap r=s at aa ⊢;generalize jap (jd2 r C)=s3 at HD ⊢;obtain⟨W0,aL,f,ar,aq,ag,aP⟩:=jbJ w #[.int .i64 b,.string s] 34 #[.int .i64 b,.string s2] 34 #[.int .i64 0,.string ⟨#[]⟩] 34;have ae:=Lib.hid f;have af:=Lib.hid ar;have aF:=Lib.hid aq;have y:=Lib.hid ag;obtain⟨z0,z1⟩:=cl2 f;clear f ar aq ag hl hr m n h1 h2;refine jay Tryz.func264 rfl ?_;simp only[Tryz.ntmps264,List.size_toArray,List.length_cons,List.length_nil,Nat.reduceAdd,Nat.reduceSub,Array.replicate_succ,Array.replicate_zero,List.push_toArray,List.append_toArray,List.nil_append,List.cons_append];go_wp2_with fail;refine (aa.out _).mono ?_;rintro e J ⟨g,cap,rfl,o,aI,E⟩;obtain⟨W2,aM,a,ah,aJ⟩:=jaf J #[.int .i64 b,.string s,.slice (some ⟨g,0,none⟩) (2^b) cap,.nilFunc] 317;have aS:=jr9 (off:=3) a rfl (.func 244);obtain⟨W3,Z⟩:∃ W3,W2.setCell ⟨J.heap.size,3,none⟩ (.func (.func 244) #[] #[])=W3:=⟨_,rfl⟩;have c:W3.heap[J.heap.size]? = some (.cells #[.int .i64 b,.string s,.slice (some ⟨g,0,none⟩) (2^b) cap,.func (.func 244) #[] #[]] 317 (0,0)):=by rw[<- Z];exact hSk a _
 have A:Bw J W3:=by rw[<- Z];exact ah.setCell (p:=⟨J.heap.size,3,none⟩) (Nat.le_refl _) _
 have aQ:W3.heap.size=J.heap.size+1:=by rw[<- Z,jdg,aJ]
 have au:=jab (E.trans (A.mono E.size)) (Nat.le_refl _) af.out;have R:=jab (E.trans (A.mono E.size)) (Nat.le_refl _) ae.out;have ay:=o.go A;obtain⟨c0,c1,c2,c3⟩:=cl4 c;obtain⟨y0,y1⟩:=cl2 au;obtain⟨x0,x1⟩:=cl2 R;have aE:=Lib.hid c;have aB:=Lib.hid ay;have O:=Lib.hid A;have F:Hid (w.heap.size+3<=g/\g<J.heap.size):=⟨by omega,o.lt⟩;have T:=Lib.hid E;clear a c ah A au R ay o aI E;go_wp2_with fail;refine (L.out _).mono ?_;rintro e u ⟨rfl,I⟩;have B:Bw W0 u:=T.out.trans ((O.out.trans (I.mono O.out.size)).mono T.out.size);have av:=jab B (Nat.le_refl _) af.out;have S:=jab B (Nat.le_refl _) ae.out;have Q:=jab B (Nat.le_refl _) aF.out;have an:=jab I (Nat.le_refl _) aE.out;have az:=aB.out.go I;obtain⟨d0,d1⟩:=cl2 av;obtain⟨k0,k1⟩:=cl2 S;obtain⟨W5,ao,aH,G,aR⟩:=jaf u #[.string s2] 9;have aD:=Lib.hid ao;have ad:=Lib.hid Q;have ac:=Lib.hid an;have aC:=Lib.hid az;have z:=Lib.hid B;have aT:J.heap.size<u.heap.size:=by have:=I.size;omega
 clear av S Q an az B ao I c0 c1 c2 c3 y0 y1 x0 x1 z0 z1;go_wp2_with (go_at_call 196;refine (jmc _ _).mono ?_;rintro e w' ⟨rfl,rfl⟩;rw[aD.out]);have hn:w.heap.size+3<=J.heap.size:=by have:=T.out.size;omega
 refine jk5 [u.heap.size] 8 9 (fun x : { p:Nat × UInt8 // p.1<2^b }=>.int .i64 x.1.1) (fun x=>.int .u8 x.1.2.toNat) (gf:=205) (lb:=#[.pointer (some ⟨u.heap.size,0,none⟩)]) rfl (enters_of Tryz.func205 (by kernel_rfl) rfl)
  (jur (fun x : { p:Nat × UInt8 // p.1<2^b }=>x.1) u.heap.size s2 HZ.out ls U.out W5 aH) (by intro k hk;simp at hk;omega) (Below.refl _ _) (fun _=>rfl) (XI (2^b) g r W5) (jw9 (2^b) g r W5 _ (Nat.le_refl _)) ⟨aC.out.go G,World.grownBy.refl _ _⟩ ?assign ?body ?fin
 case assign =>
  rintro l t x W K hI hK;simp only[jwo,List.zip_toArray,List.zip_cons_cons,List.zip_nil_right,List.size_toArray,List.foldl_toArray',List.foldl_cons,List.foldl_nil,List.setIfInBounds_toArray,List.set_cons_succ,List.set_cons_zero] at hK ⊢;gi_wp2;exact hI
 case body =>
  rintro lo t x W ⟨L,P⟩ aO;simp only[jwo,List.zip_toArray,List.zip_cons_cons,List.zip_nil_right,List.size_toArray,List.foldl_toArray',List.foldl_cons,List.foldl_nil,List.setIfInBounds_toArray,List.set_cons_succ,List.set_cons_zero];have aK:=x.2
  have HS:Hid (jbg (jc6 r (t.map (·.1))) x.1.1 x.1.2.toNat=jc6 r ((t++[x]).map (·.1))):=by
   unfold Hid jc6;rw[List.map_append,List.foldl_append];rfl
  have hT:=HT.out s g cap W _ x.1.1 x.1.2.toNat L (HL.out _) aK
  have hX:W.heap[J.heap.size]? = some (.cells #[.int .i64 b,.string s,.slice (some ⟨g,0,none⟩) (2^b) cap,.func (.func 244) #[] #[]] 317 (0,0)) :=
   (P.block _ (by omega) (fun e=>by cases e;have:=F.out.2;omega)).trans (jab G (Nat.le_refl _) ac.out)
  obtain⟨c0,c1,c2,c3⟩:=cl4 hX;have HG:=Lib.hid P;have aN:=F.out.2;clear P hX L d0 d1 k0 k1;gi_wp2_with fail;refine⟨trivial,(CallsIn.inRound lo (callsIn_wide.2 hT)).mono ?_⟩;rintro e W7 ⟨rfl,aG,Y⟩;gi_wp2_with fail;exact⟨KeepsFrom.of_grownBy Y (fun j e=>by cases e;omega),KL.grown Y (fun k hk=>by simp at hk;subst hk;intro e;cases e;omega),by rw[<- HS.out];exact aG,HG.out.trans Y⟩
 case fin =>
  rintro D W hD ⟨L,P⟩ hK;rw[U.out,ab.out] at L;have aj:=HD.out s g cap W L
  have hX:W.heap[J.heap.size]? = some (.cells #[.int .i64 b,.string s,.slice (some ⟨g,0,none⟩) (2^b) cap,.func (.func 244) #[] #[]] 317 (0,0)) :=
   (P.block _ (by omega) (fun e=>by cases e;have:=F.out.2;omega)).trans (jab G (Nat.le_refl _) ac.out)
  have am:W.heap[w.heap.size+2]? = some (.cells #[.int .i64 0,.string ⟨#[]⟩] 34 (0,0)) :=
   (P.block _ (by omega) (fun e=>by cases e;have:=F.out.1;omega)).trans (jab G (Nat.le_refl _) ad.out)
  have H:Bw w W5:=y.out.trans ((z.out.trans (G.mono z.out.size)).mono y.out.size);have X:Bw w W:=H.grown P H.size (fun j e=>by cases e;have:=F.out.1;omega);obtain⟨c0,c1,c2,c3⟩:=cl4 hX;have aA:=Lib.hid aj;clear aj hX L P H d0 d1 k0 k1;go_wp2_with fail;refine aA.out.mono ?_;rintro e w6 ⟨rfl,N⟩;have M:=jab N (Nat.le_refl _) am;have ak:=jab N (Nat.le_refl _) hK;obtain⟨q0,q1⟩:=cl2 M;obtain⟨f0,f1⟩:=cz2 M;obtain⟨V,hV⟩:∃ V,(w6.setCell ⟨w.heap.size+1+1,0,none⟩ (.int .i64 b)).setCell ⟨w.heap.size+1+1,1,none⟩ (.string s3)=V:=⟨_,rfl⟩;have ap:V.heap[w.heap.size+1+1]? = some (.cells #[.int .i64 b,.string s3] 34 (0,0)):=by rw[<- hV];exact jbB M
  have al:V.heap[D]? = some (.deferred (some [])):=by
   rw[<- hV];exact (jae (p:=⟨w.heap.size+1+1,1,none⟩) (by show w.heap.size+1+1≠D;omega) _).trans ((jae (p:=⟨w.heap.size+1+1,0,none⟩) (by show w.heap.size+1+1≠D;omega) _).trans ak)
  have ai:Bw w V:=by
   rw[<- hV];exact ((X.trans (N.mono X.size)).setCell (p:=⟨w.heap.size+1+1,0,none⟩) (by show _<=_+1+1;omega) _).setCell (p:=⟨w.heap.size+1+1,1,none⟩) (by show _<=_+1+1;omega) _
  have d:(V.putObj D (.deferred none)).heap[w.heap.size+1+1]? = some (.cells #[.int .i64 b,.string s3] 34 (0,0)):=(World.putObj_heap_other (by omega)).trans ap;have x0:(V.putObj D (.deferred none)).cell? ⟨w.heap.size+1+1,0,none⟩=some (.int .i64 b):=cCc d 0;have x1:(V.putObj D (.deferred none)).cell? ⟨w.heap.size+1+1,1,none⟩=some (.string s3):=cCc d 1;have HE:Hid (V.heap[D]? = some (.deferred (some []))/\Bw w V):=⟨al,ai⟩;clear M ak ap al ai d am X N hK;go_wp2_with fail;refine jaX (v:=.tuple #[.agg #[.int .i64 b,.string s3],.int .i64 0]) HE.out.1 ?_ ?_
  ·simp[results,Tryz.f264,go_sem,x0,x1]
  ·exact⟨rfl,jgy HE.out.2 (by omega) HE.out.1⟩
end
theorem jdP (a b:Int) (w:World) (ha:U64 a) (C:U64 b):Calls Tryz.prog 137 #[.int .u64 a,.int .u64 b] w fun e w'=>e=.returned (.int .u64 (jdf a b))/\w'=w:=by
 obtain⟨E,F⟩:=ha;obtain⟨G,H⟩:=C;by_cases B:18446744073709551615-a<b
 ·have A:jdf a b=18446744073709551615:=by unfold jdf;rw[if_pos B]
  rw[A];have D:18446744073709551615-b<a:=by omega
  clear B A;go_enter Tryz.func137,Tryz.ntmps137;go_wp2_with fail;go_ret;exact⟨rfl,rfl⟩
 ·have A:jdf a b=a+b:=by unfold jdf;rw[if_neg B]
  rw[A];have D:¬ 18446744073709551615-b<a:=by omega
  have I:IntKind.u64.wrap (a+b)=a+b:=jsk _ (by omega) (by omega);clear B A;go_enter Tryz.func137,Tryz.ntmps137;go_wp2_with fail;go_ret;exact⟨rfl,rfl⟩
def jp9 (c:Nat) (l:List Int) (w:World) (e:Ending) (w':World):Prop:=∃ a cap,e=.returned (.tuple #[.agg #[.int .i64 2,.int .i64 c,.slice a l.length cap],.int .i64 0])/\SlC jaG 1 w'.heap.size w' a l.length cap l/\Bw w w'
theorem jdQ (c:Nat) (l:List Int) (a:Option Addr) (len cap:Nat) (w:World) (A:c=4\/c=8\/c=16\/c=32) (B:len=l.length) (C:l.length=c+c) :
  CR 120 #[.agg #[.int .i64 2,.int .i64 c,.slice a len cap]] w (.bool true):=by
 have h:=jbW 2 c a len cap l w (by rcases A with rfl | rfl | rfl | rfl<;>exact⟨by decide,by decide⟩) B
 have hr:jaN 2 c l=true:=by
  unfold jaN;rw[C,Bool.and_eq_true];exact⟨je3 c A,by rw[beq_iff_eq];omega⟩
 rw[hr] at h;exact h
theorem jnR {W:World} {b:Nat} {x y z:Value} {t:TypeId} (u v q:Value) (h:W.heap[b]? = some (.cells #[x,y,z] t (0,0))) :
  ∃ V,((W.setCell ⟨b,0,none⟩ u).setCell ⟨b,1,none⟩ v).setCell ⟨b,2,none⟩ q=V/\V.heap[b]? = some (.cells #[u,v,q] t (0,0))/\OnlyAt b W V/\(∀ n B,Below n B W->n<=b->Below n B V) :=
 ⟨_,rfl,hSk (hSk (hSk h _) _) _,(((OnlyAt.refl _ _).set _ _).set _ _).set _ _,fun _ _ C A=>((C.setCell (p:=⟨b,0,none⟩) A _).setCell (p:=⟨b,1,none⟩) A _).setCell (p:=⟨b,2,none⟩) A _⟩
theorem jkM (w:World):Calls Tryz.prog 77 #[.int .i64 2,.int .i64 32] w (jp9 32 (jqC 32) w):=by
 have J:∀ w,Calls Tryz.prog 131 #[.int .i64 2,.int .i64 32] w fun e w'=>e=.returned (.bool true)/\w'=w:=fun w=>(jg9 2 32 w).mono fun e w' ⟨Q,R⟩=>⟨by rw[Q];rfl,R⟩
 obtain⟨P,S,G,B,L⟩:=jaf w #[.int .i64 0,.int .i64 0,.slice none 0 0] 36;obtain⟨Y,I,D,C,M⟩:=jlZ P 64 (by omega);have A:=(C.block _ (by omega)).trans G;rw[L] at I D;rw[show ((64:Nat):Int)=64 from rfl] at I;obtain⟨Z,a,b⟩:=cl3 A;obtain⟨c,d,f⟩:=cz3 A;obtain⟨V,g,H,F,E⟩:=jnR (.int .i64 2) (.int .i64 32) (.slice (some ⟨w.heap.size+1,0,none⟩) 64 64) A;obtain⟨T,U,X⟩:=cl3 H;have N:Hid (Bw w V):=E _ _ (B.trans (C.mono B.size)) (Nat.le_refl _);have O:Hid (NumsAt V (w.heap.size+1) (List.replicate 64 0)):=D.block (F.2 _ (by omega));clear G A D B C M H F E;go_enter Tryz.func77,Tryz.ntmps77;go_wp2_with (go_at_call 131;refine (J _).mono ?_;rintro e w' ⟨rfl,rfl⟩);refine bodyPost_ret (v:=.tuple #[.agg #[.int .i64 2,.int .i64 32,.slice (some ⟨w.heap.size+1,0,none⟩) 64 64],.int .i64 0]) (by simp[results,Tryz.f77,go_sem,T,U,X]) rfl ⟨_,64,rfl,?_,N.out⟩;exact jhD (n:=64) O.out (List.length_replicate ..) (by unfold maxLen;omega)
theorem jeb {n:Nat} (h:n<1000):wrap64 (n:Int)=(n:Int):=jbD n (by omega)
theorem jhF {l:List Int} {a:Option Addr} {len cap n i:Nat} {w:World} (h:SlC jaG 1 n w a len cap l) (E:i<l.length):∃ b off,a=some ⟨b,off,none⟩/\b<n/\w.cell? ⟨b,off+i,none⟩=some (.int .u64 (l.getD i 0)):=by
 obtain⟨y,B⟩:∃ y,l[i]? = some y:=⟨_,List.getElem?_eq_getElem E⟩;obtain⟨b,off,e,C,D⟩:=h.1.2 i y B;have A:=D 0 (by omega);rw[Nat.mul_one] at A;refine⟨b,off,e,C,?_⟩;rw[List.getD_eq_getElem?_getD,B];exact A
theorem jmT (v:Nat) (h:v<2^64) (D:v≠0):Lib.bitLen v=1+Lib.bitLen (v / 2):=by
 obtain⟨F,G,H⟩:=jdm v h D;by_cases E:v=1
 ·subst E;rfl
 obtain⟨I,J,L⟩:=jdm (v / 2) (by omega) (by omega);generalize Lib.bitLen v=m at *;generalize Lib.bitLen (v / 2)=n at *;obtain⟨B,rfl⟩:∃ B,m=B+1:=⟨m-1,by omega⟩;obtain⟨A,rfl⟩:∃ A,n=A+1:=⟨n-1,by omega⟩;simp only[Nat.add_sub_cancel,Nat.pow_succ] at *
 have C:2^A<2^B:=by
  have:2^A*2<=v:=by omega
  have O:2^A*2<2^B*2:=by omega
  omega
 have M:B<A+2:=by
  apply (Nat.pow_lt_pow_iff_right (a:=2) (by omega)).1;rw[Nat.pow_succ,Nat.pow_succ];omega
 have N:=(Nat.pow_lt_pow_iff_right (a:=2) (by omega)).1 C;omega
theorem jtd:Lib.bitLen 0=0:=rfl
theorem jhr (v:Nat) (E:v<2^64) (w:World):Calls Tryz.prog 187 #[.int .u64 v] w fun e w'=>e=.returned (.int .i64 (Lib.bitLen v))/\w'=w:=by
 have D:Lib.bitLen v<=64:=by
  by_cases h:v=0
  ·subst h;decide
  ·exact jfW v E h
 have F:Hid (Lib.bitLen v=0+Lib.bitLen v):=by rw[Hid,Nat.zero_add]
 have L:Hid (v<2^64):=E;generalize hd:Lib.bitLen v=d at D F ⊢;have B:Hid (d=0+Lib.bitLen v):=by rw[Hid,Nat.zero_add,hd]
 clear F hd E;go_enter Tryz.func187,Tryz.ntmps187;go_wp2_with fail;go_loopw [0,3] (fun x n wr=>∃ (k u:Nat),x=.int .u64 u/\n=.int .i64 k/\Hid (u<2^64)/\Hid (d=k+Lib.bitLen u)/\wr=w) (fun _ n _=>65-(intOf n).toNat)
 case atStart=>exact⟨0,v,rfl,rfl,L,B,rfl⟩
 case round =>
  obtain⟨k,u,rfl,rfl,C,G,rfl⟩:=hrel;by_cases H:u=0
  ·subst H
   have A:Hid (d=k):=by rw[Hid,G.out,jtd];rfl
   go_wp2_with fail;go_ret;exact⟨by rw[A.out];rfl,rfl⟩
  ·have A:Hid (d=k+1+Lib.bitLen (u / 2)):=by rw[Hid,G.out,jmT u C.out H];omega
   have M:(0:Int)<u:=by omega
   have N:k<64:=by
    have:=A.out;omega
   have J:Hid (u / 2<2^64):=by have:=C.out;rw[Hid];omega
   have I:(u:Int)<=18446744073709551615:=by have:=C.out;omega
   go_wp2_with fail;go_roundw
   case rel=>exact⟨k+1,u / 2,by go_num,by go_num,J,A,trivial⟩
   case measure=>simp[intOf];omega
def bkB (v i:Nat):Nat:=v*2^(64-(Lib.bitLen v-1)) % 2^64 / 2^(64-i)
theorem jxe (v:Nat):bkB v 0=0:=Nat.div_eq_of_lt (Nat.mod_lt _ (by decide))
theorem jwC (v i:Nat) (A:i<=3):bkB v i<2^i:=by
 unfold bkB;rw[Nat.div_lt_iff_lt_mul (Nat.two_pow_pos _),<- Nat.pow_add,show i+(64-i)=64 by omega];exact Nat.mod_lt _ (by decide)
theorem jwB (v i:Nat) (A:i<=3):bkB v i<8:=by
 have h:=jwC v i A;have:2^i<=2^3:=Nat.pow_le_pow_right (by omega) A;omega
theorem jte (v i:Nat) (A:i<3):bkB v (i+1)=2*bkB v i+v*2^(64-(Lib.bitLen v-1)) / 2^(63-i) % 2:=by
 unfold bkB;generalize v*2^(64-(Lib.bitLen v-1))=y;rcases (by omega:i=0\/i=1\/i=2) with rfl | rfl | rfl<;>simp only[Nat.reduceSub,Nat.reduceAdd,Nat.reducePow]<;>omega
theorem jvx (v i:Nat) (B:1<=Lib.bitLen v) (C:i+2<=Lib.bitLen v) (A:Lib.bitLen v<=64):v*2^(64-(Lib.bitLen v-1)) / 2^(63-i)=v / 2^(Lib.bitLen v-2-i):=by
 generalize Lib.bitLen v=b at *;have e:63-i=(64-(b-1))+(b-2-i):=by omega
 rw[e,Nat.pow_add,<- Nat.div_div_eq_div_mul,Nat.mul_div_cancel _ (Nat.two_pow_pos _)]
theorem jvw (v i:Nat) (A:1<=Lib.bitLen v) (B:Lib.bitLen v<i+2) (C:i<3):v*2^(64-(Lib.bitLen v-1)) / 2^(63-i) % 2=0:=by
 generalize Lib.bitLen v=b at *;have e:64-(b-1)=(63-i)+((i+1-b)+1):=by omega
 rw[e,Nat.pow_add,<- Nat.mul_assoc,Nat.mul_comm v,Nat.mul_assoc,Nat.mul_div_cancel_left _ (Nat.two_pow_pos _),Nat.pow_succ,<- Nat.mul_assoc,Nat.mul_mod_left]
theorem jvF (f v:Nat) (h:v≠0):ji5 f v=1+(((Lib.bitLen v-1)*2^f+bkB v f:Nat):Int):=by
 unfold ji5 bkB;rw[if_neg h,Int.toNat_natCast]
theorem ja8 (f v:Nat) (k:f<=3) (F:v<2^64) (w:World):Calls Tryz.prog 167 #[.int .i64 f,.int .u64 v] w fun e w'=>e=.returned (.int .i64 (ji5 f v))/\w'=w:=by
 by_cases D:v=0
 ·subst D
  have A:Hid (ji5 f 0=0):=by rw[Hid];rfl
  generalize ji5 f 0=r at A ⊢;have B:(0:Int)<=f/\(f:Int)<=3:=by omega
  obtain⟨S,T⟩:=B;go_enter Tryz.func167,Tryz.ntmps167;go_wp2_with fail;go_ret;exact⟨by rw[A.out];rfl,rfl⟩
 obtain⟨N,-,-⟩:=jdm v F D;have R:=jfW v F D;have L:=Lib.hid (jvF f v D);generalize ji5 f v=r at L ⊢;have I:=Lib.hid (jhr v F)
 have Q:Hid (∀ j,j<3->bkB v (j+1)=2*bkB v j+(if j+2<=Lib.bitLen v then v / 2^(Lib.bitLen v-2-j) % 2 else 0)):=fun j E=>by
  rw[jte v j E];split
  ·rename_i h;rw[jvx v j N h R]
  ·rename_i h;rw[jvw v j N (by omega) E]
 have G:=Lib.hid (jxe v);have H:Hid (∀ j,j<=3->bkB v j<8):=fun j E=>jwB v j E
 generalize Lib.bitLen v=b at *;have Z:(0:Int)<v:=by omega
 have P:(v:Int)<=18446744073709551615:=by omega
 have B:(0:Int)<=f/\(f:Int)<=3:=by omega
 obtain⟨S,T⟩:=B;have X:((v:Int)==0)=false:=by rw[beq_eq_false_iff_ne];omega
 clear D F;go_enter Tryz.func167,Tryz.ntmps167;go_wp2_with (go_at_call 187;refine (I.out _).mono ?_;rintro e a ⟨rfl,rfl⟩);go_loopw [6,7] (fun x i wr=>∃ (j u:Nat),i=.int .i64 ((j:Int)+1)/\x=.int .i64 u/\j<=f/\Hid (u=bkB v j)/\u<8/\wr=a) (fun _ i _=>4-(intOf i).toNat)
 case atStart=>exact⟨0,0,rfl,rfl,Nat.zero_le _,G.out.symm,by omega,rfl⟩
 case round =>
  obtain⟨j,u,rfl,rfl,E,J,Y,rfl⟩:=hrel;by_cases V:j<f
  ·have M:=Lib.hid (Q.out j (by omega))
   have C:=H.out (j+1) (by omega);by_cases O:j+2<=b
   ·obtain⟨c,rfl⟩:∃ c,b=c+j+2:=⟨b-2-j,by omega⟩
    have g:(((c+j+2:Nat):Int)-1-((j:Int)+1))=(c:Int):=by omega
    have A:Hid (bkB v (j+1)=2*u+v / 2^c % 2):=by rw[Hid,M.out,if_pos O,<- J.out,show c+j+2-2-j=c by omega]
    generalize hd:v / 2^c=d at A;have U:(v:Int) / 2^c=(d:Int):=by rw[<- hd];simp
    go_wp2_with fail;go_roundw
    case rel=>exact⟨j+1,2*u+d % 2,by go_num,by go_num,by omega,A.out.symm,by rw[<- A.out];exact C,trivial⟩
    case measure=>simp[intOf];omega
   ·have A:Hid (bkB v (j+1)=2*u):=by rw[Hid,M.out,if_neg O,<- J.out];rfl
    go_wp2_with fail;go_roundw
    case rel=>exact⟨j+1,2*u,by go_num,by go_num,by omega,A.out.symm,by rw[<- A.out];exact C,trivial⟩
    case measure=>simp[intOf];omega
  ·obtain rfl:j=f:=by omega
   have A:Hid (r=1+(((b-1)*2^j+u:Nat):Int)):=by rw[Hid,L.out,<- J.out]
   rcases (by omega:j=0\/j=1\/j=2\/j=3) with rfl | rfl | rfl | rfl
   all_goals go_wp2_with fail
   all_goals go_ret
   all_goals exact⟨by rw[A.out];congr 1;show Value.int .i64 _=Value.int .i64 _;congr 1;omega,rfl⟩
theorem jqv {x m:Nat} (E:2^m<=x) (F:x<2^(m+1)) (h:x<2^64):Lib.bitLen x=m+1:=by
 have D:x≠0:=by have:=Nat.two_pow_pos m;omega
 obtain⟨G,A,C⟩:=jdm x h D;generalize Lib.bitLen x=n at *;obtain⟨B,rfl⟩:∃ B,n=B+1:=⟨n-1,by omega⟩;rw[Nat.add_sub_cancel] at A;have H:=(Nat.pow_lt_pow_iff_right (a:=2) (by omega)).1 (Nat.lt_of_le_of_lt E C);have I:=(Nat.pow_lt_pow_iff_right (a:=2) (by omega)).1 (Nat.lt_of_le_of_lt A F);omega
def jrp (b n k:Nat):Prop:=n % 2^(64-b) / 2^(64-k)=0
theorem jvr (n k:Nat) (C:k<64):n / 2^(64-(k+1))=2*(n / 2^(64-k))+n / 2^(63-k) % 2:=by
 have A:64-(k+1)=63-k:=by omega
 have B:64-k=(63-k)+1:=by omega
 rw[A,B,Nat.pow_succ,<- Nat.div_div_eq_div_mul];generalize n / 2^(63-k)=m;omega
theorem jlY (b n k:Nat) (E:b<=k) (F:k<64) (h:jrp b n k):n % 2^(64-b) / 2^(63-k)=n / 2^(63-k) % 2:=by
 unfold jrp at h;have B:64-b=(63-k)+(k+1-b):=by omega
 have C:64-k=(63-k)+1:=by omega
 have A:n % 2^(64-b) / 2^(63-k)=n / 2^(63-k) % 2^(k+1-b):=by rw[B,Nat.pow_add,Nat.mod_mul_right_div_self]
 have D:n / 2^(63-k) % 2^(k+1-b) % 2=n / 2^(63-k) % 2:=Nat.mod_mod_of_dvd _ (by rw[show k+1-b=(k-b)+1 by omega,Nat.pow_succ];exact Nat.dvd_mul_left _ _);rw[C,Nat.pow_succ,<- Nat.div_div_eq_div_mul,A] at h;rw[A];omega
theorem jua (b n k:Nat) (B:b<=k) (D:k<64) (h:jrp b n k) (C:n / 2^(63-k) % 2=0):jrp b n (k+1):=by
 have A:=jlY b n k B D h;unfold jrp;rw[show 64-(k+1)=63-k by omega,A,C]
theorem jrr (b n:Nat) (_hb:b<=64):jrp b n b:=by
 unfold jrp;exact Nat.div_eq_of_lt (Nat.mod_lt _ (Nat.two_pow_pos _))
theorem jmp (b n:Nat) (A:b<=64):n*2^b % 2^64=n % 2^(64-b)*2^b:=by
 conv=>lhs;rw[show 64=(64-b)+b by omega,Nat.pow_add,Nat.mul_mod_mul_right]
theorem juq (b n k:Nat) (E:b<=k) (G:k<64) (h:jrp b n k) (F:n / 2^(63-k) % 2=1):jcU b n=1+(k-b):=by
 have C:=jlY b n k E G h;rw[F] at C
 have A:2^(63-k)<=n % 2^(64-b):=by
  have:=Nat.div_mul_le_self (n % 2^(64-b)) (2^(63-k));rw[C,Nat.one_mul] at this;exact this
 have B:n % 2^(64-b)<2^(63-k+1):=by
  rw[Nat.pow_succ];have:=Nat.lt_div_mul_add (a:=n % 2^(64-b)) (Nat.two_pow_pos (63-k));rw[C] at this;omega
 unfold jcU;rw[jmp b n (by omega)];generalize n % 2^(64-b)=q at A B;have H:2^(63-k+b)<=q*2^b:=by rw[Nat.pow_add];exact Nat.mul_le_mul_right _ A
 have I:q*2^b<2^(63-k+b+1):=by
  rw[show 63-k+b+1=(63-k+1)+b by omega,Nat.pow_add];exact Nat.mul_lt_mul_of_pos_right B (Nat.two_pow_pos b)
 have J:2^(63-k+b+1)<=2^64:=Nat.pow_le_pow_right (by omega) (by omega);have D:q*2^b≠0:=by have:=Nat.two_pow_pos (63-k+b);omega
 rw[if_neg D,jqv H I (by omega)];omega
theorem jrP (b n:Nat) (A:b<=64) (h:jrp b n 64):jcU b n=65-b:=by
 unfold jrp at h;simp only[Nat.sub_self,Nat.pow_zero,Nat.div_one] at h;unfold jcU;rw[jmp b n A,h,Nat.zero_mul,if_pos rfl]
def jdb (l:List (Int × Int)) (p n:Int):List (Int × Int):=if n=0 then l else jaC l p n
def jc4 (a l:List (Int × Int)):List (Int × Int):=l.foldl (fun a b=>jdb a b.1 b.2) a
theorem jgT:∀ (l a:List (Int × Int)),(∀ b∈l,b.2≠0)->jc4 a l=jaB a l
 | [],_,_=>rfl
 | b::l,a,h=>by
  have A:jdb a b.1 b.2=jaC a b.1 b.2:=if_neg (h b List.mem_cons_self);show jc4 (jdb a b.1 b.2) l=jaB (jaC a b.1 b.2) l;rw[A];exact jgT l _ (fun c B=>h c (List.mem_cons_of_mem _ B))
theorem jmk {a l:List (Int × Int)} (ha:∀ b∈a,b.2≠0) (A:jbj a) (C:∀ b∈l,b.2≠0) (B:jbj l):jc4 a l=ja7 (jaB a l):=by
 rw[jgT l a C];exact (jh9 (jgE l a ha A C B)).symm
theorem jq4 {l:List (Int × Int)} (h:∀ b∈l,b.2≠0) (A:jbj l):jgg l=jc4 [] (l.map fun b=>(jaR b.1,b.2)):=by
 rw[jtQ h A,jgT _ _ (jge h A).1]
theorem jha (a l:List (Int × Int)) (b:Int × Int):jc4 a (l++[b])=jdb (jc4 a l) b.1 b.2:=by unfold jc4;rw[List.foldl_append];rfl
theorem jpM (l:List (Int × Int)) (p n:Int):(jdb l p n).length<=l.length+1:=by
 unfold jdb;split
 ·omega
 ·exact jgz l p n
theorem jfH:∀ (l a:List (Int × Int)),(jc4 a l).length<=a.length+l.length
 | [],_=>Nat.le_refl _
 | b::l,a=>by
  have A:=jfH l (jdb a b.1 b.2);have B:=jpM a b.1 b.2;show (jc4 (jdb a b.1 b.2) l).length<=_;rw[List.length_cons];omega
theorem jmR {q m p n:Int} {t:List (Int × Int)} (h:q<p):jaC ((q,m)::t) p n=(q,m)::jaC t p n:=by rw[jaC,if_pos h]
theorem jqu {q m n:Int} {t:List (Int × Int)}:jaC ((q,m)::t) q n=(q,jdf m n)::t:=by rw[jaC,if_neg (by omega),if_pos rfl]
theorem jmS {q m p n:Int} {t:List (Int × Int)} (h:¬ q<p) (A:q≠p):jaC ((q,m)::t) p n=(p,n)::(q,m)::t:=by rw[jaC,if_neg h,if_neg A]
def jiO (f n:Nat):Nat:=if (n-1) / 2^f<f then ((n-1) % 2^f+2^f) / 2^(f-(n-1) / 2^f) else ((n-1) % 2^f+2^f)*2^((n-1) / 2^f-f)
theorem juv:∀ f∈[1,2,3],∀ n∈List.range 25,1<=n->(n-1) / 2^f<f->jao ((f:Nat):Int) ((n:Nat):Int)=(ji5 ((f:Nat):Int) (jiO f n)==((n:Nat):Int)):=by decide +kernel
theorem joz:∀ f∈[1,2,3],∀ n∈List.range 513,1<=n->jao ((f:Nat):Int) ((n:Nat):Int)=true->((jiO f n:Nat):Int)=jcf f ((n:Nat):Int):=by decide +kernel
theorem juu (f n:Nat) (C:f<=3) (D:1<=n) (E:f<=(n-1) / 2^f) (B:(n-1) / 2^f<64):jao f n=true:=by
 have A:(((n:Int)-1) / 2^((f:Int)).toNat)=(((n-1) / 2^f:Nat):Int):=by
  rw[Int.toNat_natCast,show ((n:Int)-1)=((n-1:Nat):Int) by omega];simp
 unfold jao;rw[jcj f C,A,decide_eq_true (by omega:(0:Int)<=n),Bool.and_true,if_pos rfl,if_neg (by simp;omega),if_neg (by omega),if_pos (by omega)]
theorem jwZ (f n:Nat) (C:1<=n) (B:64<=(n-1) / 2^f):jao f n=false:=by
 have A:(((n:Int)-1) / 2^((f:Int)).toNat)=(((n-1) / 2^f:Nat):Int):=by
  rw[Int.toNat_natCast,show ((n:Int)-1)=((n-1:Nat):Int) by omega];simp
 unfold jao;split
 ·rw[A,if_neg (by simp;omega),if_pos (by omega)]
 ·rfl
def BdR (f n:Int) (w:World) (e:Ending) (w':World):Prop:=∃ lo hi:Int,e=.returned (.tuple #[.int .u64 lo,.int .u64 hi,.bool (jao f n)])/\(jao f n=true->1<=f->lo=jcf f.toNat n)/\Bw w w'
theorem BdR.of {f n A C:Int} {w w':World} {b:Bool} (B:jao f n=b) (D:b=true->1<=f->A=jcf f.toNat n) (E:Bw w w'):BdR f n w (.returned (.tuple #[.int .u64 A,.int .u64 C,.bool b])) w':=⟨A,C,by rw[B],(by rw[B];exact D),E⟩
theorem jiA (f n:Int) (h:f<0\/3<f\/n<0) (w:World):Calls Tryz.prog 156 #[.int .i64 f,.int .i64 n] w (BdR f n w):=by
 have B:Hid (jao f n=false):=by
  unfold jao jaq;rw[Hid,if_neg];simp;omega
 have A:Hid (BdR f n w (.returned (.tuple #[.int .u64 0,.int .u64 0,.bool false])) w):=BdR.of B.out (fun h=>by cases h) (Below.refl _ _);by_cases C:f<0
 ·generalize hQ:BdR f n w=Q at A ⊢
  clear hQ;go_enter Tryz.func156,Tryz.ntmps156;go_wp2_with fail;go_ret3;exact A.out
 by_cases D:3<f
 ·generalize hQ:BdR f n w=Q at A ⊢
  clear hQ;go_enter Tryz.func156,Tryz.ntmps156;go_wp2_with fail;go_ret3;exact A.out
 ·have E:n<0:=by omega
  generalize hQ:BdR f n w=Q at A ⊢;clear hQ;go_enter Tryz.func156,Tryz.ntmps156;go_wp2_with fail;go_ret3;exact A.out
theorem jjf (f:Nat) (B:f<=3) (w:World):Calls Tryz.prog 156 #[.int .i64 f,.int .i64 0] w (BdR f 0 w):=by
 have A:Hid (BdR f 0 w (.returned (.tuple #[.int .u64 0,.int .u64 0,.bool true])) w):=by
  refine BdR.of (by unfold jao;rw[jcj f B];rfl) (fun _ h=>?_) (Below.refl _ _);rcases (by omega:f=1\/f=2\/f=3) with rfl | rfl | rfl<;>decide +kernel
 generalize hQ:BdR f 0 w=Q at A ⊢;clear hQ;rcases (by omega:f=0\/f=1\/f=2\/f=3) with rfl | rfl | rfl | rfl
 all_goals go_enter Tryz.func156,Tryz.ntmps156
 all_goals go_wp2_with fail
 all_goals go_ret3
 all_goals exact A.out
theorem jho (f n:Nat) (C:f<=3) (B:64*2^f<n) (D:n<9223372036854775808) (w:World):Calls Tryz.prog 156 #[.int .i64 f,.int .i64 n] w (BdR f n w):=by
 have A:Hid (BdR f n w (.returned (.tuple #[.int .u64 0,.int .u64 0,.bool false])) w):=by
  refine BdR.of (jwZ f n (by omega) ?_) (fun h=>by cases h) (Below.refl _ _);rw[Nat.le_div_iff_mul_le (Nat.two_pow_pos _)];omega
 generalize hQ:BdR f n w=Q at A ⊢;clear hQ;rcases (by omega:f=0\/f=1\/f=2\/f=3) with rfl | rfl | rfl | rfl
 all_goals simp only[Nat.reducePow,Nat.reduceMul] at B
 all_goals go_enter Tryz.func156,Tryz.ntmps156
 all_goals go_wp2_with fail
 all_goals go_ret3
 all_goals exact A.out
theorem jgN (f n:Nat) (O:f<=3) (N:1<=n) (T:f<=(n-1) / 2^f) (G:(n-1) / 2^f<64) (w:World):Calls Tryz.prog 156 #[.int .i64 f,.int .i64 n] w (BdR f n w):=by
 have F:=juu f n O N T G
 have V:n<=512:=by
  have Y:n-1<64*2^f:=(Nat.div_lt_iff_lt_mul (Nat.two_pow_pos _)).1 G;have Z:2^f<=2^3:=Nat.pow_le_pow_right (by omega) O;omega
 have C:Hid (∀ (L P:Int) w',L=jiO f n->Bw w w'->BdR f n w (.returned (.tuple #[.int .u64 L,.int .u64 P,.bool true])) w'):=fun L P w' J S=>by
  refine BdR.of F (fun _ h=>?_) S;have U:1<=f:=by omega
  rw[J,Int.toNat_natCast];exact joz f (by simp;omega) n (List.mem_range.2 (by omega)) N F
 have E:jiO f n=((n-1) % 2^f+2^f)*2^((n-1) / 2^f-f):=by unfold jiO;rw[if_neg (by omega)]
 have D:((n-1) % 2^f+2^f)*2^((n-1) / 2^f-f)<2^64:=by
  have X:=Nat.mod_lt (n-1) (Nat.two_pow_pos f);have R:(n-1) % 2^f+2^f<2^(f+1):=by rw[Nat.pow_succ];omega
  have M:((n-1) % 2^f+2^f)*2^((n-1) / 2^f-f)<2^(f+1)*2^((n-1) / 2^f-f):=Nat.mul_lt_mul_of_pos_right R (Nat.two_pow_pos _);rw[<- Nat.pow_add] at M;exact Nat.lt_of_lt_of_le M (Nat.pow_le_pow_right (by omega) (by omega))
 generalize hQ:BdR f n w=Q at C ⊢;clear hQ F;rw[E] at C;clear E;obtain⟨m,rfl⟩:∃ m,n=m+1:=⟨n-1,by omega⟩;simp only[Nat.add_sub_cancel] at *;rcases (by omega:f=0\/f=1\/f=2\/f=3) with rfl | rfl | rfl | rfl
 ·simp only[Nat.pow_zero,Nat.div_one,Nat.mod_one,Nat.sub_zero,Nat.zero_add,Nat.one_mul] at *
  have B:IntKind.u64.wrap (2^m)=((2^m:Nat):Int):=by
   have e:(2:Int)^m=((2^m:Nat):Int):=by simp
   rw[e];generalize 2^m=q at D;exact IntWalk.u64_in _ (by omega)
  have A:=Lib.hid B;clear B;go_enter Tryz.func156,Tryz.ntmps156;go_wp2_with fail;go_quiet (fail);go_wp2_with fail;go_quiet (fail);go_wp2_with fail;go_ret3;exact C.out _ _ _ A.out (bDr (bDr (Below.refl _ _) _) _)
 ·simp only[Nat.reducePow] at *
  obtain⟨c,H⟩:∃ c,m / 2=c+1:=⟨m / 2-1,by omega⟩;obtain⟨p,I⟩:∃ p,m % 2=p:=⟨_,rfl⟩;rw[H,I,Nat.add_sub_cancel] at C D
  have B:IntKind.u64.wrap (((m:Int) % 2+2)*2^(m / 2-1))=(((p+2)*2^c:Nat):Int):=by
   rw[show m / 2-1=c by omega,show (m:Int) % 2=(p:Int) by omega];have e:((p:Int)+2)*2^c=(((p+2)*2^c:Nat):Int):=by simp
   rw[e];exact IntWalk.u64_in _ (by omega)
  have A:=Lib.hid B;clear B;go_enter Tryz.func156,Tryz.ntmps156;go_wp2_with fail;go_quiet (fail);go_wp2_with fail;go_quiet (fail);go_wp2_with fail;go_ret3;exact C.out _ _ _ A.out (bDr (bDr (Below.refl _ _) _) _)
 ·simp only[Nat.reducePow] at *
  obtain⟨c,H⟩:∃ c,m / 4=c+2:=⟨m / 4-2,by omega⟩;obtain⟨p,I⟩:∃ p,m % 4=p:=⟨_,rfl⟩;rw[H,I,Nat.add_sub_cancel] at C D
  have B:IntKind.u64.wrap (((m:Int) % 4+4)*2^(m / 4-2))=(((p+4)*2^c:Nat):Int):=by
   rw[show m / 4-2=c by omega,show (m:Int) % 4=(p:Int) by omega];have e:((p:Int)+4)*2^c=(((p+4)*2^c:Nat):Int):=by simp
   rw[e];exact IntWalk.u64_in _ (by omega)
  have A:=Lib.hid B;clear B;go_enter Tryz.func156,Tryz.ntmps156;go_wp2_with fail;go_quiet (fail);go_wp2_with fail;go_quiet (fail);go_wp2_with fail;go_ret3;exact C.out _ _ _ A.out (bDr (bDr (Below.refl _ _) _) _)
 ·simp only[Nat.reducePow] at *
  obtain⟨c,H⟩:∃ c,m / 8=c+3:=⟨m / 8-3,by omega⟩;obtain⟨p,I⟩:∃ p,m % 8=p:=⟨_,rfl⟩;rw[H,I,Nat.add_sub_cancel] at C D
  have B:IntKind.u64.wrap (((m:Int) % 8+8)*2^(m / 8-3))=(((p+8)*2^c:Nat):Int):=by
   rw[show m / 8-3=c by omega,show (m:Int) % 8=(p:Int) by omega];have e:((p:Int)+8)*2^c=(((p+8)*2^c:Nat):Int):=by simp
   rw[e];exact IntWalk.u64_in _ (by omega)
  have A:=Lib.hid B;clear B;go_enter Tryz.func156,Tryz.ntmps156;go_wp2_with fail;go_quiet (fail);go_wp2_with fail;go_quiet (fail);go_wp2_with fail;go_ret3;exact C.out _ _ _ A.out (bDr (bDr (Below.refl _ _) _) _)
theorem jhp (f n:Nat) (g:f<=3) (d:1<=n) (T:(n-1) / 2^f<f) (w:World):Calls Tryz.prog 156 #[.int .i64 f,.int .i64 n] w (BdR f n w):=by
 have i:1<=f:=Nat.lt_of_le_of_lt (Nat.zero_le _) T
 have c:n<25:=by
  have j:n-1<f*2^f:=(Nat.div_lt_iff_lt_mul (Nat.two_pow_pos _)).1 T;have l:f*2^f<=3*2^3:=Nat.mul_le_mul g (Nat.pow_le_pow_right (by omega) g);omega
 have X:Hid (jao f n=(ji5 f (jiO f n)==(n:Int))):=juv f (by simp;omega) n (List.mem_range.2 c) d T
 have C:Hid (∀ (A H:Int) w',A=jiO f n->(ji5 f (jiO f n)==(n:Int))=true->Bw w w'->BdR f n w (.returned (.tuple #[.int .u64 A,.int .u64 H,.bool true])) w'):=fun A H w' F E I=>by
  have b:=X.out.trans E;refine BdR.of b (fun _ h=>?_) I;rw[F,Int.toNat_natCast];exact joz f (by simp;omega) n (List.mem_range.2 (by omega)) d b
 have B:Hid (∀ (A H:Int) w',(ji5 f (jiO f n)==(n:Int))=false->Bw w w'->BdR f n w (.returned (.tuple #[.int .u64 A,.int .u64 H,.bool false])) w'):=fun A H w' E I=>BdR.of (X.out.trans E) (fun h=>by cases h) I
 have V:jiO f n=((n-1) % 2^f+2^f) / 2^(f-(n-1) / 2^f):=by unfold jiO;rw[if_pos T]
 generalize hQ:BdR f n w=Q at C B ⊢;clear hQ X;rw[V] at C B;clear V;obtain⟨m,rfl⟩:∃ m,n=m+1:=⟨n-1,by omega⟩;simp only[Nat.add_sub_cancel] at *
 have U:(f=1/\m / 2^f=0)\/(f=2/\m / 2^f=0)\/(f=2/\m / 2^f=1)\/(f=3/\m / 2^f=0)\/(f=3/\m / 2^f=1)\/(f=3/\m / 2^f=2):=by
  rcases (by omega:f=1\/f=2\/f=3) with rfl | rfl | rfl
  ·exact .inl ⟨rfl,by omega⟩
  ·rcases (by omega:m / 2^2=0\/m / 2^2=1) with h | h
   ·exact .inr (.inl ⟨rfl,h⟩)
   ·exact .inr (.inr (.inl ⟨rfl,h⟩))
  ·rcases (by omega:m / 2^3=0\/m / 2^3=1\/m / 2^3=2) with h | h | h
   ·exact .inr (.inr (.inr (.inl ⟨rfl,h⟩)))
   ·exact .inr (.inr (.inr (.inr (.inl ⟨rfl,h⟩))))
   ·exact .inr (.inr (.inr (.inr (.inr ⟨rfl,h⟩))))
 rcases U with⟨rfl,M⟩ | ⟨rfl,M⟩ | ⟨rfl,M⟩ | ⟨rfl,M⟩ | ⟨rfl,M⟩ | ⟨rfl,M⟩
 ·simp only[Nat.reducePow] at M T C B
  rw[M] at C B;simp only[Nat.reduceSub,Nat.reducePow] at C B;obtain⟨p,N⟩:∃ p,m % 2=p:=⟨_,rfl⟩;have P:p<2:=by omega
  rw[N] at C B;have Y:(m:Int) / 2=0:=by omega
  have Z:(m:Int) % 2=(p:Int):=by omega
  obtain⟨A,F⟩:∃ A,(p+2) / 2=A:=⟨_,rfl⟩;have a:((p:Int)+2) / 2=(A:Int):=by omega
  have G:A<2^64:=by omega
  have D:=Lib.hid (fun W=>ja8 1 A (by omega) G W);rw[F] at C B;have O:=IntWalk.i64_in;clear F N;generalize hk:ji5 (1:Nat) A=k at D C B
  cases E:(k==((m:Int)+1)) with
  | true =>
   have R:(k != ((m:Int)+1))=false:=by rw[bne,E];rfl
   have L:=Lib.hid (fun A H w' h I=>C.out A H w' h (by rw[<- E];simp) I);clear B C E;go_enter Tryz.func156,Tryz.ntmps156;go_wp2_with fail;go_quiet (fail);go_wp2_with (go_at_call 167;refine (D.out _).mono ?_;rintro e S ⟨rfl,rfl⟩);go_ret3;exact L.out _ _ _ rfl (bDr (Below.refl _ _) _)
  | false =>
   have R:(k != ((m:Int)+1))=true:=by rw[bne,E];rfl
   have J:=Lib.hid (fun A H w' I=>B.out A H w' (by rw[<- E];simp) I);clear B C E;go_enter Tryz.func156,Tryz.ntmps156;go_wp2_with fail;go_quiet (fail);go_wp2_with (go_at_call 167;refine (D.out _).mono ?_;rintro e S ⟨rfl,rfl⟩);go_ret3;exact J.out _ _ _ (bDr (Below.refl _ _) _)
 ·simp only[Nat.reducePow] at M T C B
  rw[M] at C B;simp only[Nat.reduceSub,Nat.reducePow] at C B;obtain⟨p,N⟩:∃ p,m % 4=p:=⟨_,rfl⟩;have P:p<4:=by omega
  rw[N] at C B;have Y:(m:Int) / 4=0:=by omega
  have Z:(m:Int) % 4=(p:Int):=by omega
  obtain⟨A,F⟩:∃ A,(p+4) / 4=A:=⟨_,rfl⟩;have a:((p:Int)+4) / 4=(A:Int):=by omega
  have G:A<2^64:=by omega
  have D:=Lib.hid (fun W=>ja8 2 A (by omega) G W);rw[F] at C B;have O:=IntWalk.i64_in;clear F N;generalize hk:ji5 (2:Nat) A=k at D C B
  cases E:(k==((m:Int)+1)) with
  | true =>
   have R:(k != ((m:Int)+1))=false:=by rw[bne,E];rfl
   have L:=Lib.hid (fun A H w' h I=>C.out A H w' h (by rw[<- E];simp) I);clear B C E;go_enter Tryz.func156,Tryz.ntmps156;go_wp2_with fail;go_quiet (fail);go_wp2_with (go_at_call 167;refine (D.out _).mono ?_;rintro e S ⟨rfl,rfl⟩);go_ret3;exact L.out _ _ _ rfl (bDr (Below.refl _ _) _)
  | false =>
   have R:(k != ((m:Int)+1))=true:=by rw[bne,E];rfl
   have J:=Lib.hid (fun A H w' I=>B.out A H w' (by rw[<- E];simp) I);clear B C E;go_enter Tryz.func156,Tryz.ntmps156;go_wp2_with fail;go_quiet (fail);go_wp2_with (go_at_call 167;refine (D.out _).mono ?_;rintro e S ⟨rfl,rfl⟩);go_ret3;exact J.out _ _ _ (bDr (Below.refl _ _) _)
 ·simp only[Nat.reducePow] at M T C B
  rw[M] at C B;simp only[Nat.reduceSub,Nat.reducePow] at C B;obtain⟨p,N⟩:∃ p,m % 4=p:=⟨_,rfl⟩;have P:p<4:=by omega
  rw[N] at C B;have Y:(m:Int) / 4=1:=by omega
  have Z:(m:Int) % 4=(p:Int):=by omega
  obtain⟨A,F⟩:∃ A,(p+4) / 2=A:=⟨_,rfl⟩;have a:((p:Int)+4) / 2=(A:Int):=by omega
  have G:A<2^64:=by omega
  have D:=Lib.hid (fun W=>ja8 2 A (by omega) G W);rw[F] at C B;have O:=IntWalk.i64_in;clear F N;generalize hk:ji5 (2:Nat) A=k at D C B
  cases E:(k==((m:Int)+1)) with
  | true =>
   have R:(k != ((m:Int)+1))=false:=by rw[bne,E];rfl
   have L:=Lib.hid (fun A H w' h I=>C.out A H w' h (by rw[<- E];simp) I);clear B C E;go_enter Tryz.func156,Tryz.ntmps156;go_wp2_with fail;go_quiet (fail);go_wp2_with (go_at_call 167;refine (D.out _).mono ?_;rintro e S ⟨rfl,rfl⟩);go_ret3;exact L.out _ _ _ rfl (bDr (Below.refl _ _) _)
  | false =>
   have R:(k != ((m:Int)+1))=true:=by rw[bne,E];rfl
   have J:=Lib.hid (fun A H w' I=>B.out A H w' (by rw[<- E];simp) I);clear B C E;go_enter Tryz.func156,Tryz.ntmps156;go_wp2_with fail;go_quiet (fail);go_wp2_with (go_at_call 167;refine (D.out _).mono ?_;rintro e S ⟨rfl,rfl⟩);go_ret3;exact J.out _ _ _ (bDr (Below.refl _ _) _)
 ·simp only[Nat.reducePow] at M T C B
  rw[M] at C B;simp only[Nat.reduceSub,Nat.reducePow] at C B;obtain⟨p,N⟩:∃ p,m % 8=p:=⟨_,rfl⟩;have P:p<8:=by omega
  rw[N] at C B;have Y:(m:Int) / 8=0:=by omega
  have Z:(m:Int) % 8=(p:Int):=by omega
  obtain⟨A,F⟩:∃ A,(p+8) / 8=A:=⟨_,rfl⟩;have a:((p:Int)+8) / 8=(A:Int):=by omega
  have G:A<2^64:=by omega
  have D:=Lib.hid (fun W=>ja8 3 A (by omega) G W);rw[F] at C B;have O:=IntWalk.i64_in;clear F N;generalize hk:ji5 (3:Nat) A=k at D C B
  cases E:(k==((m:Int)+1)) with
  | true =>
   have R:(k != ((m:Int)+1))=false:=by rw[bne,E];rfl
   have L:=Lib.hid (fun A H w' h I=>C.out A H w' h (by rw[<- E];simp) I);clear B C E;go_enter Tryz.func156,Tryz.ntmps156;go_wp2_with fail;go_quiet (fail);go_wp2_with (go_at_call 167;refine (D.out _).mono ?_;rintro e S ⟨rfl,rfl⟩);go_ret3;exact L.out _ _ _ rfl (bDr (Below.refl _ _) _)
  | false =>
   have R:(k != ((m:Int)+1))=true:=by rw[bne,E];rfl
   have J:=Lib.hid (fun A H w' I=>B.out A H w' (by rw[<- E];simp) I);clear B C E;go_enter Tryz.func156,Tryz.ntmps156;go_wp2_with fail;go_quiet (fail);go_wp2_with (go_at_call 167;refine (D.out _).mono ?_;rintro e S ⟨rfl,rfl⟩);go_ret3;exact J.out _ _ _ (bDr (Below.refl _ _) _)
 ·simp only[Nat.reducePow] at M T C B
  rw[M] at C B;simp only[Nat.reduceSub,Nat.reducePow] at C B;obtain⟨p,N⟩:∃ p,m % 8=p:=⟨_,rfl⟩;have P:p<8:=by omega
  rw[N] at C B;have Y:(m:Int) / 8=1:=by omega
  have Z:(m:Int) % 8=(p:Int):=by omega
  obtain⟨A,F⟩:∃ A,(p+8) / 4=A:=⟨_,rfl⟩;have a:((p:Int)+8) / 4=(A:Int):=by omega
  have G:A<2^64:=by omega
  have D:=Lib.hid (fun W=>ja8 3 A (by omega) G W);rw[F] at C B;have O:=IntWalk.i64_in;clear F N;generalize hk:ji5 (3:Nat) A=k at D C B
  cases E:(k==((m:Int)+1)) with
  | true =>
   have R:(k != ((m:Int)+1))=false:=by rw[bne,E];rfl
   have L:=Lib.hid (fun A H w' h I=>C.out A H w' h (by rw[<- E];simp) I);clear B C E;go_enter Tryz.func156,Tryz.ntmps156;go_wp2_with fail;go_quiet (fail);go_wp2_with (go_at_call 167;refine (D.out _).mono ?_;rintro e S ⟨rfl,rfl⟩);go_ret3;exact L.out _ _ _ rfl (bDr (Below.refl _ _) _)
  | false =>
   have R:(k != ((m:Int)+1))=true:=by rw[bne,E];rfl
   have J:=Lib.hid (fun A H w' I=>B.out A H w' (by rw[<- E];simp) I);clear B C E;go_enter Tryz.func156,Tryz.ntmps156;go_wp2_with fail;go_quiet (fail);go_wp2_with (go_at_call 167;refine (D.out _).mono ?_;rintro e S ⟨rfl,rfl⟩);go_ret3;exact J.out _ _ _ (bDr (Below.refl _ _) _)
 ·simp only[Nat.reducePow] at M T C B
  rw[M] at C B;simp only[Nat.reduceSub,Nat.reducePow] at C B;obtain⟨p,N⟩:∃ p,m % 8=p:=⟨_,rfl⟩;have P:p<8:=by omega
  rw[N] at C B;have Y:(m:Int) / 8=2:=by omega
  have Z:(m:Int) % 8=(p:Int):=by omega
  obtain⟨A,F⟩:∃ A,(p+8) / 2=A:=⟨_,rfl⟩;have a:((p:Int)+8) / 2=(A:Int):=by omega
  have G:A<2^64:=by omega
  have D:=Lib.hid (fun W=>ja8 3 A (by omega) G W);rw[F] at C B;have O:=IntWalk.i64_in;clear F N;generalize hk:ji5 (3:Nat) A=k at D C B
  cases E:(k==((m:Int)+1)) with
  | true =>
   have R:(k != ((m:Int)+1))=false:=by rw[bne,E];rfl
   have L:=Lib.hid (fun A H w' h I=>C.out A H w' h (by rw[<- E];simp) I);clear B C E;go_enter Tryz.func156,Tryz.ntmps156;go_wp2_with fail;go_quiet (fail);go_wp2_with (go_at_call 167;refine (D.out _).mono ?_;rintro e S ⟨rfl,rfl⟩);go_ret3;exact L.out _ _ _ rfl (bDr (Below.refl _ _) _)
  | false =>
   have R:(k != ((m:Int)+1))=true:=by rw[bne,E];rfl
   have J:=Lib.hid (fun A H w' I=>B.out A H w' (by rw[<- E];simp) I);clear B C E;go_enter Tryz.func156,Tryz.ntmps156;go_wp2_with fail;go_quiet (fail);go_wp2_with (go_at_call 167;refine (D.out _).mono ?_;rintro e S ⟨rfl,rfl⟩);go_ret3;exact J.out _ _ _ (bDr (Below.refl _ _) _)
theorem jes (f n:Int) (D:I64 n) (w:World):Calls Tryz.prog 156 #[.int .i64 f,.int .i64 n] w (BdR f n w):=by
 by_cases h:f<0\/3<f\/n<0
 ·exact jiA f n h w
 obtain⟨f,rfl⟩:∃ m:Nat,f=m:=⟨f.toNat,by omega⟩;obtain⟨n,rfl⟩:∃ m:Nat,n=m:=⟨n.toNat,by omega⟩;have A:f<=3:=by omega
 have F:=D.2;rcases Nat.eq_zero_or_pos n with rfl | C
 ·exact jjf f A w
 by_cases B:64<=(n-1) / 2^f
 ·refine jho f n A ?_ (by omega) w
  have:=(Nat.le_div_iff_mul_le (Nat.two_pow_pos f)).1 B;omega
 by_cases E:f<=(n-1) / 2^f
 ·exact jgN f n A C E (by omega) w
 ·exact jhp f n A C (by omega) w
end Go.Proofs.YtafhpamnegmilaaGreatDoor
