/- Package hll: Merge. -/
import Derived.Test.YtnegciklhanmbaaGreatDoorZJ1
set_option maxHeartbeats 2000000
set_option maxRecDepth 100000
namespace Go.Proofs.YtnegciklhanmbaaGreatDoor
open Go Go.RowKit Go.Shelf
section
attribute [local go_sem] Oper.semAt_some
theorem jrZ {α:Type} (f:α->Nat × UInt8) (l B:Nat) (s:ByteArray) (O:s.size<4294967281) (E:List α) (D:E.map f=jfR s) (J Y:List α->World->Prop)
  (g:∀ A x W,J A W->A.length<E.length->YieldAt Fence.wide 7 Tryz.prog l #[.int .i64 (f x).1,.int .u8 (f x).2.toNat] W fun e F =>
   (e=.returned (.bool true)/\J (A++[x]) F/\KL [B] W F)\/(e=.returned (.bool false)/\Y (A++[x]) F))
  (W:World) (C:W.heap[B]? = some (.cells #[.string s] 9 (0,0))) (c:J [] W) :
  CallsIn Fence.wide 8 Tryz.prog 217 #[.func (.yield l) #[] #[],.pointer (some ⟨B,0,none⟩)] W fun e F=>(∃ v,e=.returned v) /\
   ((∃ b,b=E/\J b F)\/(∃ A,A <+: E/\Y A F)):=by
 have M:E.length=s.size:=by rw[<- jg5 s,<- D,List.length_map]
 refine callsIn_of_wp Tryz.func217 rfl trivial ?_ rfl;simp only[Tryz.ntmps217,List.size_toArray,List.length_cons,List.length_nil,Nat.reduceAdd,Nat.reduceSub,Array.replicate_succ,Array.replicate_zero,List.push_toArray,List.append_toArray,List.nil_append,List.cons_append];have V:=Lib.hid M;have P:=Lib.hid C;have Q:=Lib.hid D;have m:W.cell? ⟨B,0,none⟩=some (.string s):=cCc C 0;clear M C D;gi_wp2;gi_loopw [3,6] (fun _ i wr=>∃ k:Nat,k<=s.size/\i=.int .i64 k/\J (E.take k) wr/\KL [B] W wr) (fun _ i _=>s.size-(intOf i).toNat)
 case atStart=>exact⟨0,Nat.zero_le _,rfl,c,KL.refl _ _⟩
 case round =>
  obtain⟨k,p,rfl,G,L⟩:=hrel;by_cases T:k<s.size
  ·have U:=jrB s k T
   rw[<- Q.out,List.getElem?_map] at U;obtain⟨y,N,I⟩:=Option.map_eq_some_iff.1 U;obtain⟨o,tmps,assign,body,a,d⟩:=g _ y _ G (by rw[List.length_take,V.out];omega);rw[I] at a;dsimp only at a;have X:=Lib.hid N;have Z:=L B (List.mem_singleton.2 rfl) _ P.out;have n:wr.cell? ⟨B,0,none⟩=some (.string s):=cCc Z 0;clear U Z N I;gi_wp2;refine d.mono ?_;rintro e j (⟨rfl,R,S⟩ | ⟨rfl,H⟩)
   ·gi_wp2
    go_roundw
    case rel=>exact⟨k+1,by omega,by simp,by rw[jaf X.out];exact R,L.trans S⟩
    case measure=>simp[intOf];omega
   ·gi_wp2
    refine bodyPost_ret (results_none rfl _ _ _) rfl ?_;exact⟨⟨_,rfl⟩,.inr ⟨_,by have h:=List.take_prefix (k+1) E;rwa [jaf X.out] at h,H⟩⟩
  ·obtain rfl:k=s.size:=by omega
   gi_wp2
   go_end0;exact⟨⟨_,rfl⟩,.inl ⟨_,List.take_of_length_le (by rw[V.out];omega),G⟩⟩
theorem jnW {α:Type} (f:α->Nat × UInt8) (C:Nat) (s:ByteArray) (A:s.size<4294967281) (B:List α) (D:B.map f=jfR s) (w:World) (L:w.heap[C]? = some (.cells #[.string s] 9 (0,0))) :
  SeqStopsK Fence.wide 8 Tryz.prog 217 #[.pointer (some ⟨C,0,none⟩)] (fun x:α=>#[.int .i64 (f x).1,.int .u8 (f x).2.toNat]) (KL [C]) (fun M=>M=B) (fun E=>E <+: B) B.length w:=fun l J F W H _ _ I G =>
 jrZ f l C s A B D J F I W (known H (Nat.le_refl _) L) G
def jrV (s1 s2:Nat) (x y:Value) (t:Array Value):Array Value:=(t.setIfInBounds s1 x).setIfInBounds s2 y
theorem jkv {α:Type} {P:Program} {g:Operand} {G:Array Tmp} {assign body:Code} {Q:Exit->Act->World->Prop} {a:Act} {w:World} (L:List Nat) (J M:Nat) (v1 v2:α->Value)
  {gf:Nat} {lb:Array Value} (Y:a.eval g=.func (.func gf) #[] lb) (S:∀ args w,(callFunc gf args).run P w=.ok (.enter gf args) w)
  {A:α->Array Value} {xs:List α} {N:Nat} {w0:World} (H:SeqStopsK Fence.wide 8 P gf lb A (KL L) (fun Z=>Z=xs) (fun C=>C <+: xs) N w0)
  (X:∀ b∈L,b<w.heap.size) (O:Bw w0 w) (R:∀ x,(A x).size=G.size)
  (I:List α->World->Prop) (V:OwnFrom w.heap.size I) (U:I [] w)
  (B:∀ (l:Nat) (C:List α) (x:α) (W:World) (K:Act->World->Prop),I C W->(I C W->K { tmps:=jrV J M (v1 x) (v2 x) ((G.zip (A x)).foldl (fun t (p,v)=>t.setIfInBounds p v) a.tmps),defers:=[] } W) ->
   assign.wpIn (Fence.wide.inRound l) 7 P (Exit.then K (fun _ _ _=>False)) { tmps:=(G.zip (A x)).foldl (fun t (p,v)=>t.setIfInBounds p v) a.tmps,defers:=[] } W)
  (E:∀ (l:Nat) (C:List α) (x:α) (W:World),I C W->C.length<N->body.wpIn (Fence.wide.inRound l) 7 P (ownPostG w.heap.size (KL L) I (fun _ _ _=>False) (C++[x]) W) { tmps:=jrV J M (v1 x) (v2 x) ((G.zip (A x)).foldl (fun t (p,v)=>t.setIfInBounds p v) a.tmps),defers:=[] } W)
  (F:∀ (D:Nat) (W:World),w.heap.size<=D->I xs W->W.heap[D]? = some (.deferred (some []))->Q .normal { a with defers:={ target:=.collected D,args:=#[] }::a.defers } W) :
  (Code.rangeFunc g G assign body).wp P Q a w:=by
 generalize hT:(fun x=>jrV J M (v1 x) (v2 x) ((G.zip (A x)).foldl (fun t (p,v)=>t.setIfInBounds p v) a.tmps))=T;have e:∀ x,jrV J M (v1 x) (v2 x) ((G.zip (A x)).foldl (fun t (p,v)=>t.setIfInBounds p v) a.tmps)=T x:=fun x=>congrFun hT x
 simp only[e] at B E;exact jgR L T Y S H X O R I V U B E F
def jcI (r:List Nat) (l:List (Nat × UInt8)):List Nat:=l.foldl (fun r p=>jbx r p.1 p.2.toNat) r
theorem jde:∀ (l:List (Nat × UInt8)) (r:List Nat),(jcI r l).length=r.length
 | [],_=>rfl
 | p::l,r=>by show (jcI (jbx r p.1 p.2.toNat) l).length=_;rw[jde l,jcr]
theorem jn9 (f:Nat->UInt8) (r:List Nat) (j:Nat):∀ n,(jcI r ((List.range n).map fun i=>(i,f i))).getD j 0=if j<n/\j<r.length then max (r.getD j 0) (f j).toNat else r.getD j 0
 | 0=>by rw[if_neg (by omega)];rfl
 | n+1=>by
  have e:jcI r ((List.range (n+1)).map fun i=>(i,f i))=jbx (jcI r ((List.range n).map fun i=>(i,f i))) n (f n).toNat:=by
   unfold jcI;rw[List.range_succ,List.map_append,List.foldl_append];rfl
  rw[e,jh7,jde,jn9 f r j n];by_cases h:n=j
  ·subst h
   by_cases A:n<r.length
   ·rw[if_pos ⟨rfl,A⟩,if_neg (by omega),if_pos ⟨by omega,A⟩]
   ·rw[if_neg (by omega),if_neg (by omega),if_neg (by omega)]
  ·rw[if_neg (fun e=>h e.1)]
   by_cases A:j<n/\j<r.length
   ·rw[if_pos A,if_pos (by omega)]
   ·rw[if_neg A,if_neg (by omega)]
theorem jsu (r A:List Nat) (D:r.length=A.length) (h:∀ x∈A,x<256):jcI r (jfR (jat A))=jfM r A:=by
 refine jfK _ _ (by rw[jde,jfN]) fun i B=>?_
 rw[jde] at B;have C:=jeU A h;unfold jfR;rw[jn9,jnG _ _ _ B,if_pos ⟨by rw[jbC];omega,B⟩]
 have:((jat A).data.toList.getD i 0).toNat=A.getD i 0:=by
  conv=>rhs;rw[<- C]
  rw[List.getD_eq_getElem?_getD,List.getD_eq_getElem?_getD,List.getElem?_map]
  cases (jat A).data.toList[i]?<;>rfl
 rw[this]
def XI (N g:Nat) (r:List Nat) (w:World) (pre:List { p:Nat × UInt8 // p.1<N }) (W:World):Prop:=RegsAt W g (jcI r (pre.map (·.1)))/\w.grownBy W (some g)
theorem jxG (N g:Nat) (r:List Nat) (w:World) (C:Nat) (I:w.heap.size<=C):OwnFrom C (XI N g r w):=fun M X Y row L G hr=>by
 obtain⟨F,H⟩:=L
 have E:∀ k o,X.heap[k]? = some o->o.isCells=true->some k≠row:=fun k o J D e=>by
  obtain⟨-,Q,B,A⟩:=hr k e.symm;rw[J] at B
  cases B
  rw[D] at A
  cases A
 obtain⟨O,P,D,-⟩:=id F;exact⟨F.grown G (E _ _ D rfl),H.andThen G (fun j e=>.inl (Nat.le_trans I (hr j e).1))⟩
theorem jo0 (b:Nat) (r C:List Nat) (w:World) (h1:3<=b) (h2:b<=8) (hl:r.length=2^b) (hr:∀ i,r.getD i 0<=65-b) (m:C.length=2^b) (n:∀ i,C.getD i 0<=65-b) :
  CR 283 #[.agg #[.int .i64 b,.string (jat r)],.agg #[.int .i64 b,.string (jat C)]] w (.tuple #[.agg #[.int .i64 b,.string (jat (jfM r C))],.int .i64 0]):=by
 have L:Hid (∀ w1,CR 172 #[.agg #[.int .i64 b,.string (jat C)]] w1 (.bool true)):=fun w1=>(jb9 b (jat C) w1).mono fun e w' h=>⟨by rw[h.1,jc3 b C h1 h2 m n],h.2⟩
 have aa:=Lib.hid (fun w=>jiQ b r w h1 h2 hl hr);have HT:Hid (∀ (s:ByteArray) (g cap:Nat) (W:World) (rr:List Nat) (p q:Nat),RegsAt W g rr->rr.length=2^b->p<2^b->Calls Tryz.prog 267 #[.agg #[.int .i64 b,.string s,.slice (some ⟨g,0,none⟩) (2^b) cap,.func (.func 264) #[] #[]],.int .i64 p,.int .u8 q] W fun e w'=>e=.returned (.tuple #[])/\RegsAt w' g (jbx rr p q)/\W.grownBy w' (some g)):=fun s g cap W rr p q h aw hp=>jkn _ s g (2^b) cap p q rr W h (by omega) aw
 have HD:Hid (∀ (s:ByteArray) (g cap:Nat) (W:World),RegsAt W g (jfM r C)->CR 261 #[.agg #[.int .i64 b,.string s,.slice (some ⟨g,0,none⟩) (2^b) cap,.func (.func 264) #[] #[]]] W (.agg #[.int .i64 b,.string (jat (jfM r C))])):=fun s g cap W h=>jfL _ s g (2^b) cap _ _ W h (by rw[jfN,hl])
 have ab:=Lib.hid (jsu r C (by omega) (fun x hx=>by have:=jjU n x hx;omega))
 have hO:∀ p∈jfR (jat C),p.1<2^b:=fun p hp=>by
  obtain⟨i,hi,rfl⟩:=List.mem_map.1 hp;rw[List.mem_range,jbC,m] at hi;exact hi
 have HZ:Hid ((jat C).size<4294967281):=by
  have:2^b<=2^8:=Nat.pow_le_pow_right (by omega) h2;show _<_;rw[jbC];omega
 have HL:Hid (∀ l,(jcI r l).length=2^b):=fun l=>by rw[jde,hl]
 obtain⟨ls,ax⟩:∃ ls:List { p:Nat × UInt8 // p.1<2^b },ls.map (·.1)=jfR (jat C):=⟨(jfR (jat C)).attachWith _ hO,List.attachWith_map_subtype_val _⟩;have U:=Lib.hid ax;clear ax hO;generalize jat C=s2 at L ab U HZ ⊢;generalize jat r=s at aa ⊢;generalize jat (jfM r C)=s3 at HD ⊢;obtain⟨W0,aL,f,ar,aq,ag,aP⟩:=jbF w #[.int .i64 b,.string s] 37 #[.int .i64 b,.string s2] 37 #[.int .i64 0,.string ⟨#[]⟩] 37;have ae:=Lib.hid f;have af:=Lib.hid ar;have aF:=Lib.hid aq;have y:=Lib.hid ag;obtain⟨z0,z1⟩:=cl2 f;clear f ar aq ag hl hr m n h1 h2;refine jaq Tryz.func283 rfl ?_;simp only[Tryz.ntmps283,List.size_toArray,List.length_cons,List.length_nil,Nat.reduceAdd,Nat.reduceSub,Array.replicate_succ,Array.replicate_zero,List.push_toArray,List.append_toArray,List.nil_append,List.cons_append];go_wp2_with fail;refine (aa.out _).mono ?_;rintro e J ⟨g,cap,rfl,o,aI,E⟩;obtain⟨W2,aM,a,ah,aJ⟩:=jab J #[.int .i64 b,.string s,.slice (some ⟨g,0,none⟩) (2^b) cap,.nilFunc] 406;have aS:=jpx (off:=3) a rfl (.func 264);obtain⟨W3,Z⟩:∃ W3,W2.setCell ⟨J.heap.size,3,none⟩ (.func (.func 264) #[] #[])=W3:=⟨_,rfl⟩;have c:W3.heap[J.heap.size]? = some (.cells #[.int .i64 b,.string s,.slice (some ⟨g,0,none⟩) (2^b) cap,.func (.func 264) #[] #[]] 406 (0,0)):=by rw[<- Z];exact hSk a _
 have A:Bw J W3:=by rw[<- Z];exact ah.setCell (p:=⟨J.heap.size,3,none⟩) (Nat.le_refl _) _
 have aQ:W3.heap.size=J.heap.size+1:=by rw[<- Z,jbR,aJ]
 have au:=known (E.trans (A.mono E.size)) (Nat.le_refl _) af.out;have R:=known (E.trans (A.mono E.size)) (Nat.le_refl _) ae.out;have ay:=o.go A;obtain⟨c0,c1,c2,c3⟩:=cl4 c;obtain⟨y0,y1⟩:=cl2 au;obtain⟨x0,x1⟩:=cl2 R;have aE:=Lib.hid c;have aB:=Lib.hid ay;have O:=Lib.hid A;have F:Hid (w.heap.size+3<=g/\g<J.heap.size):=⟨by omega,o.lt⟩;have T:=Lib.hid E;clear a c ah A au R ay o aI E;go_wp2_with fail;refine (L.out _).mono ?_;rintro e u ⟨rfl,I⟩;have B:Bw W0 u:=T.out.trans ((O.out.trans (I.mono O.out.size)).mono T.out.size);have av:=known B (Nat.le_refl _) af.out;have S:=known B (Nat.le_refl _) ae.out;have Q:=known B (Nat.le_refl _) aF.out;have an:=known I (Nat.le_refl _) aE.out;have az:=aB.out.go I;obtain⟨d0,d1⟩:=cl2 av;obtain⟨k0,k1⟩:=cl2 S;obtain⟨W5,ao,aH,G,aR⟩:=jab u #[.string s2] 9;have aD:=Lib.hid ao;have ad:=Lib.hid Q;have ac:=Lib.hid an;have aC:=Lib.hid az;have z:=Lib.hid B;have aT:J.heap.size<u.heap.size:=by have:=I.size;omega
 clear av S Q an az B ao I c0 c1 c2 c3 y0 y1 x0 x1 z0 z1;go_wp2_with (go_at_call 200;refine (jhU _ _).mono ?_;rintro e w' ⟨rfl,rfl⟩;rw[aD.out]);have hn:w.heap.size+3<=J.heap.size:=by have:=T.out.size;omega
 refine jkv [u.heap.size] 8 9 (fun x : { p:Nat × UInt8 // p.1<2^b }=>.int .i64 x.1.1) (fun x=>.int .u8 x.1.2.toNat) (gf:=217) (lb:=#[.pointer (some ⟨u.heap.size,0,none⟩)]) rfl (enters_of Tryz.func217 (by kernel_rfl) rfl)
  (jnW (fun x : { p:Nat × UInt8 // p.1<2^b }=>x.1) u.heap.size s2 HZ.out ls U.out W5 aH) (by intro k hk;simp at hk;omega) (Below.refl _ _) (fun _=>rfl) (XI (2^b) g r W5) (jxG (2^b) g r W5 _ (Nat.le_refl _)) ⟨aC.out.go G,World.grownBy.refl _ _⟩ ?assign ?body ?fin
 case assign =>
  rintro l t x W K hI hK;simp only[jrV,List.zip_toArray,List.zip_cons_cons,List.zip_nil_right,List.size_toArray,List.foldl_toArray',List.foldl_cons,List.foldl_nil,List.setIfInBounds_toArray,List.set_cons_succ,List.set_cons_zero] at hK ⊢;gi_wp2;exact hI
 case body =>
  rintro lo t x W ⟨L,P⟩ aO;simp only[jrV,List.zip_toArray,List.zip_cons_cons,List.zip_nil_right,List.size_toArray,List.foldl_toArray',List.foldl_cons,List.foldl_nil,List.setIfInBounds_toArray,List.set_cons_succ,List.set_cons_zero];have aK:=x.2
  have HS:Hid (jbx (jcI r (t.map (·.1))) x.1.1 x.1.2.toNat=jcI r ((t++[x]).map (·.1))):=by
   unfold Hid jcI;rw[List.map_append,List.foldl_append];rfl
  have hT:=HT.out s g cap W _ x.1.1 x.1.2.toNat L (HL.out _) aK
  have hX:W.heap[J.heap.size]? = some (.cells #[.int .i64 b,.string s,.slice (some ⟨g,0,none⟩) (2^b) cap,.func (.func 264) #[] #[]] 406 (0,0)) :=
   (P.block _ (by omega) (fun e=>by cases e;have:=F.out.2;omega)).trans (known G (Nat.le_refl _) ac.out)
  obtain⟨c0,c1,c2,c3⟩:=cl4 hX;have HG:=Lib.hid P;have aN:=F.out.2;clear P hX L d0 d1 k0 k1;gi_wp2_with fail;refine⟨trivial,(CallsIn.inRound lo (callsIn_wide.2 hT)).mono ?_⟩;rintro e W7 ⟨rfl,aG,Y⟩;gi_wp2_with fail;exact⟨KeepsFrom.of_grownBy Y (fun j e=>by cases e;omega),KL.grown Y (fun k hk=>by simp at hk;subst hk;intro e;cases e;omega),by rw[<- HS.out];exact aG,HG.out.trans Y⟩
 case fin =>
  rintro D W hD ⟨L,P⟩ hK;rw[U.out,ab.out] at L;have aj:=HD.out s g cap W L
  have hX:W.heap[J.heap.size]? = some (.cells #[.int .i64 b,.string s,.slice (some ⟨g,0,none⟩) (2^b) cap,.func (.func 264) #[] #[]] 406 (0,0)) :=
   (P.block _ (by omega) (fun e=>by cases e;have:=F.out.2;omega)).trans (known G (Nat.le_refl _) ac.out)
  have am:W.heap[w.heap.size+2]? = some (.cells #[.int .i64 0,.string ⟨#[]⟩] 37 (0,0)) :=
   (P.block _ (by omega) (fun e=>by cases e;have:=F.out.1;omega)).trans (known G (Nat.le_refl _) ad.out)
  have H:Bw w W5:=y.out.trans ((z.out.trans (G.mono z.out.size)).mono y.out.size);have X:Bw w W:=H.grown P H.size (fun j e=>by cases e;have:=F.out.1;omega);obtain⟨c0,c1,c2,c3⟩:=cl4 hX;have aA:=Lib.hid aj;clear aj hX L P H d0 d1 k0 k1;go_wp2_with fail;refine aA.out.mono ?_;rintro e w6 ⟨rfl,N⟩;have M:=known N (Nat.le_refl _) am;have ak:=known N (Nat.le_refl _) hK;obtain⟨q0,q1⟩:=cl2 M;obtain⟨f0,f1⟩:=cz2 M;obtain⟨V,hV⟩:∃ V,(w6.setCell ⟨w.heap.size+1+1,0,none⟩ (.int .i64 b)).setCell ⟨w.heap.size+1+1,1,none⟩ (.string s3)=V:=⟨_,rfl⟩;have ap:V.heap[w.heap.size+1+1]? = some (.cells #[.int .i64 b,.string s3] 37 (0,0)):=by rw[<- hV];exact jbq M
  have al:V.heap[D]? = some (.deferred (some [])):=by
   rw[<- hV];exact (jaa (p:=⟨w.heap.size+1+1,1,none⟩) (by show w.heap.size+1+1≠D;omega) _).trans ((jaa (p:=⟨w.heap.size+1+1,0,none⟩) (by show w.heap.size+1+1≠D;omega) _).trans ak)
  have ai:Bw w V:=by
   rw[<- hV];exact ((X.trans (N.mono X.size)).setCell (p:=⟨w.heap.size+1+1,0,none⟩) (by show _<=_+1+1;omega) _).setCell (p:=⟨w.heap.size+1+1,1,none⟩) (by show _<=_+1+1;omega) _
  have d:(V.putObj D (.deferred none)).heap[w.heap.size+1+1]? = some (.cells #[.int .i64 b,.string s3] 37 (0,0)):=(World.putObj_heap_other (by omega)).trans ap;have x0:(V.putObj D (.deferred none)).cell? ⟨w.heap.size+1+1,0,none⟩=some (.int .i64 b):=cCc d 0;have x1:(V.putObj D (.deferred none)).cell? ⟨w.heap.size+1+1,1,none⟩=some (.string s3):=cCc d 1;have HE:Hid (V.heap[D]? = some (.deferred (some []))/\Bw w V):=⟨al,ai⟩;clear M ak ap al ai d am X N hK;go_wp2_with fail;refine jau (v:=.tuple #[.agg #[.int .i64 b,.string s3],.int .i64 0]) HE.out.1 ?_ ?_
  ·simp[results,Tryz.f283,go_sem,x0,x1]
  ·exact⟨rfl,jee HE.out.2 (by omega) HE.out.1⟩
end
end Go.Proofs.YtnegciklhanmbaaGreatDoor
