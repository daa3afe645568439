/- Package hll: begin, add. Package hll: Of, Add, Lower. Package hll: Lower. Histograms as plain data: bins put into rising bins, buckets half as fine. No program in sight. Sketches at work as plain data: a number added, one level lower. No program in sight. Package cms: together, col, blank, the iterators. Package hist: together, Bucket. -/
import Derived.Test.YtafhpamnegmilaaGreatDoorYHC
set_option maxHeartbeats 2000000
set_option maxRecDepth 100000
namespace Go.Proofs.YtafhpamnegmilaaGreatDoor
open Go Go.RowKit
section
open Go.Shelf
attribute [local go_sem] Oper.semAt_some
theorem jbz (r:List Nat):(jap r).size=r.length:=by simp[jap,strOfNums,ByteArray.size]
theorem jdk (r:List Nat) (h:∀ x∈r,x<256):(jap r).data.toList.map (·.toNat)=r:=by
 unfold jap;rw[strOfNums_data,List.map_map,List.map_map]
 conv=>rhs;rw[<- List.map_id r]
 refine List.map_congr_left (fun x A=>?_);have:=h x A;simp[UInt8.toNat_ofNat'];omega
theorem jeH {r:List Nat} {m:Nat} (h:∀ i,r.getD i 0<=m):∀ x∈r,x<=m:=fun x B=>by
 obtain⟨i,A⟩:=List.getElem?_of_mem B;have:=h i;rwa [List.getD_eq_getElem?_getD,A] at this
theorem jdo (b:Nat) (r:List Nat) (I:3<=b) (J:b<=8) (F:r.length=2^b) (hr:∀ i,r.getD i 0<=65-b):jaT b (jap r)=true:=by
 have A:=jeH hr;have G:=jdk r (fun x H=>by have:=A x H;omega);unfold jaT;have B:jbP b=true:=by simp[jbP];omega
 have C:(((jap r).size:Int)==2^(b:Int).toNat)=true:=by rw[beq_iff_eq,jbz,F,Int.toNat_natCast];simp
 have D:jcC b (jap r)=true:=by
  unfold jcC;rw[List.all_eq_true];intro c E;have:c.toNat∈r:=by rw[<- G];exact List.mem_map_of_mem E
  have:=A _ this;simp;omega
 rw[B,C,D];rfl
theorem jpi (b:Nat) (r:List Nat) (w:World) (f:3<=b) (j:b<=8) (Y:r.length=2^b) (hr:∀ i,r.getD i 0<=65-b) :
  Calls Tryz.prog 265 #[.agg #[.int .i64 b,.string (jap r)]] w fun e w'=>∃ g cap,e=.returned (.tuple #[.agg #[.int .i64 b,.string (jap r),.slice (some ⟨g,0,none⟩) (2^b) cap,.func (.func 244) #[] #[]],.nilIface])/\RegsAt w' g r/\w.heap.size<=g/\Bw w w':=by
 have k:Hid (∀ J,Bw w J->CR 177 #[.agg #[.int .i64 b,.string (jap r)]] J (.bool true)):=fun J hb=>(jdd b (jap r) J).mono fun e w' h=>⟨by rw[h.1,jdo b r f j Y hr],h.2⟩
 have Z:=jdk r (fun x u=>by have:=jeH hr x u;omega);have S:=jbz r;rw[Y] at S;generalize jap r=s at Z S k ⊢;obtain⟨W0,n,A,B,H,q⟩:=jaI w #[.int .i64 b,.string s] 34 #[.int .i64 0,.string ⟨#[]⟩,.slice none 0 0,.nilFunc] 317;have T:=Lib.hid A;have U:=Lib.hid B;have m:=Lib.hid S;have l:=Lib.hid Z;obtain⟨c0,c1⟩:=cl2 A;clear S Y hr Z A B f j;go_enter Tryz.func265,Tryz.ntmps265;go_wp2_with fail;refine (k.out _ H).mono ?_;rintro e J ⟨rfl,C⟩;have A:=jab C (Nat.le_refl _) T.out;have B:=jab C (Nat.le_refl _) U.out;obtain⟨k0,k1⟩:=cl2 A;obtain⟨d,cap,P,F,D,R⟩:=jeY J s;rw[l.out] at F;rw[m.out] at P;generalize hg:J.heap.size=g at P F D R;have c:w.heap.size+1<g:=by rw[<- hg];have:=C.size;omega
 have E:=(D.block _ c).trans B;have M:Bw w d:=(H.trans (C.mono H.size)).trans (D.mono (by omega));obtain⟨d0,d1,d2,d3⟩:=cl4 E;obtain⟨f0,f1,f2,f3⟩:=cz4 E;obtain⟨G,I⟩:∃ G,((d.setCell ⟨w.heap.size+1,0,none⟩ (.int .i64 b)).setCell ⟨w.heap.size+1,1,none⟩ (.string s)).setCell ⟨w.heap.size+1,2,none⟩ (.slice (some ⟨g,0,none⟩) (2^b) cap)=G:=⟨_,rfl⟩;have N:G.heap[w.heap.size+1]? = some (.cells #[.int .i64 b,.string s,.slice (some ⟨g,0,none⟩) (2^b) cap,.nilFunc] 317 (0,0)):=by rw[<- I];exact hSk (hSk (hSk E _) _) _
 have X:Bw w G:=by rw[<- I];exact ((M.setCell (p:=⟨w.heap.size+1,0,none⟩) (Nat.le_succ _) _).setCell (p:=⟨w.heap.size+1,1,none⟩) (Nat.le_succ _) _).setCell (p:=⟨w.heap.size+1,2,none⟩) (Nat.le_succ _) _
 have a:RegsAt G g r:=by rw[<- I];exact ((F.other (by omega) _).other (by omega) _).other (by omega) _
 have t:=jr9 (off:=3) N rfl (.func 244);clear hg A B E F D M R C;go_wp2_with fail;have O:(G.setCell ⟨w.heap.size+1,3,none⟩ (.func (.func 244) #[] #[])).heap[w.heap.size+1]? = some (.cells #[.int .i64 b,.string s,.slice (some ⟨g,0,none⟩) (2^b) cap,.func (.func 244) #[] #[]] 317 (0,0)):=hSk N _;have L:=X.setCell (p:=⟨w.heap.size+1,3,none⟩) (Nat.le_succ _) (.func (.func 244) #[] #[]);have Q:=a.other (b:=w.heap.size+1) (o:=3) (by omega) (.func (.func 244) #[] #[]);generalize G.setCell ⟨w.heap.size+1,3,none⟩ (.func (.func 244) #[] #[])=V at O L Q ⊢;obtain⟨y,z,q2,q3⟩:=cl4 O;exact bodyPost_ret (v:=.tuple #[.agg #[.int .i64 b,.string s,.slice (some ⟨g,0,none⟩) (2^b) cap,.func (.func 244) #[] #[]],.nilIface]) (by simp[results,Tryz.f265,go_sem,y,z,q2,q3]) rfl ⟨g,cap,rfl,Q,by omega,L⟩
theorem jer {α:Type} {P:Program} {g:Operand} {G:Array Tmp} {assign body:Code} {Q:Exit->Act->World->Prop} {a:Act} {w:World} (L:List Nat) (O:Nat) (v1:α->Value)
  {gf:Nat} {lb:Array Value} (X:a.eval g=.func (.func gf) #[] lb) (S:∀ args w,(callFunc gf args).run P w=.ok (.enter gf args) w)
  {A:α->Array Value} {xs:List α} {N:Nat} {R:World} (H:SeqStopsK Fence.wide 8 P gf lb A (KL L) (fun Y=>Y=xs) (fun B=>B <+: xs) N R)
  (V:∀ b∈L,b<w.heap.size) (J:Bw R w) (M:∀ x,(A x).size=G.size)
  (I:List α->World->Prop) (U:OwnFrom w.heap.size I) (T:I [] w)
  (C:∀ (l:Nat) (B:List α) (x:α) (W:World) (K:Act->World->Prop),I B W->(I B W->K { tmps:=((G.zip (A x)).foldl (fun t (p,v)=>t.setIfInBounds p v) a.tmps).setIfInBounds O (v1 x),defers:=[] } W) ->
   assign.wpIn (Fence.wide.inRound l) 7 P (Exit.then K (fun _ _ _=>False)) { tmps:=(G.zip (A x)).foldl (fun t (p,v)=>t.setIfInBounds p v) a.tmps,defers:=[] } W)
  (E:∀ (l:Nat) (B:List α) (x:α) (W:World),I B W->B.length<N->body.wpIn (Fence.wide.inRound l) 7 P (ownPostG w.heap.size (KL L) I (fun _ _ _=>False) (B++[x]) W) { tmps:=((G.zip (A x)).foldl (fun t (p,v)=>t.setIfInBounds p v) a.tmps).setIfInBounds O (v1 x),defers:=[] } W)
  (F:∀ (D:Nat) (W:World),w.heap.size<=D->I xs W->W.heap[D]? = some (.deferred (some []))->Q .normal { a with defers:={ target:=.collected D,args:=#[] }::a.defers } W) :
  (Code.rangeFunc g G assign body).wp P Q a w :=
 jhf L (fun x=>((G.zip (A x)).foldl (fun t (p,v)=>t.setIfInBounds p v) a.tmps).setIfInBounds O (v1 x)) X S H V J M I U T C E F
def AI (b g B:Nat) (wv:Array Value) (r:List Nat) (w:World) (pre:List { n:Int // U64 n }) (W:World):Prop:=RegsAt W g (jcn b r (pre.map fun x=>x.1.toNat))/\W.heap[B]? = some (.cells wv 317 (0,0))/\w.grownBy W (some g)
theorem jww (b g B:Nat) (P:Array Value) (r:List Nat) (w:World) (C:Nat) (L:w.heap.size<=C):OwnFrom C (AI b g B P r w):=fun O X Y row N H hr=>by
 obtain⟨I,F,J⟩:=N
 have D:∀ k o,X.heap[k]? = some o->o.isCells=true->some k≠row:=fun k o M G e=>by
  obtain⟨-,R,E,A⟩:=hr k e.symm;rw[M] at E
  cases E
  rw[G] at A
  cases A
 obtain⟨cs,Q,G,-⟩:=id I;exact⟨I.grown H (D _ _ G rfl),(H.block _ (Array.getElem?_eq_some_iff.1 F).1 (D _ _ F rfl)).trans F,J.andThen H (fun j e=>.inl (Nat.le_trans L (hr j e).1))⟩
theorem jtO (b:Nat) (s:ByteArray) (g cap:Nat) (r:List Nat) (l:List Int) (a:Option Addr) (len B:Nat) (w:World) (h1:3<=b) (h2:b<=8) (hr:RegsAt w g r) (hl:r.length=2^b) (t:SlE jaG 1 w.heap.size w a len l) (hu:jc8 l) (G:0<len->∀ x,a=some x->x.block≠g) (af:len<=1000) :
  Calls Tryz.prog 240 #[.agg #[.int .i64 b,.string s,.slice (some ⟨g,0,none⟩) (2^b) cap,.func (.func 244) #[] #[]],.slice a len B] w fun e w'=>e=.returned (.tuple #[])/\RegsAt w' g (jcn b r (l.map Int.toNat))/\w.grownBy w' (some g):=by
 refine jay Tryz.func240 rfl ?_;simp only[Tryz.ntmps240,List.size_toArray,List.length_cons,List.length_nil,Nat.reduceAdd,Nat.reduceSub,Array.replicate_succ,Array.replicate_zero,List.push_toArray,List.append_toArray,List.nil_append,List.cons_append];obtain⟨o,R,T,O,ac⟩:=jaf w #[.int .i64 b,.string s,.slice (some ⟨g,0,none⟩) (2^b) cap,.func (.func 244) #[] #[]] 317;obtain⟨L,S,I,P,aj⟩:=jaf o #[.slice a len B] 30;have N:=Lib.hid S;clear S;go_wp2_with (go_at_call 245;refine (jew _ _ _ _).mono ?_;rintro e w' ⟨rfl,rfl⟩;rw[N.out]);have ag:=hr.lt;have ak:L.heap.size=w.heap.size+2:=by omega
 have z:L.heap[w.heap.size]? = some (.cells #[.int .i64 b,.string s,.slice (some ⟨g,0,none⟩) (2^b) cap,.func (.func 244) #[] #[]] 317 (0,0)):=(P.block _ (by omega)).trans T;rw[ac] at I;have H:Bw w L:=O.trans (P.mono O.size);have aa:w.grownBy L (some g):=((by rw[<- R];exact World.grownBy_alloc w _ _:w.grownBy o (some g))).trans (by rw[<- N.out];exact World.grownBy_alloc o _ _)
 obtain⟨M,V,ae,ad⟩:∃ M,(0<len->∀ x,a=some x->x.block=M)/\M<w.heap.size+2/\M≠g:=by
  rcases Nat.eq_zero_or_pos len with h | h
  ·exact⟨w.heap.size+1,fun h'=>by omega,by omega,by omega⟩
  ·obtain⟨x,bb,off,-,e,hb,-⟩:=t.at h
   exact⟨bb,fun _ y hy=>by rw[e] at hy;cases hy;rfl,by omega,G h _ e⟩
 obtain⟨ls,ab⟩:∃ ls:List { n:Int // U64 n },ls.map (·.1)=l:=⟨l.attachWith U64 (fun n m=>hu n m),List.attachWith_map_subtype_val _⟩;subst ab;have Y:=jsx (fun x : { n:Int // U64 n }=>x.1) (w.heap.size+1) M w.heap.size a len B ls (by omega) L (by omega) I (t.below H) V;have HL:=Lib.hid hl;have E:Hid (3<=b/\b<=8):=⟨h1,h2⟩;have p:AI b g w.heap.size #[.int .i64 b,.string s,.slice (some ⟨g,0,none⟩) (2^b) cap,.func (.func 244) #[] #[]] r w [] L:=⟨hr.block (H.block _ hr.lt),z,aa⟩;clear R T I t hu G V hl h1 h2
 refine jer [w.heap.size+1,M] 4 (fun x : { n:Int // U64 n }=>.int .u64 x.1) (gf:=250) (lb:=#[.pointer (some ⟨w.heap.size+1,0,none⟩)]) rfl (enters_of Tryz.func250 (by kernel_rfl) rfl)
  Y (by intro k i;simp at i;omega) (Below.refl _ _) (fun _=>rfl) (AI b g w.heap.size #[.int .i64 b,.string s,.slice (some ⟨g,0,none⟩) (2^b) cap,.func (.func 244) #[] #[]] r w) (jww b g w.heap.size _ r w _ H.size) p ?assign ?body ?fin
 case assign =>
  rintro l C x W K hI hK;simp only[List.zip_toArray,List.zip_cons_cons,List.zip_nil_right,List.size_toArray,List.foldl_toArray',List.foldl_cons,List.foldl_nil,List.setIfInBounds_toArray,List.set_cons_succ,List.set_cons_zero] at hK ⊢;gi_wp2;exact hI
 case body =>
  rintro lo C x W ⟨Q,f,c⟩ ai;simp only[List.zip_toArray,List.zip_cons_cons,List.zip_nil_right,List.size_toArray,List.foldl_toArray',List.foldl_cons,List.foldl_nil,List.setIfInBounds_toArray,List.set_cons_succ,List.set_cons_zero];have d:=jqd b x.1 W E.out.1 E.out.2 x.2;have J:=x.2;generalize m:x.1=n at d J;have U:=jkm b n.toNat E.out.2 (by unfold U64 at J;omega);have X:=jlJ b n.toNat E.out.2
  have Z:Hid (jbg (jcn b r (C.map fun x=>x.1.toNat)) (jna b n.toNat) (jcU b n.toNat)=jcn b r ((C++[x]).map fun x=>x.1.toNat)):=by
   unfold Hid jcn;rw[List.map_append,List.foldl_append,List.map_singleton,m];rfl
  have A:=jeE b (C.map fun x=>x.1.toNat) r;rw[HL.out] at A;generalize jna b n.toNat=q at d U Z;generalize jcU b n.toNat=k at d X Z;generalize jcn b r (C.map fun x=>x.1.toNat)=r1 at Q A Z;have hT:=jk1 b s g (2^b) cap q k r1 W Q (by omega) A;have ah:IntKind.u8.wrap (k:Int)=(k:Int):=by have:k<256:=(by omega);simp[IntKind.wrap,IntKind.bits,IntKind.signed];omega
  obtain⟨c0,c1,c2,c3⟩:=cl4 f;have HG:=Lib.hid c;have HX:=Lib.hid f;clear c f J m Q U A X;gi_wp2_with fail;refine⟨trivial,(CallsIn.inRound lo (callsIn_wide.2 d)).mono ?_⟩;rintro e W6 ⟨rfl,rfl⟩;gi_wp2_with fail;refine⟨trivial,(CallsIn.inRound lo (callsIn_wide.2 hT)).mono ?_⟩;rintro e W7 ⟨rfl,u,F⟩;gi_wp2_with fail;refine⟨KeepsFrom.of_grownBy F (fun j e=>by cases e;omega),KL.grown F (fun k i=>by simp at i;rcases i with rfl | rfl<;>(intro e;cases e;omega)),by rw[<- Z.out];exact u,(F.block _ (Array.getElem?_eq_some_iff.1 HX.out).1 (fun e=>by cases e;omega)).trans HX.out,HG.out.trans F⟩
 case fin =>
  rintro D W hD ⟨Q,f,c⟩ hK;have G:some g≠some D:=fun e=>by cases e;omega
  refine jaX (v:=.tuple #[]) hK (results_none rfl _ _ _) ⟨rfl,?_,?_⟩
  ·rw[List.map_map]
   exact Q.grown (grownBy_putObj' _ D _) G
  ·exact c.andThen (grownBy_putObj' _ D _) (fun j e=>by cases e;exact .inl (by omega))
end
section
open Go.Shelf
theorem jvE (b:Nat) (l:List Int) (a:Option Addr) (len cap:Nat) (w:World) (j:3<=b) (m:b<=8) (t:SlE jaG 1 w.heap.size w a len l) (z:jc8 l) (c:len<=1000) :
  CR 235 #[.int .i64 b,.slice a len cap] w (.tuple #[.agg #[.int .i64 b,.string (jap (jcn b (jaY b) (l.map Int.toNat)))],.int .i64 0]):=by
 have hB:=fun w=>jlo b w j m
 obtain⟨W0,aa,U,P,ae⟩:=jaf w #[.int .i64 0,.string ⟨#[]⟩] 34;have i:=Lib.hid U;have r:=Lib.hid t;have HU:=Lib.hid z;have N:Hid (3<=b/\b<=8):=⟨j,m⟩;obtain⟨A,C⟩:∃ A,jap (jcn b (jaY b) (l.map Int.toNat))=A:=⟨_,rfl⟩;rw[C];have O:=Lib.hid C;clear t z U j m C;go_enter Tryz.func235,Tryz.ntmps235;go_wp2_with fail;refine (hB _).mono ?_;rintro e f ⟨g,rfl,M,ac,E⟩;obtain⟨W2,ab,H,Q,af⟩:=jaf f #[.int .i64 b,.string ⟨#[]⟩,.slice (some ⟨g,0,none⟩) (2^b) (2^b),.nilFunc] 317;have ag:=jr9 (off:=3) H rfl (.func 244);obtain⟨G,T⟩:∃ G,W2.setCell ⟨f.heap.size,3,none⟩ (.func (.func 244) #[] #[])=G:=⟨_,rfl⟩;have I:G.heap[f.heap.size]? = some (.cells #[.int .i64 b,.string ⟨#[]⟩,.slice (some ⟨g,0,none⟩) (2^b) (2^b),.func (.func 244) #[] #[]] 317 (0,0)):=by rw[<- T];exact hSk H _
 have ad:=M.lt;have B:Bw f G:=by rw[<- T];exact Q.setCell (p:=⟨f.heap.size,3,none⟩) (Nat.le_refl _) _
 have d:RegsAt G g (jaY b):=M.go B;have D:Bw w G:=(P.trans (E.mono P.size)).trans (B.mono (by have:=E.size;omega));have hA:=jtO b ⟨#[]⟩ g (2^b) (jaY b) l a len cap G N.out.1 N.out.2 d (by simp[jaY]) ((r.out.below D).mono D.size) HU.out (fun h x hx=>by obtain⟨y,bb,off,-,e,hb,-⟩:=r.out.at h;rw[e] at hx;cases hx;show bb≠g;omega) c;obtain⟨c0,c1,c2,c3⟩:=cl4 I;have HR:=Lib.hid (jeE b (l.map Int.toNat) (jaY b));clear H M d Q;go_wp2_with fail;refine hA.mono ?_;rintro e w4 ⟨rfl,q,L⟩;have o:=(L.block _ (Array.getElem?_eq_some_iff.1 I).1 (fun e=>by cases e;omega)).trans I;have R:Bw w w4:=D.grown L D.size (fun k e=>by cases e;omega);have F:=jab (E.trans (B.mono E.size)) (Nat.le_refl _) i.out;have X:=(L.block _ (Array.getElem?_eq_some_iff.1 F).1 (fun e=>by cases e;omega)).trans F;have s:=jh8 b ⟨#[]⟩ g (2^b) (2^b) (.func (.func 244) #[] #[]) _ w4 q (by rw[HR.out];simp[jaY]);rw[O.out] at s;obtain⟨d0,d1,d2,d3⟩:=cl4 o;go_wp2_with fail;refine s.mono ?_;rintro e w5 ⟨rfl,Z⟩;have J:=jab Z (Nat.le_refl _) X;have n:=R.trans (Z.mono R.size);obtain⟨q0,q1⟩:=cl2 J;obtain⟨f0,f1⟩:=cz2 J;have Y:=jbB (u:=.int .i64 b) (v:=.string A) J;have S:=(n.setCell (p:=⟨w.heap.size,0,none⟩) (Nat.le_refl _) (.int .i64 b)).setCell (p:=⟨w.heap.size,1,none⟩) (Nat.le_refl _) (.string A);go_wp2_with fail;generalize (w5.setCell ⟨w.heap.size,0,none⟩ (.int .i64 b)).setCell ⟨w.heap.size,1,none⟩ (.string A)=V at Y S ⊢;obtain⟨k0,k1⟩:=cl2 Y
 exact bodyPost_ret (v:=.tuple #[.agg #[.int .i64 b,.string A],.int .i64 0]) (by simp[results,Tryz.f235,go_sem,k0,k1]) rfl ⟨rfl,S⟩
def jpr (b:Nat) (r:List Nat) (k:Nat):List Nat:=(List.range (2^(b-1))).map fun i=>if i<k then max (upR (r.getD (2*i) 0)) (jp6 (r.getD (2*i+1) 0)) else 0
theorem jde (b:Nat) (r:List Nat) (k:Nat):(jpr b r k).length=2^(b-1):=by simp[jpr]
theorem jin (b:Nat) (r:List Nat) (k i:Nat) (A:i<2^(b-1)):(jpr b r k).getD i 0=if i<k then max (upR (r.getD (2*i) 0)) (jp6 (r.getD (2*i+1) 0)) else 0:=by
 simp[jpr,List.getD_eq_getElem?_getD,A]
theorem ju0 (b:Nat) (r:List Nat):jpr b r 0=jaY (b-1):=by
 refine jgd _ _ (by rw[jde];simp[jaY]) (fun i A=>?_);rw[jde] at A;rw[jin _ _ _ _ A,if_neg (by omega)];simp[jaY,List.getD_eq_getElem?_getD,A]
theorem joq (b:Nat) (r:List Nat):jpr b r (2^(b-1))=jfC b r:=by
 refine jgd _ _ (by rw[jde,jic]) (fun i A=>?_);rw[jde] at A;rw[jin _ _ _ _ A,if_pos A,ju1 _ _ _ A]
theorem jlW (b:Nat) (r:List Nat) (k:Nat):jbg (jbg (jpr b r k) k (upR (r.getD (2*k) 0))) k (jp6 (r.getD (2*k+1) 0))=jpr b r (k+1):=by
 refine jgd _ _ (by simp only[jcG,jde]) (fun i A=>?_);simp only[jcG,jde] at A;rw[jiY,jiY,jin _ _ _ _ A,jin _ _ _ _ A,jcG,jde];by_cases h:k=i
 ·subst h
  rw[if_pos ⟨rfl,A⟩,if_pos ⟨rfl,A⟩,if_neg (by omega),if_pos (by omega)];omega
 ·rw[if_neg (fun e=>h e.1),if_neg (fun e=>h e.1)]
  by_cases B:i<k
  ·rw[if_pos B,if_pos (by omega)]
  ·rw[if_neg B,if_neg (by omega)]
theorem jcX (r:List Nat) (p:Nat):jbg r p 0=r:=by
 refine jgd _ _ (jcG _ _ _) (fun i _=>?_);rw[jiY];split<;>omega
theorem jkZ (r:List Nat) (h:∀ x∈r,x<256) (i:Nat) (A:i<(jap r).size):((jap r)[i]'A).toNat=r.getD i 0:=by
 have B:=jdk r h
 have C:(jap r).data.toList[i]? = some ((jap r)[i]'A):=by
  rw[List.getElem?_eq_getElem (by rw[Array.length_toList];exact A)];rfl
 have D:r[i]? = some ((jap r)[i]'A).toNat:=by
  conv=>lhs;rw[<- B]
  rw[List.getElem?_map,C];rfl
 rw[List.getD_eq_getElem?_getD,D];rfl
theorem jpf (b:Nat) (r:List Nat) (w:World) (h1:4<=b) (h2:b<=8) (hl:r.length=2^b) (hr:∀ i,r.getD i 0<=65-b) :
  CR 263 #[.agg #[.int .i64 b,.string (jap r)]] w (.tuple #[.agg #[.int .i64 ((b-1:Nat):Int),.string (jap (jfC b r))],.int .i64 0]):=by
 have P:Hid (∀ w1,CR 177 #[.agg #[.int .i64 b,.string (jap r)]] w1 (.bool true)):=fun w1=>(jdd b (jap r) w1).mono fun e w' h=>⟨by rw[h.1,jdo b r (by omega) h2 hl hr],h.2⟩
 have hB:Hid (∀ w,Calls Tryz.prog 238 #[.int .i64 ((b:Int)-1)] w fun e w'=>∃ g,e=.returned (.tuple #[.agg #[.int .i64 ((b:Int)-1),.string ⟨#[]⟩,.slice (some ⟨g,0,none⟩) (2^(b-1)) (2^(b-1)),.func (.func 244) #[] #[]],.nilIface])/\RegsAt w' g (jaY (b-1))/\w.heap.size<=g/\Bw w w'):=fun w=>by
  have:=jlo (b-1) w (by omega) (by omega);rw[show (((b-1:Nat)):Int)=(b:Int)-1 by omega] at this;exact this
 have m:Hid (∀ (i:Nat) (hi:i<(jap r).size),((jap r)[i]'hi).toNat=r.getD i 0):=fun i hi=>jkZ r (fun x hx=>by have:=jeH hr x hx;omega) i hi
 have hz:=jbz r;rw[hl] at hz;rw[show (((b-1:Nat)):Int)=(b:Int)-1 by omega];obtain⟨F,O⟩:∃ F,jap (jfC b r)=F:=⟨_,rfl⟩;rw[O];have af:=Lib.hid O;have au:=Lib.hid hr;generalize jap r=s at P m hz ⊢;have HZ:=Lib.hid hz;have ab:Hid (4<=b/\b<=8):=⟨h1,h2⟩;obtain⟨W0,aD,f,am,ag,aG⟩:=jaI w #[.int .i64 b,.string s] 34 #[.int .i64 0,.string ⟨#[]⟩] 34;have av:=Lib.hid am;have aw:=Lib.hid f;obtain⟨z0,z1⟩:=cl2 f;clear am hl hr f O hz;go_enter Tryz.func263,Tryz.ntmps263;go_wp2_with fail;refine (P.out _).mono ?_;rintro e w1 ⟨rfl,C⟩;have J:=jab C (Nat.le_refl _) aw.out;obtain⟨y0,y1⟩:=cl2 J;go_wp2_with fail;refine (hB.out _).mono ?_;rintro e a ⟨g,rfl,t,aE,D⟩;obtain⟨W2,aA,R,ah,z⟩:=jaf a #[.int .i64 ((b:Int)-1),.string ⟨#[]⟩,.slice (some ⟨g,0,none⟩) (2^(b-1)) (2^(b-1)),.nilFunc] 317;have aI:=jr9 (off:=3) R rfl (.func 244);obtain⟨U,d⟩:∃ U,W2.setCell ⟨a.heap.size,3,none⟩ (.func (.func 244) #[] #[])=U:=⟨_,rfl⟩;have I:U.heap[a.heap.size]? = some (.cells #[.int .i64 ((b:Int)-1),.string ⟨#[]⟩,.slice (some ⟨g,0,none⟩) (2^(b-1)) (2^(b-1)),.func (.func 244) #[] #[]] 317 (0,0)):=by rw[<- d];exact hSk R _
 have aF:=t.lt;have A:Bw a U:=by rw[<- d];exact ah.setCell (p:=⟨a.heap.size,3,none⟩) (Nat.le_refl _) _
 have aH:U.heap.size=a.heap.size+1:=by rw[<- d,jdg,z]
 have G:Bw w a:=(ag.trans (C.mono ag.size)).trans (D.mono (by have:=C.size;omega));have ak:Bw w U:=G.trans (A.mono G.size);have ap:=t.go A;obtain⟨c0,c1,c2,c3⟩:=cl4 I;have al:2^(b-1)<=2^7:=Nat.pow_le_pow_right (by omega) (by have:=ab.out.2;omega)
 have hw:wrap64 (2^(b-1))=((2^(b-1):Nat):Int):=by
  have h9:∀ n:Nat,n<=128->wrap64 (n:Int)=n:=fun n h=>jbD n (by omega)
  simpa using h9 (2^(b-1)) al
 have l:Hid (s.size=2*2^(b-1)):=by have:=HZ.out;rw[<- Nat.pow_succ',show (b-1).succ=b by have:=ab.out.1;omega];exact this
 have ar:=Lib.hid (ju0 b r);have ae:=Lib.hid (joq b r);have c:=Lib.hid (fun k=>jde b r k);generalize 2^(b-1)=N at al hw l ae c c2 I ap aA R ⊢;have HT:Hid (∀ (W:World) (rr:List Nat) (p q:Nat),RegsAt W g rr->rr.length=N->p<N->Calls Tryz.prog 247 #[.agg #[.int .i64 ((b:Int)-1),.string ⟨#[]⟩,.slice (some ⟨g,0,none⟩) N N,.func (.func 244) #[] #[]],.int .i64 p,.int .u8 q] W fun e w'=>e=.returned (.tuple #[])/\RegsAt w' g (jbg rr p q)/\W.grownBy w' (some g)):=fun W rr p q h ao hp=>jk1 _ _ g N N p q rr W h (by omega) ao
 have ad:Hid (∀ W,U.grownBy W (some g)->W.heap[a.heap.size]? = some (.cells #[.int .i64 ((b:Int)-1),.string ⟨#[]⟩,.slice (some ⟨g,0,none⟩) N N,.func (.func 244) #[] #[]] 317 (0,0))/\W.heap[w.heap.size]? = some (.cells #[.int .i64 b,.string s] 34 (0,0))/\W.heap[w.heap.size+1]? = some (.cells #[.int .i64 0,.string ⟨#[]⟩] 34 (0,0))):=fun W X=>by
  have h1:=C.size;have h2:=D.size;refine⟨(X.block _ (Array.getElem?_eq_some_iff.1 I).1 (fun e=>by cases e;omega)).trans I,?_,?_⟩
  ·exact (X.block w.heap.size (by omega) (fun e=>by cases e;omega)).trans (jab (D.trans (A.mono D.size)) (Nat.le_refl _) J)
  ·exact (X.block (w.heap.size+1) (by omega) (fun e=>by cases e;omega)).trans (jab (D.trans (A.mono D.size)) (Nat.le_refl _) (jab C (Nat.le_refl _) av.out))
 have ac:=Lib.hid ak;have aq:Hid (w.heap.size<=g):=by have:=C.size;show w.heap.size<=g;omega
 clear R I J ah A C D ak G P hB t;go_wp2_with fail;rw[hw];go_loopw [6,7,28] (fun _ _ i wr=>∃ k:Nat,k<=N/\i=.int .i64 k/\RegsAt wr g (jpr b r k)/\U.grownBy wr (some g)) (fun _ _ i _=>N-(intOf i).toNat)
 case atStart=>exact⟨0,Nat.zero_le _,rfl,by rw[ar.out];exact ap,World.grownBy.refl _ _⟩
 case round =>
  obtain⟨k,hk,rfl,P,X⟩:=hrel;obtain⟨B,L,Y⟩:=ad.out wr X;obtain⟨d0,d1,d2,d3⟩:=cl4 B;obtain⟨u0,u1⟩:=cl2 L;have HG:=Lib.hid X;by_cases o:k<N
  ·have aB:2*k<s.size:=by have:=l.out;omega
   have z:2*k+1<s.size:=by have:=l.out;omega
   have ex:=m.out (2*k) aB;have ey:=m.out (2*k+1) z;have T:=Lib.hid (jlW b r k);have aa:r.getD (2*k) 0<=65:=by have:=au.out (2*k);omega
   generalize r.getD (2*k) 0=x at ex T aa;generalize r.getD (2*k+1) 0=y at ey T;have S:=c.out k;generalize jpr b r k=r0 at P T S;have hm:((x:Int)+1) % 256=((x+1:Nat):Int):=by omega
   clear B L Y X;by_cases hx:x=0
   ·subst hx
    by_cases hy:y=0
    ·subst hy
     go_wp2_with fail;go_roundw
     case rel=>exact⟨k+1,by omega,by simp,by rw[<- T.out];show RegsAt _ g (jbg (jbg r0 k 0) k 0);rw[jcX,jcX];exact P,HG.out⟩
     case measure=>simp[intOf];omega
    ·have t1:((y:Int) != 0)=true:=by rw[bne_iff_ne];omega
     go_wp2_with fail;refine (HT.out wr r0 k 1 P S o).mono ?_;rintro e w6 ⟨rfl,Q,H⟩;go_wp2_with fail;go_roundw
     case rel=>exact⟨k+1,by omega,by simp,by rw[<- T.out];show RegsAt _ g (jbg (jbg r0 k 0) k (jp6 y));rw[jcX,show jp6 y=1 from if_neg hy];exact Q,HG.out.trans H⟩
     case measure=>simp[intOf];omega
   ·have t0:((x:Int) != 0)=true:=by rw[bne_iff_ne];omega
    have aC:upR x=x+1:=if_neg hx;rw[aC] at T;go_wp2_with fail;refine (HT.out wr r0 k (x+1) P S o).mono ?_;rintro e w6 ⟨rfl,Q,H⟩;obtain⟨E,M,Z⟩:=ad.out w6 (HG.out.trans H);obtain⟨a0,a1,a2,a3⟩:=cl4 E;obtain⟨v0,v1⟩:=cl2 M;by_cases hy:y=0
    ·subst hy
     clear E M Z;go_wp2_with fail;go_roundw
     case rel=>exact⟨k+1,by omega,by simp,by rw[<- T.out];show RegsAt _ g (jbg (jbg r0 k (x+1)) k 0);rw[jcX];exact Q,HG.out.trans H⟩
     case measure=>simp[intOf];omega
    ·have t1:((y:Int) != 0)=true:=by rw[bne_iff_ne];omega
     clear E M Z;go_wp2_with fail;refine (HT.out w6 _ k 1 Q (by rw[jcG];exact S) o).mono ?_;rintro e w7 ⟨rfl,az,ay⟩;go_wp2_with fail;go_roundw
     case rel=>exact⟨k+1,by omega,by simp,by rw[<- T.out,show jp6 y=1 from if_neg hy];exact az,(HG.out.trans H).trans ay⟩
     case measure=>simp[intOf];omega
  ·obtain rfl:k=N:=by omega
   have hD:=jh8 ((b:Int)-1) ⟨#[]⟩ g k k (.func (.func 244) #[] #[]) _ wr P (c.out k);rw[ae.out,af.out] at hD;have ai:Bw w wr:=ac.out.grown HG.out ac.out.size (fun j e=>by cases e;exact aq.out);clear P B L X;go_wp2_with fail;refine hD.mono ?_;rintro e w5 ⟨rfl,an⟩;have B:=jab an (Nat.le_refl _) Y;have ax:=ai.trans (an.mono ai.size);obtain⟨q0,q1⟩:=cl2 B;obtain⟨f0,f1⟩:=cz2 B;have E:=jbB (u:=.int .i64 ((b:Int)-1)) (v:=.string F) B;have aj:=(ax.setCell (p:=⟨w.heap.size+1,0,none⟩) (Nat.le_succ _) (.int .i64 ((b:Int)-1))).setCell (p:=⟨w.heap.size+1,1,none⟩) (Nat.le_succ _) (.string F);go_wp2_with fail;generalize (w5.setCell ⟨w.heap.size+1,0,none⟩ (.int .i64 ((b:Int)-1))).setCell ⟨w.heap.size+1,1,none⟩ (.string F)=V at E aj ⊢;obtain⟨j0,j1⟩:=cl2 E;exact bodyPost_ret (v:=.tuple #[.agg #[.int .i64 ((b:Int)-1),.string F],.int .i64 0]) (by simp[results,Tryz.f263,go_sem,j0,j1]) rfl ⟨rfl,aj⟩
end
abbrev jb5 (l:List (Int × Int)):Prop:=l.Pairwise (fun a b=>a.1<b.1)
def jaC:List (Int × Int)->Int->Int->List (Int × Int)
 | [],p,n=>[(p,n)]
 | (q,m)::t,p,n=>if q<p then (q,m)::jaC t p n else if q=p then (q,jdf m n)::t else (p,n)::(q,m)::t
def jb6 (l:List (Int × Int)) (p:Int):Option Int:=(l.find? (fun b=>b.1==p)).map (·.2)
def jwA (o:Option Int) (n:Int):Int:=match o with
 | some x=>jdf x n
 | none=>n
def ja7 (l:List (Int × Int)):List (Int × Int):=l.filter (fun b=>b.2 != 0)
def jaR (p:Int):Int:=if p=0 then 0 else 1+(p-1) / 2
def ji5 (f:Int) (v:Nat):Int:=if v=0 then 0 else 1+((Lib.bitLen v-1)*2^f.toNat+v*2^(64-(Lib.bitLen v-1)) % 2^64 / 2^(64-f.toNat):Nat)
def jxk (f:Int) (l:List (Int × Int)) (v:Nat) (n:Int):List (Int × Int):=ja7 (jaC l (ji5 f v) n)
def jaB (acc:List (Int × Int)) (l:List (Int × Int)):List (Int × Int):=l.foldl (fun a b=>jaC a b.1 b.2) acc
def jgg (l:List (Int × Int)):List (Int × Int):=ja7 (jaB [] (l.map fun b=>(jaR b.1,b.2)))
theorem jdh {b:Int × Int} {t:List (Int × Int)} (h:jb5 (b::t)):jb5 t/\∀ c∈t,b.1<c.1:=⟨(List.pairwise_cons.1 h).2,(List.pairwise_cons.1 h).1⟩
theorem jfa:∀ (l:List (Int × Int)) (p n:Int) (b:Int × Int),b∈jaC l p n->b.1=p\/b∈l
 | [],p,n,b,h=>by simp[jaC] at h;exact .inl (by rw[h])
 | (q,m)::t,p,n,b,h=>by
  unfold jaC at h;split at h
  ·rcases List.mem_cons.1 h with rfl | h
   ·exact .inr List.mem_cons_self
   ·rcases jfa t p n b h with h | h
    ·exact .inl h
    ·exact .inr (List.mem_cons_of_mem _ h)
  ·split at h
   ·rename_i B A
    rcases List.mem_cons.1 h with rfl | h
    ·exact .inl A
    ·exact .inr (List.mem_cons_of_mem _ h)
   ·rcases List.mem_cons.1 h with rfl | h
    ·exact .inl rfl
    ·exact .inr h
theorem jlm:∀ (l:List (Int × Int)) (p n:Int),jb5 l->jb5 (jaC l p n)
 | [],p,n,_=>by simp[jaC]
 | (q,m)::t,p,n,h=>by
  obtain⟨C,B⟩:=jdh h;unfold jaC;split
  ·rename_i D
   refine List.pairwise_cons.2 ⟨fun b A=>?_,jlm t p n C⟩;rcases jfa t p n b A with e | A
   ·rw[e];exact D
   ·exact B b A
  ·split
   ·exact List.pairwise_cons.2 ⟨B,C⟩
   ·rename_i E F
    refine List.pairwise_cons.2 ⟨fun b A=>?_,h⟩;show p<b.1;rcases List.mem_cons.1 A with rfl | A
    ·show p<q;omega
    ·have G:q<b.1:=B b A
     omega
theorem jbf (b:Int × Int) (t:List (Int × Int)) (p:Int):jb6 (b::t) p=if b.1=p then some b.2 else jb6 t p:=by
 unfold jb6;rw[List.find?_cons];by_cases h:b.1=p
 ·simp[h]
 ·rw[if_neg h,beq_eq_false_iff_ne.2 h]
theorem jjr {t:List (Int × Int)} {p:Int} (h:∀ b∈t,p<b.1):jb6 t p=none:=by
 unfold jb6;rw[List.find?_eq_none.2 (fun b A=>by have:=h b A;simp;omega)];rfl
theorem jlk:∀ (l:List (Int × Int)) (p n r:Int),jb5 l->jb6 (jaC l p n) r=if r=p then some (jwA (jb6 l p) n) else jb6 l r
 | [],p,n,r,_=>by
  unfold jaC;rw[jbf];by_cases h:r=p
  ·rw[if_pos h,if_pos h.symm];rfl
  ·rw[if_neg h,if_neg (fun e=>h e.symm)]
 | (q,m)::t,p,n,r,hu=>by
  obtain⟨C,D⟩:=jdh hu;unfold jaC;split
  ·rename_i G
   rw[jbf,jlk t p n r C,jbf (q,m) t p,jbf (q,m) t r];dsimp only;rw[if_neg (by omega:¬ q=p)];by_cases h:r=p
   ·rw[if_pos h,if_neg (by omega),if_pos h]
   ·rw[if_neg h,if_neg h]
  ·split
   ·rename_i E B
    subst B;rw[jbf,jbf,jbf];dsimp only;rw[if_pos rfl];by_cases h:r=q
    ·rw[if_pos h,if_pos h.symm];rfl
    ·rw[if_neg h,if_neg (fun e=>h e.symm),if_neg (fun e=>h e.symm)]
   ·rename_i E B
    rw[jbf];dsimp only;by_cases h:r=p
    ·rw[if_pos h,if_pos h.symm]
     have:jb6 ((q,m)::t) p=none:=jjr (fun b A=>by
      rcases List.mem_cons.1 A with rfl | A
      ·show p<q;omega
      ·have F:q<b.1:=D b A
       omega)
     rw[this];rfl
    ·rw[if_neg h,if_neg (fun e=>h e.symm)]
def jbj (l:List (Int × Int)):Prop:=∀ b∈l,U64 b.2
theorem jll {l:List (Int × Int)} (h:jbj l) {p x:Int} (A:jb6 l p=some x):U64 x:=by
 unfold jb6 at A
 cases B:l.find? (fun b=>b.1==p) with
 | none=>rw[B] at A;cases A
 | some b =>
  rw[B] at A;simp only[Option.map_some,Option.some.injEq] at A;rw[<- A];exact h b (List.mem_of_find?_eq_some B)
theorem jfb:∀ (l:List (Int × Int)) (p n:Int),jbj l->U64 n->jbj (jaC l p n)
 | [],p,n,_,hn=>by intro b A;simp[jaC] at A;rw[A];exact hn
 | (q,m)::t,p,n,h,hn=>by
  have ht:jbj t:=fun b A=>h b (List.mem_cons_of_mem _ A)
  unfold jaC;split
  ·intro b A
   rcases List.mem_cons.1 A with rfl | A
   ·exact h _ List.mem_cons_self
   ·exact jfb t p n ht hn b A
  ·split
   ·intro b A
    rcases List.mem_cons.1 A with rfl | A
    ·exact jfj _ _ (h (q,m) List.mem_cons_self) hn
    ·exact ht b A
   ·intro b A
    rcases List.mem_cons.1 A with rfl | A
    ·exact hn
    ·exact h b A
theorem jw0 (n:Int) (A:U64 n):jdf 0 n=n:=by
 unfold U64 jdf at *;split<;>omega
theorem jux (a b:Int) (ha:U64 a) (A:U64 b) (h:a≠0\/b≠0):jdf a b≠0:=by
 unfold U64 jdf at *;split<;>omega
theorem jd0:∀ (l a:List (Int × Int)),jb5 a->jb5 (jaB a l)
 | [],_,h=>h
 | b::l,a,h=>jd0 l _ (jlm a b.1 b.2 h)
theorem jcF:∀ (l a:List (Int × Int)),jbj a->jbj l->jbj (jaB a l)
 | [],_,h,_=>h
 | b::l,a,h,hl=>jcF l _ (jfb a b.1 b.2 h (hl b List.mem_cons_self)) (fun c A=>hl c (List.mem_cons_of_mem _ A))
theorem jia:∀ (l a:List (Int × Int)),jb5 (a++l)->jaB a l=a++l
 | [],a,_=>by simp[jaB]
 | b::l,a,h=>by
  have key:∀ (a:List (Int × Int)),(∀ c∈a,c.1<b.1)->jaC a b.1 b.2=a++[b]:=by
   intro a
   induction a with
   | nil=>intro _;rfl
   | cons c a ih =>
    intro A;unfold jaC;rw[if_pos (A c List.mem_cons_self),ih (fun d C=>A d (List.mem_cons_of_mem _ C))];rfl
  have B:jaC a b.1 b.2=a++[b]:=key a (fun c A=>(List.pairwise_append.1 h).2.2 c A b List.mem_cons_self);show jaB (jaC a b.1 b.2) l=_;rw[B,jia l (a++[b]) (by rw[List.append_assoc];exact h),List.append_assoc];rfl
theorem jgf {l:List (Int × Int)} (h:jb5 l):jb5 (ja7 l):=h.sublist List.filter_sublist
theorem jgD {l:List (Int × Int)} (h:jbj l):jbj (ja7 l):=fun b A=>h b (List.mem_filter.1 A).1
theorem jjB {l:List (Int × Int)}:∀ b∈ja7 l,b.2≠0:=fun b A=>by simpa using (List.mem_filter.1 A).2
theorem jh9 {l:List (Int × Int)} (h:∀ b∈l,b.2≠0):ja7 l=l:=List.filter_eq_self.2 (fun b A=>by simpa using h b A)
theorem jjs:∀ (l:List (Int × Int)) (p n:Int),(∀ b∈l,b.2≠0)->jbj l->U64 n->n≠0->∀ b∈jaC l p n,b.2≠0
 | [],p,n,_,_,_,hn,b,A=>by simp[jaC] at A;rw[A];exact hn
 | (q,m)::t,p,n,h,hu,hn,h0,b,A=>by
  have ht:∀ b∈t,b.2≠0:=fun b A=>h b (List.mem_cons_of_mem _ A)
  unfold jaC at A;split at A
  ·rcases List.mem_cons.1 A with rfl | A
   ·exact h _ List.mem_cons_self
   ·exact jjs t p n ht (fun c B=>hu c (List.mem_cons_of_mem _ B)) hn h0 b A
  ·split at A
   ·rcases List.mem_cons.1 A with rfl | A
    ·exact jux _ _ (hu (q,m) List.mem_cons_self) hn (.inr h0)
    ·exact ht b A
   ·rcases List.mem_cons.1 A with rfl | A
    ·exact h0
    ·exact h b A
theorem jgE:∀ (l a:List (Int × Int)),(∀ b∈a,b.2≠0)->jbj a->(∀ b∈l,b.2≠0)->jbj l->∀ b∈jaB a l,b.2≠0
 | [],_,h,_,_,_=>h
 | b::l,a,h,hu,hl,hlu=>jgE l _ (jjs a b.1 b.2 h hu (hlu b List.mem_cons_self) (hl b List.mem_cons_self)) (jfb _ _ _ hu (hlu b List.mem_cons_self)) (fun c A=>hl c (List.mem_cons_of_mem _ A)) (fun c A=>hlu c (List.mem_cons_of_mem _ A))
theorem jge {l:List (Int × Int)} (h:∀ b∈l,b.2≠0) (C:jbj l):(∀ b∈l.map fun b=>(jaR b.1,b.2),b.2≠0)/\jbj (l.map fun b=>(jaR b.1,b.2)) :=
 ⟨fun c A=>by obtain⟨d,B,rfl⟩:=List.mem_map.1 A;exact h d B,fun c A=>by obtain⟨d,B,rfl⟩:=List.mem_map.1 A;exact C d B⟩
theorem jtQ {l:List (Int × Int)} (h:∀ b∈l,b.2≠0) (D:jbj l):jgg l=jaB [] (l.map fun b=>(jaR b.1,b.2)):=by
 obtain⟨B,C⟩:=jge h D;exact jh9 (jgE _ [] (fun b A=>by cases A) (fun b A=>by cases A) B C)
theorem jgz:∀ (l:List (Int × Int)) (p n:Int),(jaC l p n).length<=l.length+1
 | [],_,_=>by simp[jaC]
 | (q,m)::t,p,n=>by
  have:=jgz t p n;unfold jaC;split
  ·simp only[List.length_cons];omega
  ·split<;>simp
theorem jfe:∀ (l a:List (Int × Int)),(jaB a l).length<=a.length+l.length
 | [],_=>by simp[jaB]
 | b::l,a=>by
  have A:=jfe l (jaC a b.1 b.2);have B:=jgz a b.1 b.2;show (jaB (jaC a b.1 b.2) l).length<=_;simp only[List.length_cons];omega
theorem jjA (l:List (Int × Int)):(ja7 l).length<=l.length:=List.length_filter_le _ _
theorem jq3 (l:List (Int × Int)):(jgg l).length<=l.length:=by
 have B:=jjA (jaB [] (l.map fun b=>(jaR b.1,b.2)));have A:=jfe (l.map fun b=>(jaR b.1,b.2)) [];simp only[List.length_map,List.length_nil] at A;unfold jgg;omega
inductive Bd where
 | num (l:List Int)
 | reg (b:Nat) (r:List Nat)
 | cnt (c:Nat) (l:List Int)
 | bkt (f:Nat) (l:List (Int × Int))
def Bd.add:Bd->Nat->Int->Option Bd
 | .num l,h,_=>(jan l [(h:Int)]).map .num
 | .reg b r,h,_=>some (.reg b (jib b r h))
 | .cnt c l,h,n=>some (.cnt c (jxh c l h n))
 | .bkt f l,h,n=>some (.bkt f (jxk f l h n))
def Bd.low:Bd->Bd
 | .num l=>.reg 7 (jcn 7 (jaY 7) (l.map Int.toNat))
 | .reg b r=>.reg (b-1) (jfC b r)
 | .cnt c l=>.cnt (c / 2) (jdW c l)
 | .bkt f l=>.bkt (f-1) (jgg l)
def Bd.Ok (kind level:Nat):Bd->Prop
 | .num l=>kind=1/\level=0/\Up l/\l.length<=64/\jc8 l
 | .reg b r=>kind=1/\1<=level/\level<=4/\b+level=8/\r.length=2^b/\∀ i,r.getD i 0<=65-b
 | .cnt c l=>kind=2/\level<=3/\c*2^level=32/\l.length=c+c/\jc8 l
 | .bkt f l=>kind=3/\level<=3/\f+level=3/\jb5 l/\(∀ b∈l,b.2≠0)/\jbj l/\∀ b∈l,jao f b.1=true
def jc1 (kind:Nat):Nat:=if kind=1 then 4 else 3
def jsA (s:Nat × Bd):Nat × Bd:=(s.1+1,s.2.low)
def jea:Nat->Nat × Bd->Nat × Bd
 | 0,s=>s
 | n+1,s=>jea n (jsA s)
def jbk (s:Nat × Bd) (t:Nat):Nat × Bd:=jea (t-s.1) s
def Item.ok (i:Nat × Int):Prop:=i.1<2^64/\U64 i.2
theorem jcj (f:Nat) (A:f<=3):jaq (f:Int)=true:=by simp[jaq];omega
theorem jph:∀ f∈[1,2,3],∀ p∈List.range 26,jao ((f:Nat):Int) ((p:Nat):Int)=true->jao ((f:Nat)-1:Int) (jaR ((p:Nat):Int))=true:=by decide +kernel
theorem jmU (f:Nat) (F:1<=f) (D:f<=3) (p:Int) (h:jao f p=true):jao ((f-1:Nat):Int) (jaR p)=true:=by
 have C:0<=p:=by
  unfold jao at h;split at h
  ·rename_i A
   simp only[Bool.and_eq_true,decide_eq_true_eq] at A;exact A.2
  ·cases h
 have B:((f-1:Nat):Int)=(f:Int)-1:=by omega
 by_cases G:p<26
 ·have:=jph f (by simp;omega) p.toNat (by simp;omega)
  rw[Int.toNat_of_nonneg C] at this;rw[B];exact this h
 rw[jdV _ _ (by omega) (jcj f D)] at h;have E:jaR p=1+(p-1) / 2:=by unfold jaR;rw[if_neg (by omega)]
 rw[E,jdV _ _ (by omega) (jcj _ (by omega))];rcases (by omega:f=1\/f=2\/f=3) with rfl | rfl | rfl
 ·simp only[show (((1:Nat):Int)).toNat=1 from rfl,show (((1-1:Nat):Int)).toNat=0 from rfl] at h ⊢
  by_cases A:64<=(p-1) / 2^1
  ·rw[if_pos A] at h;cases h
  ·rw[if_neg (by omega),if_pos (by omega)]
 ·simp only[show (((2:Nat):Int)).toNat=2 from rfl,show (((2-1:Nat):Int)).toNat=1 from rfl] at h ⊢
  by_cases A:64<=(p-1) / 2^2
  ·rw[if_pos A] at h;cases h
  ·rw[if_neg (by omega),if_pos (by omega)]
 ·simp only[show (((3:Nat):Int)).toNat=3 from rfl,show (((3-1:Nat):Int)).toNat=2 from rfl] at h ⊢
  by_cases A:64<=(p-1) / 2^3
  ·rw[if_pos A] at h;cases h
  ·rw[if_neg (by omega),if_pos (by omega)]
theorem jqD {c A:Nat} (B:A<=3) (h:c*2^A=32):(A=0/\c=32)\/(A=1/\c=16)\/(A=2/\c=8)\/(A=3/\c=4):=by
 rcases (by omega:A=0\/A=1\/A=2\/A=3) with rfl | rfl | rfl | rfl<;>simp only[Nat.reducePow] at h<;>omega
theorem jkn (b:Nat) (A:b<=8):∀ (l r:List Nat),(∀ i,r.getD i 0<=65-b)->∀ i,(jcn b r l).getD i 0<=65-b
 | [],_,h=>h
 | x::l,r,h=>jkn b A l _ (jq8 r _ _ _ h (jlJ b x A))
theorem jlI (b m:Nat):∀ i,(jaY b).getD i 0<=m:=fun i=>by
 unfold jaY;rw[List.getD_eq_getElem?_getD,List.getElem?_replicate];split<;>simp
theorem jtS (b:Nat) (E:4<=b) (F:b<=8) (r:List Nat) (h:∀ i,r.getD i 0<=65-b):∀ i,(jfC b r).getD i 0<=65-(b-1):=fun i=>by
 by_cases A:i<2^(b-1)
 ·rw[ju1 _ _ _ A]
  have B:=h (2*i);have C:=jv1 (r.getD (2*i+1) 0);have D:upR (r.getD (2*i) 0)<=r.getD (2*i) 0+1:=by unfold upR;split<;>omega
  omega
 ·rw[List.getD_eq_getElem?_getD,List.getElem?_eq_none (by rw[jic];omega)]
  simp
theorem jdZ:∀ (l a:List (Int × Int)) (x:Int × Int),x∈jaB a l->x∈a\/(∃ y∈a,x.1=y.1)\/∃ y∈l,x.1=y.1
 | [],_,_,h=>.inl h
 | b::l,a,x,h=>by
  rcases jdZ l (jaC a b.1 b.2) x h with h | ⟨y,A,e⟩ | ⟨y,A,e⟩
  ·rcases jfa _ _ _ x h with e | h
   ·exact .inr (.inr ⟨b,List.mem_cons_self,e⟩)
   ·exact .inl h
  ·rcases jfa _ _ _ y A with B | h
   ·exact .inr (.inr ⟨b,List.mem_cons_self,e.trans B⟩)
   ·exact .inr (.inl ⟨y,h,e⟩)
  ·exact .inr (.inr ⟨y,List.mem_cons_of_mem _ A,e⟩)
theorem jco {k L:Nat} {b:Bd} (B:b.Ok k L) (H:L<jc1 k):b.low.Ok k (L+1):=by
 cases b with
 | num l =>
  obtain⟨A,C,E,F,D⟩:=B;subst A;subst C;exact⟨rfl,by omega,by omega,by omega,by rw[jeE];simp[jaY],jkn 7 (by omega) _ _ (jlI 7 _)⟩
 | reg b r =>
  obtain⟨A,C,E,F,D,G⟩:=B;subst A;have O:L<4:=H;exact⟨rfl,by omega,by omega,by omega,by rw[jic],jtS b (by omega) (by omega) r G⟩
 | cnt c l =>
  obtain⟨A,C,E,F,D⟩:=B;subst A;have I:L<3:=H;refine⟨rfl,by omega,?_,by rw[jf0],jqz c l D⟩;rcases jqD C E with⟨rfl,rfl⟩ | ⟨rfl,rfl⟩ | ⟨rfl,rfl⟩ | ⟨rfl,rfl⟩<;>first | rfl | omega
 | bkt f l =>
  obtain⟨A,C,E,F,D,G,N⟩:=B;subst A;have I:L<3:=H;obtain⟨R,M⟩:=jge D G;refine⟨rfl,by omega,by omega,?_,jjB,jgD (jcF _ [] (fun b B=>by cases B) M),?_⟩
  ·exact jgf (jd0 _ [] List.Pairwise.nil)
  ·intro x P
   rcases jdZ _ _ x (List.mem_filter.1 P).1 with h | ⟨y,J,e⟩ | ⟨y,J,e⟩
   ·cases h
   ·cases J
   ·obtain⟨z,Q,rfl⟩:=List.mem_map.1 J
    rw[e];exact jmU f (by omega) (by omega) z.1 (N z Q)
theorem jg6 {k L:Nat} {b:Bd} (C:b.Ok k L):L<=jc1 k:=by
 cases b with
 | num l=>obtain⟨A,B,-⟩:=C;subst A;subst B;decide
 | reg b r=>obtain⟨A,B,D,-⟩:=C;subst A;exact D
 | cnt c l=>obtain⟨A,B,-⟩:=C;subst A;exact B
 | bkt f l=>obtain⟨A,B,-⟩:=C;subst A;exact B
theorem jsD {s:Nat × Bd} {t:Nat} (h:t<=s.1):jbk s t=s:=by
 unfold jbk;rw[show t-s.1=0 by omega];rfl
theorem juN {s:Nat × Bd} {t:Nat} (h:s.1<t):jbk s t=jbk (jsA s) t:=by
 unfold jbk;rw[show t-s.1=(t-(s.1+1))+1 by omega];rfl
theorem jbb {k:Nat} (t:Nat) (ht:t<=jc1 k):∀ (m:Nat) (s:Nat × Bd),t-s.1=m->s.2.Ok k s.1->(jbk s t).2.Ok k (jbk s t).1/\(jbk s t).1=max s.1 t:=by
 intro m
 induction m with
 | zero=>intro s B A;rw[jsD (by omega)];exact⟨A,by omega⟩
 | succ m ih =>
  intro s B A;rw[juN (by omega)];have h:=ih (jsA s) (by show t-(s.1+1)=m;omega) (jco A (by omega));exact⟨h.1,by rw[h.2];show max (s.1+1) t=_;omega⟩
def jhh (k:Nat):Bd:=if k=1 then .num [] else if k=2 then .cnt 32 (jqC 32) else .bkt 3 []
theorem jsW (k:Nat) (h:k=1\/k=2\/k=3):(jhh k).Ok k 0:=by
 rcases h with rfl | rfl | rfl
 ·exact⟨rfl,rfl,List.Pairwise.nil,by simp,fun n B=>by cases B⟩
 ·refine⟨rfl,by omega,rfl,by simp[jqC],fun n B=>?_⟩
  rw[List.eq_of_mem_replicate B];exact jsj
 ·exact⟨rfl,by omega,rfl,List.Pairwise.nil,(fun b A=>by cases A),(fun b A=>by cases A),fun b A=>by cases A⟩
section
open Go.Shelf
attribute [local go_sem] Oper.semAt_some
theorem jf4 (b:Nat) (x y:Int) (w:World) (F:w.cell? ⟨b,0,none⟩=some (.int .u64 x)) (G:w.cell? ⟨b,1,none⟩=some (.int .u64 y)) (C:U64 x) (D:U64 y) :
  Calls Tryz.prog 276 #[.slice (some ⟨b,0,none⟩) 2 2] w fun e w'=>e=.returned (.int .u64 (jdf x y))/\w'=w:=by
 obtain⟨I,J⟩:=C;obtain⟨L,M⟩:=D;have H:decide (18446744073709551615<x)=false:=by simp;omega
 by_cases A:18446744073709551615-x<y
 ·have B:jdf x y=18446744073709551615:=by unfold jdf;rw[if_pos A]
  rw[B];have E:decide (18446744073709551615-x<y)=true:=by simpa using A
  go_enter Tryz.func276,Tryz.ntmps276;go_wp2_with fail;refine wp_loop_rounds 3 ?_;rw[rounds_succ];go_wp2_with fail;rw[rounds_succ];go_wp2_with fail;go_ret;exact⟨rfl,rfl⟩
 ·have B:jdf x y=x+y:=by unfold jdf;rw[if_neg A]
  rw[B];have E:decide (18446744073709551615-x<y)=false:=by simpa using A
  go_enter Tryz.func276,Tryz.ntmps276;go_wp2_with fail;refine wp_loop_rounds 3 ?_;rw[rounds_succ];go_wp2_with fail;rw[rounds_succ];go_wp2_with fail;rw[rounds_succ];go_wp2_with fail;go_ret;exact⟨rfl,rfl⟩
theorem jsk (n:Int) (A:0<=n) (B:n<18446744073709551616):IntKind.u64.wrap n=n:=by simp[IntKind.wrap,IntKind.bits,IntKind.signed];omega
theorem jj4 (r c:Int) (v:Value) (w:World) :
  Calls Tryz.prog 274 #[.agg #[.int .i64 r,.int .i64 c,v]] w fun e w'=>e=.returned (.func (.func 279) #[] #[.pointer (some ⟨w.heap.size,0,none⟩)])/\w'=w.alloc (.cells #[.int .i64 r,.int .i64 c,v] 174):=by
 go_enter Tryz.func274,Tryz.ntmps274;go_wp2;go_ret;exact⟨rfl,rfl⟩
theorem jxC (l F:Nat) (r c:Int) (P:Option Addr) (N cap:Nat) (Z:N<=1000) (J M:List (Fin N)->World->Prop)
  (T:∀ A x W,J A W->A.length<N->YieldAt Fence.wide 7 Tryz.prog l #[.int .i64 (x.1:Nat)] W fun e C =>
   (e=.returned (.bool true)/\J (A++[x]) C/\KL [F] W C)\/(e=.returned (.bool false)/\M (A++[x]) C))
  (W:World) (U:W.heap[F]? = some (.cells #[.int .i64 r,.int .i64 c,.slice P N cap] 174 (0,0))) (R:J [] W) :
  CallsIn Fence.wide 8 Tryz.prog 279 #[.func (.yield l) #[] #[],.pointer (some ⟨F,0,none⟩)] W fun e C=>(∃ v,e=.returned v) /\
   ((∃ Q,Q=List.finRange N/\J Q C)\/(∃ A,A <+: List.finRange N/\M A C)):=by
 refine callsIn_of_wp Tryz.func279 rfl trivial ?_ rfl;simp only[Tryz.ntmps279,List.size_toArray,List.length_cons,List.length_nil,Nat.reduceAdd,Nat.reduceSub,Array.replicate_succ,Array.replicate_zero,List.push_toArray,List.append_toArray,List.nil_append,List.cons_append];have X:W.cell? ⟨F,2,none⟩=some (.slice P N cap):=cCc U 2;gi_wp2;gi_loopw [3,8] (fun _ i wr=>∃ k:Nat,k<=N/\i=.int .i64 k/\J ((List.finRange N).take k) wr/\KL [F] W wr) (fun _ i _=>N-(intOf i).toNat)
 case atStart=>exact⟨0,Nat.zero_le _,rfl,R,KL.refl _ _⟩
 case round =>
  obtain⟨k,a,rfl,D,I⟩:=hrel;by_cases B:k<N
  ·have O:(List.finRange N)[k]? = some ⟨k,B⟩:=by rw[List.getElem?_eq_getElem (by simpa using B)];simp
   obtain⟨Y,tmps,assign,body,b,S⟩:=T _ ⟨k,B⟩ _ D (by rw[List.length_take,List.length_finRange];omega);have L:=Lib.hid O;clear O;gi_wp2;refine S.mono ?_;rintro e V (⟨rfl,G,H⟩ | ⟨rfl,E⟩)
   ·gi_wp2
    go_roundw
    case rel=>exact⟨k+1,by omega,by simp,by rw[jai L.out];exact G,I.trans H⟩
    case measure=>simp[intOf];omega
   ·gi_wp2
    refine bodyPost_ret (results_none rfl _ _ _) rfl ?_;exact⟨⟨_,rfl⟩,.inr ⟨_,by have h:=List.take_prefix (k+1) (List.finRange N);rwa [jai L.out] at h,E⟩⟩
  ·obtain rfl:k=N:=by omega
   gi_wp2
   go_end0;exact⟨⟨_,rfl⟩,.inl ⟨_,List.take_of_length_le (by simp),D⟩⟩
theorem jqi (A:Nat) (r c:Int) (C:Option Addr) (N cap:Nat) (F:N<=1000) (w:World) (I:w.heap[A]? = some (.cells #[.int .i64 r,.int .i64 c,.slice C N cap] 174 (0,0))) :
  SeqStopsK Fence.wide 8 Tryz.prog 279 #[.pointer (some ⟨A,0,none⟩)] (fun x:Fin N=>#[.int .i64 (x.1:Nat)]) (KL [A]) (fun L=>L=List.finRange N) (fun B=>B <+: List.finRange N) N w:=fun l J D W G _ _ H E =>
 jxC l A r c C N cap F J D H W (jab G (Nat.le_refl _) I) E
end
section
open Go.Shelf
theorem jkp (b:Nat) (x y:Int) (w:World) (F:w.cell? ⟨b,0,none⟩=some (.int .u64 x)) (G:w.cell? ⟨b,1,none⟩=some (.int .u64 y)) (C:U64 x) (D:U64 y) :
  Calls Tryz.prog 293 #[.slice (some ⟨b,0,none⟩) 2 2] w fun e w'=>e=.returned (.int .u64 (jdf x y))/\w'=w:=by
 obtain⟨I,J⟩:=C;obtain⟨L,M⟩:=D;have H:decide (18446744073709551615<x)=false:=by simp;omega
 by_cases A:18446744073709551615-x<y
 ·have B:jdf x y=18446744073709551615:=by unfold jdf;rw[if_pos A]
  rw[B];have E:decide (18446744073709551615-x<y)=true:=by simpa using A
  go_enter Tryz.func293,Tryz.ntmps293;go_wp2_with fail;refine wp_loop_rounds 3 ?_;rw[rounds_succ];go_wp2_with fail;rw[rounds_succ];go_wp2_with fail;go_ret;exact⟨rfl,rfl⟩
 ·have B:jdf x y=x+y:=by unfold jdf;rw[if_neg A]
  rw[B];have E:decide (18446744073709551615-x<y)=false:=by simpa using A
  go_enter Tryz.func293,Tryz.ntmps293;go_wp2_with fail;refine wp_loop_rounds 3 ?_;rw[rounds_succ];go_wp2_with fail;rw[rounds_succ];go_wp2_with fail;rw[rounds_succ];go_wp2_with fail;go_ret;exact⟨rfl,rfl⟩
theorem jno (A M:Nat):A % M*2 % M=A*2 % M:=by rw[Nat.mul_mod (A % M) 2 M,Nat.mod_mod,<- Nat.mul_mod]
theorem jxf (b f v:Nat) (L:b<=63) (M:f<=3):wrap64 (wrap64 (1+wrap64 ((b:Int)*2^f))+wrap64 (IntKind.u64.wrap (IntKind.u64.wrap ((v:Int)*2^(63-b))*2) / 2^(64-f)))=1+((b*2^f+v*2^(64-b) % 2^64 / 2^(64-f):Nat):Int):=by
 have E:((v:Int)*2^(63-b))=((v*2^(63-b):Nat):Int):=by simp
 have F:v*2^(64-b)=v*2^(63-b)*2:=by rw[Nat.mul_assoc,<- Nat.pow_succ,show (63-b).succ=64-b by omega]
 rw[E,F,je9];generalize v*2^(63-b)=A;have G:((A % 2^64:Nat):Int)*2=((A % 2^64*2:Nat):Int):=(Int.natCast_mul _ 2).symm;rw[G,je9,jno];have C:A*2 % 2^64<2^64:=Nat.mod_lt _ (Nat.two_pow_pos 64);generalize A*2 % 2^64=O at C ⊢
 have D:O / 2^(64-f)<2^f:=by
  rw[Nat.div_lt_iff_lt_mul (Nat.two_pow_pos _),<- Nat.pow_add,show f+(64-f)=64 by omega];exact C
 have H:(O:Int) / 2^(64-f)=((O / 2^(64-f):Nat):Int):=by rw[Int.natCast_ediv,Int.natCast_pow];rfl
 have I:(b:Int)*2^f=((b*2^f:Nat):Int):=by rw[Int.natCast_mul,Int.natCast_pow];rfl
 rw[H,I];have B:2^f<=2^3:=Nat.pow_le_pow_right (by omega) M;have J:b*2^f<=63*2^3:=Nat.mul_le_mul L B;generalize O / 2^(64-f)=q at D ⊢;generalize b*2^f=m at J ⊢;generalize 2^f=z at D B;rw[jbD m (by omega),jbD q (by omega),show (1+(m:Int))=((1+m:Nat):Int) by omega,jbD (1+m) (by omega),show (((1+m:Nat):Int)+(q:Int))=((1+m+q:Nat):Int) by omega,jbD (1+m+q) (by omega)];omega
theorem jlN (f:Nat) (C:f<=3) (w:World):Calls Tryz.prog 197 #[.int .i64 f] w fun e w'=>e=.returned (.bool true)/\w'=w:=(jaj f w).mono fun e w' ⟨A,B⟩=>⟨by rw[A,jcj f C],B.symm⟩
theorem joR (f:Nat) (v:Nat) (w:World) (H:f<=3) (I:v<2^64):CR 290 #[.int .i64 f,.int .u64 v] w (.int .i64 (ji5 f v)):=by
 have C:=jlN f H;by_cases B:v=0
 ·subst B
  go_enter Tryz.func290,Tryz.ntmps290;go_wp2_with (first | (go_at_call 197;refine (C _).mono ?_;rintro e w' ⟨rfl,rfl⟩) | fail);go_ret;exact⟨rfl,Below.refl _ _⟩
 ·have F:=Tryz.bits_Len64 (v:Int) w (by omega) (by omega)
  rw[Int.toNat_natCast] at F;have D:=jfW v I B;have A:=(jdm v I B).1;have M:((v:Int)==0)=false:=by rw[beq_eq_false_iff_ne];omega
  have E:ji5 f v=1+((Lib.bitLen v-1)*2^f+v*2^(64-(Lib.bitLen v-1)) % 2^64 / 2^(64-f):Nat):=by
   unfold ji5;rw[if_neg B,Int.toNat_natCast]
  obtain⟨b,G⟩:∃ b,Lib.bitLen v=b+1:=⟨Lib.bitLen v-1,by omega⟩;rw[G] at F D E;have J:=Lib.hid E;have L:=Lib.hid (jxf b f v (by omega) H);clear E G A B;go_enter Tryz.func290,Tryz.ntmps290;go_wp2_with (first | (go_at_call 197;refine (C _).mono ?_;rintro e w' ⟨rfl,rfl⟩) | (go_at_call 257;refine F.mono ?_;rintro e w' ⟨rfl,rfl⟩) | fail);go_quiet (fail);go_wp2_with fail;go_ret;exact⟨by rw[J.out,Nat.add_sub_cancel,<- L.out];rfl,bDr (Below.refl _ _) _⟩
end
end Go.Proofs.YtafhpamnegmilaaGreatDoor
