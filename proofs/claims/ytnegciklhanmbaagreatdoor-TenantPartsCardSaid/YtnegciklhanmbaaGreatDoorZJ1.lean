/- Package hll: begin, add. Package hll: Of, Add, Lower. Package hll: Lower. Histograms as plain data: bins put into rising bins, buckets half as fine. No program in sight. Sketches at work as plain data: a number added, one level lower. No program in sight. Sketches at work as plain data: two merged. No program in sight. -/
import Derived.Test.YtnegciklhanmbaaGreatDoorZB0
set_option maxHeartbeats 2000000
set_option maxRecDepth 100000
namespace Go.Proofs.YtnegciklhanmbaaGreatDoor
open Go Go.RowKit
section
open Go.Shelf
attribute [local go_sem] Oper.semAt_some
theorem jbC (r:List Nat):(jat r).size=r.length:=by simp[jat,strOfNums,ByteArray.size]
theorem jeU (r:List Nat) (h:∀ x∈r,x<256):(jat r).data.toList.map (·.toNat)=r:=by
 unfold jat;rw[strOfNums_data,List.map_map,List.map_map]
 conv=>rhs;rw[<- List.map_id r]
 refine List.map_congr_left (fun x A=>?_);have:=h x A;simp[UInt8.toNat_ofNat'];omega
theorem jjU {r:List Nat} {m:Nat} (h:∀ i,r.getD i 0<=m):∀ x∈r,x<=m:=fun x B=>by
 obtain⟨i,A⟩:=List.getElem?_of_mem B;have:=h i;rwa [List.getD_eq_getElem?_getD,A] at this
theorem jc3 (b:Nat) (r:List Nat) (I:3<=b) (J:b<=8) (F:r.length=2^b) (hr:∀ i,r.getD i 0<=65-b):jbw b (jat r)=true:=by
 have A:=jjU hr;have G:=jeU r (fun x H=>by have:=A x H;omega);unfold jbw;have B:jc5 b=true:=by simp[jc5];omega
 have C:(((jat r).size:Int)==2^(b:Int).toNat)=true:=by rw[beq_iff_eq,jbC,F,Int.toNat_natCast];simp
 have D:jfW b (jat r)=true:=by
  unfold jfW;rw[List.all_eq_true];intro c E;have:c.toNat∈r:=by rw[<- G];exact List.mem_map_of_mem E
  have:=A _ this;simp;omega
 rw[B,C,D];rfl
theorem jiQ (b:Nat) (r:List Nat) (w:World) (f:3<=b) (j:b<=8) (Y:r.length=2^b) (hr:∀ i,r.getD i 0<=65-b) :
  Calls Tryz.prog 284 #[.agg #[.int .i64 b,.string (jat r)]] w fun e w'=>∃ g cap,e=.returned (.tuple #[.agg #[.int .i64 b,.string (jat r),.slice (some ⟨g,0,none⟩) (2^b) cap,.func (.func 264) #[] #[]],.nilIface])/\RegsAt w' g r/\w.heap.size<=g/\Bw w w':=by
 have k:Hid (∀ J,Bw w J->CR 172 #[.agg #[.int .i64 b,.string (jat r)]] J (.bool true)):=fun J hb=>(jb9 b (jat r) J).mono fun e w' h=>⟨by rw[h.1,jc3 b r f j Y hr],h.2⟩
 have Z:=jeU r (fun x u=>by have:=jjU hr x u;omega);have S:=jbC r;rw[Y] at S;generalize jat r=s at Z S k ⊢;obtain⟨W0,n,A,B,H,q⟩:=jas w #[.int .i64 b,.string s] 37 #[.int .i64 0,.string ⟨#[]⟩,.slice none 0 0,.nilFunc] 406;have T:=Lib.hid A;have U:=Lib.hid B;have m:=Lib.hid S;have l:=Lib.hid Z;obtain⟨c0,c1⟩:=cl2 A;clear S Y hr Z A B f j;go_enter Tryz.func284,Tryz.ntmps284;go_wp2_with fail;refine (k.out _ H).mono ?_;rintro e J ⟨rfl,C⟩;have A:=known C (Nat.le_refl _) T.out;have B:=known C (Nat.le_refl _) U.out;obtain⟨k0,k1⟩:=cl2 A;obtain⟨d,cap,P,F,D,R⟩:=jlN J s;rw[l.out] at F;rw[m.out] at P;generalize hg:J.heap.size=g at P F D R;have c:w.heap.size+1<g:=by rw[<- hg];have:=C.size;omega
 have E:=(D.block _ c).trans B;have M:Bw w d:=(H.trans (C.mono H.size)).trans (D.mono (by omega));obtain⟨d0,d1,d2,d3⟩:=cl4 E;obtain⟨f0,f1,f2,f3⟩:=cz4 E;obtain⟨G,I⟩:∃ G,((d.setCell ⟨w.heap.size+1,0,none⟩ (.int .i64 b)).setCell ⟨w.heap.size+1,1,none⟩ (.string s)).setCell ⟨w.heap.size+1,2,none⟩ (.slice (some ⟨g,0,none⟩) (2^b) cap)=G:=⟨_,rfl⟩;have N:G.heap[w.heap.size+1]? = some (.cells #[.int .i64 b,.string s,.slice (some ⟨g,0,none⟩) (2^b) cap,.nilFunc] 406 (0,0)):=by rw[<- I];exact hSk (hSk (hSk E _) _) _
 have X:Bw w G:=by rw[<- I];exact ((M.setCell (p:=⟨w.heap.size+1,0,none⟩) (Nat.le_succ _) _).setCell (p:=⟨w.heap.size+1,1,none⟩) (Nat.le_succ _) _).setCell (p:=⟨w.heap.size+1,2,none⟩) (Nat.le_succ _) _
 have a:RegsAt G g r:=by rw[<- I];exact ((F.other (by omega) _).other (by omega) _).other (by omega) _
 have t:=jpx (off:=3) N rfl (.func 264);clear hg A B E F D M R C;go_wp2_with fail;have O:(G.setCell ⟨w.heap.size+1,3,none⟩ (.func (.func 264) #[] #[])).heap[w.heap.size+1]? = some (.cells #[.int .i64 b,.string s,.slice (some ⟨g,0,none⟩) (2^b) cap,.func (.func 264) #[] #[]] 406 (0,0)):=hSk N _;have L:=X.setCell (p:=⟨w.heap.size+1,3,none⟩) (Nat.le_succ _) (.func (.func 264) #[] #[]);have Q:=a.other (b:=w.heap.size+1) (o:=3) (by omega) (.func (.func 264) #[] #[]);generalize G.setCell ⟨w.heap.size+1,3,none⟩ (.func (.func 264) #[] #[])=V at O L Q ⊢;obtain⟨y,z,q2,q3⟩:=cl4 O;exact bodyPost_ret (v:=.tuple #[.agg #[.int .i64 b,.string s,.slice (some ⟨g,0,none⟩) (2^b) cap,.func (.func 264) #[] #[]],.nilIface]) (by simp[results,Tryz.f284,go_sem,y,z,q2,q3]) rfl ⟨g,cap,rfl,Q,by omega,L⟩
theorem jcj {α:Type} {P:Program} {g:Operand} {G:Array Tmp} {assign body:Code} {Q:Exit->Act->World->Prop} {a:Act} {w:World} (L:List Nat) (O:Nat) (v1:α->Value)
  {gf:Nat} {lb:Array Value} (V:a.eval g=.func (.func gf) #[] lb) (R:∀ args w,(callFunc gf args).run P w=.ok (.enter gf args) w)
  {A:α->Array Value} {xs:List α} {N:Nat} {w0:World} (H:SeqStopsK Fence.wide 8 P gf lb A (KL L) (fun X=>X=xs) (fun B=>B <+: xs) N w0)
  (U:∀ b∈L,b<w.heap.size) (J:Bw w0 w) (M:∀ x,(A x).size=G.size)
  (I:List α->World->Prop) (T:OwnFrom w.heap.size I) (S:I [] w)
  (C:∀ (l:Nat) (B:List α) (x:α) (W:World) (K:Act->World->Prop),I B W->(I B W->K { tmps:=((G.zip (A x)).foldl (fun t (p,v)=>t.setIfInBounds p v) a.tmps).setIfInBounds O (v1 x),defers:=[] } W) ->
   assign.wpIn (Fence.wide.inRound l) 7 P (Exit.then K (fun _ _ _=>False)) { tmps:=(G.zip (A x)).foldl (fun t (p,v)=>t.setIfInBounds p v) a.tmps,defers:=[] } W)
  (E:∀ (l:Nat) (B:List α) (x:α) (W:World),I B W->B.length<N->body.wpIn (Fence.wide.inRound l) 7 P (ownPostG w.heap.size (KL L) I (fun _ _ _=>False) (B++[x]) W) { tmps:=((G.zip (A x)).foldl (fun t (p,v)=>t.setIfInBounds p v) a.tmps).setIfInBounds O (v1 x),defers:=[] } W)
  (F:∀ (D:Nat) (W:World),w.heap.size<=D->I xs W->W.heap[D]? = some (.deferred (some []))->Q .normal { a with defers:={ target:=.collected D,args:=#[] }::a.defers } W) :
  (Code.rangeFunc g G assign body).wp P Q a w :=
 jgR L (fun x=>((G.zip (A x)).foldl (fun t (p,v)=>t.setIfInBounds p v) a.tmps).setIfInBounds O (v1 x)) V R H U J M I T S C E F
def AI (b g B:Nat) (wv:Array Value) (r:List Nat) (w:World) (pre:List { n:Int // U64 n }) (W:World):Prop:=RegsAt W g (jgf b r (pre.map fun x=>x.1.toNat))/\W.heap[B]? = some (.cells wv 406 (0,0))/\w.grownBy W (some g)
theorem jw3 (b g B:Nat) (P:Array Value) (r:List Nat) (w:World) (C:Nat) (L:w.heap.size<=C):OwnFrom C (AI b g B P r w):=fun O X Y row N H hr=>by
 obtain⟨I,F,J⟩:=N
 have D:∀ k o,X.heap[k]? = some o->o.isCells=true->some k≠row:=fun k o M G e=>by
  obtain⟨-,S,E,A⟩:=hr k e.symm;rw[M] at E
  cases E
  rw[G] at A
  cases A
 obtain⟨Q,R,G,-⟩:=id I;exact⟨I.grown H (D _ _ G rfl),(H.block _ (Array.getElem?_eq_some_iff.1 F).1 (D _ _ F rfl)).trans F,J.andThen H (fun j e=>.inl (Nat.le_trans L (hr j e).1))⟩
theorem jnC (b:Nat) (s:ByteArray) (g cap:Nat) (r:List Nat) (l:List Int) (a:Option Addr) (len B:Nat) (w:World) (h1:3<=b) (h2:b<=8) (hr:RegsAt w g r) (hl:r.length=2^b) (t:SlE jaF 1 w.heap.size w a len l) (hu:jdh l) (G:0<len->∀ x,a=some x->x.block≠g) (af:len<=1000) :
  Calls Tryz.prog 260 #[.agg #[.int .i64 b,.string s,.slice (some ⟨g,0,none⟩) (2^b) cap,.func (.func 264) #[] #[]],.slice a len B] w fun e w'=>e=.returned (.tuple #[])/\RegsAt w' g (jgf b r (l.map Int.toNat))/\w.grownBy w' (some g):=by
 refine jaq Tryz.func260 rfl ?_;simp only[Tryz.ntmps260,List.size_toArray,List.length_cons,List.length_nil,Nat.reduceAdd,Nat.reduceSub,Array.replicate_succ,Array.replicate_zero,List.push_toArray,List.append_toArray,List.nil_append,List.cons_append];obtain⟨o,R,T,O,ac⟩:=jab w #[.int .i64 b,.string s,.slice (some ⟨g,0,none⟩) (2^b) cap,.func (.func 264) #[] #[]] 406;obtain⟨L,S,I,P,aj⟩:=jab o #[.slice a len B] 33;have N:=Lib.hid S;clear S;go_wp2_with (go_at_call 265;refine (jec _ _ _ _).mono ?_;rintro e w' ⟨rfl,rfl⟩;rw[N.out]);have ag:=hr.lt;have ak:L.heap.size=w.heap.size+2:=by omega
 have z:L.heap[w.heap.size]? = some (.cells #[.int .i64 b,.string s,.slice (some ⟨g,0,none⟩) (2^b) cap,.func (.func 264) #[] #[]] 406 (0,0)):=(P.block _ (by omega)).trans T;rw[ac] at I;have H:Bw w L:=O.trans (P.mono O.size);have aa:w.grownBy L (some g):=((by rw[<- R];exact World.grownBy_alloc w _ _:w.grownBy o (some g))).trans (by rw[<- N.out];exact World.grownBy_alloc o _ _)
 obtain⟨M,V,ae,ad⟩:∃ M,(0<len->∀ x,a=some x->x.block=M)/\M<w.heap.size+2/\M≠g:=by
  rcases Nat.eq_zero_or_pos len with h | h
  ·exact⟨w.heap.size+1,fun h'=>by omega,by omega,by omega⟩
  ·obtain⟨x,bb,off,-,e,hb,-⟩:=t.at h
   exact⟨bb,fun _ y hy=>by rw[e] at hy;cases hy;rfl,by omega,G h _ e⟩
 obtain⟨ls,ab⟩:∃ ls:List { n:Int // U64 n },ls.map (·.1)=l:=⟨l.attachWith U64 (fun n m=>hu n m),List.attachWith_map_subtype_val _⟩;subst ab;have Y:=jsM (fun x : { n:Int // U64 n }=>x.1) (w.heap.size+1) M w.heap.size a len B ls (by omega) L (by omega) I (t.below H) V;have HL:=Lib.hid hl;have E:Hid (3<=b/\b<=8):=⟨h1,h2⟩;have p:AI b g w.heap.size #[.int .i64 b,.string s,.slice (some ⟨g,0,none⟩) (2^b) cap,.func (.func 264) #[] #[]] r w [] L:=⟨hr.block (H.block _ hr.lt),z,aa⟩;clear R T I t hu G V hl h1 h2
 refine jcj [w.heap.size+1,M] 4 (fun x : { n:Int // U64 n }=>.int .u64 x.1) (gf:=270) (lb:=#[.pointer (some ⟨w.heap.size+1,0,none⟩)]) rfl (enters_of Tryz.func270 (by kernel_rfl) rfl)
  Y (by intro k i;simp at i;omega) (Below.refl _ _) (fun _=>rfl) (AI b g w.heap.size #[.int .i64 b,.string s,.slice (some ⟨g,0,none⟩) (2^b) cap,.func (.func 264) #[] #[]] r w) (jw3 b g w.heap.size _ r w _ H.size) p ?assign ?body ?fin
 case assign =>
  rintro l C x W K hI hK;simp only[List.zip_toArray,List.zip_cons_cons,List.zip_nil_right,List.size_toArray,List.foldl_toArray',List.foldl_cons,List.foldl_nil,List.setIfInBounds_toArray,List.set_cons_succ,List.set_cons_zero] at hK ⊢;gi_wp2;exact hI
 case body =>
  rintro lo C x W ⟨Q,f,c⟩ ai;simp only[List.zip_toArray,List.zip_cons_cons,List.zip_nil_right,List.size_toArray,List.foldl_toArray',List.foldl_cons,List.foldl_nil,List.setIfInBounds_toArray,List.set_cons_succ,List.set_cons_zero];have d:=jpV b x.1 W E.out.1 E.out.2 x.2;have J:=x.2;generalize m:x.1=n at d J;have U:=jqW b n.toNat E.out.2 (by unfold U64 at J;omega);have X:=jhG b n.toNat E.out.2
  have Z:Hid (jbx (jgf b r (C.map fun x=>x.1.toNat)) (jsT b n.toNat) (jgB b n.toNat)=jgf b r ((C++[x]).map fun x=>x.1.toNat)):=by
   unfold Hid jgf;rw[List.map_append,List.foldl_append,List.map_singleton,m];rfl
  have A:=jfO b (C.map fun x=>x.1.toNat) r;rw[HL.out] at A;generalize jsT b n.toNat=q at d U Z;generalize jgB b n.toNat=k at d X Z;generalize jgf b r (C.map fun x=>x.1.toNat)=r1 at Q A Z;have hT:=jkn b s g (2^b) cap q k r1 W Q (by omega) A;have ah:IntKind.u8.wrap (k:Int)=(k:Int):=by have:k<256:=(by omega);simp[IntKind.wrap,IntKind.bits,IntKind.signed];omega
  obtain⟨c0,c1,c2,c3⟩:=cl4 f;have HG:=Lib.hid c;have HX:=Lib.hid f;clear c f J m Q U A X;gi_wp2_with fail;refine⟨trivial,(CallsIn.inRound lo (callsIn_wide.2 d)).mono ?_⟩;rintro e W6 ⟨rfl,rfl⟩;gi_wp2_with fail;refine⟨trivial,(CallsIn.inRound lo (callsIn_wide.2 hT)).mono ?_⟩;rintro e W7 ⟨rfl,u,F⟩;gi_wp2_with fail;refine⟨KeepsFrom.of_grownBy F (fun j e=>by cases e;omega),KL.grown F (fun k i=>by simp at i;rcases i with rfl | rfl<;>(intro e;cases e;omega)),by rw[<- Z.out];exact u,(F.block _ (Array.getElem?_eq_some_iff.1 HX.out).1 (fun e=>by cases e;omega)).trans HX.out,HG.out.trans F⟩
 case fin =>
  rintro D W hD ⟨Q,f,c⟩ hK;have G:some g≠some D:=fun e=>by cases e;omega
  refine jau (v:=.tuple #[]) hK (results_none rfl _ _ _) ⟨rfl,?_,?_⟩
  ·rw[List.map_map]
   exact Q.grown (grownBy_putObj' _ D _) G
  ·exact c.andThen (grownBy_putObj' _ D _) (fun j e=>by cases e;exact .inl (by omega))
end
section
open Go.Shelf
theorem jwo (b:Nat) (l:List Int) (a:Option Addr) (len cap:Nat) (w:World) (j:3<=b) (m:b<=8) (t:SlE jaF 1 w.heap.size w a len l) (z:jdh l) (c:len<=1000) :
  CR 254 #[.int .i64 b,.slice a len cap] w (.tuple #[.agg #[.int .i64 b,.string (jat (jgf b (jcl b) (l.map Int.toNat)))],.int .i64 0]):=by
 have hB:=fun w=>jkR b w j m
 obtain⟨W0,aa,U,P,ae⟩:=jab w #[.int .i64 0,.string ⟨#[]⟩] 37;have i:=Lib.hid U;have r:=Lib.hid t;have HU:=Lib.hid z;have N:Hid (3<=b/\b<=8):=⟨j,m⟩;obtain⟨A,C⟩:∃ A,jat (jgf b (jcl b) (l.map Int.toNat))=A:=⟨_,rfl⟩;rw[C];have O:=Lib.hid C;clear t z U j m C;go_enter Tryz.func254,Tryz.ntmps254;go_wp2_with fail;refine (hB _).mono ?_;rintro e f ⟨g,rfl,M,ac,E⟩;obtain⟨W2,ab,H,Q,af⟩:=jab f #[.int .i64 b,.string ⟨#[]⟩,.slice (some ⟨g,0,none⟩) (2^b) (2^b),.nilFunc] 406;have ag:=jpx (off:=3) H rfl (.func 264);obtain⟨G,T⟩:∃ G,W2.setCell ⟨f.heap.size,3,none⟩ (.func (.func 264) #[] #[])=G:=⟨_,rfl⟩;have I:G.heap[f.heap.size]? = some (.cells #[.int .i64 b,.string ⟨#[]⟩,.slice (some ⟨g,0,none⟩) (2^b) (2^b),.func (.func 264) #[] #[]] 406 (0,0)):=by rw[<- T];exact hSk H _
 have ad:=M.lt;have B:Bw f G:=by rw[<- T];exact Q.setCell (p:=⟨f.heap.size,3,none⟩) (Nat.le_refl _) _
 have d:RegsAt G g (jcl b):=M.go B;have D:Bw w G:=(P.trans (E.mono P.size)).trans (B.mono (by have:=E.size;omega));have hA:=jnC b ⟨#[]⟩ g (2^b) (jcl b) l a len cap G N.out.1 N.out.2 d (by simp[jcl]) ((r.out.below D).mono D.size) HU.out (fun h x hx=>by obtain⟨y,bb,off,-,e,hb,-⟩:=r.out.at h;rw[e] at hx;cases hx;show bb≠g;omega) c;obtain⟨c0,c1,c2,c3⟩:=cl4 I;have HR:=Lib.hid (jfO b (l.map Int.toNat) (jcl b));clear H M d Q;go_wp2_with fail;refine hA.mono ?_;rintro e w4 ⟨rfl,q,L⟩;have o:=(L.block _ (Array.getElem?_eq_some_iff.1 I).1 (fun e=>by cases e;omega)).trans I;have R:Bw w w4:=D.grown L D.size (fun k e=>by cases e;omega);have F:=known (E.trans (B.mono E.size)) (Nat.le_refl _) i.out;have X:=(L.block _ (Array.getElem?_eq_some_iff.1 F).1 (fun e=>by cases e;omega)).trans F;have s:=jfL b ⟨#[]⟩ g (2^b) (2^b) (.func (.func 264) #[] #[]) _ w4 q (by rw[HR.out];simp[jcl]);rw[O.out] at s;obtain⟨d0,d1,d2,d3⟩:=cl4 o;go_wp2_with fail;refine s.mono ?_;rintro e w5 ⟨rfl,Z⟩;have J:=known Z (Nat.le_refl _) X;have n:=R.trans (Z.mono R.size);obtain⟨q0,q1⟩:=cl2 J;obtain⟨f0,f1⟩:=cz2 J;have Y:=jbq (u:=.int .i64 b) (v:=.string A) J;have S:=(n.setCell (p:=⟨w.heap.size,0,none⟩) (Nat.le_refl _) (.int .i64 b)).setCell (p:=⟨w.heap.size,1,none⟩) (Nat.le_refl _) (.string A);go_wp2_with fail;generalize (w5.setCell ⟨w.heap.size,0,none⟩ (.int .i64 b)).setCell ⟨w.heap.size,1,none⟩ (.string A)=V at Y S ⊢;obtain⟨k0,k1⟩:=cl2 Y
 exact bodyPost_ret (v:=.tuple #[.agg #[.int .i64 b,.string A],.int .i64 0]) (by simp[results,Tryz.f254,go_sem,k0,k1]) rfl ⟨rfl,S⟩
theorem jt7 (b:Nat) (r:List Nat) (n:Int) (w:World) (z:3<=b) (h2:b<=8) (hl:r.length=2^b) (hr:∀ i,r.getD i 0<=65-b) (hn:U64 n) :
  CR 280 #[.agg #[.int .i64 b,.string (jat r)],.int .u64 n] w (.tuple #[.agg #[.int .i64 b,.string (jat (jlg b r n.toNat))],.int .i64 0]):=by
 have hB:=fun w=>jiQ b r w z h2 hl hr
 have HU:=Lib.hid hn;have T:=Lib.hid hl;have S:Hid (3<=b/\b<=8):=⟨z,h2⟩;generalize jat r=s at hB ⊢;obtain⟨W0,ac,q,d,Y,ah⟩:=jas w #[.int .i64 b,.string s] 37 #[.int .i64 0,.string ⟨#[]⟩] 37;have y:=Lib.hid d;obtain⟨z0,z1⟩:=cl2 q;obtain⟨D,G⟩:∃ D,jat (jlg b r n.toNat)=D:=⟨_,rfl⟩;rw[G];have U:=Lib.hid G;clear hn d z h2 hl hr q G;go_enter Tryz.func280,Tryz.ntmps280;go_wp2_with fail;refine (hB _).mono ?_;rintro e H ⟨g,cap,rfl,Q,af,B⟩;obtain⟨W2,ad,N,Z,aa⟩:=jab H #[.int .i64 b,.string s,.slice (some ⟨g,0,none⟩) (2^b) cap,.nilFunc] 406;have aj:=jpx (off:=3) N rfl (.func 264);obtain⟨R,M⟩:∃ R,W2.setCell ⟨H.heap.size,3,none⟩ (.func (.func 264) #[] #[])=R:=⟨_,rfl⟩;have l:R.heap[H.heap.size]? = some (.cells #[.int .i64 b,.string s,.slice (some ⟨g,0,none⟩) (2^b) cap,.func (.func 264) #[] #[]] 406 (0,0)):=by rw[<- M];exact hSk N _
 have ag:=Q.lt;have E:Bw H R:=by rw[<- M];exact Z.setCell (p:=⟨H.heap.size,3,none⟩) (Nat.le_refl _) _
 have ab:R.heap.size=H.heap.size+1:=by rw[<- M,jbR,aa]
 obtain⟨X,ae,F,A,ai⟩:=jab R #[.int .u64 n] 22;rw[ab] at F;have C:RegsAt X g r:=(Q.go E).go A;have J:=(A.block _ (by omega)).trans l;have c:Bw w X:=((Y.trans (B.mono Y.size)).trans (E.mono (by have:=B.size;omega))).trans (A.mono (by have:=B.size;omega))
 have hL:SlE jaF 1 X.heap.size X (some ⟨H.heap.size+1,0,none⟩) 1 [n]:=by
  refine⟨rfl,fun j x hx=>⟨H.heap.size+1,0,rfl,by omega,fun i hi=>?_⟩⟩;obtain rfl:i=0:=by omega
  have h5:=jcC jaF 1 (fun _=>rfl) [n] j 0 x hx (by omega);rw[cCc F,Nat.zero_add];simpa [jaF] using h5
 have hA:=jnC b s g cap r [n] (some ⟨H.heap.size+1,0,none⟩) 1 1 X S.out.1 S.out.2 C T.out hL (fun m hm=>by rw[List.mem_singleton.1 hm];exact HU.out) (fun h x hx=>by cases hx;show H.heap.size+1≠g;omega) (by omega);obtain⟨c0,c1,c2,c3⟩:=cl4 l;have HR:=Lib.hid (jhE b r n.toNat);clear N Q C Z hL F;go_wp2_with fail;refine hA.mono ?_;rintro e w4 ⟨rfl,C,P⟩;have C:RegsAt w4 g (jlg b r n.toNat):=C;have F:=(P.block _ (Array.getElem?_eq_some_iff.1 J).1 (fun e=>by cases e;omega)).trans J;have L:Bw w w4:=c.grown P c.size (fun k e=>by cases e;omega);have I:=known ((B.trans (E.mono B.size)).trans (A.mono (by have:=B.size;omega))) (Nat.le_refl _) y.out;have f:=(P.block _ (Array.getElem?_eq_some_iff.1 I).1 (fun e=>by cases e;omega)).trans I;have A:=L;have hD:=jfL b s g (2^b) cap (.func (.func 264) #[] #[]) _ w4 C (by rw[HR.out];exact T.out);rw[U.out] at hD;obtain⟨d0,d1,d2,d3⟩:=cl4 F;go_wp2_with fail;refine hD.mono ?_;rintro e w5 ⟨rfl,t⟩;have O:=known t (Nat.le_refl _) f;have L:=A.trans (t.mono A.size);obtain⟨q0,q1⟩:=cl2 O;obtain⟨f0,f1⟩:=cz2 O;have o:=jbq (u:=.int .i64 b) (v:=.string D) O;have a:=(L.setCell (p:=⟨w.heap.size+1,0,none⟩) (Nat.le_succ _) (.int .i64 b)).setCell (p:=⟨w.heap.size+1,1,none⟩) (Nat.le_succ _) (.string D);go_wp2_with fail;generalize (w5.setCell ⟨w.heap.size+1,0,none⟩ (.int .i64 b)).setCell ⟨w.heap.size+1,1,none⟩ (.string D)=V at o a ⊢;obtain⟨k0,k1⟩:=cl2 o
 exact bodyPost_ret (v:=.tuple #[.agg #[.int .i64 b,.string D],.int .i64 0]) (by simp[results,Tryz.f280,go_sem,k0,k1]) rfl ⟨rfl,a⟩
def jsV (b:Nat) (r:List Nat) (k:Nat):List Nat:=(List.range (2^(b-1))).map fun i=>if i<k then max (upR (r.getD (2*i) 0)) (jsW (r.getD (2*i+1) 0)) else 0
theorem jdp (b:Nat) (r:List Nat) (k:Nat):(jsV b r k).length=2^(b-1):=by simp[jsV]
theorem jjX (b:Nat) (r:List Nat) (k i:Nat) (A:i<2^(b-1)):(jsV b r k).getD i 0=if i<k then max (upR (r.getD (2*i) 0)) (jsW (r.getD (2*i+1) 0)) else 0:=by
 simp[jsV,List.getD_eq_getElem?_getD,A]
theorem jxo (b:Nat) (r:List Nat):jsV b r 0=jcl (b-1):=by
 refine jfK _ _ (by rw[jdp];simp[jcl]) (fun i A=>?_);rw[jdp] at A;rw[jjX _ _ _ _ A,if_neg (by omega)];simp[jcl,List.getD_eq_getElem?_getD,A]
theorem juo (b:Nat) (r:List Nat):jsV b r (2^(b-1))=jio b r:=by
 refine jfK _ _ (by rw[jdp,jhF]) (fun i A=>?_);rw[jdp] at A;rw[jjX _ _ _ _ A,if_pos A,jvo _ _ _ A]
theorem jrc (b:Nat) (r:List Nat) (k:Nat):jbx (jbx (jsV b r k) k (upR (r.getD (2*k) 0))) k (jsW (r.getD (2*k+1) 0))=jsV b r (k+1):=by
 refine jfK _ _ (by simp only[jcr,jdp]) (fun i A=>?_);simp only[jcr,jdp] at A;rw[jh7,jh7,jjX _ _ _ _ A,jjX _ _ _ _ A,jcr,jdp];by_cases h:k=i
 ·subst h
  rw[if_pos ⟨rfl,A⟩,if_pos ⟨rfl,A⟩,if_neg (by omega),if_pos (by omega)];omega
 ·rw[if_neg (fun e=>h e.1),if_neg (fun e=>h e.1)]
  by_cases B:i<k
  ·rw[if_pos B,if_pos (by omega)]
  ·rw[if_neg B,if_neg (by omega)]
theorem jf2 (r:List Nat) (p:Nat):jbx r p 0=r:=by
 refine jfK _ _ (jcr _ _ _) (fun i _=>?_);rw[jh7];split<;>omega
theorem juT (r:List Nat) (h:∀ x∈r,x<256) (i:Nat) (A:i<(jat r).size):((jat r)[i]'A).toNat=r.getD i 0:=by
 have B:=jeU r h
 have C:(jat r).data.toList[i]? = some ((jat r)[i]'A):=by
  rw[List.getElem?_eq_getElem (by rw[Array.length_toList];exact A)];rfl
 have D:r[i]? = some ((jat r)[i]'A).toNat:=by
  conv=>lhs;rw[<- B]
  rw[List.getElem?_map,C];rfl
 rw[List.getD_eq_getElem?_getD,D];rfl
theorem joZ (b:Nat) (r:List Nat) (w:World) (h1:4<=b) (h2:b<=8) (hl:r.length=2^b) (hr:∀ i,r.getD i 0<=65-b) :
  CR 282 #[.agg #[.int .i64 b,.string (jat r)]] w (.tuple #[.agg #[.int .i64 ((b-1:Nat):Int),.string (jat (jio b r))],.int .i64 0]):=by
 have P:Hid (∀ w1,CR 172 #[.agg #[.int .i64 b,.string (jat r)]] w1 (.bool true)):=fun w1=>(jb9 b (jat r) w1).mono fun e w' h=>⟨by rw[h.1,jc3 b r (by omega) h2 hl hr],h.2⟩
 have hB:Hid (∀ w,Calls Tryz.prog 258 #[.int .i64 ((b:Int)-1)] w fun e w'=>∃ g,e=.returned (.tuple #[.agg #[.int .i64 ((b:Int)-1),.string ⟨#[]⟩,.slice (some ⟨g,0,none⟩) (2^(b-1)) (2^(b-1)),.func (.func 264) #[] #[]],.nilIface])/\RegsAt w' g (jcl (b-1))/\w.heap.size<=g/\Bw w w'):=fun w=>by
  have:=jkR (b-1) w (by omega) (by omega);rw[show (((b-1:Nat)):Int)=(b:Int)-1 by omega] at this;exact this
 have m:Hid (∀ (i:Nat) (hi:i<(jat r).size),((jat r)[i]'hi).toNat=r.getD i 0):=fun i hi=>juT r (fun x hx=>by have:=jjU hr x hx;omega) i hi
 have hz:=jbC r;rw[hl] at hz;rw[show (((b-1:Nat)):Int)=(b:Int)-1 by omega];obtain⟨F,O⟩:∃ F,jat (jio b r)=F:=⟨_,rfl⟩;rw[O];have af:=Lib.hid O;have au:=Lib.hid hr;generalize jat r=s at P m hz ⊢;have HZ:=Lib.hid hz;have ab:Hid (4<=b/\b<=8):=⟨h1,h2⟩;obtain⟨W0,aD,f,am,ag,aG⟩:=jas w #[.int .i64 b,.string s] 37 #[.int .i64 0,.string ⟨#[]⟩] 37;have av:=Lib.hid am;have aw:=Lib.hid f;obtain⟨z0,z1⟩:=cl2 f;clear am hl hr f O hz;go_enter Tryz.func282,Tryz.ntmps282;go_wp2_with fail;refine (P.out _).mono ?_;rintro e w1 ⟨rfl,C⟩;have J:=known C (Nat.le_refl _) aw.out;obtain⟨y0,y1⟩:=cl2 J;go_wp2_with fail;refine (hB.out _).mono ?_;rintro e a ⟨g,rfl,t,aE,D⟩;obtain⟨W2,aA,R,ah,z⟩:=jab a #[.int .i64 ((b:Int)-1),.string ⟨#[]⟩,.slice (some ⟨g,0,none⟩) (2^(b-1)) (2^(b-1)),.nilFunc] 406;have aI:=jpx (off:=3) R rfl (.func 264);obtain⟨U,d⟩:∃ U,W2.setCell ⟨a.heap.size,3,none⟩ (.func (.func 264) #[] #[])=U:=⟨_,rfl⟩;have I:U.heap[a.heap.size]? = some (.cells #[.int .i64 ((b:Int)-1),.string ⟨#[]⟩,.slice (some ⟨g,0,none⟩) (2^(b-1)) (2^(b-1)),.func (.func 264) #[] #[]] 406 (0,0)):=by rw[<- d];exact hSk R _
 have aF:=t.lt;have A:Bw a U:=by rw[<- d];exact ah.setCell (p:=⟨a.heap.size,3,none⟩) (Nat.le_refl _) _
 have aH:U.heap.size=a.heap.size+1:=by rw[<- d,jbR,z]
 have G:Bw w a:=(ag.trans (C.mono ag.size)).trans (D.mono (by have:=C.size;omega));have ak:Bw w U:=G.trans (A.mono G.size);have ap:=t.go A;obtain⟨c0,c1,c2,c3⟩:=cl4 I;have al:2^(b-1)<=2^7:=Nat.pow_le_pow_right (by omega) (by have:=ab.out.2;omega)
 have hw:wrap64 (2^(b-1))=((2^(b-1):Nat):Int):=by
  have h9:∀ n:Nat,n<=128->wrap64 (n:Int)=n:=fun n h=>jbr n (by omega)
  simpa using h9 (2^(b-1)) al
 have l:Hid (s.size=2*2^(b-1)):=by have:=HZ.out;rw[<- Nat.pow_succ',show (b-1).succ=b by have:=ab.out.1;omega];exact this
 have ar:=Lib.hid (jxo b r);have ae:=Lib.hid (juo b r);have c:=Lib.hid (fun k=>jdp b r k);generalize 2^(b-1)=N at al hw l ae c c2 I ap aA R ⊢;have HT:Hid (∀ (W:World) (rr:List Nat) (p q:Nat),RegsAt W g rr->rr.length=N->p<N->Calls Tryz.prog 267 #[.agg #[.int .i64 ((b:Int)-1),.string ⟨#[]⟩,.slice (some ⟨g,0,none⟩) N N,.func (.func 264) #[] #[]],.int .i64 p,.int .u8 q] W fun e w'=>e=.returned (.tuple #[])/\RegsAt w' g (jbx rr p q)/\W.grownBy w' (some g)):=fun W rr p q h ao hp=>jkn _ _ g N N p q rr W h (by omega) ao
 have ad:Hid (∀ W,U.grownBy W (some g)->W.heap[a.heap.size]? = some (.cells #[.int .i64 ((b:Int)-1),.string ⟨#[]⟩,.slice (some ⟨g,0,none⟩) N N,.func (.func 264) #[] #[]] 406 (0,0))/\W.heap[w.heap.size]? = some (.cells #[.int .i64 b,.string s] 37 (0,0))/\W.heap[w.heap.size+1]? = some (.cells #[.int .i64 0,.string ⟨#[]⟩] 37 (0,0))):=fun W X=>by
  have h1:=C.size;have h2:=D.size;refine⟨(X.block _ (Array.getElem?_eq_some_iff.1 I).1 (fun e=>by cases e;omega)).trans I,?_,?_⟩
  ·exact (X.block w.heap.size (by omega) (fun e=>by cases e;omega)).trans (known (D.trans (A.mono D.size)) (Nat.le_refl _) J)
  ·exact (X.block (w.heap.size+1) (by omega) (fun e=>by cases e;omega)).trans (known (D.trans (A.mono D.size)) (Nat.le_refl _) (known C (Nat.le_refl _) av.out))
 have ac:=Lib.hid ak;have aq:Hid (w.heap.size<=g):=by have:=C.size;show w.heap.size<=g;omega
 clear R I J ah A C D ak G P hB t;go_wp2_with fail;rw[hw];go_loopw [6,7,28] (fun _ _ i wr=>∃ k:Nat,k<=N/\i=.int .i64 k/\RegsAt wr g (jsV b r k)/\U.grownBy wr (some g)) (fun _ _ i _=>N-(intOf i).toNat)
 case atStart=>exact⟨0,Nat.zero_le _,rfl,by rw[ar.out];exact ap,World.grownBy.refl _ _⟩
 case round =>
  obtain⟨k,hk,rfl,P,X⟩:=hrel;obtain⟨B,L,Y⟩:=ad.out wr X;obtain⟨d0,d1,d2,d3⟩:=cl4 B;obtain⟨u0,u1⟩:=cl2 L;have HG:=Lib.hid X;by_cases o:k<N
  ·have aB:2*k<s.size:=by have:=l.out;omega
   have z:2*k+1<s.size:=by have:=l.out;omega
   have ex:=m.out (2*k) aB;have ey:=m.out (2*k+1) z;have T:=Lib.hid (jrc b r k);have aa:r.getD (2*k) 0<=65:=by have:=au.out (2*k);omega
   generalize r.getD (2*k) 0=x at ex T aa;generalize r.getD (2*k+1) 0=y at ey T;have S:=c.out k;generalize jsV b r k=r0 at P T S;have hm:((x:Int)+1) % 256=((x+1:Nat):Int):=by omega
   clear B L Y X;by_cases hx:x=0
   ·subst hx
    by_cases hy:y=0
    ·subst hy
     go_wp2_with fail;go_roundw
     case rel=>exact⟨k+1,by omega,by simp,by rw[<- T.out];show RegsAt _ g (jbx (jbx r0 k 0) k 0);rw[jf2,jf2];exact P,HG.out⟩
     case measure=>simp[intOf];omega
    ·have t1:((y:Int) != 0)=true:=by rw[bne_iff_ne];omega
     go_wp2_with fail;refine (HT.out wr r0 k 1 P S o).mono ?_;rintro e w6 ⟨rfl,Q,H⟩;go_wp2_with fail;go_roundw
     case rel=>exact⟨k+1,by omega,by simp,by rw[<- T.out];show RegsAt _ g (jbx (jbx r0 k 0) k (jsW y));rw[jf2,show jsW y=1 from if_neg hy];exact Q,HG.out.trans H⟩
     case measure=>simp[intOf];omega
   ·have t0:((x:Int) != 0)=true:=by rw[bne_iff_ne];omega
    have aC:upR x=x+1:=if_neg hx;rw[aC] at T;go_wp2_with fail;refine (HT.out wr r0 k (x+1) P S o).mono ?_;rintro e w6 ⟨rfl,Q,H⟩;obtain⟨E,M,Z⟩:=ad.out w6 (HG.out.trans H);obtain⟨a0,a1,a2,a3⟩:=cl4 E;obtain⟨v0,v1⟩:=cl2 M;by_cases hy:y=0
    ·subst hy
     clear E M Z;go_wp2_with fail;go_roundw
     case rel=>exact⟨k+1,by omega,by simp,by rw[<- T.out];show RegsAt _ g (jbx (jbx r0 k (x+1)) k 0);rw[jf2];exact Q,HG.out.trans H⟩
     case measure=>simp[intOf];omega
    ·have t1:((y:Int) != 0)=true:=by rw[bne_iff_ne];omega
     clear E M Z;go_wp2_with fail;refine (HT.out w6 _ k 1 Q (by rw[jcr];exact S) o).mono ?_;rintro e w7 ⟨rfl,az,ay⟩;go_wp2_with fail;go_roundw
     case rel=>exact⟨k+1,by omega,by simp,by rw[<- T.out,show jsW y=1 from if_neg hy];exact az,(HG.out.trans H).trans ay⟩
     case measure=>simp[intOf];omega
  ·obtain rfl:k=N:=by omega
   have hD:=jfL ((b:Int)-1) ⟨#[]⟩ g k k (.func (.func 264) #[] #[]) _ wr P (c.out k);rw[ae.out,af.out] at hD;have ai:Bw w wr:=ac.out.grown HG.out ac.out.size (fun j e=>by cases e;exact aq.out);clear P B L X;go_wp2_with fail;refine hD.mono ?_;rintro e w5 ⟨rfl,an⟩;have B:=known an (Nat.le_refl _) Y;have ax:=ai.trans (an.mono ai.size);obtain⟨q0,q1⟩:=cl2 B;obtain⟨f0,f1⟩:=cz2 B;have E:=jbq (u:=.int .i64 ((b:Int)-1)) (v:=.string F) B;have aj:=(ax.setCell (p:=⟨w.heap.size+1,0,none⟩) (Nat.le_succ _) (.int .i64 ((b:Int)-1))).setCell (p:=⟨w.heap.size+1,1,none⟩) (Nat.le_succ _) (.string F);go_wp2_with fail;generalize (w5.setCell ⟨w.heap.size+1,0,none⟩ (.int .i64 ((b:Int)-1))).setCell ⟨w.heap.size+1,1,none⟩ (.string F)=V at E aj ⊢;obtain⟨j0,j1⟩:=cl2 E;exact bodyPost_ret (v:=.tuple #[.agg #[.int .i64 ((b:Int)-1),.string F],.int .i64 0]) (by simp[results,Tryz.f282,go_sem,j0,j1]) rfl ⟨rfl,aj⟩
end
abbrev jbA (l:List (Int × Int)):Prop:=l.Pairwise (fun a b=>a.1<b.1)
def jaP:List (Int × Int)->Int->Int->List (Int × Int)
 | [],p,n=>[(p,n)]
 | (q,m)::t,p,n=>if q<p then (q,m)::jaP t p n else if q=p then (q,jeb m n)::t else (p,n)::(q,m)::t
def jbI (l:List (Int × Int)) (p:Int):Option Int:=(l.find? (fun b=>b.1==p)).map (·.2)
def jw8 (o:Option Int) (n:Int):Int:=match o with
 | some x=>jeb x n
 | none=>n
def jbi (l:List (Int × Int)):List (Int × Int):=l.filter (fun b=>b.2 != 0)
def jaY (p:Int):Int:=if p=0 then 0 else 1+(p-1) / 2
def jhB (f:Int) (v:Nat):Int:=if v=0 then 0 else 1+((Lib.bitLen v-1)*2^f.toNat+v*2^(64-(Lib.bitLen v-1)) % 2^64 / 2^(64-f.toNat):Nat)
def jo2 (f:Int) (l:List (Int × Int)) (v:Nat) (n:Int):List (Int × Int):=jbi (jaP l (jhB f v) n)
def jaK (acc:List (Int × Int)) (l:List (Int × Int)):List (Int × Int):=l.foldl (fun a b=>jaP a b.1 b.2) acc
def jo3 (l:List (Int × Int)):List (Int × Int):=jbi (jaK [] (l.map fun b=>(jaY b.1,b.2)))
theorem jcV {b:Int × Int} {t:List (Int × Int)} (h:jbA (b::t)):jbA t/\∀ c∈t,b.1<c.1:=⟨(List.pairwise_cons.1 h).2,(List.pairwise_cons.1 h).1⟩
theorem jcU:∀ (l:List (Int × Int)) (p n:Int) (b:Int × Int),b∈jaP l p n->b.1=p\/b∈l
 | [],p,n,b,h=>by simp[jaP] at h;exact .inl (by rw[h])
 | (q,m)::t,p,n,b,h=>by
  unfold jaP at h;split at h
  ·rcases List.mem_cons.1 h with rfl | h
   ·exact .inr List.mem_cons_self
   ·rcases jcU t p n b h with h | h
    ·exact .inl h
    ·exact .inr (List.mem_cons_of_mem _ h)
  ·split at h
   ·rename_i B A
    rcases List.mem_cons.1 h with rfl | h
    ·exact .inl A
    ·exact .inr (List.mem_cons_of_mem _ h)
   ·rcases List.mem_cons.1 h with rfl | h
    ·exact .inl rfl
    ·exact .inr h
theorem jfB:∀ (l:List (Int × Int)) (p n:Int),jbA l->jbA (jaP l p n)
 | [],p,n,_=>by simp[jaP]
 | (q,m)::t,p,n,h=>by
  obtain⟨B,A⟩:=jcV h;unfold jaP;split
  ·rename_i C
   refine List.pairwise_cons.2 ⟨fun b hb=>?_,jfB t p n B⟩;rcases jcU t p n b hb with e | hb
   ·rw[e];exact C
   ·exact A b hb
  ·split
   ·exact List.pairwise_cons.2 ⟨A,B⟩
   ·rename_i D E
    refine List.pairwise_cons.2 ⟨fun b hb=>?_,h⟩;show p<b.1;rcases List.mem_cons.1 hb with rfl | hb
    ·show p<q;omega
    ·have F:q<b.1:=A b hb
     omega
theorem jaW (b:Int × Int) (t:List (Int × Int)) (p:Int):jbI (b::t) p=if b.1=p then some b.2 else jbI t p:=by
 unfold jbI;rw[List.find?_cons];by_cases h:b.1=p
 ·simp[h]
 ·rw[if_neg h,beq_eq_false_iff_ne.2 h]
theorem jiI {t:List (Int × Int)} {p:Int} (h:∀ b∈t,p<b.1):jbI t p=none:=by
 unfold jbI;rw[List.find?_eq_none.2 (fun b hb=>by have:=h b hb;simp;omega)];rfl
theorem jkP:∀ (l:List (Int × Int)) (p n r:Int),jbA l->jbI (jaP l p n) r=if r=p then some (jw8 (jbI l p) n) else jbI l r
 | [],p,n,r,_=>by
  unfold jaP;rw[jaW];by_cases h:r=p
  ·rw[if_pos h,if_pos h.symm];rfl
  ·rw[if_neg h,if_neg (fun e=>h e.symm)]
 | (q,m)::t,p,n,r,hu=>by
  obtain⟨B,C⟩:=jcV hu;unfold jaP;split
  ·rename_i F
   rw[jaW,jkP t p n r B,jaW (q,m) t p,jaW (q,m) t r];dsimp only;rw[if_neg (by omega:¬ q=p)];by_cases h:r=p
   ·rw[if_pos h,if_neg (by omega),if_pos h]
   ·rw[if_neg h,if_neg h]
  ·split
   ·rename_i D A
    subst A;rw[jaW,jaW,jaW];dsimp only;rw[if_pos rfl];by_cases h:r=q
    ·rw[if_pos h,if_pos h.symm];rfl
    ·rw[if_neg h,if_neg (fun e=>h e.symm),if_neg (fun e=>h e.symm)]
   ·rename_i D A
    rw[jaW];dsimp only;by_cases h:r=p
    ·rw[if_pos h,if_pos h.symm]
     have:jbI ((q,m)::t) p=none:=jiI (fun b hb=>by
      rcases List.mem_cons.1 hb with rfl | hb
      ·show p<q;omega
      ·have E:q<b.1:=C b hb
       omega)
     rw[this];rfl
    ·rw[if_neg h,if_neg (fun e=>h e.symm)]
def jbl (l:List (Int × Int)):Prop:=∀ b∈l,U64 b.2
theorem jkQ {l:List (Int × Int)} (h:jbl l) {p x:Int} (A:jbI l p=some x):U64 x:=by
 unfold jbI at A
 cases B:l.find? (fun b=>b.1==p) with
 | none=>rw[B] at A;cases A
 | some b =>
  rw[B] at A;simp only[Option.map_some,Option.some.injEq] at A;rw[<- A];exact h b (List.mem_of_find?_eq_some B)
theorem jeN:∀ (l:List (Int × Int)) (p n:Int),jbl l->U64 n->jbl (jaP l p n)
 | [],p,n,_,hn=>by intro b hb;simp[jaP] at hb;rw[hb];exact hn
 | (q,m)::t,p,n,h,hn=>by
  have ht:jbl t:=fun b hb=>h b (List.mem_cons_of_mem _ hb)
  unfold jaP;split
  ·intro b hb
   rcases List.mem_cons.1 hb with rfl | hb
   ·exact h _ List.mem_cons_self
   ·exact jeN t p n ht hn b hb
  ·split
   ·intro b hb
    rcases List.mem_cons.1 hb with rfl | hb
    ·exact jcT _ _ (h (q,m) List.mem_cons_self) hn
    ·exact ht b hb
   ·intro b hb
    rcases List.mem_cons.1 hb with rfl | hb
    ·exact hn
    ·exact h b hb
theorem jxy (n:Int) (A:U64 n):jeb 0 n=n:=by
 unfold U64 jeb at *;split<;>omega
theorem jdG:∀ (l a:List (Int × Int)),jbA a->jbA (jaK a l)
 | [],_,h=>h
 | b::l,a,h=>jdG l _ (jfB a b.1 b.2 h)
theorem jcq:∀ (l a:List (Int × Int)),jbl a->jbl l->jbl (jaK a l)
 | [],_,h,_=>h
 | b::l,a,h,hl=>jcq l _ (jeN a b.1 b.2 h (hl b List.mem_cons_self)) (fun c A=>hl c (List.mem_cons_of_mem _ A))
theorem jhC:∀ (l a:List (Int × Int)),jbA (a++l)->jaK a l=a++l
 | [],a,_=>by simp[jaK]
 | b::l,a,h=>by
  have key:∀ (a:List (Int × Int)),(∀ c∈a,c.1<b.1)->jaP a b.1 b.2=a++[b]:=by
   intro a
   induction a with
   | nil=>intro _;rfl
   | cons c a ih =>
    intro A;unfold jaP;rw[if_pos (A c List.mem_cons_self),ih (fun d C=>A d (List.mem_cons_of_mem _ C))];rfl
  have B:jaP a b.1 b.2=a++[b]:=key a (fun c A=>(List.pairwise_append.1 h).2.2 c A b List.mem_cons_self);show jaK (jaP a b.1 b.2) l=_;rw[B,jhC l (a++[b]) (by rw[List.append_assoc];exact h),List.append_assoc];rfl
theorem jet {l:List (Int × Int)} (h:jbA l):jbA (jbi l):=h.sublist List.filter_sublist
theorem jeS {l:List (Int × Int)} (h:jbl l):jbl (jbi l):=fun b hb=>h b (List.mem_filter.1 hb).1
theorem jge {l:List (Int × Int)}:∀ b∈jbi l,b.2≠0:=fun b hb=>by simpa using (List.mem_filter.1 hb).2
theorem jqQ {l:List (Int × Int)} (h:∀ b∈l,b.2≠0) (C:jbl l):(∀ b∈l.map fun b=>(jaY b.1,b.2),b.2≠0)/\jbl (l.map fun b=>(jaY b.1,b.2)) :=
 ⟨fun c A=>by obtain⟨d,B,rfl⟩:=List.mem_map.1 A;exact h d B,fun c A=>by obtain⟨d,B,rfl⟩:=List.mem_map.1 A;exact C d B⟩
theorem jeM:∀ (l:List (Int × Int)) (p n:Int),(jaP l p n).length<=l.length+1
 | [],_,_=>by simp[jaP]
 | (q,m)::t,p,n=>by
  have:=jeM t p n;unfold jaP;split
  ·simp only[List.length_cons];omega
  ·split<;>simp
theorem jeT:∀ (l a:List (Int × Int)),(jaK a l).length<=a.length+l.length
 | [],_=>by simp[jaK]
 | b::l,a=>by
  have A:=jeT l (jaP a b.1 b.2);have B:=jeM a b.1 b.2;show (jaK (jaP a b.1 b.2) l).length<=_;simp only[List.length_cons];omega
theorem jgd (l:List (Int × Int)):(jbi l).length<=l.length:=List.length_filter_le _ _
theorem jqU (l:List (Int × Int)):(jo3 l).length<=l.length:=by
 have B:=jgd (jaK [] (l.map fun b=>(jaY b.1,b.2)));have A:=jeT (l.map fun b=>(jaY b.1,b.2)) [];simp only[List.length_map,List.length_nil] at A;unfold jo3;omega
theorem jqT (f:Int) (l:List (Int × Int)) (v:Nat) (n:Int):(jo2 f l v n).length<=l.length+1:=Nat.le_trans (jgd _) (jeM _ _ _)
inductive Bd where
 | num (l:List Int)
 | reg (b:Nat) (r:List Nat)
 | cnt (c:Nat) (l:List Int)
 | bkt (f:Nat) (l:List (Int × Int))
def Bd.add:Bd->Nat->Int->Option Bd
 | .num l,h,_=>(jan l [(h:Int)]).map .num
 | .reg b r,h,_=>some (.reg b (jlg b r h))
 | .cnt c l,h,n=>some (.cnt c (jju c l h n))
 | .bkt f l,h,n=>some (.bkt f (jo2 f l h n))
def Bd.low:Bd->Bd
 | .num l=>.reg 7 (jgf 7 (jcl 7) (l.map Int.toNat))
 | .reg b r=>.reg (b-1) (jio b r)
 | .cnt c l=>.cnt (c / 2) (jf7 c l)
 | .bkt f l=>.bkt (f-1) (jo3 l)
def Bd.Ok (kind level:Nat):Bd->Prop
 | .num l=>kind=1/\level=0/\Up l/\l.length<=64/\jdh l
 | .reg b r=>kind=1/\1<=level/\level<=4/\b+level=8/\r.length=2^b/\∀ i,r.getD i 0<=65-b
 | .cnt c l=>kind=2/\level<=3/\c*2^level=32/\l.length=c+c/\jdh l
 | .bkt f l=>kind=3/\level<=3/\f+level=3/\jbA l/\(∀ b∈l,b.2≠0)/\jbl l/\∀ b∈l,jaz f b.1=true
def jdQ (kind:Nat):Nat:=if kind=1 then 4 else 3
def jba (s:Nat × Bd) (i:Nat × Int):Nat × Bd:=match s.2.add i.1 i.2 with
 | some b=>(s.1,b)
 | none=>(s.1+1,(s.2.low.add i.1 i.2).getD s.2.low)
def jsQ (s:Nat × Bd):Nat × Bd:=(s.1+1,s.2.low)
def jfg:Nat->Nat × Bd->Nat × Bd
 | 0,s=>s
 | n+1,s=>jfg n (jsQ s)
def jbL (s:Nat × Bd) (t:Nat):Nat × Bd:=jfg (t-s.1) s
def Item.ok (i:Nat × Int):Prop:=i.1<2^64/\U64 i.2
theorem jxQ (f:Nat) (B:f<=3) (v:Nat) (A:v≠0):∃ p,p<2^f/\jhB f v=1+((Lib.bitLen v-1)*2^f+p:Nat):=by
 refine⟨v*2^(64-(Lib.bitLen v-1)) % 2^64 / 2^(64-f),?_,?_⟩
 ·rw[Nat.div_lt_iff_lt_mul (Nat.two_pow_pos _),<- Nat.pow_add,show f+(64-f)=64 by omega]
  exact Nat.mod_lt _ (by decide)
 ·unfold jhB
  rw[if_neg A,Int.toNat_natCast]
theorem jbZ (f:Nat) (A:f<=3):jar (f:Int)=true:=by simp[jar];omega
theorem jkT:∀ f∈[0,1,2,3],∀ v∈[1,2,3,4,5,6,7],jaz ((f:Nat):Int) (jhB ((f:Nat):Int) v)=true:=by decide +kernel
theorem jqj (f:Nat) (B:f<=3) (v:Nat) (C:v<2^64):jaz f (jhB f v)=true:=by
 by_cases A:v=0
 ·subst A
  simp[jaz,jhB,jbZ f B]
 by_cases N:v<=7
 ·exact jkT f (by simp;omega) v (by simp;omega)
 obtain⟨p,F,E⟩:=jxQ f B v A;obtain⟨H,I,J⟩:=jfD v C A;have L:=jhl v C A
 have M:4<=Lib.bitLen v:=by
  apply Classical.byContradiction;intro O;have:2^Lib.bitLen v<=2^3:=Nat.pow_le_pow_right (by omega) (by omega);omega
 have G:((Lib.bitLen v-1)*2^f+p) / 2^f=Lib.bitLen v-1:=by
  rw[Nat.mul_comm,Nat.mul_add_div (Nat.two_pow_pos _),Nat.div_eq_of_lt F,Nat.add_zero]
 rw[E,jcW _ _ (by omega) (jbZ f B)]
 have D:(1+(((Lib.bitLen v-1)*2^f+p:Nat):Int)-1) / 2^((f:Int)).toNat=((Lib.bitLen v-1:Nat):Int):=by
  rw[Int.toNat_natCast,show (1+(((Lib.bitLen v-1)*2^f+p:Nat):Int)-1)=(((Lib.bitLen v-1)*2^f+p:Nat):Int) by omega,show ((2:Int)^f)=((2^f:Nat):Int) by simp,<- Int.natCast_ediv,G]
 rw[D,if_neg (by omega),if_pos (by omega)]
theorem jo1:∀ f∈[1,2,3],∀ p∈List.range 26,jaz ((f:Nat):Int) ((p:Nat):Int)=true->jaz ((f:Nat)-1:Int) (jaY ((p:Nat):Int))=true:=by decide +kernel
theorem jmn (f:Nat) (F:1<=f) (D:f<=3) (p:Int) (h:jaz f p=true):jaz ((f-1:Nat):Int) (jaY p)=true:=by
 have C:0<=p:=by
  unfold jaz at h;split at h
  ·rename_i A
   simp only[Bool.and_eq_true,decide_eq_true_eq] at A;exact A.2
  ·cases h
 have B:((f-1:Nat):Int)=(f:Int)-1:=by omega
 by_cases G:p<26
 ·have:=jo1 f (by simp;omega) p.toNat (by simp;omega)
  rw[Int.toNat_of_nonneg C] at this;rw[B];exact this h
 rw[jcW _ _ (by omega) (jbZ f D)] at h;have E:jaY p=1+(p-1) / 2:=by unfold jaY;rw[if_neg (by omega)]
 rw[E,jcW _ _ (by omega) (jbZ _ (by omega))];rcases (by omega:f=1\/f=2\/f=3) with rfl | rfl | rfl
 ·simp only[show (((1:Nat):Int)).toNat=1 from rfl,show (((1-1:Nat):Int)).toNat=0 from rfl] at h ⊢
  by_cases A:64<=(p-1) / 2^1
  ·rw[if_pos A] at h;cases h
  ·rw[if_neg (by omega),if_pos (by omega)]
 ·simp only[show (((2:Nat):Int)).toNat=2 from rfl,show (((2-1:Nat):Int)).toNat=1 from rfl] at h ⊢
  by_cases A:64<=(p-1) / 2^2
  ·rw[if_pos A] at h;cases h
  ·rw[if_neg (by omega),if_pos (by omega)]
 ·simp only[show (((3:Nat):Int)).toNat=3 from rfl,show (((3-1:Nat):Int)).toNat=2 from rfl] at h ⊢
  by_cases A:64<=(p-1) / 2^3
  ·rw[if_pos A] at h;cases h
  ·rw[if_neg (by omega),if_pos (by omega)]
theorem jqJ (l:List Int) (n:Int) (C:Up l) (A:jdh l) (B:U64 n):jdh (jcB l n):=by
 rw[jfI l n C];intro x D;rcases (jg2 l n x).1 D with rfl | h
 ·exact B
 ·exact A x h
theorem jqw {c level:Nat} (A:level<=3) (h:c*2^level=32):(level=0/\c=32)\/(level=1/\c=16)\/(level=2/\c=8)\/(level=3/\c=4):=by
 rcases (by omega:level=0\/level=1\/level=2\/level=3) with rfl | rfl | rfl | rfl<;>simp only[Nat.reducePow] at h<;>omega
theorem jkL {k L:Nat} {b I:Bd} {h:Nat} {n:Int} (hb:b.Ok k L) (N:h<2^64) (J:U64 n) (A:b.add h n=some I):I.Ok k L:=by
 cases b with
 | num l =>
  obtain⟨C,D,B,E,F⟩:=hb;simp only[Bd.add,jan] at A;split at A
  ·cases A
  ·rename_i O
   simp only[Option.map_some,Option.some.injEq] at A;subst A;exact⟨C,D,by rw[jfI l _ B];exact jjN l _ B,by omega,jqJ l _ B F (by unfold U64;omega)⟩
 | reg b r =>
  obtain⟨C,D,B,E,F,G⟩:=hb;simp only[Bd.add,Option.some.injEq] at A;subst A;exact⟨C,D,B,E,by rw[jhE,F],jlh r _ _ _ G (jhG b h (by omega))⟩
 | cnt c l =>
  obtain⟨C,D,B,E,F⟩:=hb;simp only[Bd.add,Option.some.injEq] at A;subst A;exact⟨C,D,B,by rw[jkY,E],jqs c l h n F J⟩
 | bkt f l =>
  obtain⟨C,D,B,E,F,G,M⟩:=hb;simp only[Bd.add,Option.some.injEq] at A;subst A;refine⟨C,D,B,?_,?_,?_,?_⟩
  ·exact jet (jfB _ _ _ E)
  ·exact jge
  ·exact jeS (jeN _ _ _ G J)
  ·intro x H
   rcases jcU _ _ _ x (List.mem_filter.1 H).1 with e | H
   ·rw[e];exact jqj f (by omega) h N
   ·exact M x H
theorem jnH (b:Nat) (hb:b<=8):∀ (l r:List Nat),(∀ i,r.getD i 0<=65-b)->∀ i,(jgf b r l).getD i 0<=65-b
 | [],_,h=>h
 | x::l,r,h=>jnH b hb l _ (jlh r _ _ _ h (jhG b x hb))
theorem jqX (b m:Nat):∀ i,(jcl b).getD i 0<=m:=fun i=>by
 unfold jcl;rw[List.getD_eq_getElem?_getD,List.getElem?_replicate];split<;>simp
theorem jub (b:Nat) (E:4<=b) (F:b<=8) (r:List Nat) (h:∀ i,r.getD i 0<=65-b):∀ i,(jio b r).getD i 0<=65-(b-1):=fun i=>by
 by_cases A:i<2^(b-1)
 ·rw[jvo _ _ _ A]
  have B:=h (2*i);have C:=jwG (r.getD (2*i+1) 0);have D:upR (r.getD (2*i) 0)<=r.getD (2*i) 0+1:=by unfold upR;split<;>omega
  omega
 ·rw[List.getD_eq_getElem?_getD,List.getElem?_eq_none (by rw[jhF];omega)]
  simp
theorem jdF:∀ (l a:List (Int × Int)) (x:Int × Int),x∈jaK a l->x∈a\/(∃ y∈a,x.1=y.1)\/∃ y∈l,x.1=y.1
 | [],_,_,h=>.inl h
 | b::l,a,x,h=>by
  rcases jdF l (jaP a b.1 b.2) x h with h | ⟨y,A,e⟩ | ⟨y,A,e⟩
  ·rcases jcU _ _ _ x h with e | h
   ·exact .inr (.inr ⟨b,List.mem_cons_self,e⟩)
   ·exact .inl h
  ·rcases jcU _ _ _ y A with B | h
   ·exact .inr (.inr ⟨b,List.mem_cons_self,e.trans B⟩)
   ·exact .inr (.inl ⟨y,h,e⟩)
  ·exact .inr (.inr ⟨y,List.mem_cons_of_mem _ A,e⟩)
theorem jb5 {k L:Nat} {b:Bd} (hb:b.Ok k L) (G:L<jdQ k):b.low.Ok k (L+1):=by
 cases b with
 | num l =>
  obtain⟨A,B,D,E,C⟩:=hb;subst A;subst B;exact⟨rfl,by omega,by omega,by omega,by rw[jfO];simp[jcl],jnH 7 (by omega) _ _ (jqX 7 _)⟩
 | reg b r =>
  obtain⟨A,B,D,E,C,F⟩:=hb;subst A;have N:L<4:=G;exact⟨rfl,by omega,by omega,by omega,by rw[jhF],jub b (by omega) (by omega) r F⟩
 | cnt c l =>
  obtain⟨A,B,D,E,C⟩:=hb;subst A;have H:L<3:=G;refine⟨rfl,by omega,?_,by rw[jhn],jqt c l C⟩;rcases jqw B D with⟨rfl,rfl⟩ | ⟨rfl,rfl⟩ | ⟨rfl,rfl⟩ | ⟨rfl,rfl⟩<;>first | rfl | omega
 | bkt f l =>
  obtain⟨A,B,D,E,C,F,M⟩:=hb;subst A;have H:L<3:=G;obtain⟨Q,J⟩:=jqQ C F;refine⟨rfl,by omega,by omega,?_,jge,jeS (jcq _ [] (fun b hb=>by cases hb) J),?_⟩
  ·exact jet (jdG _ [] List.Pairwise.nil)
  ·intro x O
   rcases jdF _ _ x (List.mem_filter.1 O).1 with h | ⟨y,I,e⟩ | ⟨y,I,e⟩
   ·cases h
   ·cases I
   ·obtain⟨z,P,rfl⟩:=List.mem_map.1 I
    rw[e];exact jmn f (by omega) (by omega) z.1 (M z P)
theorem jiF {k L:Nat} {b:Bd} {h:Nat} {n:Int} (hb:b.Ok k L) (A:b.add h n=none):∃ B,b.low.add h n=some B/\k=1/\L=0:=by
 cases b with
 | num l=>exact⟨_,rfl,hb.1,hb.2.1⟩
 | reg b r=>simp[Bd.add] at A
 | cnt c l=>simp[Bd.add] at A
 | bkt f l=>simp[Bd.add] at A
theorem jlz {k L:Nat} {b:Bd} (hb:b.Ok k L):L<=jdQ k:=by
 cases b with
 | num l=>obtain⟨A,B,-⟩:=hb;subst A;subst B;decide
 | reg b r=>obtain⟨A,B,C,-⟩:=hb;subst A;exact C
 | cnt c l=>obtain⟨A,B,-⟩:=hb;subst A;exact B
 | bkt f l=>obtain⟨A,B,-⟩:=hb;subst A;exact B
theorem jog {k:Nat} {s:Nat × Bd} {i:Nat × Int} (D:s.2.Ok k s.1) (C:Item.ok i):(jba s i).2.Ok k (jba s i).1/\s.1<=(jba s i).1:=by
 unfold jba
 cases E:s.2.add i.1 i.2 with
 | some b=>exact⟨jkL D C.1 C.2 E,Nat.le_refl _⟩
 | none =>
  obtain⟨H,A,G,F⟩:=jiF D E;have B:=jb5 D (by rw[G,F];decide);simp only[A,Option.getD_some];exact⟨jkL B C.1 C.2 A,Nat.le_succ _⟩
theorem jsR {s:Nat × Bd} {t:Nat} (h:t<=s.1):jbL s t=s:=by
 unfold jbL;rw[show t-s.1=0 by omega];rfl
theorem ju4 {s:Nat × Bd} {t:Nat} (h:s.1<t):jbL s t=jbL (jsQ s) t:=by
 unfold jbL;rw[show t-s.1=(t-(s.1+1))+1 by omega];rfl
theorem jcv {k:Nat} (t:Nat) (ht:t<=jdQ k):∀ (m:Nat) (s:Nat × Bd),t-s.1=m->s.2.Ok k s.1->(jbL s t).2.Ok k (jbL s t).1/\(jbL s t).1=max s.1 t:=by
 intro m
 induction m with
 | zero=>intro s B A;rw[jsR (by omega)];exact⟨A,by omega⟩
 | succ m ih =>
  intro s B A;rw[ju4 (by omega)];have h:=ih (jsQ s) (by show t-(s.1+1)=m;omega) (jb5 A (by omega));exact⟨h.1,by rw[h.2];show max (s.1+1) t=_;omega⟩
theorem joi {k:Nat}:∀ (l:List (Nat × Int)) (s:Nat × Bd),(∀ i∈l,Item.ok i)->s.2.Ok k s.1->(l.foldl jba s).2.Ok k (l.foldl jba s).1
 | [],_,_,hs=>hs
 | i::l,_,hl,hs=>joi l _ (fun j A=>hl j (List.mem_cons_of_mem _ A)) (jog hs (hl i List.mem_cons_self)).1
def jdA (k:Nat):Bd:=if k=1 then .num [] else if k=2 then .cnt 32 (jvc 32) else .bkt 3 []
theorem jjs (k:Nat) (h:k=1\/k=2\/k=3):(jdA k).Ok k 0:=by
 rcases h with rfl | rfl | rfl
 ·exact⟨rfl,rfl,List.Pairwise.nil,by simp,fun n A=>by cases A⟩
 ·refine⟨rfl,by omega,rfl,by simp[jvc],fun n A=>?_⟩
  rw[List.eq_of_mem_replicate A];exact jsD
 ·exact⟨rfl,by omega,rfl,List.Pairwise.nil,(fun b hb=>by cases hb),(fun b hb=>by cases hb),fun b hb=>by cases hb⟩
def jfM (r s:List Nat):List Nat:=(List.range r.length).map fun i=>max (r.getD i 0) (s.getD i 0)
def jfF (l m:List Int):List Int:=(List.range l.length).map fun i=>jeb (l.getD i 0) (m.getD i 0)
def Bd.merge:Bd->Bd->Option Bd
 | .num l,.num m=>(jan l m).map .num
 | .reg b r,.reg _ s=>some (.reg b (jfM r s))
 | .cnt c l,.cnt _ m=>some (.cnt c (jfF l m))
 | .bkt f l,.bkt _ m=>some (.bkt f (jbi (jaK l m)))
 | _,_=>none
def jbz (s t:Nat × Bd):Nat × Bd :=
 match (jbL s (max s.1 t.1)).2.merge (jbL t (max s.1 t.1)).2 with
 | some B=>(max s.1 t.1,B)
 | none=>(max s.1 t.1+1,((jbL s (max s.1 t.1)).2.low.merge (jbL t (max s.1 t.1)).2.low).getD (jbL s (max s.1 t.1)).2.low)
def jef (A:List (Nat × Int)):Prop:=∀ i∈A,Item.ok i
theorem jhy:∀ (r l m:List Int),Up l->l.length<=64->jan l r=some m->Up m/\m.length<=64/\∀ y,y∈m↔y∈l\/y∈r
 | [],l,m,hu,hl,h=>by
  obtain rfl:l=m:=by simpa [jan] using h
  exact⟨hu,hl,fun y=>by simp⟩
 | n::r,l,m,hu,hl,h=>by
  rw[jan] at h;split at h
  ·cases h
  ·rename_i D
   rw[jfI l n hu] at h D;obtain⟨A,B,C⟩:=jhy r _ m (jjN l n hu) (by omega) h;refine⟨A,B,fun y=>?_⟩;rw[C,jg2,List.mem_cons];constructor
   ·rintro ((e | e) | e)
    ·exact .inr (.inl e)
    ·exact .inl e
    ·exact .inr (.inr e)
   ·rintro (e | e | e)
    ·exact .inl (.inr e)
    ·exact .inl (.inl e)
    ·exact .inr e
theorem jfN (r s:List Nat):(jfM r s).length=r.length:=by simp[jfM]
theorem jnG (r s:List Nat) (i:Nat) (A:i<r.length):(jfM r s).getD i 0=max (r.getD i 0) (s.getD i 0):=by
 unfold jfM;rw[List.getD_eq_getElem?_getD,List.getElem?_map,List.getElem?_range A];rfl
theorem jqM (l:List Nat) (i:Nat) (h:l.length<=i):l.getD i 0=0:=by rw[List.getD_eq_getElem?_getD,List.getElem?_eq_none h];rfl
theorem jho (l m:List Int):(jfF l m).length=l.length:=by simp[jfF]
theorem jtP (l m:List Int) (i:Nat) (A:i<l.length):(jfF l m).getD i 0=jeb (l.getD i 0) (m.getD i 0):=by
 unfold jfF;rw[List.getD_eq_getElem?_getD,List.getElem?_map,List.getElem?_range A];rfl
theorem jqu (l m:List Int) (A:jdh l) (B:jdh m):jdh (jfF l m):=by
 intro x C;obtain⟨i,-,rfl⟩:=List.mem_map.1 C;exact jcT _ _ (jbe l A i) (jbe m B i)
def Bd.wide:Bd->Prop
 | .num _=>False
 | _=>True
theorem jr8 {c d L:Nat} (h:c*2^L=32) (A:d*2^L=32):c=d:=Nat.eq_of_mul_eq_mul_right (Nat.two_pow_pos L) (h.trans A.symm)
theorem jnP {k L:Nat} {x y z:Bd} (H:x.Ok k L) (B:y.Ok k L) (A:x.merge y=some z):z.Ok k L:=by
 cases x with
 | num l =>
  cases y with
  | num m =>
   obtain⟨C,D,E,F,G⟩:=H;obtain⟨M,N,O,P,I⟩:=B;obtain⟨q,V,rfl⟩:=Option.map_eq_some_iff.1 A;obtain⟨c1,c2,c3⟩:=jhy m l q E F V;exact⟨C,D,c1,c2,fun n U=>((c3 n).1 U).elim (G n) (I n)⟩
  | reg b r=>cases A
  | cnt c l=>cases A
  | bkt f l=>cases A
 | reg b r =>
  cases y with
  | num m=>cases A
  | reg b' s =>
   obtain⟨C,D,E,F,G,J⟩:=H;obtain⟨M,N,O,P,I,Q⟩:=B;obtain rfl:_=z:=Option.some.inj A;refine⟨C,D,E,F,by rw[jfN,G],fun i=>?_⟩;by_cases T:i<r.length
   ·rw[jnG _ _ _ T]
    have:=J i;have:=Q i;obtain rfl:b=b':=by omega
    omega
   ·rw[jqM _ _ (by rw[jfN];omega)];omega
  | cnt c l=>cases A
  | bkt f l=>cases A
 | cnt c l =>
  cases y with
  | num m=>cases A
  | reg b r=>cases A
  | cnt c' m =>
   obtain⟨C,D,E,F,G⟩:=H;obtain⟨M,N,O,P,I⟩:=B;obtain rfl:_=z:=Option.some.inj A;exact⟨C,D,E,by rw[jho,F],jqu l m G I⟩
  | bkt f l=>cases A
 | bkt f l =>
  cases y with
  | num m=>cases A
  | reg b r=>cases A
  | cnt c m=>cases A
  | bkt f' m =>
   obtain⟨C,D,E,F,G,J,R⟩:=H;obtain⟨M,N,O,P,I,Q,S⟩:=B;obtain rfl:f=f':=by omega
   obtain rfl:_=z:=Option.some.inj A;refine⟨C,D,E,jet (jdG m l F),jge,jeS (jcq m l J Q),fun x H=>?_⟩;rcases jdF m l x (List.mem_filter.1 H).1 with h | ⟨y,B,e⟩ | ⟨y,B,e⟩
   ·exact R x h
   ·rw[e];exact R y B
   ·rw[e];exact S y B
end Go.Proofs.YtnegciklhanmbaaGreatDoor
