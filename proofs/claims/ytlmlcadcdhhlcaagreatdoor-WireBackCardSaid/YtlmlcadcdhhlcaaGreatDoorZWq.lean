/- Package frame: read, the check. Printed by gen_wn.py. Package frame: read at any bytes. A range over a function whose iterator keeps a variable of its own and makes what it tells as it goes (frame.each): A2's law, the next thing told by what is known of it. Of no program. Package frame: each. Package frame: All, Read. Printed by gen_wu.py. Package wire: the wire in memory; New, Open, close. Printed by gen_wq.py. -/
import Derived.Test.YtlmlcadcdhhlcaaGreatDoorZWm
set_option maxHeartbeats 4000000
set_option maxRecDepth 100000
namespace Go.Proofs.YtlmlcadcdhhlcaaGreatDoor
open Go Go.RowKit Go.Shelf
theorem jhn (s t:ByteArray) (o m:Addr) (n:Int) (r:List UInt8) (f:0<s.size) (hf:s[0]'f=167) (ht:s.extract 1 s.size=t) (u:t.size<4294967281) (q:jbA t.data.toList=.got n r) (h0:0<n) (h1:n<=2000) (hr:r.length<4294967281) (h2:n+4<=(r.length:Int)) (Z:jaL (r.take n.toNat)=jbX ((r.drop n.toNat).take 4)) (w:World) (p:GF o m w):CR 57 #[.string s] w (.tuple #[.string ⟨(r.take n.toNat).toArray⟩,.string ⟨(r.drop (n.toNat+4)).toArray⟩,.nilIface]):=by
 have R:s.toList.isEmpty=false:=by
  rw[jag,beq_eq_false_iff_ne];omega
 have ae:¬ s.toList=[]:=by
  intro e;rw[e] at R
  cases R
 have O:=jbm t o m w u p;rw[q] at O;unfold jbt at O;dsimp only at O;have j:=Lib.hid O;have ab:¬ n=0:=by omega
 have g:¬ 2000<n:=by omega
 have h:(n==0)=false:=by rw[beq_eq_false_iff_ne];omega
 have ac:(n==0||decide (2000<n))=false:=by rw[h,decide_eq_false g];rfl
 have ad:¬ (r.length:Int)<n+4:=by omega
 obtain⟨B,A⟩:∃ B,(⟨r.toArray⟩:ByteArray).extract 0 n.toNat=B:=⟨_,rfl⟩;obtain⟨L,H⟩:∃ L,(⟨r.toArray⟩:ByteArray).extract n.toNat r.length=L:=⟨_,rfl⟩;obtain⟨F,C⟩:∃ F,L.extract 0 4=F:=⟨_,rfl⟩;have G:B.data.toList=r.take n.toNat:=by rw[<- A,ByteArray.data_extract,Array.toList_extract,List.extract_eq_take_drop];simp
 have E:L.data.toList=r.drop n.toNat:=by rw[<- H,ByteArray.data_extract,Array.toList_extract,List.extract_eq_take_drop];exact List.take_of_length_le (by rw[List.length_drop];exact Nat.le_refl _)
 have P:L.size=r.length-n.toNat:=by rw[<- List.length_drop,<- E];exact Array.length_toList.symm
 have N:F.data.toList=(r.drop n.toNat).take 4:=by rw[<- C,ByteArray.data_extract,Array.toList_extract,List.extract_eq_take_drop,<- E];simp
 have a:B.size<=2000:=by rw[<- A,ByteArray.size_extract];omega
 have d:F.size<=4:=by rw[<- C,ByteArray.size_extract];omega
 have T:Hid (B=⟨(r.take n.toNat).toArray⟩):=by rw[Hid,<- G]
 have V:Hid (L.extract 4 L.size=⟨(r.drop (n.toNat+4)).toArray⟩):=by
  have e:(L.extract 4 L.size).data.toList=r.drop (n.toNat+4):=by
   rw[ByteArray.data_extract,Array.toList_extract,List.extract_eq_take_drop,E,List.drop_drop];exact List.take_of_length_le (by rw[List.length_drop,P];omega)
  rw[Hid,<- e]
 obtain⟨k,I⟩:∃ c,jaL (r.take n.toNat)=c:=⟨_,rfl⟩;obtain⟨l,J⟩:∃ c,jbX ((r.drop n.toNat).take 4)=c:=⟨_,rfl⟩;rw[I,J] at Z;have aa:((k:Int) != (l:Int))=false:=by rw[Z];simp
 have v:Hid (∀ W,CR 81 #[.string B] W (.int .u32 k)):=fun W=>by rw[<- I,<- G];exact jcB B (by omega) W
 have y:Hid (∀ W,Calls Tryz.prog 82 #[.string F] W fun e w'=>e=.returned (.int .u32 l)/\w'=W):=fun W=>by rw[<- J,<- N];exact jcO F (by omega) W
 have z:(4:Int)<=(L.size:Int):=by omega
 have U:=Lib.hid A;have Y:=Lib.hid H;have X:=Lib.hid C;clear G E N a d P A H C I J Z;clear O q p u;go_enter Tryz.func57,Tryz.ntmps57;go_wp2_with fail;refine jau 0 rfl ?_;go_wp2_with fail;refine j.out.mono ?_;rintro e w1 ⟨rfl,Q⟩;have i:=Lib.hid Q;clear Q j;go_wp2_with fail;go_quiet (fail);rw[U.out,Y.out];obtain⟨D,b⟩:∃ D,(w1.drewN nq).drew=D:=⟨_,rfl⟩;have M:Hid (Bw w D):=by rw[Hid,<- b];exact (bDr i.out _).drew
 have x:=Lib.hid b;clear b i;go_wp2_with fail;refine wp_region_any (by kernel_rfl) ?_;change wpAny _ _ _ _ _ _ _ (World.drew _);rw[x.out]
 ·
  refine ta 0 ?_;refine ta 2 ?_;refine ta 3 ?_;refine rd [1] (.cons rfl (fun K hK=>?_) .nil)
  all_goals go_simp
  all_goals
   refine (v.out _).mono ?_;rintro e x1 ⟨rfl,Q⟩;have S:Hid (Bw w x1):=M.out.trans (Q.mono M.out.size);clear Q;refine hK _ _ ?_;clear hK K
  all_goals (refine rd [4] (.cons rfl (fun K hK=>?_) .nil))
  all_goals go_simp
  all_goals
   rw[X.out];refine (y.out _).mono ?_;rintro e x2 ⟨rfl,rfl⟩;refine hK _ _ ?_;clear hK K
  all_goals (refine rd [5] (.cons rfl (fun K hK=>?_) .nil))
  all_goals go_simp
  all_goals (refine hK _ _ ?_;clear hK K)
  all_goals (refine wpAny_done (by kernel_rfl) ?_ _)
  all_goals
   go_wp2_with fail;go_quiet (fail);go_wp2_with fail;dsimp only[Exit.jump];go_ret3;rw[T.out,V.out];exact⟨rfl,bDr S.out _⟩
theorem jho (s t:ByteArray) (m l:Addr) (n:Int) (r:List UInt8) (b:0<s.size) (hf:s[0]'b=167) (ht:s.extract 1 s.size=t) (y:t.size<4294967281) (x:jbA t.data.toList=.got n r) (h0:0<n) (h1:n<=2000) (hr:r.length<4294967281) (h2:n+4<=(r.length:Int)) (o:¬ jaL (r.take n.toNat)=jbX ((r.drop n.toNat).take 4)) (w:World) (q:GF m l w):Calls Tryz.prog 57 #[.string s] w fun e T=>∃ v,e=.returned (.tuple #[.string ⟨#[]⟩,.string s,v])/\Fr.FaultAt T v 31/\Bw w T:=by
 have S:s.toList.isEmpty=false:=by
  rw[jag,beq_eq_false_iff_ne];omega
 have ah:¬ s.toList=[]:=by
  intro e;rw[e] at S
  cases S
 have P:=jbm t m l w y q;rw[x] at P;unfold jbt at P;dsimp only at P;have i:=Lib.hid P;have ae:¬ n=0:=by omega
 have d:¬ 2000<n:=by omega
 have f:(n==0)=false:=by rw[beq_eq_false_iff_ne];omega
 have af:(n==0||decide (2000<n))=false:=by rw[f,decide_eq_false d];rfl
 have ag:¬ (r.length:Int)<n+4:=by omega
 obtain⟨B,A⟩:∃ B,(⟨r.toArray⟩:ByteArray).extract 0 n.toNat=B:=⟨_,rfl⟩;obtain⟨L,H⟩:∃ L,(⟨r.toArray⟩:ByteArray).extract n.toNat r.length=L:=⟨_,rfl⟩;obtain⟨F,C⟩:∃ F,L.extract 0 4=F:=⟨_,rfl⟩;have G:B.data.toList=r.take n.toNat:=by rw[<- A,ByteArray.data_extract,Array.toList_extract,List.extract_eq_take_drop];simp
 have E:L.data.toList=r.drop n.toNat:=by rw[<- H,ByteArray.data_extract,Array.toList_extract,List.extract_eq_take_drop];exact List.take_of_length_le (by rw[List.length_drop];exact Nat.le_refl _)
 have Q:L.size=r.length-n.toNat:=by rw[<- List.length_drop,<- E];exact Array.length_toList.symm
 have O:F.data.toList=(r.drop n.toNat).take 4:=by rw[<- C,ByteArray.data_extract,Array.toList_extract,List.extract_eq_take_drop,<- E];simp
 have Y:B.size<=2000:=by rw[<- A,ByteArray.size_extract];omega
 have a:F.size<=4:=by rw[<- C,ByteArray.size_extract];omega
 have aa:Hid (B=⟨(r.take n.toNat).toArray⟩):=by rw[Hid,<- G]
 have ab:Hid (L.extract 4 L.size=⟨(r.drop (n.toNat+4)).toArray⟩):=by
  have e:(L.extract 4 L.size).data.toList=r.drop (n.toNat+4):=by
   rw[ByteArray.data_extract,Array.toList_extract,List.extract_eq_take_drop,E,List.drop_drop];exact List.take_of_length_le (by rw[List.length_drop,Q];omega)
  rw[Hid,<- e]
 obtain⟨j,I⟩:∃ c,jaL (r.take n.toNat)=c:=⟨_,rfl⟩;obtain⟨k,J⟩:∃ c,jbX ((r.drop n.toNat).take 4)=c:=⟨_,rfl⟩;rw[I,J] at o;have ad:((j:Int) != (k:Int))=true:=by rw[bne_iff_ne];omega
 have HC:Hid (∀ W,CR 81 #[.string B] W (.int .u32 j)):=fun W=>by rw[<- I,<- G];exact jcB B (by omega) W
 have HN:Hid (∀ W,Calls Tryz.prog 82 #[.string F] W fun e T=>e=.returned (.int .u32 k)/\T=W):=fun W=>by rw[<- J,<- O];exact jcO F (by omega) W
 have ac:(4:Int)<=(L.size:Int):=by omega
 have U:=Lib.hid A;have X:=Lib.hid H;have V:=Lib.hid C;clear G E O Y a Q A H C I J o;clear P x q y;go_enter Tryz.func57,Tryz.ntmps57;go_wp2_with fail;refine jau 0 rfl ?_;go_wp2_with fail;refine i.out.mono ?_;rintro e w1 ⟨rfl,R⟩;have g:=Lib.hid R;clear R i;go_wp2_with fail;go_quiet (fail);rw[U.out,X.out];obtain⟨D,Z⟩:∃ D,(w1.drewN nq).drew=D:=⟨_,rfl⟩;have N:Hid (Bw w D):=by rw[Hid,<- Z];exact (bDr g.out _).drew
 have HD:=Lib.hid Z;clear Z g;go_wp2_with fail;refine wp_region_any (by kernel_rfl) ?_;change wpAny _ _ _ _ _ _ _ (World.drew _);rw[HD.out]
 ·
  refine ta 0 ?_;refine ta 2 ?_;refine ta 3 ?_;refine rd [1] (.cons rfl (fun K hK=>?_) .nil)
  all_goals go_simp
  all_goals
   refine (HC.out _).mono ?_;rintro e x1 ⟨rfl,R⟩;have M:Hid (Bw w x1):=N.out.trans (R.mono N.out.size);clear R;refine hK _ _ ?_;clear hK K
  all_goals (refine rd [4] (.cons rfl (fun K hK=>?_) .nil))
  all_goals go_simp
  all_goals
   rw[V.out];refine (HN.out _).mono ?_;rintro e z ⟨rfl,rfl⟩;refine hK _ _ ?_;clear hK K
  all_goals (refine rd [5] (.cons rfl (fun K hK=>?_) .nil))
  all_goals go_simp
  all_goals (refine hK _ _ ?_;clear hK K)
  all_goals (refine wpAny_done (by kernel_rfl) ?_ _)
  all_goals
   obtain⟨W,hW,u,p,-⟩:=jab z #[.int .i64 31] 187;have h:Hid (Fr.FaultAt W (.iface 185 (.pointer (some ⟨z.heap.size,0,none⟩))) 31/\Bw w W):=⟨⟨_,rfl,u⟩,M.out.trans (p.mono M.out.size)⟩;clear u p;go_wp2_with fail;go_step3;refine And.intro (rfl:(0:Nat)=0) ?_;go_wp2_with fail;rw[Exit.noGoto_ret];go_ret3;exact⟨_,rfl,h.out.1,h.out.2⟩
theorem jgt {s b r:List UInt8} (h:rdF s=.got b r):r.length<s.length:=by
 cases s with
 | nil=>cases h
 | cons m t =>
  unfold rdF at h;dsimp only at h;split at h
  ·cases h
  ·split at h
   ·cases h
   ·cases h
   ·rename_i n C A
    have B:=(jaS A).2
    repeat (split at h;· cases h)
    cases h
    rw[List.length_drop,List.length_cons];omega
def ReadP (s:ByteArray) (w:World) (e:Ending) (w':World):Prop:=Bw w w'/\match rdF s.data.toList with
 | .got b r=>e=.returned (.tuple #[.string ⟨b.toArray⟩,.string ⟨r.toArray⟩,.nilIface])
 | .err no=>∃ v,e=.returned (.tuple #[.string ⟨#[]⟩,.string s,v])/\Fr.FaultAt w' v no
theorem ReadP.err {s:ByteArray} {w:World} {B:Int} (h:rdF s.data.toList=.err B) {e:Ending} {A:World} (F:∃ v,e=.returned (.tuple #[.string ⟨#[]⟩,.string s,v])/\Fr.FaultAt A v B/\Bw w A):ReadP s w e A:=by
 obtain⟨v,C,D,E⟩:=F;refine⟨E,?_⟩;rw[h];exact⟨v,C,D⟩
theorem jc7 (s:ByteArray) (F E:Addr) (w:World) (S:s.size<4294967281) (G:GF F E w):Calls Tryz.prog 57 #[.string s] w (ReadP s w):=by
 by_cases Q:s.size=0
 ·have e:s.data.toList=[]:=List.eq_nil_of_length_eq_zero (by rw[Array.length_toList];exact Q)
  exact (jfz s Q w).mono fun _ _ h=>ReadP.err (by rw[e];rfl) h
 ·have A:0<s.size:=by omega
  have e:=jdZ s _ _ A rfl rfl;have B:(s.extract 1 s.size).size<4294967281:=by rw[ByteArray.size_extract];omega
  by_cases C:s[0]'A=167
  ·cases D:jbA (s.extract 1 s.size).data.toList with
   | more=>exact (jgy s _ F E A C rfl B D w G).mono fun _ _ h=>ReadP.err (by rw[e];unfold rdF;dsimp only;rw[if_neg (fun h=>h C),D]) h
   | bad=>exact (jhm s _ F E A C rfl B D w G).mono fun _ _ h=>ReadP.err (by rw[e];unfold rdF;dsimp only;rw[if_neg (fun h=>h C),D]) h
   | got n r =>
    have L:=(jaS D).1
    have P:r.length<4294967281:=by
     have M:=(jaS D).2;have N:(s.extract 1 s.size).data.toList.length=(s.extract 1 s.size).size:=Array.length_toList;omega
    have H:rdF s.data.toList=if n=0\/2000<n then .err 30 else if (r.length:Int)<n+4 then .err 20 else
      if jaL (r.take n.toNat)≠jbX ((r.drop n.toNat).take 4) then .err 31 else .got (r.take n.toNat) (r.drop (n.toNat+4)):=by
     rw[e];unfold rdF;dsimp only;rw[if_neg (fun h=>h C),D]
    have R:=L.1;by_cases M:n=0
    ·exact (jgz s _ F E n r A C rfl B D L M w G).mono fun _ _ h=>ReadP.err (by rw[H,if_pos (Or.inl M)]) h
    ·by_cases N:2000<n
     ·exact (jgw s _ F E n r A C rfl B D L N w G).mono fun _ _ h=>ReadP.err (by rw[H,if_pos (Or.inr N)]) h
     ·have O:¬ (n=0\/2000<n):=by omega
      by_cases I:(r.length:Int)<n+4
      ·exact (jfA s _ F E n r A C rfl B D L (by omega) (by omega) P I w G).mono fun _ _ h=>ReadP.err (by rw[H,if_neg O,if_pos I]) h
      ·by_cases J:jaL (r.take n.toNat)=jbX ((r.drop n.toNat).take 4)
       ·refine (jhn s _ F E n r A C rfl B D (by omega) (by omega) P (by omega) J w G).mono fun _ _ h=>⟨h.2,?_⟩
        rw[H,if_neg O,if_neg I,if_neg (fun h=>h J)];exact h.1
       ·exact (jho s _ F E n r A C rfl B D (by omega) (by omega) P (by omega) J w G).mono fun _ _ h=>ReadP.err (by rw[H,if_neg O,if_neg I,if_pos J]) h
  ·exact (jgx s _ A rfl C w).mono fun _ _ h=>ReadP.err (by rw[e];unfold rdF;dsimp only;rw[if_pos C]) h
inductive Frames:List UInt8->List (List UInt8)->List UInt8->Int->Prop where
 | stop {s:List UInt8} {no:Int}:rdF s=.err no->Frames s [] s no
 | step {s b r t:List UInt8} {l:List (List UInt8)} {no:Int}:rdF s=.got b r->Frames r l t no->Frames s (b::l) t no
theorem Frames.one {s:List UInt8} {D A:List (List UInt8)} {F C:List UInt8} {E B:Int} (h:Frames s D F E) (k:Frames s A C B):D=A/\F=C/\E=B:=by
 induction h generalizing A C B with
 | stop e=>cases k with
  | stop e'=>rw[e] at e';cases e';exact⟨rfl,rfl,rfl⟩
  | step e' _=>rw[e] at e';cases e'
 | step e _ ih=>cases k with
  | stop e'=>rw[e] at e';cases e'
  | step e' k' =>
   rw[e] at e'
   cases e'
   obtain⟨rfl,rfl,rfl⟩:=ih k';exact⟨rfl,rfl,rfl⟩
def Pfx (s:List UInt8) (bs:List (List UInt8)) (r:List UInt8):Prop:=∀ l t no,Frames r l t no->Frames s (bs++l) t no
theorem Pfx.snoc {s r b B:List UInt8} {A:List (List UInt8)} (h:Pfx s A r) (e:rdF r=.got b B):Pfx s (A++[b]) B:=fun l t D C=>by
 rw[List.append_assoc];exact h _ _ _ (.step e C)
theorem Pfx.stop {s r:List UInt8} {A:List (List UInt8)} {B:Int} (h:Pfx s A r) (e:rdF r=.err B):Frames s A r B:=by
 have:=h _ _ _ (.stop e);rwa [List.append_nil] at this
def jcF {α:Type} (P:Program) (g:Nat) (lb:Array Value) (encs:α->Array Value) (Kp:World->World->Prop) (Bs:Nat) (Nx:List α->α->World->Prop) (Fin Pre:List α->Prop) (w:World):Prop :=
 ∀ (l:Nat) (J Jx:List α->World->Prop) (W:World),Bw w W->jfI W.heap.size Bs J->jfI W.heap.size Bs Jx ->
  (∀ pre x W1,J pre W1->Nx pre x W1->W.heap.size<=W1.heap.size->YieldAt Fence.wide 7 P l (encs x) W1 fun e W' =>
   (e=.returned (.bool true)/\J (pre++[x]) W'/\Kp W1 W'/\W1.heap.size<=W'.heap.size)\/(e=.returned (.bool false)/\Jx (pre++[x]) W'/\W1.heap.size<=W'.heap.size)) ->
  J [] W ->
  CallsIn Fence.wide 8 P g (#[.func (.yield l) #[] #[]]++lb) W fun e W'=>(∃ v,e=.returned v)/\((∃ xs,Fin xs/\J xs W')\/(∃ pre,Pre pre/\Jx pre W'))
theorem jgS {α:Type} {P:Program} {g:Operand} {ps:Array Tmp} {assign body:Code} {Q:Exit->Act->World->Prop} {a:Act} {w:World}
  {gf:Nat} {lb:Array Value} (hg:a.eval g=.func (.func gf) #[] lb) (eg:∀ args w,(callFunc gf args).run P w=.ok (.enter gf args) w)
  {Y:α->Array Value} {h:World->World->Prop} {Bs:Nat} {Nx:List α->α->World->Prop} {ad ae:List α->Prop} (ak:jcF P gf lb Y h Bs Nx ad ae w) (ah:OwnFrom w.heap.size (fun (p:List α × α) W=>Nx p.1 p.2 W)) (aC:Bs<w.heap.size)
  (y:∀ {A B C:World},h A B->h B C->h A C) (ag:∀ (W:World) (l:Nat) (o o':Obj),w.heap.size<=l->W.heap[l]? = some o->o.isCells=false->o.isWalk=false->h W (W.putObj l o')) (az:∀ x,(Y x).size=ps.size)
  (I:List α->World->Prop) (Ix:Code->List α->World->Prop) (af:OwnX w.heap.size Bs I) (m:∀ c,OwnX w.heap.size Bs (Ix c)) (h0:I [] w) (i:α->Obj) (ao:∀ (W:World) (o:Obj),h W (W.alloc o)) (a₁:α->Nat->Act)
  (d:∀ (l:Nat) (x:α) (W:World) (K:Act->World->Prop),K (a₁ x W.heap.size) (W.alloc (i x)) ->
   assign.wpIn (Fence.wide.inRound l) 7 P (Exit.then K (fun _ _ _=>False)) { tmps:=(ps.zip (Y x)).foldl (fun t (p,v)=>t.setIfInBounds p v) a.tmps,defers:=[] } W)
  (z:∀ (l:Nat) (F:List α) (x:α) (n:Nat) (W:World),I F W->Nx F x W->w.heap.size+2<=n->W.heap[n]? = some (i x)->body.wpIn (Fence.wide.inRound l) 7 P (ownPostG w.heap.size h I Ix (F++[x]) W) (a₁ x n) W)
  (aa:∀ (D:Nat) (xs:List α) (W:World),w.heap.size<=D->ad xs->I xs W->W.heap[D]? = some (.deferred (some []))->Q .normal { a with defers:={ target:=.collected D,args:=#[] }::a.defers } W)
  (ac:∀ (D:Nat) (c:Code) (F:List α) (W:World),w.heap.size<=D->ae F->Ix c F W->W.heap[D]? = some (.deferred (some []))->c.wp P Q { a with defers:={ target:=.collected D,args:=#[] }::a.defers } W) :
  (Code.rangeFunc g ps assign body).wp P Q a w:=by
 refine (wpIn_wide (n:=9)).1 ?_;have hI:=af.from;have j:=fun c=>(m c).from
 refine wpIn_rangeFunc ?_;intro fn av;show ∃ _ _ _ _ _ _ _ _,(Instr.enterLoop fn a.tmps ps assign body none).run P w=_/\_;obtain⟨G,H⟩:∃ G:LoopState->Option Code->Loop,G=fun st pe => { state:=st,pending:=pe,fn,tmps:=a.tmps,params:=ps,assign,body,defers:=w.heap.size }:=⟨_,rfl⟩
 obtain⟨b,Z⟩:∃ b,(w.alloc (.deferred (some []))).alloc (.loop (G .ready none))=b:=⟨_,rfl⟩
 have ap:b.heap[w.heap.size+1]? = some (.loop (G .ready none)):=by
  rw[<- Z];have:=World.alloc_heap_new (w.alloc (.deferred (some []))) (.loop (G .ready none));rwa [World.size_alloc] at this
 have am:b.heap[w.heap.size]? = some (.deferred (some [])):=by
  rw[<- Z];exact (Below.heap_alloc _ _ _ (by simp)).trans (World.alloc_heap_new w _)
 have al:I [] b:=by rw[<- Z];exact hI.alloc _ (hI.alloc _ h0)
 have ar:Bw w b:=by
  rw[<- Z];exact ((Below.refl _ w).alloc (Nat.le_refl _) _).alloc (by simp) _
 have aE:b.heap.size=w.heap.size+2:=by rw[<- Z];simp
 refine⟨w.heap.size+1,[{ target:=.collected w.heap.size,args:=#[] }],b,{ target:=.fn (.func gf) lb,args:=#[.func (.yield (w.heap.size+1)) #[] #[]] },b,gf,
  #[.func (.yield (w.heap.size+1)) #[] #[]]++lb,b,?_,?_,?_,?_,fun _=>by omega,?_⟩
 ·rw[<- Z,H];exact run_enterLoop_outer _ _ _ _ _
 ·simp only[resolve,hg]
  simp[go_sem]
 ·intro f' aD;trivial
 ·simp[invoke,go_sem,eg]
 ·have keep:∀ {A B:World} {row:Option Nat} {k:Nat} {o:Obj},A.grownBy B row->(∀ r,row=some r->r=Bs)->w.heap.size<=k->A.heap[k]? = some o->B.heap[k]? = some o:=fun M N f ho =>
   (M.block _ (Array.getElem?_eq_some_iff.1 ho).1 (fun e=>by have:=N _ e.symm;omega)).trans ho
  refine (ak (w.heap.size+1)
   (fun F W=>I F W/\W.heap[w.heap.size+1]? = some (.loop (G .ready none))/\W.heap[w.heap.size]? = some (.deferred (some [])))
   (fun F W=>∃ c,Ix c F W/\W.heap[w.heap.size+1]? = some (.loop (G .done (some c)))/\W.heap[w.heap.size]? = some (.deferred (some [])))
   b ar
   (fun s A B row hs M N _=>⟨af s A B row hs.1 M (fun r e=>.inl (N r e)),keep M N (by omega) hs.2.1,keep M N (Nat.le_refl _) hs.2.2⟩)
   (fun s A B row hs M N _=>by
    obtain⟨c,hc,S,f⟩:=hs;exact⟨c,m c s A B row hc M (fun r e=>.inl (N r e)),keep M N (by omega) S,keep M N (Nat.le_refl _) f⟩)
   ?_ ⟨al,ap,am⟩).mono ?_
  ·rintro F x W ⟨hi,S,f⟩ ab aG
   have ay:w.heap.size+1<W.heap.size:=(Array.getElem?_eq_some_iff.1 S).1;have hy:=run_yield (P:=P) (args:=Y x) S (by rw[H];exact az x);rw[H] at hy;refine⟨fn,_,assign,body,hy,roundIn_of_wpIn av (d _ x W _ ?_)⟩;clear hy;obtain⟨V,q⟩:∃ V,W.alloc (i x)=V:=⟨_,rfl⟩;rw[q];have hi:I F V:=by rw[<- q];exact hI.alloc _ hi
   have ab:Nx F x V:=by rw[<- q];exact ah.alloc (s:=(F,x)) _ ab
   have S:V.heap[w.heap.size+1]? = some (.loop (G .ready none)):=by rw[<- q];exact (Below.heap_alloc _ _ _ ay).trans S
   have f:V.heap[w.heap.size]? = some (.deferred (some [])):=by rw[<- q];exact (Below.heap_alloc _ _ _ (by omega)).trans f
   have au:V.heap[W.heap.size]? = some (i x):=by rw[<- q];exact World.alloc_heap_new _ _
   have an:h W V:=by rw[<- q];exact ao _ _
   have aF:W.heap.size<=V.heap.size:=by rw[<- q,World.size_alloc];omega
   have aj:w.heap.size+1<V.heap.size:=by omega
   refine⟨_,run_beginRound S (by rw[H]),?_⟩;have ax:(V.putObj (w.heap.size+1) (.loop { G .ready none with state:=.busy })).heap[w.heap.size+1]? = some (.loop { G .ready none with state:=.busy }):=World.putObj_heap_same aj;have aw:(V.putObj (w.heap.size+1) (.loop { G .ready none with state:=.busy })).heap[w.heap.size]? = some (.deferred (some [])):=(World.putObj_heap_other (by omega)).trans f;have aA:h V (V.putObj (w.heap.size+1) (.loop { G .ready none with state:=.busy })):=ag _ _ _ _ (by omega) S rfl rfl;have O:∀ (R:World) (o:Obj),(R.putObj (w.heap.size+1) o).heap.size=R.heap.size:=fun R o=>by simp[World.putObj]
   refine wpIn_mono (z _ F x W.heap.size _ (hI.putObj _ hi (by omega) S rfl) (ah.putObj (s:=(F,x)) _ ab (by omega) S rfl) (by omega) ((World.putObj_heap_other (by omega)).trans au)) ?_
   have fin:∀ (E:Option Code) (R:World),KeepsFrom w.heap.size (V.putObj (w.heap.size+1) (.loop { G .ready none with state:=.busy })) R ->
     (Instr.endRound (w.heap.size+1) E).run P R=.ok (.bool E.isNone) (R.putObj (w.heap.size+1) (.loop (G (if E.isNone then .ready else .done) E))) /\
     R.heap[w.heap.size+1]? = some (.loop { G .ready none with state:=.busy }) /\
     (R.putObj (w.heap.size+1) (.loop (G (if E.isNone then .ready else .done) E))).heap[w.heap.size+1]? = some (.loop (G (if E.isNone then .ready else .done) E)) /\
     (R.putObj (w.heap.size+1) (.loop (G (if E.isNone then .ready else .done) E))).heap[w.heap.size]? = some (.deferred (some [])):=fun E R J=>by
    have L:=J.same _ _ (by omega) ax rfl;have:=run_endRound (P:=P) E L;rw[H] at this ⊢;exact⟨this,by rw[H] at L;exact L,World.putObj_heap_same (Array.getElem?_eq_some_iff.1 L).1,(World.putObj_heap_other (by omega)).trans (J.same _ _ (Nat.le_refl _) aw rfl)⟩
   rintro e a3 R hp
   cases e with
   | normal =>
    obtain⟨J,ai,T⟩:=hp;obtain⟨N,L,X,U⟩:=fin none R J;exact⟨_,_,N,.inl ⟨rfl,⟨hI.putObj _ T (by omega) L rfl,X,U⟩,y (y (y an aA) ai) (ag _ _ _ _ (by omega) L rfl rfl),by rw[O];have u:=J.size;rw[O] at u;omega⟩⟩
   | ret =>
    obtain⟨J,T⟩:=hp;obtain⟨N,L,X,U⟩:=fin (some .ret) R J;exact⟨_,_,N,.inr ⟨rfl,⟨.ret,(j _).putObj _ T (by omega) L rfl,X,U⟩,by rw[O];have u:=J.size;rw[O] at u;omega⟩⟩
   | exit id =>
    obtain⟨J,T⟩:=hp;obtain⟨N,L,X,U⟩:=fin (some (.exit id)) R J;exact⟨_,_,N,.inr ⟨rfl,⟨.exit id,(j _).putObj _ T (by omega) L rfl,X,U⟩,by rw[O];have u:=J.size;rw[O] at u;omega⟩⟩
   | goto t =>
    obtain⟨J,T⟩:=hp;obtain⟨N,L,X,U⟩:=fin (some (.goto t)) R J;exact⟨_,_,N,.inr ⟨rfl,⟨.goto t,(j _).putObj _ T (by omega) L rfl,X,U⟩,by rw[O];have u:=J.size;rw[O] at u;omega⟩⟩
   | panic ch=>exact hp.elim
   | outgrown=>exact hp.elim
  ·rintro e W2 ⟨⟨v,rfl⟩,(⟨xs,aB,hi,S,f⟩ | ⟨F,aq,c,hi,S,f⟩)⟩
   ·exact⟨none,_,by have:=run_endLoop (P:=P) S (by rw[H];simp);rw[H] at this;exact this,aa _ xs _ (Nat.le_refl _) aB (hI.putObj _ hi (by omega) S rfl) ((World.putObj_heap_other (by omega)).trans f)⟩
   ·exact⟨some c,_,by have:=run_endLoop (P:=P) S (by rw[H];simp);rw[H] at this;exact this,wpIn_wide.2 (ac _ c F _ (Nat.le_refl _) aq ((j c).putObj _ hi (by omega) S rfl) ((World.putObj_heap_other (by omega)).trans f))⟩
section
attribute [local go_sem] Oper.semAt_some
theorem jfh (s:ByteArray) (w:World):Calls Tryz.prog 59 #[.string s] w fun e A=>e=.returned (.func (.func 84) #[] #[.pointer (some ⟨w.heap.size,0,none⟩)])/\A=w.alloc (.cells #[.string s] 9):=by
 go_enter Tryz.func59,Tryz.ntmps59;go_wp2;go_ret;exact⟨rfl,rfl⟩
structure Told where
 body:ByteArray
 left:ByteArray
 err:Value
def Told.enc (x:Told):Array Value:=#[.agg #[.string x.body,.string x.left],x.err]
def jcD (t:ByteArray) (x:Told) (W:World):Prop:=match rdF t.data.toList with
 | .got b r=>x.body=⟨b.toArray⟩/\x.left=⟨r.toArray⟩/\x.err=.nilIface
 | .err no=>x.body=⟨#[]⟩/\x.left=t/\Fr.FaultAt W x.err no
def jaF (s:ByteArray) (pre:List Told):ByteArray:=match pre.getLast? with
 | none=>s
 | some x=>x.left
theorem jbT (s:ByteArray) (A:List Told) (x:Told):jaF s (A++[x])=x.left:=by simp[jaF]
def NxE (s:ByteArray) (pre:List Told) (x:Told) (W:World):Prop:=jcD (jaF s pre) x W
def ji6 (xs:List Told):Prop:=∃ pre x,xs=pre++[x]/\x.err≠.nilIface
theorem jeB {W A:World} (h:Bw W A):W.grownBy A none:=⟨h.os,h.tape,h.output,h.size,fun k B _=>h.block k B⟩
def jiP (n b:Nat):World->World->Prop:=Kept (fun k=>k<n\/k=b)
def jgI (b:Nat) (W:World):Nat:=match W.cell? ⟨b,0,none⟩ with
 | some (.string t)=>t.size
 | _=>0
theorem jej {b:Nat} {W:World} {t:ByteArray} (h:Boxed W b 9 (.string t)):jgI b W=t.size:=by unfold jgI;rw[h.cell]
theorem je9 (b:Nat) (s:ByteArray) (fm ff:Addr) (w0 w:World) (hE:GF fm ff w0) (t:Bw w0 w) (z:w0.heap.size<=b) (P:Boxed w b 9 (.string s)) (hz:s.size<4294967281) :
  jcF Tryz.prog 84 #[.pointer (some ⟨b,0,none⟩)] Told.enc (jiP w0.heap.size b) b (NxE s) ji6 (fun _=>True) w:=by
 intro l J Jx W y hJ x hY h0;have aa:Boxed W b 9 (.string s):=(y.block _ P.lt).trans P;have u:Bw w0 W:=t.trans (y.mono t.size);have HJ:=Lib.hid hJ;have HY:=Lib.hid hY;clear P t y hJ x hY;refine callsIn_of_wp Tryz.func84 rfl trivial ?_ rfl;simp only[Tryz.ntmps84,List.size_toArray,List.length_cons,List.length_nil,Nat.reduceAdd,Nat.reduceSub,Array.replicate_succ,Array.replicate_zero,List.push_toArray,List.append_toArray,List.nil_append,List.cons_append];gi_wp2;gi_loopw [] (fun wr=>∃ (A:ByteArray) (C:List Told),Hid (Boxed wr b 9 (.string A))/\Hid (J C wr)/\Hid (A=jaF s C)/\Hid (Bw w0 wr)/\Hid (W.heap.size<=wr.heap.size)/\A.size<4294967281) (fun wr=>jgI b wr)
 case atStart=>exact⟨s,[],aa,h0,rfl,u,Nat.le_refl _,hz⟩
 case round =>
  obtain⟨A,C,R,c,f,M,V,ab⟩:=hrel;have c0:=R.out.cell;have HR:=Lib.hid (jc7 A fm ff wr ab (hE.below M.out));gi_wp2_with fail;refine⟨trivial,(callsIn_wide.2 HR.out).mono ?_⟩;rintro e T ⟨P,hp⟩;have N:J C T:=HJ.out _ _ _ none c.out (jeB P) (fun _ h=>by cases h) V.out;have E:W.heap.size<=T.heap.size:=Nat.le_trans V.out P.size;have F:Boxed T b 9 (.string A):=(P.block _ R.out.lt).trans R.out;have B:Bw w0 T:=M.out.trans (P.mono M.out.size);have S:=f.out;have D:A.data.toList.length=A.size:=Array.length_toList;obtain⟨o,X⟩:∃ o,rdF A.data.toList=o:=⟨_,rfl⟩;rw[X] at hp;clear HR c0 P c V M
  cases o with
  | got bd r =>
   obtain rfl:e=_:=hp;have g:NxE s C ⟨⟨bd.toArray⟩,⟨r.toArray⟩,.nilIface⟩ T:=by unfold NxE jcD;rw[<- S,X];exact⟨rfl,rfl,rfl⟩
   have G:=HY.out C _ T N g E;unfold Told.enc at G;dsimp only at G;obtain⟨fn,tmps,assign,body,G,U⟩:=G;have j:=jgt X;have d:jaF s (C++[⟨⟨bd.toArray⟩,⟨r.toArray⟩,.nilIface⟩])=⟨r.toArray⟩:=jbT s C _;have q:=Lib.hid d;have HX:=Lib.hid (And.intro F (And.intro B (And.intro E (And.intro D j))));clear g N E F B S D j X d;gi_wp2_with fail;refine U.mono ?_;rintro e i (⟨rfl,O,L,H⟩ | ⟨rfl,I,H⟩)
   ·obtain⟨F,B,E,D,j⟩:=HX.out
    have Q:Boxed i b 9 (.string A):=L.known (.inr rfl) F;have a:Bw w0 i:=B.trans (L.below (fun k hk=>.inl hk) B.size);have d0:=Q.cell;have d1:=Q.frozen;have n:=Lib.hid O;have m:=Lib.hid a;have Z:Hid (W.heap.size<=i.heap.size):=Nat.le_trans E H;have HM:Hid (r.length<A.size):=by rw[Hid];omega
    have Y:=Lib.hid Q;clear G U L H O a Q HX F B E D j;gi_wp2_with fail;refine⟨⟨⟨r.toArray⟩,_,Y.out.set _,HJ.out _ _ _ (some b) n.out (grownBy_setCell' _ _ _) (fun r e=>by cases e;rfl) Z.out,q.out.symm,m.out.setCell (p:=⟨b,0,none⟩) z _,?_,?_⟩,?_⟩
    ·rw[Hid,World.size_setCell];exact Z.out
    ·have:=HM.out;show r.toArray.size<_;rw[List.size_toArray];omega
    ·rw[jej (Y.out.set _),jej R.out];show r.toArray.size<_;rw[List.size_toArray];exact HM.out
   ·clear G U
    gi_wp2_with fail
    refine bodyPost_ret (results_none rfl _ _ _) rfl ?_;exact⟨⟨_,rfl⟩,.inr ⟨_,trivial,I⟩⟩
  | err no =>
   obtain⟨v,rfl,hf⟩:=hp;have g:NxE s C ⟨⟨#[]⟩,A,v⟩ T:=by unfold NxE jcD;rw[<- S,X];exact⟨rfl,rfl,hf⟩
   have G:=HY.out C _ T N g E;unfold Told.enc at G;dsimp only at G;obtain⟨fn,tmps,assign,body,G,U⟩:=G;obtain⟨fb,rfl,-⟩:=hf;clear g N E F B S D X;gi_wp2_with fail;refine U.mono ?_;rintro e i (⟨rfl,O,L,H⟩ | ⟨rfl,I,H⟩)
   ·clear G U L H
    gi_wp2_with fail
    refine bodyPost_ret (results_none rfl _ _ _) rfl ?_;exact⟨⟨_,rfl⟩,.inl ⟨_,⟨_,_,rfl,fun h=>by cases h⟩,O⟩⟩
   ·clear G U
    gi_wp2_with fail
    refine bodyPost_ret (results_none rfl _ _ _) rfl ?_;exact⟨⟨_,rfl⟩,.inr ⟨_,trivial,I⟩⟩
end
section
attribute [local go_sem] Oper.semAt_some
theorem jfH {α:Type} {P:Program} {g:Operand} {O:Array Tmp} {assign body:Code} {Q:Exit->Act->World->Prop} {a:Act} {w:World} (q r:Nat) (f:α->Value)
  {gf:Nat} {lb:Array Value} (y:a.eval g=.func (.func gf) #[] lb) (s:∀ args w,(callFunc gf args).run P w=.ok (.enter gf args) w)
  {E:α->Array Value} {H:World->World->Prop} {V:Nat} {Y:List α->α->World->Prop} {R S:List α->Prop} (U:jcF P gf lb E H V Y R S w) (j:OwnFrom w.heap.size (fun (p:List α × α) W=>Y p.1 p.2 W)) (Z:V<w.heap.size)
  (i:∀ {A B C:World},H A B->H B C->H A C) (e:∀ (W:World) (l:Nat) (o z:Obj),w.heap.size<=l->W.heap[l]? = some o->o.isCells=false->o.isWalk=false->H W (W.putObj l z)) (m:∀ x,(E x).size=O.size)
  (I:List α->World->Prop) (X:Code->List α->World->Prop) (b:OwnX w.heap.size V I) (T:∀ c,OwnX w.heap.size V (X c)) (u:I [] w) (J:α->Obj) (d:∀ (W:World) (o:Obj),H W (W.alloc o))
  (G:∀ (l:Nat) (x:α) (W:World) (K:Act->World->Prop),K { tmps:=(((O.zip (E x)).foldl (fun t (p,v)=>t.setIfInBounds p v) a.tmps).setIfInBounds q (.pointer (some ⟨W.heap.size,0,none⟩))).setIfInBounds r (f x),defers:=[] } (W.alloc (J x)) ->
   assign.wpIn (Fence.wide.inRound l) 7 P (Exit.then K (fun _ _ _=>False)) { tmps:=(O.zip (E x)).foldl (fun t (p,v)=>t.setIfInBounds p v) a.tmps,defers:=[] } W)
  (L:∀ (l:Nat) (F:List α) (x:α) (n:Nat) (W:World),I F W->Y F x W->w.heap.size+2<=n->W.heap[n]? = some (J x)->body.wpIn (Fence.wide.inRound l) 7 P (ownPostG w.heap.size H I X (F++[x]) W) { tmps:=(((O.zip (E x)).foldl (fun t (p,v)=>t.setIfInBounds p v) a.tmps).setIfInBounds q (.pointer (some ⟨n,0,none⟩))).setIfInBounds r (f x),defers:=[] } W)
  (M:∀ (D:Nat) (xs:List α) (W:World),w.heap.size<=D->R xs->I xs W->W.heap[D]? = some (.deferred (some []))->Q .normal { a with defers:={ target:=.collected D,args:=#[] }::a.defers } W)
  (N:∀ (D:Nat) (c:Code) (F:List α) (W:World),w.heap.size<=D->S F->X c F W->W.heap[D]? = some (.deferred (some []))->c.wp P Q { a with defers:={ target:=.collected D,args:=#[] }::a.defers } W) :
  (Code.rangeFunc g O assign body).wp P Q a w :=
 jgS y s U j Z (fun h k=>i h k) e m I X b T u J d (fun x k => { tmps:=(((O.zip (E x)).foldl (fun t (p,v)=>t.setIfInBounds p v) a.tmps).setIfInBounds q (.pointer (some ⟨k,0,none⟩))).setIfInBounds r (f x),defers:=[] }) G L M N
def jgW (s:ByteArray):List Value:=[.string s]
theorem jif:Tryz.prog.underlying 80=some (.slice 9):=by kernel_rfl
theorem jhS:(Tryz.prog.info? 9).map (fun i=>(i.zero,i.size,i.bytes))=some (some (.string ⟨#[]⟩),1,16):=by kernel_rfl
theorem jhN (l:List ByteArray):l.flatMap jgW=l.map Value.string:=by
 induction l with
 | nil=>rfl
 | cons x xs ih=>rw[List.flatMap_cons,ih];rfl
theorem jgn {w:World} {base e A n:Nat} {v:Value} {xs:List Value} (h:w.ownsRow base e A v n xs):∃ a cap,v=.slice a n cap:=by
 rcases h.2 with⟨rfl,rfl⟩ | ⟨g,cap,B,rfl,_⟩
 ·exact⟨none,0,rfl⟩
 ·exact⟨_,cap,rfl⟩
theorem jfw {X Y:World} {row:Option Nat} {n N:Nat} {v:Value} {k:Nat} {l:List Value} (h:X.ownsRow (n+6) 9 1 v k l) (F:X.grownBy Y row) (H:∀ r,row=some r->r=n+3\/(N<=r/\∃ o:Obj,X.heap[r]? = some o/\o.isCells=false)):Y.ownsRow (n+6) 9 1 v k l:=by
 refine h.kept F ?_;rcases h.2 with⟨rfl,_⟩ | ⟨g,cap,C,rfl,G,A,_⟩
 ·exact .inl rfl
 ·refine .inr (fun e=>?_)
  have D:row=some g:=by rw[<- e];rfl
  rcases H g D with h | ⟨_,o,B,E⟩
  ·omega
  ·rw[A] at B;cases B;cases E
def FrB (t:ByteArray) (no:Int) (l:List ByteArray) (n:Nat) (w:World) (v:Value) (W:World):Prop :=
 Boxed W n 80 v/\W.ownsRow (n+6) 9 1 v l.length (l.map Value.string)/\Boxed W (n+1) 9 (.string t)/\Boxed W (n+2) 27 (.int .i64 no)/\Below n w W
theorem jf9 {t:ByteArray} {C:Int} {l:List ByteArray} {n N:Nat} {w:World} (J:n<=w.heap.size) (I:n<=N) {v:Value} {X Y:World} {row:Option Nat} (h:FrB t C l n w v X) (A:X.grownBy Y row) (B:∀ r,row=some r->r=n+3\/(N<=r/\∃ o:Obj,X.heap[r]? = some o/\o.isCells=false)):FrB t C l n w v Y:=by
 obtain⟨D,E,F,G,H⟩:=h;exact⟨jdu N (n+3) n _ (fun _:Unit=>v) (by omega) () X Y row D A B,jfw E A B,jdu N (n+3) (n+1) _ (fun _:Unit=>.string t) (by omega) () X Y row F A B,jdu N (n+3) (n+2) _ (fun _:Unit=>.int .i64 C) (by omega) () X Y row G A B,jfv J I (by omega) () X Y row H A B⟩
theorem FrB.go {t:ByteArray} {F:Int} {l:List ByteArray} {n:Nat} {w W B:World} {v:Value} (h:FrB t F l n w v W) (A:Bw W B) (J:n<=W.heap.size):FrB t F l n w v B:=by
 obtain⟨C,G,D,E,H⟩:=h;exact⟨jc5 A C.lt C,jc1 G (fun j _ I=>A.block j I),jc5 A D.lt D,jc5 A E.lt E,H.trans (A.mono J)⟩
def FrI (s:ByteArray) (n:Nat) (w:World) (pre:List Told) (W:World):Prop:=(∀ x∈pre,x.err=.nilIface)/\Pfx s.data.toList (pre.map (·.body.data.toList)) (jaF s pre).data.toList/\pre.length+(jaF s pre).size<=s.size/\∃ v,FrB s 20 (pre.map (·.body)) n w v W
def FrX (s:ByteArray) (n:Nat) (w:World) (c:Code) (_:List Told) (W:World):Prop:=c=.exit 0/\∃ v l t no,Frames s.data.toList (l.map (·.data.toList)) t.data.toList no/\FrB t no l n w v W
theorem jhQ {s:ByteArray} {n N:Nat} {w:World} (G:n<=w.heap.size) (E:n<=N):OwnX N (n+3) (FrI s n w):=fun J X Y row I F H=>by
 obtain⟨A,B,C,v,D⟩:=I;exact⟨A,B,C,v,jf9 G E D F H⟩
theorem jhR {s:ByteArray} {n N:Nat} {w:World} (F:n<=w.heap.size) (D:n<=N) (c:Code):OwnX N (n+3) (FrX s n w c):=fun J X Y row H E G=>by
 obtain⟨A,v,l,t,I,B,C⟩:=H;exact⟨A,v,l,t,I,B,jf9 F D C E G⟩
theorem jfp {u:ByteArray} {B:Nat} {x:Told} {X Y:World} {row:Option Nat} (C:jcD u x X) (J:X.grownBy Y row) (L:∀ r,row=some r->B<=r/\∃ o:Obj,X.heap[r]? = some o/\o.isCells=false):jcD u x Y:=by
 unfold jcD at C ⊢
 cases A:rdF u.data.toList with
 | got b r=>rw[A] at C;exact C
 | err no =>
  rw[A] at C;obtain⟨F,G,E,H,D⟩:=C;refine⟨F,G,E,H,(J.block _ (Array.getElem?_eq_some_iff.1 D).1 (fun e=>?_)).trans D⟩;obtain⟨_,o,A,I⟩:=L E e.symm;rw[D] at A
  cases A
  cases I
theorem jiz (s:ByteArray) (B:Nat):OwnFrom B (fun (p:List Told × Told) W=>NxE s p.1 p.2 W):=fun _ _ _ _ D A C=>jfp (B:=B) D A C
def ji4 (s:ByteArray) (w:World) (e:Ending) (w':World):Prop:=∃ (l:List ByteArray) (t:ByteArray) (no:Int) (a:Option Addr) (cap:Nat),e=.returned (.tuple #[.slice a l.length cap,.string t,.int .i64 no])/\Frames s.data.toList (l.map (·.data.toList)) t.data.toList no/\SlE jgW 1 w'.heap.size w' a l.length l/\Bw w w'
theorem jfQ {W E:World} {B base e C n:Nat} {v:Value} {xs:List Value} (A:W.ownsRow base e C v n xs) (J:W.heap.size<=E.heap.size) (G:∀ k,k<W.heap.size->some k≠v.ownBlock->E.heap[k]? = W.heap[k]?):KeepsFrom B W E :=
 ⟨J,fun k o _ D I=>by
  refine (G k (Array.getElem?_eq_some_iff.1 D).1 (fun e=>?_)).trans D;rcases A.2 with⟨rfl,_⟩ | ⟨g,cap,F,rfl,_,H,_⟩
  ·cases e
  ·have:k=g:=by cases e;rfl
   subst this;rw[H] at D;cases D;cases I⟩
attribute [-go_sem] Builtin.append_
theorem jhI (s:ByteArray) (fm ff:Addr) (w:World) (hz:s.size<4294967281) (hE:GF fm ff w) (hT:Fr.GT w):Calls Tryz.prog 29 #[.string s] w (ji4 s w):=by
 refine jbS Tryz.func29 rfl ?_;simp only[Tryz.ntmps29,List.size_toArray,List.length_cons,List.length_nil,Nat.reduceAdd,Nat.reduceSub,Array.replicate_succ,Array.replicate_zero,List.push_toArray,List.append_toArray,List.nil_append,List.cons_append];go_wp2_with fail;go_step3;go_wp2_with fail;go_step3;go_wp2_with (go_at_call 59;refine (jfh _ _).mono ?_;rintro e w' ⟨rfl,rfl⟩);obtain⟨X,hX,b0,b1,b2,i,ad⟩:=ji9 w (.slice none 0 0) 80 (.string s) 9 (.int .i64 20) 27;rw[hX];clear hX;obtain⟨W0,ab,hd,C,ai⟩:=jab X #[.string s] 9;rw[ab];rw[ad] at hd ai;have b:=jc5 C b0.lt b0;have d:=jc5 C b1.lt b1;have f:=jc5 C b2.lt b2;have P:Bw w W0:=i.trans (C.mono i.size);have aj:=hT;clear ab b0 b1 b2 i C ad
 refine jfH 8 9 Told.err (gf:=84) (lb:=#[.pointer (some ⟨w.heap.size+3,0,none⟩)]) rfl (enters_of Tryz.func84 (by kernel_rfl) rfl)
  (je9 (w.heap.size+3) s fm ff w W0 hE P (by omega) hd hz) (jiz s _) (by omega) (fun h k=>h.trans k) (fun W l o o' hl T hc hw => ?kb) (fun _=>rfl) (FrI s w.heap.size w) (FrX s w.heap.size w) (jhQ (Nat.le_refl _) (by omega)) (jhR (Nat.le_refl _) (by omega))
  ⟨(fun x hx=>by cases hx),(fun l t Z h=>h),(by show 0+s.size<=_;omega),_,b,World.ownsRow_nil _ _ _ _,d,f,P⟩ (fun x=>.cells #[.string x.body,.string x.left] 141 (0,0)) (fun W o => ?ka) ?assign ?body ?done ?stop
 case kb=>exact⟨rfl,rfl,rfl,by simp[World.putObj],fun k hk hq=>World.putObj_heap_other (by omega)⟩
 case ka=>exact Kept.of ((Below.refl _ W).alloc (Nat.le_refl _) _)
 case assign =>
  rintro l x W K hK;simp only[Told.enc,List.zip_toArray,List.zip_cons_cons,List.zip_nil_right,List.size_toArray,List.foldl_toArray',List.foldl_cons,List.foldl_nil,List.setIfInBounds_toArray,List.set_cons_succ,List.set_cons_zero] at hK ⊢;gi_wp2_with fail;exact hK
 case body =>
  rintro lo B x nb W ⟨I,z,hL,v,A⟩ S al M;simp only[Told.enc,List.zip_toArray,List.zip_cons_cons,List.zip_nil_right,List.size_toArray,List.foldl_toArray',List.foldl_cons,List.foldl_nil,List.setIfInBounds_toArray,List.set_cons_succ,List.set_cons_zero];obtain⟨va,vc,rfl⟩:=jgn A.2.1;have ak:=(Array.getElem?_eq_some_iff.1 M).1;unfold NxE jcD at S;obtain⟨xb,xl,xe⟩:=x;obtain⟨o,T⟩:∃ o,rdF (jaF s B).data.toList=o:=⟨_,rfl⟩;rw[T] at S;clear hd b d f P
  cases o with
  | got bd r =>
   obtain⟨e1,e2,y⟩:=S;dsimp only at e1 e2 y M ⊢;subst e1 e2 y;have hr:=jgt T;have O:(jaF s B).data.toList.length=(jaF s B).size:=Array.length_toList;have n:(⟨r.toArray⟩:ByteArray).size=r.length:=List.size_toArray;have p0:W.cell? ⟨nb,0,none⟩=some (.string ⟨bd.toArray⟩):=cCc M 0;have z0:=A.1.cell;obtain⟨g,J,w4,ac,G,C,q,E,H⟩:=jam Tryz.prog 80 jif jhS rfl (by decide) A.2.1 A.2.2.2.2 (by omega) (by omega) [.string ⟨bd.toArray⟩] rfl (by simp[Value.oneCell']) (by rw[List.length_map];omega) (by decide);have u:Boxed w4 w.heap.size 80 _:=(E _ (by omega)).trans A.1;have z1:=u.cell;have z2:=u.frozen;simp only[List.length_map] at z0 z1 ac G;have ae:=Lib.hid (And.intro I (And.intro z (And.intro hL (And.intro A (And.intro T (And.intro hr (And.intro O (And.intro n (And.intro G (And.intro C (And.intro q (And.intro E (And.intro H u)))))))))))));clear I z hL A T hr O n G C q E H u;gi_wp2_with (gi_at_builtin;refine jc2 rfl _ _ _ rfl rfl rfl ac ?_);obtain⟨I,z,hL,A,T,hr,O,n,G,C,q,E,H,u⟩:=ae.out
   have ag:FrB s 20 (B.map (·.body)++[⟨bd.toArray⟩]) w.heap.size w (.slice (some ⟨g,0,none⟩) (B.length+1) J) (w4.setCell ⟨w.heap.size,0,none⟩ (.slice (some ⟨g,0,none⟩) (B.length+1) J)):=by
    refine⟨u.set _,?_,?_,?_,C.setCell (p:=⟨w.heap.size,0,none⟩) (Nat.le_refl _) _⟩
    ·have hq:=ownsRow_setCell_below G (a:=⟨w.heap.size,0,none⟩) (by show w.heap.size<_;omega) (.slice (some ⟨g,0,none⟩) (B.length+1) J)
     simpa using hq
    ·exact (Below.heap_setCell _ _ _ _ (by show w.heap.size+1≠w.heap.size;omega)).trans ((E _ (by omega)).trans A.2.2.1)
    ·exact (Below.heap_setCell _ _ _ _ (by show w.heap.size+2≠w.heap.size;omega)).trans ((E _ (by omega)).trans A.2.2.2.1)
   refine⟨(jfQ A.2.1 (by omega) H).trans ((KeepsOthers.setCell _ _ _).from _),Kept.set ⟨C.os.trans A.2.2.2.2.os.symm,C.tape.trans A.2.2.2.2.tape.symm,C.output.trans A.2.2.2.2.output.symm,by omega,fun k hk hq=>E k (by omega)⟩ (fun _=>by omega) 0 _,?_,?_,?_,.slice (some ⟨g,0,none⟩) (B.length+1) J,?_⟩
   ·intro x hx
    rcases List.mem_append.1 hx with h | h
    ·exact I x h
    ·rw[List.mem_singleton.1 h]
   ·rw[jbT,List.map_append]
    exact z.snoc T
   ·rw[jbT,List.length_append]
    show B.length+1+(⟨r.toArray⟩:ByteArray).size<=_;omega
   ·rw[List.map_append]
    exact ag
  | err Z =>
   obtain⟨e1,e2,y⟩:=S;dsimp only at e1 e2 y M ⊢;subst e1 e2;obtain⟨D,Q⟩:∃ D,W.drew=D:=⟨_,rfl⟩;have m:∀ k:Nat,D.heap[k]? = W.heap[k]? := fun k=>by rw[<- Q];rfl
   have af:D.heap.size=W.heap.size:=by rw[<- Q];rfl
   have j:Bw w D:=by rw[<- Q];exact A.2.2.2.2.drew
   have U:FrB s 20 (B.map (·.body)) w.heap.size w (.slice va (B.map (·.body)).length vc) D:=A.go (by rw[<- Q];exact (Below.refl _ W).drew) A.2.2.2.2.size;have hC:=Fr.errno_fault xe Z D (j.cell (p:=⟨0,0,none⟩) (by have:=hE.lt;show 0<_;omega) |>.trans hT) (by obtain⟨fb,h1,h2⟩:=y;exact⟨fb,h1,(m fb).trans h2⟩);have N:D.heap[nb]? = some (.cells #[.string ⟨#[]⟩,.string (jaF s B)] 141 (0,0)):=(m nb).trans M;have p0:D.cell? ⟨nb,1,none⟩=some (.string (jaF s B)):=cCc N 1
   have HQ:Hid (∀ L,Bw D L->L.cell? ⟨nb,1,none⟩=some (.string (jaF s B))/\(L.cell? ⟨w.heap.size+1,0,none⟩=some (.string s)/\L.frozen? ⟨w.heap.size+1,0,none⟩=false)/\((L.setCell ⟨w.heap.size+1,0,none⟩ (.string (jaF s B))).cell? ⟨w.heap.size+1+1,0,none⟩=some (.int .i64 20)/\(L.setCell ⟨w.heap.size+1,0,none⟩ (.string (jaF s B))).frozen? ⟨w.heap.size+1+1,0,none⟩=false) /\
     Hid (KeepsFrom W0.heap.size W ((L.setCell ⟨w.heap.size+1,0,none⟩ (.string (jaF s B))).setCell ⟨w.heap.size+1+1,0,none⟩ (.int .i64 Z))/\FrX s w.heap.size w (.exit 0) (B++[⟨⟨#[]⟩,jaF s B,xe⟩]) ((L.setCell ⟨w.heap.size+1,0,none⟩ (.string (jaF s B))).setCell ⟨w.heap.size+1+1,0,none⟩ (.int .i64 Z)))):=fun L R=>by
    have h:=U.go R j.size;obtain⟨i1,i2,i3,i4,i5⟩:=h;have j4:Boxed (L.setCell ⟨w.heap.size+1,0,none⟩ (.string (jaF s B))) (w.heap.size+2) 27 (.int .i64 20):=i4.other (by omega) _;refine⟨cCc (known R (Nat.le_refl _) N) 1,⟨i3.cell,i3.frozen⟩,⟨j4.cell,j4.frozen⟩,?_,rfl,.slice va (B.map (·.body)).length vc,B.map (·.body),jaF s B,Z,?_,?_⟩
    ·refine KeepsFrom.trans (KeepsFrom.trans ?_ ((KeepsOthers.setCell _ _ _).from _)) ((KeepsOthers.setCell _ _ _).from _)
     have ah:KeepsFrom W0.heap.size W D:=by rw[<- Q];exact (KeepsOthers.drew _).from _
     exact ah.trans (jio R (Nat.le_refl _))
    ·rw[List.map_map];exact z.stop T
    ·refine⟨(i1.other (by omega) _).other (by omega) _,?_,(i3.set _).other (by omega) _,j4.set _,(i5.setCell (p:=⟨w.heap.size+1,0,none⟩) (by show w.heap.size<=w.heap.size+1;omega) _).setCell (p:=⟨w.heap.size+1+1,0,none⟩) (by show w.heap.size<=w.heap.size+1+1;omega) _⟩
     exact ownsRow_setCell_below (ownsRow_setCell_below i2 (a:=⟨w.heap.size+1,0,none⟩) (by show w.heap.size+1<_;omega) _) (a:=⟨w.heap.size+1+1,0,none⟩) (by show w.heap.size+1+1<_;omega) _
   obtain⟨fb,rfl,-⟩:=y;have HC:=Lib.hid hC;have HD:=Lib.hid Q;obtain⟨aa,V⟩:∃ aa,jaF s B=aa:=⟨_,rfl⟩;rw[V] at p0 HQ M ⊢;clear hC Q m af j U N A I z hL T V;gi_wp2_with fail;refine jch (F:=Fence.wide) rfl (by kernel_rfl) (by kernel_rfl) ?_;change wpAnyIn _ _ _ _ _ _ _ _ _ (World.drew _);rw[HD.out]
   ·
    refine tai 0 ?_;refine tai 2 ?_;refine rdi [1,3] (.cons rfl (fun K hK=>?_) (.cons rfl (fun K hK=>?_) .nil))
    all_goals go_simp
    all_goals first
     |
      refine⟨trivial,(callsIn_wide.2 HC.out).mono ?_⟩;rintro e L ⟨rfl,R⟩;obtain⟨p1,⟨q1,q2⟩,⟨q3,q4⟩,HF⟩:=HQ.out L R;clear R;refine hK _ _ ?_;clear hK K
     | (refine hK _ _ ?_;clear hK K)
    all_goals first
     | (refine rqi [3] (.cons rfl (fun K hK=>?_) .nil))
     | (refine rqi [1] (.cons rfl (fun K hK=>?_) .nil))
    all_goals go_simp
    all_goals first
     |
      refine⟨trivial,(callsIn_wide.2 HC.out).mono ?_⟩;rintro e L ⟨rfl,R⟩;obtain⟨p1,⟨q1,q2⟩,⟨q3,q4⟩,HF⟩:=HQ.out L R;clear R;refine hK _ _ ?_;clear hK K
     | (refine hK _ _ ?_;clear hK K)
    all_goals (refine rdi [4] (.cons rfl (fun K hK=>?_) .nil))
    all_goals go_simp
    all_goals (refine hK _ _ ?_;clear hK K)
    all_goals (refine rdi [5] (.cons rfl (fun K hK=>?_) .nil))
    all_goals go_simp
    all_goals (refine hK _ _ ?_;clear hK K)
    all_goals (refine wpAnyIn_done (by kernel_rfl) ?_ _)
    all_goals
     gi_wp2_with fail
     exact HF.out
 case done =>
  rintro D xs W Q ⟨B,x,rfl,hx⟩ ⟨I,-⟩ hK;exact absurd (I x (by simp)) hx
 case stop =>
  rintro D c B W Q - ⟨rfl,v,l,t,Z,hF,A⟩ hK;refine wp_exit ?_;unfold Exit.inBlock;dsimp only;rw[if_pos rfl];obtain⟨va,vc,rfl⟩:=jgn A.2.1;have z0:=A.1.cell;have z1:=A.2.2.1.cell;have z2:W.cell? ⟨w.heap.size+1+1,0,none⟩=some (.int .i64 Z):=A.2.2.2.1.cell;have HO:=Lib.hid (And.intro hF A);have HK:=Lib.hid hK;clear hF A hd b d f P hK;go_wp2_with fail;go_quiet (fail);go_wp2_with fail;rw[Exit.noGoto_ret];have hN:Bw W (W.drewN nq):=bDr (Below.refl _ _) nq;have hK:=known hN (Nat.le_refl _) HK.out;have A:=HO.out.2.go hN HO.out.2.2.2.2.2.size;have Y:=ownsRow_putObj A.2.1 (.deferred none) hK rfl;rw[<- jhN] at Y;obtain⟨a,cap,hv,hS,-⟩:=jeP (enc:=jgW) (fun _=>rfl) Y
  cases hv
  refine jaC hK (results_tmp3 rfl _ _ _) ⟨l,t,Z,va,vc,rfl,HO.out.1,hS.1,jcZ A.2.2.2.2 (by omega) hK⟩
theorem jgU (s:ByteArray) (b r:List UInt8) (F E:Addr) (w:World) (H:s.size<4294967281) (G:GF F E w) (h:rdF s.data.toList=.got b r):CR 26 #[.string s] w (.tuple #[.string ⟨b.toArray⟩,.string ⟨r.toArray⟩,.int .i64 0]):=by
 have B:=jc7 s F E w H G;unfold ReadP at B;rw[h] at B;have J:=Lib.hid B;have I:=Lib.hid fun V=>Fr.errno_nil V
 clear B h G H;go_enter Tryz.func26,Tryz.ntmps26;go_wp2_with fail;refine J.out.mono ?_;rintro e M ⟨A,rfl⟩;have D:=Lib.hid A;clear A;go_wp2_with fail;refine (I.out _).mono ?_;rintro e L ⟨rfl,A⟩;have C:Hid (Bw w L):=D.out.trans (A.mono D.out.size);clear A;go_wp2_with fail;go_ret3;exact⟨rfl,C.out⟩
end
structure Ln where
 tnt:Int
 role:Int
 till:Int
 known:Bool
 closed:Bool
 left:ByteArray
def ln0:Ln:=⟨0,0,0,false,false,⟨#[]⟩⟩
def lnX:Ln:=⟨0,0,0,false,true,⟨#[]⟩⟩
def jdf (c:Value) (a b d:Ln):Array Value:=#[c,.int .u64 a.tnt,.int .i64 a.role,.int .u64 a.till,.bool a.known,.bool a.closed,.string a.left,.int .u64 b.tnt,.int .i64 b.role,.int .u64 b.till,.bool b.known,.bool b.closed,.string b.left,.int .u64 d.tnt,.int .i64 d.role,.int .u64 d.till,.bool d.known,.bool d.closed,.string d.left,.int .u64 0,.int .i64 0,.int .u64 0,.bool false,.bool false,.string ⟨#[]⟩,.int .u64 0,.int .i64 0,.int .u64 0,.bool false,.bool false,.string ⟨#[]⟩,.int .u64 0,.int .i64 0,.int .u64 0,.bool false,.bool false,.string ⟨#[]⟩,.int .u64 0,.int .i64 0,.int .u64 0,.bool false,.bool false,.string ⟨#[]⟩,.int .u64 0,.int .i64 0,.int .u64 0,.bool false,.bool false,.string ⟨#[]⟩,.int .u64 0,.int .i64 0,.int .u64 0,.bool false,.bool false,.string ⟨#[]⟩,.int .u64 0,.int .i64 0,.int .u64 0,.bool false,.bool false,.string ⟨#[]⟩,.int .u64 0,.int .i64 0,.int .u64 0,.bool false,.bool false,.string ⟨#[]⟩,.int .u64 0,.int .i64 0,.int .u64 0,.bool false,.bool false,.string ⟨#[]⟩,.int .u64 0,.int .i64 0,.int .u64 0,.bool false,.bool false,.string ⟨#[]⟩,.int .u64 0,.int .i64 0,.int .u64 0,.bool false,.bool false,.string ⟨#[]⟩,.int .u64 0,.int .i64 0,.int .u64 0,.bool false,.bool false,.string ⟨#[]⟩,.int .u64 0,.int .i64 0,.int .u64 0,.bool false,.bool false,.string ⟨#[]⟩]
def WireAt (W:World) (b:Nat) (c:Value) (l m n:Ln):Prop:=W.heap[b]? = some (.cells (jdf c l m n) 78 (0,0))
theorem jeR (c:Addr) (w:World):Calls Tryz.prog 7 #[.pointer (some c)] w fun e D=>e=.returned (.tuple #[.pointer (some ⟨w.heap.size,0,none⟩),.int .i64 0])/\WireAt D w.heap.size (.pointer (some c)) ln0 ln0 ln0/\Bw w D:=by
 obtain⟨W,G,B,A,-⟩:=jab w (jdf (.pointer (some c)) ln0 ln0 ln0) 78;have C:jdf (.pointer (some c)) ln0 ln0 ln0=Tryz.zeroCells78.setIfInBounds 0 (.pointer (some c)):=by kernel_rfl
 have F:=Lib.hid B;have E:=Lib.hid A;rw[C] at G;clear B A C;go_enter Tryz.func7,Tryz.ntmps7;go_wp2_with fail;go_ret2;exact⟨rfl,F.out,E.out⟩
theorem jbH (a:Addr) (w:World):Calls Tryz.prog 27 #[.pointer (some a)] w fun e A=>e=.returned (.bool false)/\A=w:=by
 go_enter Tryz.func27,Tryz.ntmps27;go_wp2_with fail;go_ret;exact⟨rfl,rfl⟩
theorem jbB (n:Int) (w:World):Calls Tryz.prog 28 #[.int .i64 n] w fun e A=>e=.returned (.bool (decide (0<=n)&&decide (n<16)))/\A=w:=by
 by_cases h:0<=n
 ·go_enter Tryz.func28,Tryz.ntmps28
  go_wp2_with fail;go_ret;exact⟨by simp[h],rfl⟩
 ·go_enter Tryz.func28,Tryz.ntmps28
  go_wp2_with fail;go_ret;exact⟨by rw[decide_eq_false (by omega:¬ 0<=n)];rfl,rfl⟩
theorem WireAt.at0 {W:World} {b:Nat} {c:Value} {l m n:Ln} (h:WireAt W b c l m n):W.cell? ⟨b,1,none⟩=some (.int .u64 l.tnt)/\W.cell? ⟨b,2,none⟩=some (.int .i64 l.role)/\W.cell? ⟨b,3,none⟩=some (.int .u64 l.till)/\W.cell? ⟨b,4,none⟩=some (.bool l.known)/\W.cell? ⟨b,5,none⟩=some (.bool l.closed)/\W.cell? ⟨b,6,none⟩=some (.string l.left) :=
 ⟨cCc h 1,cCc h 2,cCc h 3,cCc h 4,cCc h 5,cCc h 6⟩
theorem ji0 (b:Nat) (c:Value) (l m n:Ln) (w:World) (h:WireAt w b c l m n):CR 12 #[.pointer (some ⟨b,0,none⟩),.int .i64 0] w (.bool (!l.closed)):=by
 obtain⟨-,-,-,-,c4,-⟩:=h.at0;have B:=Lib.hid fun V=>jbH ⟨b,0,none⟩ V
 have A:=Lib.hid fun V=>jbB 0 V
 clear h;go_enter Tryz.func12,Tryz.ntmps12;go_wp2_with fail;refine (B.out _).mono ?_;rintro e C ⟨rfl,rfl⟩;go_wp2_with fail;refine (A.out _).mono ?_;rintro e D ⟨rfl,rfl⟩;go_wp2_with fail;go_ret;exact⟨rfl,Below.refl _ _⟩
theorem WireAt.at1 {W:World} {b:Nat} {c:Value} {l m n:Ln} (h:WireAt W b c l m n):W.cell? ⟨b,7,none⟩=some (.int .u64 m.tnt)/\W.cell? ⟨b,8,none⟩=some (.int .i64 m.role)/\W.cell? ⟨b,9,none⟩=some (.int .u64 m.till)/\W.cell? ⟨b,10,none⟩=some (.bool m.known)/\W.cell? ⟨b,11,none⟩=some (.bool m.closed)/\W.cell? ⟨b,12,none⟩=some (.string m.left) :=
 ⟨cCc h 7,cCc h 8,cCc h 9,cCc h 10,cCc h 11,cCc h 12⟩
theorem ji1 (b:Nat) (c:Value) (l m n:Ln) (w:World) (h:WireAt w b c l m n):CR 12 #[.pointer (some ⟨b,0,none⟩),.int .i64 1] w (.bool (!m.closed)):=by
 obtain⟨-,-,-,-,c4,-⟩:=h.at1;have B:=Lib.hid fun V=>jbH ⟨b,0,none⟩ V
 have A:=Lib.hid fun V=>jbB 1 V
 clear h;go_enter Tryz.func12,Tryz.ntmps12;go_wp2_with fail;refine (B.out _).mono ?_;rintro e C ⟨rfl,rfl⟩;go_wp2_with fail;refine (A.out _).mono ?_;rintro e D ⟨rfl,rfl⟩;go_wp2_with fail;go_ret;exact⟨rfl,Below.refl _ _⟩
end Go.Proofs.YtlmlcadcdhhlcaaGreatDoor
