/- Package label: Text. Package label over slices by their elements: Right, Text. aviarylaw04.Few over slices by their elements. aviarylaw12: One: printed by wip/tools/gen_f8.py. Tables of series in memory. series.rightSeries, series.Right. series.Right. series.Find. -/
import Derived.Test.YtnegciklhanmbaaGreatDoorZPA
set_option maxHeartbeats 4000000
set_option maxRecDepth 100000
namespace Go.Proofs.YtnegciklhanmbaaGreatDoor
open Go Go.RowKit
section
open Go.Shelf
attribute [local go_sem] Oper.semAt_some
attribute [-go_sem] Builtin.append_
def jc6 (x:Lab):ByteArray:=x.name++(⟨#[61]⟩:ByteArray)++⟨(ja2 (rl x.value 0)).toArray⟩
def jjS (ls:List Lab):ByteArray:=⟨(Lib.join ((ls.map jc6).map (·.data.toList)) [44]).toArray⟩
theorem jks:Tryz.prog.underlying 190=some (.slice 9):=by kernel_rfl
theorem jjM:(Tryz.prog.info? 9).map (fun i=>(i.zero,i.size,i.bytes))=some (some (.string ⟨#[]⟩),1,16):=by kernel_rfl
def jtZ (s:ByteArray):List Value:=[.string s]
theorem jbD {w:World} {A e size n:Nat} {v:Value} {xs:List Value} (h:w.ownsRow A e size v n xs):∃ a cap,v=.slice a n cap:=by
 rcases h.2 with⟨rfl,rfl⟩ | ⟨g,cap,B,rfl,_⟩
 ·exact⟨none,0,rfl⟩
 ·exact⟨_,cap,rfl⟩
theorem jp6 {W E:World} {B A e size n:Nat} {v:Value} {xs:List Value} (C:W.ownsRow A e size v n xs) (J:W.heap.size<=E.heap.size) (G:∀ k,k<W.heap.size->some k≠v.ownBlock->E.heap[k]? = W.heap[k]?):KeepsFrom B W E :=
 ⟨J,fun k o _ D I=>by
  refine (G k (Array.getElem?_eq_some_iff.1 D).1 (fun e=>?_)).trans D;rcases C.2 with⟨rfl,_⟩ | ⟨g,cap,F,rfl,_,H,_⟩
  ·cases e
  ·have:k=g:=by cases e;rfl
   subst this;rw[H] at D;cases D;cases I⟩
theorem jjO (A:List UInt8) (M:Nat) (xs:List (List UInt8)) (h:∀ x∈xs,x.length<=M):(Lib.join xs A).length<=xs.length*(M+A.length):=by
 have ht:∀ r:List (List UInt8),(∀ x∈r,x.length<=M)->(Lib.joinTail A r).length<=r.length*(M+A.length):=by
  intro r
  induction r with
  | nil=>intro _;simp[Lib.joinTail]
  | cons x r ih =>
   intro hr;have C:=ih (fun y B=>hr y (List.mem_cons_of_mem _ B));have D:=hr x (List.mem_cons_self ..);simp only[Lib.joinTail,List.map_cons,List.flatten_cons,List.length_append,List.length_cons,Nat.add_mul] at C ⊢;omega
 cases xs with
 | nil=>simp[Lib.join_nil]
 | cons x r =>
  have C:=ht r (fun y B=>h y (List.mem_cons_of_mem _ B));have D:=h x (List.mem_cons_self ..);rw[Lib.join_cons,List.length_append,List.length_cons,Nat.add_mul];omega
theorem jhK (u:jif):(jc6 u.1).data.toList.length<=30064770967:=by
 have A:=u.2.1;have B:=u.2.2;have C:=jd5 (rl u.1.value 0);have D:=jvz u.1.value 0
 have e:(jc6 u.1).size=u.1.name.size+1+(ja2 (rl u.1.value 0)).length:=by
  simp[jc6,ByteArray.size_append];rfl
 rw[<- Lib.size_eq,e];omega
def jdx (pre:List jif):List ByteArray:=(pre.map (·.1)).map jc6
theorem jni (A:List jif):(jdx A).length=A.length:=by simp[jdx]
def jvX (n N:Nat) (w:World) (pre:List jif) (W:World):Prop :=
 ∃ v,Boxed W n 190 v/\W.ownsRow N 9 1 v pre.length ((jdx pre).flatMap jtZ)/\Bw w W
theorem jsw {n N:Nat} {w:World} (O:w.heap.size<=n) (M:n<N):OwnFrom N (jvX n N w):=fun s X Y row L A hr=>by
 obtain⟨v,G,C,H⟩:=L;refine⟨v,jc9 N n _ (fun _:Unit=>v) () X Y row G A hr,C.kept A ?_,ownFrom_below (Nat.le_refl _) (by omega) () X Y row H A hr⟩;rcases C.2 with⟨rfl,_⟩ | ⟨g,cap,E,rfl,J,B,_⟩
 ·exact .inl rfl
 ·refine .inr (fun e=>?_)
  have F:row=some g:=by rw[<- e];rfl
  obtain⟨_,o,D,I⟩:=hr g F;rw[B] at D;cases D;cases I
theorem jgV (i:Option Addr) (cap:Nat) (M:List jif) (w:World) (hL:Labs w.heap.size w (.slice i M.length cap) (M.map (·.1))) (hG:GW w) (h3:M.length<4294967281) (q:jai (M.map (·.1))=true) :
  CR 58 #[.slice i M.length cap] w (.tuple #[.string (jjS (M.map (·.1))),.int .i64 0]):=by
 refine jaq Tryz.func58 rfl ?_;simp only[Tryz.ntmps58,List.size_toArray,List.length_cons,List.length_nil,Nat.reduceAdd,Nat.reduceSub,Array.replicate_succ,Array.replicate_zero,List.push_toArray,List.append_toArray,List.nil_append,List.cons_append];have al:=hG;go_wp2_with (first | (go_at_call 73;refine (jbf i cap M _ hL hG h3).mono ?_;rw[q];rintro e E ⟨rfl,f⟩) | (go_at_call 94;refine (jjB _ _ _ _).mono ?_;rintro e w' ⟨rfl,rfl⟩));have bR:=Boxed.new E 190 (.slice none 0 0);have bN:=Boxed.new (E.alloc (.cells #[.slice none 0 0] 190)) 88 (.slice i M.length cap);have d:Bw w ((E.alloc (.cells #[.slice none 0 0] 190)).alloc (.cells #[.slice i M.length cap] 88)):=(f.alloc f.size _).alloc (by have:=f.size;simp;omega) _;simp only[World.size_alloc] at bN;have s:=bR.alloc (.cells #[.slice i M.length cap] 88);have ag:((E.alloc (.cells #[.slice none 0 0] 190)).alloc (.cells #[.slice i M.length cap] 88)).heap.size=E.heap.size+2:=by simp
 generalize ((E.alloc (.cells #[.slice none 0 0] 190)).alloc (.cells #[.slice i M.length cap] 88))=W0 at s bN d ag ⊢;clear bR;have ah:=f.size
 refine jeI 93 (fun x:jif=>#[.string x.1.name,.string x.1.value]) 5 (gf:=182) (lb:=#[.pointer (some ⟨E.heap.size+1,0,none⟩)]) rfl (enters_of Tryz.func182 (by kernel_rfl) rfl)
  (jgu (E.heap.size+1) w.heap.size _ M h3 W0 (by omega) (by omega) bN.cell (SlAt.below d hL)) (by omega) (Below.refl _ _) (fun _=>rfl)
  (jvX E.heap.size W0.heap.size w) (fun _ _ _=>False) (jsw (by omega) (by omega)) (fun c=>fun _ _ _ _ h=>h.elim)
  ⟨_,s,World.ownsRow_nil _ _ _ _,d⟩ ?assign ?body ?done ?stop
 case assign =>
  rintro l I x W K ⟨v,S,Z,k2⟩ hs hK;simp only[List.zip_toArray,List.zip_cons_cons,List.zip_nil_right,List.size_toArray,List.foldl_toArray',List.foldl_cons,List.foldl_nil,List.setIfInBounds_toArray,List.set_cons_succ,List.set_cons_zero] at hK ⊢;gi_wp2;exact⟨v,S.alloc _,Z.alloc _,k2.alloc k2.size _⟩
 case body =>
  rintro l I x W o ⟨v,S,Z,n⟩ aq R hx ar;have c0:=cCc hx 0;have c1:=cCc hx 1;simp at c0 c1;obtain⟨va,vc,rfl⟩:=jbD Z;have c3:=S.cell;have c4:=S.frozen;simp only[List.zip_toArray,List.zip_cons_cons,List.zip_nil_right,List.size_toArray,List.foldl_toArray',List.foldl_cons,List.foldl_nil,List.setIfInBounds_toArray,List.set_cons_succ,List.set_cons_zero];have ao:Tryz.prog.follows .mixedOrders=true:=by kernel_rfl
  have m:=jpl x.1.value W.drew (by have:=x.2.2;omega);have L:E.heap.size<W.heap.size:=S.lt;have T:I.length<4294967281:=by omega
  have au:x.1.name.size<4294967281:=x.2.1;have av:(ja2 (rl x.1.value 0)).length<=5*4294967281:=by have h1:=jd5 (rl x.1.value 0);have h2:=jvz x.1.value 0;have h3:=x.2.2;omega
  clear hx
  have fin:∀ (J O:World) (g B:Nat) (A:Below W.drew.heap.size W.drew J) (H:O.ownsRow W0.heap.size 9 1 (.slice (some ⟨g,0,none⟩) (I.length+1) B) (I.length+1) ((jdx I).flatMap jtZ++[.string (x.1.name++(⟨#[61]⟩:ByteArray)++(⟨(ja2 (rl x.1.value 0)).toArray⟩:ByteArray))])) (P:Below w.heap.size W O) (V:J.heap.size<O.heap.size) (C:∀ k,k<W0.heap.size->O.heap[k]? = J.heap[k]?) (G:∀ k,k<J.heap.size->some k≠(Value.slice va I.length vc).ownBlock->O.heap[k]? = J.heap[k]?),
    KeepsFrom W0.heap.size W (O.setCell ⟨E.heap.size,0,none⟩ (.slice (some ⟨g,0,none⟩) (I.length+1) B))/\Below w.heap.size W (O.setCell ⟨E.heap.size,0,none⟩ (.slice (some ⟨g,0,none⟩) (I.length+1) B))/\jvX E.heap.size W0.heap.size w (I++[x]) (O.setCell ⟨E.heap.size,0,none⟩ (.slice (some ⟨g,0,none⟩) (I.length+1) B)):=by
   intro J O g B A H P V C G;have X:Boxed O E.heap.size 190 _:=(C _ (by omega)).trans (jcA A L S);have an:KeepsFrom W0.heap.size W W.drew:=(KeepsOthers.drew _).from _
   refine⟨((an.trans (jgw A (Nat.le_refl _))).trans (jp6 (jbp (w':=J) Z (fun j _ Y=>A.block j Y)) (by omega) G)).trans ((KeepsOthers.setCell _ _ _).from _),P.setCell (p:=⟨E.heap.size,0,none⟩) ah _,_,X.set _,?_,(n.trans P).setCell (p:=⟨E.heap.size,0,none⟩) ah _⟩;have m:=ownsRow_setCell_below H (a:=⟨E.heap.size,0,none⟩) (by show E.heap.size<_;omega) (.slice (some ⟨g,0,none⟩) (I.length+1) B);simpa [jdx,jtZ,jc6] using m
  gi_wp2_with fail
  refine jbE (F:=Fence.wide) rfl ao rfl ?_
  ·
   refine tai 1 ?_;refine tai 4 ?_;refine rdi [0,2,5] (.cons rfl (fun K hK=>?_) (.cons rfl (fun K hK=>?_) (.cons rfl (fun K hK=>?_) .nil)))
   all_goals go_simp
   all_goals (refine hK _ _ ?_;clear hK K)
   all_goals first
    | (refine rqi [2,5] (.cons rfl (fun K hK=>?_) (.cons rfl (fun K hK=>?_) .nil)))
    | (refine tqi 3 (v:=?_) rfl ?_ ?_;rotate_left;(intro w;go_simp;rw[if_neg (by omega)]);refine rqi [0,5] (.cons rfl (fun K hK=>?_) (.cons rfl (fun K hK=>?_) .nil)))
    | (refine rqi [0,2,6] (.cons rfl (fun K hK=>?_) (.cons rfl (fun K hK=>?_) (.cons rfl (fun K hK=>?_) .nil))))
   all_goals go_simp
   all_goals first
    |
     refine⟨trivial,(callsIn_wide.2 m).mono ?_⟩;rintro e J ⟨rfl,A⟩;obtain⟨g,B,O,aa,H,P,V,C,G⟩:=jap Tryz.prog 190 jks jjM rfl (by decide) (jbp (w':=J) Z (fun j _ Y=>A.block j Y)) ((Below.refl w.heap.size W).drew.trans (A.mono n.size)) (by omega) (by have:=A.size;have:W.drew.heap.size=W.heap.size:=rfl;omega) [.string (x.1.name++(⟨#[61]⟩:ByteArray)++(⟨(ja2 (rl x.1.value 0)).toArray⟩:ByteArray))] rfl (by simp[Value.oneCell']) T (by decide);have N:W.heap.size<=J.heap.size:=A.size;have ai:E.heap.size<J.heap.size:=Nat.lt_of_lt_of_le L N;have aj:o<J.heap.size:=Nat.lt_of_lt_of_le R N;have d0:=(A.cell (p:=⟨o,0,none⟩) R).trans c0;have d1:=(A.cell (p:=⟨E.heap.size,0,none⟩) L).trans c3;have X:Boxed O E.heap.size 190 _:=(C _ (by omega)).trans (jcA A L S);have d3:=X.cell;have d4:=X.frozen;refine hK _ _ ?_;clear hK K m
    | (refine hK _ _ ?_;clear hK K)
   all_goals first
    | (refine tqi 3 (v:=?_) rfl ?_ ?_;rotate_left;(intro w;go_simp;rw[if_neg (by omega)]);refine rqi [5] (.cons rfl (fun K hK=>?_) .nil))
    | (refine rqi [2,6] (.cons rfl (fun K hK=>?_) (.cons rfl (fun K hK=>?_) .nil)))
    | (refine rqi [5] (.cons rfl (fun K hK=>?_) .nil))
    | (refine rqi [0,6] (.cons rfl (fun K hK=>?_) (.cons rfl (fun K hK=>?_) .nil)))
    | (refine tqi 3 (v:=?_) rfl ?_ ?_;rotate_left;(intro w;go_simp;rw[if_neg (by omega)]);refine rqi [0,6] (.cons rfl (fun K hK=>?_) (.cons rfl (fun K hK=>?_) .nil)))
    | (refine rqi [0,2] (.cons rfl (fun K hK=>?_) (.cons rfl (fun K hK=>?_) .nil)))
   all_goals go_simp
   all_goals first
    |
     refine⟨trivial,(callsIn_wide.2 m).mono ?_⟩;rintro e J ⟨rfl,A⟩;obtain⟨g,B,O,aa,H,P,V,C,G⟩:=jap Tryz.prog 190 jks jjM rfl (by decide) (jbp (w':=J) Z (fun j _ Y=>A.block j Y)) ((Below.refl w.heap.size W).drew.trans (A.mono n.size)) (by omega) (by have:=A.size;have:W.drew.heap.size=W.heap.size:=rfl;omega) [.string (x.1.name++(⟨#[61]⟩:ByteArray)++(⟨(ja2 (rl x.1.value 0)).toArray⟩:ByteArray))] rfl (by simp[Value.oneCell']) T (by decide);have N:W.heap.size<=J.heap.size:=A.size;have ai:E.heap.size<J.heap.size:=Nat.lt_of_lt_of_le L N;have aj:o<J.heap.size:=Nat.lt_of_lt_of_le R N;have d0:=(A.cell (p:=⟨o,0,none⟩) R).trans c0;have d1:=(A.cell (p:=⟨E.heap.size,0,none⟩) L).trans c3;have X:Boxed O E.heap.size 190 _:=(C _ (by omega)).trans (jcA A L S);have d3:=X.cell;have d4:=X.frozen;refine hK _ _ ?_;clear hK K m
    | (refine hK _ _ ?_;clear hK K)
   all_goals first
    | (refine rqi [6] (.cons rfl (fun K hK=>?_) .nil))
    | (refine tqi 3 (v:=?_) rfl ?_ ?_;rotate_left;(intro w;go_simp;rw[if_neg (by omega)]);refine rqi [6] (.cons rfl (fun K hK=>?_) .nil))
    | (refine rqi [2] (.cons rfl (fun K hK=>?_) .nil))
    | (refine tqi 7 (v:=?_) rfl ?_ ?_;rotate_left;(intro w;go_simp;rw[if_neg (by omega)]);refine rqi [0,8] (.cons rfl (fun K hK=>?_) (.cons rfl (fun K hK=>?_) .nil)))
    | (refine tqi 3 (v:=?_) rfl ?_ ?_;rotate_left;(intro w;go_simp;rw[if_neg (by omega)]);refine tqi 7 (v:=?_) rfl ?_ ?_;rotate_left;(intro w;go_simp;rw[if_neg (by omega)]);refine rqi [0,8] (.cons rfl (fun K hK=>?_) (.cons rfl (fun K hK=>?_) .nil)))
   all_goals go_simp
   all_goals first
    |
     refine⟨trivial,(callsIn_wide.2 m).mono ?_⟩;rintro e J ⟨rfl,A⟩;obtain⟨g,B,O,aa,H,P,V,C,G⟩:=jap Tryz.prog 190 jks jjM rfl (by decide) (jbp (w':=J) Z (fun j _ Y=>A.block j Y)) ((Below.refl w.heap.size W).drew.trans (A.mono n.size)) (by omega) (by have:=A.size;have:W.drew.heap.size=W.heap.size:=rfl;omega) [.string (x.1.name++(⟨#[61]⟩:ByteArray)++(⟨(ja2 (rl x.1.value 0)).toArray⟩:ByteArray))] rfl (by simp[Value.oneCell']) T (by decide);have N:W.heap.size<=J.heap.size:=A.size;have ai:E.heap.size<J.heap.size:=Nat.lt_of_lt_of_le L N;have aj:o<J.heap.size:=Nat.lt_of_lt_of_le R N;have d0:=(A.cell (p:=⟨o,0,none⟩) R).trans c0;have d1:=(A.cell (p:=⟨E.heap.size,0,none⟩) L).trans c3;have X:Boxed O E.heap.size 190 _:=(C _ (by omega)).trans (jcA A L S);have d3:=X.cell;have d4:=X.frozen;refine hK _ _ ?_;clear hK K m
    | (refine hK _ _ ?_;clear hK K)
   all_goals first
    | (refine tqi 7 (v:=?_) rfl ?_ ?_;rotate_left;(intro w;go_simp;rw[if_neg (by omega)]);refine rqi [8] (.cons rfl (fun K hK=>?_) .nil))
    | (refine tqi 3 (v:=?_) rfl ?_ ?_;rotate_left;(intro w;go_simp;rw[if_neg (by omega)]);refine tqi 7 (v:=?_) rfl ?_ ?_;rotate_left;(intro w;go_simp;rw[if_neg (by omega)]);refine rqi [8] (.cons rfl (fun K hK=>?_) .nil))
    | (refine rqi [8] (.cons rfl (fun K hK=>?_) .nil))
    | (refine rqi [0] (.cons rfl (fun K hK=>?_) .nil))
   all_goals go_simp
   all_goals (refine hK _ _ ?_;clear hK K)
   all_goals (refine rdi [9] (.cons rfl (fun K hK=>?_) .nil))
   all_goals go_simp
   all_goals (refine hK _ _ ?_;clear hK K)
   all_goals (refine rdi [10] (.cons rfl (fun K hK=>?_) .nil))
   all_goals go_simp
   all_goals (refine hK _ _ ?_;clear hK K)
   all_goals (refine wpAnyIn_done (by kernel_rfl) ?_ _)
   all_goals
    exact fin J O g B A H P V C G
 case done =>
  rintro D W hD ⟨v,S,Z,n⟩ hK;have z0:=S.cell;have Q:=jni M;obtain⟨va,vc,rfl,U,-⟩:=jaM (enc:=jtZ) (l:=jdx M) (fun _=>rfl) (by rw[Q];exact Z);rw[Q] at U z0
  have ae:0<M.length:=by
   rcases Nat.eq_zero_or_pos M.length with h | h
   ·rw[jai,List.length_map,h] at q;simp at q
   ·exact h
  have af:M.length<=6:=by
   rw[jai,List.length_map] at q;simp at q;omega
  obtain⟨y,b,off,-,rfl,am,-⟩:=U.1.at ae
  have ac:∀ (j:Nat) z,(jdx M)[j]? = some z->W.cell? ⟨b,off+j,none⟩=some (.string z):=fun j z r=>by
   obtain⟨b',ap,e,-,hc⟩:=U.1.2 j z r;injection e with e1
   injection e1 with e1 e2
   subst e1;subst e2;have:=hc 0 Nat.one_pos;rwa [Nat.mul_one,Nat.add_zero] at this
  have ad:=jjO [44] 30064770967 ((jdx M).map (·.data.toList)) (by
   intro z r;simp only[jdx,List.map_map,List.mem_map,Function.comp] at r;obtain⟨u,-,rfl⟩:=r;exact jhK u)
  have Y:=Tryz.strings_Join b off vc (jdx M) ⟨#[44]⟩ W ac am (by rw[Q];omega) (by rw[Q];exact U.2.1) (by
   refine Nat.le_trans ad ?_;rw[List.length_map,Q];exact Nat.le_trans (Nat.mul_le_mul_right (30064770967+([44]:List UInt8).length) af) (by decide))
  rw[Q] at Y;have HK:=Lib.hid hK;have HD:Hid (W0.heap.size<=D/\D<W.heap.size):=⟨hD,(Array.getElem?_eq_some_iff.1 hK).1⟩;have r:=n.size;clear ad ac ae af Q Z S U q hL hG al hD hK ag;go_wp2_with (go_at_call 96;refine Y.mono ?_;rintro e w3 ⟨rfl,ab⟩);have t:=(ab.block D HD.out.2).trans HK.out;have ak:w.heap.size<=D:=by have:=HD.out.1;have:=d.size;omega
  refine jau t (results_tmp2 rfl _ _ _) ⟨rfl,jee (n.trans (ab.mono r)) ak t⟩
 case stop =>
  rintro D c I W hD hp h;exact h.elim
theorem jgW (B:Option Addr) (cap:Nat) (A:List jif) (w:World) (F:Labs w.heap.size w (.slice B A.length cap) (A.map (·.1))) (E:GW w) (D:A.length<4294967281) (G:jai (A.map (·.1))=false) :
  CR 58 #[.slice B A.length cap] w (.tuple #[.string ⟨#[]⟩,.int .i64 40]):=by
 refine jaq Tryz.func58 rfl ?_;simp only[Tryz.ntmps58,List.size_toArray,List.length_cons,List.length_nil,Nat.reduceAdd,Nat.reduceSub,Array.replicate_succ,Array.replicate_zero,List.push_toArray,List.append_toArray,List.nil_append,List.cons_append];go_wp2_with (go_at_call 73;refine (jbf B cap A _ F E D).mono ?_;rw[G];rintro e H ⟨rfl,C⟩);exact jb1 (results_tmp2 rfl _ _ _) rfl ⟨rfl,C⟩
end
section
open Go.Shelf
def jcK (l:List Lab):Prop:=∀ x∈l,x.ok
theorem jjR (l:List Lab) (h:jcK l):∃ B:List jif,B.map (·.1)=l:=by
 induction l with
 | nil=>exact⟨[],rfl⟩
 | cons x xs ih =>
  obtain⟨B,A⟩:=ih (fun y C=>h y (List.mem_cons_of_mem _ C));exact⟨⟨x,h x (List.mem_cons_self ..)⟩::B,by rw[List.map_cons,A]⟩
theorem jgi (x:Lab):x.enc.length=2:=rfl
def jiz (l:List Lab):ByteArray:=if jai l then jjS l else ⟨#[]⟩
def jwS (l:List Lab):Int:=if jai l then 0 else 40
theorem jex (A:Option Addr) (cap:Nat) (w:World) :
  Calls Tryz.prog 73 #[.slice A 0 cap] w fun e w'=>e=.returned (.bool false)/\w'=w:=by
 refine jaq Tryz.func73 rfl ?_;simp only[Tryz.ntmps73,List.size_toArray,List.length_cons,List.length_nil,Nat.reduceAdd,Nat.reduceSub,Array.replicate_succ,Array.replicate_zero,List.push_toArray,List.append_toArray,List.nil_append,List.cons_append];go_wp2_with fail;go_step3;go_wp2_with fail;exact jb1 (results_tmp rfl _ _ _) rfl ⟨rfl,rfl⟩
theorem jdY (a:Option Addr) (len cap:Nat) (l:List Lab) (w:World) (h:SlE Lab.enc 2 w.heap.size w a len l) (F:jcK l) (D:GW w) (E:len<4294967281) :
  CR 73 #[.slice a len cap] w (.bool (jai l)):=by
 rcases Nat.eq_zero_or_pos len with A | A
 ·subst A
  obtain rfl:l=[]:=List.eq_nil_of_length_eq_zero h.1.symm;refine (jex a cap w).mono ?_;rintro e w' ⟨rfl,rfl⟩;exact⟨rfl,Below.refl _ _⟩
 ·have B:=h.to_at (cap:=cap) jgi A
  obtain⟨G,rfl⟩:=jjR l F;have C:=h.1;rw[List.length_map] at C;subst C;exact jbf a cap G w B D E
theorem jip (A:Option Addr) (cap:Nat) (w:World) :
  CR 58 #[.slice A 0 cap] w (.tuple #[.string ⟨#[]⟩,.int .i64 40]):=by
 refine jaq Tryz.func58 rfl ?_;simp only[Tryz.ntmps58,List.size_toArray,List.length_cons,List.length_nil,Nat.reduceAdd,Nat.reduceSub,Array.replicate_succ,Array.replicate_zero,List.push_toArray,List.append_toArray,List.nil_append,List.cons_append];go_wp2_with (go_at_call 73;refine (jex A cap _).mono ?_;rintro e B ⟨rfl,rfl⟩);exact jb1 (results_tmp2 rfl _ _ _) rfl ⟨rfl,Below.refl _ _⟩
theorem jlr (a:Option Addr) (len cap:Nat) (l:List Lab) (w:World) (h:SlE Lab.enc 2 w.heap.size w a len l) (H:jcK l) (E:GW w) (G:len<4294967281) :
  CR 58 #[.slice a len cap] w (.tuple #[.string (jiz l),.int .i64 (jwS l)]):=by
 rcases Nat.eq_zero_or_pos len with C | C
 ·subst C
  obtain rfl:l=[]:=List.eq_nil_of_length_eq_zero h.1.symm;exact jip a cap w
 ·have B:=h.to_at (cap:=cap) jgi C
  obtain⟨D,rfl⟩:=jjR l H;have F:=h.1;rw[List.length_map] at F;subst F
  cases A:jai (D.map (·.1)) with
  | true=>rw[jiz,jwS,if_pos A,if_pos A];exact jgV a cap D w B E G A
  | false=>rw[jiz,jwS,A];exact jgW a cap D w B E G A
def jxk (x:Lab):jif:=⟨⟨jl8 20 x.name,jl8 120 x.value⟩,jmr 20 (by decide) _,jmr 120 (by decide) _⟩
def jxe (l:List Lab):List jif:=(l.take 10).map jxk
end
structure Ser where
 l:List Lab
 sk:Sk
 seen:Int
structure SerP where
 la:Option Addr
 ll:Nat
 lc:Nat
 ss:SS
structure SerP.At (p:SerP) (n₀:Nat) (w:World) (x:Ser):Prop where
 l:SlC Lab.enc 2 n₀ w p.la p.ll p.lc x.l
 s:p.ss.At n₀ w x.sk
def jbk (x:Ser) (p:SerP):List Value:=[.slice p.la p.ll p.lc,.int .i64 x.sk.kind,.int .i64 x.sk.level,.slice p.ss.ea p.ss.el p.ss.ec,.int .i64 x.sk.hb,.string x.sk.hr,.int .i64 x.sk.cr,.int .i64 x.sk.cc,.slice p.ss.ca p.ss.cl p.ss.cc,.int .i64 x.sk.gf,.slice p.ss.ga p.ss.gl p.ss.gc,.int .u64 x.seen]
def Ser.cut (x:Ser):Ser:=⟨(jxe x.l).map (·.1),x.sk.cut,x.seen⟩
section
open Go.Shelf
theorem jdB {A B:World} {p:Addr} (h:B.heap[p.block]? = A.heap[p.block]?):B.cell? p=A.cell? p:=by unfold World.cell?;rw[h]
theorem SlC.frame {α:Type} {enc:α->List Value} {k D:Nat} {A B:World} {a:Option Addr} {len cap:Nat} {l:List α} {q:Nat->Prop} (C:SlC enc k D A a len cap l) (J:∀ z,a=some z->0<cap->q z.block) (G:∀ b,b<D->q b->B.heap[b]? = A.heap[b]?):SlC enc k D B a len cap l :=
 ⟨⟨C.1.1,fun j x E=>by
  obtain⟨b,off,e,hb,F⟩:=C.1.2 j x E;have I:=(List.getElem?_eq_some_iff.1 E).1;have L:=C.1.1;have M:=C.2.1;exact⟨b,off,e,hb,fun i H=>(jdB (G b hb (J _ e (by omega)))).trans (F i H)⟩⟩,C.2⟩
structure SerP.Off (p:SerP) (q:Nat->Prop):Prop where
 l:∀ z,p.la=some z->0<p.lc->q z.block
 e:∀ z,p.ss.ea=some z->0<p.ss.ec->q z.block
 c:∀ z,p.ss.ca=some z->0<p.ss.cc->q z.block
 g:∀ z,p.ss.ga=some z->0<p.ss.gc->q z.block
theorem SerP.Off.imp {p:SerP} {q r:Nat->Prop} (h:p.Off q) (C:∀ b,q b->r b):p.Off r:=⟨fun z A B=>C _ (h.l z A B),fun z A B=>C _ (h.e z A B),fun z A B=>C _ (h.c z A B),fun z A B=>C _ (h.g z A B)⟩
theorem SerP.Off.and {p:SerP} {q r:Nat->Prop} (h:p.Off q) (C:p.Off r):p.Off (fun b=>q b/\r b):=⟨fun z A B=>⟨h.l z A B,C.l z A B⟩,fun z A B=>⟨h.e z A B,C.e z A B⟩,fun z A B=>⟨h.c z A B,C.c z A B⟩,fun z A B=>⟨h.g z A B,C.g z A B⟩⟩
section
variable {n n₁:Nat} {A B w:World} {x:Ser} {p:SerP}
theorem SerP.At.off (h:p.At n w x):p.Off (· < n):=⟨fun z A B=>(h.l.2.2.2.2 z A B).2,fun z A B=>(h.s.e.2.2.2.2 z A B).2,fun z A B=>(h.s.c.2.2.2.2 z A B).2,fun z A B=>(h.s.g.2.2.2.2 z A B).2⟩
theorem SerP.At.frame {q:Nat->Prop} (h:p.At n A x) (D:p.Off q) (C:∀ b,b<n->q b->B.heap[b]? = A.heap[b]?):p.At n B x :=
 ⟨h.l.frame D.l C,⟨h.s.e.frame D.e C,h.s.c.frame D.c C,h.s.g.frame D.g C⟩⟩
theorem SerP.At.below (h:p.At n A x) (hb:Below n A B):p.At n B x:=⟨h.l.below hb,h.s.below hb⟩
theorem SerP.At.mono (h:p.At n A x) (B:n<=n₁):p.At n₁ A x:=⟨h.l.mono B,h.s.mono B⟩
theorem SerP.At.drew (h:p.At n w x):p.At n w.drew x:=⟨h.l,⟨h.s.e,h.s.c,h.s.g⟩⟩
theorem SerP.At.go (h:p.At A.heap.size A x) (hb:Bw A B):p.At B.heap.size B x:=(h.below hb).mono hb.size
end
def ja0 (e:Ser × SerP):List Value:=jbk e.1 e.2
theorem jcY (e:Ser × SerP):(ja0 e).length=12:=rfl
theorem je1 (e:Ser × SerP):∀ u∈ja0 e,u.oneCell'=true:=by
 intro u A;simp only[ja0,jbk,List.mem_cons,List.not_mem_nil,or_false] at A;rcases A with h | h | h | h | h | h | h | h | h | h | h | h<;>(subst h;rfl)
structure Tab (n₀:Nat) (w:World) (a:Option Addr) (len cap:Nat) (l:List (Ser × SerP)):Prop where
 row:SlC ja0 12 n₀ w a len cap l
 at_:∀ e∈l,e.2.At n₀ w e.1
section
variable {n₀ n₁:Nat} {A B w:World} {a:Option Addr} {len cap:Nat} {l:List (Ser × SerP)}
theorem Tab.below (h:Tab n₀ A a len cap l) (hb:Below n₀ A B):Tab n₀ B a len cap l:=⟨h.row.below hb,fun e C=>(h.at_ e C).below hb⟩
theorem Tab.mono (h:Tab n₀ A a len cap l) (B:n₀<=n₁):Tab n₁ A a len cap l:=⟨h.row.mono B,fun e C=>(h.at_ e C).mono B⟩
theorem Tab.go (h:Tab A.heap.size A a len cap l) (hb:Bw A B):Tab B.heap.size B a len cap l:=(h.below hb).mono hb.size
theorem Tab.nil:Tab n₀ w none 0 0 []:=⟨SlC.nil,fun e A=>by cases A⟩
theorem Tab.drew (h:Tab n₀ w a len cap l):Tab n₀ w.drew a len cap l:=⟨h.row,fun e A=>(h.at_ e A).drew⟩
theorem Tab.take (h:Tab n₀ w a len cap l) (m:Nat) (B:m<=len):Tab n₀ w a m cap (l.take m):=⟨h.row.take m B,fun e A=>h.at_ e (List.mem_of_mem_take A)⟩
end
theorem jen {P:Program} {t e:TypeId} {z:Value} {size E:Nat} (Q:TypeId) (ht:P.underlying t=some (.slice e)) (G:(P.info? e).map (fun i=>(i.zero,i.size,i.bytes))=some (some z,size,E))
  {W k:World} {J:Nat} {v v':Value} {n m c:Nat} {xs:List Value} (D:W.ownsRow J e size v n xs) {a:Addr} {A:List Value} (N:A.length=m*size) (B:∀ j u,A[j]? = some u->W.cell? (a.add j)=some u) (Y:∀ u∈A,u.oneCell'=true) (l:0<m)
  (R:n+m<=maxLen) (C:(n+m)*E<=140737488355328)
  (hr:(Builtin.append_ #[t,t] Q #[v,.slice (some a) m c]).run P W=.ok v' k):v'.ownBlock=v.ownBlock\/∃ g,v'.ownBlock=some g/\W.heap.size<=g:=by
 obtain⟨i,U,X,I,S⟩:=info_parts G;subst I;subst S;have O:n+m<=9223372036854775807:=by simp only[maxLen] at R;omega
 rcases D.2 with⟨rfl,rfl⟩ | ⟨g,cap,L,rfl,Z,d,f,b,T,V⟩
 ·have h:xs=[]:=List.eq_nil_of_length_eq_zero (by simpa using D.1)
  subst h;rw[run_append_nil (P:=P) W t Q e i z ht U X a m c A N B (by omega) (by omega) (by have hb:=C;simp only[Nat.zero_add] at hb;omega)] at hr;injection hr with hr1
  subst hr1;exact .inr ⟨_,rfl,Nat.le_refl _⟩
 ·by_cases F:n+m<=cap
  ·have M:n*i.size+A.length<=L.size:=by rw[N,T,<- Nat.add_mul];exact Nat.mul_le_mul_right _ F
   rw[run_append_room (P:=P) W t Q e i ht U g n cap L d a m c A N B Y F M] at hr;injection hr with hr1
   subst hr1;exact .inl rfl
  ·have H:∀ j u,xs[j]? = some u->W.cell? ((⟨g,0,none⟩:Addr).add j)=some u:=D.cells (g:=g) rfl
   rw[run_append_grow (P:=P) W t Q e i z ht U X ⟨g,0,none⟩ n cap xs D.1 H a m c A N B (by omega) (by omega) (growslice_fits (by omega) C)] at hr;injection hr with hr1
   subst hr1;exact .inr ⟨_,rfl,Nat.le_refl _⟩
theorem jci:Tryz.prog.underlying 53=some (.slice 90):=by kernel_rfl
theorem jc4:(Tryz.prog.info? 90).map (fun i=>(i.zero,i.size,i.bytes))=some (some (.agg #[.slice none 0 0,.int .i64 0,.int .i64 0,.slice none 0 0,.int .i64 0,.string ⟨#[]⟩,.int .i64 0,.int .i64 0,.slice none 0 0,.int .i64 0,.slice none 0 0,.int .u64 0]),12,168):=by kernel_rfl
structure GrowS (base:Nat) (q:Nat->Prop) (w:World) (v:Value) (l:List (Ser × SerP)):Prop where
 own:w.ownsRow base 90 12 v l.length (l.flatMap ja0)
 at_:∀ e∈l,e.2.At w.heap.size w e.1
 off:∀ e∈l,e.2.Off (fun b=>q b/\some b≠v.ownBlock)
theorem GrowS.nil (A:Nat) (q:Nat->Prop) (w:World):GrowS A q w (.slice none 0 0) []:=⟨World.ownsRow_nil _ _ _ _,(fun e h=>by cases h),(fun e h=>by cases h)⟩
theorem GrowS.form {A:Nat} {q:Nat->Prop} {w:World} {v:Value} {l:List (Ser × SerP)} (h:GrowS A q w v l):∃ a c,v=.slice a l.length c:=jbD h.own
theorem GrowS.drew {A:Nat} {q:Nat->Prop} {w:World} {v:Value} {l:List (Ser × SerP)} (h:GrowS A q w v l):GrowS A q w.drew v l:=⟨h.own,fun e B=>(h.at_ e B).drew,h.off⟩
theorem GrowS.go {C:Nat} {q:Nat->Prop} {A B:World} {v:Value} {l:List (Ser × SerP)} (h:GrowS C q A v l) (hb:Bw A B):GrowS C q B v l :=
 ⟨⟨h.own.1,h.own.2.imp id (fun ⟨g,cap,D,E,F,G,H⟩=>⟨g,cap,D,E,F,known hb (Nat.le_refl _) G,H⟩)⟩,fun e I=>(h.at_ e I).go hb,h.off⟩
theorem GrowS.tab {A:Nat} {q:Nat->Prop} {w:World} {v:Value} {l:List (Ser × SerP)} (h:GrowS A q w v l):∃ a cap,v=.slice a l.length cap/\Tab w.heap.size w a l.length cap l/\(∀ z,a=some z->A<=z.block)/\(∀ e∈l,e.2.Off (fun b=>q b/\∀ z,a=some z->b≠z.block)):=by
 obtain⟨a,cap,rfl,C,D⟩:=jaM (enc:=ja0) jcY h.own;refine⟨a,cap,rfl,⟨C,h.at_⟩,D,fun e E=>(h.off e E).imp fun b hb=>⟨hb.1,fun z F B=>?_⟩⟩;subst F;exact hb.2 (by rw[B];rfl)
theorem GrowS.push {A B:Nat} {q:Nat->Prop} {W w0:World} {v:Value} {l:List (Ser × SerP)} (h:GrowS A q W v l) (V:Below B w0 W) (P:B<=A) (E:A<=W.heap.size) (f:l.length<4294967) {x:Ser} {p:SerP} (a:p.At W.heap.size W x) (Z:p.Off (fun b=>q b/\some b≠v.ownBlock)) :
  ∃ g cap G,(Builtin.append_ #[53,53] 53 #[v,.slice (some ⟨W.heap.size,0,none⟩) 1 1]).run Tryz.prog (W.alloc (.cells (jbk x p).toArray 90))=.ok (.slice (some ⟨g,0,none⟩) (l.length+1) cap) G /\
   GrowS A q G (.slice (some ⟨g,0,none⟩) (l.length+1) cap) (l++[(x,p)])/\Below B w0 G/\W.heap.size<G.heap.size/\(∀ k,k<W.heap.size->some k≠v.ownBlock->G.heap[k]? = W.heap[k]?):=by
 obtain⟨g,cap,G,H,M,O,R,-,J⟩:=jap Tryz.prog 53 jci jc4 rfl (by decide) (W:=W) h.own V P E (jbk x p) rfl (je1 (x,p)) (by omega) (by decide)
 have F:∀ j u,(jbk x p)[j]? = some u->(W.alloc (.cells (jbk x p).toArray 90)).cell? ((⟨W.heap.size,0,none⟩:Addr).add j)=some u:=fun j u Y=>by
  have:=cCc (World.alloc_heap_new W (.cells (jbk x p).toArray 90)) j;have U:(⟨W.heap.size,0,none⟩:Addr).add j=⟨W.heap.size,j,none⟩:=by unfold Addr.add;split<;>simp_all
  rw[U,this];simpa using Y
 have S:=jen 53 jci jc4 (h.own.alloc _) (n:=l.length) (m:=1) rfl F (je1 (x,p)) (by omega) (by unfold maxLen;omega) (by omega) H
 have L:∀ b,b<W.heap.size->some b≠v.ownBlock->some b≠Value.ownBlock (.slice (some ⟨g,0,none⟩) (l.length+1) cap):=fun b hb Q=>by
  rcases S with e | ⟨d,e,X⟩
  ·rw[e];exact Q
  ·rw[e]
   intro T;injection T with T
   simp at X;omega
 have D:∀ e∈l++[(x,p)],e.2.At W.heap.size W e.1/\e.2.Off (fun b=>q b/\some b≠v.ownBlock):=fun e I=>by
  rcases List.mem_append.1 I with C | C
  ·exact⟨h.at_ e C,h.off e C⟩
  ·rw[List.mem_singleton] at C
   subst C;exact⟨a,Z⟩
 refine⟨g,cap,G,H,⟨?_,fun e I=>?_,fun e I=>?_⟩,O,R,J⟩
 ·rw[List.length_append,List.flatMap_append]
  simpa [ja0] using M
 ·obtain⟨C,N⟩:=D e I
  exact (C.frame N (fun b hb c=>J b hb c.2)).mono (by omega)
 ·obtain⟨C,N⟩:=D e I
  exact (C.off.and N).imp fun b hb=>⟨hb.2.1,L b hb.1 hb.2.2⟩
end
section
open Go.Shelf
structure SerFit (x:Ser) (p:SerP):Prop where
 lab:jcK x.l
 ll:p.ll<4294967281
 short:p.ss.Short
 fit:x.sk.fit
 hr:x.sk.hr.size<2147483648
 seen:U64 x.seen
def jaI (x:Ser):Bool:=jai x.l&&jfv x.sk
theorem jda (x:Ser) (p:SerP) (w:World) (h:p.At w.heap.size w x) (R:SerFit x p) (Q:GW w) :
  CR 79 #[.agg #[.slice p.la p.ll p.lc,.int .i64 x.sk.kind,.int .i64 x.sk.level,.slice p.ss.ea p.ss.el p.ss.ec,.int .i64 x.sk.hb,.string x.sk.hr,.int .i64 x.sk.cr,.int .i64 x.sk.cc,.slice p.ss.ca p.ss.cl p.ss.cc,.int .i64 x.sk.gf,.slice p.ss.ga p.ss.gl p.ss.gc,.int .u64 x.seen]] w (.bool (jaI x)):=by
 obtain⟨H,U,E,B,N⟩:=jab w #[.slice p.la p.ll p.lc,.int .i64 x.sk.kind,.int .i64 x.sk.level,.slice p.ss.ea p.ss.el p.ss.ec,.int .i64 x.sk.hb,.string x.sk.hr,.int .i64 x.sk.cr,.int .i64 x.sk.cc,.slice p.ss.ca p.ss.cl p.ss.cc,.int .i64 x.sk.gf,.slice p.ss.ga p.ss.gl p.ss.gc,.int .u64 x.seen] 90;obtain⟨Y,c1,c2,c3,c4,c5,Z,a,b,c,S,T⟩:=jkX E;have I:Hid (p.At H.heap.size H x):=h.go B;have C:=Lib.hid R;have P:Hid (GW H):=Q.below B;have G:w.heap.size<H.heap.size:=by omega
 clear h R Q N E;by_cases hr:jai x.l=true
 ·have L:Hid (jaI x=jfv x.sk):=by rw[Hid,jaI,hr];rfl
  go_enter Tryz.func79,Tryz.ntmps79
  go_wp2_with (first
   | (go_at_call 73;refine (jdY _ _ _ x.l _ I.out.l.1 C.out.lab P.out C.out.ll).mono ?_;rintro e O ⟨rfl,A⟩;rw[hr];obtain⟨V,X⟩:=jf5 A;have J:Hid (p.At O.heap.size O x):=I.out.go A;have D:=B.trans (A.mono (Nat.le_of_lt G)))
   | (go_at_call 123;refine (jgX x.sk p.ss _ J.out.s C.out.short C.out.fit).mono ?_;rintro e d ⟨rfl,M⟩))
  go_ret;exact⟨by rw[L.out];rfl,D.trans (M.mono D.size)⟩
 ·have F:jai x.l=false:=by simpa using hr
  have L:Hid (jaI x=false):=by rw[Hid,jaI,F];rfl
  clear hr;go_enter Tryz.func79,Tryz.ntmps79;go_wp2_with (go_at_call 73;refine (jdY _ _ _ x.l _ I.out.l.1 C.out.lab P.out C.out.ll).mono ?_;rintro e O ⟨rfl,A⟩;rw[F]);go_ret;exact⟨by rw[L.out];rfl,B.trans (A.mono (Nat.le_of_lt G))⟩
def jdl (l:List (Ser × SerP)):Prop:=∀ e∈l,SerFit e.1 e.2
def jdd:Option (List Lab)->List Ser->Bool
 | _,[]=>true
 | p,x::r=>jaI x&&(match p with | none=>true | some y=>jak y x.l)&&jdd (some x.l) r
def jaj (l:List Ser):Bool:=decide (l.length<=20)&&jdd none l
def jhT (l:List Ser) (k:Nat):Option (List Lab):=if k=0 then none else (l[k-1]?).map (·.l)
theorem juX {l:List Ser} {k:Nat} {x:Ser} (A:l[k]? = some x) (p:Option (List Lab)):jdd p (l.drop k)=(jaI x&&(match p with | none=>true | some y=>jak y x.l)&&jdd (some x.l) (l.drop (k+1))):=by
 rw[jbB A];rfl
theorem ji4 {l:List Ser} {k:Nat} {x:Ser} (A:l[k]? = some x):jhT l (k+1)=some x.l:=by simp[jhT,A]
theorem jrS {l:List Ser} {k:Nat} {x:Ser} (B:0<k) (A:l[k-1]? = some x):jhT l k=some x.l:=by simp[jhT,A];omega
theorem jaU (l:List (Ser × SerP)) (a:Option Addr) (len cap:Nat) (w:World) (hT:Tab w.heap.size w a len cap l) (hF:jdl l) (hG:GW w) :
  CR 57 #[.slice a len cap] w (.bool (jaj (l.map (·.1)))):=by
 have j:=hT.row.1.1;subst j;have s:=Lib.hid hT;have HF:=Lib.hid hF;have HG:=Lib.hid hG;clear hT hF hG;by_cases ad:l.length<=20
 case neg =>
  have M:Hid (jaj (l.map (·.1))=false):=by simp[Hid,jaj];omega
  have ae:(20:Int)<l.length:=by omega
  generalize jaj (l.map (·.1))=bR at M ⊢;go_enter Tryz.func57,Tryz.ntmps57;go_wp2_with fail;go_ret;exact⟨by rw[M.out];rfl,Below.refl _ _⟩
 have M:Hid (jaj (l.map (·.1))=jdd none (l.map (·.1))):=by simp[Hid,jaj,ad]
 have ae:(l.length:Int)<=20:=by omega
 generalize jaj (l.map (·.1))=bR at M ⊢;go_enter Tryz.func57,Tryz.ntmps57;go_wp2_with fail;go_loopw [10] (fun i wr=>∃ (k:Nat),i=.int .i64 k/\k<=l.length/\Bw w wr/\Hid (jdd none (l.map (·.1))=jdd (jhT (l.map (·.1)) k) ((l.map (·.1)).drop k))) (fun i _=>l.length-(intOf i).toNat)
 case atStart=>exact⟨0,rfl,Nat.zero_le _,Below.refl _ _,rfl⟩
 case round =>
  obtain⟨k,rfl,hk,O,r⟩:=hrel;have I:=O.size;by_cases ah:k<l.length
  ·obtain⟨⟨x,p⟩,o⟩:∃ x,l[k]? = some x:=⟨_,List.getElem?_eq_getElem ah⟩
   obtain⟨b,off,rfl,ag,E⟩:=(s.out.below O).row.1.2 k (x,p) o;have c0:wr.cell? ⟨b,off+k*12,none⟩=some (.slice p.la p.ll p.lc):=E 0 (by omega);have c1:wr.cell? ⟨b,off+k*12+1,none⟩=some (.int .i64 x.sk.kind):=E 1 (by omega);have c2:wr.cell? ⟨b,off+k*12+2,none⟩=some (.int .i64 x.sk.level):=E 2 (by omega);have c3:wr.cell? ⟨b,off+k*12+3,none⟩=some (.slice p.ss.ea p.ss.el p.ss.ec):=E 3 (by omega);have c4:wr.cell? ⟨b,off+k*12+4,none⟩=some (.int .i64 x.sk.hb):=E 4 (by omega);have c5:wr.cell? ⟨b,off+k*12+5,none⟩=some (.string x.sk.hr):=E 5 (by omega);have c6:wr.cell? ⟨b,off+k*12+6,none⟩=some (.int .i64 x.sk.cr):=E 6 (by omega);have c7:wr.cell? ⟨b,off+k*12+7,none⟩=some (.int .i64 x.sk.cc):=E 7 (by omega);have c8:wr.cell? ⟨b,off+k*12+8,none⟩=some (.slice p.ss.ca p.ss.cl p.ss.cc):=E 8 (by omega);have c9:wr.cell? ⟨b,off+k*12+9,none⟩=some (.int .i64 x.sk.gf):=E 9 (by omega);have ab:wr.cell? ⟨b,off+k*12+10,none⟩=some (.slice p.ss.ga p.ss.gl p.ss.gc):=E 10 (by omega);have ac:wr.cell? ⟨b,off+k*12+11,none⟩=some (.int .u64 x.seen):=E 11 (by omega);have HX:Hid ((l.map (·.1))[k]? = some x):=by rw[Hid,List.getElem?_map,o];rfl
   have HP:Hid (p.At wr.heap.size wr x):=((s.out.at_ _ (List.mem_of_getElem? o)).below O).mono I;have R:=Lib.hid (HF.out _ (List.mem_of_getElem? o));have F:Hid (jdd none (l.map (·.1))=(jaI x&&(match jhT (l.map (·.1)) k with | none=>true | some y=>jak y x.l)&&jdd (some x.l) ((l.map (·.1)).drop (k+1)))):=by rw[Hid,r.out,juX HX.out]
   obtain⟨t,af,d,G,ai⟩:=jab wr #[.slice p.la p.ll p.lc,.int .i64 x.sk.kind,.int .i64 x.sk.level,.slice p.ss.ea p.ss.el p.ss.ec,.int .i64 x.sk.hb,.string x.sk.hr,.int .i64 x.sk.cr,.int .i64 x.sk.cc,.slice p.ss.ca p.ss.cl p.ss.cc,.int .i64 x.sk.gf,.slice p.ss.ga p.ss.gl p.ss.gc,.int .u64 x.seen] 90;obtain⟨r0,r1,r2,r3,r4,r5,r6,r7,r8,r9,ak,al⟩:=jkX d;have L:Hid (p.At t.heap.size t x):=HP.out.go G;have S:Hid (GW t):=HG.out.below (O.trans (G.mono I));have aj:wr.heap.size<t.heap.size:=by omega
   clear E o ai;by_cases hr:jaI x=true
   case neg =>
    have n:jaI x=false:=by simpa using hr
    have Q:Hid (bR=false):=by rw[Hid,M.out,F.out,n];rfl
    clear hr;go_wp2_with (go_at_call 79;refine (jda x p _ L.out R.out S.out).mono ?_;rintro e P ⟨rfl,B⟩;rw[n];have hZ:=B.size);go_ret;exact⟨by rw[Q.out];rfl,O.trans ((G.mono I).trans (B.mono (by omega)))⟩
   have v:Hid (jaI x=true):=hr;clear hr;go_wp2_with (go_at_call 79;refine (jda x p _ L.out R.out S.out).mono ?_;rintro e P ⟨rfl,B⟩;rw[v.out];have hZ:=B.size);have g0:P.cell? ⟨wr.heap.size,0,none⟩=some (.slice p.la p.ll p.lc):=(B.cell (p:=⟨wr.heap.size,0,none⟩) aj).trans r0;have z:Hid (p.At P.heap.size P x):=L.out.go B;have Z:Bw w P:=O.trans ((G.mono I).trans (B.mono (by omega)));let Inv:World->Prop:=fun W=>Bw P W
   have g:∀ W W',Inv W->Bw W W'->Inv W':=fun W W' h hb=>Below.trans h (hb.mono h.size)
   have A:Hid (∀ X:WIn Inv,Bw w X.world):=fun X=>Z.trans (Below.mono X.ok Z.size)
   have H:Hid (Inv P.drew):=(Below.refl _ _).drew;have ap:Nonempty (WIn Inv):=⟨⟨_,H.out⟩⟩;have q0:∀ X:WIn Inv,X.world.cell? ⟨wr.heap.size,0,none⟩=some (.slice p.la p.ll p.lc):=fun X=>(Below.cell X.ok (p:=⟨wr.heap.size,0,none⟩) (by show wr.heap.size<_;omega)).trans g0
   clear r0 r1 r2 r3 r4 r5 r6 r7 r8 r9 ak al d af c0 c1 c2 c3 c4 c5 c6 c7 c8 c9 ab ac g0;rcases Nat.eq_zero_or_pos k with h0 | m
   ·have t0:decide ((0:Int)<(k:Int))=false:=by simp;omega
    have t1:decide (0<k)=false:=by simp;omega
    have u:Hid (jdd none (l.map (·.1))=jdd (jhT (l.map (·.1)) (k+1)) ((l.map (·.1)).drop (k+1))):=by rw[Hid,F.out,v.out,ji4 HX.out,h0];rfl
    clear F r h0;clear_value Inv;refine jao Inv (by kernel_rfl) (by kernel_rfl) H.out ?_
    repeat (first | go_big_quiet_step (fail) | quiet_step (fail))
    refine wpQuiet_nil ?_;rintro _ ⟨X,rfl⟩;have c:=A.out X;go_wp2_with fail
    all_goals go_roundw
    case rel=>exact⟨k+1,by go_num,by omega,c,u.out⟩
    case measure=>simp[intOf];omega
   ·obtain⟨⟨y,J⟩,q⟩:∃ x,l[k-1]? = some x:=⟨_,List.getElem?_eq_getElem (by omega)⟩
    obtain⟨b',an,V,am,f⟩:=s.out.row.1.2 (k-1) (y,J) q;injection V with V
    injection V with V e2
    subst V;subst e2;have t0:decide ((0:Int)<(k:Int))=true:=by simp;omega
    have t1:decide (0<k)=true:=by simp;omega
    have i1:(1:Int)<=(k:Int):=by omega
    have q1:∀ X:WIn Inv,X.world.cell? ⟨b,off+(k-1)*12,none⟩=some (.slice J.la J.ll J.lc):=fun X=>((A.out X).cell (p:=⟨b,off+(k-1)*12,none⟩) ag).trans (f 0 (by omega))
    have HY:Hid (jhT (l.map (·.1)) k=some y.l):=jrS m (by rw[List.getElem?_map,q];rfl);have aa:Hid (J.At w.heap.size w y):=s.out.at_ _ (List.mem_of_getElem? q);have ao:=Lib.hid (HF.out _ (List.mem_of_getElem? q));have D:Hid (∀ X:WIn Inv,J.At X.world.heap.size X.world y):=fun X=>(aa.out.below (A.out X)).mono (A.out X).size
    have C:Hid (∀ X:WIn Inv,p.At X.world.heap.size X.world x):=fun X=>z.out.go X.ok
    have T:Hid (∀ X:WIn Inv,Calls Tryz.prog 75 #[.slice J.la J.ll J.lc,.slice p.la p.ll p.lc] X.world fun e w'=>e=.returned (.bool (jak y.l x.l))/\∃ Y:WIn Inv,w'=Y.world):=fun X=>jah g (jdv _ _ _ y.l _ _ _ x.l X.world (D.out X).l.1 (C.out X).l.1 (Nat.le_trans (D.out X).l.2.1 (D.out X).l.2.2.1) (Nat.le_trans (C.out X).l.2.1 (C.out X).l.2.2.1))
    have N:Hid (jdd none (l.map (·.1))=(jak y.l x.l&&jdd (jhT (l.map (·.1)) (k+1)) ((l.map (·.1)).drop (k+1)))):=by rw[Hid,F.out,v.out,HY.out,ji4 HX.out];rfl
    clear q f F r D C;clear g;clear_value Inv;generalize jak y.l x.l=b1 at T N
    cases b1
    ·have U:=Lib.hid T.out
     have Q:Hid (bR=false):=by rw[Hid,M.out,N.out];rfl
     clear T;refine jao Inv (by kernel_rfl) (by kernel_rfl) H.out ?_
     repeat (first | go_big_quiet_step ((go_at_call 75;with_reducible exact U.out _)) | quiet_step ((go_at_call 75;with_reducible exact U.out _)))
     refine wpQuiet_nil ?_;rintro _ ⟨X,rfl⟩;have c:=A.out X;go_wp2_with fail;go_ret;exact⟨by rw[Q.out];rfl,c⟩
    ·have U:=Lib.hid T.out
     have u:Hid (jdd none (l.map (·.1))=jdd (jhT (l.map (·.1)) (k+1)) ((l.map (·.1)).drop (k+1))):=by rw[Hid,N.out];rfl
     clear T;refine jao Inv (by kernel_rfl) (by kernel_rfl) H.out ?_
     repeat (first | go_big_quiet_step ((go_at_call 75;with_reducible exact U.out _)) | quiet_step ((go_at_call 75;with_reducible exact U.out _)))
     refine wpQuiet_nil ?_;rintro _ ⟨X,rfl⟩;have c:=A.out X;go_wp2_with fail
     all_goals go_roundw
     case rel=>exact⟨k+1,by go_num,by omega,c,u.out⟩
     case measure=>simp[intOf];omega
  ·obtain rfl:k=l.length:=by omega
   have Q:Hid (bR=true):=by rw[Hid,M.out,r.out,List.drop_eq_nil_of_le (by rw[List.length_map];exact Nat.le_refl _)];cases jhT (l.map (·.1)) l.length<;>rfl
   go_wp2_with fail;go_ret;exact⟨by rw[Q.out];rfl,O⟩
def jam (l:List Ser) (q:List Lab):Nat:=(l.takeWhile (fun x=>jak x.l q)).length
def jax (l:List Ser) (q:List Lab):Bool:=match l[jam l q]? with | some x=>x.l==q | none=>false
theorem jmx {l:List Ser} {q:List Lab} {k:Nat} {x:Ser} (A:l[k]? = some x) (h:jak x.l q=true):jam (l.drop k) q=1+jam (l.drop (k+1)) q:=by
 rw[jbB A,jam,List.takeWhile_cons,if_pos h,List.length_cons,Nat.add_comm];rfl
theorem jmy {l:List Ser} {q:List Lab} {k:Nat} {x:Ser} (A:l[k]? = some x) (h:jak x.l q=false):jam (l.drop k) q=0:=by
 rw[jbB A,jam,List.takeWhile_cons,if_neg (by simp[h])];rfl
theorem jqL (l:List Ser) (q:List Lab):jam l q<=l.length:=(List.takeWhile_prefix _).length_le
theorem jeC (l:List (Ser × SerP)) (a:Option Addr) (len cap:Nat) (q:List Lab) (u:Option Addr) (m z:Nat) (w:World) (L:Tab w.heap.size w a len cap l) (r:jdl l) (s:GW w) (t:SlE Lab.enc 2 w.heap.size w u m q) (V:m<=maxLen) :
  CR 43 #[.slice a len cap,.slice u m z] w (.tuple #[.int .i64 (if jaj (l.map (·.1)) then (jam (l.map (·.1)) q:Int) else 0),.bool (jaj (l.map (·.1))&&jax (l.map (·.1)) q)]):=by
 have S:=jaU l a len cap w L r s;have U:=L.row.1.1;subst U;have o:=Lib.hid L;have c:=Lib.hid t;have y:l.length<=maxLen:=Nat.le_trans L.row.2.1 L.row.2.2.1;unfold maxLen at y;have P:=Lib.hid V;clear L r s t V
 cases hr:jaj (l.map (·.1)) with
 | false =>
  rw[hr] at S;go_enter Tryz.func43,Tryz.ntmps43;go_wp2_with (go_at_call 57;refine S.mono ?_;rintro e w1 ⟨rfl,G⟩);go_ret2;exact⟨rfl,G⟩
 | true =>
  rw[hr] at S;rw[if_pos rfl,Bool.true_and];clear hr;obtain⟨R,I⟩:∃ R,jax (l.map (·.1)) q=R:=⟨_,rfl⟩;obtain⟨M,J⟩:∃ M,jam (l.map (·.1)) q=M:=⟨_,rfl⟩;rw[I,J];have Q:Hid (R=jax (l.map (·.1)) q):=I.symm;have F:Hid (M=jam (l.map (·.1)) q):=J.symm;clear I J;go_enter Tryz.func43,Tryz.ntmps43;go_wp2_with (go_at_call 57;refine S.mono ?_;rintro e w1 ⟨rfl,G⟩);clear S;go_loopw [6] (fun i wr=>∃ (k:Nat),i=.int .i64 k/\k<=l.length/\Bw w wr/\Hid (M=k+jam ((l.map (·.1)).drop k) q)) (fun i _=>l.length-(intOf i).toNat)
  case atStart=>exact⟨0,rfl,Nat.zero_le _,G,by rw[Hid,F.out,Nat.zero_add];rfl⟩
  case round =>
   obtain⟨k,rfl,hk,D,d⟩:=hrel;have B:=D.size;by_cases j:k<l.length
   ·obtain⟨⟨x,p⟩,Y⟩:∃ x,l[k]? = some x:=⟨_,List.getElem?_eq_getElem j⟩
    obtain⟨b,off,rfl,T,h⟩:=o.out.row.1.2 k (x,p) Y;have f:Hid ((l.map (·.1))[k]? = some x):=by rw[Hid,List.getElem?_map,Y];rfl
    have c0:wr.cell? ⟨b,off+k*12,none⟩=some (.slice p.la p.ll p.lc):=(D.cell (p:=⟨b,off+k*12,none⟩) T).trans (h 0 (by omega));have C:Hid (p.At w.heap.size w x):=o.out.at_ _ (List.mem_of_getElem? Y);have v:Hid (w.cell? ⟨b,off+k*12,none⟩=some (.slice p.la p.ll p.lc)):=h 0 (by omega);clear h Y
    cases X:jak x.l q with
    | true =>
     have O:=Lib.hid X;clear X;go_wp2_with (go_at_call 75;refine (jdv _ _ _ x.l _ _ _ q wr ((C.out.below D).mono B).l.1 ((c.out.below D).mono B) (Nat.le_trans C.out.l.2.1 C.out.l.2.2.1) P.out).mono ?_;rintro e n ⟨rfl,H⟩;rw[O.out]);go_roundw
     case rel=>exact⟨k+1,by go_num,by omega,D.trans (H.mono B),by rw[Hid,d.out,jmx f.out O.out];omega⟩
     case measure=>simp[intOf];omega
    | false =>
     have O:=Lib.hid X;have N:Hid (M=k):=by rw[Hid,d.out,jmy f.out O.out];rfl
     have Z:Hid (R=(x.l==q)):=by rw[Hid,Q.out,jax,<- F.out,N.out,f.out]
     clear X;go_wp2_with (go_at_call 75;refine (jdv _ _ _ x.l _ _ _ q wr ((C.out.below D).mono B).l.1 ((c.out.below D).mono B) (Nat.le_trans C.out.l.2.1 C.out.l.2.2.1) P.out).mono ?_;rintro e n ⟨rfl,H⟩;rw[O.out];have A:=D.trans (H.mono B);have c2:n.cell? ⟨b,off+k*12,none⟩=some (.slice p.la p.ll p.lc):=(A.cell (p:=⟨b,off+k*12,none⟩) T).trans v.out);refine (jqG _ _ _ x.l _ _ _ q n ((C.out.below A).mono A.size).l.1 ((c.out.below A).mono A.size) (Nat.le_trans C.out.l.2.1 C.out.l.2.2.1)).mono ?_;rintro e w3 ⟨rfl,g⟩;go_wp2_with fail;go_ret2;exact⟨by rw[N.out,Z.out];simp,A.trans (g.mono A.size)⟩
   ·obtain rfl:k=l.length:=by omega
    have E:(l.map (·.1)).drop l.length=[]:=List.drop_eq_nil_of_le (by rw[List.length_map];exact Nat.le_refl _);have N:Hid (M=l.length):=by rw[Hid,d.out,E];rfl
    have Z:Hid (R=false):=by rw[Hid,Q.out,jax,<- F.out,N.out,List.getElem?_eq_none (by rw[List.length_map];exact Nat.le_refl _)]
    clear E;go_wp2_with fail;go_ret2;exact⟨by rw[N.out,Z.out];rfl,D⟩
end
end Go.Proofs.YtnegciklhanmbaaGreatDoor
