/- Package wire: the writer's numbers, texts, whole. Package wire: whole, PutReq. Package wire: PutReq. -/
import Derived.Test.YtlmlcadcdhhlcaaGreatDoorZW5
set_option maxHeartbeats 4000000
set_option maxRecDepth 100000
namespace Go.Proofs.YtlmlcadcdhhlcaaGreatDoor
open Go Go.RowKit Go.Shelf
abbrev Wx (B b:Nat) (bs:List UInt8) (bd:Bool) (w:World):Prop:=WIs B b (Lib.byteCells bs) bd w
theorem jd4 (B b:Nat) (C:List UInt8) (bd:Bool) (l:List Int) (a:Option Addr) (len cap:Nat) (w:World) (h:Wx B b C bd w) (X:∀ G,WK B b w G->SlE jca 1 G.heap.size G a len l) (d:jin l) (D:C.length+9*len<=4294967296) (T:B<=w.heap.size) :
  Calls Tryz.prog 37 #[.pointer (some ⟨b,0,none⟩),.slice a len cap] w fun e G=>e=.returned (.tuple #[])/\Wx B b (C++jac l) bd G/\WK B b w G:=by
 have v:=(X w (WK.refl _ _ _)).1;subst v;have H:=Lib.hid h;have j:=Lib.hid X;have p:=Lib.hid d;have m:Hid (C.length+9*l.length<=4294967296):=D;have x:l.length<=4294967296:=by omega
 clear h X d D;go_enter Tryz.func37,Tryz.ntmps37;go_wp2_with fail;go_loopw [8] (fun i wr=>∃ (k:Nat),i=.int .i64 k/\k<=l.length/\Hid (Wx B b (C++jac (l.take k)) bd wr)/\Hid (WK B b w wr)) (fun i _=>l.length-(intOf i).toNat)
 case atStart=>exact⟨0,rfl,Nat.zero_le _,by rw[Hid,List.take_zero,show jac []=[] from rfl,List.append_nil];exact H.out,WK.refl _ _ _⟩
 case round =>
  obtain⟨k,rfl,u,Z,L⟩:=hrel;by_cases Y:k<l.length
  ·obtain⟨n,M⟩:∃ n,l[k]? = some n:=⟨_,List.getElem?_eq_getElem Y⟩
   obtain⟨q,y,rfl,t,c⟩:=(j.out wr L.out).2 k n M;have r:wr.cell? ⟨q,y+k*1,none⟩=some (.int .u64 n):=c 0 (by omega);rw[Nat.mul_one] at r;have o:=Lib.hid M;have I:U64 n:=p.out n (List.mem_of_getElem? M);have P:=Lib.hid I;have E:Hid (B<=wr.heap.size):=Nat.le_trans T L.out.1.size;have Q:Hid (∀ A,Below wr.drew.heap.size wr.drew A->Wx B b (C++jac (l.take k)) bd A):=fun A V=>(Z.out.go ((Below.refl _ _).drew)).go V
   have N:Hid (∀ A,Below wr.drew.heap.size wr.drew A->B<=A.heap.size):=fun A V=>Nat.le_trans E.out V.size
   have O:Hid ((Lib.byteCells (C++jac (l.take k))).length+(strOfNums (jaa n)).size<=140737488355328):=by
    have s:=(jao (l.take k)).2;have z:=(jbU n).2;have h3:=m.out;rw[List.length_take] at s;rw[Hid,Lib.byteCells_length,List.length_append,jaf];omega
   have g:Hid (∀ J,WAt B b (.pointer (some ⟨b,0,none⟩)) (Lib.byteCells (C++jac (l.take k))++Lib.strCells (strOfNums (jaa n))) bd J->Wx B b (C++jac (l.take (k+1))) bd J):=fun J h=>by
    rw[jbZ,<- byteCells_append,List.append_assoc] at h;rw[jaq o.out,jav,show jac [n]=(jaa n).map (fun k=>UInt8.ofNat k.toNat) by simp[jac]];exact .inr h
   clear c M I;go_wp2_with fail;refine wp_region_any (by kernel_rfl) ?_;change wpAny _ _ _ _ _ _ _ (World.drew _)
   ·
    refine ta 0 ?_;refine ta 1 ?_;refine ta 2 ?_;refine ta 3 ?_;refine rd [4] (.cons rfl (fun K hK=>?_) .nil)
    all_goals go_simp
    all_goals
     refine (jaw n _ P.out).mono ?_;rintro e A ⟨rfl,F⟩;refine hK _ _ ?_;clear hK K
    all_goals (refine rd [5] (.cons rfl (fun K hK=>?_) .nil))
    all_goals go_simp
    all_goals
     refine (jaP B b _ bd (strOfNums (jaa n)) A (Q.out A F) (O.out) (N.out A F)).mono ?_;rintro e J ⟨rfl,R,S,U⟩;refine hK _ _ ?_;clear hK K
    all_goals (refine wpAny_done (by kernel_rfl) ?_ _)
    all_goals
     go_wp2_with fail;go_roundw
     case rel=>exact⟨k+1,by go_num,by omega,g.out J R,(L.out.trans (WK.of_below ((Below.refl _ _).drew) E.out)).trans ((WK.of_below F E.out).trans ⟨S,U⟩)⟩
     case measure=>simp[intOf];omega
  ·obtain rfl:k=l.length:=by omega
   have f:Hid (Wx B b (C++jac l) bd wr):=by have:=Z.out;rw[List.take_length] at this;exact this
   go_wp2_with fail;go_end0;exact⟨rfl,f.out,L.out⟩
theorem jfn (xs:List ByteArray) (D c:Nat) (w:World) (A:∀ (j:Nat) x,xs[j]? = some x->w.cell? ⟨D,0+j,none⟩=some (.string x)) (E:D<w.heap.size) (H:xs.length<=1000) (C:xs.length<=c) (B:(Lib.join (xs.map (·.data.toList)) []).length<=140737488355328) :
  CR 78 #[.slice (some ⟨D,0,none⟩) xs.length c] w (.string ⟨(Lib.join (xs.map (·.data.toList)) []).toArray⟩):=by
 have F:=Lib.hid (Tryz.strings_Join D 0 c xs ⟨#[]⟩ w A E (by omega) C B);clear A B;go_enter Tryz.func78,Tryz.ntmps78;go_wp2_with (go_at_call 101;refine F.out.mono ?_;rintro e I ⟨rfl,G⟩);go_ret;exact⟨rfl,G⟩
def jbl (s:ByteArray):List UInt8:=if 400<s.size then [] else jcp s
theorem jdd (xs:List Int):(strOfNums xs).data.toList=xs.map fun k=>UInt8.ofNat k.toNat:=by rw[strOfNums_data]
theorem jex (s:ByteArray) (w:World) (H:s.size<4294967281):CR 52 #[.string s] w (.tuple #[.string ⟨(jbl s).toArray⟩,.int .i64 (if 400<s.size then 21 else 0)]):=by
 unfold jbl;by_cases B:400<s.size
 ·rw[if_pos B,if_pos B]
  have G:decide ((400:Int)<(s.size:Int))=true:=decide_eq_true (by omega);clear B;go_enter Tryz.func52,Tryz.ntmps52;go_wp2_with fail;go_ret2;exact⟨rfl,.refl _ _⟩
 ·rw[if_neg B,if_neg B]
  have G:decide ((400:Int)<(s.size:Int))=false:=decide_eq_false (by omega);have F:=Lib.hid (fun W=>jaw (s.size:Int) W (by unfold U64;omega))
  have E:Hid (∀ W:World,CR 78 #[.slice (some ⟨W.heap.size,0,none⟩) 2 2] (W.alloc (.cells #[.string (strOfNums (jaa (s.size:Int))),.string s] 9)) (.string ⟨(jcp s).toArray⟩)):=fun W=>by
   have I:=World.alloc_heap_new W (.cells #[.string (strOfNums (jaa (s.size:Int))),.string s] 9)
   have h:=jfn [strOfNums (jaa (s.size:Int)),s] W.heap.size 2 (W.alloc (.cells #[.string (strOfNums (jaa (s.size:Int))),.string s] 9)) (fun j x C=>by
    rw[cCc I]
    match j,C with
    | 0,C=>cases C;rfl
    | 1,C=>cases C;rfl) (by simp) (Nat.le_add_left 2 998) (Nat.le_refl 2) (by
     have J:=(jbU (s.size:Int)).2;have L:s.data.size=s.size:=rfl;simp[Lib.join_cons,Lib.joinTail,jdd];omega)
   have e:Lib.join ([strOfNums (jaa (s.size:Int)),s].map (·.data.toList)) []=jcp s:=by
    simp[Lib.join_cons,Lib.joinTail,jdd,jcp,jac]
   rw[e] at h;exact h
  clear H;go_enter Tryz.func52,Tryz.ntmps52
  go_wp2_with (first
   | (go_at_call 54;refine (F.out _).mono ?_;rintro e M ⟨rfl,A⟩)
   | (go_at_call 78;refine (E.out _).mono ?_;rintro e N ⟨rfl,D⟩))
  go_ret2;exact⟨rfl,(A.alloc A.size _).trans (D.mono (by have:=A.size;simp;omega))⟩
theorem jbE (s:ByteArray):(jbl s).length<=409:=by
 unfold jbl;split
 ·exact Nat.zero_le _
 ·have:=jb0 s;omega
theorem jgp (l:List ByteArray):(l.flatMap jbl).length<=409*l.length:=by
 induction l with
 | nil=>exact Nat.zero_le _
 | cons x l ih=>have:=jbE x;rw[List.flatMap_cons,List.length_append,List.length_cons];omega
theorem jaX (l:List UInt8):Lib.strCells ⟨l.toArray⟩=Lib.byteCells l:=rfl
theorem WIs.bad {B b:Nat} {A:List Value} {wr:Bool} {w:World} (h:WIs B b A wr w):WIs B b A true (w.setCell ⟨b,2,none⟩ (.bool true)):=h.imp (·.bad) (·.bad)
theorem WIs.wk {B b:Nat} {A:List Value} {wr:Bool} {w:World} (h:WIs B b A wr w) (i:Nat) (v:Value):WK B b w (w.setCell ⟨b,i,none⟩ v):=by
 have C:B<=b:=by rcases h with⟨h,-⟩ | ⟨h,-⟩<;>exact h
 exact⟨(Below.refl B w).setCell (p:=⟨b,i,none⟩) C _,(Lib.OthersKept.refl _ _ w).setCell ⟨b,i,none⟩ rfl _⟩
theorem jid (B b:Nat) (D:List UInt8) (bd:Bool) (l:List ByteArray) (a:Option Addr) (len cap:Nat) (w:World) (h:Wx B b D bd w) (j:∀ T,WK B b w T->SlE jhL 1 T.heap.size T a len l) (q:∀ s∈l,s.size<4294967281) (M:D.length+500*len<=4294967296) (O:B<=w.heap.size) :
  Calls Tryz.prog 38 #[.pointer (some ⟨b,0,none⟩),.slice a len cap] w fun e T=>e=.returned (.tuple #[])/\Wx B b (D++l.flatMap jbl) (bd||l.any fun s=>decide (400<s.size)) T/\WK B b w T:=by
 have hl:=(j w (WK.refl _ _ _)).1;subst hl;have H:=Lib.hid h;have t:=Lib.hid j;have v:=Lib.hid q;have u:Hid (D.length+500*l.length<=4294967296):=M;have ab:l.length<=4294967296:=by omega
 clear h j q M;go_enter Tryz.func38,Tryz.ntmps38;go_wp2_with fail;go_loopw [10] (fun i wr=>∃ (k:Nat),i=.int .i64 k/\k<=l.length/\Hid (Wx B b (D++(l.take k).flatMap jbl) (bd||(l.take k).any fun s=>decide (400<s.size)) wr)/\Hid (WK B b w wr)) (fun i _=>l.length-(intOf i).toNat)
 case atStart=>exact⟨0,rfl,Nat.zero_le _,by rw[Hid,List.take_zero];simp;exact H.out,WK.refl _ _ _⟩
 case round =>
  obtain⟨k,rfl,aa,g,V⟩:=hrel;by_cases m:k<l.length
  ·obtain⟨s,S⟩:∃ s,l[k]? = some s:=⟨_,List.getElem?_eq_getElem m⟩
   obtain⟨x,o1,rfl,z,p⟩:=(t.out wr V.out).2 k s S;have y:wr.cell? ⟨x,o1+k*1,none⟩=some (.string s):=p 0 (by omega);rw[Nat.mul_one] at y;have HS:=Lib.hid S;have L:=Lib.hid (jex s wr (v.out s (List.mem_of_getElem? S)));have U:Hid (B<=wr.heap.size):=Nat.le_trans O V.out.1.size
   have Y:Hid ((Lib.byteCells (D++(l.take k).flatMap jbl)).length+(ByteArray.mk (jbl s).toArray).size<=140737488355328):=by
    have J:=jgp (l.take k);have Q:=jbE s;have c:=u.out;rw[List.length_take] at J;rw[Hid,Lib.byteCells_length,List.length_append,jdx];omega
   have n:Hid ((l.take (k+1)).flatMap jbl=(l.take k).flatMap jbl++jbl s):=by rw[Hid,jaq S,List.flatMap_append];simp
   have o:Hid (((l.take (k+1)).any fun s=>decide (400<s.size))=(((l.take k).any fun s=>decide (400<s.size))||decide (400<s.size))):=by rw[Hid,jaq S,List.any_append];simp
   clear p S;by_cases R:400<s.size
   ·rw[if_pos R] at L
    have d:Hid (∀ A,Bw wr A->(A.cell? ⟨b,2,none⟩=some (.bool (bd||(l.take k).any fun s=>decide (400<s.size)))/\A.frozen? ⟨b,2,none⟩=false)/\Hid (Wx B b (D++(l.take k).flatMap jbl) true (A.setCell ⟨b,2,none⟩ (.bool true))/\WK B b w (A.setCell ⟨b,2,none⟩ (.bool true)))):=fun A Z =>
     have J:=g.out.go Z;⟨J.cell2,J.bad,(V.out.trans (WK.of_below Z U.out)).trans (J.wk 2 _)⟩
    have f:Hid (∀ P C,WK B b w P->WAt B b (.pointer (some ⟨b,0,none⟩)) (Lib.byteCells (D++(l.take k).flatMap jbl)++Lib.strCells ⟨(jbl s).toArray⟩) true C->WK B b P C->Hid (Wx B b (D++(l.take (k+1)).flatMap jbl) (bd||(l.take (k+1)).any fun s=>decide (400<s.size)) C)/\Hid (WK B b w C)):=fun P C J Q c=>by
     rw[n.out,o.out,decide_eq_true R,Bool.or_true,Bool.or_true,<- List.append_assoc];rw[jaX,<- byteCells_append] at Q;exact⟨.inr Q,J.trans c⟩
    clear R
    go_wp2_with (first
     | (go_at_call 52;refine L.out.mono ?_;rintro e A ⟨rfl,I⟩;obtain⟨⟨p2,q2⟩,N⟩:=d.out A I;clear I)
     | (go_at_call 30
        refine (jaP B b _ true _ _ N.out.1 Y.out (Nat.le_trans O N.out.2.1.size)).mono ?_;rintro e C ⟨rfl,E,F,G⟩;have X:=Lib.hid (f.out _ C N.out.2 E ⟨F,G⟩);clear E F G))
    go_roundw
    case rel=>exact⟨k+1,by go_num,by omega,X.out.1,X.out.2⟩
    case measure=>simp[intOf];omega
   ·rw[if_neg R] at L
    have d:Hid (∀ A,Bw wr A->Hid (Wx B b (D++(l.take k).flatMap jbl) (bd||(l.take k).any fun s=>decide (400<s.size)) A/\WK B b w A)):=fun A Z =>
     ⟨g.out.go Z,V.out.trans (WK.of_below Z U.out)⟩
    have f:Hid (∀ P C,WK B b w P->WAt B b (.pointer (some ⟨b,0,none⟩)) (Lib.byteCells (D++(l.take k).flatMap jbl)++Lib.strCells ⟨(jbl s).toArray⟩) (bd||(l.take k).any fun s=>decide (400<s.size)) C->WK B b P C->Hid (Wx B b (D++(l.take (k+1)).flatMap jbl) (bd||(l.take (k+1)).any fun s=>decide (400<s.size)) C)/\Hid (WK B b w C)):=fun P C J Q c=>by
     rw[n.out,o.out,decide_eq_false R,Bool.or_false,<- List.append_assoc];rw[jaX,<- byteCells_append] at Q;exact⟨.inr Q,J.trans c⟩
    clear R
    go_wp2_with (first
     | (go_at_call 52;refine L.out.mono ?_;rintro e A ⟨rfl,I⟩;have N:=d.out A I;clear I)
     | (go_at_call 30
        refine (jaP B b _ _ _ _ N.out.1 Y.out (Nat.le_trans O N.out.2.1.size)).mono ?_;rintro e C ⟨rfl,E,F,G⟩;have X:=Lib.hid (f.out _ C N.out.2 E ⟨F,G⟩);clear E F G))
    go_roundw
    case rel=>exact⟨k+1,by go_num,by omega,X.out.1,X.out.2⟩
    case measure=>simp[intOf];omega
  ·obtain rfl:k=l.length:=by omega
   have r:Hid (Wx B b (D++l.flatMap jbl) (bd||l.any fun s=>decide (400<s.size)) wr):=by have:=g.out;rw[List.take_length] at this;exact this
   go_wp2_with fail;go_end0;exact⟨rfl,r.out,V.out⟩
section
theorem jgR (B b:Nat) (A:List UInt8) (bd:Bool) (w:World) (h:Wx B b A bd w) (D:A≠[]) :
  Calls Tryz.prog 39 #[.pointer (some ⟨b,0,none⟩)] w fun e F=>e=.returned (.tuple #[.string (if bd then ⟨#[]⟩ else ⟨A.toArray⟩),.int .i64 (if bd then 200 else 0)])/\Below B w F:=by
 have G:=h.cell2.1;have C:=Lib.hid (jgV B b A bd w h D);clear h D
 cases bd with
 | true =>
  clear C;go_enter Tryz.func39,Tryz.ntmps39;go_wp2_with fail;go_ret2;exact⟨rfl,.refl _ _⟩
 | false =>
  go_enter Tryz.func39,Tryz.ntmps39;go_wp2_with (go_at_call 33;refine C.out.mono ?_;rintro e H ⟨rfl,E⟩);go_ret2;exact⟨rfl,E⟩
structure PQ (B b:Nat) (bs:List UInt8) (bd:Bool) (W0 W:World):Prop where
 wx:Wx B b bs bd W
 wk:WK B b W0 W
theorem PQ.go {B b:Nat} {E:List UInt8} {bd:Bool} {A W D:World} (C:PQ B b E bd A W) (F:Bw W D) (G:B<=A.heap.size):PQ B b E bd A D:=⟨C.wx.go F,C.wk.trans (WK.of_below F (Nat.le_trans G C.wk.1.size))⟩
theorem jce (l:List (Nat × Int)):(l.flatMap jcd).length<=18*l.length:=by
 induction l with
 | nil=>exact Nat.zero_le _
 | cons x l ih =>
  have h:(jcd x).length<=18:=(jao [(x.1:Int),x.2]).2;rw[List.flatMap_cons,List.length_append,List.length_cons];omega
theorem jhH {α:Type} {B b k:Nat} {enc:α->List Value} {t:TypeId} {W V C:World} {c:Array Value} {l:List α} {len:Nat} (ht:t≠5) (F:W.alloc (.cells c t)=V) (G:b≠W.heap.size) (H:∀ j x,l[j]? = some x->∀ i,i<k->c[j*k+i]? = (enc x)[i]?) (L:len=l.length) (D:WK B b V C):SlE enc k C.heap.size C (some ⟨W.heap.size,0,none⟩) len l:=by
 have E:V.heap[W.heap.size]? = some (.cells c t (0,0)):=by rw[<- F];exact World.alloc_heap_new W _
 have M:W.heap.size<V.heap.size:=(Array.getElem?_eq_some_iff.1 E).1;have A:=D.2 _ _ E (by simp;exact fun e=>G e.symm) (fun N O e=>by cases e;exact ht rfl);refine⟨L,fun j x J=>⟨W.heap.size,0,rfl,Nat.lt_of_lt_of_le M D.1.size,fun i I=>?_⟩⟩;rw[Nat.zero_add,cCc A];exact H j x J i I
theorem jcu {B b:Nat} {C:List UInt8} {bd:Bool} {E W:World} (l:List Int) (D:PQ B b C bd E W) (P:jin l) (A:C.length+9*l.length<=4294967296) (L:B<=E.heap.size) :
  Calls Tryz.prog 37 #[.pointer (some ⟨b,0,none⟩),.slice (some ⟨W.heap.size,0,none⟩) l.length l.length] (W.alloc (.cells (l.map (Value.int .u64)).toArray 22)) fun e H=>e=.returned (.tuple #[])/\PQ B b (C++jac l) bd E H:=by
 have Q:=D.wk.1.size;have F:Bw W (W.alloc (.cells (l.map (Value.int .u64)).toArray 22)):=(Below.refl _ W).alloc (Nat.le_refl _) _;have G:=D.wx.lt;refine (jd4 B b C bd l _ l.length l.length _ (D.wx.go F) (fun H O=>jhH (k:=1) (enc:=jca) (by decide) rfl (Nat.ne_of_lt G) (fun j x N i R=>?_) rfl O) P A (by have:=F.size;omega)).mono ?_
 ·obtain rfl:i=0:=by omega
  rw[Nat.mul_one,Nat.add_zero];simp[N,jca]
 ·rintro e H ⟨M,I,J⟩
  exact⟨M,I,D.wk.trans ((WK.of_below F (by omega)).trans J)⟩
theorem jen {B b:Nat} {C:List UInt8} {bd:Bool} {E W:World} (l:List ByteArray) (D:PQ B b C bd E W) (P:∀ s∈l,s.size<4294967281) (A:C.length+500*l.length<=4294967296) (L:B<=E.heap.size) :
  Calls Tryz.prog 38 #[.pointer (some ⟨b,0,none⟩),.slice (some ⟨W.heap.size,0,none⟩) l.length l.length] (W.alloc (.cells (l.map Value.string).toArray 9)) fun e H=>e=.returned (.tuple #[])/\PQ B b (C++l.flatMap jbl) (bd||l.any fun s=>decide (400<s.size)) E H:=by
 have Q:=D.wk.1.size;have F:Bw W (W.alloc (.cells (l.map Value.string).toArray 9)):=(Below.refl _ W).alloc (Nat.le_refl _) _;have G:=D.wx.lt;refine (jid B b C bd l _ l.length l.length _ (D.wx.go F) (fun H O=>jhH (k:=1) (enc:=jhL) (by decide) rfl (Nat.ne_of_lt G) (fun j x N i R=>?_) rfl O) P A (by have:=F.size;omega)).mono ?_
 ·obtain rfl:i=0:=by omega
  rw[Nat.mul_one,Nat.add_zero];simp[N,jhL]
 ·rintro e H ⟨M,I,J⟩
  exact⟨M,I,D.wk.trans ((WK.of_below F (by omega)).trans J)⟩
section
variable {B b:Nat} {bs:List UInt8} {bd:Bool} {W0 W:World}
theorem jh0 (x:Int) (E:PQ B b bs bd W0 W) (F:U64 x) (C:bs.length<=1000000) (A:B<=W0.heap.size):Calls Tryz.prog 37 #[.pointer (some ⟨b,0,none⟩),.slice (some ⟨W.heap.size,0,none⟩) 1 1] (W.alloc (.cells #[.int .u64 x] 22)) fun e G=>e=.returned (.tuple #[])/\PQ B b (bs++jac [x]) bd W0 G :=
 jcu [x] E (fun y D=>by simp at D;subst D;exact F) (by show bs.length+9*1<=_;omega) A
theorem jg9 (x y:Int) (E:PQ B b bs bd W0 W) (G:U64 x) (H:U64 y) (C:bs.length<=1000000) (A:B<=W0.heap.size):Calls Tryz.prog 37 #[.pointer (some ⟨b,0,none⟩),.slice (some ⟨W.heap.size,0,none⟩) 2 2] (W.alloc (.cells #[.int .u64 x,.int .u64 y] 22)) fun e F=>e=.returned (.tuple #[])/\PQ B b (bs++jac [x,y]) bd W0 F :=
 jcu [x,y] E (fun z D=>by simp at D;rcases D with rfl | rfl<;>assumption) (by show bs.length+9*2<=_;omega) A
theorem jiY (x y z:Int) (E:PQ B b bs bd W0 W) (G:U64 x) (H:U64 y) (I:U64 z) (C:bs.length<=1000000) (A:B<=W0.heap.size):Calls Tryz.prog 37 #[.pointer (some ⟨b,0,none⟩),.slice (some ⟨W.heap.size,0,none⟩) 3 3] (W.alloc (.cells #[.int .u64 x,.int .u64 y,.int .u64 z] 22)) fun e F=>e=.returned (.tuple #[])/\PQ B b (bs++jac [x,y,z]) bd W0 F :=
 jcu [x,y,z] E (fun q D=>by simp at D;rcases D with rfl | rfl | rfl<;>assumption) (by show bs.length+9*3<=_;omega) A
theorem jiZ (x y z t:Int) (E:PQ B b bs bd W0 W) (G:U64 x) (H:U64 y) (I:U64 z) (ht:U64 t) (C:bs.length<=1000000) (A:B<=W0.heap.size):Calls Tryz.prog 37 #[.pointer (some ⟨b,0,none⟩),.slice (some ⟨W.heap.size,0,none⟩) 4 4] (W.alloc (.cells #[.int .u64 x,.int .u64 y,.int .u64 z,.int .u64 t] 22)) fun e F=>e=.returned (.tuple #[])/\PQ B b (bs++jac [x,y,z,t]) bd W0 F :=
 jcu [x,y,z,t] E (fun q D=>by simp at D;rcases D with rfl | rfl | rfl | rfl<;>assumption) (by show bs.length+9*4<=_;omega) A
theorem jiI (x:ByteArray) (E:PQ B b bs bd W0 W) (F:x.size<4294967281) (C:bs.length<=1000000) (A:B<=W0.heap.size):Calls Tryz.prog 38 #[.pointer (some ⟨b,0,none⟩),.slice (some ⟨W.heap.size,0,none⟩) 1 1] (W.alloc (.cells #[.string x] 9)) fun e G=>e=.returned (.tuple #[])/\PQ B b (bs++jbl x) (bd||decide (400<x.size)) W0 G:=by
 have h:=jen [x] E (fun y D=>by simp at D;subst D;exact F) (by show bs.length+500*1<=_;omega) A;simpa using h
theorem jiJ (x y:ByteArray) (E:PQ B b bs bd W0 W) (G:x.size<4294967281) (H:y.size<4294967281) (C:bs.length<=1000000) (A:B<=W0.heap.size):Calls Tryz.prog 38 #[.pointer (some ⟨b,0,none⟩),.slice (some ⟨W.heap.size,0,none⟩) 2 2] (W.alloc (.cells #[.string x,.string y] 9)) fun e F=>e=.returned (.tuple #[])/\PQ B b (bs++(jbl x++jbl y)) (bd||(decide (400<x.size)||decide (400<y.size))) W0 F:=by
 have h:=jen [x,y] E (fun z D=>by simp at D;rcases D with rfl | rfl<;>assumption) (by show bs.length+500*2<=_;omega) A;simpa using h
end
def rqV (r:Rq) (ia:Option Addr) (ic:Nat) (ta:Option Addr) (tc:Nat):Array Value:=#[.int .i64 r.op,.int .u64 r.now,.string r.labels,.string r.scope,.int .i64 r.kind,.slice ia r.items.length ic,.int .u64 r.h,.int .u64 r.tnt,.int .u64 r.id,.slice ta r.tens.length tc]
theorem Rq.notOk {r:Rq} (h:r.op<0\/255<r.op\/r.kind<0\/255<r.kind\/50<r.items.length\/8<r.tens.length):r.ok=false:=by
 cases e:r.ok with
 | false=>rfl
 | true=>obtain⟨A,B,C,D,-⟩:=Rq.okD e;omega
theorem je7 (r:Rq) (L:Option Addr) (M:Nat) (ta:Option Addr) (N:Nat) (w:World) (h:r.op<0\/255<r.op\/r.kind<0\/255<r.kind\/50<r.items.length\/8<r.tens.length) :
  CR 15 #[.agg (rqV r L M ta N)] w (.tuple #[.string ⟨#[]⟩,.int .i64 200]):=by
 obtain⟨B,H,G,T,A,items,Q,I,S,tens⟩:=r;unfold rqV;dsimp only at h ⊢;generalize items.length=il at *;generalize tens.length=tl at *;obtain⟨U,P,C,F,R⟩:=jab w #[.int .i64 B,.int .u64 H,.string G,.string T,.int .i64 A,.slice L il M,.int .u64 Q,.int .u64 I,.int .u64 S,.slice ta tl N] 48;obtain⟨V,X,Y,c3,c4,c5,Z,a,b,c⟩:=jb3 C;clear C;obtain h | ⟨D,h⟩ | ⟨D,E,h⟩ | ⟨D,E,J,h⟩ | ⟨D,E,J,O,h⟩ | ⟨D,E,J,O,d,h⟩:B<0\/(¬ B<0/\255<B)\/(¬ B<0/\¬ 255<B/\A<0)\/(¬ B<0/\¬ 255<B/\¬ A<0/\255<A)\/(¬ B<0/\¬ 255<B/\¬ A<0/\¬ 255<A/\(50:Int)<il)\/(¬ B<0/\¬ 255<B/\¬ A<0/\¬ 255<A/\¬ (50:Int)<il/\(8:Int)<tl):=by omega
 all_goals
  go_enter Tryz.func15,Tryz.ntmps15;go_wp2_with fail;go_ret2;exact⟨rfl,F⟩
end
theorem jfx (r:Rq) (J:0<=r.op) (L:r.op<=255) (H:0<=r.kind) (I:r.kind<=255) (G:r.items.length<=50) (M:r.tens.length<=8) {bd:Bool} (A:(false||(decide (400<r.labels.size)||decide (400<r.scope.size)))=bd) :
  r.ok = !bd/\(bd=false->[]++jac [r.op,r.now]++(jbl r.labels++jbl r.scope)++jac [r.kind,(r.items.length:Int)]++r.items.flatMap jcd++jac [r.h,r.tnt,r.id,(r.tens.length:Int)]++jac r.tens=r.B):=by
 refine⟨?_,fun h=>?_⟩
 ·unfold Rq.ok
  rw[decide_eq_true J,decide_eq_true L,decide_eq_true H,decide_eq_true I,decide_eq_true G,decide_eq_true M,<- A];by_cases E:r.labels.size<=400<;>by_cases F:r.scope.size<=400<;>simp[E,F,Nat.not_lt.2,Nat.lt_of_not_le]<;>omega
 ·rw[<- A] at h
  simp only[Bool.false_or,Bool.or_eq_false_iff,decide_eq_false_iff_not] at h;have C:∀ a b:Int,jac [a,b]=jac [a]++jac [b]:=fun a b=>jav [a] [b]
  have D:∀ a b c d:Int,jac [a,b,c,d]=jac [a]++(jac [b]++(jac [c]++jac [d])):=fun a b c d =>
   (jav [a] [b,c,d]).trans (by rw[show jac [b,c,d]=jac [b]++jac [c,d] from jav [b] [c,d],C c d])
  unfold jbl Rq.B;rw[if_neg h.1,if_neg h.2,C,C,D];simp only[List.nil_append,List.append_assoc]
theorem jfO (I E A G C H:Int) (D J:ByteArray) (items:List (Nat × Int)) (tens:List Int) (O N:Nat) (z:Option Addr) (ic:Nat) (ta:Option Addr) (tc:Nat) (w:World) (o0:0<=I) (o1:I<=255) (k0:0<=A) (k1:A<=255) (i1:O<=50) (t1:N<=8)
  (hw:Rq.Wf ⟨I,E,D,J,A,items,G,C,H,tens⟩) (hl:D.size<4294967281) (hs:J.size<4294967281) (hI:SlE ja1 2 w.heap.size w z O items) (hT:SlE jca 1 w.heap.size w ta N tens) :
  CR 15 #[.agg #[.int .i64 I,.int .u64 E,.string D,.string J,.int .i64 A,.slice z O ic,.int .u64 G,.int .u64 C,.int .u64 H,.slice ta N tc]] w (.tuple #[.string (if Rq.ok ⟨I,E,D,J,A,items,G,C,H,tens⟩ then ⟨(Rq.B ⟨I,E,D,J,A,items,G,C,H,tens⟩).toArray⟩ else ⟨#[]⟩),.int .i64 (if Rq.ok ⟨I,E,D,J,A,items,G,C,H,tens⟩ then 0 else 200)]):=by
 obtain⟨RS,n⟩:∃ RS:ByteArray,(if Rq.ok ⟨I,E,D,J,A,items,G,C,H,tens⟩ then (⟨(Rq.B ⟨I,E,D,J,A,items,G,C,H,tens⟩).toArray⟩:ByteArray) else ⟨#[]⟩)=RS:=⟨_,rfl⟩;obtain⟨RE,m⟩:∃ RE:Int,(if Rq.ok ⟨I,E,D,J,A,items,G,C,H,tens⟩ then (0:Int) else 200)=RE:=⟨_,rfl⟩;rw[n,m];have ar:=Lib.hid n;have aq:=Lib.hid m;have aa:=Lib.hid (fun bd S P=>jfx ⟨I,E,D,J,A,items,G,C,H,tens⟩ o0 o1 k0 k1 S P (bd:=bd));clear n m;obtain⟨W0,ax,o,au,aw⟩:=jab w #[.int .i64 I,.int .u64 E,.string D,.string J,.int .i64 A,.slice z O ic,.int .u64 G,.int .u64 C,.int .u64 H,.slice ta N tc] 48;obtain⟨c0,c1,c2,c3,c4,c5,c6,c7,c8,c9⟩:=jb3 o;obtain⟨V,ay,q,Y,y⟩:=jab W0 #[.pointer none,.slice none 0 0,.bool false] 106;rw[aw] at q Y y;have R:=known Y (by omega) o;obtain⟨d0,d1,d2,d3,d4,d5,d6,d7,d8,d9⟩:=jb3 R;have HZ:Hid (V.heap.size=w.heap.size+1+1):=y;have P1:Hid (PQ (w.heap.size+1) (w.heap.size+1) [] false V V):=⟨.inl ⟨Nat.le_refl _,_,q,World.ownsRowF_nil _ _ _ _,(by simp[Value.ownBlock])⟩,WK.refl _ _ _⟩;have HR:Hid (∀ W,WK (w.heap.size+1) (w.heap.size+1) V W->W.heap[w.heap.size]? = some (.cells #[.int .i64 I,.int .u64 E,.string D,.string J,.int .i64 A,.slice z O ic,.int .u64 G,.int .u64 C,.int .u64 H,.slice ta N tc] 48 (0,0))):=fun W v=>(v.1.block _ (by omega)).trans R
 have T:Hid (∀ W,WK (w.heap.size+1) (w.heap.size+1) V W->Bw w W):=fun W v=>(au.trans (Y.mono (by omega))).trans (v.1.mono (by omega))
 have HI:=Lib.hid hI;have HT:=Lib.hid hT;have HW:=Lib.hid hw;have ai:=hI.1;have ak:=hT.1;have Q:=Lib.hid ai;have ac:=Lib.hid ak;clear o q R y Y hI hT ai ak;go_enter Tryz.func15,Tryz.ntmps15;go_wp2_with fail;refine (jg9 I E P1.out ⟨o0,by omega⟩ hw.now (Nat.zero_le _) (by rw[HZ.out];omega)).mono ?_;rintro e w2 ⟨rfl,j⟩;have F:Hid (w.heap.size+1<=V.heap.size):=by rw[Hid,HZ.out];omega
 have r:=HR.out w2 j.wk;have e2:w2.cell? ⟨w.heap.size,2,none⟩=some (.string D):=cCc r 2;have e3:w2.cell? ⟨w.heap.size,3,none⟩=some (.string J):=cCc r 3;have P2:=Lib.hid j;have L2:Hid (([]++jac [I,E]:List UInt8).length<=18):=(jao [I,E]).2;clear j r c0 c1 c2 c3 c4 c5 c6 c7 c8 c9 d0 d1 d2 d3 d4 d5 d6 d7 d8 d9 P1;go_wp2_with fail;refine (jiJ D J P2.out hl hs (Nat.le_trans L2.out (by omega)) F.out).mono ?_;rintro e w3 ⟨rfl,l⟩;have s:=HR.out w3 l.wk;have e4:w3.cell? ⟨w.heap.size,4,none⟩=some (.int .i64 A):=cCc s 4;have e5:w3.cell? ⟨w.heap.size,5,none⟩=some (.slice z O ic):=cCc s 5;have P3:=Lib.hid l
 have L3:Hid ((([]++jac [I,E])++(jbl D++jbl J):List UInt8).length<=900):=by
  have S:=L2.out;have P:=jbE D;have h3:=jbE J;have h4:∀ a b c:List UInt8,(a++(b++c)).length=a.length+(b.length+c.length):=fun a b c=>by simp
  rw[Hid,h4];omega
 clear l s e2 e3 P2;go_wp2_with fail;refine (jg9 A (O:Int) P3.out ⟨k0,by omega⟩ ⟨by omega,by omega⟩ (Nat.le_trans L3.out (by omega)) F.out).mono ?_;rintro e w4 ⟨rfl,Z⟩;have af:=HR.out w4 Z.wk;have e6:w4.cell? ⟨w.heap.size,5,none⟩=some (.slice z O ic):=cCc af 5;obtain⟨bd,t⟩:∃ bd,(false||(decide (400<D.size)||decide (400<J.size)))=bd:=⟨_,rfl⟩;obtain⟨X,d⟩:∃ X,([]++jac [I,E]++(jbl D++jbl J)++jac [A,(O:Int)])=X:=⟨_,rfl⟩
 have L4:Hid (X.length<=918):=by
  have S:=L3.out;have P:=(jao [A,(O:Int)]).2;rw[Hid,<- d,List.length_append];exact Nat.add_le_add S P
 rw[t,d] at Z;have P4:=Lib.hid Z;have ap:=Lib.hid d;have ao:=Lib.hid t;clear Z af e4 e5 P3 t d;go_wp2_with fail;go_loopw [65] (fun i wr=>∃ (k:Nat),i=.int .i64 k/\k<=O/\Hid (PQ (w.heap.size+1) (w.heap.size+1) (X++(items.take k).flatMap jcd) bd V wr)) (fun i _=>O-(intOf i).toNat)
 case atStart=>exact⟨0,rfl,Nat.zero_le _,by rw[Hid,List.take_zero];simp;exact P4.out⟩
 case round =>
  obtain⟨k,rfl,v,HP⟩:=hrel;by_cases av:k<O
  ·obtain⟨x,hx⟩:∃ x,items[k]? = some x:=⟨_,List.getElem?_eq_getElem (by rw[<- Q.out];exact av)⟩
   obtain⟨b1,o1,rfl,ah,hc⟩:=HI.out.2 k x hx;have g:=T.out wr HP.out.wk;have c0:wr.cell? ⟨b1,o1+k*2,none⟩=some (.int .u64 x.1):=(g.cell (p:=⟨b1,o1+k*2,none⟩) ah).trans (hc 0 (by omega));have c1:wr.cell? ⟨b1,o1+k*2+1,none⟩=some (.int .u64 x.2):=(g.cell (p:=⟨b1,o1+k*2+1,none⟩) ah).trans (hc 1 (by omega));obtain⟨W5,az,L,ad,-⟩:=jab wr #[.int .u64 x.1,.int .u64 x.2] 110;obtain⟨d0,d1⟩:=cl2 L;have HX:=Lib.hid hx;have u:=HW.out.items x (List.mem_of_getElem? hx)
   have HN:=Lib.hid (jg9 (x.1:Int) x.2 (HP.out.go ad F.out) u.1 u.2 (by
    have S:=L4.out;have P:=jce (items.take k);rw[List.length_take] at P;rw[List.length_append];omega) F.out)
   clear g hc hx u L ad;go_wp2_with fail;refine HN.out.mono ?_;rintro e w6 ⟨rfl,ae⟩
   have FI:Hid (PQ (w.heap.size+1) (w.heap.size+1) (X++(items.take (k+1)).flatMap jcd) bd V w6):=by
    rw[Hid,jaq HX.out,List.flatMap_append,<- List.append_assoc];simp only[List.flatMap_cons,List.flatMap_nil,List.append_nil];exact ae
   clear ae HN;go_wp2_with fail;go_roundw
   case rel=>exact⟨k+1,by go_num,by omega,FI⟩
   case measure=>simp[intOf];omega
  ·obtain rfl:k=O:=by omega
   have P5:Hid (PQ (w.heap.size+1) (w.heap.size+1) (X++items.flatMap jcd) bd V wr):=by
    have h:=HP.out;rw[List.take_of_length_le (by rw[<- Q.out];exact Nat.le_refl _)] at h;exact h
   have L:=HR.out wr P5.out.wk;have e1:wr.cell? ⟨w.heap.size,6,none⟩=some (.int .u64 G):=cCc L 6;have e2:wr.cell? ⟨w.heap.size,7,none⟩=some (.int .u64 C):=cCc L 7;have e3:wr.cell? ⟨w.heap.size,8,none⟩=some (.int .u64 H):=cCc L 8;have e4:wr.cell? ⟨w.heap.size,9,none⟩=some (.slice ta N tc):=cCc L 9
   have L5:Hid ((X++items.flatMap jcd).length<=1900):=by
    have S:=L4.out;have P:=jce items;rw[<- Q.out] at P;rw[Hid,List.length_append];omega
   have HN:=Lib.hid (jiZ G C H (N:Int) P5.out HW.out.h HW.out.tnt HW.out.id ⟨by omega,by omega⟩ (Nat.le_trans L5.out (by omega)) F.out);clear L HP P4;go_wp2_with fail;refine HN.out.mono ?_;rintro e w7 ⟨rfl,M⟩;have e5:w7.cell? ⟨w.heap.size,9,none⟩=some (.slice ta N tc):=cCc (HR.out w7 M.wk) 9
   have L7:Hid ((X++items.flatMap jcd++jac [G,C,H,(N:Int)]).length<=2000):=by
    have S:=L5.out;have P:=(jao [G,C,H,(N:Int)]).2;rw[Hid,List.length_append];have h3:[G,C,H,(N:Int)].length=4:=rfl;omega
   have ab:=Lib.hid (jd4 (w.heap.size+1) (w.heap.size+1) _ bd tens ta N tc w7 M.wx (fun w' v=>(HT.out.below (T.out w' (M.wk.trans v))).mono (T.out w' (M.wk.trans v)).size) HW.out.tens (by have:=L7.out;omega) (Nat.le_trans F.out M.wk.1.size));have P7:=Lib.hid M;clear M HN e1 e2 e3 e4;go_wp2_with fail;refine ab.out.mono ?_;rintro e w8 ⟨rfl,al,aj⟩
   have U:=(jgR (w.heap.size+1) (w.heap.size+1) _ bd w8 al (fun h=>by
    have S:=(jao [G,C,H,(N:Int)]).1;have P:=congrArg List.length h;rw[List.length_append,List.length_append] at P;have h3:[G,C,H,(N:Int)].length=4:=rfl;have h4:([]:List UInt8).length=0:=rfl;omega))
   have f:(if bd then (⟨#[]⟩:ByteArray) else ⟨(X++items.flatMap jcd++jac [G,C,H,(N:Int)]++jac tens).toArray⟩)=RS/\(if bd then (200:Int) else 0)=RE:=by
    obtain⟨S,P⟩:=aa.out bd (by rw[<- Q.out];exact i1) (by rw[<- ac.out];exact t1) ao.out;rw[<- ar.out,<- aq.out,S]
    cases bd with
    | true=>exact⟨rfl,rfl⟩
    | false =>
     rw[<- P rfl,<- ap.out,ac.out,Q.out];exact⟨rfl,rfl⟩
   rw[f.1,f.2] at U;have U:=Lib.hid U;have am:Hid (Bw w w8):=T.out w8 (P7.out.wk.trans aj);clear al aj ab f;go_wp2_with fail;refine U.out.mono ?_;rintro e w9 ⟨rfl,ag⟩;have an:Hid (Bw w w9):=am.out.trans (ag.mono (by omega));clear ag;go_wp2_with fail;go_ret2;exact⟨rfl,an.out⟩
theorem jc4 (r:Rq) (A:Option Addr) (C:Nat) (ta:Option Addr) (D:Nat) (w:World) (I:r.Wf) (G:r.labels.size<4294967281) (H:r.scope.size<4294967281) (E:SlE ja1 2 w.heap.size w A r.items.length r.items) (F:SlE jca 1 w.heap.size w ta r.tens.length r.tens) :
  CR 15 #[.agg (rqV r A C ta D)] w (.tuple #[.string (if r.ok then ⟨r.B.toArray⟩ else ⟨#[]⟩),.int .i64 (if r.ok then 0 else 200)]):=by
 by_cases h:r.op<0\/255<r.op\/r.kind<0\/255<r.kind\/50<r.items.length\/8<r.tens.length
 ·rw[Rq.notOk h]
  exact je7 r A C ta D w h
 ·exact jfO r.op r.now r.kind r.h r.tnt r.id r.labels r.scope r.items r.tens r.items.length r.tens.length A C ta D w (by omega) (by omega) (by omega) (by omega) (by omega) (by omega) I G H E F
end Go.Proofs.YtlmlcadcdhhlcaaGreatDoor
