/- The reference of layer 5 in plain data: a text's runes as texts, patterns, terms. No program in sight. The reference of layer 4: List, Runes, isValue. References: ref04.Get; ref05.term. The reference of layer 5: terms. The reference of layer 4: Less. The reference of layer 4: Right. jcs as the reference of layer 15 says which are right: no number is bounded but the last. No program in sight. -/
import Derived.Test.YtafhpamnegmilaaGreatDoorYFB
set_option maxHeartbeats 4000000
set_option maxRecDepth 100000
namespace Go.Proofs.YtafhpamnegmilaaGreatDoor
open Go Go.RowKit
theorem jcb (l:List UInt8) (n k:Nat) (h:k<n):(l.take n).getD k 0=l.getD k 0:=by
 rw[List.getD_eq_getElem?_getD,List.getD_eq_getElem?_getD,List.getElem?_take_of_lt h]
theorem jhY (l:List UInt8) (F:l≠[]) (H:jfo l=false):Lib.decodeL (l.take (Lib.decodeL l).2)=Lib.decodeL l:=by
 have L:=(jkU l F H).2.1;have A:¬ ((Lib.decodeL l).1=65533/\(Lib.decodeL l).2=1):=by rw[<- jhA,H];decide
 have J:(l.take (Lib.decodeL l).2).length=(Lib.decodeL l).2:=by rw[List.length_take];omega
 rw[Lib.decodeL_N (l.take _),J];rw[Lib.decodeL_N] at A ⊢;rcases Lib.decodeN_shape l.length (l.getD 0 0).toNat (l.getD 1 0).toNat (l.getD 2 0).toNat (l.getD 3 0).toNat with⟨c,e⟩ | ⟨B,G,C,D,e⟩ | ⟨B,G,C,E,D,cs,e⟩ | ⟨B,G,C,E,I,D,M,e⟩ | e
 ·rw[e]
  dsimp only;rw[jcb l 1 0 (by omega)];unfold Lib.decodeN;rw[if_pos c]
 ·rw[e]
  dsimp only;rw[jcb l 2 0 (by omega),jcb l 2 1 (by omega)];unfold Lib.decodeN;rw[if_neg (by omega),if_pos ⟨B,by omega,C⟩,if_pos D]
 ·rw[e]
  dsimp only;rw[jcb l 3 0 (by omega),jcb l 3 1 (by omega),jcb l 3 2 (by omega)];unfold Lib.decodeN;rw[if_neg (by omega),if_neg (by omega),if_pos ⟨B,⟨by omega,C⟩,by omega,E⟩,if_pos ⟨D,by omega⟩]
 ·rw[e]
  dsimp only;rw[jcb l 4 0 (by omega),jcb l 4 1 (by omega),jcb l 4 2 (by omega),jcb l 4 3 (by omega)];unfold Lib.decodeN;rw[if_neg (by omega),if_neg (by omega),if_neg (by omega),if_pos ⟨B,⟨by omega,C⟩,⟨by omega,E⟩,by omega,I⟩,if_pos ⟨D,by omega⟩]
 ·rw[e] at A
  exact absurd ⟨rfl,rfl⟩ A
def jej (l:List UInt8):List UInt8:=l.take (Lib.decodeL l).2
theorem jlF (l:List UInt8) (A:l≠[]) (B:jfo l=false):jej l=Lib.encodeRune ((Lib.decodeL l).1:Int):=(Lib.encode_decode l A (by rw[<- jhA,B];decide)).symm
theorem jlG (l m:List UInt8) (D:l≠[]) (E:m≠[]) (A:jfo l=false) (B:jfo m=false):jej l=jej m↔(Lib.decodeL l).1=(Lib.decodeL m).1:=by
 constructor
 ·intro h
  have C:=jhY l D A;have F:=jhY m E B;unfold jej at h;rw[h] at C;rw[<- C,F]
 ·intro h
  rw[jlF l D A,jlF m E B,h]
theorem jm7 (l:List UInt8) (C:l≠[]) (B:jfo l=false) (b:UInt8) (h:b.toNat<128):jej l=[b]↔(Lib.decodeL l).1=b.toNat:=by
 have e:Lib.decodeL [b]=(b.toNat,1):=by
  rcases jdY [b] with⟨-,e⟩ | ⟨e,-⟩ | ⟨e,-⟩
  ·exact e
  ·exact absurd e (by show ¬ 128<=b.toNat;omega)
  ·exact absurd e (by show ¬ 128<=b.toNat;omega)
 have A:jfo [b]=false:=by
  unfold jfo;rw[e,Bool.and_eq_false_iff];left;exact beq_eq_false_iff_ne.2 (by show b.toNat≠65533;omega)
 have:=jlG l [b] C (by simp) B A;rw[e] at this;unfold jej at this;rw[e] at this;exact this
def joG (s:ByteArray) (pos:Nat):List (List UInt8):=(rl s pos).map fun p=>jej (s.data.toList.drop p.1)
theorem jmB (s:ByteArray) (A:Nat) (h:A<s.size):joG s A=jej (s.data.toList.drop A)::joG s (A+(Lib.decodeL (s.data.toList.drop A)).2):=by
 unfold joG;rw[jeX s A h,List.map_cons,Lib.decodeL_drop]
theorem jk2 (s:ByteArray) (A:Nat) (h:¬ A<s.size):joG s A=[]:=by
 unfold joG;rw[jgr s A h];rfl
theorem joH (s:ByteArray) (A:Nat):(joG s A).length=(rl s A).length:=by unfold joG;rw[List.length_map]
theorem jpY (s:ByteArray):∀ (k A:Nat),s.size-A<=k->jgo s A=true->∀ i:Nat,∀ t,(joG s A)[i]? = some t->∃ l:List UInt8,l≠[]/\jfo l=false/\t=jej l/\(jaJ s A)[i]? = some ((Lib.decodeL l).1:Int):=by
 intro k
 induction k with
 | zero =>
  intro A F _ i t ht;rw[jk2 s A (by omega)] at ht
  cases ht
 | succ k ih =>
  intro A F B i t ht;by_cases D:A<s.size
  ·rw[jiq s A D,Bool.and_eq_true] at B
   obtain⟨E,B⟩:=B;have E:jfo (s.data.toList.drop A)=false:=by simpa using E
   have C:s.data.toList.drop A≠[]:=by
    intro e;have:=jke s A;rw[e] at this;exact absurd this (by simp;omega)
   obtain⟨G,-,-⟩:=jkU _ C E;rw[jmB s A D] at ht;rw[jfJ s A D,<- Lib.decodeL_drop]
   cases i with
   | zero =>
    injection ht with ht
    exact⟨_,C,E,ht.symm,rfl⟩
   | succ i=>exact ih _ (by omega) B i t ht
  ·rw[jk2 s A D] at ht
   cases ht
def jcz (p:ByteArray):Bool:=(if jav p then !(jar false (jaJ p 0)).2 else true)&&jcH p
theorem jjO {p:ByteArray} (h:jcH p=true):jav p=true:=by
 unfold jcH jal jdF jbc at h;simp only[Bool.and_eq_true] at h;exact h.2.1.2.1.1
theorem jid (p:ByteArray):jcz p=jgk p:=by
 unfold jcz jgk jbY
 cases h:jcH p
 ·simp
 ·rw[jjO h]
  cases (jar false (jaJ p 0)).2<;>simp
def jbo (s:ByteArray):ByteArray × ByteArray:=if (jfp s).2.2 then ((jfp s).1,(jfp s).2.1) else (⟨#[]⟩,⟨#[]⟩)
def jp7:ByteArray->List jb4->Bool
 | _,[]=>true
 | last,x::xs=>jdH (jbo x.1).1&&jcz (jbo x.1).2 && !decide (0<=jdi last.data.toList (jbo x.1).1.data.toList)&&jp7 (jbo x.1).1 xs
def jce (s:jb4):Bool:=s.1.size==0||(jp7 (⟨#[]⟩:ByteArray) (jbC s)&&decide ((jbC s).length<=4))
theorem jnD:jdH (⟨#[]⟩:ByteArray)=false:=by
 unfold jdH jal jdF jbQ;rfl
theorem jnw (x:jb4) (A:List Term) (B:ByteArray):jbI x (A,B)=if jdH (jbo x.1).1&&jcz (jbo x.1).2 && !decide (0<=jdi B.data.toList (jbo x.1).1.data.toList)&&decide (A.length≠4) then some (A++[⟨(jbo x.1).1,(jbo x.1).2⟩],(jbo x.1).1) else none:=by
 unfold jbI jbo
 cases h:(jfp x.1).2.2
 ·simp[jnD]
 ·simp only[if_true,Bool.not_true,Bool.false_or]
  rw[jid,joo];unfold jfO;rw[Lib.toList_data,Lib.toList_data]
  have e:((A.length:Int)==4) = !decide (A.length≠4):=by
   by_cases C:A.length=4
   ·rw[C];rfl
   ·rw[decide_eq_true C,beq_eq_false_iff_ne.2 (by omega)];rfl
  rw[e];generalize decide (A.length≠4)=b1;generalize jdH (jfp x.1).1=b2;generalize jgk (jfp x.1).2.1=b3;generalize (Op.bytesLess (jfp x.1).1.data.toList B.data.toList||(jfp x.1).1.data.toList==B.data.toList)=b4
  cases b1<;>cases b2<;>cases b3<;>cases b4<;>rfl
theorem jwY (l:List jb4):∀ (A:List Term) (B:ByteArray),A.length<=4->(l.foldl (fun F x=>F.bind (jbI x)) (some (A,B))).map (·.1)=if jp7 B l&&decide (A.length+l.length<=4) then some (A++l.map fun x=>⟨(jbo x.1).1,(jbo x.1).2⟩) else none:=by
 induction l with
 | nil=>intro A B h;simp[jp7,h]
 | cons x xs ih =>
  intro A B h;rw[List.foldl_cons,Option.bind_some,jnw];unfold jp7;by_cases E:(jdH (jbo x.1).1&&jcz (jbo x.1).2 && !decide (0<=jdi B.data.toList (jbo x.1).1.data.toList))=true
  ·rw[E,Bool.true_and,Bool.true_and]
   by_cases D:A.length=4
   ·rw[if_neg (by simp[D]),jdX,if_neg]
    ·rfl
    ·simp only[Bool.and_eq_true,decide_eq_true_iff,List.length_cons];omega
   ·rw[if_pos (by simp[D]),ih _ _ (by simp;omega)]
    have e:decide ((A++[(⟨(jbo x.1).1,(jbo x.1).2⟩:Term)]).length+xs.length<=4)=decide (A.length+(x::xs).length<=4):=decide_eq_decide.2 (by simp;omega);rw[e];simp
  ·have C:=Bool.eq_false_iff.2 E
   rw[C,Bool.false_and,Bool.false_and,Bool.false_and,if_neg (by decide),if_neg (by decide),jdX];rfl
theorem jnt (s:jb4):jfq s=if jce s then some (if s.1.size==0 then [] else (jbC s).map fun x=>⟨(jbo x.1).1,(jbo x.1).2⟩) else none:=by
 unfold jfq jce
 cases h:(s.1.size==0)
 ·rw[if_neg (by decide),Bool.false_or]
  unfold jd7;rw[jwY _ _ _ (by simp)];simp only[List.length_nil,Nat.zero_add,List.nil_append,Bool.false_eq_true,if_false]
 ·rfl
section
open Go.Shelf
def GrowT (W:World) (base:Nat) (v:Value) (l:List ByteArray):Prop:=W.ownsRow base 9 1 v l.length (l.map Value.string)
theorem GrowT.push {W F:World} {B A:Nat} {v:Value} {l:List ByteArray} (h:GrowT W A v l) (M:Below B F W) (E:B<=A) (C:A<=W.heap.size) (N:l.length<4294967281) (x:ByteArray) :
  ∃ g cap D,(Builtin.append_ #[106,106] 106 #[v,.slice (some ⟨W.heap.size,0,none⟩) 1 1]).run Tryz.prog (W.alloc (.cells #[.string x] 9))=.ok (.slice (some ⟨g,0,none⟩) (l.length+1) cap) D /\
   GrowT D A (.slice (some ⟨g,0,none⟩) (l.length+1) cap) (l++[x])/\Below B F D/\W.heap.size<D.heap.size/\(∀ k,k<A->D.heap[k]? = W.heap[k]?):=by
 obtain⟨g,cap,D,G,H,I,J,L,-⟩:=jaL Tryz.prog 106 jhG jhC rfl (by decide) (W:=W) h M E C [.string x] rfl (by simp[Value.oneCell']) N (by decide);refine⟨g,cap,D,G,?_,I,J,L⟩;unfold GrowT;rw[List.length_append,List.map_append];exact H
theorem jvC (l:List ByteArray):l.flatMap jf6=l.map Value.string:=by
 induction l with
 | nil=>rfl
 | cons x xs ih=>rw[List.flatMap_cons,ih];rfl
theorem GrowT.slC {W:World} {A:Nat} {v:Value} {l:List ByteArray} (h:GrowT W A v l):∃ a cap,v=.slice a l.length cap/\SlC jf6 1 W.heap.size W a l.length cap l:=by
 have B:W.ownsRow A 9 1 v l.length (l.flatMap jf6):=by rw[jvC];exact h
 obtain⟨a,cap,D,C,-⟩:=jaz (enc:=jf6) (fun _=>rfl) B;exact⟨a,cap,D,C⟩
theorem GrowT.form {W:World} {A:Nat} {v:Value} {l:List ByteArray} (h:GrowT W A v l):∃ a cap,v=.slice a l.length cap:=jjJ h
theorem GrowT.go {A B:World} {C:Nat} {v:Value} {l:List ByteArray} (h:GrowT A C v l) (D:Bw A B):GrowT B C v l:=jgq h D
def jey (s:ByteArray):List (List UInt8):=if jav s then joG s 0 else []
def jec (s:ByteArray) (w:World) (e:Ending) (w':World):Prop :=
 ∃ a cap,∃ l:List ByteArray,e=.returned (.tuple #[.slice a l.length cap,.bool (jav s)])/\l.map (·.data.toList)=jey s/\SlC jf6 1 w'.heap.size w' a l.length cap l/\Bw w w'
theorem jeg (s:ByteArray) (A:Nat):(s.extract A s.size).data.toList=s.data.toList.drop A:=by
 rw[ByteArray.data_extract,Array.toList_extract,List.extract_eq_take_drop];exact List.take_of_length_le (by rw[List.length_drop,Array.length_toList];exact Nat.le_refl _)
theorem jqO (s:ByteArray) (A n:Nat):(s.extract A s.size).extract n (s.extract A s.size).size=s.extract (A+n) s.size:=by
 apply ByteArray.ext;apply Array.ext';rw[jeg,jeg,jeg,List.drop_drop]
theorem jod (s:ByteArray) (A n:Nat):((s.extract A s.size).extract 0 n).data.toList=(s.data.toList.drop A).take n:=by
 rw[ByteArray.data_extract,Array.toList_extract,List.extract_eq_take_drop,List.drop_zero,Nat.sub_zero,jeg]
attribute [-go_sem] Builtin.append_
theorem jcQ (s:ByteArray) (w:World) (hs:s.size<4294967281) :
  Calls Tryz.prog 122 #[.string s] w (jec s w):=by
 have j:Hid (jav s=jgo s 0):=rfl;have Z:Hid (jey s=if jav s then joG s 0 else []):=rfl;have H:∀ e w',jec s w e w'=∃ a cap,∃ l:List ByteArray,e=.returned (.tuple #[.slice a l.length cap,.bool (jav s)])/\l.map (·.data.toList)=jey s/\SlC jf6 1 w'.heap.size w' a l.length cap l/\Bw w w':=fun _ _=>rfl
 have H:=Lib.hid H;generalize jec s w=Q at H ⊢;generalize jav s=R at j Z H;generalize jey s=T at Z H;have h:GrowT w w.heap.size (.slice none 0 0) []:=⟨rfl,.inl ⟨rfl,rfl⟩⟩;go_enter Tryz.func122,Tryz.ntmps122;go_wp2_with fail;go_loopw [0,4] (fun i v wr=>∃ (A:Nat) (done:List ByteArray),i=.string (s.extract A s.size)/\A<=s.size/\Bw w wr/\Hid (GrowT wr w.heap.size v done/\done.length<=A/\R=jgo s A/\joG s 0=done.map (·.data.toList)++joG s A)) (fun i _ _=>match i with | .string t=>t.size | _=>0)
 case atStart=>exact⟨0,[],by rw[ByteArray.extract_zero_size],Nat.zero_le _,Below.refl _ _,h,Nat.le_refl _,j.out,rfl⟩
 case round =>
  obtain⟨A,done,rfl,k,O,E⟩:=hrel;obtain⟨x,y,rfl⟩:=E.out.1.form;have X:(s.extract A s.size).size=s.size-A:=by rw[ByteArray.size_extract,Nat.min_self]
  have N:=Lib.hid (jeg s A);have L:=Lib.hid (jqO s A);have M:=Lib.hid (jod s A);generalize s.extract A s.size=t at X N L M ⊢;by_cases G:A<s.size
  ·have p:0<t.size:=by omega
   have o:t.toList.isEmpty=false:=by rw[jbr,beq_eq_false_iff_ne];omega
   have B:=jjc t wr p (by omega);rw[N.out] at B;have C:=jiq s A G;have V:s.data.toList.drop A≠[]:=by intro e;have:=jke s A;rw[e] at this;exact absurd this (by simp;omega)
   have Y:=Lib.hid (jkU _ V);have D:=jmB s A G;have U:=jke s A;unfold joM at B;unfold jej at D;generalize (Lib.decodeL (s.data.toList.drop A)).2=d at B Y C D
   cases S:jfo (s.data.toList.drop A) with
   | true =>
    rw[S] at B C;simp only[if_true] at B;have I:Hid (R=false):=by rw[Hid,E.out.2.2.1,C];rfl
    clear Y C D S;go_wp2_with (go_at_call 157;refine B.mono ?_;rintro e w' ⟨rfl,F⟩);rw[H.out];exact⟨none,0,[],by rw[I.out];rfl,by rw[Z.out,I.out];rfl,SlC.nil,O.trans (F.mono O.size)⟩
   | false =>
    rw[S] at B C;simp only[Bool.false_eq_true,if_false] at B;obtain⟨z1,z,-⟩:=Y.out S;rw[U] at z;have e2:((d:Int)==0)=false:=by rw[beq_eq_false_iff_ne];omega
    have b:Hid (R=jgo s (A+d)):=by rw[Hid,E.out.2.2.1,C];rfl
    have m:=Lib.hid D;have i1:(d:Int)<=(t.size:Int):=by omega
    have i2:(0:Int)<=(d:Int):=by omega
    clear Y C D S V U;go_wp2_with (go_at_call 157;refine B.mono ?_;rintro e w' ⟨rfl,F⟩;have J:=Lib.hid (O.trans (F.mono O.size));obtain⟨g,cap,w5,r,P,f,u,-⟩:=(E.out.1.go F).push J.out (Nat.le_refl _) J.out.size (by have:=E.out.2.1;omega) (t.extract 0 d);have c:=Lib.hid P;clear P);go_roundw
    case rel =>
     refine⟨A+d,done++[t.extract 0 d],by rw[<- X,L.out],by omega,f,?_,by rw[List.length_append];have:=E.out.2.1;simp;omega,b.out,?_⟩
     ·exact c.out
     ·rw[E.out.2.2.2,m.out,List.map_append,List.append_assoc]
      show _=_++([(t.extract 0 d).data.toList]++_);rw[M.out];rfl
    case measure =>
     show (t.extract d (s.size-A)).size<t.size;rw[ByteArray.size_extract];omega
  ·have h9:A=s.size:=by omega
   have o:t.toList.isEmpty=true:=by rw[jbr,beq_iff_eq];omega
   have I:Hid (R=true):=by rw[Hid,E.out.2.2.1,jpB s A G]
   have b:Hid (joG s 0=done.map (·.data.toList)):=by rw[Hid,E.out.2.2.2,jk2 s A G,List.append_nil]
   go_wp2_with fail;rw[H.out];obtain⟨a',c',n,q⟩:=E.out.1.slC
   cases n
   exact⟨x,y,done,by rw[I.out];rfl,by rw[Z.out,I.out,b.out];rfl,q,O⟩
theorem jrm (s:ByteArray):((jey s).length:Int)=jcW s:=by
 unfold jey jcW
 cases jav s
 ·rfl
 ·rw[if_pos rfl,if_pos rfl,joH]
theorem jit (s:ByteArray) (w:World) (E:s.size<4294967281) :
  CR 154 #[.string s] w (.tuple #[.int .i64 (jcW s),.bool (jav s)]):=by
 have B:=jcQ s w E;have D:=jrm s;go_enter Tryz.func154,Tryz.ntmps154;go_wp2_with (go_at_call 122;refine B.mono ?_;rintro e w' ⟨a,cap,l,rfl,C,-,A⟩);go_ret2;have e:(l.length:Int)=jcW s:=by rw[<- D,<- C,List.length_map]
 exact⟨by rw[<- e];rfl,A⟩
theorem jgM (s:ByteArray) (w:World) (P:s.size<4294967281) :
  CR 116 #[.string s] w (.bool (jbx s)):=by
 have I:Hid (jbx s=((s.data.toList.drop 0).all jch&&(jav s&&decide ((rl s 0).length<=24)))):=rfl;have C:∀ w,_:=fun w=>jit s w P
 have D:Hid (jav s=true->jcW s=((rl s 0).length:Int)):=fun h=>by unfold jcW;rw[if_pos h]
 generalize jbx s=R at I ⊢;generalize jcW s=n at C D;generalize jav s=b at C D I;have G:=Lib.hid C;clear C;go_enter Tryz.func116,Tryz.ntmps116;go_wp2_with fail;go_loopw [3] (fun i wr=>∃ (k:Nat),i=.int .i64 k/\k<=s.size/\Bw w wr/\Hid (R=((s.data.toList.drop k).all jch&&(b&&decide ((rl s 0).length<=24))))) (fun i _=>s.size-(intOf i).toNat)
 case atStart=>exact⟨0,rfl,Nat.zero_le _,Below.refl _ _,I⟩
 case round =>
  obtain⟨k,rfl,S,E,H⟩:=hrel;by_cases A:k<s.size
  ·have J:=Lib.hid (juR jch s k A)
   have T:=UInt8.toNat_lt (s[k]'A);by_cases Q:(s[k]'A).toNat<32
   ·have B:Hid (R=false):=by rw[Hid,H.out,J.out,show jch (s[k]'A)=false by unfold jch;simp;omega];rfl
    go_wp2_with fail;go_ret;exact⟨by rw[B.out];rfl,E⟩
   ·by_cases O:(s[k]'A).toNat=127
    ·have B:Hid (R=false):=by rw[Hid,H.out,J.out,show jch (s[k]'A)=false by unfold jch;rw[O];rfl];rfl
     have N:(((s[k]'A).toNat:Int)==127)=true:=by rw[beq_iff_eq];omega
     go_wp2_with fail;go_ret;exact⟨by rw[B.out];rfl,E⟩
    ·have B:Hid (R=((s.data.toList.drop (k+1)).all jch&&(b&&decide ((rl s 0).length<=24)))):=by rw[Hid,H.out,J.out,show jch (s[k]'A)=true by unfold jch;simp;omega];rfl
     have N:(((s[k]'A).toNat:Int)==127)=false:=by rw[beq_eq_false_iff_ne];omega
     go_wp2_with fail;go_roundw
     case rel=>exact⟨k+1,by go_num,by omega,E,B.out⟩
     case measure=>simp[intOf];omega
  ·have M:=Lib.hid (jeI s k (by omega))
   cases b with
   | false =>
    have B:Hid (R=false):=by rw[Hid,H.out];simp
    go_wp2_with (go_at_call 154;refine (G.out _).mono ?_;rintro e w' ⟨rfl,F⟩);go_ret;exact⟨by rw[B.out];rfl,E.trans (F.mono E.size)⟩
   | true =>
    have L:=D.out rfl
    have B:Hid (R=decide (n<=24)):=by
     rw[Hid,H.out,M.out,L];show decide ((rl s 0).length<=24)=_;exact decide_eq_decide.2 (by omega)
    clear L;go_wp2_with (go_at_call 154;refine (G.out _).mono ?_;rintro e w' ⟨rfl,F⟩);go_ret;exact⟨by rw[B.out];rfl,E.trans (F.mono E.size)⟩
end
section
open Go.Shelf
theorem jrg {l:List Lab} {k:Nat} {x:Lab} (n:ByteArray) (h:l[k]? = some x):ja5 (l.drop k) n=if x.name.toList==n.toList then some x.value else ja5 (l.drop (k+1)) n:=by
 rw[jat h];rfl
theorem jkI (a:Option Addr) (len cap:Nat) (l:List Lab) (n:ByteArray) (w:World) (h:SlE Lab.enc 2 w.heap.size w a len l) (M:len<=maxLen) :
  CR 71 #[.slice a len cap,.string n] w (.tuple #[.string ((ja5 l n).getD ⟨#[]⟩),.bool (ja5 l n).isSome]):=by
 have J:=Lib.hid h.1;unfold maxLen at M;have E:Hid (ja5 l n=ja5 (l.drop 0) n):=rfl;generalize ja5 l n=R at E ⊢;go_enter Tryz.func71,Tryz.ntmps71;go_wp2_with fail;go_loopw [6] (fun i wr=>∃ (k:Nat),i=.int .i64 k/\k<=len/\Bw w wr/\Hid (R=ja5 (l.drop k) n)) (fun i _=>len-(intOf i).toNat)
 case atStart=>exact⟨0,rfl,Nat.zero_le _,Below.refl _ _,E⟩
 case round =>
  obtain⟨k,rfl,P,B,G⟩:=hrel;by_cases D:k<len
  ·obtain⟨x,b,off,I,L,O,C⟩:=(h.below B).at D
   subst L;have Q:wr.cell? ⟨b,off+k*2,none⟩=some (.string x.name):=C 0 (by omega);have S:wr.cell? ⟨b,off+k*2+1,none⟩=some (.string x.value):=C 1 (by omega);have i0:(0:Int)<=(k:Int):=by omega
   have N:(k:Int)<(len:Int):=by omega
   have F:Hid (R=if x.name.toList==n.toList then some x.value else ja5 (l.drop (k+1)) n):=by rw[Hid,G.out,jrg n I]
   clear C I h
   cases H:(x.name.toList==n.toList) with
   | true =>
    have A:Hid (R=some x.value):=by rw[Hid,F.out,H];rfl
    go_wp2_with fail;go_ret2;exact⟨by rw[A.out];rfl,B⟩
   | false =>
    have A:Hid (R=ja5 (l.drop (k+1)) n):=by rw[Hid,F.out,H];rfl
    go_wp2_with fail;go_roundw
    case rel=>exact⟨k+1,by go_num,by omega,B,A.out⟩
    case measure=>simp[intOf];omega
  ·have N:¬ (k:Int)<(len:Int):=by omega
   have A:Hid (R=none):=by
    rw[Hid,G.out,List.drop_of_length_le (by have:=J.out;omega)];rfl
   go_wp2_with fail;go_ret2;exact⟨by rw[A.out];rfl,B⟩
theorem jlK (c:UInt8):∀ (l:List UInt8) (k:Nat),l[k]? = some c->(∀ j,j<k->l[j]? ≠ some c)->Lib.index l [c]=(k:Int)
 | [],k,h,_=>by simp at h
 | b::l,0,h,_=>by
  have A:b=c:=by simpa using h
  subst A;simp[Lib.index,List.isPrefixOf]
 | b::l,k+1,h,hn=>by
  have A:¬ c=b:=fun e=>hn 0 (Nat.succ_pos k) (by rw[e];rfl)
  have C:=jlK c l k (by simpa using h) (fun j D=>by have:=hn (j+1) (by omega);simpa using this);have B:((k:Int) == -1)=false:=by rw[beq_eq_false_iff_ne];omega
  simp[Lib.index,List.isPrefixOf,A,C,B]
theorem jok (c:UInt8):∀ (l:List UInt8),(∀ j:Nat,l[j]? ≠ some c)->Lib.index l [c] = -1
 | [],_=>rfl
 | b::l,hn=>by
  have A:¬ c=b:=fun e=>hn 0 (by rw[e];rfl)
  have B:=jok c l (fun j=>by have:=hn (j+1);simpa using this);simp[Lib.index,List.isPrefixOf,A,B]
theorem jgA (s:ByteArray) (j:Nat) (h:j<s.size):s.data.toList[j]? = some (s[j]'h):=by
 rw[List.getElem?_eq_getElem (by rw[Array.length_toList];exact h)];rfl
theorem jwF (s:ByteArray) (k:Nat) (A:k<s.size) (B:s[k]'A=61) (F:∀ j (h:j<s.size),j<k->s[j]'h≠61):jbo s=(s.extract 0 k,s.extract (k+1) s.size):=by
 have D:Lib.index s.data.toList [61]=(k:Int):=jlK 61 _ k (by rw[jgA s k A,B]) (fun j E e=>by
  rw[jgA s j (by omega)] at e;exact F j (by omega) E (Option.some.inj e))
 have C:jfp s=(s.extract 0 k,s.extract (k+1) s.size,true):=by
  unfold jfp Lib.cut;rw[D,if_pos (Int.natCast_nonneg k),Int.toNat_natCast];dsimp only;congr 1
  ·apply ByteArray.ext
   apply Array.ext';rw[ByteArray.data_extract,Array.toList_extract,List.extract_eq_take_drop];simp
  ·congr 1
   apply ByteArray.ext;apply Array.ext';rw[jeg];rfl
 unfold jbo;rw[C];rfl
theorem jtC (s:ByteArray) (C:∀ j (h:j<s.size),s[j]'h≠61):jbo s=(⟨#[]⟩,⟨#[]⟩):=by
 have B:Lib.index s.data.toList [61] = -1:=jok 61 _ (fun j e=>by
  by_cases A:j<s.size
  ·rw[jgA s j A] at e
   exact C j A (Option.some.inj e)
  ·rw[List.getElem?_eq_none (by rw[Array.length_toList];exact Nat.le_of_not_lt A)] at e
   cases e)
 unfold jbo jfp Lib.cut;rw[B,if_neg (show ¬ (0:Int) <= -1 by decide)];rfl
theorem jfu (s:ByteArray) (w:World) (O:s.size<4294967281) :
  Calls Tryz.prog 68 #[.string s] w fun e w'=>e=.returned (.tuple #[.string (jbo s).1,.string (jbo s).2])/\∃ m,w'=w.drewN m:=by
 have I:=Lib.hid (jwF s);have J:=Lib.hid (jtC s);generalize jbo s=T at I J ⊢;go_enter Tryz.func68,Tryz.ntmps68;go_wp2_with fail;go_loopw [4] (fun i wr=>∃ (k:Nat),i=.int .i64 k/\k<=s.size/\(∃ m,wr=w.drewN m)/\Hid (∀ j (h:j<s.size),j<k->s[j]'h≠61)) (fun i _=>s.size-(intOf i).toNat)
 case atStart=>exact⟨0,rfl,Nat.zero_le _,⟨0,rfl⟩,fun j h L=>absurd L (Nat.not_lt_zero j)⟩
 case round =>
  obtain⟨k,rfl,N,C,F⟩:=hrel;by_cases B:k<s.size
  ·have i0:(0:Int)<=(k:Int):=by omega
   have M:(k:Int)<(s.size:Int):=by omega
   have P:=UInt8.toNat_lt (s[k]'B);by_cases A:(s[k]'B).toNat=61
   ·have G:(((s[k]'B).toNat:Int)==61)=true:=beq_iff_eq.2 (by omega)
    have D:Hid (T=(s.extract 0 k,s.extract (k+1) s.size)):=I.out k B (UInt8.toNat_inj.1 A) F.out;have Q:(k:Int)+1<=(s.size:Int):=by omega
    have R:(k:Int)<=(s.size:Int):=by omega
    have S:(0:Int)<=(k:Int)+1:=by omega
    have E:=Lib.hid C;clear A C;go_wp2_with fail;go_quiet (fail);go_wp2_with fail;go_ret2;exact⟨by rw[D.out];rfl,jdK E.out _⟩
   ·have G:(((s[k]'B).toNat:Int)==61)=false:=beq_eq_false_iff_ne.2 (by omega)
    have D:Hid (∀ j (h:j<s.size),j<k+1->s[j]'h≠61):=fun j h L=>by
     by_cases H:j=k
     ·subst H
      intro e;rw[e] at A;exact A rfl
     ·exact F.out j h (by omega)
    have E:=Lib.hid C;clear A C;go_wp2_with fail;go_roundw
    case rel=>exact⟨k+1,by go_num,by omega,E.out,D.out⟩
    case measure=>simp[intOf];omega
  ·have M:¬ (k:Int)<(s.size:Int):=by omega
   have D:Hid (T=(⟨#[]⟩,⟨#[]⟩)):=J.out fun j h=>F.out j h (by omega)
   have E:=Lib.hid C;clear C;go_wp2_with fail;go_ret2;exact⟨by rw[D.out];rfl,E.out⟩
end
section
open Go.Shelf
def jeq (s:jb4) (p:Nat):List ByteArray:=(jbC ⟨s.1.extract p s.1.size,Nat.lt_of_le_of_lt (jcr _ _ _) s.2⟩).map (·.1)
theorem jgj (c:UInt8):∀ (l:List UInt8) (k:Nat),l[k]? = some c->(∀ j:Nat,j<k->l[j]? ≠ some c)->Lib.indexByte l c=(k:Int)
 | [],k,h,_=>by simp at h
 | b::l,0,h,_=>by
  have A:b=c:=by simpa using h
  subst A;simp[Lib.indexByte]
 | b::l,k+1,h,hn=>by
  have A:¬ b=c:=fun e=>hn 0 (Nat.succ_pos k) (by rw[e];rfl)
  have B:=jgj c l k (by simpa using h) (fun j E=>by have:=hn (j+1) (by omega);simpa using this);have C:¬ ((k:Int) = -1):=by omega
  have D:¬ ((k:Int)<0):=by omega
  simp[Lib.indexByte,A,B]
  try omega
theorem jg5 (c:UInt8):∀ (l:List UInt8),(∀ j:Nat,l[j]? ≠ some c)->Lib.indexByte l c<0
 | [],_=>by simp[Lib.indexByte]
 | b::l,hn=>by
  have A:¬ b=c:=fun e=>hn 0 (by rw[e];rfl)
  have B:=jg5 c l (fun j=>by have:=hn (j+1);simpa using this);simp[Lib.indexByte,A]
  try (split<;>omega)
theorem ju8 {a b:jb4} (h:a.1=b.1):(jbC a).map (·.1)=(jbC b).map (·.1):=by rw[Subtype.ext h]
theorem jm4 (s:ByteArray) (p j:Nat):(s.extract p s.size).data.toList[j]? = s.data.toList[p+j]? := by rw[jeg,List.getElem?_drop]
theorem jqP (s:ByteArray) (p i:Nat):(s.extract p s.size).extract 0 (i-p)=s.extract p i:=by
 apply ByteArray.ext;apply Array.ext';rw[jod,ByteArray.data_extract,Array.toList_extract,List.extract_eq_take_drop]
theorem juF (s:jb4) (p i:Nat) (G:p<=i) (A:i<s.1.size) (B:s.1[i]'A=59) (C:∀ j (h:j<s.1.size),p<=j->j<i->s.1[j]'h≠59):jeq s p=s.1.extract p i::jeq s (i+1):=by
 have E:Lib.indexByte (s.1.extract p s.1.size).data.toList 59=((i-p:Nat):Int):=jgj 59 _ _ (by rw[jm4,show p+(i-p)=i by omega,jgA s.1 i A,B]) (fun j F e=>by
  rw[jm4,jgA s.1 (p+j) (by omega)] at e;exact C (p+j) (by omega) (by omega) (by omega) (Option.some.inj e))
 have D:jeu (s.1.extract p s.1.size)=some (i-p):=by
  unfold jeu;rw[E,if_neg (by omega),Int.toNat_natCast]
 unfold jeq;rw[jiV ⟨s.1.extract p s.1.size,Nat.lt_of_le_of_lt (jcr _ _ _) s.2⟩ (i-p) D,List.map_cons];refine List.cons_eq_cons.2 ⟨jqP s.1 p i,ju8 ?_⟩;show (s.1.extract p s.1.size).extract (i-p+1) (s.1.extract p s.1.size).size=s.1.extract (i+1) s.1.size;rw[jqO,show p+(i-p+1)=i+1 by omega]
theorem juE (s:jb4) (p:Nat) (B:∀ j (h:j<s.1.size),p<=j->s.1[j]'h≠59):jeq s p=[s.1.extract p s.1.size]:=by
 have C:jeu (s.1.extract p s.1.size)=none:=by
  unfold jeu;rw[if_pos (jg5 59 _ fun j e=>?_)];rw[jm4] at e;by_cases A:p+j<s.1.size
  ·rw[jgA s.1 (p+j) A] at e
   exact B (p+j) A (by omega) (Option.some.inj e)
  ·rw[List.getElem?_eq_none (by rw[Array.length_toList];exact Nat.le_of_not_lt A)] at e
   cases e
 unfold jeq;rw[jiU ⟨s.1.extract p s.1.size,Nat.lt_of_le_of_lt (jcr _ _ _) s.2⟩ C];rfl
theorem juG (s:jb4):(jbC s).map (·.1)=jeq s 0:=by
 unfold jeq;exact ju8 (by show s.1=s.1.extract 0 s.1.size;exact (ByteArray.extract_zero_size).symm)
def jhL (l:List ByteArray) (w:World) (e:Ending) (w':World):Prop:=∃ a cap,e=.returned (.slice a l.length cap)/\SlC jf6 1 w'.heap.size w' a l.length cap l/\Bw w w'
attribute [-go_sem] Builtin.append_
theorem jeP (s:jb4) (w:World):Calls Tryz.prog 67 #[.string s.1] w (jhL ((jbC s).map (·.1)) w):=by
 have O:Hid ((jbC s).map (·.1)=jeq s 0):=juG s;have U:=Lib.hid (juF s);have R:=Lib.hid (juE s);have y:=s.2;obtain⟨F,l⟩:∃ F,jeq s=F:=⟨_,rfl⟩;rw[l] at O U R;obtain⟨T,m⟩:∃ T,(jbC s).map (·.1)=T:=⟨_,rfl⟩;rw[m] at O ⊢;obtain⟨t,ht⟩:=s;dsimp only at U R y ⊢;clear l m;go_enter Tryz.func67,Tryz.ntmps67;go_wp2_with fail;go_loopw [3,4,5] (fun ov r i wr=>∃ (p k:Nat) (done:List ByteArray),i=.int .i64 k/\r=.int .i64 p/\k<=t.size+1/\p<=t.size+1/\p<=k/\done.length<=k/\Bw w wr/\Hid (GrowT wr w.heap.size ov done)/\Hid (k<=t.size->T=done++F p/\∀ j (h:j<t.size),p<=j->j<k->t[j]'h≠59)/\Hid (k=t.size+1->T=done)) (fun _ _ i _=>t.size+1-(intOf i).toNat)
 case atStart=>exact⟨0,0,[],rfl,rfl,Nat.zero_le _,Nat.zero_le _,Nat.le_refl _,Nat.le_refl _,Below.refl _ _,⟨rfl,.inl ⟨rfl,rfl⟩⟩,fun _=>⟨O.out,fun j h _ x=>absurd x (Nat.not_lt_zero j)⟩,fun h=>by omega⟩
 case round =>
  obtain⟨p,k,done,rfl,rfl,hk,hp,a,v,N,L,c,d⟩:=hrel;obtain⟨oa,oc,rfl⟩:=L.out.form;have i0:(0:Int)<=(k:Int):=by omega
  have p0:(0:Int)<=(p:Int):=by omega
  by_cases Y:k<=t.size
  ·obtain⟨H,M⟩:=c.out Y
   have P:=Lib.hid H;have Q:=Lib.hid M;have i1:(k:Int)<=(t.size:Int):=by omega
   have i2:(p:Int)<=(k:Int):=by omega
   obtain⟨g,f,w5,V,J,I,b,-⟩:=L.out.push N (Nat.le_refl _) N.size (by omega) (t.extract p k);have G:=Lib.hid J;have E:=Lib.hid I;clear H M J I b c d;by_cases A:k=t.size
   ·have o:((k:Int)==(t.size:Int))=true:=beq_iff_eq.2 (by omega)
    have D:Hid (T=done++[t.extract p k]):=by
     rw[Hid,P.out,R.out p (fun j h Z=>Q.out j h Z (by omega)),A]
    have S:=Lib.hid A;clear A;go_wp2_with fail;go_roundw
    case rel=>exact⟨k+1,k+1,done++[t.extract p k],by go_num,by go_num,by omega,by omega,Nat.le_refl _,by rw[List.length_append];simp;omega,E.out,by rw[Hid];exact G.out,fun h=>by have:=S.out;omega,fun _=>D.out⟩
    case measure=>simp[intOf];omega
   ·have o:((k:Int)==(t.size:Int))=false:=beq_eq_false_iff_ne.2 (by omega)
    have C:k<t.size:=by omega
    have i3:(k:Int)<(t.size:Int):=by omega
    have hu:=UInt8.toNat_lt (t[k]'C);by_cases B:(t[k]'C).toNat=59
    ·have q:(((t[k]'C).toNat:Int)==59)=true:=beq_iff_eq.2 (by omega)
     have D:Hid (T=(done++[t.extract p k])++F (k+1)):=by
      rw[Hid,P.out,U.out p k a C (UInt8.toNat_inj.1 B) Q.out,List.append_assoc];rfl
     clear B A;go_wp2_with fail;go_roundw
     case rel=>exact⟨k+1,k+1,done++[t.extract p k],by go_num,by go_num,by omega,by omega,Nat.le_refl _,by rw[List.length_append];simp;omega,E.out,G.out,fun _=>⟨D.out,fun j h H M=>by omega⟩,fun h=>by omega⟩
     case measure=>simp[intOf];omega
    ·have q:(((t[k]'C).toNat:Int)==59)=false:=beq_eq_false_iff_ne.2 (by omega)
     have D:Hid (∀ j (h:j<t.size),p<=j->j<k+1->t[j]'h≠59):=fun j h H M=>by
      by_cases X:j=k
      ·subst X
       intro e;rw[e] at B;exact B rfl
      ·exact Q.out j h H (by omega)
     clear B A V;go_wp2_with fail;go_roundw
     case rel=>exact⟨p,k+1,done,by go_num,rfl,by omega,by omega,by omega,by omega,N,L.out,fun _=>⟨P.out,D.out⟩,fun h=>by omega⟩
     case measure=>simp[intOf];omega
  ·have i1:¬ (k:Int)<=(t.size:Int):=by omega
   have D:Hid (T=done):=d.out (by omega);have n:=Lib.hid L.out.slC;go_wp2_with fail;go_ret;obtain⟨a',c',z,u⟩:=n.out
   cases z
   rw[D.out];exact⟨_,_,rfl,u,N⟩
end
section
open Go.Shelf
theorem jt5 {A B:List Lab} {k:Nat} {x y:Lab} (C:A[k]? = some x) (D:B[k]? = some y):jb2 (A.drop k) (B.drop k)=if jem x y=0 then jb2 (A.drop (k+1)) (B.drop (k+1)) else decide (jem x y<0):=by
 rw[jat C,jat D,jb2]
theorem jjG {A B:List Lab} {k:Nat} (E:k<=A.length) (F:k<=B.length) (h:¬ (k<A.length/\k<B.length)):jb2 (A.drop k) (B.drop k)=decide (A.length<B.length):=by
 have C:(A.drop k).length=A.length-k:=List.length_drop;have D:(B.drop k).length=B.length-k:=List.length_drop
 have key:jb2 (A.drop k) (B.drop k)=decide ((A.drop k).length<(B.drop k).length):=by
  generalize A.drop k=u at C;generalize B.drop k=v at D
  cases u with
  | nil=>rfl
  | cons x xs =>
   cases v with
   | nil=>rfl
   | cons y ys=>simp only[List.length_cons] at C D;omega
 rw[key,C,D];exact decide_eq_decide.2 (by omega)
theorem jja (u:Option Addr) (A T:Nat) (E:List Lab) (v:Option Addr) (B U:Nat) (G:List Lab) (w:World) (n:SlE Lab.enc 2 w.heap.size w u A E) (o:SlE Lab.enc 2 w.heap.size w v B G) (ho:jfs E) (q:A<=maxLen) :
  CR 66 #[.slice u A T,.slice v B U] w (.bool (jau E G)):=by
 unfold maxLen at q;have P:=Lib.hid n.1;have Q:=Lib.hid o.1;have t:Hid (jau E G=jb2 (E.drop 0) (G.drop 0)):=(jii E G).symm;generalize jau E G=R at t ⊢;have HA:=Lib.hid n;have HB:=Lib.hid o;clear n o;go_enter Tryz.func66,Tryz.ntmps66;go_wp2_with fail;go_loopw [5] (fun i wr=>∃ (k:Nat),i=.int .i64 k/\k<=A/\k<=B/\Bw w wr/\Hid (R=jb2 (E.drop k) (G.drop k))) (fun i _=>A-(intOf i).toNat)
 case atStart=>exact⟨0,rfl,Nat.zero_le _,Nat.zero_le _,Below.refl _ _,t⟩
 case round =>
  obtain⟨k,rfl,hk,ac,F,S⟩:=hrel;by_cases p:k<A
  ·by_cases X:k<B
   ·obtain⟨x,Z,c,r,j,aa,N⟩:=(HA.out.below F).at p
    obtain⟨y,a,d,hy,l,ab,O⟩:=(HB.out.below F).at X;subst j;subst l;have p0:wr.cell? ⟨Z,c+k*2,none⟩=some (.string x.name):=N 0 (by omega);have f:wr.cell? ⟨Z,c+k*2+1,none⟩=some (.string x.value):=N 1 (by omega);have q0:wr.cell? ⟨a,d+k*2,none⟩=some (.string y.name):=O 0 (by omega);have g:wr.cell? ⟨a,d+k*2+1,none⟩=some (.string y.value):=O 1 (by omega);have i0:(0:Int)<=(k:Int):=by omega
    have i1:(k:Int)<(A:Int):=by omega
    have i2:(k:Int)<(B:Int):=by omega
    obtain⟨on,ov⟩:=ho x (List.mem_of_getElem? r);have Y:Hid (∀ w,Calls Tryz.prog 70 #[.string x.name,.string y.name] w fun e w'=>e=.returned (.int .i64 (jdi x.name.data.toList y.name.data.toList))/\∃ m,w'=w.drewN m):=fun w=>jcv _ _ w on
    have h:Hid (∀ w,Calls Tryz.prog 70 #[.string x.value,.string y.value] w fun e w'=>e=.returned (.int .i64 (jdi x.value.data.toList y.value.data.toList))/\∃ m,w'=w.drewN m):=fun w=>jcv _ _ w ov
    have L:=Lib.hid (jt5 r hy);have J:Hid (jem x y=if jdi x.name.data.toList y.name.data.toList=0 then jdi x.value.data.toList y.value.data.toList else jdi x.name.data.toList y.name.data.toList):=rfl;generalize jem x y=z at L J;generalize jdi x.name.data.toList y.name.data.toList=zn at Y J;generalize jdi x.value.data.toList y.value.data.toList=zv at h J;clear N O r hy;by_cases I:zn=0
    ·have t0:(zn==0)=true:=beq_iff_eq.2 I
     have b:z=zv:=by rw[J.out,if_pos I]
     clear J I;subst b;by_cases v0:z=0
     ·have t1:(z != 0)=false:=by rw[bne_eq_false_iff_eq];exact v0
      have H:Hid (R=jb2 (E.drop (k+1)) (G.drop (k+1))):=by rw[Hid,S.out,L.out,if_pos v0]
      clear v0 L;go_wp2_with fail;go_quiet ((go_at_call 70;exact Calls.quiet_of (Y.out _)));obtain⟨D,C⟩:∃ D,D=wr.drewN nq:=⟨_,rfl⟩;have M:Bw w D:=C▸bDr F _;have P1:D.cell? ⟨Z,c+k*2+1,none⟩=some (.string x.value):=by rw[C];exact f
      have Q1:D.cell? ⟨a,d+k*2+1,none⟩=some (.string y.value):=by rw[C];exact g
      rw[<- C];clear p0 f q0 g F C;go_wp2_with fail;go_quiet ((go_at_call 70;exact Calls.quiet_of (h.out _)));go_wp2_with fail;go_roundw
      case rel=>exact⟨k+1,by go_num,by omega,by omega,bDr M _,H.out⟩
      case measure=>simp[intOf];omega
     ·have t1:(z != 0)=true:=by rw[bne_iff_ne];exact v0
      have H:Hid (R=decide (z<0)):=by rw[Hid,S.out,L.out,if_neg v0]
      clear v0 L;go_wp2_with fail;go_quiet ((go_at_call 70;exact Calls.quiet_of (Y.out _)));obtain⟨D,C⟩:∃ D,D=wr.drewN nq:=⟨_,rfl⟩;have M:Bw w D:=C▸bDr F _;have P1:D.cell? ⟨Z,c+k*2+1,none⟩=some (.string x.value):=by rw[C];exact f
      have Q1:D.cell? ⟨a,d+k*2+1,none⟩=some (.string y.value):=by rw[C];exact g
      rw[<- C];clear p0 f q0 g F C;go_wp2_with fail;go_quiet ((go_at_call 70;exact Calls.quiet_of (h.out _)));go_wp2_with fail;go_ret;exact⟨by rw[H.out];rfl,bDr M _⟩
    ·have t0:(zn==0)=false:=beq_eq_false_iff_ne.2 I
     have t1:(zn != 0)=true:=by rw[bne_iff_ne];exact I
     have b:z=zn:=by rw[J.out,if_neg I]
     have H:Hid (R=decide (zn<0)):=by rw[Hid,S.out,L.out,b,if_neg I]
     clear J I L b;go_wp2_with fail;go_quiet ((go_at_call 70;exact Calls.quiet_of (Y.out _)));go_wp2_with fail;go_ret;exact⟨by rw[H.out];rfl,(by first | exact bDr F _ | exact bDr (bDr F _) _)⟩
   ·have V:R=decide (E.length<G.length):=by rw[S.out,jjG (by have:=P.out;omega) (by have:=Q.out;omega) (by have:=P.out;have:=Q.out;omega)]
    have H:=Lib.hid V;clear V;have s:decide ((A:Int)<(B:Int))=decide (A<B):=decide_eq_decide.2 (by omega);go_wp2_with fail;go_ret;exact⟨by rw[H.out];first | rfl | (rw[<- P.out,<- Q.out,<- s];rfl),F⟩
  ·have V:R=decide (E.length<G.length):=by rw[S.out,jjG (by have:=P.out;omega) (by have:=Q.out;omega) (by have:=P.out;have:=Q.out;omega)]
   have H:=Lib.hid V;clear V;have s:decide ((A:Int)<(B:Int))=decide (A<B):=decide_eq_decide.2 (by omega);go_wp2_with fail;go_ret;exact⟨by rw[H.out];first | rfl | (rw[<- P.out,<- Q.out,<- s];rfl),F⟩
theorem jo6 {w w':World} (h:∃ m,w'=w.drewN m):Bw w w':=by
 obtain⟨m,rfl⟩:=h;exact bDr (Below.refl _ _) m
def jez (l:List Lab) (k:Nat):Option ByteArray:=if k=0 then none else (l[k-1]?).map (·.name)
theorem jqZ {l:List Lab} {x:Lab} (A:l[0]? = some x):jcA (jez l 0) (l.drop 0)=(jb8 x.name&&jbx x.value&&jcA (jez l 1) (l.drop 1)):=by
 rw[jat A];have:jez l 1=some x.name:=by unfold jez;rw[if_neg (by decide)];show (l[0]?).map (·.name)=_;rw[A];rfl
 rw[this];rfl
theorem jtK {l:List Lab} {k:Nat} {x y:Lab} (E:0<k) (A:l[k]? = some x) (D:l[k-1]? = some y):jcA (jez l k) (l.drop k)=(jb8 x.name&&jbx x.value && !decide (0<=jdi y.name.data.toList x.name.data.toList)&&jcA (jez l (k+1)) (l.drop (k+1))):=by
 rw[jat A];have B:jez l (k+1)=some x.name:=by unfold jez;rw[if_neg (by omega)];show (l[k+1-1]?).map (·.name)=_;rw[Nat.add_sub_cancel,A];rfl
 have C:jez l k=some y.name:=by unfold jez;rw[if_neg (by omega),D];rfl
 rw[B,C];rfl
theorem jcw (a:Option Addr) (len cap:Nat) (l:List Lab) (w:World) (h:SlE Lab.enc 2 w.heap.size w a len l) (ho:jfs l) (hm:len<=maxLen) :
  CR 64 #[.slice a len cap] w (.bool (jal l)):=by
 unfold maxLen at hm;have u:=Lib.hid h.1;have m:Hid (jal l=(jcA (jez l 0) (l.drop 0)&&(decide (1<=l.length)&&decide (l.length<=6)))):=(jlS l).symm;generalize jal l=R at m ⊢;rw[<- u.out] at m;have v:=Lib.hid h;clear h;go_enter Tryz.func64,Tryz.ntmps64;go_wp2_with fail;go_loopw [3] (fun i wr=>∃ (k:Nat),i=.int .i64 k/\k<=len/\Bw w wr/\Hid (R=(jcA (jez l k) (l.drop k)&&(decide (1<=len)&&decide (len<=6))))) (fun i _=>len-(intOf i).toNat)
 case atStart=>exact⟨0,rfl,Nat.zero_le _,Below.refl _ _,m⟩
 case round =>
  obtain⟨k,rfl,hk,L,G⟩:=hrel;by_cases o:k<len
  ·obtain⟨x,b,off,T,ea,M,j⟩:=v.out.at o
   subst ea;have f:Hid (∀ W,Bw w W->W.cell? ⟨b,off+k*2,none⟩=some (.string x.name)/\W.cell? ⟨b,off+k*2+1,none⟩=some (.string x.value)):=fun W F=>⟨(F.cell (p:=⟨b,off+k*2,none⟩) M).trans (j 0 (by omega)),(F.cell (p:=⟨b,off+k*2+1,none⟩) M).trans (j 1 (by omega))⟩
   have i1:(k:Int)<(len:Int):=by omega
   have i0:(0:Int)<=(k:Int):=by omega
   obtain⟨on,ov⟩:=ho x (List.mem_of_getElem? T);have c:Hid (∀ w,CR 115 #[.string x.name] w (.bool (jb8 x.name))):=fun w=>jhm _ w on
   have d:Hid (∀ w,CR 116 #[.string x.value] w (.bool (jbx x.value))):=fun w=>jgM _ w ov
   rcases Nat.eq_zero_or_pos k with U | U
   ·have g0:decide ((0:Int)<(k:Int))=false:=by rw[decide_eq_false_iff_not];omega
    have g1:decide (0<k)=false:=by rw[decide_eq_false_iff_not];omega
    have E:Hid (R=(jb8 x.name&&jbx x.value&&jcA (jez l (k+1)) (l.drop (k+1))&&(decide (1<=len)&&decide (len<=6)))):=by
     subst U;rw[Hid,G.out,jqZ T]
    clear j T U G;generalize jb8 x.name=bn at c E;generalize jbx x.value=bv at d E;let Inv0:World->Prop:=fun W=>Bw w W
    have B:∀ W J,Inv0 W->Bw W J->Inv0 J:=fun W J h M=>Below.trans h (M.mono (Below.size h))
    have H:Hid (∀ X:WIn Inv0,Calls Tryz.prog 115 #[.string x.name] X.world fun e w'=>e=.returned (.bool bn)/\∃ Y:WIn Inv0,w'=Y.world):=fun X=>jac B (c.out X.world)
    have I:Hid (∀ X:WIn Inv0,Calls Tryz.prog 116 #[.string x.value] X.world fun e w'=>e=.returned (.bool bv)/\∃ Y:WIn Inv0,w'=Y.world):=fun X=>jac B (d.out X.world)
    have s:∀ X:WIn Inv0,X.world.cell? ⟨b,off+k*2,none⟩=some (.string x.name):=fun X=>(f.out X.world X.ok).1
    have t:∀ X:WIn Inv0,X.world.cell? ⟨b,off+k*2+1,none⟩=some (.string x.value):=fun X=>(f.out X.world X.ok).2
    have P:Hid (∀ X:WIn Inv0,Bw w X.world):=fun X=>X.ok
    have D:Hid (Inv0 (World.drew wr)):=L.drew;have N:Nonempty (WIn Inv0):=⟨⟨_,D.out⟩⟩;clear B L;clear_value Inv0;obtain rfl | ⟨rfl,rfl⟩ | ⟨rfl,rfl⟩:bn=false\/bn=true/\bv=false\/bn=true/\bv=true:=by cases bn<;>cases bv<;>simp
    all_goals
     go_wp2_with fail;refine jad Inv0 (by kernel_rfl) (by kernel_rfl) D.out ?_
     repeat (first | go_big_quiet_step ((first | (go_at_call 115;with_reducible exact H.out _) | (go_at_call 116;with_reducible exact I.out _) | (go_at_call 70;with_reducible exact Q.out _))) | quiet_step ((first | (go_at_call 115;with_reducible exact H.out _) | (go_at_call 116;with_reducible exact I.out _) | (go_at_call 70;with_reducible exact Q.out _))))
     refine wpQuiet_nil ?_;rintro _ ⟨X,rfl⟩;have A:=P.out X;obtain⟨V,C⟩:∃ V,X.world=V:=⟨_,rfl⟩;rw[C] at A ⊢;clear P H I s t D N C X;go_wp2_with fail
    ·go_ret
     exact⟨by rw[E.out];rfl,A⟩
    ·go_ret
     exact⟨by rw[E.out];rfl,A⟩
    ·go_roundw
     case rel=>exact⟨k+1,by go_num,by omega,A,E.out⟩
     case measure=>simp[intOf];omega
   ·have g0:decide ((0:Int)<(k:Int))=true:=by rw[decide_eq_true_iff];omega
    have g1:decide (0<k)=true:=decide_eq_true U;obtain⟨y,b',aa,q,n,-,S⟩:=v.out.at (show k-1<len by omega)
    cases n
    have HY:Hid (∀ W,Bw w W->W.cell? ⟨b,off+(k-1)*2,none⟩=some (.string y.name)):=fun W F=>(F.cell (p:=⟨b,off+(k-1)*2,none⟩) M).trans (S 0 (by omega))
    obtain⟨oy,-⟩:=ho y (List.mem_of_getElem? q);have HZ:Hid (∀ w,CR 70 #[.string y.name,.string x.name] w (.int .i64 (jdi y.name.data.toList x.name.data.toList))):=fun w=>(jcv _ _ w oy).mono fun e w' ⟨h1,h2⟩=>⟨h1,jo6 h2⟩
    have E:Hid (R=(jb8 x.name&&jbx x.value && !decide (0<=jdi y.name.data.toList x.name.data.toList)&&jcA (jez l (k+1)) (l.drop (k+1))&&(decide (1<=len)&&decide (len<=6)))):=by
     rw[Hid,G.out,jtK U T q]
    have j0:wrap64 ((k:Int)-1)=((k-1:Nat):Int):=by rw[show ((k:Int)-1)=((k-1:Nat):Int) by omega];exact IntWalk.wrap64_in ((k-1:Nat):Int) (by omega)
    have j1:((k-1:Nat):Int)<(len:Int):=by omega
    have j2:(0:Int)<=((k-1:Nat):Int):=Int.natCast_nonneg _;clear j S T q G;generalize jb8 x.name=bn at c E;generalize jbx x.value=bv at d E;generalize jdi y.name.data.toList x.name.data.toList=z at HZ E;let Inv0:World->Prop:=fun W=>Bw w W
    have B:∀ W J,Inv0 W->Bw W J->Inv0 J:=fun W J h M=>Below.trans h (M.mono (Below.size h))
    have H:Hid (∀ X:WIn Inv0,Calls Tryz.prog 115 #[.string x.name] X.world fun e w'=>e=.returned (.bool bn)/\∃ Y:WIn Inv0,w'=Y.world):=fun X=>jac B (c.out X.world)
    have I:Hid (∀ X:WIn Inv0,Calls Tryz.prog 116 #[.string x.value] X.world fun e w'=>e=.returned (.bool bv)/\∃ Y:WIn Inv0,w'=Y.world):=fun X=>jac B (d.out X.world)
    have Q:Hid (∀ X:WIn Inv0,Calls Tryz.prog 70 #[.string y.name,.string x.name] X.world fun e w'=>e=.returned (.int .i64 z)/\∃ Y:WIn Inv0,w'=Y.world):=fun X=>jac B (HZ.out X.world)
    have s:∀ X:WIn Inv0,X.world.cell? ⟨b,off+k*2,none⟩=some (.string x.name):=fun X=>(f.out X.world X.ok).1
    have t:∀ X:WIn Inv0,X.world.cell? ⟨b,off+k*2+1,none⟩=some (.string x.value):=fun X=>(f.out X.world X.ok).2
    have q2:∀ X:WIn Inv0,X.world.cell? ⟨b,off+(k-1)*2,none⟩=some (.string y.name):=fun X=>HY.out X.world X.ok
    have P:Hid (∀ X:WIn Inv0,Bw w X.world):=fun X=>X.ok
    have D:Hid (Inv0 (World.drew wr)):=L.drew;have N:Nonempty (WIn Inv0):=⟨⟨_,D.out⟩⟩;clear B L;clear_value Inv0;obtain⟨Z,r⟩:∃ Z,decide (0<=z)=Z:=⟨_,rfl⟩;rw[r] at E;obtain rfl | ⟨rfl,rfl⟩ | ⟨rfl,rfl,rfl⟩ | ⟨rfl,rfl,rfl⟩:bn=false\/bn=true/\bv=false\/bn=true/\bv=true/\Z=true\/bn=true/\bv=true/\Z=false:=by cases bn<;>cases bv<;>cases Z<;>simp
    all_goals
     go_wp2_with fail;refine jad Inv0 (by kernel_rfl) (by kernel_rfl) D.out ?_
     repeat (first | go_big_quiet_step ((first | (go_at_call 115;with_reducible exact H.out _) | (go_at_call 116;with_reducible exact I.out _) | (go_at_call 70;with_reducible exact Q.out _))) | quiet_step ((first | (go_at_call 115;with_reducible exact H.out _) | (go_at_call 116;with_reducible exact I.out _) | (go_at_call 70;with_reducible exact Q.out _))))
     refine wpQuiet_nil ?_;rintro _ ⟨X,rfl⟩;have A:=P.out X;obtain⟨V,C⟩:∃ V,X.world=V:=⟨_,rfl⟩;rw[C] at A ⊢;clear P H I Q s t q2 D N C X;go_wp2_with fail
    ·go_ret
     exact⟨by rw[E.out];rfl,A⟩
    ·go_ret
     exact⟨by rw[E.out];rfl,A⟩
    ·go_ret
     exact⟨by rw[E.out];rfl,A⟩
    ·go_roundw
     case rel=>exact⟨k+1,by go_num,by omega,A,E.out⟩
     case measure=>simp[intOf];omega
  ·have ab:k=len:=by omega
   have HD:Hid (jcA (jez l k) (l.drop k)=true):=by
    rw[Hid,List.drop_eq_nil_of_le (by have:=u.out;omega)]
    cases jez l k<;>rfl
   by_cases h4:1<=len
   ·by_cases h5:len<=6
    ·have O:Hid (R=true):=by rw[Hid,G.out,HD.out,decide_eq_true h4,decide_eq_true h5];rfl
     have g:decide ((len:Int)<=6)=true:=by rw[decide_eq_true_iff];omega
     go_wp2_with fail;go_ret;exact⟨by rw[O.out];first | rfl | (simp only[g];rfl),L⟩
    ·have O:Hid (R=false):=by rw[Hid,G.out,HD.out,decide_eq_false h5];simp
     have g:decide ((len:Int)<=6)=false:=by rw[decide_eq_false_iff_not];omega
     go_wp2_with fail;go_ret;exact⟨by rw[O.out];first | rfl | (simp only[g];rfl),L⟩
   ·have O:Hid (R=false):=by rw[Hid,G.out,decide_eq_false h4];simp
    go_wp2_with fail;go_ret;exact⟨by rw[O.out];first | rfl | (simp only[g];rfl),L⟩
end
theorem jnE (s:jb4):jce s=jdy s:=by
 unfold jdy;rw[jnt]
 cases jce s<;>rfl
def jfw:Int->List Gr->Option Int
 | last,[]=>some last
 | last,x::xs=>if x.id<=last || !jce x.scope then none else jfw x.id xs
theorem jjK:∀ (l:List Gr) (A z:Int),jfw A l=some z->A<=z
 | [],A,z,h=>by cases h;exact Int.le_refl _
 | x::xs,A,z,h=>by
  unfold jfw at h;split at h
  ·cases h
  ·rename_i B
   have:=jjK xs x.id z h;have C:¬ x.id<=A:=fun e=>B (by simp[e])
   omega
theorem jkA {σ α:Type} (f:σ->α->Option σ) (s:σ) (x:α) (l:List α):jb7 f s (x::l)=match f s x with
  | some s'=>jb7 f s' l
  | none=>none:=by
 unfold jb7;rw[List.foldl_cons,Option.bind_some]
 cases f s x with
 | none=>exact jh5 f l
 | some s'=>rfl
theorem jon (next:Int):∀ (l:List Gr) (A:Int),A<next->(jb7 (jgS next) A l).isSome=(jfw A l).any (fun z=>decide (z<next))
 | [],A,h=>by simp[jgc,jfw,h]
 | x::xs,A,h=>by
  rw[jkA];unfold jgS jfw;rw[jnE];by_cases B:(x.id<=A || !jdy x.scope)=true
  ·have E:(decide (x.id<=A)||decide (next<=x.id) || !jdy x.scope)=true:=by
    rcases Bool.or_eq_true_iff.1 B with C | C
    ·rw[C];rfl
    ·rw[C];simp
   rw[if_pos E,if_pos B];rfl
  ·rw[if_neg B]
   by_cases C:next<=x.id
   ·rw[if_pos (by simp[C])]
    cases F:jfw x.id xs with
    | none=>rfl
    | some z =>
     have:=jjK xs x.id z F;show false=decide (z<next);symm;rw[decide_eq_false_iff_not];omega
   ·have E:¬ (decide (x.id<=A)||decide (next<=x.id) || !jdy x.scope)=true:=by
     simp only[Bool.or_eq_true,decide_eq_true_iff] at B ⊢;rintro ((D | D) | D)
     ·exact B (.inl D)
     ·exact C D
     ·exact B (.inr D)
    rw[if_neg E];exact jon next xs x.id (by omega)
def jio (g:jcs):Bool:=decide (g.l.length<=10)&&(jfw 0 g.l).any (fun z=>decide (z<g.next))
theorem jkB (g:jcs):jio g=jcK g:=by
 unfold jio jcK;by_cases h:g.next<1
 ·have e:(jfw 0 g.l).any (fun z=>decide (z<g.next))=false:=by
   cases A:jfw 0 g.l with
   | none=>rfl
   | some z =>
    have:=jjK g.l 0 z A;show decide (z<g.next)=false;rw[decide_eq_false_iff_not];omega
  rw[e,decide_eq_true h];simp
 ·rw[jon g.next g.l 0 (by omega),decide_eq_false h]
  simp
end Go.Proofs.YtafhpamnegmilaaGreatDoor
