/- Package label: quoted. Package label: Less; slices of labels: Equal, Clone. slices.Clone and slices.Equal at []api.Label: printed by wip/tools/gen_l5.py. Package label: Text. Package label over slices by their elements: Right, Text. aviarylaw04.Few over slices by their elements. The references of layers 6 to 8: Right, Numbers, Same. -/
import Derived.Test.YtafhpamnegmilaaGreatDoorZB1
set_option maxHeartbeats 2000000
set_option maxRecDepth 100000
namespace Go.Proofs.YtafhpamnegmilaaGreatDoor
open Go Go.RowKit
section
open Go.Shelf
def jbp (l:List (Nat × Int)):List UInt8:=l.flatMap fun p=>(if p.2==44||p.2==92 then [92] else [])++Lib.encodeRune p.2
theorem jg8 (l:List (Nat × Int)) (p:Nat × Int):jbp (l++[p])=jbp l++((if p.2==44||p.2==92 then [92] else [])++Lib.encodeRune p.2):=by simp[jbp]
theorem jwH (r:Int):(Lib.encodeRune r).length<=4:=by have:=Lib.runeCells_le r;rw[Lib.runeCells_length] at this;omega
theorem jfG (l:List (Nat × Int)):(jbp l).length<=5*l.length:=by
 induction l with
 | nil=>simp[jbp]
 | cons x xs ih =>
  have h:=jwH x.2;have e:jbp (x::xs)=((if x.2==44||x.2==92 then [92] else [])++Lib.encodeRune x.2)++jbp xs:=by simp[jbp]
  rw[e,List.length_append,List.length_append,List.length_cons];split<;>simp<;>omega
theorem jtW {T e:TypeId} {B b k:Nat} {A:List Value} {w w':World} {s:ByteArray} {F:Nat} (h:Lib.IsBuilderF T e B b A w) (H:w.heap[k]? = some (.stringIter s F)) (I:∀ j,j≠k->w'.heap[j]? = w.heap[j]?):Lib.IsBuilderF T e B b A w':=by
 have one:∀ p,Lib.BuilderAtF T e B b p A w->Lib.BuilderAtF T e B b p A w':=fun p ⟨L,v,D,G,M⟩=>by
  refine⟨L,v,?_,⟨G.1,?_⟩,M⟩
  ·rw[I b (fun e=>by rw[e,H] at D;cases D)];exact D
  ·rcases G.2 with N | ⟨g,cap,C,J,P,O,E,r⟩
   ·exact .inl N
   ·exact .inr ⟨g,cap,C,J,P,O,by rw[I g (fun e=>by rw[e,H] at E;cases E)];exact E,r⟩
 exact h.imp (one _) (one _)
theorem jvI {T e:TypeId} {B b:Nat} {A:List Value} {w w':World} (h:Lib.IsBuilderF T e B b A w) (G:∀ j,j<w.heap.size->w'.heap[j]? = w.heap[j]?):Lib.IsBuilderF T e B b A w':=by
 have one:∀ p,Lib.BuilderAtF T e B b p A w->Lib.BuilderAtF T e B b p A w':=fun p ⟨I,v,D,E,J⟩=>by
  refine⟨I,v,(G b (Array.getElem?_eq_some_iff.1 D).1).trans D,⟨E.1,?_⟩,J⟩;rcases E.2 with L | ⟨g,cap,C,H,N,M,F,r⟩
  ·exact .inl L
  ·exact .inr ⟨g,cap,C,H,N,M,(G g (Array.getElem?_eq_some_iff.1 F).1).trans F,r⟩
 exact h.imp (one _) (one _)
theorem jpL (s:ByteArray) (w:World) (hs:s.size<4294967281):CR 99 #[.string s] w (.string ⟨(jbp (rl s 0)).toArray⟩):=by
 obtain⟨h,T,p,Y,f⟩:=jaf w #[.pointer none,.slice none 0 0] 206;have a:Lib.IsBuilderF 206 5 w.heap.size w.heap.size [] h:=by rw[<- T];exact Lib.IsBuilderF.of (Lib.fresh_isBuilder _ _ w)
 have R:=World.iter_heap h s 0;have o:Bw w (h.iter s 0):=Y.alloc Y.size _;have q:Lib.IsBuilderF 206 5 w.heap.size w.heap.size [] (h.iter s 0):=jvI a (fun j hj=>Below.heap_alloc _ _ _ hj);rw[f] at R;have k:=Lib.hid T;clear T p f a;go_enter Tryz.func99,Tryz.ntmps99;go_wp2_with fail;rw[k.out];go_loopw [5] (fun _ wr=>∃ (A:Nat) (done:List (Nat × Int)),wr.heap[w.heap.size+1]? = some (.stringIter s A)/\Bw w wr/\Lib.IsBuilderF 206 5 w.heap.size w.heap.size (Lib.byteCells (jbp done)) wr/\done.length<=A  /\ Hid (rl s 0=done++rl s A)) (fun _ wr=>s.size-wr.iterPos (w.heap.size+1))
 case atStart=>exact⟨0,[],R,o,q,Nat.le_refl _,rfl⟩
 case round =>
  obtain⟨A,done,O,n,Z,aa,i⟩:=hrel;have H:=jax O;have ad:=jfG done;by_cases d:A<s.size
  ·obtain⟨l,t,E,S,y,c⟩:=jdG (P:=Tryz.prog) O n (Nat.le_succ _) d
   have I:=jtW Z O c;have L:=Lib.hid (jeX s A d);have hd:=jdJ s A d;have ab:=decode_le s A;have ac:(Lib.byteCells (jbp done)).length=(jbp done).length:=by simp[Lib.byteCells]
   have V:w.heap.size<=l.heap.size:=S.size;by_cases J:((Utf8.decode s A).1:Int)=44\/((Utf8.decode s A).1:Int)=92
   ·have z:Hid ((((Utf8.decode s A).1:Int)==44||((Utf8.decode s A).1:Int)==92)=true):=by
     rcases J with J | J<;>simp[Hid,J]
    have fin:∀ (Q N:World) (g:Lib.BuilderAtF 206 5 w.heap.size w.heap.size (.pointer (some ⟨w.heap.size,0,none⟩)) (Lib.byteCells (jbp done)++[.int .u8 92]++Lib.runeCells ((Utf8.decode s A).1:Int)) N) (D:Below w.heap.size l Q) (F:Lib.OthersKept 5 (some w.heap.size) l Q) (C:Below w.heap.size Q N) (B:Lib.OthersKept 5 (some w.heap.size) Q N),∃ (M:Nat) (G:List (Nat × Int)),N.heap[w.heap.size+1]? = some (.stringIter s M)/\Bw w N/\Lib.IsBuilderF 206 5 w.heap.size w.heap.size (Lib.byteCells (jbp G)) N/\G.length<=M/\Hid (rl s 0=G++rl s M):=by
     intro Q N g D F C B;refine⟨A+(Utf8.decode s A).2,done++[(A,((Utf8.decode s A).1:Int))],B.iter (F.iter E (by omega)) (by omega),(S.trans D).trans C,?_,by simp;omega,?_⟩
     ·rw[jg8,if_pos z.out,Lib.byteCells_append,Lib.byteCells_append,Lib.byteCells_encodeRune,<- List.append_assoc]
      exact .inr g
     ·show rl s 0=_
      rw[i.out,L.out];simp
    have r:((((Utf8.decode s A).1:Int)==44)=true)\/((((Utf8.decode s A).1:Int)==44)=false/\(((Utf8.decode s A).1:Int)==92)=true):=by
     rcases J with J | J
     ·exact .inl (by simp[J])
     ·exact .inr (by simp[J])
    clear J;rcases r with U | ⟨U,b⟩
    ·go_wp2_with (first | (go_at_call 141;refine (jfV w.heap.size w.heap.size _ 92 _ I (by omega) V).mono ?_;rintro e Q ⟨rfl,m,D,F⟩) | (go_at_call 142;refine (jed w.heap.size w.heap.size _ _ (by omega) (by omega) _ (.inr m) (by rw[List.length_append,List.length_singleton];omega) (by have:=D.size;omega)).mono ?_;rintro e N ⟨⟨v,rfl⟩,X,C,B⟩))
     go_roundw
     case rel=>exact fin Q _ X D F C B
     case measure=>rw[jax (B.iter (F.iter E (by omega)) (by omega)),H];omega
    ·go_wp2_with (first | (go_at_call 141;refine (jfV w.heap.size w.heap.size _ 92 _ I (by omega) V).mono ?_;rintro e Q ⟨rfl,m,D,F⟩) | (go_at_call 142;refine (jed w.heap.size w.heap.size _ _ (by omega) (by omega) _ (.inr m) (by rw[List.length_append,List.length_singleton];omega) (by have:=D.size;omega)).mono ?_;rintro e N ⟨⟨v,rfl⟩,X,C,B⟩))
     go_roundw
     case rel=>exact fin Q _ X D F C B
     case measure=>rw[jax (B.iter (F.iter E (by omega)) (by omega)),H];omega
   ·have U:(((Utf8.decode s A).1:Int)==44)=false:=by simp;omega
    have b:(((Utf8.decode s A).1:Int)==92)=false:=by simp;omega
    clear J;go_wp2_with (go_at_call 142;refine (jed w.heap.size w.heap.size _ _ (by omega) (by omega) _ I (by omega) V).mono ?_;rintro e N ⟨⟨v,rfl⟩,X,C,B⟩);go_roundw
    case rel =>
     refine⟨A+(Utf8.decode s A).2,done++[(A,((Utf8.decode s A).1:Int))],B.iter E (by omega),S.trans C,?_,by simp;omega,?_⟩
     ·rw[jg8,if_neg (by rw[U,b];decide),List.nil_append,Lib.byteCells_append,Lib.byteCells_encodeRune]
      exact .inr X
     ·show rl s 0=_
      rw[i.out,L.out];simp
    case measure=>rw[jax (B.iter E (by omega)),H];omega
  ·have t:∀ u,(Instr.next (.pointer (some ⟨w.heap.size+1,0,none⟩)) true u).run Tryz.prog wr=_:=fun u=>Lib.run_next_end_at wr (w.heap.size+1) s A u O d
   go_wp2_with (go_at_call 143;refine (Tryz.Builder_String_any_f w.heap.size w.heap.size _ _ Z n.size).mono ?_;rintro e N ⟨rfl,X,C⟩);go_ret;have x:=i.out;rw[jgr s A d,List.append_nil] at x;rw[x];exact⟨rfl,n.trans C⟩
deriving instance DecidableEq for Lab
def jau:List Lab->List Lab->Bool
 | [],bs=>decide (0<bs.length)
 | _::_,[]=>false
 | x::xs,y::ys=>if x.name=y.name/\x.value=y.value then jau xs ys else if x.name≠y.name then Op.bytesLess x.name.toList y.name.toList else Op.bytesLess x.value.toList y.value.toList
theorem jlT {B:Nat} {w:World} {a:Option Addr} {len:Nat} {l:List Lab} (h:SlE Lab.enc 2 B w a len l) {j:Nat} (D:j<len) :
  ∃ x b off,l[j]? = some x/\a=some ⟨b,off,none⟩/\b<B/\w.cell? ⟨b,off+j*2,none⟩=some (.string x.name)/\w.cell? ⟨b,off+j*2+1,none⟩=some (.string x.value):=by
 obtain⟨x,b,off,E,e,C,A⟩:=h.at D;exact⟨x,b,off,E,e,C,A 0 (by omega),A 1 (by omega)⟩
theorem jc0 (a b:ByteArray):(a.toList==b.toList)=decide (a=b):=by
 by_cases h:a=b
 ·subst h;simp
 ·rw[decide_eq_false h,beq_eq_false_iff_ne]
  intro e;apply h;rw[Lib.toList_data,Lib.toList_data] at e;exact ByteArray.ext (Array.ext' e)
theorem jat {α:Type} {l:List α} {k:Nat} {x:α} (h:l[k]? = some x):l.drop k=x::l.drop (k+1):=by
 obtain⟨A,rfl⟩:=List.getElem?_eq_some_iff.1 h;exact List.drop_eq_getElem_cons A
theorem jqJ:Tryz.prog.eqGuardType Tryz.prog.depth 57=false:=by kernel_rfl
theorem jqL (A B C D:ByteArray) (w:World):(binOp .eql 57 (.agg #[.string A,.string B]) (.agg #[.string C,.string D])).run Tryz.prog w=.ok (.bool (A.toList==C.toList&&B.toList==D.toList)) w:=by
 have E:Tryz.prog.underlying 57=some (.struct (Tryz.prog.fieldsOf 57)):=by kernel_rfl
 have F:Tryz.prog.stoodInHeld 57=false:=by kernel_rfl
 have G : (Tryz.prog.fieldsOf 57).toList = [{ name := "Name", type := 9, offset := 0, embedded := false, tag := "", pkgPath := "", byteOffset := 0 }, { name := "Value", type := 9, offset := 1, embedded := false, tag := "", pkgPath := "", byteOffset := 16 }] := by kernel_rfl
 rw[run_eql_struct,run_equalIn_agg w 9999 _ _ _ E F,G]
 cases ha:(A.toList==C.toList)<;>cases H:(B.toList==D.toList)<;>simp[go_sem,ha,H,Tryz.underlying9]
theorem jkC (A B C D:ByteArray) (w:World):(binOp .neq 57 (.agg #[.string A,.string B]) (.agg #[.string C,.string D])).run Tryz.prog w=.ok (.bool (!(A.toList==C.toList&&B.toList==D.toList))) w:=by
 have E:Tryz.prog.underlying 57=some (.struct (Tryz.prog.fieldsOf 57)):=by kernel_rfl
 have F:Tryz.prog.stoodInHeld 57=false:=by kernel_rfl
 have G : (Tryz.prog.fieldsOf 57).toList = [{ name := "Name", type := 9, offset := 0, embedded := false, tag := "", pkgPath := "", byteOffset := 0 }, { name := "Value", type := 9, offset := 1, embedded := false, tag := "", pkgPath := "", byteOffset := 16 }] := by kernel_rfl
 rw[run_neq_struct,run_equalIn_agg w 9999 _ _ _ E F,G]
 cases ha:(A.toList==C.toList)<;>cases H:(B.toList==D.toList)<;>simp[go_sem,ha,H,Tryz.underlying9]
theorem jdN (a1:Option Addr) (A X:Nat) (M:List Lab) (a2:Option Addr) (B Y:Nat) (J:List Lab) (w:World) (Z:SlE Lab.enc 2 w.heap.size w a1 A M) (a:SlE Lab.enc 2 w.heap.size w a2 B J) (hm:A<=maxLen) (s:B<=maxLen) :
  CR 57 #[.slice a1 A X,.slice a2 B Y] w (.bool (jau M J)):=by
 unfold maxLen at hm s;have E1:=Lib.hid Z.1;have E2:=Lib.hid a.1;go_enter Tryz.func57,Tryz.ntmps57;go_wp2_with fail;go_loopw [4,10] (fun _ i wr=>∃ (k:Nat),i=.int .i64 k/\k<=A/\k<=B/\Bw w wr/\Hid (jau M J=jau (M.drop k) (J.drop k))) (fun _ i _=>A-(intOf i).toNat)
 case atStart=>exact⟨0,rfl,Nat.zero_le _,Nat.zero_le _,Below.refl _ _,rfl⟩
 case round =>
  obtain⟨k,rfl,hk,ae,T,R⟩:=hrel;have f:=T.size;by_cases r:k<A
  ·obtain⟨x,b1,o1,j,m,ac,p0,p1⟩:=jlT (Z.below T) r
   subst m;by_cases e:k<B
   ·obtain⟨y,S,l,hy,n,ad,v,z⟩:=jlT (a.below T) e
    subst n;obtain⟨F,I⟩:=x;obtain⟨D,H⟩:=y;dsimp only at p0 p1 v z;have t0:((k:Int)==(B:Int))=false:=by rw[beq_eq_false_iff_ne];omega
    have N:Hid (jau M J=if F=D/\I=H then jau (M.drop (k+1)) (J.drop (k+1)) else if F≠D then Op.bytesLess F.toList D.toList else Op.bytesLess I.toList H.toList):=by
     rw[Hid,R.out,jat j,jat hy];rfl
    clear j hy Z a R;have i0:(0:Int)<=(k:Int):=by omega
    have i1:(k:Int)<(A:Int):=by omega
    have i2:(k:Int)<(B:Int):=by omega
    obtain⟨V,aa,c,O,t⟩:=jaf wr #[.string F,.string I] 57;have u0:V.cell? ⟨S,l+k*2,none⟩=some (.string D):=(O.cell (p:=⟨S,l+k*2,none⟩) (by show S<_;omega)).trans v;have u1:V.cell? ⟨S,l+k*2+1,none⟩=some (.string H):=(O.cell (p:=⟨S,l+k*2+1,none⟩) (by show S<_;omega)).trans z;obtain⟨g,ab,Q,b,u⟩:=jaf V #[.string D,.string H] 57;have d:=(b.block wr.heap.size (by omega)).trans c;have o:Bw wr g:=O.trans (b.mono (by omega));obtain⟨r0,r1⟩:=cl2 d;have r2:g.cell? ⟨V.heap.size,0,none⟩=some (.string D):=cCc Q 0;have r3:g.cell? ⟨V.heap.size,1,none⟩=some (.string H):=cCc Q 1;clear c d Q v z t u;have P:Bw w g:=T.trans (o.mono f);have n2:=jqJ;have L:=jc0 F D;have U:=jc0 I H;by_cases C:F=D
    ·by_cases G:I=H
     ·have n1:∀ w,(binOp .eql 57 (.agg #[.string F,.string I]) (.agg #[.string D,.string H])).run Tryz.prog w=.ok (.bool true) w:=fun w=>by rw[jqL,L,U];simp[C,G]
      have E:=Lib.hid (And.intro C G);clear C G L U;go_wp2_with fail
      all_goals go_roundw
      case rel=>exact⟨k+1,by go_num,by omega,by omega,P,by rw[Hid,N.out,if_pos E.out]⟩
      case measure=>simp[intOf];omega
     ·have n1:∀ w,(binOp .eql 57 (.agg #[.string F,.string I]) (.agg #[.string D,.string H])).run Tryz.prog w=.ok (.bool false) w:=fun w=>by rw[jqL,L,U];simp[G]
      have n3:(F.toList==D.toList)=true:=by rw[L];simp[C]
      have E:Hid (¬ (F=D/\I=H)/\¬ (F≠D)):=⟨fun h=>G h.2,fun h=>h C⟩;clear C G L U;go_wp2_with fail;go_ret;exact⟨by rw[N.out,if_neg E.out.1,if_neg E.out.2];rfl,P⟩
    ·have n1:∀ w,(binOp .eql 57 (.agg #[.string F,.string I]) (.agg #[.string D,.string H])).run Tryz.prog w=.ok (.bool false) w:=fun w=>by rw[jqL,L,U];simp[C]
     have n3:(F.toList==D.toList)=false:=by rw[L];simp[C]
     have E:Hid (¬ (F=D/\I=H)/\(F≠D)):=⟨fun h=>C h.1,C⟩;clear C L U;go_wp2_with fail;go_ret;exact⟨by rw[N.out,if_neg E.out.1,if_pos E.out.2];rfl,P⟩
   ·have t0:((k:Int)==(B:Int))=true:=by rw[beq_iff_eq];omega
    have i0:(0:Int)<=(k:Int):=by omega
    have i1:(k:Int)<(A:Int):=by omega
    have N:Hid (jau M J=false):=by
     rw[Hid,R.out,jat j,(List.drop_eq_nil_of_le (by rw[<- E2.out];omega):J.drop k=[])];rfl
    have q:Bw w (wr.alloc (.cells #[.string x.name,.string x.value] 57)):=T.alloc f _;clear j Z a R;go_wp2_with fail;go_ret;exact⟨by rw[N.out];rfl,q⟩
  ·have N:Hid (jau M J=decide ((A:Int)<B)):=by
    rw[Hid,R.out,List.drop_eq_nil_of_le (by rw[<- E1.out];omega),jau,List.length_drop,<- E2.out];simp;omega
   clear Z a R;go_wp2_with fail;go_ret;exact⟨by rw[N.out];simp,T⟩
end
theorem jss:Tryz.prog.underlying 58=some (.slice 57):=by kernel_rfl
theorem jtT:(Tryz.prog.info? 57).map (fun i=>(i.zero,i.size,i.bytes))=some (some (.agg #[.string ⟨#[]⟩,.string ⟨#[]⟩]),2,32):=by kernel_rfl
theorem jo8 (a:Option Addr) (n c:Nat) (w:World):(binOp .eql 58 (.slice a n c) (.slice none 0 0)).run Tryz.prog w=.ok (.bool a.isNone) w:=Lib.run_eql_slice_nil w _ _ a n c 0 0 jss
theorem jv2 (x:Lab):∀ u∈Lab.enc x,u.oneCell'=true:=by
 intro u A;simp only[Lab.enc,List.mem_cons,List.not_mem_nil,or_false] at A;rcases A with rfl | rfl<;>rfl
theorem jlw (a:Option Addr) (A H:Nat) (Q:List Lab) (b:Option Addr) (C I:Nat) (R:List Lab) (w:World) (L:SlE Lab.enc 2 w.heap.size w a A Q) (M:SlE Lab.enc 2 w.heap.size w b C R) (p:A<=maxLen) :
  CR 42 #[.slice a A H,.slice b C I] w (.bool (Q==R)):=by
 have J:=L.1;have S:=M.1;unfold maxLen at p;by_cases V:A=C
 ·subst V
  have r:((A:Int) != (A:Int))=false:=by simp
  have l:=Lib.hid J;have m:=Lib.hid S;clear J S;go_enter Tryz.func42,Tryz.ntmps42;go_wp2_with fail;go_loopw [5,13] (fun _ i wr=>∃ (k:Nat),i=.int .i64 k/\k<=A/\Bw w wr/\Hid (Q.take k=R.take k)) (fun _ i _=>A-(intOf i).toNat)
  case atStart=>exact⟨0,rfl,Nat.zero_le _,Below.refl _ _,rfl⟩
  case round =>
   obtain⟨k,rfl,s,N,X⟩:=hrel;by_cases O:k<A
   ·obtain⟨x,c,h,P,T,n,E⟩:=(L.below N).at O
    obtain⟨y,d,j,g,U,o,F⟩:=(M.below N).at O;subst T;subst U;have v:wr.cell? ⟨c,h+k*2,none⟩=some (.string x.name):=E 0 (by omega);have z:wr.cell? ⟨c,h+k*2+1,none⟩=some (.string x.value):=E 1 (by omega);have q0:wr.cell? ⟨d,j+k*2,none⟩=some (.string y.name):=F 0 (by omega);have q1:wr.cell? ⟨d,j+k*2+1,none⟩=some (.string y.value):=F 1 (by omega);have u:=jqJ;have i0:(0:Int)<=(k:Int):=by omega
    have t:(k:Int)<(A:Int):=by omega
    have Y:=Lib.hid P;have Z:=Lib.hid g;clear E F P g L M;by_cases B:x=y
    ·have q:∀ w,(binOp .neq 57 (.agg #[.string x.name,.string x.value]) (.agg #[.string y.name,.string y.value])).run Tryz.prog w=.ok (.bool false) w:=fun w=>by rw[jkC,jc0,jc0,B];simp
     have D:Hid (x=y):=B;clear B;go_wp2_with fail;go_quiet (fail);go_wp2_with fail;go_roundw
     case rel=>exact⟨k+1,by go_num,by omega,bDr N _,by rw[Hid,jai Y.out,jai Z.out,X.out,D.out]⟩
     case measure=>simp[intOf];omega
    ·have q:∀ w,(binOp .neq 57 (.agg #[.string x.name,.string x.value]) (.agg #[.string y.name,.string y.value])).run Tryz.prog w=.ok (.bool true) w:=fun w=>by rw[jkC,jc0,jc0];cases x;cases y;simp only[Lab.mk.injEq] at B;rw[<- Bool.decide_and,decide_eq_false B];rfl
     have D:Hid (¬ x=y):=B;clear B;go_wp2_with fail;go_quiet (fail);go_wp2_with fail;go_ret
     have G:(Q==R)=false:=by
      rw[beq_eq_false_iff_ne];intro e;have P:=Y.out;rw[e,Z.out] at P;exact D.out (Option.some.inj P).symm
     exact⟨by rw[G];rfl,bDr N _⟩
   ·obtain rfl:k=A:=by omega
    clear L M;go_wp2_with fail;go_ret;have f:=X.out;rw[List.take_of_length_le (by rw[<- l.out];omega),List.take_of_length_le (by rw[<- m.out];omega)] at f;exact⟨by rw[f];simp,N⟩
 ·have r:((A:Int) != (C:Int))=true:=by rw[bne_iff_ne];omega
  have G:Hid ((Q==R)=false):=by
   rw[Hid,beq_eq_false_iff_ne];intro e;rw[e,<- S] at J;exact V J
  clear L M J S V;go_enter Tryz.func42,Tryz.ntmps42;go_wp2_with fail;go_ret;exact⟨by rw[G.out];rfl,Below.refl _ _⟩
section
open Go.Shelf
attribute [local go_sem] Oper.semAt_some
attribute [-go_sem] Builtin.append_
def jfD (x:Lab):ByteArray:=x.name++(⟨#[61]⟩:ByteArray)++⟨(jbp (rl x.value 0)).toArray⟩
def jng (ls:List Lab):ByteArray:=⟨(Lib.join ((ls.map jfD).map (·.data.toList)) [44]).toArray⟩
theorem jhG:Tryz.prog.underlying 106=some (.slice 9):=by kernel_rfl
theorem jhC:(Tryz.prog.info? 9).map (fun i=>(i.zero,i.size,i.bytes))=some (some (.string ⟨#[]⟩),1,16):=by kernel_rfl
def jf6 (s:ByteArray):List Value:=[.string s]
theorem jd4 {w:World} {A e B n:Nat} {v:Value} {xs:List Value} (h:w.ownsRow A e B v n xs):∃ a cap,v=.slice a n cap:=by
 rcases h.2 with⟨rfl,rfl⟩ | ⟨g,cap,C,rfl,_⟩
 ·exact⟨none,0,rfl⟩
 ·exact⟨_,cap,rfl⟩
theorem jqn {W F:World} {B A e D n:Nat} {v:Value} {xs:List Value} (C:W.ownsRow A e D v n xs) (L:W.heap.size<=F.heap.size) (H:∀ k,k<W.heap.size->some k≠v.ownBlock->F.heap[k]? = W.heap[k]?):KeepsFrom B W F :=
 ⟨L,fun k o _ E J=>by
  refine (H k (Array.getElem?_eq_some_iff.1 E).1 (fun e=>?_)).trans E;rcases C.2 with⟨rfl,_⟩ | ⟨g,cap,G,rfl,_,I,_⟩
  ·cases e
  ·have:k=g:=by cases e;rfl
   subst this;rw[I] at E;cases E;cases J⟩
theorem jon (A:List UInt8) (M:Nat) (xs:List (List UInt8)) (h:∀ x∈xs,x.length<=M):(Lib.join xs A).length<=xs.length*(M+A.length):=by
 have ht:∀ r:List (List UInt8),(∀ x∈r,x.length<=M)->(Lib.joinTail A r).length<=r.length*(M+A.length):=by
  intro r
  induction r with
  | nil=>intro _;simp[Lib.joinTail]
  | cons x r ih =>
   intro hr;have C:=ih (fun y B=>hr y (List.mem_cons_of_mem _ B));have D:=hr x (List.mem_cons_self ..);simp only[Lib.joinTail,List.map_cons,List.flatten_cons,List.length_append,List.length_cons,Nat.add_mul] at C ⊢;omega
 cases xs with
 | nil=>simp[Lib.join_nil]
 | cons x r =>
  have C:=ht r (fun y B=>h y (List.mem_cons_of_mem _ B));have D:=h x (List.mem_cons_self ..);rw[Lib.join_cons,List.length_append,List.length_cons,Nat.add_mul];omega
theorem jij (u:ji3):(jfD u.1).data.toList.length<=30064770967:=by
 have A:=u.2.1;have B:=u.2.2;have C:=jfG (rl u.1.value 0);have D:=ju5 u.1.value 0
 have e:(jfD u.1).size=u.1.name.size+1+(jbp (rl u.1.value 0)).length:=by
  simp[jfD,ByteArray.size_append];rfl
 rw[<- Lib.size_eq,e];omega
def jdT (pre:List ji3):List ByteArray:=(pre.map (·.1)).map jfD
theorem jnY (A:List ji3):(jdT A).length=A.length:=by simp[jdT]
def jvl (n N:Nat) (w:World) (pre:List ji3) (W:World):Prop :=
 ∃ v,Boxed W n 106 v/\W.ownsRow N 9 1 v pre.length ((jdT pre).flatMap jf6)/\Bw w W
theorem jsf {n N:Nat} {w:World} (O:w.heap.size<=n) (M:n<N):OwnFrom N (jvl n N w):=fun s X Y row L A hr=>by
 obtain⟨v,G,C,H⟩:=L;refine⟨v,jdq N n _ (fun _:Unit=>v) () X Y row G A hr,C.kept A ?_,ownFrom_below (Nat.le_refl _) (by omega) () X Y row H A hr⟩;rcases C.2 with⟨rfl,_⟩ | ⟨g,cap,E,rfl,J,B,_⟩
 ·exact .inl rfl
 ·refine .inr (fun e=>?_)
  have F:row=some g:=by rw[<- e];rfl
  obtain⟨_,o,D,I⟩:=hr g F;rw[B] at D;cases D;cases I
theorem jhj (i:Option Addr) (cap:Nat) (M:List ji3) (w:World) (hL:Labs w.heap.size w (.slice i M.length cap) (M.map (·.1))) (hG:GW w) (h3:M.length<4294967281) (q:jal (M.map (·.1))=true) :
  CR 55 #[.slice i M.length cap] w (.tuple #[.string (jng (M.map (·.1))),.int .i64 0]):=by
 refine jay Tryz.func55 rfl ?_;simp only[Tryz.ntmps55,List.size_toArray,List.length_cons,List.length_nil,Nat.reduceAdd,Nat.reduceSub,Array.replicate_succ,Array.replicate_zero,List.push_toArray,List.append_toArray,List.nil_append,List.cons_append];have al:=hG;go_wp2_with (first | (go_at_call 61;refine (jbA i cap M _ hL hG h3).mono ?_;rw[q];rintro e E ⟨rfl,f⟩) | (go_at_call 98;refine (jkf _ _ _ _).mono ?_;rintro e w' ⟨rfl,rfl⟩));have bR:=Boxed.new E 106 (.slice none 0 0);have bN:=Boxed.new (E.alloc (.cells #[.slice none 0 0] 106)) 58 (.slice i M.length cap);have d:Bw w ((E.alloc (.cells #[.slice none 0 0] 106)).alloc (.cells #[.slice i M.length cap] 58)):=(f.alloc f.size _).alloc (by have:=f.size;simp;omega) _;simp only[World.size_alloc] at bN;have s:=bR.alloc (.cells #[.slice i M.length cap] 58);have ag:((E.alloc (.cells #[.slice none 0 0] 106)).alloc (.cells #[.slice i M.length cap] 58)).heap.size=E.heap.size+2:=by simp
 generalize ((E.alloc (.cells #[.slice none 0 0] 106)).alloc (.cells #[.slice i M.length cap] 58))=W0 at s bN d ag ⊢;clear bR;have ah:=f.size
 refine je8 57 (fun x:ji3=>#[.string x.1.name,.string x.1.value]) 5 (gf:=168) (lb:=#[.pointer (some ⟨E.heap.size+1,0,none⟩)]) rfl (enters_of Tryz.func168 (by kernel_rfl) rfl)
  (jgX (E.heap.size+1) w.heap.size _ M h3 W0 (by omega) (by omega) bN.cell (SlAt.below d hL)) (by omega) (Below.refl _ _) (fun _=>rfl)
  (jvl E.heap.size W0.heap.size w) (fun _ _ _=>False) (jsf (by omega) (by omega)) (fun c=>fun _ _ _ _ h=>h.elim)
  ⟨_,s,World.ownsRow_nil _ _ _ _,d⟩ ?assign ?body ?done ?stop
 case assign =>
  rintro l I x W K ⟨v,S,Z,k2⟩ hs hK;simp only[List.zip_toArray,List.zip_cons_cons,List.zip_nil_right,List.size_toArray,List.foldl_toArray',List.foldl_cons,List.foldl_nil,List.setIfInBounds_toArray,List.set_cons_succ,List.set_cons_zero] at hK ⊢;gi_wp2;exact⟨v,S.alloc _,Z.alloc _,k2.alloc k2.size _⟩
 case body =>
  rintro l I x W o ⟨v,S,Z,n⟩ aq R hx ar;have c0:=cCc hx 0;have c1:=cCc hx 1;simp at c0 c1;obtain⟨va,vc,rfl⟩:=jd4 Z;have c3:=S.cell;have c4:=S.frozen;simp only[List.zip_toArray,List.zip_cons_cons,List.zip_nil_right,List.size_toArray,List.foldl_toArray',List.foldl_cons,List.foldl_nil,List.setIfInBounds_toArray,List.set_cons_succ,List.set_cons_zero];have ao:Tryz.prog.follows .mixedOrders=true:=by kernel_rfl
  have m:=jpL x.1.value W.drew (by have:=x.2.2;omega);have L:E.heap.size<W.heap.size:=S.lt;have T:I.length<4294967281:=by omega
  have au:x.1.name.size<4294967281:=x.2.1;have av:(jbp (rl x.1.value 0)).length<=5*4294967281:=by have h1:=jfG (rl x.1.value 0);have h2:=ju5 x.1.value 0;have h3:=x.2.2;omega
  clear hx
  have fin:∀ (J O:World) (g B:Nat) (A:Below W.drew.heap.size W.drew J) (H:O.ownsRow W0.heap.size 9 1 (.slice (some ⟨g,0,none⟩) (I.length+1) B) (I.length+1) ((jdT I).flatMap jf6++[.string (x.1.name++(⟨#[61]⟩:ByteArray)++(⟨(jbp (rl x.1.value 0)).toArray⟩:ByteArray))])) (P:Below w.heap.size W O) (V:J.heap.size<O.heap.size) (C:∀ k,k<W0.heap.size->O.heap[k]? = J.heap[k]?) (G:∀ k,k<J.heap.size->some k≠(Value.slice va I.length vc).ownBlock->O.heap[k]? = J.heap[k]?),
    KeepsFrom W0.heap.size W (O.setCell ⟨E.heap.size,0,none⟩ (.slice (some ⟨g,0,none⟩) (I.length+1) B))/\Below w.heap.size W (O.setCell ⟨E.heap.size,0,none⟩ (.slice (some ⟨g,0,none⟩) (I.length+1) B))/\jvl E.heap.size W0.heap.size w (I++[x]) (O.setCell ⟨E.heap.size,0,none⟩ (.slice (some ⟨g,0,none⟩) (I.length+1) B)):=by
   intro J O g B A H P V C G;have X:Boxed O E.heap.size 106 _:=(C _ (by omega)).trans (jcT A L S);have an:KeepsFrom W0.heap.size W W.drew:=(KeepsOthers.drew _).from _
   refine⟨((an.trans (jgZ A (Nat.le_refl _))).trans (jqn (jbN (w':=J) Z (fun j _ Y=>A.block j Y)) (by omega) G)).trans ((KeepsOthers.setCell _ _ _).from _),P.setCell (p:=⟨E.heap.size,0,none⟩) ah _,_,X.set _,?_,(n.trans P).setCell (p:=⟨E.heap.size,0,none⟩) ah _⟩;have m:=ownsRow_setCell_below H (a:=⟨E.heap.size,0,none⟩) (by show E.heap.size<_;omega) (.slice (some ⟨g,0,none⟩) (I.length+1) B);simpa [jdT,jf6,jfD] using m
  gi_wp2_with fail
  refine jcM (F:=Fence.wide) rfl ao rfl ?_
  ·
   refine tai 1 ?_;refine tai 4 ?_;refine rdi [0,2,5] (.cons rfl (fun K hK=>?_) (.cons rfl (fun K hK=>?_) (.cons rfl (fun K hK=>?_) .nil)))
   all_goals go_simp
   all_goals (refine hK _ _ ?_;clear hK K)
   all_goals first
    | (refine rqi [2,5] (.cons rfl (fun K hK=>?_) (.cons rfl (fun K hK=>?_) .nil)))
    | (refine tqi 3 (v:=?_) rfl ?_ ?_;rotate_left;(intro w;go_simp;rw[if_neg (by omega)]);refine rqi [0,5] (.cons rfl (fun K hK=>?_) (.cons rfl (fun K hK=>?_) .nil)))
    | (refine rqi [0,2,6] (.cons rfl (fun K hK=>?_) (.cons rfl (fun K hK=>?_) (.cons rfl (fun K hK=>?_) .nil))))
   all_goals go_simp
   all_goals first
    |
     refine⟨trivial,(callsIn_wide.2 m).mono ?_⟩;rintro e J ⟨rfl,A⟩;obtain⟨g,B,O,aa,H,P,V,C,G⟩:=jaL Tryz.prog 106 jhG jhC rfl (by decide) (jbN (w':=J) Z (fun j _ Y=>A.block j Y)) ((Below.refl w.heap.size W).drew.trans (A.mono n.size)) (by omega) (by have:=A.size;have:W.drew.heap.size=W.heap.size:=rfl;omega) [.string (x.1.name++(⟨#[61]⟩:ByteArray)++(⟨(jbp (rl x.1.value 0)).toArray⟩:ByteArray))] rfl (by simp[Value.oneCell']) T (by decide);have N:W.heap.size<=J.heap.size:=A.size;have ai:E.heap.size<J.heap.size:=Nat.lt_of_lt_of_le L N;have aj:o<J.heap.size:=Nat.lt_of_lt_of_le R N;have d0:=(A.cell (p:=⟨o,0,none⟩) R).trans c0;have d1:=(A.cell (p:=⟨E.heap.size,0,none⟩) L).trans c3;have X:Boxed O E.heap.size 106 _:=(C _ (by omega)).trans (jcT A L S);have d3:=X.cell;have d4:=X.frozen;refine hK _ _ ?_;clear hK K m
    | (refine hK _ _ ?_;clear hK K)
   all_goals first
    | (refine tqi 3 (v:=?_) rfl ?_ ?_;rotate_left;(intro w;go_simp;rw[if_neg (by omega)]);refine rqi [5] (.cons rfl (fun K hK=>?_) .nil))
    | (refine rqi [2,6] (.cons rfl (fun K hK=>?_) (.cons rfl (fun K hK=>?_) .nil)))
    | (refine rqi [5] (.cons rfl (fun K hK=>?_) .nil))
    | (refine rqi [0,6] (.cons rfl (fun K hK=>?_) (.cons rfl (fun K hK=>?_) .nil)))
    | (refine tqi 3 (v:=?_) rfl ?_ ?_;rotate_left;(intro w;go_simp;rw[if_neg (by omega)]);refine rqi [0,6] (.cons rfl (fun K hK=>?_) (.cons rfl (fun K hK=>?_) .nil)))
    | (refine rqi [0,2] (.cons rfl (fun K hK=>?_) (.cons rfl (fun K hK=>?_) .nil)))
   all_goals go_simp
   all_goals first
    |
     refine⟨trivial,(callsIn_wide.2 m).mono ?_⟩;rintro e J ⟨rfl,A⟩;obtain⟨g,B,O,aa,H,P,V,C,G⟩:=jaL Tryz.prog 106 jhG jhC rfl (by decide) (jbN (w':=J) Z (fun j _ Y=>A.block j Y)) ((Below.refl w.heap.size W).drew.trans (A.mono n.size)) (by omega) (by have:=A.size;have:W.drew.heap.size=W.heap.size:=rfl;omega) [.string (x.1.name++(⟨#[61]⟩:ByteArray)++(⟨(jbp (rl x.1.value 0)).toArray⟩:ByteArray))] rfl (by simp[Value.oneCell']) T (by decide);have N:W.heap.size<=J.heap.size:=A.size;have ai:E.heap.size<J.heap.size:=Nat.lt_of_lt_of_le L N;have aj:o<J.heap.size:=Nat.lt_of_lt_of_le R N;have d0:=(A.cell (p:=⟨o,0,none⟩) R).trans c0;have d1:=(A.cell (p:=⟨E.heap.size,0,none⟩) L).trans c3;have X:Boxed O E.heap.size 106 _:=(C _ (by omega)).trans (jcT A L S);have d3:=X.cell;have d4:=X.frozen;refine hK _ _ ?_;clear hK K m
    | (refine hK _ _ ?_;clear hK K)
   all_goals first
    | (refine rqi [6] (.cons rfl (fun K hK=>?_) .nil))
    | (refine tqi 3 (v:=?_) rfl ?_ ?_;rotate_left;(intro w;go_simp;rw[if_neg (by omega)]);refine rqi [6] (.cons rfl (fun K hK=>?_) .nil))
    | (refine rqi [2] (.cons rfl (fun K hK=>?_) .nil))
    | (refine tqi 7 (v:=?_) rfl ?_ ?_;rotate_left;(intro w;go_simp;rw[if_neg (by omega)]);refine rqi [0,8] (.cons rfl (fun K hK=>?_) (.cons rfl (fun K hK=>?_) .nil)))
    | (refine tqi 3 (v:=?_) rfl ?_ ?_;rotate_left;(intro w;go_simp;rw[if_neg (by omega)]);refine tqi 7 (v:=?_) rfl ?_ ?_;rotate_left;(intro w;go_simp;rw[if_neg (by omega)]);refine rqi [0,8] (.cons rfl (fun K hK=>?_) (.cons rfl (fun K hK=>?_) .nil)))
   all_goals go_simp
   all_goals first
    |
     refine⟨trivial,(callsIn_wide.2 m).mono ?_⟩;rintro e J ⟨rfl,A⟩;obtain⟨g,B,O,aa,H,P,V,C,G⟩:=jaL Tryz.prog 106 jhG jhC rfl (by decide) (jbN (w':=J) Z (fun j _ Y=>A.block j Y)) ((Below.refl w.heap.size W).drew.trans (A.mono n.size)) (by omega) (by have:=A.size;have:W.drew.heap.size=W.heap.size:=rfl;omega) [.string (x.1.name++(⟨#[61]⟩:ByteArray)++(⟨(jbp (rl x.1.value 0)).toArray⟩:ByteArray))] rfl (by simp[Value.oneCell']) T (by decide);have N:W.heap.size<=J.heap.size:=A.size;have ai:E.heap.size<J.heap.size:=Nat.lt_of_lt_of_le L N;have aj:o<J.heap.size:=Nat.lt_of_lt_of_le R N;have d0:=(A.cell (p:=⟨o,0,none⟩) R).trans c0;have d1:=(A.cell (p:=⟨E.heap.size,0,none⟩) L).trans c3;have X:Boxed O E.heap.size 106 _:=(C _ (by omega)).trans (jcT A L S);have d3:=X.cell;have d4:=X.frozen;refine hK _ _ ?_;clear hK K m
    | (refine hK _ _ ?_;clear hK K)
   all_goals first
    | (refine tqi 7 (v:=?_) rfl ?_ ?_;rotate_left;(intro w;go_simp;rw[if_neg (by omega)]);refine rqi [8] (.cons rfl (fun K hK=>?_) .nil))
    | (refine tqi 3 (v:=?_) rfl ?_ ?_;rotate_left;(intro w;go_simp;rw[if_neg (by omega)]);refine tqi 7 (v:=?_) rfl ?_ ?_;rotate_left;(intro w;go_simp;rw[if_neg (by omega)]);refine rqi [8] (.cons rfl (fun K hK=>?_) .nil))
    | (refine rqi [8] (.cons rfl (fun K hK=>?_) .nil))
    | (refine rqi [0] (.cons rfl (fun K hK=>?_) .nil))
   all_goals go_simp
   all_goals (refine hK _ _ ?_;clear hK K)
   all_goals (refine rdi [9] (.cons rfl (fun K hK=>?_) .nil))
   all_goals go_simp
   all_goals (refine hK _ _ ?_;clear hK K)
   all_goals (refine rdi [10] (.cons rfl (fun K hK=>?_) .nil))
   all_goals go_simp
   all_goals (refine hK _ _ ?_;clear hK K)
   all_goals (refine wpAnyIn_done (by kernel_rfl) ?_ _)
   all_goals
    exact fin J O g B A H P V C G
 case done =>
  rintro D W hD ⟨v,S,Z,n⟩ hK;have z0:=S.cell;have Q:=jnY M;obtain⟨va,vc,rfl,U,-⟩:=jaz (enc:=jf6) (l:=jdT M) (fun _=>rfl) (by rw[Q];exact Z);rw[Q] at U z0
  have ae:0<M.length:=by
   rcases Nat.eq_zero_or_pos M.length with h | h
   ·rw[jal,List.length_map,h] at q;simp at q
   ·exact h
  have af:M.length<=6:=by
   rw[jal,List.length_map] at q;simp at q;omega
  obtain⟨y,b,off,-,rfl,am,-⟩:=U.1.at ae
  have ac:∀ (j:Nat) z,(jdT M)[j]? = some z->W.cell? ⟨b,off+j,none⟩=some (.string z):=fun j z r=>by
   obtain⟨b',ap,e,-,hc⟩:=U.1.2 j z r;injection e with e1
   injection e1 with e1 e2
   subst e1;subst e2;have:=hc 0 Nat.one_pos;rwa [Nat.mul_one,Nat.add_zero] at this
  have ad:=jon [44] 30064770967 ((jdT M).map (·.data.toList)) (by
   intro z r;simp only[jdT,List.map_map,List.mem_map,Function.comp] at r;obtain⟨u,-,rfl⟩:=r;exact jij u)
  have Y:=Tryz.strings_Join b off vc (jdT M) ⟨#[44]⟩ W ac am (by rw[Q];omega) (by rw[Q];exact U.2.1) (by
   refine Nat.le_trans ad ?_;rw[List.length_map,Q];exact Nat.le_trans (Nat.mul_le_mul_right (30064770967+([44]:List UInt8).length) af) (by decide))
  rw[Q] at Y;have HK:=Lib.hid hK;have HD:Hid (W0.heap.size<=D/\D<W.heap.size):=⟨hD,(Array.getElem?_eq_some_iff.1 hK).1⟩;have r:=n.size;clear ad ac ae af Q Z S U q hL hG al hD hK ag;go_wp2_with (go_at_call 100;refine Y.mono ?_;rintro e w3 ⟨rfl,ab⟩);have t:=(ab.block D HD.out.2).trans HK.out;have ak:w.heap.size<=D:=by have:=HD.out.1;have:=d.size;omega
  refine jaX t (results_tmp2 rfl _ _ _) ⟨rfl,jgy (n.trans (ab.mono r)) ak t⟩
 case stop =>
  rintro D c I W hD hp h;exact h.elim
theorem jhk (B:Option Addr) (cap:Nat) (A:List ji3) (w:World) (F:Labs w.heap.size w (.slice B A.length cap) (A.map (·.1))) (E:GW w) (D:A.length<4294967281) (G:jal (A.map (·.1))=false) :
  CR 55 #[.slice B A.length cap] w (.tuple #[.string ⟨#[]⟩,.int .i64 40]):=by
 refine jay Tryz.func55 rfl ?_;simp only[Tryz.ntmps55,List.size_toArray,List.length_cons,List.length_nil,Nat.reduceAdd,Nat.reduceSub,Array.replicate_succ,Array.replicate_zero,List.push_toArray,List.append_toArray,List.nil_append,List.cons_append];go_wp2_with (go_at_call 61;refine (jbA B cap A _ F E D).mono ?_;rw[G];rintro e H ⟨rfl,C⟩);exact jck (results_tmp2 rfl _ _ _) rfl ⟨rfl,C⟩
end
section
open Go.Shelf
def jfs (l:List Lab):Prop:=∀ x∈l,x.ok
theorem jks (l:List Lab) (h:jfs l):∃ B:List ji3,B.map (·.1)=l:=by
 induction l with
 | nil=>exact⟨[],rfl⟩
 | cons x xs ih =>
  obtain⟨B,A⟩:=ih (fun y C=>h y (List.mem_cons_of_mem _ C));exact⟨⟨x,h x (List.mem_cons_self ..)⟩::B,by rw[List.map_cons,A]⟩
theorem jfh (x:Lab):x.enc.length=2:=rfl
def jmA (l:List Lab):ByteArray:=if jal l then jng l else ⟨#[]⟩
def jwf (l:List Lab):Int:=if jal l then 0 else 40
theorem jeG (A:Option Addr) (cap:Nat) (w:World) :
  Calls Tryz.prog 61 #[.slice A 0 cap] w fun e w'=>e=.returned (.bool false)/\w'=w:=by
 refine jay Tryz.func61 rfl ?_;simp only[Tryz.ntmps61,List.size_toArray,List.length_cons,List.length_nil,Nat.reduceAdd,Nat.reduceSub,Array.replicate_succ,Array.replicate_zero,List.push_toArray,List.append_toArray,List.nil_append,List.cons_append];go_wp2_with fail;go_step3;go_wp2_with fail;exact jck (results_tmp rfl _ _ _) rfl ⟨rfl,rfl⟩
theorem jgl (a:Option Addr) (len cap:Nat) (l:List Lab) (w:World) (h:SlE Lab.enc 2 w.heap.size w a len l) (F:jfs l) (D:GW w) (E:len<4294967281) :
  CR 61 #[.slice a len cap] w (.bool (jal l)):=by
 rcases Nat.eq_zero_or_pos len with A | A
 ·subst A
  obtain rfl:l=[]:=List.eq_nil_of_length_eq_zero h.1.symm;refine (jeG a cap w).mono ?_;rintro e w' ⟨rfl,rfl⟩;exact⟨rfl,Below.refl _ _⟩
 ·have B:=h.to_at (cap:=cap) jfh A
  obtain⟨G,rfl⟩:=jks l F;have C:=h.1;rw[List.length_map] at C;subst C;exact jbA a cap G w B D E
theorem ji9 (A:Option Addr) (cap:Nat) (w:World) :
  CR 55 #[.slice A 0 cap] w (.tuple #[.string ⟨#[]⟩,.int .i64 40]):=by
 refine jay Tryz.func55 rfl ?_;simp only[Tryz.ntmps55,List.size_toArray,List.length_cons,List.length_nil,Nat.reduceAdd,Nat.reduceSub,Array.replicate_succ,Array.replicate_zero,List.push_toArray,List.append_toArray,List.nil_append,List.cons_append];go_wp2_with (go_at_call 61;refine (jeG A cap _).mono ?_;rintro e B ⟨rfl,rfl⟩);exact jck (results_tmp2 rfl _ _ _) rfl ⟨rfl,Below.refl _ _⟩
theorem jlU (a:Option Addr) (len cap:Nat) (l:List Lab) (w:World) (h:SlE Lab.enc 2 w.heap.size w a len l) (H:jfs l) (E:GW w) (G:len<4294967281) :
  CR 55 #[.slice a len cap] w (.tuple #[.string (jmA l),.int .i64 (jwf l)]):=by
 rcases Nat.eq_zero_or_pos len with C | C
 ·subst C
  obtain rfl:l=[]:=List.eq_nil_of_length_eq_zero h.1.symm;exact ji9 a cap w
 ·have B:=h.to_at (cap:=cap) jfh C
  obtain⟨D,rfl⟩:=jks l H;have F:=h.1;rw[List.length_map] at F;subst F
  cases A:jal (D.map (·.1)) with
  | true=>rw[jmA,jwf,if_pos A,if_pos A];exact jhj a cap D w B E G A
  | false=>rw[jmA,jwf,A];exact jhk a cap D w B E G A
theorem jpZ:Tryz.prog.underlying 58=some (.slice 57):=by kernel_rfl
theorem jpj:(Tryz.prog.info? 57).map (fun i=>(i.zero,i.size,i.bytes))=some (some (.agg #[.string ⟨#[]⟩,.string ⟨#[]⟩]),2,32):=by kernel_rfl
def jjD (x:Lab):ji3:=⟨⟨jmX 20 x.name,jmX 120 x.value⟩,jmY 20 (by decide) _,jmY 120 (by decide) _⟩
def jeh (l:List Lab):List ji3:=(l.take 10).map jjD
theorem jpc {l:List Lab} {k:Nat} {x:Lab} (A:l[k]? = some x):((l.take (k+1)).map jjD).flatMap (fun y=>y.1.enc)=((l.take k).map jjD).flatMap (fun y=>y.1.enc)++[.string (jmX 20 x.name),.string (jmX 120 x.value)]:=by
 rw[jai A];simp[jjD,Lab.enc]
theorem jh3 (l:List Lab) (a:Option Addr) (len cap:Nat) (w:World) (T:SlE Lab.enc 2 w.heap.size w a len l) :
  Calls Tryz.prog 58 #[.slice a len cap] w fun e w'=>∃ F B,e=.returned (.slice F (jeh l).length B)/\SlC Lab.enc 2 w'.heap.size w' F (jeh l).length B ((jeh l).map (·.1))/\(∀ x,F=some x->w.heap.size<=x.block)/\Bw w w':=by
 have Q:=T.1;subst Q;have C:w.ownsRow w.heap.size 57 2 (.slice none 0 0) 0 []:=World.ownsRow_nil _ _ _ _;go_enter Tryz.func58,Tryz.ntmps58;go_wp2_with fail;go_loopw [3,4] (fun v i wr=>∃ (k:Nat),i=.int .i64 k/\k<=l.length/\k<=10/\Bw w wr/\wr.ownsRow w.heap.size 57 2 v k (((l.take k).map jjD).flatMap (fun y=>y.1.enc))) (fun _ i _=>l.length-(intOf i).toNat)
 case atStart=>exact⟨0,rfl,Nat.zero_le _,by omega,Below.refl _ _,C⟩
 case round =>
  obtain⟨k,rfl,hk,h,L,A⟩:=hrel;have Y:=L.size;by_cases H:k<l.length/\k<10
  ·obtain⟨H,X⟩:=H
   obtain⟨x,Z⟩:∃ x,l[k]? = some x:=⟨_,List.getElem?_eq_getElem H⟩;obtain⟨b,off,rfl,E,V⟩:=(T.below L).2 k x Z;have o:wr.cell? ⟨b,off+k*2,none⟩=some (.string x.name):=V 0 (by omega);have c1:wr.cell? ⟨b,off+k*2+1,none⟩=some (.string x.value):=V 1 (by omega);have n:=Lib.hid (jpc Z);obtain⟨r,N,c,O,D,G,t,P,-⟩:=jaL Tryz.prog 58 jpZ jpj rfl (by decide) (W:=wr.drew) A L.drew (Nat.le_refl _) Y [.string (x.name.extract 0 (min (x.name.size:Int) 20).toNat),.string (x.value.extract 0 (min (x.value.size:Int) 120).toNat)] rfl (by simp[Value.oneCell']) (by omega) (by decide);obtain⟨J,M,rfl⟩:=jd4 A;have m:=Lib.hid D;have e4:(k:Int)<10:=by omega
   have u:c.cell? ⟨b,off+k*2,none⟩=some (.string x.name):=(G.cell (p:=⟨b,off+k*2,none⟩) E).trans ((L.cell (p:=⟨b,off+k*2,none⟩) E).symm.trans o);have z:c.cell? ⟨b,off+k*2+1,none⟩=some (.string x.value):=(G.cell (p:=⟨b,off+k*2+1,none⟩) E).trans ((L.cell (p:=⟨b,off+k*2+1,none⟩) E).symm.trans c1);have e5:b<wr.heap.size:=by omega
   have m1:0<=min (x.name.size:Int) 20:=by omega
   have m2:min (x.name.size:Int) 20<=x.name.size:=by omega
   have m3:0<=min (x.value.size:Int) 120:=by omega
   have m4:min (x.value.size:Int) 120<=x.value.size:=by omega
   clear V Z T A D P C;go_wp2_with fail
   go_region_held3 (fun w'=>w'.cell? ⟨b,off+k*2,none⟩=some (.string x.name)/\w'.cell? ⟨b,off+k*2+1,none⟩=some (.string x.value))
    (first
     | go_keep
     | exact⟨u,z⟩)
    ((refine jdS (v:=.slice J k M) (xv:=.slice (some ⟨wr.heap.size,0,none⟩) 1 1) (v':=.slice (some ⟨r,0,none⟩) (k+1) N) (w':=c) rfl (.tmp 15) (.tmp 43) 58 rfl rfl rfl O ?_))
   all_goals go_wp2_with fail
   all_goals exact⟨⟨k+1,by go_num,by omega,by omega,G,by rw[n.out];exact m.out⟩,by simp[intOf];omega⟩
  ·have d:Hid (k=min l.length 10):=by rw[Hid];omega
   have g:Hid (((l.take k).map jjD)=jeh l):=by
    rw[d.out,jeh,Hid];rw[Nat.min_comm];exact congrArg _ List.take_eq_take_min.symm
   have U:Hid ((jeh l).length=k):=by rw[Hid,<- g.out,List.length_map,List.length_take];omega
   obtain⟨J,M,rfl⟩:=jd4 A
   have S:Hid (SlC Lab.enc 2 wr.heap.size wr J (jeh l).length M ((jeh l).map (·.1))/\∀ x,J=some x->w.heap.size<=x.block):=by
    have R:k=((jeh l).map (·.1)).length:=by rw[List.length_map,U.out]
    have I:wr.ownsRow w.heap.size 57 2 (.slice J k M) ((jeh l).map (·.1)).length (((jeh l).map (·.1)).flatMap Lab.enc):=by
     rw[<- R,List.flatMap_map];rw[g.out] at A;exact A
    obtain⟨a9,c9,q,f,s⟩:=jaz (enc:=Lab.enc) jfh I;injection q with e1 e2 e3
    subst e1;subst e3;rw[Hid,U.out];rw[<- R] at f;exact⟨f,s⟩
   clear T A d;have j:Hid (∃ F B,Ending.returned (.slice J k M)=.returned (.slice F (jeh l).length B)/\SlC Lab.enc 2 wr.heap.size wr F (jeh l).length B ((jeh l).map (·.1))/\(∀ x,F=some x->w.heap.size<=x.block)/\Bw w wr):=⟨J,M,by rw[U.out],S.out.1,S.out.2,L⟩;go_wp2_with fail
   all_goals go_ret
   all_goals exact j.out
def upB:List Int->Bool
 | x::y::r=>decide (x<y)&&upB (y::r)
 | _=>true
theorem jsv:∀ l:List Int,upB l=true↔Up l
 | []=>by simp[upB,Up]
 | [x]=>by simp[upB,Up]
 | x::y::r=>by
  have D:=jsv (y::r);simp only[upB,Bool.and_eq_true,decide_eq_true_eq,D];constructor
  ·rintro⟨B,A⟩
   refine List.pairwise_cons.2 ⟨fun z C=>?_,A⟩;rcases List.mem_cons.1 C with rfl | C
   ·exact B
   ·have:=(List.pairwise_cons.1 A).1 z C;omega
  ·intro h
   obtain⟨B,A⟩:=List.pairwise_cons.1 h;exact⟨B y List.mem_cons_self,A⟩
theorem jm0 (l:List Int):jaH l=(decide (l.length<=64)&&upB l):=by
 rw[Bool.eq_iff_iff,Bool.and_eq_true,decide_eq_true_eq,jsv];exact⟨fun h=>⟨(jcE l h).2,(jcE l h).1⟩,fun h=>jcS l h.2 h.1⟩
theorem jw6 {l:List Int} {k:Nat} {x y:Int} (A:l[k]? = some x) (B:l[k+1]? = some y):upB (l.drop k)=(decide (x<y)&&upB (l.drop (k+1))):=by
 rw[jat A,jat B];rfl
theorem jwk {l:List Int} {k:Nat} (h:l.length<=k+1):upB (l.drop k)=true:=by
 have:(l.drop k).length<=1:=by rw[List.length_drop];omega
 match hl:l.drop k,this with
 | [],_=>rfl
 | [x],_=>rfl
theorem jdv (a:Option Addr) (len cap:Nat) (l:List Int) (w:World) (N:SlE jaG 1 w.heap.size w a len l) (m:len<=maxLen) (X:jc8 l) :
  CR 118 #[.agg #[.slice a len cap]] w (.bool (jaH l)):=by
 have B:=N.1;unfold maxLen at m;obtain⟨M,f,E,D,n⟩:=jaf w #[.slice a len cap] 32;have d:=Lib.hid E;have S:=Lib.hid (N.go D);have U:=Lib.hid X;have T:=Lib.hid B;have A:=Lib.hid D;have J:=Lib.hid (jm0 l);have R:w.heap.size<M.heap.size:=by omega
 clear N D B X;generalize jaH l=bR at J ⊢;have e:M.cell? ⟨w.heap.size,0,none⟩=some (.slice a len cap):=cCc E 0;clear E;go_enter Tryz.func118,Tryz.ntmps118;go_wp2_with fail;go_loopw [3] (fun i wr=>∃ (k:Nat),i=.int .i64 ((k:Int)+1)/\(k<=len)/\(k=0\/k<len)/\Bw M wr/\Hid (upB l=upB (l.drop k))) (fun i _=>len+1-(intOf i).toNat)
 case atStart=>exact⟨0,rfl,Nat.zero_le _,.inl rfl,Below.refl _ _,rfl⟩
 case round =>
  obtain⟨k,rfl,u,h,C,L⟩:=hrel;have o:=C.size;have z:wr.cell? ⟨w.heap.size,0,none⟩=some (.slice a len cap):=(C.cell (p:=⟨w.heap.size,0,none⟩) R).trans e;by_cases O:k+1<len
  ·obtain⟨x,b,off,P,rfl,g,Z⟩:=(S.out.below C).at (j:=k) (by omega)
   obtain⟨y,t,c,Q,G,Y,H⟩:=(S.out.below C).at (j:=k+1) O;injection G with G
   injection G with G e2
   subst G;subst e2;have q:wr.cell? ⟨b,off+k*1+0,none⟩=some (.int .u64 x):=Z 0 (by omega);have r:wr.cell? ⟨b,off+(k+1)*1+0,none⟩=some (.int .u64 y):=H 0 (by omega);simp only[Nat.mul_one,Nat.add_zero] at q r;have V:=Lib.hid (jw6 P Q);obtain⟨u1,u2⟩:=U.out x (List.mem_of_getElem? P);obtain⟨v1,v2⟩:=U.out y (List.mem_of_getElem? Q);have v:(k:Int)+1<(len:Int):=by omega
   clear Z H P Q;by_cases I:x<y
   ·have s:decide (y<=x)=false:=by simp;omega
    have F:Hid (upB l=upB (l.drop (k+1))):=by rw[Hid,L.out,V.out,decide_eq_true I];rfl
    go_wp2_with fail;go_quiet (fail);go_wp2_with fail;go_roundw
    case rel=>exact⟨k+1,by go_num,by omega,.inr (by omega),bDr C _,F.out⟩
    case measure=>simp[intOf];omega
   ·have s:decide (y<=x)=true:=by simp;omega
    have F:Hid (bR=false):=by rw[Hid,J.out,L.out,V.out,decide_eq_false I];simp
    go_wp2_with fail;go_quiet (fail);go_wp2_with fail;go_ret;exact⟨by rw[F.out];rfl,A.out.trans ((bDr C _).mono A.out.size)⟩
  ·have F:Hid (bR=decide ((len:Int)<=64)):=by
    rw[Hid,J.out,L.out,jwk (by rw[<- T.out];omega),Bool.and_true,<- T.out];exact decide_eq_decide.2 (by omega)
   go_wp2_with fail;go_ret;exact⟨by rw[F.out];rfl,A.out.trans (C.mono A.out.size)⟩
theorem jd8 (Z:Option Addr) (A F:Nat) (N:List Int) (a:Option Addr) (B G:Nat) (O:List Int) (w:World) (Q:SlE jaG 1 w.heap.size w Z A N) (R:SlE jaG 1 w.heap.size w a B O) (n:A<=maxLen) :
  CR 37 #[.slice Z A F,.slice a B G] w (.bool (N==O)):=by
 have P:=Q.1;have S:=R.1;unfold maxLen at n;by_cases m:A=B
 ·subst m
  have t:((A:Int) != (A:Int))=false:=by simp
  have d:=Lib.hid P;have f:=Lib.hid S;clear P S;go_enter Tryz.func37,Tryz.ntmps37;go_wp2_with fail;go_loopw [5] (fun i wr=>∃ (k:Nat),i=.int .i64 k/\k<=A/\Bw w wr/\Hid (N.take k=O.take k)) (fun i _=>A-(intOf i).toNat)
  case atStart=>exact⟨0,rfl,Nat.zero_le _,Below.refl _ _,rfl⟩
  case round =>
   obtain⟨k,rfl,u,H,V⟩:=hrel;by_cases L:k<A
   ·obtain⟨x,g,p,M,T,j,I⟩:=(Q.below H).at L
    obtain⟨y,h,q,c,U,l,J⟩:=(R.below H).at L;subst T;subst U;have r:wr.cell? ⟨g,p+k*1+0,none⟩=some (.int .u64 x):=I 0 (by omega);have s:wr.cell? ⟨h,q+k*1+0,none⟩=some (.int .u64 y):=J 0 (by omega);simp only[Nat.mul_one,Nat.add_zero] at r s;have i0:(0:Int)<=(k:Int):=by omega
    have v:(k:Int)<(A:Int):=by omega
    have X:=Lib.hid M;have Y:=Lib.hid c;clear I J M c Q R;by_cases C:x=y
    ·have o:(x != y)=false:=by simp[C]
     have D:Hid (x=y):=C;clear C;go_wp2_with fail;go_quiet (fail);go_wp2_with fail;go_roundw
     case rel=>exact⟨k+1,by go_num,by omega,bDr H _,by rw[Hid,jai X.out,jai Y.out,V.out,D.out]⟩
     case measure=>simp[intOf];omega
    ·have o:(x != y)=true:=by simp[C]
     have D:Hid (¬ x=y):=C;clear C;go_wp2_with fail;go_quiet (fail);go_wp2_with fail;go_ret
     have E:(N==O)=false:=by
      rw[beq_eq_false_iff_ne];intro e;have M:=X.out;rw[e,Y.out] at M;exact D.out (Option.some.inj M).symm
     exact⟨by rw[E];rfl,bDr H _⟩
   ·obtain rfl:k=A:=by omega
    clear Q R;go_wp2_with fail;go_ret;have b:=V.out;rw[List.take_of_length_le (by rw[<- d.out];omega),List.take_of_length_le (by rw[<- f.out];omega)] at b;exact⟨by rw[b];simp,H⟩
 ·have t:((A:Int) != (B:Int))=true:=by rw[bne_iff_ne];omega
  have E:Hid ((N==O)=false):=by
   rw[Hid,beq_eq_false_iff_ne];intro e;rw[e] at P;omega
  clear P S;go_enter Tryz.func37,Tryz.ntmps37;go_wp2_with fail;go_ret;exact⟨by rw[E.out];rfl,Below.refl _ _⟩
end
end Go.Proofs.YtafhpamnegmilaaGreatDoor
