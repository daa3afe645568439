/- Package label: Get. Package scope: names, values, patterns' signs. Package scope: the places of a pattern. Package scope: signs, patterns, what fits. Package scope: IsPattern, Fits. -/
import Derived.Test.YtafhpamnegmilaaGreatDoorYM1
set_option maxHeartbeats 2000000
set_option maxRecDepth 100000
namespace Go.Proofs.YtafhpamnegmilaaGreatDoor
open Go Go.RowKit Go.Shelf
section
attribute [local go_sem] Oper.semAt_some
def ja5:List Lab->ByteArray->Option ByteArray
 | [],_=>none
 | x::xs,n=>if x.name.toList==n.toList then some x.value else ja5 xs n
theorem jhi (A:List Lab) (n:ByteArray) (x:Lab) (h:ja5 A n=none):ja5 (A++[x]) n=if x.name.toList==n.toList then some x.value else none:=by
 induction A with
 | nil=>rfl
 | cons y ys ih =>
  simp only[ja5,List.cons_append] at h ⊢;split at h
  ·cases h
  ·rename_i B;simp[B,ih h]
theorem jkr (B C:List Lab) (n v:ByteArray) (D:B <+: C) (h:ja5 B n=some v):ja5 C n=some v:=by
 obtain⟨t,rfl⟩:=D
 induction B with
 | nil=>simp[ja5] at h
 | cons y ys ih =>
  simp only[ja5,List.cons_append] at h ⊢;split
  ·rename_i A;simpa [A] using h
  ·rename_i A;exact ih (by simpa [A] using h)
theorem jkt (R:Option Addr) (cap:Nat) (J:List ji3) (G:ByteArray) (w:World) (hL:Labs w.heap.size w (.slice R J.length cap) (J.map (·.1))) (t:J.length<4294967281) :
  CR 62 #[.slice R J.length cap,.string G] w (.tuple #[.string ((ja5 (J.map (·.1)) G).getD ⟨#[]⟩),.bool (ja5 (J.map (·.1)) G).isSome]):=by
 refine jay Tryz.func62 rfl ?_;simp only[Tryz.ntmps62,List.size_toArray,List.length_cons,List.length_nil,Nat.reduceAdd,Nat.reduceSub,Array.replicate_succ,Array.replicate_zero,List.push_toArray,List.append_toArray,List.nil_append,List.cons_append];go_wp2_with (go_at_call 98;refine (jkf _ _ _ _).mono ?_;rintro e w' ⟨rfl,rfl⟩);obtain⟨b,P,d,f,g,h,O,M⟩:=jxG w (.string G) 9 (.string ⟨#[]⟩) 9 (.bool false) 4 (.slice R J.length cap) 58;rw[P];clear P
 refine je8 57 (fun x:ji3=>#[.string x.1.name,.string x.1.value]) 6 (gf:=168) (lb:=#[.pointer (some ⟨w.heap.size+3,0,none⟩)]) rfl (enters_of Tryz.func168 (by kernel_rfl) rfl)
  (jgX (w.heap.size+3) w.heap.size _ J t b (by omega) (by omega) h.cell (SlAt.below O hL)) (by omega) (Below.refl _ _) (fun _=>rfl)
  (fun E W=>Boxed W w.heap.size 9 (.string G)/\Boxed W (w.heap.size+1) 9 (.string ⟨#[]⟩)/\Boxed W (w.heap.size+2) 4 (.bool false)/\ja5 (E.map (·.1)) G=none/\Bw w W)
  (fun c E W=>(∃ v,Boxed W (w.heap.size+1) 9 (.string v)/\ja5 (E.map (·.1)) G=some v)/\Boxed W (w.heap.size+2) 4 (.bool true)/\c=.ret/\Bw w W)
  ((jdq _ _ _ _).and ((jdq _ _ _ _).and ((jdq _ _ _ _).and ((ownFrom_pure _ _).and (ownFrom_below (Nat.le_refl _) (by omega))))))
  (fun c=>OwnFrom.and (fun s X Y row a F hr=>by obtain⟨v,q,r⟩:=a;exact⟨v,jdq _ _ _ (fun _=>.string v) s X Y row q F hr,r⟩) ((jdq _ _ _ _).and ((ownFrom_pure _ _).and (ownFrom_below (Nat.le_refl _) (by omega)))))
  ⟨d,f,g,rfl,O⟩ ?assign ?body ?done ?stop
 case assign =>
  rintro l E x W K ⟨C,A,B,F,H⟩ a hK;simp only[List.zip_toArray,List.zip_cons_cons,List.zip_nil_right,List.size_toArray,List.foldl_toArray',List.foldl_cons,List.foldl_nil,List.setIfInBounds_toArray,List.set_cons_succ,List.set_cons_zero] at hK ⊢;gi_wp2;exact⟨C.alloc _,A.alloc _,B.alloc _,F,H.alloc H.size _⟩
 case body =>
  rintro l E x W Bx ⟨C,A,B,F,H⟩ y u U ab;have i:=cCc U 0;have j:=cCc U 1;have c2:=C.cell;have k:=A.cell;have m:=B.cell;have n:=A.frozen;have o:=B.frozen;simp at i j;simp only[List.zip_toArray,List.zip_cons_cons,List.zip_nil_right,List.size_toArray,List.foldl_toArray',List.foldl_cons,List.foldl_nil,List.setIfInBounds_toArray,List.set_cons_succ,List.set_cons_zero];have Q:=Lib.hid (jhi (E.map (·.1)) G x.1 F);clear M U F;by_cases S:(x.1.name.toList==G.toList)=true
  ·gi_wp2_with fail
   have N:=Q.out;rw[if_pos S] at N;refine⟨((KeepsOthers.setCell _ _ _).from _).trans ((KeepsOthers.setCell _ _ _).from _),⟨x.1.value,(A.set _).other (by omega) _,by rw[List.map_append,List.map_singleton];exact N⟩,(B.other (by omega) _).set _,rfl,(H.setCell (p:=⟨w.heap.size+1,0,none⟩) (Nat.le_succ _) _).setCell (p:=⟨w.heap.size+2,0,none⟩) (Nat.le_add_right _ _) _⟩
  ·have aa:(x.1.name.toList==G.toList)=false:=by simpa using S
   gi_wp2_with fail
   have N:=Q.out;rw[if_neg S] at N;exact⟨KeepsFrom.refl _ _,Below.refl _ _,C,A,B,by rw[List.map_append,List.map_singleton];exact N,H⟩
 case done =>
  rintro D W z ⟨C,A,B,F,H⟩ hK;have k:=A.cell;have m:=B.cell;have n:=A.frozen;have o:=B.frozen;have L:w.heap.size<=D:=by omega
  clear M;go_wp2_with fail;have I:=jtD (jtD hK ⟨w.heap.size+1,0,none⟩ (.string ⟨#[]⟩)) ⟨w.heap.size+1+1,0,none⟩ (.bool false);have V:=jts ((A.set (.string ⟨#[]⟩)).other (B':=w.heap.size+1+1) (by omega) (.bool false)) I rfl (.deferred none);have Z:=jts ((B.other (B':=w.heap.size+1) (by omega) (.string ⟨#[]⟩)).set (.bool false)) I rfl (.deferred none);refine jaX (v:=.tuple #[.string ⟨#[]⟩,.bool false]) I ?_ ⟨by rw[F];rfl,jgy ((H.setCell (p:=⟨w.heap.size+1,0,none⟩) (Nat.le_succ _) _).setCell (p:=⟨w.heap.size+2,0,none⟩) (Nat.le_add_right _ _) _) L I⟩;simp[results,Tryz.f62,go_sem,V.cell,Z.cell]
 case stop =>
  rintro D c E W z hp ⟨⟨v,C,F⟩,A,rfl,H⟩ hK;have L:w.heap.size<=D:=by omega
  clear M;go_wp2_with fail;have V:=jts C hK rfl (.deferred none);have Z:=jts A hK rfl (.deferred none);have T:=jkr _ _ _ _ (hp.map (·.1)) F;refine jaX (v:=.tuple #[.string v,.bool true]) hK ?_ ⟨by rw[T];rfl,jgy H L hK⟩;simp[results,Tryz.f62,go_sem,V.cell,Z.cell]
def sA:ByteArray:=⟨#[97]⟩
def jdH (s:ByteArray):Bool:=jal [⟨s,⟨#[]⟩⟩]
def jcH (s:ByteArray):Bool:=jal [⟨sA,s⟩]
theorem jlV (w:World) (l:Lab) (t:TypeId):Labs (w.heap.size+1) (w.alloc (.cells #[.string l.name,.string l.value] t)) (.slice (some ⟨w.heap.size,0,none⟩) 1 1) [l]:=by
 refine .inr ⟨w.heap.size,0,1,rfl,by omega,fun i _=>?_⟩;rw[Nat.zero_add,cCc (World.alloc_heap_new w _) i];simp[Lab.enc]
theorem jmm (s:ByteArray) (w:World) (E:s.size<4294967281) (B:GW w):CR 107 #[.string s] w (.bool (jdH s)):=by
 have A:Bw w (w.alloc (.cells #[.string s,.string ⟨#[]⟩] 57)):=(Below.refl _ _).alloc (Nat.le_refl _) _;have C:=jbA (some ⟨w.heap.size,0,none⟩) 1 [⟨⟨s,⟨#[]⟩⟩,E,by show (0:Nat)<_;omega⟩] _ (by simpa using jlV w ⟨s,⟨#[]⟩⟩ 57) (B.below A) (by simp);go_enter Tryz.func107,Tryz.ntmps107;go_wp2_with (go_at_call 61;refine C.mono ?_;rintro e w' ⟨rfl,D⟩);go_ret;exact⟨rfl,A.trans (D.mono (by simp))⟩
theorem jkR (s:ByteArray) (w:World) (E:s.size<4294967281) (C:GW w):CR 150 #[.string s] w (.bool (jcH s)):=by
 have A:Bw w (w.alloc (.cells #[.string sA,.string s] 57)):=(Below.refl _ _).alloc (Nat.le_refl _) _;have B:=jbA (some ⟨w.heap.size,0,none⟩) 1 [⟨⟨sA,s⟩,by show (1:Nat)<_;omega,E⟩] _ (by simpa using jlV w ⟨sA,s⟩ 57) (C.below A) (by simp);unfold sA at B A;go_enter Tryz.func150,Tryz.ntmps150;go_wp2_with (go_at_call 61;refine B.mono ?_;rintro e w' ⟨rfl,D⟩);go_ret;exact⟨rfl,A.trans (D.mono (by simp))⟩
inductive Sign where
 | any | one | that (c:Int)
def Sign.val:Sign->Value
 | .any=>.iface 217 (.agg #[])
 | .one=>.iface 218 (.agg #[])
 | .that c=>.iface 216 (.agg #[.int .i32 c])
def Sign.isAny:Sign->Bool
 | .any=>true
 | _=>false
def Sign.isFor (c:Int):Sign->Bool
 | .one=>true
 | .that d=>d==c
 | .any=>false
theorem jqs (x:Sign) (w:World):(Instr.typeAssert x.val 223 217 true).run Tryz.prog w=.ok (.tuple #[.agg #[],.bool x.isAny]) w:=by cases x<;>kernel_rfl
theorem jlg (x:Sign) (w:World):(Instr.typeAssert x.val 223 218 true).run Tryz.prog w=.ok (.tuple #[.agg #[],.bool (match x with | .one=>true | _=>false)]) w:=by cases x<;>kernel_rfl
theorem joX (c:Int) (w:World):(Instr.typeAssert (Sign.that c).val 223 216 false).run Tryz.prog w=.ok (.agg #[.int .i32 c]) w:=by kernel_rfl
theorem jqV (c:Int) (w:World):(Instr.field 216 (.agg #[.int .i32 c]) 0).run Tryz.prog w=.ok (.int .i32 c) w:=by kernel_rfl
theorem jlM (x:Sign) (w:World):Calls Tryz.prog 152 #[x.val] w fun e w'=>e=.returned (.bool x.isAny)/\w=w':=by
 have A:=jqs x;generalize x.val=v at A ⊢;generalize x.isAny=b at A ⊢
 cases b <;>
 ·go_enter Tryz.func152,Tryz.ntmps152
  go_wp2;go_ret;exact⟨rfl,rfl⟩
theorem jre (x:Sign) (c:Int) (w:World) (C:x.isAny=false):CR 153 #[x.val,.int .i32 c] w (.bool (x.isFor c)):=by
 cases x with
 | any=>cases C
 | one =>
  have A:=jlg .one;simp only at A;generalize Sign.one.val=v at A ⊢;go_enter Tryz.func153,Tryz.ntmps153;go_wp2;go_ret;exact⟨rfl,(Below.refl _ _).alloc (Nat.le_refl _) _⟩
 | that d =>
  have A:=jlg (.that d);have B:=joX d;have D:=jqV d;simp only at A;generalize (Sign.that d).val=v at A B ⊢;go_enter Tryz.func153,Tryz.ntmps153;go_wp2;go_ret;exact⟨rfl,(Below.refl _ _).alloc (Nat.le_refl _) _⟩
end
theorem jmF (w:World):(zeroValue 163).run Tryz.prog w=.ok (.agg #[]) w:=by kernel_rfl
theorem jd9:Tryz.prog.underlying 160=some (.map 3 163):=by kernel_rfl
abbrev PSet (w:World) (b n:Nat) (S:Int->Bool):Prop:=SetAt Tryz.prog 3 w b n S
theorem PSet.put {w:World} {b n:Nat} {S:Int->Bool} (h:PSet w b n S) (B:n<maxLen) {i:Int} (A:wfI i) :
  ∃ w',(Instr.mapUpdate 160 (.map (some b)) (.int .i64 i) (.agg #[])).run Tryz.prog w=.ok () w'/\PSet w' b (n+1) (fun j=>S j||j==i)/\w.grownBy w' (some b) :=
 SetAt.add Tryz.underlying3 jd9 h B A
def Signs (n₀:Nat) (w:World) (sv:Value) (l:List Sign):Prop:=SlAt n₀ w sv l.length (l.map Sign.val)
theorem Signs.cell {C:Nat} {w:World} {a:Option Addr} {len cap:Nat} {l:List Sign} (h:Signs C w (.slice a len cap) l):len=l.length/\∀ i x,l[i]? = some x->∃ b off,a=some ⟨b,off,none⟩/\b<C/\w.cell? ⟨b,off+i,none⟩=some x.val:=by
 rcases h with⟨h,D,_⟩ | ⟨b,off,A,e,E,F⟩
 ·obtain⟨rfl,rfl,rfl⟩:a=none/\len=0/\cap=0:=by simpa using h
  have:l=[]:=by simpa using D
  subst this;exact⟨rfl,fun i x B=>by simp at B⟩
 ·obtain⟨rfl,rfl,rfl⟩:a=some ⟨b,off,none⟩/\len=l.length/\cap=A:=by simpa using e
  refine⟨rfl,fun i x B=>⟨b,off,rfl,E,?_⟩⟩;have G:=(List.getElem?_eq_some_iff.1 B).1;rw[F i (by simpa using G)];simp[B]
def jhN:List Sign->Nat
 | []=>0
 | x::xs=>if x.isAny then jhN xs+1 else 0
def jhz (l:List Sign) (i:Nat):Nat:=jhN (l.drop i)
theorem jn9 (l:List Sign) (i:Nat) (x:Sign) (h:l[i]? = some x) (A:x.isAny=true):jhz l i=jhz l (i+1)+1:=by
 unfold jhz;rw[List.drop_eq_getElem_cons (List.getElem?_eq_some_iff.1 h).1,(List.getElem?_eq_some_iff.1 h).2];simp[jhN,A]
theorem jqm (l:List Sign) (i:Nat) (x:Sign) (h:l[i]? = some x) (A:x.isAny=false):jhz l i=0:=by
 unfold jhz;rw[List.drop_eq_getElem_cons (List.getElem?_eq_some_iff.1 h).1,(List.getElem?_eq_some_iff.1 h).2];simp[jhN,A]
theorem jn7 (l:List Sign) (i:Nat) (h:l.length<=i):jhz l i=0:=by
 unfold jhz;rw[List.drop_eq_nil_of_le h];rfl
theorem jql (l:List Sign) (i:Nat):i<=l.length->i+jhz l i<=l.length:=by
 have:∀ (m:List Sign),jhN m<=m.length:=by
  intro m
  induction m with
  | nil=>simp[jhN]
  | cons x xs ih=>simp only[jhN];split<;>simp<;>omega
 intro h;have:=this (l.drop i);rw[List.length_drop] at this;unfold jhz;omega
def jhT (l:List Sign) (i:Nat) (j:Int):Bool:=decide ((i:Int)<=j)&&decide (j<=i+jhz l i)
theorem jkY (a:Option Addr) (len cap:Nat) (l:List Sign) (i:Nat) (b n c:Nat) (S:Int->Bool) (w:World) (N:Signs c w (.slice a len cap) l) (Z:PSet w b n S) (r:c<=b) (o:i<=l.length) (Y:l.length<4294967281) (u:n<4294967281) :
  Calls Tryz.prog 113 #[.map (some b),.slice a len cap,.int .i64 i] w fun e w'=>(∃ v,e=.returned v)/\PSet w' b (n+1+l.length) (fun j=>S j||jhT l i j)/\w.grownBy w' (some b):=by
 obtain⟨rfl,B⟩:=N.cell;obtain⟨y,P,J,I⟩:=Z.put (by unfold maxLen;omega) (i:=i) (ji1 (by omega) (by omega));go_enter Tryz.func113,Tryz.ntmps113;go_wp2_with fail;go_loopw [2] (fun v wr=>∃ k:Nat,v=.int .i64 k/\i<=k/\k<=l.length/\Hid (jhz l i=(k-i)+jhz l k)/\PSet wr b (n+1+(k-i)) (fun j=>S j||(decide ((i:Int)<=j)&&decide (j<=k)))/\w.grownBy wr (some b)) (fun v _=>l.length-(intOf v).toNat)
 case atStart=>exact⟨i,rfl,Nat.le_refl _,o,by simp[Hid],by rw[Nat.sub_self];exact J.congr (fun j _=>by cases S j<;>(rw[Bool.eq_iff_iff];simp<;>omega)),I⟩
 case round =>
  obtain⟨k,rfl,p,q,L,F,E⟩:=hrel;clear P J I;have m:=Z.lt;by_cases O:k<l.length
  ·obtain⟨x,R⟩:∃ x,l[k]? = some x:=⟨_,List.getElem?_eq_getElem O⟩
   obtain⟨V,off,rfl,h,X⟩:=B k x R;have H:wr.cell? ⟨V,off+k,none⟩=some x.val:=(World.cell?_of_block (E.block V (by omega) (by intro e;cases e;omega))).trans X;have A:=jlM x wr;have U:=Lib.hid R;clear R X B N;by_cases C:x.isAny=true
   ·have G:=Lib.hid (jn9 l k x U.out C)
    obtain⟨z,s,Q,M⟩:=F.put (by unfold maxLen;omega) (i:=(k:Int)+1) (ji1 (by omega) (by omega));generalize x.val=xv at H A;generalize x.isAny=xa at C A;subst C;go_wp2_with (go_at_call 152;refine A.mono ?_;rintro e w' ⟨rfl,rfl⟩);go_roundw
    case rel =>
     refine⟨k+1,by go_num,by omega,by omega,?_,?_,E.andThen M (fun j e=>.inr e)⟩
     ·have:=L.out;have:=G.out;show _=_;omega
     ·have d:=Q.congr (T:=fun j=>S j||(decide ((i:Int)<=j)&&decide (j<=((k+1:Nat):Int)))) (fun j _=>by cases S j<;>(rw[Bool.eq_iff_iff];simp<;>omega))
      rwa [show n+1+(k-i)+1=n+1+(k+1-i) by omega] at d
    case measure=>simp[intOf];omega
   ·have D:x.isAny=false:=by simpa using C
    have G:=Lib.hid (jqm l k x U.out D);clear C;generalize x.val=xv at H A;generalize x.isAny=xa at D A;subst D;go_wp2_with (go_at_call 152;refine A.mono ?_;rintro e w' ⟨rfl,rfl⟩);go_end0;refine⟨⟨_,rfl⟩,(F.congr (fun j _=>?_)).mono (by omega),E⟩;have f:=L.out;have g:=G.out;unfold jhT
    cases S j<;>(rw[Bool.eq_iff_iff];simp<;>omega)
  ·have G:=Lib.hid (jn7 l k (by omega))
   clear B N;have t:decide ((k:Int)<l.length)=false:=by simp;omega
   go_wp2_with fail;go_end0;refine⟨⟨_,rfl⟩,(F.congr (fun j _=>?_)).mono (by omega),E⟩;have f:=L.out;have g:=G.out;unfold jhT
   cases S j<;>(rw[Bool.eq_iff_iff];simp<;>omega)
def jdR (l:List Sign) (c:Int) (i:Nat) (j:Int):Bool :=
 match l[i]? with
 | none=>false
 | some x=>if x.isAny then jhT l i j else if x.isFor c then jhT l (i+1) j else false
def jcZ (l:List Sign) (S:Int->Bool) (c:Int) (j:Int):Bool:=(List.range (l.length+1)).any fun i=>S (i:Int)&&jdR l c i j
theorem jfX (l:List Sign) (i:Nat) (A:i<=l.length) (j:Int) (h:jhT l i j=true):0<=j/\j<(l.length+1:Nat):=by
 unfold jhT at h;have:=jql l i A;simp at h;omega
theorem jmt (l:List Sign) (c:Int) (i:Nat) (j:Int) (h:jdR l c i j=true):0<=j/\j<(l.length+1:Nat):=by
 unfold jdR at h;split at h
 ·cases h
 ·rename_i x A
  have:=(List.getElem?_eq_some_iff.1 A).1;split at h
  ·exact jfX l i (by omega) j h
  ·split at h
   ·exact jfX l (i+1) (by omega) j h
   ·cases h
theorem jmP (l:List Sign) (S:Int->Bool) (c:Int) (j:Int) (h:jcZ l S c j=true):0<=j/\j<(l.length+1:Nat):=by
 unfold jcZ at h;obtain⟨i,_,A⟩:=List.any_eq_true.1 h;exact jmt l c i j (by simp at A;exact A.2)
theorem jld {α:Type} (l:List α) (f g:α->Bool) (h:∀ x∈l,f x=g x):l.any f=l.any g:=by
 induction l with
 | nil=>rfl
 | cons x xs ih=>simp only[List.any_cons];rw[h x (by simp),ih (fun y A=>h y (by simp[A]))]
theorem jqk (n:Nat) (p L:Nat->Bool) (f:Nat->Bool) (i:Nat) (D:i<n) (F:L i=true) (E:p i=true) :
  ((List.range n).any fun a=>(p a && !(L a && !(a==i)))&&f a)=(((List.range n).any fun a=>(p a && !L a)&&f a)||f i):=by
 rw[Bool.eq_iff_iff];simp only[List.any_eq_true,List.mem_range,Bool.and_eq_true,Bool.or_eq_true,Bool.not_eq_true',Bool.and_eq_false_iff];constructor
 ·rintro⟨a,ha,⟨C,A⟩,B⟩
  by_cases e:a=i
  ·subst e;exact .inr B
  ·refine .inl ⟨a,ha,⟨C,?_⟩,B⟩
   rcases A with A | A
   ·exact A
   ·simp[e] at A
 ·rintro (⟨a,ha,⟨C,A⟩,B⟩ | h)
  ·exact⟨a,ha,⟨C,.inl A⟩,B⟩
  ·exact⟨i,D,⟨E,.inr (by simp)⟩,h⟩
theorem jnC (a:Option Addr) (len cap:Nat) (l:List Sign) (c:Int) (b n n₀:Nat) (S:Int->Bool) (w:World) (hl:Signs n₀ w (.slice a len cap) l) (hs:PSet w b n S) (z:n₀<=w.heap.size)
  (ah:∀ i,wfI i->S i=true->0<=i/\i<(l.length+1:Nat)) (ay:l.length<2147483648) :
  Calls Tryz.prog 114 #[.map (some b),.slice a len cap,.int .i32 c] w fun e w'=>∃ nb,e=.returned (.map (some nb))/\w.heap.size<=nb/\PSet w' nb (l.length+1) (jcZ l S c)/\Bw w w':=by
 have aw:=@run_makeMap Tryz.prog;have y:=hl.cell.1;subst y;have au:=hs.lt;have ac:Bw w (w.alloc (.map #[] 0)):=(Below.refl _ w).alloc (Nat.le_refl _) _;have ak:=SetAt.below hs ac au;have af:=jmo (P:=Tryz.prog) (kt:=3) w;have an:(w.alloc (.map #[] 0)).heap.size=w.heap.size+1:=by simp
 obtain⟨W2,ab,V,Y,t,g⟩:=SetAt.range Tryz.underlying3 jd9 ak;rw[an] at V Y g;have ad:Bw w W2:=ac.grown t (by omega) (fun k e=>by cases e);have ag:=(af.kept t (by simp)).mono (m:=l.length+1) (by omega);have HR:=Lib.hid V;clear V ak af t;go_enter Tryz.func114,Tryz.ntmps114;have V:=HR.out;go_wp2_with fail;clear V HR aw;go_loopw [] (fun wr=>∃ (L:Int->Bool) (cnt:Nat) (T:Int->Bool),RangeAt Tryz.prog 3 wr b (w.heap.size+1) n S L cnt/\PSet wr w.heap.size (l.length+1) T/\Hid (∀ j,wfI j->T j=(List.range (l.length+1)).any fun i=>(S (i:Int) && !L (i:Int))&&jdR l c i j)/\Bw w wr) (fun wr=>wr.rangeLeft b (w.heap.size+1))
 case atStart=>exact⟨S,ab,_,Y,ag,fun j _=>by simp,ad⟩
 case round =>
  obtain⟨L,cnt,T,X,hT,HT,hB⟩:=hrel;clear Y ag ad g;have F:=X.left_eq;have aA:=hT.lt;have aE:=X.lt;have ao:=hB.size;rcases RangeAt.next Tryz.underlying3 X 0 with⟨hL,ax⟩ | ⟨i,W3,N,aq,ae,q,ax,E,f,u,az,aD⟩
  ·clear F
   go_wp2_with fail;go_ret;refine⟨_,rfl,Nat.le_refl _,hT.congr (fun j G=>?_),hB⟩;rw[HT.out j G];unfold jcZ;refine jld _ _ _ (fun i hi=>?_);have:=List.mem_range.1 hi;rw[hL i (ji1 (by omega) (by omega))];simp
  ·obtain⟨h0,h1⟩:=ah i aq q
   obtain⟨k,rfl⟩:=Int.eq_ofNat_of_zero_le h0;have hk:k<=l.length:=by omega
   have O:Bw w W3:=hB.grown u ao (fun j e=>by cases e;omega);have Z:=hT.kept u (by simp)
   have aa:Hid (∀ j,wfI j->T j=true->0<=j/\j<(l.length+1:Nat)):=fun j G h=>by
    rw[HT.out j G] at h;obtain⟨i,_,h2⟩:=List.any_eq_true.1 h;exact jmt l c i j (by simp at h2;exact h2.2)
   have HV:Hid (∀ j,wfI j->((List.range (l.length+1)).any fun i=>(S (i:Int) && !(L (i:Int) && !((i:Int)==(k:Int))))&&jdR l c i j)=(T j||jdR l c k j)):=fun j G=>by
    rw[HT.out j G,<- jqk (l.length+1) (fun a=>S (a:Int)) (fun a=>L (a:Int)) (fun a=>jdR l c a j) k (by omega) ae q];refine jld _ _ _ (fun a _=>?_);have:((a:Int)==(k:Int))=(a==k):=by rw[Bool.eq_iff_iff];simp;omega
    rw[this]
   have I:Signs n₀ W3 (.slice a l.length cap) l:=SlAt.below (O.mono z) hl;have J:=I.cell.2;have aC:b≠w.heap.size+1:=fun e=>X.ne e.symm
   clear X hT HT hB u h0 h1 ae q aq;by_cases d:k=l.length
   ·have ai:((k:Int)==(l.length:Int))=true:=by simp[d]
    have HK:=Lib.hid d;clear d J I;go_wp2_with fail;go_roundw
    case rel =>
     refine⟨_,N,T,E,Z,fun j G=>?_,O⟩;rw[HV.out j G];unfold jdR;rw[HK.out];simp
    case measure=>rw[E.left_eq,F];exact f
   ·have ai:((k:Int)==(l.length:Int))=false:=by rw[beq_eq_false_iff_ne];omega
    have av:k<l.length:=by omega
    obtain⟨x,hx⟩:∃ x,l[k]? = some x:=⟨_,List.getElem?_eq_getElem av⟩;obtain⟨bb,off,rfl,aB,hc⟩:=J k x hx;have am:∀ j,jdR l c k j=if x.isAny then jhT l k j else if x.isFor c then jhT l (k+1) j else false:=fun j=>by simp[jdR,hx]
    have p:=Lib.hid am;have A:=jlM x W3;clear J d hx am;by_cases Q:x.isAny=true
    ·have aj:=jkY (some ⟨bb,off,none⟩) l.length cap l k w.heap.size (l.length+1) n₀ T W3 I Z z hk (by omega) (by omega)
     have o:=Lib.hid Q;clear I;generalize x.val=xv at hc A;rw[Q] at A;clear Q;go_wp2_with (first | (go_at_call 152;refine A.mono ?_;rintro e w' ⟨rfl,rfl⟩) | (go_at_call 113;refine aj.mono ?_;rintro e W4 ⟨⟨v,rfl⟩,r,M⟩));go_roundw
     case rel =>
      refine⟨_,N,_,E.kept M (fun e=>by have:=Option.some.inj e;omega) (fun e=>by have:=Option.some.inj e;omega),SetAt.tight Tryz.underlying3 r (fun j G h=>?_),fun j G=>?_,O.grown M (by omega) (fun j e=>by cases e;exact Nat.le_refl _)⟩
      ·simp only[Bool.or_eq_true] at h
       rcases h with h | h
       ·exact aa.out j G h
       ·exact jfX l _ (by omega) j h
      ·rw[HV.out j G,p.out j];simp[o.out]
     case measure=>rw[(E.kept M (fun e=>by have:=Option.some.inj e;omega) (fun e=>by have:=Option.some.inj e;omega)).left_eq,F];exact f
    ·have C:x.isAny=false:=by simpa using Q
     have B:=jre x c W3 C;clear Q;by_cases R:x.isFor c=true
     ·have o:Hid (x.isAny=false/\x.isFor c=true):=⟨C,R⟩
      generalize x.val=xv at hc A B;rw[C] at A;rw[R] at B;clear C R;go_wp2_with (first | (go_at_call 152;refine A.mono ?_;rintro e w' ⟨rfl,rfl⟩) | (go_at_call 153;refine B.mono ?_;rintro e W5 ⟨rfl,D⟩));have ap:=D.size;have al:Signs n₀ W5 _ l:=SlAt.below (D.mono (by omega)) I;have s:=SetAt.below Z D (by omega);have H:=E.below D (by omega) (by omega);have ar:=O.trans (D.mono (by omega));refine (jkY (some ⟨bb,off,none⟩) l.length cap l (k+1) w.heap.size (l.length+1) n₀ T W5 al s z (by omega) (by omega) (by omega)).mono ?_;rintro e W4 ⟨⟨v,rfl⟩,r,M⟩;go_wp2_with fail;go_roundw
      case rel =>
       refine⟨_,N,_,H.kept M (fun e=>by have:=Option.some.inj e;omega) (fun e=>by have:=Option.some.inj e;omega),SetAt.tight Tryz.underlying3 r (fun j G h=>?_),fun j G=>?_,ar.grown M (by omega) (fun j e=>by cases e;exact Nat.le_refl _)⟩
       ·simp only[Bool.or_eq_true] at h
        rcases h with h | h
        ·exact aa.out j G h
        ·exact jfX l _ (by omega) j h
       ·rw[HV.out j G,p.out j];simp[o.out.1,o.out.2]
      case measure=>rw[(H.kept M (fun e=>by have:=Option.some.inj e;omega) (fun e=>by have:=Option.some.inj e;omega)).left_eq,F];exact f
     ·have U:x.isFor c=false:=by simpa using R
      have o:Hid (x.isAny=false/\x.isFor c=false):=⟨C,U⟩;generalize x.val=xv at hc A B;rw[C] at A;rw[U] at B;clear C U R;go_wp2_with (first | (go_at_call 152;refine A.mono ?_;rintro e w' ⟨rfl,rfl⟩) | (go_at_call 153;refine B.mono ?_;rintro e W5 ⟨rfl,D⟩));have ap:=D.size;have s:=SetAt.below Z D (by omega);have H:=E.below D (by omega) (by omega);go_roundw
      case rel =>
       refine⟨_,N,T,H,s,fun j G=>?_,O.trans (D.mono (by omega))⟩;rw[HV.out j G,p.out j];simp[o.out.1,o.out.2]
      case measure=>rw[H.left_eq,F];exact f
def jar:Bool->List Int->List Sign × Bool
 | q,[]=>([],q)
 | true,c::cs=>(.that c::(jar false cs).1,(jar false cs).2)
 | false,c::cs=>if c==42 then (.any::(jar false cs).1,(jar false cs).2) else if c==63 then (.one::(jar false cs).1,(jar false cs).2)
   else if c==126 then jar true cs else (.that c::(jar false cs).1,(jar false cs).2)
def jaJ (s:ByteArray) (pos:Nat):List Int:=(rl s pos).map (·.2)
theorem jfJ (s:ByteArray) (A:Nat) (h:A<s.size):jaJ s A=((Utf8.decode s A).1:Int)::jaJ s (A+(Utf8.decode s A).2):=by simp[jaJ,jeX s A h]
theorem jjN (s:ByteArray) (A:Nat) (h:¬ A<s.size):jaJ s A=[]:=by simp[jaJ,jgr s A h]
def jbY (p:ByteArray):Option (List Sign):=if jcH p then (if (jar false (jaJ p 0)).2 then none else some (jar false (jaJ p 0)).1) else none
theorem jfk:∀ (q:Bool) (cs:List Int),(jar q cs).1.length<=cs.length
 | q,[]=>by cases q<;>simp[jar]
 | true,c::cs=>by have:=jfk false cs;simp[jar];omega
 | false,c::cs=>by
  have A:=jfk false cs;have B:=jfk true cs;simp only[jar]
  repeat' split
  all_goals (simp;omega)
theorem jkS (p:ByteArray) (h:jcH p=true):(rl p 0).length<=24:=by
 simp only[jcH,jal,jdF,Bool.and_eq_true,jbc,jcW,decide_eq_true_eq] at h;have B:=h.2.1.2.1.1;have A:=h.2.1.2.1.2;rw[B] at A;simp at A;omega
theorem jnK (p:ByteArray) (l:List Sign) (h:jbY p=some l):l.length<=24:=by
 unfold jbY at h;split at h
 ·rename_i A
  split at h
  ·cases h
  ·cases h
   have:=jfk false (jaJ p 0);have:=jkS p A;simp[jaJ] at *;omega
 ·cases h
def jhJ (p:ByteArray) (w:World) (e:Ending) (w':World):Prop :=
 ∃ a len cap,e=.returned (.tuple #[.slice a len cap,.bool (jbY p).isSome])/\Signs w'.heap.size w' (.slice a len cap) ((jbY p).getD [])/\Bw w w'
theorem jrb:(Tryz.prog.info? 223).map (fun i=>(i.zero,i.size,i.bytes))=some (some .nilIface,1,16):=by kernel_rfl
theorem jst:Tryz.prog.underlying 155=some (.slice 223):=by kernel_rfl
theorem juA (x:Sign):x.val.oneCell'=true:=by cases x<;>rfl
def jsO (p:ByteArray) (w0:World) (N:Nat) (v q:Value) (wr:World):Prop :=
 ∃ pos acc qb,wr.heap[N]? = some (.stringIter p pos)/\wr.ownsRow (N+1) 223 1 v acc.length (acc.map Sign.val)/\Below N w0 wr/\q=.bool qb/\acc.length<=pos /\
  (acc++(jar qb (jaJ p pos)).1,(jar qb (jaJ p pos)).2)=jar false (jaJ p 0)
theorem jfl {p:ByteArray} {H C:World} {N G:Nat} {A:List Sign} {v:Value} (E:C.heap[N]? = some (.stringIter p G)) (F:C.ownsRow (N+1) 223 1 v A.length (A.map Sign.val)) (O:Below N H C) (D:A.length<4294967281) (x:Sign) :
  ∃ g cap B,(Builtin.append_ #[155,155] 155 #[v,.slice (some ⟨C.heap.size,0,none⟩) 1 1]).run Tryz.prog (C.alloc (.cells #[x.val] 223))=.ok (.slice (some ⟨g,0,none⟩) (A.length+1) cap) B /\
   B.heap[N]? = some (.stringIter p G)/\B.ownsRow (N+1) 223 1 (.slice (some ⟨g,0,none⟩) (A.length+1) cap) (A++[x]).length ((A++[x]).map Sign.val)/\Below N H B:=by
 have P:=(Array.getElem?_eq_some_iff.1 E).1;obtain⟨g,cap,B,I,J,L,Q,M,R⟩:=jaL Tryz.prog 155 jst jrb rfl (by decide) F O (Nat.le_succ N) (by omega) [x.val] rfl (by simp[juA]) D (by decide);refine⟨g,cap,B,I,(M N (by omega)).trans E,?_,L⟩;simpa using J
theorem jmq (p:ByteArray) (w:World) (hp:p.size<4294967281) (hG:GW w):Calls Tryz.prog 111 #[.string p] w (jhJ p w):=by
 have a:=jkR p w hp hG;by_cases h:jcH p=true
 ·rw[h] at a
  have i:=Lib.hid h;clear h;go_enter Tryz.func111,Tryz.ntmps111;go_wp2_with (go_at_call 150;refine a.mono ?_;rintro e V ⟨rfl,R⟩);clear a;go_loopw [4,5] (jsO p V V.heap.size) (fun _ _ wr=>p.size-wr.iterPos V.heap.size)
  case atStart=>exact⟨0,[],false,World.iter_heap V p 0,World.ownsRow_nil _ _ _ _,(Below.refl _ _).alloc (Nat.le_refl _) _,rfl,Nat.le_refl _,rfl⟩
  case round =>
   obtain⟨L,H,z,S,M,t,rfl,y,O⟩:=hrel;have X:=Lib.hid O;clear O;have E:=jax S;by_cases N:L<p.size
   ·obtain⟨W1,d,F,G,f,U⟩:=jdG (P:=Tryz.prog) S t (Nat.le_refl _) N
    have hd:=jdJ p L N;have J:=Lib.hid (jfJ p L N);have A:W1.ownsRow (V.heap.size+1) 223 1 u4 H.length (H.map Sign.val):=jbN M (fun j hj _=>U j (by omega));generalize ((Utf8.decode p L).1:Int)=c at d J;clear S t M U f
    cases z with
    | true =>
     obtain⟨g,cap,x,D,B,C,I⟩:=jfl F A G (by omega) (.that c);clear A G;simp only[Sign.val] at D;go_wp2_with (at_builtin;refine jb0 rfl _ _ _ rfl rfl rfl D ?_);go_roundw
     case rel=>exact⟨_,H++[.that c],false,B,by simpa using C,I,rfl,by simp;omega,by rw[<- X.out,J.out];simp[jar]⟩
     case measure=>rw[jax B,E];omega
    | false =>
     have HC:=Lib.hid J.out;by_cases l:(c==42)=true
     ·obtain rfl:c=42:=by simpa using l
      obtain⟨g,cap,x,D,B,C,I⟩:=jfl F A G (by omega) (.any);clear A G;simp only[Sign.val] at D;go_wp2_with (at_builtin;refine jb0 rfl _ _ _ rfl rfl rfl D ?_);go_roundw
      case rel=>exact⟨_,H++[.any],false,B,by simpa using C,I,rfl,by simp;omega,by rw[<- X.out,J.out];simp[jar]⟩
      case measure=>rw[jax B,E];omega
     have m:(c==42)=false:=by simpa using l
     clear l;by_cases n:(c==63)=true
     ·obtain rfl:c=63:=by simpa using n
      obtain⟨g,cap,x,D,B,C,I⟩:=jfl F A G (by omega) (.one);clear A G;simp only[Sign.val] at D;go_wp2_with (at_builtin;refine jb0 rfl _ _ _ rfl rfl rfl D ?_);go_roundw
      case rel=>exact⟨_,H++[.one],false,B,by simpa using C,I,rfl,by simp;omega,by rw[<- X.out,J.out];simp[jar]⟩
      case measure=>rw[jax B,E];omega
     have o:(c==63)=false:=by simpa using n
     clear n;by_cases q:(c==126)=true
     ·obtain rfl:c=126:=by simpa using q
      go_wp2_with fail;go_roundw
      case rel=>exact⟨_,H,true,F,A,G,rfl,by omega,by rw[<- X.out,J.out];simp[jar]⟩
      case measure=>rw[jax F,E];omega
     have r:(c==126)=false:=by simpa using q
     clear q;have k:Hid ((c==42)=false/\(c==63)=false/\(c==126)=false):=⟨m,o,r⟩;obtain⟨g,cap,x,D,B,C,I⟩:=jfl F A G (by omega) (.that c);clear A G;simp only[Sign.val] at D;go_wp2_with (at_builtin;refine jb0 rfl _ _ _ rfl rfl rfl D ?_);go_roundw
     case rel=>exact⟨_,H++[.that c],false,B,by simpa using C,I,rfl,by simp;omega,by rw[<- X.out,J.out];simp[jar,k.out.1,k.out.2.1,k.out.2.2]⟩
     case measure=>rw[jax B,E];omega
   ·have d:∀ v,(Instr.next (.pointer (some ⟨V.heap.size,0,none⟩)) true v).run Tryz.prog wr=_:=fun v=>Lib.run_next_end_at wr V.heap.size p L v S N
    have T:=Lib.hid (jjN p L N);have u:=R.size;have Y:=R.trans (t.mono u)
    cases z with
    | true =>
     go_wp2_with fail;go_ret2;have Q:jbY p=none:=by simp[jbY,i.out,<- X.out,T.out,jar]
     exact⟨none,0,0,by rw[Q];rfl,by rw[Q];exact .inl ⟨rfl,rfl,rfl⟩,Y⟩
    | false =>
     go_wp2_with fail;go_ret2;have Q:jbY p=some H:=by simp[jbY,i.out,<- X.out,T.out,jar]
     have s:=je4 M;rcases id s with⟨rfl,h7,_⟩ | ⟨b,off,cap,rfl,_⟩
     ·exact⟨none,0,0,by rw[Q];rfl,by rw[Q];simpa [Signs] using s,Y⟩
     ·exact⟨some ⟨b,off,none⟩,_,_,by rw[Q];rfl,by rw[Q];simpa [Signs] using s,Y⟩
 ·have Z:jcH p=false:=by simpa using h
  rw[Z] at a;have i:=Lib.hid Z;clear h Z;go_enter Tryz.func111,Tryz.ntmps111;go_wp2_with (go_at_call 150;refine a.mono ?_;rintro e V ⟨rfl,R⟩);go_ret2;have Q:jbY p=none:=by simp[jbY,i.out]
  exact⟨none,0,0,by rw[Q];rfl,by rw[Q];exact .inl ⟨rfl,rfl,rfl⟩,R⟩
theorem jrY {w w':World} {b n:Nat} {S:Int->Bool} (h:PSet w b n S) (G:w'.heap[b]? = w.heap[b]?):PSet w' b n S:=by
 obtain⟨D,⟨es,clock,A,B,C,E⟩,F⟩:=h;exact⟨D,⟨es,clock,G.trans A,B,C,E⟩,F⟩
theorem jw1 {w:World} {b n k:Nat} {S:Int->Bool} {s:ByteArray} {p:Nat} (h:PSet w b n S) (A:w.heap[k]? = some (.stringIter s p)):b≠k:=by
 obtain⟨D,⟨es,clock,B,_⟩,_⟩:=h;intro e;subst e;rw[B] at A
 cases A
def jgk (p:ByteArray):Bool:=(jbY p).isSome
theorem jj0 (p:ByteArray) (w:World) (D:p.size<4294967281) (B:GW w):CR 108 #[.string p] w (.bool (jgk p)):=by
 have C:=jmq p w D B;go_enter Tryz.func108,Tryz.ntmps108;go_wp2_with (go_at_call 111;refine C.mono ?_;rintro e E ⟨a,len,cap,rfl,-,A⟩);go_ret;exact⟨rfl,A⟩
def jdL (l:List Sign) (S:Int->Bool):List Int->Int->Bool
 | []=>S
 | c::cs=>jdL l (jcZ l S c) cs
def jdM (p v:ByteArray):Bool:=match jbY p with
 | none=>false
 | some l=>jav v&&jdL l (jhT l 0) (jaJ v 0) (l.length:Int)
theorem jg1 (l:List Sign) (A:l.length<=24):∀ (cs:List Int) (S:Int->Bool),(∀ i,wfI i->S i=false)->∀ j,wfI j->jdL l S cs j=false
 | [],S,h,j,hj=>h j hj
 | c::cs,S,h,j,hj=>by
  refine jg1 l A cs _ (fun i _=>?_) j hj;unfold jcZ;rw[List.any_eq_false];intro a ha;have:=List.mem_range.1 ha;rw[h a (ji1 (by omega) (by omega))];simp
def jvg (l:List Sign) (v:ByteArray) (sv:Value) (w1:World) (N:Nat) (m:Value) (wr:World):Prop :=
 ∃ (pos mb:Nat) (S:Int->Bool),m=.map (some mb)/\PSet wr mb (l.length+1) S/\(∀ i,wfI i->S i=true->0<=i/\i<(l.length+1:Nat))/\wr.heap[N]? = some (.stringIter v pos)/\Bw w1 wr/\Signs w1.heap.size wr sv l /\
  jdL l (jhT l 0) (jaJ v 0)=jdL l S (jaJ v pos)
theorem jsN (p v:ByteArray) (w:World) (hp:p.size<4294967281) (hv:v.size<4294967281) (hG:GW w):CR 63 #[.string p,.string v] w (.bool (jdM p v)):=by
 have O:=jmq p w hp hG
 cases F:jbY p with
 | none =>
  unfold jhJ at O;rw[F] at O;have s:=Lib.hid F;clear F;go_enter Tryz.func63,Tryz.ntmps63;go_wp2_with fail;go_step3;go_wp2_with (go_at_call 111;refine O.mono ?_;rintro e L ⟨a,len,cap,rfl,-,B⟩);rw[Exit.noGoto_ret];go_ret;exact⟨by simp[jdM,s.out],B⟩
 | some l =>
  have ac:=jnK p l F;unfold jhJ at O;rw[F] at O;have s:=Lib.hid F;clear F;by_cases hr:jav v=true
  ·have HR:=Lib.hid hr
   have ao:=@run_makeMap Tryz.prog;go_enter Tryz.func63,Tryz.ntmps63;go_wp2_with fail;go_step3;go_wp2_with (go_at_call 111;refine O.mono ?_;rintro e L ⟨a,len,cap,rfl,E,B⟩);have H:=E.cell.1;simp only[Option.getD_some] at H E;subst H;have C:=jhH v L (by unfold maxLen;omega) (hG.below B);rw[hr] at C;refine C.mono ?_;rintro e R ⟨rfl,D⟩;have f:=jmo (P:=Tryz.prog) (kt:=3) R;have u:Bw R (R.alloc (.map #[] 0)):=(Below.refl _ R).alloc (Nat.le_refl _) _;have af:Signs L.heap.size (R.alloc (.map #[] 0)) _ l:=SlAt.below (D.trans (u.mono D.size)) E;have Z:=jkY a l.length cap l 0 R.heap.size 0 L.heap.size _ _ af f D.size (Nat.zero_le _) (by omega) (by omega);clear C O hr f;go_wp2_with (go_at_call 113;refine Z.mono ?_;rintro e M ⟨⟨v4,rfl⟩,z,ab⟩);go_step3;go_wp2_with fail;have ah:=D.size;have ai:=ab.size;rw[World.size_alloc] at ai;have al:Bw L M:=(D.trans (u.mono ah)).grown ab (by rw[World.size_alloc];omega) (fun k e=>by cases e;omega);have d:Bw L (M.iter v 0):=al.alloc (by omega) _;have x:PSet (M.iter v 0) R.heap.size (l.length+1) (jhT l 0):=((z.kept (World.grownBy_alloc M _ none) (by simp)).congr (fun j _=>by simp)).mono (by omega);clear Z ao;go_loopw [9] (jvg l v (.slice a l.length cap) L M.heap.size) (fun _ wr=>v.size-wr.iterPos M.heap.size)
   case atStart=>exact⟨0,R.heap.size,jhT l 0,rfl,x,fun i _ h=>jfX l 0 (Nat.zero_le _) i h,World.iter_heap M v 0,d,SlAt.below d E,rfl⟩
   case round =>
    obtain⟨A,mb,S,rfl,f,T,G,hB,aq,J⟩:=hrel;have t:=Lib.hid J;have HD:=Lib.hid T;clear J T x d z;have q:=jax G;have ap:=(Array.getElem?_eq_some_iff.1 G).1;by_cases I:A<v.size
    ·obtain⟨W1,ae,U,N,aj,Y⟩:=jdG (P:=Tryz.prog) G hB (by omega) I
     have hd:=jdJ v A I;have ag:=Lib.hid (jfJ v A I);have y:PSet W1 mb (l.length+1) S:=jrY f (Y mb (jw1 f G));have m:=jnC a l.length cap l ((Utf8.decode v A).1:Int) mb (l.length+1) L.heap.size S W1 (SlAt.below N E) y N.size HD.out (by omega);generalize ((Utf8.decode v A).1:Int)=c at ae ag m;clear f G hB Y aj;go_wp2_with (go_at_call 114;refine m.mono ?_;rintro e W5 ⟨nb,rfl,ar,g,aa⟩);obtain⟨kk,ad,n⟩:=SetAt.len Tryz.underlying3 jd9 g;have X:=ad 3;clear ad;rw[X];clear X;have V:W5.heap[M.heap.size]? = some (.stringIter v (A+(Utf8.decode v A).2)):=(aa.block _ (Array.getElem?_eq_some_iff.1 U).1).trans U;have b:=N.trans (aa.mono N.size);have am:Bw w W5:=B.trans (b.mono B.size);have HB:=Lib.hid (t.out.trans (by rw[ag.out];rfl:jdL l S (jaJ v A)=jdL l (jcZ l S c) (jaJ v (A+(Utf8.decode v A).2))));clear m y;by_cases Q:kk=0
     ·have an:((kk:Int)==0)=true:=by simp[Q]
      have HK:=Lib.hid (n.1 Q);clear Q n;have o:=SetAt.look Tryz.underlying3 jd9 jmF g (i:=l.length) (ji1 (by omega) (by omega));go_wp2_with fail;rw[Exit.noGoto_ret];go_ret;refine⟨?_,am⟩;have ak:wfI (l.length:Int):=ji1 (by omega) (by omega);have h9:jdM p v=false:=by simp only[jdM,s.out,HR.out,HB.out,Bool.true_and];exact jg1 l ac _ _ HK.out _ ak
      rw[h9];show Ending.returned (.bool (jcZ l S c l.length))=_;rw[HK.out _ ak]
     ·have an:((kk:Int)==0)=false:=by rw[beq_eq_false_iff_ne];omega
      clear Q n;go_wp2_with fail;go_roundw
      case rel=>exact⟨_,nb,_,rfl,g,fun i _ h=>jmP l S c i h,V,b,SlAt.below b E,HB.out⟩
      case measure=>rw[jax V,q];omega
    ·have ae:∀ ty,(Instr.next (.pointer (some ⟨M.heap.size,0,none⟩)) true ty).run Tryz.prog wr=_:=fun ty=>Lib.run_next_end_at wr M.heap.size v A ty G I
     have o:=SetAt.look Tryz.underlying3 jd9 jmF f (i:=l.length) (ji1 (by omega) (by omega));go_wp2_with fail;rw[Exit.noGoto_ret];go_ret;have h9:jdM p v=S (l.length:Int):=by simp only[jdM,s.out,HR.out,t.out,Bool.true_and,jjN v A I];rfl
     exact⟨by rw[h9];rfl,B.trans (hB.mono B.size)⟩
  ·have r:jav v=false:=by simpa using hr
   have HR:=Lib.hid r;clear hr;go_enter Tryz.func63,Tryz.ntmps63;go_wp2_with fail;go_step3;go_wp2_with (go_at_call 111;refine O.mono ?_;rintro e L ⟨a,len,cap,rfl,E,B⟩);have C:=jhH v L (by unfold maxLen;omega) (hG.below B);rw[r] at C;refine C.mono ?_;rintro e R ⟨rfl,D⟩;clear C O r;go_wp2_with fail;rw[Exit.noGoto_ret];go_ret;exact⟨by simp[jdM,s.out,HR.out],B.trans (D.mono B.size)⟩
end Go.Proofs.YtafhpamnegmilaaGreatDoor
