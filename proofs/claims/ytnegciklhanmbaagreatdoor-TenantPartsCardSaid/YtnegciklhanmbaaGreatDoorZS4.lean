/- Package label: Get. Package scope: names, values, patterns' signs. Package scope: the places of a pattern. Package scope: signs, patterns, what fits. Package scope: IsPattern, Fits. -/
import Derived.Test.YtnegciklhanmbaaGreatDoorZM1
set_option maxHeartbeats 2000000
set_option maxRecDepth 100000
namespace Go.Proofs.YtnegciklhanmbaaGreatDoor
open Go Go.RowKit Go.Shelf
section
attribute [local go_sem] Oper.semAt_some
def jcD:List Lab->ByteArray->Option ByteArray
 | [],_=>none
 | x::xs,n=>if x.name.toList==n.toList then some x.value else jcD xs n
theorem jgU (A:List Lab) (n:ByteArray) (x:Lab) (h:jcD A n=none):jcD (A++[x]) n=if x.name.toList==n.toList then some x.value else none:=by
 induction A with
 | nil=>rfl
 | cons y ys ih =>
  simp only[jcD,List.cons_append] at h ⊢;split at h
  ·cases h
  ·rename_i B;simp[B,ih h]
theorem jjQ (B C:List Lab) (n v:ByteArray) (D:B <+: C) (h:jcD B n=some v):jcD C n=some v:=by
 obtain⟨t,rfl⟩:=D
 induction B with
 | nil=>simp[jcD] at h
 | cons y ys ih =>
  simp only[jcD,List.cons_append] at h ⊢;split
  ·rename_i A;simpa [A] using h
  ·rename_i A;exact ih (by simpa [A] using h)
theorem jjT (R:Option Addr) (cap:Nat) (J:List jif) (G:ByteArray) (w:World) (t:Labs w.heap.size w (.slice R J.length cap) (J.map (·.1))) (n:J.length<4294967281) :
  CR 138 #[.slice R J.length cap,.string G] w (.tuple #[.string ((jcD (J.map (·.1)) G).getD ⟨#[]⟩),.bool (jcD (J.map (·.1)) G).isSome]):=by
 refine jaq Tryz.func138 rfl ?_;simp only[Tryz.ntmps138,List.size_toArray,List.length_cons,List.length_nil,Nat.reduceAdd,Nat.reduceSub,Array.replicate_succ,Array.replicate_zero,List.push_toArray,List.append_toArray,List.nil_append,List.cons_append];go_wp2_with (go_at_call 94;refine (jjB _ _ _ _).mono ?_;rintro e w' ⟨rfl,rfl⟩);obtain⟨b,P,d,f,g,h,O,M⟩:=jyb w (.string G) 9 (.string ⟨#[]⟩) 9 (.bool false) 4 (.slice R J.length cap) 88;rw[P];clear P
 refine jeI 93 (fun x:jif=>#[.string x.1.name,.string x.1.value]) 6 (gf:=182) (lb:=#[.pointer (some ⟨w.heap.size+3,0,none⟩)]) rfl (enters_of Tryz.func182 (by kernel_rfl) rfl)
  (jgu (w.heap.size+3) w.heap.size _ J n b (by omega) (by omega) h.cell (SlAt.below O t)) (by omega) (Below.refl _ _) (fun _=>rfl)
  (fun E W=>Boxed W w.heap.size 9 (.string G)/\Boxed W (w.heap.size+1) 9 (.string ⟨#[]⟩)/\Boxed W (w.heap.size+2) 4 (.bool false)/\jcD (E.map (·.1)) G=none/\Bw w W)
  (fun c E W=>(∃ v,Boxed W (w.heap.size+1) 9 (.string v)/\jcD (E.map (·.1)) G=some v)/\Boxed W (w.heap.size+2) 4 (.bool true)/\c=.ret/\Bw w W)
  ((jc9 _ _ _ _).and ((jc9 _ _ _ _).and ((jc9 _ _ _ _).and ((ownFrom_pure _ _).and (ownFrom_below (Nat.le_refl _) (by omega))))))
  (fun c=>OwnFrom.and (fun s X Y row a F hr=>by obtain⟨v,k,m⟩:=a;exact⟨v,jc9 _ _ _ (fun _=>.string v) s X Y row k F hr,m⟩) ((jc9 _ _ _ _).and ((ownFrom_pure _ _).and (ownFrom_below (Nat.le_refl _) (by omega)))))
  ⟨d,f,g,rfl,O⟩ ?assign ?body ?done ?stop
 case assign =>
  rintro l E x W K ⟨C,A,B,F,H⟩ a hK;simp only[List.zip_toArray,List.zip_cons_cons,List.zip_nil_right,List.size_toArray,List.foldl_toArray',List.foldl_cons,List.foldl_nil,List.setIfInBounds_toArray,List.set_cons_succ,List.set_cons_zero] at hK ⊢;gi_wp2;exact⟨C.alloc _,A.alloc _,B.alloc _,F,H.alloc H.size _⟩
 case body =>
  rintro l E x W Bx ⟨C,A,B,F,H⟩ q o U y;have i:=cCc U 0;have c1:=cCc U 1;have c2:=C.cell;have c3:=A.cell;have c4:=B.cell;have c5:=A.frozen;have j:=B.frozen;simp at i c1;simp only[List.zip_toArray,List.zip_cons_cons,List.zip_nil_right,List.size_toArray,List.foldl_toArray',List.foldl_cons,List.foldl_nil,List.setIfInBounds_toArray,List.set_cons_succ,List.set_cons_zero];have Q:=Lib.hid (jgU (E.map (·.1)) G x.1 F);clear M U F;by_cases S:(x.1.name.toList==G.toList)=true
  ·gi_wp2_with fail
   have N:=Q.out;rw[if_pos S] at N;refine⟨((KeepsOthers.setCell _ _ _).from _).trans ((KeepsOthers.setCell _ _ _).from _),⟨x.1.value,(A.set _).other (by omega) _,by rw[List.map_append,List.map_singleton];exact N⟩,(B.other (by omega) _).set _,rfl,(H.setCell (p:=⟨w.heap.size+1,0,none⟩) (Nat.le_succ _) _).setCell (p:=⟨w.heap.size+2,0,none⟩) (Nat.le_add_right _ _) _⟩
  ·have u:(x.1.name.toList==G.toList)=false:=by simpa using S
   gi_wp2_with fail
   have N:=Q.out;rw[if_neg S] at N;exact⟨KeepsFrom.refl _ _,Below.refl _ _,C,A,B,by rw[List.map_append,List.map_singleton];exact N,H⟩
 case done =>
  rintro D W r ⟨C,A,B,F,H⟩ hK;have c3:=A.cell;have c4:=B.cell;have c5:=A.frozen;have j:=B.frozen;have L:w.heap.size<=D:=by omega
  clear M;go_wp2_with fail;have I:=jtX (jtX hK ⟨w.heap.size+1,0,none⟩ (.string ⟨#[]⟩)) ⟨w.heap.size+1+1,0,none⟩ (.bool false);have V:=jtJ ((A.set (.string ⟨#[]⟩)).other (B':=w.heap.size+1+1) (by omega) (.bool false)) I rfl (.deferred none);have Z:=jtJ ((B.other (B':=w.heap.size+1) (by omega) (.string ⟨#[]⟩)).set (.bool false)) I rfl (.deferred none);refine jau (v:=.tuple #[.string ⟨#[]⟩,.bool false]) I ?_ ⟨by rw[F];rfl,jee ((H.setCell (p:=⟨w.heap.size+1,0,none⟩) (Nat.le_succ _) _).setCell (p:=⟨w.heap.size+2,0,none⟩) (Nat.le_add_right _ _) _) L I⟩;simp[results,Tryz.f138,go_sem,V.cell,Z.cell]
 case stop =>
  rintro D c E W r z ⟨⟨v,C,F⟩,A,rfl,H⟩ hK;have L:w.heap.size<=D:=by omega
  clear M;go_wp2_with fail;have V:=jtJ C hK rfl (.deferred none);have Z:=jtJ A hK rfl (.deferred none);have T:=jjQ _ _ _ _ (z.map (·.1)) F;refine jau (v:=.tuple #[.string v,.bool true]) hK ?_ ⟨by rw[T];rfl,jee H L hK⟩;simp[results,Tryz.f138,go_sem,V.cell,Z.cell]
def sA:ByteArray:=⟨#[97]⟩
def jnZ (s:ByteArray):Bool:=jai [⟨s,⟨#[]⟩⟩]
def jgo (s:ByteArray):Bool:=jai [⟨sA,s⟩]
theorem jlt (w:World) (l:Lab) (t:TypeId):Labs (w.heap.size+1) (w.alloc (.cells #[.string l.name,.string l.value] t)) (.slice (some ⟨w.heap.size,0,none⟩) 1 1) [l]:=by
 refine .inr ⟨w.heap.size,0,1,rfl,by omega,fun i _=>?_⟩;rw[Nat.zero_add,cCc (World.alloc_heap_new w _) i];simp[Lab.enc]
theorem jlO (s:ByteArray) (w:World) (D:s.size<4294967281) (B:GW w):CR 133 #[.string s] w (.bool (jnZ s)):=by
 have A:Bw w (w.alloc (.cells #[.string s,.string ⟨#[]⟩] 93)):=(Below.refl _ _).alloc (Nat.le_refl _) _;have C:=jbf (some ⟨w.heap.size,0,none⟩) 1 [⟨⟨s,⟨#[]⟩⟩,D,by show (0:Nat)<_;omega⟩] _ (by simpa using jlt w ⟨s,⟨#[]⟩⟩ 93) (B.below A) (by simp);go_enter Tryz.func133,Tryz.ntmps133;go_wp2_with (go_at_call 73;refine C.mono ?_;rintro e w' ⟨rfl,hb⟩);go_ret;exact⟨rfl,A.trans (hb.mono (by simp))⟩
theorem jkf (s:ByteArray) (w:World) (D:s.size<4294967281) (C:GW w):CR 206 #[.string s] w (.bool (jgo s)):=by
 have A:Bw w (w.alloc (.cells #[.string sA,.string s] 93)):=(Below.refl _ _).alloc (Nat.le_refl _) _;have B:=jbf (some ⟨w.heap.size,0,none⟩) 1 [⟨⟨sA,s⟩,by show (1:Nat)<_;omega,D⟩] _ (by simpa using jlt w ⟨sA,s⟩ 93) (C.below A) (by simp);unfold sA at B A;go_enter Tryz.func206,Tryz.ntmps206;go_wp2_with (go_at_call 73;refine B.mono ?_;rintro e w' ⟨rfl,hb⟩);go_ret;exact⟨rfl,A.trans (hb.mono (by simp))⟩
inductive Sign where
 | any | one | that (c:Int)
def Sign.val:Sign->Value
 | .any=>.iface 346 (.agg #[])
 | .one=>.iface 347 (.agg #[])
 | .that c=>.iface 345 (.agg #[.int .i32 c])
def Sign.isAny:Sign->Bool
 | .any=>true
 | _=>false
def Sign.isFor (c:Int):Sign->Bool
 | .one=>true
 | .that d=>d==c
 | .any=>false
theorem jqb (x:Sign) (w:World):(Instr.typeAssert x.val 353 346 true).run Tryz.prog w=.ok (.tuple #[.agg #[],.bool x.isAny]) w:=by cases x<;>kernel_rfl
theorem jkK (x:Sign) (w:World):(Instr.typeAssert x.val 353 347 true).run Tryz.prog w=.ok (.tuple #[.agg #[],.bool (match x with | .one=>true | _=>false)]) w:=by cases x<;>kernel_rfl
theorem jov (c:Int) (w:World):(Instr.typeAssert (Sign.that c).val 353 345 false).run Tryz.prog w=.ok (.agg #[.int .i32 c]) w:=by kernel_rfl
theorem jqK (c:Int) (w:World):(Instr.field 345 (.agg #[.int .i32 c]) 0).run Tryz.prog w=.ok (.int .i32 c) w:=by kernel_rfl
theorem jll (x:Sign) (w:World):Calls Tryz.prog 208 #[x.val] w fun e w'=>e=.returned (.bool x.isAny)/\w=w':=by
 have A:=jqb x;generalize x.val=v at A ⊢;generalize x.isAny=b at A ⊢
 cases b <;>
 ·go_enter Tryz.func208,Tryz.ntmps208
  go_wp2;go_ret;exact⟨rfl,rfl⟩
theorem jq3 (x:Sign) (c:Int) (w:World) (C:x.isAny=false):CR 209 #[x.val,.int .i32 c] w (.bool (x.isFor c)):=by
 cases x with
 | any=>cases C
 | one =>
  have A:=jkK .one;simp only at A;generalize Sign.one.val=v at A ⊢;go_enter Tryz.func209,Tryz.ntmps209;go_wp2;go_ret;exact⟨rfl,(Below.refl _ _).alloc (Nat.le_refl _) _⟩
 | that d =>
  have A:=jkK (.that d);have B:=jov d;have D:=jqK d;simp only at A;generalize (Sign.that d).val=v at A B ⊢;go_enter Tryz.func209,Tryz.ntmps209;go_wp2;go_ret;exact⟨rfl,(Below.refl _ _).alloc (Nat.le_refl _) _⟩
end
theorem jl7 (w:World):(zeroValue 310).run Tryz.prog w=.ok (.agg #[]) w:=by kernel_rfl
theorem jdM:Tryz.prog.underlying 307=some (.map 3 310):=by kernel_rfl
abbrev PSet (w:World) (b n:Nat) (S:Int->Bool):Prop:=SetAt Tryz.prog 3 w b n S
theorem PSet.put {w:World} {b n:Nat} {S:Int->Bool} (h:PSet w b n S) (B:n<maxLen) {i:Int} (A:wfI i) :
  ∃ w',(Instr.mapUpdate 307 (.map (some b)) (.int .i64 i) (.agg #[])).run Tryz.prog w=.ok () w'/\PSet w' b (n+1) (fun j=>S j||j==i)/\w.grownBy w' (some b) :=
 SetAt.add Tryz.underlying3 jdM h B A
def Signs (n₀:Nat) (w:World) (sv:Value) (l:List Sign):Prop:=SlAt n₀ w sv l.length (l.map Sign.val)
theorem Signs.cell {C:Nat} {w:World} {a:Option Addr} {len cap:Nat} {l:List Sign} (h:Signs C w (.slice a len cap) l):len=l.length/\∀ i x,l[i]? = some x->∃ b off,a=some ⟨b,off,none⟩/\b<C/\w.cell? ⟨b,off+i,none⟩=some x.val:=by
 rcases h with⟨h,D,_⟩ | ⟨b,off,A,e,hb,E⟩
 ·obtain⟨rfl,rfl,rfl⟩:a=none/\len=0/\cap=0:=by simpa using h
  have:l=[]:=by simpa using D
  subst this;exact⟨rfl,fun i x B=>by simp at B⟩
 ·obtain⟨rfl,rfl,rfl⟩:a=some ⟨b,off,none⟩/\len=l.length/\cap=A:=by simpa using e
  refine⟨rfl,fun i x B=>⟨b,off,rfl,hb,?_⟩⟩;have F:=(List.getElem?_eq_some_iff.1 B).1;rw[E i (by simpa using F)];simp[B]
def jhh:List Sign->Nat
 | []=>0
 | x::xs=>if x.isAny then jhh xs+1 else 0
def jpK (l:List Sign) (i:Nat):Nat:=jhh (l.drop i)
theorem jtc (l:List Sign) (i:Nat) (x:Sign) (h:l[i]? = some x) (A:x.isAny=true):jpK l i=jpK l (i+1)+1:=by
 unfold jpK;rw[List.drop_eq_getElem_cons (List.getElem?_eq_some_iff.1 h).1,(List.getElem?_eq_some_iff.1 h).2];simp[jhh,A]
theorem jv4 (l:List Sign) (i:Nat) (x:Sign) (h:l[i]? = some x) (A:x.isAny=false):jpK l i=0:=by
 unfold jpK;rw[List.drop_eq_getElem_cons (List.getElem?_eq_some_iff.1 h).1,(List.getElem?_eq_some_iff.1 h).2];simp[jhh,A]
theorem jtb (l:List Sign) (i:Nat) (h:l.length<=i):jpK l i=0:=by
 unfold jpK;rw[List.drop_eq_nil_of_le h];rfl
theorem jv3 (l:List Sign) (i:Nat):i<=l.length->i+jpK l i<=l.length:=by
 have:∀ (m:List Sign),jhh m<=m.length:=by
  intro m
  induction m with
  | nil=>simp[jhh]
  | cons x xs ih=>simp only[jhh];split<;>simp<;>omega
 intro h;have:=this (l.drop i);rw[List.length_drop] at this;unfold jpK;omega
def joE (l:List Sign) (i:Nat) (j:Int):Bool:=decide ((i:Int)<=j)&&decide (j<=i+jpK l i)
theorem jkj (a:Option Addr) (len cap:Nat) (l:List Sign) (i:Nat) (b n c:Nat) (S:Int->Bool) (w:World) (N:Signs c w (.slice a len cap) l) (Z:PSet w b n S) (r:c<=b) (o:i<=l.length) (Y:l.length<4294967281) (u:n<4294967281) :
  Calls Tryz.prog 180 #[.map (some b),.slice a len cap,.int .i64 i] w fun e w'=>(∃ v,e=.returned v)/\PSet w' b (n+1+l.length) (fun j=>S j||joE l i j)/\w.grownBy w' (some b):=by
 obtain⟨rfl,B⟩:=N.cell;obtain⟨y,P,J,I⟩:=Z.put (by unfold maxLen;omega) (i:=i) (jid (by omega) (by omega));go_enter Tryz.func180,Tryz.ntmps180;go_wp2_with fail;go_loopw [2] (fun v wr=>∃ k:Nat,v=.int .i64 k/\i<=k/\k<=l.length/\Hid (jpK l i=(k-i)+jpK l k)/\PSet wr b (n+1+(k-i)) (fun j=>S j||(decide ((i:Int)<=j)&&decide (j<=k)))/\w.grownBy wr (some b)) (fun v _=>l.length-(intOf v).toNat)
 case atStart=>exact⟨i,rfl,Nat.le_refl _,o,by simp[Hid],by rw[Nat.sub_self];exact J.congr (fun j _=>by cases S j<;>(rw[Bool.eq_iff_iff];simp<;>omega)),I⟩
 case round =>
  obtain⟨k,rfl,p,q,L,F,E⟩:=hrel;clear P J I;have m:=Z.lt;by_cases O:k<l.length
  ·obtain⟨x,R⟩:∃ x,l[k]? = some x:=⟨_,List.getElem?_eq_getElem O⟩
   obtain⟨V,off,rfl,h,X⟩:=B k x R;have H:wr.cell? ⟨V,off+k,none⟩=some x.val:=(World.cell?_of_block (E.block V (by omega) (by intro e;cases e;omega))).trans X;have A:=jll x wr;have U:=Lib.hid R;clear R X B N;by_cases C:x.isAny=true
   ·have G:=Lib.hid (jtc l k x U.out C)
    obtain⟨z,s,Q,M⟩:=F.put (by unfold maxLen;omega) (i:=(k:Int)+1) (jid (by omega) (by omega));generalize x.val=xv at H A;generalize x.isAny=xa at C A;subst C;go_wp2_with (go_at_call 208;refine A.mono ?_;rintro e w' ⟨rfl,rfl⟩);go_roundw
    case rel =>
     refine⟨k+1,by go_num,by omega,by omega,?_,?_,E.andThen M (fun j e=>.inr e)⟩
     ·have:=L.out;have:=G.out;show _=_;omega
     ·have d:=Q.congr (T:=fun j=>S j||(decide ((i:Int)<=j)&&decide (j<=((k+1:Nat):Int)))) (fun j _=>by cases S j<;>(rw[Bool.eq_iff_iff];simp<;>omega))
      rwa [show n+1+(k-i)+1=n+1+(k+1-i) by omega] at d
    case measure=>simp[intOf];omega
   ·have D:x.isAny=false:=by simpa using C
    have G:=Lib.hid (jv4 l k x U.out D);clear C;generalize x.val=xv at H A;generalize x.isAny=xa at D A;subst D;go_wp2_with (go_at_call 208;refine A.mono ?_;rintro e w' ⟨rfl,rfl⟩);go_end0;refine⟨⟨_,rfl⟩,(F.congr (fun j _=>?_)).mono (by omega),E⟩;have f:=L.out;have g:=G.out;unfold joE
    cases S j<;>(rw[Bool.eq_iff_iff];simp<;>omega)
  ·have G:=Lib.hid (jtb l k (by omega))
   clear B N;have t:decide ((k:Int)<l.length)=false:=by simp;omega
   go_wp2_with fail;go_end0;refine⟨⟨_,rfl⟩,(F.congr (fun j _=>?_)).mono (by omega),E⟩;have f:=L.out;have g:=G.out;unfold joE
   cases S j<;>(rw[Bool.eq_iff_iff];simp<;>omega)
def jix (l:List Sign) (c:Int) (i:Nat) (j:Int):Bool :=
 match l[i]? with
 | none=>false
 | some x=>if x.isAny then joE l i j else if x.isFor c then joE l (i+1) j else false
def jep (l:List Sign) (S:Int->Bool) (c:Int) (j:Int):Bool:=(List.range (l.length+1)).any fun i=>S (i:Int)&&jix l c i j
theorem jfE (l:List Sign) (i:Nat) (A:i<=l.length) (j:Int) (h:joE l i j=true):0<=j/\j<(l.length+1:Nat):=by
 unfold joE at h;have:=jv3 l i A;simp at h;omega
theorem jlV (l:List Sign) (c:Int) (i:Nat) (j:Int) (h:jix l c i j=true):0<=j/\j<(l.length+1:Nat):=by
 unfold jix at h;split at h
 ·cases h
 ·rename_i x A
  have:=(List.getElem?_eq_some_iff.1 A).1;split at h
  ·exact jfE l i (by omega) j h
  ·split at h
   ·exact jfE l (i+1) (by omega) j h
   ·cases h
theorem jml (l:List Sign) (S:Int->Bool) (c:Int) (j:Int) (h:jep l S c j=true):0<=j/\j<(l.length+1:Nat):=by
 unfold jep at h;obtain⟨i,_,A⟩:=List.any_eq_true.1 h;exact jlV l c i j (by simp at A;exact A.2)
theorem jkH {α:Type} (l:List α) (f g:α->Bool) (h:∀ x∈l,f x=g x):l.any f=l.any g:=by
 induction l with
 | nil=>rfl
 | cons x xs ih=>simp only[List.any_cons];rw[h x (by simp),ih (fun y A=>h y (by simp[A]))]
theorem jp5 (n:Nat) (p L:Nat->Bool) (f:Nat->Bool) (i:Nat) (D:i<n) (F:L i=true) (E:p i=true) :
  ((List.range n).any fun a=>(p a && !(L a && !(a==i)))&&f a)=(((List.range n).any fun a=>(p a && !L a)&&f a)||f i):=by
 rw[Bool.eq_iff_iff];simp only[List.any_eq_true,List.mem_range,Bool.and_eq_true,Bool.or_eq_true,Bool.not_eq_true',Bool.and_eq_false_iff];constructor
 ·rintro⟨a,ha,⟨C,A⟩,B⟩
  by_cases e:a=i
  ·subst e;exact .inr B
  ·refine .inl ⟨a,ha,⟨C,?_⟩,B⟩
   rcases A with A | A
   ·exact A
   ·simp[e] at A
 ·rintro (⟨a,ha,⟨C,A⟩,B⟩ | h)
  ·exact⟨a,ha,⟨C,.inl A⟩,B⟩
  ·exact⟨i,D,⟨E,.inr (by simp)⟩,h⟩
theorem jmW (a:Option Addr) (len cap:Nat) (l:List Sign) (c:Int) (b n n₀:Nat) (S:Int->Bool) (w:World) (hl:Signs n₀ w (.slice a len cap) l) (hs:PSet w b n S) (z:n₀<=w.heap.size)
  (ah:∀ i,wfI i->S i=true->0<=i/\i<(l.length+1:Nat)) (ay:l.length<2147483648) :
  Calls Tryz.prog 181 #[.map (some b),.slice a len cap,.int .i32 c] w fun e w'=>∃ nb,e=.returned (.map (some nb))/\w.heap.size<=nb/\PSet w' nb (l.length+1) (jep l S c)/\Bw w w':=by
 have aw:=@run_makeMap Tryz.prog;have y:=hl.cell.1;subst y;have au:=hs.lt;have ac:Bw w (w.alloc (.map #[] 0)):=(Below.refl _ w).alloc (Nat.le_refl _) _;have ak:=SetAt.below hs ac au;have af:=jlP (P:=Tryz.prog) (kt:=3) w;have an:(w.alloc (.map #[] 0)).heap.size=w.heap.size+1:=by simp
 obtain⟨W2,ab,V,Y,t,g⟩:=SetAt.range Tryz.underlying3 jdM ak;rw[an] at V Y g;have ad:Bw w W2:=ac.grown t (by omega) (fun k e=>by cases e);have ag:=(af.kept t (by simp)).mono (m:=l.length+1) (by omega);have HR:=Lib.hid V;clear V ak af t;go_enter Tryz.func181,Tryz.ntmps181;have V:=HR.out;go_wp2_with fail;clear V HR aw;go_loopw [] (fun wr=>∃ (L:Int->Bool) (cnt:Nat) (T:Int->Bool),RangeAt Tryz.prog 3 wr b (w.heap.size+1) n S L cnt/\PSet wr w.heap.size (l.length+1) T/\Hid (∀ j,wfI j->T j=(List.range (l.length+1)).any fun i=>(S (i:Int) && !L (i:Int))&&jix l c i j)/\Bw w wr) (fun wr=>wr.rangeLeft b (w.heap.size+1))
 case atStart=>exact⟨S,ab,_,Y,ag,fun j _=>by simp,ad⟩
 case round =>
  obtain⟨L,cnt,T,X,hT,HT,hB⟩:=hrel;clear Y ag ad g;have F:=X.left_eq;have aA:=hT.lt;have aE:=X.lt;have ao:=hB.size;rcases RangeAt.next Tryz.underlying3 X 0 with⟨hL,ax⟩ | ⟨i,W3,N,aq,ae,q,ax,E,f,u,az,aD⟩
  ·clear F
   go_wp2_with fail;go_ret;refine⟨_,rfl,Nat.le_refl _,hT.congr (fun j G=>?_),hB⟩;rw[HT.out j G];unfold jep;refine jkH _ _ _ (fun i hi=>?_);have:=List.mem_range.1 hi;rw[hL i (jid (by omega) (by omega))];simp
  ·obtain⟨h0,h1⟩:=ah i aq q
   obtain⟨k,rfl⟩:=Int.eq_ofNat_of_zero_le h0;have hk:k<=l.length:=by omega
   have O:Bw w W3:=hB.grown u ao (fun j e=>by cases e;omega);have Z:=hT.kept u (by simp)
   have aa:Hid (∀ j,wfI j->T j=true->0<=j/\j<(l.length+1:Nat)):=fun j G h=>by
    rw[HT.out j G] at h;obtain⟨i,_,h2⟩:=List.any_eq_true.1 h;exact jlV l c i j (by simp at h2;exact h2.2)
   have HV:Hid (∀ j,wfI j->((List.range (l.length+1)).any fun i=>(S (i:Int) && !(L (i:Int) && !((i:Int)==(k:Int))))&&jix l c i j)=(T j||jix l c k j)):=fun j G=>by
    rw[HT.out j G,<- jp5 (l.length+1) (fun a=>S (a:Int)) (fun a=>L (a:Int)) (fun a=>jix l c a j) k (by omega) ae q];refine jkH _ _ _ (fun a _=>?_);have:((a:Int)==(k:Int))=(a==k):=by rw[Bool.eq_iff_iff];simp;omega
    rw[this]
   have I:Signs n₀ W3 (.slice a l.length cap) l:=SlAt.below (O.mono z) hl;have J:=I.cell.2;have aC:b≠w.heap.size+1:=fun e=>X.ne e.symm
   clear X hT HT hB u h0 h1 ae q aq;by_cases d:k=l.length
   ·have ai:((k:Int)==(l.length:Int))=true:=by simp[d]
    have HK:=Lib.hid d;clear d J I;go_wp2_with fail;go_roundw
    case rel =>
     refine⟨_,N,T,E,Z,fun j G=>?_,O⟩;rw[HV.out j G];unfold jix;rw[HK.out];simp
    case measure=>rw[E.left_eq,F];exact f
   ·have ai:((k:Int)==(l.length:Int))=false:=by rw[beq_eq_false_iff_ne];omega
    have av:k<l.length:=by omega
    obtain⟨x,hx⟩:∃ x,l[k]? = some x:=⟨_,List.getElem?_eq_getElem av⟩;obtain⟨bb,off,rfl,aB,hc⟩:=J k x hx;have am:∀ j,jix l c k j=if x.isAny then joE l k j else if x.isFor c then joE l (k+1) j else false:=fun j=>by simp[jix,hx]
    have p:=Lib.hid am;have A:=jll x W3;clear J d hx am;by_cases Q:x.isAny=true
    ·have aj:=jkj (some ⟨bb,off,none⟩) l.length cap l k w.heap.size (l.length+1) n₀ T W3 I Z z hk (by omega) (by omega)
     have o:=Lib.hid Q;clear I;generalize x.val=xv at hc A;rw[Q] at A;clear Q;go_wp2_with (first | (go_at_call 208;refine A.mono ?_;rintro e w' ⟨rfl,rfl⟩) | (go_at_call 180;refine aj.mono ?_;rintro e W4 ⟨⟨v,rfl⟩,r,M⟩));go_roundw
     case rel =>
      refine⟨_,N,_,E.kept M (fun e=>by have:=Option.some.inj e;omega) (fun e=>by have:=Option.some.inj e;omega),SetAt.tight Tryz.underlying3 r (fun j G h=>?_),fun j G=>?_,O.grown M (by omega) (fun j e=>by cases e;exact Nat.le_refl _)⟩
      ·simp only[Bool.or_eq_true] at h
       rcases h with h | h
       ·exact aa.out j G h
       ·exact jfE l _ (by omega) j h
      ·rw[HV.out j G,p.out j];simp[o.out]
     case measure=>rw[(E.kept M (fun e=>by have:=Option.some.inj e;omega) (fun e=>by have:=Option.some.inj e;omega)).left_eq,F];exact f
    ·have C:x.isAny=false:=by simpa using Q
     have B:=jq3 x c W3 C;clear Q;by_cases R:x.isFor c=true
     ·have o:Hid (x.isAny=false/\x.isFor c=true):=⟨C,R⟩
      generalize x.val=xv at hc A B;rw[C] at A;rw[R] at B;clear C R;go_wp2_with (first | (go_at_call 208;refine A.mono ?_;rintro e w' ⟨rfl,rfl⟩) | (go_at_call 209;refine B.mono ?_;rintro e W5 ⟨rfl,D⟩));have ap:=D.size;have al:Signs n₀ W5 _ l:=SlAt.below (D.mono (by omega)) I;have s:=SetAt.below Z D (by omega);have H:=E.below D (by omega) (by omega);have ar:=O.trans (D.mono (by omega));refine (jkj (some ⟨bb,off,none⟩) l.length cap l (k+1) w.heap.size (l.length+1) n₀ T W5 al s z (by omega) (by omega) (by omega)).mono ?_;rintro e W4 ⟨⟨v,rfl⟩,r,M⟩;go_wp2_with fail;go_roundw
      case rel =>
       refine⟨_,N,_,H.kept M (fun e=>by have:=Option.some.inj e;omega) (fun e=>by have:=Option.some.inj e;omega),SetAt.tight Tryz.underlying3 r (fun j G h=>?_),fun j G=>?_,ar.grown M (by omega) (fun j e=>by cases e;exact Nat.le_refl _)⟩
       ·simp only[Bool.or_eq_true] at h
        rcases h with h | h
        ·exact aa.out j G h
        ·exact jfE l _ (by omega) j h
       ·rw[HV.out j G,p.out j];simp[o.out.1,o.out.2]
      case measure=>rw[(H.kept M (fun e=>by have:=Option.some.inj e;omega) (fun e=>by have:=Option.some.inj e;omega)).left_eq,F];exact f
     ·have U:x.isFor c=false:=by simpa using R
      have o:Hid (x.isAny=false/\x.isFor c=false):=⟨C,U⟩;generalize x.val=xv at hc A B;rw[C] at A;rw[U] at B;clear C U R;go_wp2_with (first | (go_at_call 208;refine A.mono ?_;rintro e w' ⟨rfl,rfl⟩) | (go_at_call 209;refine B.mono ?_;rintro e W5 ⟨rfl,D⟩));have ap:=D.size;have s:=SetAt.below Z D (by omega);have H:=E.below D (by omega) (by omega);go_roundw
      case rel =>
       refine⟨_,N,T,H,s,fun j G=>?_,O.trans (D.mono (by omega))⟩;rw[HV.out j G,p.out j];simp[o.out.1,o.out.2]
      case measure=>rw[H.left_eq,F];exact f
def jbn:Bool->List Int->List Sign × Bool
 | q,[]=>([],q)
 | true,c::cs=>(.that c::(jbn false cs).1,(jbn false cs).2)
 | false,c::cs=>if c==42 then (.any::(jbn false cs).1,(jbn false cs).2) else if c==63 then (.one::(jbn false cs).1,(jbn false cs).2)
   else if c==126 then jbn true cs else (.that c::(jbn false cs).1,(jbn false cs).2)
def jcF (s:ByteArray) (pos:Nat):List Int:=(rl s pos).map (·.2)
theorem jhX (s:ByteArray) (pos:Nat) (h:pos<s.size):jcF s pos=((Utf8.decode s pos).1:Int)::jcF s (pos+(Utf8.decode s pos).2):=by simp[jcF,jgm s pos h]
theorem jja (s:ByteArray) (pos:Nat) (h:¬ pos<s.size):jcF s pos=[]:=by simp[jcF,ji7 s pos h]
def jct (p:ByteArray):Option (List Sign):=if jgo p then (if (jbn false (jcF p 0)).2 then none else some (jbn false (jcF p 0)).1) else none
theorem je2:∀ (q:Bool) (A:List Int),(jbn q A).1.length<=A.length
 | q,[]=>by cases q<;>simp[jbn]
 | true,c::A=>by have:=je2 false A;simp[jbn];omega
 | false,c::A=>by
  have B:=je2 false A;have C:=je2 true A;simp only[jbn]
  repeat' split
  all_goals (simp;omega)
theorem jkg (p:ByteArray) (h:jgo p=true):(rl p 0).length<=24:=by
 simp only[jgo,jai,je9,Bool.and_eq_true,jcb,jfX,decide_eq_true_eq] at h;have B:=h.2.1.2.1.1;have A:=h.2.1.2.1.2;rw[B] at A;simp at A;omega
theorem jmZ (p:ByteArray) (l:List Sign) (h:jct p=some l):l.length<=24:=by
 unfold jct at h;split at h
 ·rename_i A
  split at h
  ·cases h
  ·cases h
   have:=je2 false (jcF p 0);have:=jkg p A;simp[jcF] at *;omega
 ·cases h
def jhf (p:ByteArray) (w:World) (e:Ending) (w':World):Prop :=
 ∃ a len cap,e=.returned (.tuple #[.slice a len cap,.bool (jct p).isSome])/\Signs w'.heap.size w' (.slice a len cap) ((jct p).getD [])/\Bw w w'
theorem jqZ:(Tryz.prog.info? 353).map (fun i=>(i.zero,i.size,i.bytes))=some (some .nilIface,1,16):=by kernel_rfl
theorem jsK:Tryz.prog.underlying 302=some (.slice 353):=by kernel_rfl
theorem juP (x:Sign):x.val.oneCell'=true:=by cases x<;>rfl
def js8 (p:ByteArray) (w0:World) (N:Nat) (v q:Value) (wr:World):Prop :=
 ∃ pos acc qb,wr.heap[N]? = some (.stringIter p pos)/\wr.ownsRow (N+1) 353 1 v acc.length (acc.map Sign.val)/\Below N w0 wr/\q=.bool qb/\acc.length<=pos /\
  (acc++(jbn qb (jcF p pos)).1,(jbn qb (jcF p pos)).2)=jbn false (jcF p 0)
theorem je3 {p:ByteArray} {w0 C:World} {N pos:Nat} {A:List Sign} {v:Value} (E:C.heap[N]? = some (.stringIter p pos)) (F:C.ownsRow (N+1) 353 1 v A.length (A.map Sign.val)) (L:Below N w0 C) (D:A.length<4294967281) (x:Sign) :
  ∃ g cap B,(Builtin.append_ #[302,302] 302 #[v,.slice (some ⟨C.heap.size,0,none⟩) 1 1]).run Tryz.prog (C.alloc (.cells #[x.val] 353))=.ok (.slice (some ⟨g,0,none⟩) (A.length+1) cap) B /\
   B.heap[N]? = some (.stringIter p pos)/\B.ownsRow (N+1) 353 1 (.slice (some ⟨g,0,none⟩) (A.length+1) cap) (A++[x]).length ((A++[x]).map Sign.val)/\Below N w0 B:=by
 have M:=(Array.getElem?_eq_some_iff.1 E).1;obtain⟨g,cap,B,G,H,I,O,J,P⟩:=jap Tryz.prog 302 jsK jqZ rfl (by decide) F L (Nat.le_succ N) (by omega) [x.val] rfl (by simp[juP]) D (by decide);refine⟨g,cap,B,G,(J N (by omega)).trans E,?_,I⟩;simpa using H
theorem jlR (p:ByteArray) (w:World) (hp:p.size<4294967281) (hG:GW w):Calls Tryz.prog 178 #[.string p] w (jhf p w):=by
 have Z:=jkf p w hp hG;by_cases f:jgo p=true
 ·rw[f] at Z
  have h:=Lib.hid f;clear f;go_enter Tryz.func178,Tryz.ntmps178;go_wp2_with (go_at_call 206;refine Z.mono ?_;rintro e U ⟨rfl,Q⟩);clear Z;go_loopw [4,5] (js8 p U U.heap.size) (fun _ _ wr=>p.size-wr.iterPos U.heap.size)
  case atStart=>exact⟨0,[],false,World.iter_heap U p 0,World.ownsRow_nil _ _ _ _,(Below.refl _ _).alloc (Nat.le_refl _) _,rfl,Nat.le_refl _,rfl⟩
  case round =>
   obtain⟨pos,H,y,R,L,s,rfl,x,N⟩:=hrel;have V:=Lib.hid N;clear N;have E:=jaw R;by_cases M:pos<p.size
   ·obtain⟨z,a,F,G,d,T⟩:=jd0 (P:=Tryz.prog) R s (Nat.le_refl _) M
    have hd:=jdU p pos M;have J:=Lib.hid (jhX p pos M);have A:z.ownsRow (U.heap.size+1) 353 1 u4 H.length (H.map Sign.val):=jbp L (fun j hj _=>T j (by omega));generalize ((Utf8.decode p pos).1:Int)=c at a J;clear R s L T d
    cases y with
    | true =>
     obtain⟨g,cap,v,D,B,C,I⟩:=je3 F A G (by omega) (.that c);clear A G;simp only[Sign.val] at D;go_wp2_with (at_builtin;refine ja6 rfl _ _ _ rfl rfl rfl D ?_);go_roundw
     case rel=>exact⟨_,H++[.that c],false,B,by simpa using C,I,rfl,by simp;omega,by rw[<- V.out,J.out];simp[jbn]⟩
     case measure=>rw[jaw B,E];omega
    | false =>
     have HC:=Lib.hid J.out;by_cases k:(c==42)=true
     ·obtain rfl:c=42:=by simpa using k
      obtain⟨g,cap,v,D,B,C,I⟩:=je3 F A G (by omega) (.any);clear A G;simp only[Sign.val] at D;go_wp2_with (at_builtin;refine ja6 rfl _ _ _ rfl rfl rfl D ?_);go_roundw
      case rel=>exact⟨_,H++[.any],false,B,by simpa using C,I,rfl,by simp;omega,by rw[<- V.out,J.out];simp[jbn]⟩
      case measure=>rw[jaw B,E];omega
     have l:(c==42)=false:=by simpa using k
     clear k;by_cases m:(c==63)=true
     ·obtain rfl:c=63:=by simpa using m
      obtain⟨g,cap,v,D,B,C,I⟩:=je3 F A G (by omega) (.one);clear A G;simp only[Sign.val] at D;go_wp2_with (at_builtin;refine ja6 rfl _ _ _ rfl rfl rfl D ?_);go_roundw
      case rel=>exact⟨_,H++[.one],false,B,by simpa using C,I,rfl,by simp;omega,by rw[<- V.out,J.out];simp[jbn]⟩
      case measure=>rw[jaw B,E];omega
     have n:(c==63)=false:=by simpa using m
     clear m;by_cases o:(c==126)=true
     ·obtain rfl:c=126:=by simpa using o
      go_wp2_with fail;go_roundw
      case rel=>exact⟨_,H,true,F,A,G,rfl,by omega,by rw[<- V.out,J.out];simp[jbn]⟩
      case measure=>rw[jaw F,E];omega
     have q:(c==126)=false:=by simpa using o
     clear o;have i:Hid ((c==42)=false/\(c==63)=false/\(c==126)=false):=⟨l,n,q⟩;obtain⟨g,cap,v,D,B,C,I⟩:=je3 F A G (by omega) (.that c);clear A G;simp only[Sign.val] at D;go_wp2_with (at_builtin;refine ja6 rfl _ _ _ rfl rfl rfl D ?_);go_roundw
     case rel=>exact⟨_,H++[.that c],false,B,by simpa using C,I,rfl,by simp;omega,by rw[<- V.out,J.out];simp[jbn,i.out.1,i.out.2.1,i.out.2.2]⟩
     case measure=>rw[jaw B,E];omega
   ·have a:∀ u,(Instr.next (.pointer (some ⟨U.heap.size,0,none⟩)) true u).run Tryz.prog wr=_:=fun u=>Lib.run_next_end_at wr U.heap.size p pos u R M
    have S:=Lib.hid (jja p pos M);have t:=Q.size;have X:=Q.trans (s.mono t)
    cases y with
    | true =>
     go_wp2_with fail;go_ret2;have O:jct p=none:=by simp[jct,h.out,<- V.out,S.out,jbn]
     exact⟨none,0,0,by rw[O];rfl,by rw[O];exact .inl ⟨rfl,rfl,rfl⟩,X⟩
    | false =>
     go_wp2_with fail;go_ret2;have O:jct p=some H:=by simp[jct,h.out,<- V.out,S.out,jbn]
     have r:=jeD L;rcases id r with⟨rfl,h7,_⟩ | ⟨b,off,cap,rfl,_⟩
     ·exact⟨none,0,0,by rw[O];rfl,by rw[O];simpa [Signs] using r,X⟩
     ·exact⟨some ⟨b,off,none⟩,_,_,by rw[O];rfl,by rw[O];simpa [Signs] using r,X⟩
 ·have Y:jgo p=false:=by simpa using f
  rw[Y] at Z;have h:=Lib.hid Y;clear f Y;go_enter Tryz.func178,Tryz.ntmps178;go_wp2_with (go_at_call 206;refine Z.mono ?_;rintro e U ⟨rfl,Q⟩);go_ret2;have O:jct p=none:=by simp[jct,h.out]
  exact⟨none,0,0,by rw[O];rfl,by rw[O];exact .inl ⟨rfl,rfl,rfl⟩,Q⟩
theorem jr9 {w w':World} {b n:Nat} {S:Int->Bool} (h:PSet w b n S) (hb:w'.heap[b]? = w.heap[b]?):PSet w' b n S:=by
 obtain⟨D,⟨es,clock,A,B,C,E⟩,F⟩:=h;exact⟨D,⟨es,clock,hb.trans A,B,C,E⟩,F⟩
theorem jxz {w:World} {b n k:Nat} {S:Int->Bool} {s:ByteArray} {p:Nat} (h:PSet w b n S) (A:w.heap[k]? = some (.stringIter s p)):b≠k:=by
 obtain⟨D,⟨es,clock,B,_⟩,_⟩:=h;intro e;subst e;rw[B] at A
 cases A
def jnK (p:ByteArray):Bool:=(jct p).isSome
theorem jjm (p:ByteArray) (w:World) (D:p.size<4294967281) (B:GW w):CR 134 #[.string p] w (.bool (jnK p)):=by
 have C:=jlR p w D B;go_enter Tryz.func134,Tryz.ntmps134;go_wp2_with (go_at_call 178;refine C.mono ?_;rintro e E ⟨a,len,cap,rfl,-,A⟩);go_ret;exact⟨rfl,A⟩
def jfl (l:List Sign) (S:Int->Bool):List Int->Int->Bool
 | []=>S
 | c::cs=>jfl l (jep l S c) cs
def jin (p v:ByteArray):Bool:=match jct p with
 | none=>false
 | some l=>jcg v&&jfl l (joE l 0) (jcF v 0) (l.length:Int)
theorem jgy (l:List Sign) (B:l.length<=24):∀ (A:List Int) (S:Int->Bool),(∀ i,wfI i->S i=false)->∀ j,wfI j->jfl l S A j=false
 | [],S,h,j,hj=>h j hj
 | c::A,S,h,j,hj=>by
  refine jgy l B A _ (fun i _=>?_) j hj;unfold jep;rw[List.any_eq_false];intro a ha;have:=List.mem_range.1 ha;rw[h a (jid (by omega) (by omega))];simp
def jvP (l:List Sign) (v:ByteArray) (sv:Value) (w1:World) (N:Nat) (m:Value) (wr:World):Prop :=
 ∃ (pos mb:Nat) (S:Int->Bool),m=.map (some mb)/\PSet wr mb (l.length+1) S/\(∀ i,wfI i->S i=true->0<=i/\i<(l.length+1:Nat))/\wr.heap[N]? = some (.stringIter v pos)/\Bw w1 wr/\Signs w1.heap.size wr sv l /\
  jfl l (joE l 0) (jcF v 0)=jfl l S (jcF v pos)
theorem js2 (p v:ByteArray) (w:World) (hp:p.size<4294967281) (hv:v.size<4294967281) (hG:GW w):CR 139 #[.string p,.string v] w (.bool (jin p v)):=by
 have N:=jlR p w hp hG
 cases E:jct p with
 | none =>
  unfold jhf at N;rw[E] at N;have r:=Lib.hid E;clear E;go_enter Tryz.func139,Tryz.ntmps139;go_wp2_with fail;go_step3;go_wp2_with (go_at_call 178;refine N.mono ?_;rintro e J ⟨a,len,cap,rfl,-,A⟩);rw[Exit.noGoto_ret];go_ret;exact⟨by simp[jin,r.out],A⟩
 | some l =>
  have ab:=jmZ p l E;unfold jhf at N;rw[E] at N;have r:=Lib.hid E;clear E;by_cases hr:jcg v=true
  ·have HR:=Lib.hid hr
   have an:=@run_makeMap Tryz.prog;go_enter Tryz.func139,Tryz.ntmps139;go_wp2_with fail;go_step3;go_wp2_with (go_at_call 178;refine N.mono ?_;rintro e J ⟨a,len,cap,rfl,D,A⟩);have G:=D.cell.1;simp only[Option.getD_some] at G D;subst G;have B:=jfx v J (by unfold maxLen;omega) (hG.below A);rw[hr] at B;refine B.mono ?_;rintro e Q ⟨rfl,C⟩;have d:=jlP (P:=Tryz.prog) (kt:=3) Q;have t:Bw Q (Q.alloc (.map #[] 0)):=(Below.refl _ Q).alloc (Nat.le_refl _) _;have ae:Signs J.heap.size (Q.alloc (.map #[] 0)) _ l:=SlAt.below (C.trans (t.mono C.size)) D;have Y:=jkj a l.length cap l 0 Q.heap.size 0 J.heap.size _ _ ae d C.size (Nat.zero_le _) (by omega) (by omega);clear B N hr d;go_wp2_with (go_at_call 180;refine Y.mono ?_;rintro e L ⟨⟨v4,rfl⟩,y,aa⟩);go_step3;go_wp2_with fail;have ag:=C.size;have ah:=aa.size;rw[World.size_alloc] at ah;have ak:Bw J L:=(C.trans (t.mono ag)).grown aa (by rw[World.size_alloc];omega) (fun k e=>by cases e;omega);have b:Bw J (L.iter v 0):=ak.alloc (by omega) _;have u:PSet (L.iter v 0) Q.heap.size (l.length+1) (joE l 0):=((y.kept (World.grownBy_alloc L _ none) (by simp)).congr (fun j _=>by simp)).mono (by omega);clear Y an;go_loopw [9] (jvP l v (.slice a l.length cap) J L.heap.size) (fun _ wr=>v.size-wr.iterPos L.heap.size)
   case atStart=>exact⟨0,Q.heap.size,joE l 0,rfl,u,fun i _ h=>jfE l 0 (Nat.zero_le _) i h,World.iter_heap L v 0,b,SlAt.below b D,rfl⟩
   case round =>
    obtain⟨pos,mb,S,rfl,d,R,F,hB,ap,I⟩:=hrel;have s:=Lib.hid I;have HD:=Lib.hid R;clear I R u b y;have o:=jaw F;have ao:=(Array.getElem?_eq_some_iff.1 F).1;by_cases H:pos<v.size
    ·obtain⟨W1,ad,T,M,ai,X⟩:=jd0 (P:=Tryz.prog) F hB (by omega) H
     have hd:=jdU v pos H;have af:=Lib.hid (jhX v pos H);have x:PSet W1 mb (l.length+1) S:=jr9 d (X mb (jxz d F));have g:=jmW a l.length cap l ((Utf8.decode v pos).1:Int) mb (l.length+1) J.heap.size S W1 (SlAt.below M D) x M.size HD.out (by omega);generalize ((Utf8.decode v pos).1:Int)=c at ad af g;clear d F hB X ai;go_wp2_with (go_at_call 181;refine g.mono ?_;rintro e W5 ⟨nb,rfl,aq,f,z⟩);obtain⟨kk,ac,m⟩:=SetAt.len Tryz.underlying3 jdM f;have V:=ac 3;clear ac;rw[V];clear V;have U:W5.heap[L.heap.size]? = some (.stringIter v (pos+(Utf8.decode v pos).2)):=(z.block _ (Array.getElem?_eq_some_iff.1 T).1).trans T;have Z:=M.trans (z.mono M.size);have al:Bw w W5:=A.trans (Z.mono A.size);have HB:=Lib.hid (s.out.trans (by rw[af.out];rfl:jfl l S (jcF v pos)=jfl l (jep l S c) (jcF v (pos+(Utf8.decode v pos).2))));clear g x;by_cases O:kk=0
     ·have am:((kk:Int)==0)=true:=by simp[O]
      have HK:=Lib.hid (m.1 O);clear O m;have n:=SetAt.look Tryz.underlying3 jdM jl7 f (i:=l.length) (jid (by omega) (by omega));go_wp2_with fail;rw[Exit.noGoto_ret];go_ret;refine⟨?_,al⟩;have aj:wfI (l.length:Int):=jid (by omega) (by omega);have h9:jin p v=false:=by simp only[jin,r.out,HR.out,HB.out,Bool.true_and];exact jgy l ab _ _ HK.out _ aj
      rw[h9];show Ending.returned (.bool (jep l S c l.length))=_;rw[HK.out _ aj]
     ·have am:((kk:Int)==0)=false:=by rw[beq_eq_false_iff_ne];omega
      clear O m;go_wp2_with fail;go_roundw
      case rel=>exact⟨_,nb,_,rfl,f,fun i _ h=>jml l S c i h,U,Z,SlAt.below Z D,HB.out⟩
      case measure=>rw[jaw U,o];omega
    ·have ad:∀ ty,(Instr.next (.pointer (some ⟨L.heap.size,0,none⟩)) true ty).run Tryz.prog wr=_:=fun ty=>Lib.run_next_end_at wr L.heap.size v pos ty F H
     have n:=SetAt.look Tryz.underlying3 jdM jl7 d (i:=l.length) (jid (by omega) (by omega));go_wp2_with fail;rw[Exit.noGoto_ret];go_ret;have h9:jin p v=S (l.length:Int):=by simp only[jin,r.out,HR.out,s.out,Bool.true_and,jja v pos H];rfl
     exact⟨by rw[h9];rfl,A.trans (hB.mono A.size)⟩
  ·have q:jcg v=false:=by simpa using hr
   have HR:=Lib.hid q;clear hr;go_enter Tryz.func139,Tryz.ntmps139;go_wp2_with fail;go_step3;go_wp2_with (go_at_call 178;refine N.mono ?_;rintro e J ⟨a,len,cap,rfl,D,A⟩);have B:=jfx v J (by unfold maxLen;omega) (hG.below A);rw[q] at B;refine B.mono ?_;rintro e Q ⟨rfl,C⟩;clear B N q;go_wp2_with fail;rw[Exit.noGoto_ret];go_ret;exact⟨by simp[jin,r.out,HR.out],A.trans (C.mono A.size)⟩
end Go.Proofs.YtnegciklhanmbaaGreatDoor
