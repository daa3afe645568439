/- label.Parse: cmp.Compare at texts, the library's SortFunc at labels, Parse. quota.Victim. Cells of a row that a call owns. quota.copied: a table that shares nothing. Package ladder: stores into a box, kept bodies and sketches; lowered at the bottom; told. Package ladder: with one item. -/
import Derived.Test.YtnegciklhanmbaaGreatDoorZPE
set_option maxHeartbeats 4000000
set_option maxRecDepth 100000
namespace Go.Proofs.YtnegciklhanmbaaGreatDoor
open Go Go.RowKit Go.Shelf
def cfS (a b:ByteArray):Int:=if Op.bytesLess a.toList b.toList then -1 else if a.toList==b.toList then 0 else 1
def cfL (x y:Lab):Int:=cfS x.name y.name
theorem jhH (s:ByteArray) (w:World):Calls Tryz.prog 115 #[.string s] w fun e w'=>e=.returned (.bool false)/\w'=w:=by
 go_enter Tryz.func115,Tryz.ntmps115;go_wp2;go_ret;exact⟨by simp,rfl⟩
theorem jmb (a b:ByteArray) (w:World):Calls Tryz.prog 72 #[.string a,.string b] w fun e w'=>e=.returned (.int .i64 (cfS a b))/\w'=w:=by
 have B:Hid (cfS a b=if Op.bytesLess a.toList b.toList then -1 else if a.toList==b.toList then 0 else 1):=rfl
 cases C:Op.bytesLess a.toList b.toList with
 | true =>
  have A:Hid (cfS a b = -1):=by rw[Hid,B.out,C];rfl
  go_enter Tryz.func72,Tryz.ntmps72;go_wp2_with (go_at_call 115;refine (jhH _ _).mono ?_;rintro e w' ⟨rfl,rfl⟩);go_ret;exact⟨congrArg (fun z=>Ending.returned (.int .i64 z)) A.out.symm,rfl⟩
 | false =>
  cases D:a.toList==b.toList with
  | true =>
   have A:Hid (cfS a b=0):=by rw[Hid,B.out,C,D];rfl
   go_enter Tryz.func72,Tryz.ntmps72;go_wp2_with (go_at_call 115;refine (jhH _ _).mono ?_;rintro e w' ⟨rfl,rfl⟩);go_ret;exact⟨congrArg (fun z=>Ending.returned (.int .i64 z)) A.out.symm,rfl⟩
  | false =>
   have A:Hid (cfS a b=1):=by rw[Hid,B.out,C,D];rfl
   go_enter Tryz.func72,Tryz.ntmps72;go_wp2_with (go_at_call 115;refine (jhH _ _).mono ?_;rintro e w' ⟨rfl,rfl⟩);go_ret;exact⟨congrArg (fun z=>Ending.returned (.int .i64 z)) A.out.symm,rfl⟩
instance:Inhabited Lab:=⟨⟨⟨#[]⟩,⟨#[]⟩⟩⟩
theorem joF (x y:Lab) (W:World):Calls Tryz.prog 71 #[.agg #[.string x.name,.string x.value],.agg #[.string y.name,.string y.value]] W fun e w'=>e=.returned (.int .i64 (cfL x y))/\∃ q B,w'=Sort.grow (W.drewN q) B:=by
 have A:=fun C=>jmb x.name y.name C
 have hr:cfS x.name y.name=cfL x y:=rfl;rw[hr] at A;generalize cfL x y=r at A ⊢;clear hr;go_enter Tryz.func71,Tryz.ntmps71;go_wp2_with (go_at_call 72;refine (A _).mono ?_;rintro e w' ⟨rfl,rfl⟩);go_ret;exact⟨rfl,0,_,by rw[Sort.alloc_eq_grow,Sort.alloc_eq_grow,Sort.grow_grow];rfl⟩
theorem jmq (A off size:Nat) (w:World):CmpLays Tryz.prog 71 #[] Lab.enc 2 cfL A off size w:=fun _ _ _ _ x y=>joF x y _
theorem jul (n:Nat) (W:World) (h:n<=12):Calls Tryz.prog 114 #[.int .u64 n] W fun e w'=>(∃ l:Int,e=.returned (.int .i64 l))/\w'=W :=
 (Tryz.bits_Len n W (by omega) (by omega)).mono fun _ _ ⟨A,B⟩=>⟨⟨_,A⟩,B⟩
theorem ltL (x y:Lab):ltOf cfL x y=Op.bytesLess x.name.toList y.name.toList:=by
 unfold ltOf cfL cfS
 cases Op.bytesLess x.name.toList y.name.toList with
 | true=>rfl
 | false=>cases x.name.toList==y.name.toList<;>rfl
theorem jye:Sort.SWO (ltOf cfL):=by
 refine⟨fun x=>by rw[ltL];exact jns _,fun x y z B A=>?_,fun x y z B A=>?_⟩
 ·rw[ltL] at *
  exact jqi _ _ _ B A
 ·rw[ltL] at *
  cases C:Op.bytesLess x.name.toList z.name.toList with
  | false=>rfl
  | true =>
   cases D:Op.bytesLess y.name.toList x.name.toList with
   | true=>rw[jqi _ _ _ D C] at A;cases A
   | false=>rw[jnt _ _ B D] at C;rw[C] at A;cases A
def jh2 (l:List Lab):List Lab:=(Sort.insertionSort (ltOf cfL) l.toArray 0 l.toArray.size).toList
theorem jh3 (l:List Lab):(jh2 l).Perm l:=by
 obtain⟨⟨D,-,A⟩,-⟩:=Sort.insertionSort_holds (lt:=ltOf cfL) jye l.toArray 0 l.toArray.size (Nat.zero_le _) (Nat.le_refl _);unfold jh2;generalize Sort.insertionSort (ltOf cfL) l.toArray 0 l.toArray.size=S at *;have B:S.extract 0 l.toArray.size=S:=by rw[<- D];exact Array.extract_size
 have C:l.toArray.extract 0 l.toArray.size=l.toArray:=Array.extract_size;rw[B,C] at A;exact A
def jbP (s:ByteArray):Option (List Lab):=match jgI s with
 | some l=>if jai (jh2 l) then some (jh2 l) else none
 | none=>none
def jbt (s:ByteArray) (w:World) (e:Ending) (w':World):Prop :=
 Bw w w'/\match jbP s with
  | some l=>∃ a c,e=.returned (.tuple #[.slice a l.length c,.int .i64 0])/\SlC Lab.enc 2 w'.heap.size w' a l.length c l/\(∀ z,a=some z->w.heap.size<=z.block)/\jcK l/\jai l=true
  | none=>e=.returned (.tuple #[.slice none 0 0,.int .i64 40])
theorem jwQ {A off m k:Nat} {w:World} {B:Array Lab} {C:Array Obj} (D:k<w.heap.size) (hb:k≠A):(sortWorldK Lab.enc 2 w A off m B C).heap[k]? = w.heap[k]? := by
 show ((Sort.mapBlock (Sort.ahead w m) A _).heap++C)[k]? = _
 have E:k<(Sort.mapBlock (Sort.ahead w m) A (Sort.putCells id off (Sort.flatK Lab.enc 2 B))).heap.size:=by
  have:=Sort.size_putRow id (Sort.ahead w m) A off (Sort.flatK Lab.enc 2 B);unfold Sort.putRow at this;rw[this];exact D
 rw[Array.getElem?_append_left E];show (w.heap.modify A _)[k]? = _;rw[Array.getElem?_modify,if_neg (Ne.symm hb)]
theorem jo7 (l:List Lab) (j:Nat) (F:j<l.length*2):(l.flatMap Lab.enc)[j]? = some ((Lab.enc l.toArray[j / 2]!)[j % 2]!):=by
 have B:j / 2<l.length:=by omega
 obtain⟨x,C⟩:∃ x,l[j / 2]? = some x:=⟨_,List.getElem?_eq_getElem B⟩
 have A:l.toArray[j / 2]! = x:=by
  rw[getElem!_pos l.toArray (j / 2) (by simpa using B)];have:=(List.getElem?_eq_some_iff.1 C).2;simpa using this
 obtain⟨D,E⟩:=jls l (j / 2) x C;rw[A];rcases Nat.mod_two_eq_zero_or_one j with e | e
 ·rw[e,show j=j / 2*2 by omega,D];rfl
 ·rw[e,show j=j / 2*2+1 by omega,E];rfl
theorem juS (B:Nat) (l:List Lab) (a:Option Addr) (c:Nat) (w:World) (h:w.ownsRow B 93 2 (.slice a l.length c) l.length (l.flatMap Lab.enc)) (q:l.length<=6) (X:l≠[]) :
  Calls Tryz.prog 70 #[.slice a l.length c,.func (.func 71) #[] #[]] w fun e w'=>e=.returned (.tuple #[])/\SlC Lab.enc 2 w'.heap.size w' a l.length c (jh2 l)/\Below B w w'/\(∀ z,a=some z->B<=z.block):=by
 have d:(l.flatMap Lab.enc).length=l.length*2:=jnL l;rcases h.2 with⟨e,Y⟩ | ⟨g,cap,V,e,f,G,L,F,b,ht⟩
 ·exact absurd (List.eq_nil_of_length_eq_zero Y) X
 ·injection e with e1 e2 e3
  subst e1;subst e3;have A:g<w.heap.size:=(Array.getElem?_eq_some_iff.1 G).1
  have Q:Sort.HoldsK Lab.enc 2 w g 0 l.toArray:=fun j H=>by
   rw[Sort.size_flatK] at H;have I:j<l.length*2:=by simpa using H
   refine⟨?_,cFz G _⟩;rw[Nat.zero_add,cCc G j,<- Array.getElem?_toList,<- List.getElem?_take_of_lt (j:=l.length*2) (by omega),ht,jo7 l j I];show _=some (Sort.flatK Lab.enc 2 l.toArray)[j]!;rw[Sort.get_flatK _ _ _ _ H]
  have C:=AnyQ.slices_SortFunc_small Tryz.sortLab 2 Tryz.isAgg93 Tryz.sizeOf93 Lab.enc (fun _=>rfl) (fun x v m=>jj7 x v m) cfL 71 #[] g 0 c l.toArray w (enters_of Tryz.func71 (by kernel_rfl) rfl) (jmq g 0 _ w) Q A (by simpa using (by omega:l.length<=12)) jul;have M:l.toArray.size=l.length:=List.size_toArray;have R:(jh2 l).length=l.length:=(jh3 l).length_eq;have Z:Sort.insertionSort (ltOf cfL) l.toArray 0 l.toArray.size=(jh2 l).toArray:=by unfold jh2;simp
  rw[Z] at C;rw[show l.toArray.size=l.length from M] at C;refine Calls.mono C ?_;rintro e w' ⟨rfl,n,U,rfl⟩;have O:=size_sortWorldK_c Lab.enc 2 w g 0 n (jh2 l).toArray U;have E:=holdsK_sortWorldK_c Lab.enc 2 w g 0 l.toArray (jh2 l).toArray n U Q A (by simp[R]);refine⟨rfl,⟨⟨R.symm,fun j x T=>⟨g,0,rfl,Nat.lt_of_lt_of_le A O,fun i o=>?_⟩⟩,L,F,(fun e=>by cases e),fun z D _=>by cases D;exact⟨rfl,Nat.lt_of_lt_of_le A O⟩⟩,⟨rfl,rfl,rfl,O,fun k p=>jwQ (by omega) (by omega)⟩,fun z D=>by cases D;exact f⟩;have J:=(List.getElem?_eq_some_iff.1 T).1;have S:j*2+i<(Sort.flatK Lab.enc 2 (jh2 l).toArray).size:=by rw[Sort.size_flatK];simp;omega
  have P:=(E (j*2+i) S).1;rw[Nat.zero_add] at P ⊢;rw[P];show some (Sort.flatK Lab.enc 2 (jh2 l).toArray)[j*2+i]! = _;rw[Sort.get_flatK _ _ _ _ (by simpa using S),show (j*2+i) / 2=j by omega,show (j*2+i) % 2=i by omega]
  have N:(jh2 l).toArray[j]! = x:=by
   rw[getElem!_pos (jh2 l).toArray j (by simpa using J)];have:=(List.getElem?_eq_some_iff.1 T).2;simpa using this
  rw[N];have:i=0\/i=1:=by omega
  rcases this with rfl | rfl<;>rfl
theorem jrP {s:ByteArray} {l:List Lab} (h:jgI s=some l):l≠[]:=by
 unfold jgI at h;split at h
 ·cases B:(jhS .new (rl s 0)).bind jcS with
  | none=>rw[B] at h;cases h
  | some r =>
   rw[B] at h;injection h with h
   obtain⟨C,-,A⟩:=Option.bind_eq_some_iff.1 B;unfold jcS at A
   repeat' split at A
   ·cases A
   ·cases A
   ·injection A with A
    rw[<- h,<- A];simp
 ·cases h
theorem jhb (s:ByteArray) (w:World) (n:s.size<4294967281) (X:GW w):Calls Tryz.prog 41 #[.string s] w (jbt s w):=by
 have N:=jrd s w n X
 have M:jbP s=match jgI s with
  | some l=>if jai (jh2 l) then some (jh2 l) else none
  | none=>none:=rfl
 have A:Hid (∀ e w',jbt s w e w'=(Bw w w'/\match jbP s with
  | some l=>∃ a c,e=.returned (.tuple #[.slice a l.length c,.int .i64 0])/\SlC Lab.enc 2 w'.heap.size w' a l.length c l/\(∀ z,a=some z->w.heap.size<=z.block)/\jcK l/\jai l=true
  | none=>e=.returned (.tuple #[.slice none 0 0,.int .i64 40]))):=fun _ _=>rfl
 unfold jcZ at N;have F:=Lib.hid (fun l (h:jgI s=some l)=>jrP h);generalize jbt s w=Q at A ⊢
 cases T:jgI s with
 | none =>
  rw[T] at N M;rw[M] at A;clear T M F;go_enter Tryz.func41,Tryz.ntmps41
  go_wp2_with (first
   | (go_at_call 68;refine N.mono ?_;rintro e f ⟨B,v1,j,rfl⟩)
   | (go_at_call 69;refine (joP j _).mono ?_;rintro e V ⟨rfl,H⟩))
  rw[A.out];exact⟨B.trans (H.mono B.size),rfl⟩
 | some l =>
  rw[T] at N M;have Z:=F.out l T;rw[M] at A;clear T M F;have d:(jh2 l).length=l.length:=(jh3 l).length_eq;have i:=Lib.hid (fun x (h:x∈jh2 l)=>(jh3 l).mem_iff.1 h);have O:=Lib.hid d;clear d;go_enter Tryz.func41,Tryz.ntmps41;go_wp2_with (go_at_call 68;refine N.mono ?_;rintro e f ⟨B,U,c1,rfl,S,P,Y⟩);refine (juS w.heap.size l U c1 f S Y Z).mono ?_;rintro e V ⟨rfl,G,H,R⟩;have C:Bw w V:=B.trans H;have J:jcK (jh2 l):=fun x o=>by have:=P x (i.out x o);exact⟨by omega,by omega⟩
  have D:=jdY U l.length c1 (jh2 l) V G.1 J (X.below C) (by omega);have E:Hid (∀ L,Bw V L->SlC Lab.enc 2 L.heap.size L U (jh2 l).length c1 (jh2 l)/\Bw w L):=fun L hb=>⟨by rw[O.out];exact G.go hb,C.trans (hb.mono C.size)⟩
  have b:=Lib.hid (And.intro R J);clear G B S R J P X N
  cases hr:jai (jh2 l) with
  | true =>
   rw[hr] at D A;have g:=Lib.hid hr;clear hr;go_wp2_with (go_at_call 73;refine D.mono ?_;rintro e L ⟨rfl,I⟩);rw[A.out,if_pos trivial];obtain⟨k,m⟩:=E.out _ I;exact⟨m,U,c1,by rw[O.out];rfl,k,b.out.1,b.out.2,g.out⟩
  | false =>
   rw[hr] at D A;clear hr;go_wp2_with (go_at_call 73;refine D.mono ?_;rintro e L ⟨rfl,I⟩);rw[A.out,if_neg (by decide)];exact⟨(E.out _ I).2,rfl⟩
theorem jsk (a:Option Addr) (len cap k:Nat) (w:World) (h:k<cap):(Instr.slice 53 (.slice a len cap) (some (.int .i64 (k:Int))) (some (.int .i64 ((k:Int)+1))) none).run Tryz.prog w=.ok (.slice (jcH a cap k 12) 1 (cap-k)) w:=by
 have C:(sizeOf 90).run Tryz.prog w=.ok 12 w:=by kernel_rfl
 have A:Tryz.prog.elem 53=90:=by kernel_rfl
 rw[run_slice_lh (t:=53) (a:=a) (len:=len) (cap:=cap) (w:=w) (ht:=by rw[A];exact jci) (kl:=.i64) (kh:=.i64) (l:=(k:Int)) (h:=(k:Int)+1) (by omega) (by omega) (by omega),A,C];have B:((k:Int)+1).toNat=k+1:=by omega
 simp only[Result.andThen,sliced,Int.toNat_natCast,jcH,B];rw[show k+1-k=1 by omega]
theorem Tab.mid {D:Nat} {w:World} {a:Option Addr} {len cap:Nat} {l:List (Ser × SerP)} (h:Tab D w a len cap l) {k:Nat} {e:Ser × SerP} (B:l[k]? = some e):Tab D w (jcH a cap k 12) 1 (cap-k) [e]:=by
 have F:=(List.getElem?_eq_some_iff.1 B).1;have C:=h.row.1.1;have A:=(h.drop k (by omega)).take 1 (by omega);have E:(l.drop k).take 1=[e]:=by rw[jbB B];rfl
 rw[E] at A;exact A
theorem jnh {x:Ser} (h:jaI x=true):jbs [x]=jaO x:=by
 unfold jbs;have:jaj [x]=true:=by simp[jaj,jdd,h]
 rw[this,if_pos rfl];show jaO x+0=jaO x;omega
def jvH (l:List Ser):Int:=if jaj l then ((vic l).1:Int) else 0
def jvG (l:List Ser):Bool:=jaj l&&(vic l).2.2
theorem jop (l:List (Ser × SerP)) (a:Option Addr) (len cap:Nat) (w:World) (J:Tab w.heap.size w a len cap l) (j:jdl l) (m:GW w) :
  CR 83 #[.slice a len cap] w (.tuple #[.int .i64 (jvH (l.map (·.1))),.bool (jvG (l.map (·.1)))]):=by
 have S:=jaU l a len cap w J j m;have U:=J.row.1.1;subst U;have d:=Lib.hid J;have HF:=Lib.hid j;have HG:=Lib.hid m;have X:l.length<=maxLen:=Nat.le_trans J.row.2.1 J.row.2.2.1;have aa:l.length<=cap:=J.row.2.1;unfold maxLen at X;clear J j m
 cases hr:jaj (l.map (·.1)) with
 | false =>
  rw[hr] at S;have G:Hid (jvH (l.map (·.1))=0/\jvG (l.map (·.1))=false):=by rw[Hid,jvH,jvG,hr];exact⟨rfl,rfl⟩
  generalize jvH (l.map (·.1))=cR at G ⊢;generalize jvG (l.map (·.1))=bR at G ⊢;clear hr;go_enter Tryz.func83,Tryz.ntmps83;go_wp2_with (go_at_call 57;refine S.mono ?_;rintro e w1 ⟨rfl,L⟩);go_ret2;exact⟨by rw[G.out.1,G.out.2];rfl,L⟩
 | true =>
  rw[hr] at S;have HS:=Lib.hid ((jaS _).1 hr).2.1;have ae:l.length<=20:=by have:=((jaS _).1 hr).1;rwa [List.length_map] at this
  have G:Hid (jvH (l.map (·.1))=((vic (l.map (·.1))).1:Int)/\jvG (l.map (·.1))=(vic (l.map (·.1))).2.2):=by rw[Hid,jvH,jvG,hr];exact⟨rfl,rfl⟩
  generalize jvH (l.map (·.1))=cR at G ⊢;generalize jvG (l.map (·.1))=bR at G ⊢;clear hr;go_enter Tryz.func83,Tryz.ntmps83;go_wp2_with (go_at_call 57;refine S.mono ?_;rintro e w1 ⟨rfl,L⟩);clear S;go_loopw [4,5,6,15] (fun v c f i wr=>∃ (k p:Nat) (s:Int) (b:Bool),i=.int .i64 k/\v=.int .i64 p/\c=.int .i64 s/\f=.bool b/\k<=l.length/\Bw w wr/\Hid ((p,s,b)=jfs (l.map (·.1)) k)/\p<=k) (fun _ _ _ i _=>l.length-(intOf i).toNat)
  case atStart=>exact⟨0,0,0,false,rfl,rfl,rfl,rfl,Nat.zero_le _,L,rfl,Nat.le_refl _⟩
  case round =>
   obtain⟨k,q,s,b,rfl,rfl,rfl,rfl,hk,V,g,hq⟩:=hrel;have z:=V.size;by_cases u:k<l.length
   ·obtain⟨⟨x,p⟩,M⟩:∃ x,l[k]? = some x:=⟨_,List.getElem?_eq_getElem u⟩
    have O:Hid (∀ W,Bw w W->Tab W.heap.size W (jcH a cap k 12) 1 (cap-k) [(x,p)]):=fun W T=>((d.out.below T).mono T.size).mid M
    have Y:Hid (jdl [(x,p)]):=fun e he=>by rw[List.mem_singleton] at he;subst he;exact HF.out _ (List.mem_of_getElem? M)
    have y:=fun W=>jsk a l.length cap k W (by omega)
    obtain⟨B,off,rfl,ag,C⟩:=(d.out.below V).row.1.2 k (x,p) M;have c0:wr.cell? ⟨B,off+k*12,none⟩=some (.slice p.la p.ll p.lc):=C 0 (by omega);have c1:wr.cell? ⟨B,off+k*12+1,none⟩=some (.int .i64 x.sk.kind):=C 1 (by omega);have c2:wr.cell? ⟨B,off+k*12+2,none⟩=some (.int .i64 x.sk.level):=C 2 (by omega);have c3:wr.cell? ⟨B,off+k*12+3,none⟩=some (.slice p.ss.ea p.ss.el p.ss.ec):=C 3 (by omega);have c4:wr.cell? ⟨B,off+k*12+4,none⟩=some (.int .i64 x.sk.hb):=C 4 (by omega);have c5:wr.cell? ⟨B,off+k*12+5,none⟩=some (.string x.sk.hr):=C 5 (by omega);have c6:wr.cell? ⟨B,off+k*12+6,none⟩=some (.int .i64 x.sk.cr):=C 6 (by omega);have c7:wr.cell? ⟨B,off+k*12+7,none⟩=some (.int .i64 x.sk.cc):=C 7 (by omega);have c8:wr.cell? ⟨B,off+k*12+8,none⟩=some (.slice p.ss.ca p.ss.cl p.ss.cc):=C 8 (by omega);have c9:wr.cell? ⟨B,off+k*12+9,none⟩=some (.int .i64 x.sk.gf):=C 9 (by omega);have ac:wr.cell? ⟨B,off+k*12+10,none⟩=some (.slice p.ss.ga p.ss.gl p.ss.gc):=C 10 (by omega);have ad:wr.cell? ⟨B,off+k*12+11,none⟩=some (.int .u64 x.seen):=C 11 (by omega);have HX:Hid ((l.map (·.1))[k]? = some x):=by rw[Hid,List.getElem?_map,M];rfl
    have Q:Hid (jbs [x]=jaO x):=jnh (HS.out x (List.mem_of_getElem? HX.out));have P:Hid (0<=jaO x/\jaO x<=220000000000):=jfZ (d.out.at_ _ (List.mem_of_getElem? M)) (HF.out _ (List.mem_of_getElem? M));obtain⟨W1,af,n,h,ah⟩:=jab wr #[.slice p.la p.ll p.lc,.int .i64 x.sk.kind,.int .i64 x.sk.level,.slice p.ss.ea p.ss.el p.ss.ec,.int .i64 x.sk.hb,.string x.sk.hr,.int .i64 x.sk.cr,.int .i64 x.sk.cc,.slice p.ss.ca p.ss.cl p.ss.cc,.int .i64 x.sk.gf,.slice p.ss.ga p.ss.gl p.ss.gc,.int .u64 x.seen] 90;obtain⟨r0,r1,r2,r3,r4,r5,r6,r7,r8,r9,ai,aj⟩:=jkX n;have H:Bw w W1:=V.trans (h.mono z);have I:Hid (∀ w,Calls Tryz.prog 87 #[.int .i64 x.sk.kind] w fun e w'=>e=.returned (.int .i64 (jaH x.sk.kind))/\w'=w):=fun w=>(jdy x.sk.kind w).mono fun e w' ⟨h1,h2⟩=>⟨h1,h2.symm⟩
    have R:=Lib.hid (jjj HX.out);have o : -1<=jaH x.sk.kind/\jaH x.sk.kind<=4:=by unfold jaH;repeat' split;all_goals omega
    have Z:Hid (jcO x=decide (x.sk.level<jaH x.sk.kind)):=rfl;generalize jaH x.sk.kind=bt at I Z o;clear C M;by_cases X:x.sk.level<bt
    case neg =>
     have E:Hid ((q,s,b)=jfs (l.map (·.1)) (k+1)):=by rw[Hid,R.out,<- g.out,jgv,Z.out,decide_eq_false X];rfl
     go_wp2_with fail;go_quiet ((go_at_call 87;exact Calls.quiet_of_same (I.out _)));go_wp2_with fail
     all_goals go_roundw
     case rel=>exact⟨k+1,q,s,b,by go_num,rfl,rfl,rfl,by omega,H.trans ((jdV nq).mono H.size),E.out,by omega⟩
     case measure=>simp[intOf];omega
    case pos =>
     have F:Hid (∀ W,Bw w W->CR 32 #[.slice (jcH (some ⟨B,off,none⟩) cap k 12) 1 (cap-k)] W (.int .i64 (jaO x))):=fun W T=>by
      have:=jdc _ _ _ _ W (O.out W T) Y.out (HG.out.below T);rw[show ([(x,p)]:List (Ser × SerP)).map (·.1)=[x] from rfl,Q.out] at this;exact this
     have E:Hid (jfs (l.map (·.1)) (k+1)=if (!b||decide (s<jaO x))=true then (k,jaO x,true) else (q,s,b)):=by
      rw[Hid,R.out,<- g.out,jgv,Z.out,decide_eq_true X];rfl
     obtain⟨r,t⟩:=P.out;generalize jaO x=sc at F E r t;clear P Q O;go_wp2_with fail;go_quiet ((go_at_call 87;exact Calls.quiet_of_same (I.out _)));have ab:=y (W1.drewN nq);have A:=H.trans ((jdV nq).mono H.size)
     cases b with
     | false =>
      have N:Hid ((k,sc,true)=jfs (l.map (·.1)) (k+1)):=by rw[Hid,E.out];rfl
      go_wp2_with (go_at_call 32;refine (F.out _ A).mono ?_;rintro e w3 ⟨rfl,D⟩)
      all_goals go_roundw
      case rel=>exact⟨k+1,k,sc,true,by go_num,rfl,rfl,rfl,by omega,A.trans (D.mono A.size),N.out,by omega⟩
      case measure=>simp[intOf];omega
     | true =>
      by_cases hg:s<sc
      ·have N:Hid ((k,sc,true)=jfs (l.map (·.1)) (k+1)):=by rw[Hid,E.out,decide_eq_true hg];rfl
       go_wp2_with (go_at_call 32;refine (F.out _ A).mono ?_;rintro e w3 ⟨rfl,D⟩)
       all_goals go_roundw
       case rel=>exact⟨k+1,k,sc,true,by go_num,rfl,rfl,rfl,by omega,A.trans (D.mono A.size),N.out,by omega⟩
       case measure=>simp[intOf];omega
      ·have N:Hid ((q,s,true)=jfs (l.map (·.1)) (k+1)):=by rw[Hid,E.out,decide_eq_false hg];rfl
       go_wp2_with (go_at_call 32;refine (F.out _ A).mono ?_;rintro e w3 ⟨rfl,D⟩)
       all_goals go_roundw
       case rel=>exact⟨k+1,q,s,true,by go_num,rfl,rfl,rfl,by omega,A.trans (D.mono A.size),N.out,by omega⟩
       case measure=>simp[intOf];omega
   ·obtain rfl:k=l.length:=by omega
    have E:Hid (cR=(q:Int)/\bR=b):=by
     have e:vic (l.map (·.1))=(q,s,b):=by rw[g.out,vic,List.length_map]
     rw[Hid,G.out.1,G.out.2,e];exact⟨rfl,rfl⟩
    go_wp2_with fail;go_ret2;exact⟨by rw[E.out.1,E.out.2];rfl,V⟩
section
section
variable {w:World} {base e size n c g:Nat} {xs:List Value}
theorem jaA (h:w.ownsRow base e size (.slice (some ⟨g,0,none⟩) n c) n xs) {j:Nat} {u:Value} (C:xs[j]? = some u):w.cell? ⟨g,j,none⟩=some u:=by
 have A:=h.cells (g:=g) rfl j u C;have B:(⟨g,0,none⟩:Addr).add j=⟨g,j,none⟩:=by unfold Addr.add;split<;>simp_all
 rw[B] at A;exact A
theorem jgk (h:w.ownsRow base e size (.slice (some ⟨g,0,none⟩) n c) n xs):base<=g/\∃ A,w.heap[g]? = some (.cells A e (0,0))/\n<=c/\c<=maxLen/\A.size=c*size/\A.toList.take (n*size)=xs:=by
 rcases h.2 with⟨B,_⟩ | ⟨I,cap,A,B,C,D,E,F,G,H⟩
 ·cases B
 ·injection B with e1 e2 e3
  injection e1 with e1
  injection e1 with e1
  subst e1;subst e3;exact⟨C,A,D,E,F,G,H⟩
theorem jaT (h:w.ownsRow base e size (.slice (some ⟨g,0,none⟩) n c) n xs) (j:Nat):w.frozen? ⟨g,j,none⟩=false:=by
 obtain⟨-,A,B,-⟩:=jgk h;exact cFz B j
theorem jlB (h:w.ownsRow base e size (.slice (some ⟨g,0,none⟩) n c) n xs):g<w.heap.size:=by
 obtain⟨-,A,B,-⟩:=jgk h;exact (Array.getElem?_eq_some_iff.1 B).1
theorem jwH (h:w.ownsRow base e size (.slice (some ⟨g,0,none⟩) n c) n xs) (i:Nat) (v:Value):(w.setCell ⟨g,i,none⟩ v).ownsRow base e size (.slice (some ⟨g,0,none⟩) n c) n (xs.set i v):=by
 obtain⟨B,A,C,D,E,F,G⟩:=jgk h;refine⟨by rw[List.length_set];exact h.1,.inr ⟨g,c,A.setIfInBounds i v,rfl,B,hSk C v,D,E,by rw[Array.size_setIfInBounds];exact F,?_⟩⟩;rw[Array.toList_setIfInBounds,List.take_set,G]
end
end
theorem jt3 {m:List (Ser × SerP)} {k i:Nat} {e B:Ser × SerP} {v:Value} (A:m[k]? = some e) (C:i<12) (D:ja0 B=(ja0 e).set i v):(m.set k B).flatMap ja0=(m.flatMap ja0).set (k*12+i) v:=by
 induction m generalizing k with
 | nil=>simp at A
 | cons y r ih =>
  cases k with
  | zero =>
   simp only[List.getElem?_cons_zero,Option.some.injEq] at A;subst A;rw[List.set_cons_zero,List.flatMap_cons,List.flatMap_cons,D,Nat.zero_mul,Nat.zero_add,List.set_append_left _ _ (by rw[jcY];exact C)]
  | succ k =>
   rw[List.getElem?_cons_succ] at A;rw[List.set_cons_succ,List.flatMap_cons,List.flatMap_cons,ih A,List.set_append_right _ _ (by rw[jcY];omega),jcY];congr 2;omega
theorem jaN {m:List (Ser × SerP)} {k i:Nat} {e:Ser × SerP} (A:m[k]? = some e) (B:i<12):(m.flatMap ja0)[k*12+i]? = (ja0 e)[i]? := jcC ja0 12 jcY m k i e A B
theorem joN (a:Option Addr) (n c:Nat) (w:World):(binOp .eql 53 (.slice a n c) (.slice none 0 0)).run Tryz.prog w=.ok (.bool a.isNone) w:=Lib.run_eql_slice_nil w _ _ a n c 0 0 jci
theorem jqr (a:Option Addr) (len cap:Nat) (l:List (Ser × SerP)) (w:World) (E:SlE ja0 12 w.heap.size w a len l) (J:len<2147483648) :
  Calls Tryz.prog 124 #[.slice a len cap] w fun e w'=>∃ v,e=.returned v/\w'.ownsRow w.heap.size 90 12 v l.length (l.flatMap ja0)/\Bw w w':=by
 have N:=joN a len cap;have B:=E.1
 cases a with
 | none =>
  have I:l=[]:=by
   cases l with
   | nil=>rfl
   | cons y ys=>obtain⟨b,off,e,_⟩:=E.2 0 y rfl;cases e
  subst I;obtain rfl:len=0:=B;clear E;go_enter Tryz.func124,Tryz.ntmps124;go_wp2_with fail;go_ret;exact⟨_,rfl,World.ownsRow_nil _ _ _ _,Below.refl _ _⟩
 | some a =>
  have D:Bw w (w.alloc (.cells #[] 90)):=(Below.refl _ w).alloc (Nat.le_refl _) _;have C:(w.alloc (.cells #[] 90)).ownsRow w.heap.size 90 12 (.slice (some ⟨w.heap.size,0,none⟩) 0 0) 0 []:=⟨rfl,.inr ⟨w.heap.size,0,#[],rfl,Nat.le_refl _,World.alloc_heap_new _ _,Nat.le_refl _,by unfold maxLen;omega,rfl,rfl⟩⟩;have F:=E.go D;obtain⟨v4,O,G,A,H,M,-,-⟩:=jbu Tryz.prog (cap:=cap) 53 jci jc4 rfl (by decide) C D (Nat.le_refl _) (by simp) jcY F je1 (by omega) J (by decide);rw[Nat.zero_add,List.nil_append,B] at A;have L:=Lib.hid A;clear E F C A B;go_enter Tryz.func124,Tryz.ntmps124;go_wp2_with (at_builtin;refine ja6 rfl _ _ _ rfl rfl rfl G ?_);go_ret;exact⟨_,rfl,L.out,H⟩
theorem ja4 {W:World} {A n c g k i:Nat} {m:List (Ser × SerP)} {e:Ser × SerP} (B:Ser × SerP) (v:Value) (D:W.ownsRow A 90 12 (.slice (some ⟨g,0,none⟩) n c) n (m.flatMap ja0)) (C:m[k]? = some e) (E:i<12) (G:ja0 B=(ja0 e).set i v) :
  ∃ V,W.setCell ⟨g,k*12+i,none⟩ v=V/\V.ownsRow A 90 12 (.slice (some ⟨g,0,none⟩) n c) n ((m.set k B).flatMap ja0)/\Apart g W V/\(∀ n w0,n<=g->Below n w0 W->Below n w0 V)/\V.heap.size<=W.heap.size/\W.heap.size<=V.heap.size/\(m.set k B)[k]? = some B:=by
 refine⟨_,rfl,?_,Apart.set _ v,fun _ _ F hb=>hb.setCell (p:=⟨g,k*12+i,none⟩) F v,Nat.le_of_eq (World.size_setCell ..),Nat.le_of_eq (World.size_setCell ..).symm,?_⟩
 ·rw[jt3 C E G]
  exact jwH D _ v
 ·rw[List.getElem?_set,if_pos rfl,if_pos (List.getElem?_eq_some_iff.1 C).1]
structure CopyAt (w:World) (l:List (Ser × SerP)) (v:Value) (k:Nat) (W:World) (m:List (Ser × SerP)):Prop where
 own:W.ownsRow w.heap.size 90 12 v l.length (m.flatMap ja0)
 keep:m.map (·.1)=l.map (·.1)
 new:∀ j e,j<k->m[j]? = some e->e.2.At W.heap.size W e.1/\e.2.Off (fun b=>w.heap.size<=b/\some b≠v.ownBlock)
 old:∀ j,k<=j->m[j]? = l[j]?
 below:Bw w W
theorem CopyAt.len {w W:World} {l m:List (Ser × SerP)} {v:Value} {k:Nat} (h:CopyAt w l v k W m):m.length=l.length:=by
 have:=congrArg List.length h.keep;simpa using this
theorem CopyAt.grow {w W:World} {l m:List (Ser × SerP)} {v:Value} {k:Nat} (h:CopyAt w l v k W m) (D:l.length<=k):GrowS w.heap.size (w.heap.size <= ·) W v m:=by
 have C:=h.len;refine⟨by rw[C];exact h.own,fun e B=>?_,fun e B=>?_⟩
 ·obtain⟨i,A⟩:=List.mem_iff_getElem?.1 B
  exact (h.new i e (by have:=(List.getElem?_eq_some_iff.1 A).1;omega) A).1
 ·obtain⟨i,A⟩:=List.mem_iff_getElem?.1 B
  exact (h.new i e (by have:=(List.getElem?_eq_some_iff.1 A).1;omega) A).2
theorem CopyAt.step {w W V:World} {l m:List (Ser × SerP)} {g c k:Nat} {x:Ser} {p D:SerP} (h:CopyAt w l (.slice (some ⟨g,0,none⟩) l.length c) k W m) (H:l[k]? = some (x,p)) (L:V.ownsRow w.heap.size 90 12 (.slice (some ⟨g,0,none⟩) l.length c) l.length ((m.set k (x,D)).flatMap ja0))
  (G:Apart g W V) (O:D.At V.heap.size V x) (N:D.Off (fun b=>w.heap.size<=b/\b≠g)) (J:Bw w V):CopyAt w l (.slice (some ⟨g,0,none⟩) l.length c) (k+1) V (m.set k (x,D)):=by
 have C:=(List.getElem?_eq_some_iff.1 H).1;have E:m[k]? = some (x,p):=(h.old k (Nat.le_refl _)).trans H;refine⟨L,?_,fun j e M B=>?_,fun j M=>?_,J⟩
 ·rw[List.map_set,<- h.keep]
  apply List.ext_getElem?;intro j;rw[List.getElem?_set];by_cases A:k=j
  ·subst A
   rw[if_pos rfl,if_pos (by rw[List.length_map,h.len];exact C),List.getElem?_map,E];rfl
  ·rw[if_neg A]
 ·rw[List.getElem?_set] at B
  by_cases A:k=j
  ·subst A
   rw[if_pos rfl,if_pos (by rw[h.len];exact C)] at B
   cases B
   exact⟨O,N.imp fun b hb=>⟨hb.1,fun e=>hb.2 (by injection e)⟩⟩
  ·rw[if_neg A] at B
   obtain⟨I,F⟩:=h.new j e (by omega) B;exact⟨(I.frame (F.imp (r:=(· ≠ g)) fun b hb e=>hb.2 (by rw[e];rfl)) G.2).mono G.1,F⟩
 ·rw[List.getElem?_set,if_neg (by omega)]
  exact h.old j (by omega)
theorem joH (l:List (Ser × SerP)) (a:Option Addr) (len cap:Nat) (w:World) (hT:Tab w.heap.size w a len cap l) (hA:jfw l) (hn:l.length<2147483648) :
  Calls Tryz.prog 82 #[.slice a len cap] w fun e w'=>∃ v m,e=.returned v/\GrowS w.heap.size (w.heap.size <= ·) w' v m/\m.map (·.1)=l.map (·.1)/\Bw w w':=by
 have aN:=hT.row.1.1;subst aN;have HT:=Lib.hid hT;have HA:=Lib.hid hA;have HC:=Lib.hid (jqr a l.length cap l w hT.row.1 (by omega));clear hT hA;go_enter Tryz.func82,Tryz.ntmps82;go_wp2_with (go_at_call 124;refine HC.out.mono ?_;rintro e w1 ⟨v,rfl,n,a3⟩;obtain⟨va,vc,rfl⟩:=jbD n);have aV:=Lib.hid n;clear n;go_loopw [10] (fun i wr=>∃ (k:Nat) (m:List (Ser × SerP)),i=.int .i64 k/\k<=l.length/\Hid (CopyAt w l (.slice va l.length vc) k wr m)) (fun i _=>l.length-(intOf i).toNat)
 case atStart=>exact⟨0,l,rfl,Nat.zero_le _,aV.out,rfl,(fun j e h=>by omega),(fun _ _=>rfl),a3⟩
 case round =>
  obtain⟨k,m,rfl,hk,HM⟩:=hrel;by_cases a4:k<l.length
  ·obtain⟨⟨x,p⟩,hx⟩:∃ x,l[k]? = some x:=⟨_,List.getElem?_eq_getElem a4⟩
   obtain⟨g,rfl⟩:∃ g,va=some ⟨g,0,none⟩:=by
    rcases HM.out.own.2 with⟨Z,h2⟩ | ⟨g,cap,a9,Z,_⟩
    ·omega
    ·injection Z with Z
     exact⟨g,Z⟩
   have aj:m[k]? = some (x,p):=(HM.out.old k (Nat.le_refl _)).trans hx;have HO:=Lib.hid HM.out.own;have HB:=Lib.hid HM.out.below;have aa:=(jgk HO.out).1;have be:=jlB HO.out;have aO:=HB.out.size;have HP:Hid (p.At wr.heap.size wr x):=((HT.out.at_ _ (List.mem_of_getElem? hx)).below HB.out).mono aO;have aZ:Hid (p.Off (· < w.heap.size)):=(HT.out.at_ _ (List.mem_of_getElem? hx)).off;have R:Hid (p.Off (· ≠ g)):=aZ.out.imp (fun b hb=>by omega);have o:=Lib.hid (HA.out _ (List.mem_of_getElem? hx));have HX:=Lib.hid hx;have aw:=Lib.hid aj;have c0:wr.cell? ⟨g,k*12,none⟩=some (.slice p.la p.ll p.lc):=jaA HO.out (jaN (i:=0) aj (by decide));clear hx aj;go_wp2_with fail;refine (jqq p.la p.ll p.lc x.l _ HP.out.l.1 o.out.1).mono ?_;rintro e w2 ⟨A,C,rfl,aJ,I,M⟩;have ba:=M.size;have S:Hid (w2.ownsRow w.heap.size 90 12 (.slice (some ⟨g,0,none⟩) l.length vc) l.length (m.flatMap ja0)):=jd3 HO.out M;have f2:w2.frozen? ⟨g,k*12,none⟩=false:=jaT S.out _;obtain⟨Y,ae,t,D,aE,bf,bj,ag⟩:=ja4 (i:=0) (x,(⟨A,p.ll,C,p.ss⟩:SerP)) (.slice A p.ll C) S.out aw.out (by decide) rfl;replace ae:w2.setCell ⟨g,k*12,none⟩ (.slice A p.ll C)=Y:=ae;have d2:w2.cell? ⟨g,k*12,none⟩=some (.slice p.la p.ll p.lc):=jaA S.out (jaN (i:=0) aw.out (by decide));have aB:Bw w Y:=aE _ _ aa (HB.out.trans (M.mono aO));have aX:Hid (SlC jaF 1 Y.heap.size Y p.ss.ea p.ss.el p.ss.ec x.sk.e):=((HP.out.go M).s.e).apart (R.out.e) D;have aW:Hid (SlC jaF 1 Y.heap.size Y p.ss.ca p.ss.cl p.ss.cc x.sk.cl):=((HP.out.go M).s.c).apart (R.out.c) D
   have aY:Hid (SlC jb4 2 Y.heap.size Y p.ss.ga p.ss.gl p.ss.gc x.sk.gl):=((HP.out.go M).s.g).apart (R.out.g) D;have aS:Hid (SlC Lab.enc 2 Y.heap.size Y A p.ll C x.l):=aJ.apart (fun z H _=>by have:=I z H;omega) D;have S:=Lib.hid t;have ar:=Lib.hid ag;have ak:=Lib.hid ((Apart.of_below (B:=g) M).trans D);have c3:Y.cell? ⟨g,k*12+3,none⟩=some (.slice p.ss.ea p.ss.el p.ss.ec):=jaA t (jaN (i:=3) ag (by decide));have a6:=jlB t;clear aJ t ag D c0;go_wp2_with fail;refine (jbM p.ss.ea p.ss.el p.ss.ec x.sk.e Y aX.out.1 o.out.2.1).mono ?_;rintro e w3 ⟨J,L,rfl,aK,Q,N⟩;have bb:=N.size;have T:=Lib.hid (jd3 S.out N);have f3:w3.frozen? ⟨g,k*12+3,none⟩=false:=jaT T.out _;obtain⟨d,a2,u,E,aF,bg,bk,ah⟩:=ja4 (i:=3) (x,(⟨A,p.ll,C,{ p.ss with ea:=J,ec:=L }⟩:SerP)) (.slice J p.ss.el L) T.out ar.out (by decide) rfl;have d3:w3.cell? ⟨g,k*12+3,none⟩=some (.slice p.ss.ea p.ss.el p.ss.ec):=jaA T.out (jaN (i:=3) ar.out (by decide));have aC:Bw w d:=aF _ _ aa (aB.trans (N.mono aB.size));have ax:Hid (SlC jaF 1 d.heap.size d p.ss.ca p.ss.cl p.ss.cc x.sk.cl):=(aW.out.go N).apart (R.out.c) E;have ay:Hid (SlC jb4 2 d.heap.size d p.ss.ga p.ss.gl p.ss.gc x.sk.gl):=(aY.out.go N).apart (R.out.g) E;have aT:Hid (SlC Lab.enc 2 d.heap.size d A p.ll C x.l):=(aS.out.go N).apart (fun z H _=>by have:=I z H;omega) E;have aQ:Hid (SlC jaF 1 d.heap.size d J p.ss.el L x.sk.e):=aK.apart (fun z H _=>by have:=Q z H;omega) E;have T:=Lib.hid u;have au:=Lib.hid ah;have al:=Lib.hid ((ak.out.trans (Apart.of_below (B:=g) N)).trans E)
   have c8:d.cell? ⟨g,k*12+8,none⟩=some (.slice p.ss.ca p.ss.cl p.ss.cc):=jaA u (jaN (i:=8) ah (by decide));have a7:=jlB u;clear aK u ah E c3 ae f2 S d2;go_wp2_with fail;refine (jbM p.ss.ca p.ss.cl p.ss.cc x.sk.cl d ax.out.1 o.out.2.2.1).mono ?_;rintro e w4 ⟨V,X,rfl,aL,f,O⟩;have bc:=O.size;have U:=Lib.hid (jd3 T.out O);have f4:w4.frozen? ⟨g,k*12+8,none⟩=false:=jaT U.out _;obtain⟨V4,af,y,F,aG,bh,bl,ai⟩:=ja4 (i:=8) (x,(⟨A,p.ll,C,{ p.ss with ea:=J,ec:=L,ca:=V,cc:=X }⟩:SerP)) (.slice V p.ss.cl X) U.out au.out (by decide) rfl;replace af:w4.setCell ⟨g,k*12+1+5+2,none⟩ (.slice V p.ss.cl X)=V4:=af;replace f4:w4.frozen? ⟨g,k*12+1+5+2,none⟩=false:=f4;have d4:w4.cell? ⟨g,k*12+1+5+2,none⟩=some (.slice p.ss.ca p.ss.cl p.ss.cc):=jaA U.out (jaN (i:=8) au.out (by decide));have aD:Bw w V4:=aG _ _ aa (aC.trans (O.mono aC.size));have az:Hid (SlC jb4 2 V4.heap.size V4 p.ss.ga p.ss.gl p.ss.gc x.sk.gl):=(ay.out.go O).apart (R.out.g) F;have aU:Hid (SlC Lab.enc 2 V4.heap.size V4 A p.ll C x.l):=(aT.out.go O).apart (fun z H _=>by have:=I z H;omega) F;have aR:Hid (SlC jaF 1 V4.heap.size V4 J p.ss.el L x.sk.e):=(aQ.out.go O).apart (fun z H _=>by have:=Q z H;omega) F;have aP:Hid (SlC jaF 1 V4.heap.size V4 V p.ss.cl X x.sk.cl):=aL.apart (fun z H _=>by have:=f z H;omega) F;have U:=Lib.hid y;have av:=Lib.hid ai;have am:=Lib.hid ((al.out.trans (Apart.of_below (B:=g) O)).trans F);have a0:V4.cell? ⟨g,k*12+10,none⟩=some (.slice p.ss.ga p.ss.gl p.ss.gc):=jaA y (jaN (i:=10) ai (by decide));have a8:=jlB y
   clear aL y ai F c8 a2 f3 T d3;go_wp2_with fail;refine (jeq p.ss.ga p.ss.gl p.ss.gc x.sk.gl V4 az.out.1 o.out.2.2.2).mono ?_;rintro e w5 ⟨q,r,rfl,aM,ab,P⟩;have bd:=P.size;have ac:=Lib.hid (jd3 U.out P);have f5:w5.frozen? ⟨g,k*12+10,none⟩=false:=jaT ac.out _;obtain⟨V5,aI,ad,G,aH,bi,bm,a5⟩:=ja4 (i:=10) (x,(⟨A,p.ll,C,⟨J,p.ss.el,L,V,p.ss.cl,X,q,p.ss.gl,r⟩⟩:SerP)) (.slice q p.ss.gl r) ac.out av.out (by decide) rfl;replace aI:w5.setCell ⟨g,k*12+1+8+1,none⟩ (.slice q p.ss.gl r)=V5:=aI;replace f5:w5.frozen? ⟨g,k*12+1+8+1,none⟩=false:=f5;have d5:w5.cell? ⟨g,k*12+1+8+1,none⟩=some (.slice p.ss.ga p.ss.gl p.ss.gc):=jaA ac.out (jaN (i:=10) av.out (by decide));have a1:Bw w V5:=aH _ _ aa (aD.trans (P.mono aD.size));have aq:=(aU.out.go P).apart (fun z H _=>by have:=I z H;omega) G;have ao:=(aR.out.go P).apart (fun z H _=>by have:=Q z H;omega) G;have an:=(aP.out.go P).apart (fun z H _=>by have:=f z H;omega) G;have ap:=aM.apart (fun z H _=>by have:=ab z H;omega) G;have aA:=(am.out.trans (Apart.of_below (B:=g) P)).trans G;simp only[List.set_set] at ad
   have FI:Hid (CopyAt w l (.slice (some ⟨g,0,none⟩) l.length vc) (k+1) V5 (m.set k (x,⟨A,p.ll,C,⟨J,p.ss.el,L,V,p.ss.cl,X,q,p.ss.gl,r⟩⟩))) :=
    HM.out.step HX.out ad aA ⟨aq,ao,an,ap⟩ ⟨fun z Z _=>by have:=I z Z;omega,fun z Z _=>by have:=Q z Z;omega,fun z Z _=>by have:=f z Z;omega,fun z Z _=>by have:=ab z Z;omega⟩ a1
   clear aM ad a5 G aA aq ao an ap a0 af f4 d4 U;go_wp2_with fail;go_roundw
   case rel=>exact⟨k+1,_,by go_num,by omega,FI.out⟩
   case measure=>simp[intOf];omega
  ·have H9:=Lib.hid (HM.out.grow (by omega))
   have H8:=Lib.hid HM.out.keep;have HB:=Lib.hid HM.out.below;go_wp2_with fail;go_ret;exact⟨_,rfl,m,H9.out,H8.out,HB.out⟩
theorem OnlyAt.trans {b:Nat} {W V U:World} (A:OnlyAt b W V) (B:OnlyAt b V U):OnlyAt b W U:=⟨B.1.trans A.1,fun k C=>(B.2 k C).trans (A.2 k C)⟩
theorem jag {W:World} {B i:Nat} {c:Array Value} {t:TypeId} {F:Nat × Nat} {v:Value} (h:W.heap[B]? = some (.cells c t F)) (H:c[i]? = some v):W.setCell ⟨B,i,none⟩ v=W:=by
 have G:c.setIfInBounds i v=c:=by
  obtain⟨I,rfl⟩:=Array.getElem?_eq_some_iff.1 H;apply Array.ext (by simp);intro j C D;rw[Array.getElem_setIfInBounds];split
  ·rename_i e;subst e;rfl
  ·rfl
 have key:(W.setCell ⟨B,i,none⟩ v).heap=W.heap:=by
  apply Array.ext (jbR W _ v);intro j C D
  have A:(W.setCell ⟨B,i,none⟩ v).heap[j]? = W.heap[j]? := by
   by_cases E:B=j
   ·subst E
    rw[hSk h,h,G]
   ·exact jaa (p:=⟨B,i,none⟩) E v
  rw[Array.getElem?_eq_getElem C,Array.getElem?_eq_getElem D] at A;exact Option.some.inj A
 have e:W.setCell ⟨B,i,none⟩ v = { W with heap:=(W.setCell ⟨B,i,none⟩ v).heap }:=rfl;rw[e,key]
theorem jxL {W:World} {b:Nat} {t:TypeId} {A:Nat × Nat} (h:W.heap[b]? = some (.cells zsV t A)):W.setCell ⟨b,0,none⟩ (.int .i64 0)=W/\W.setCell ⟨b,1,none⟩ (.int .i64 0)=W/\W.setCell ⟨b,2,none⟩ (.slice none 0 0)=W/\W.setCell ⟨b,3,none⟩ (.int .i64 0)=W/\W.setCell ⟨b,4,none⟩ (.string ⟨#[]⟩)=W/\W.setCell ⟨b,5,none⟩ (.int .i64 0)=W/\W.setCell ⟨b,6,none⟩ (.int .i64 0)=W/\W.setCell ⟨b,7,none⟩ (.slice none 0 0)=W/\W.setCell ⟨b,8,none⟩ (.int .i64 0)=W/\W.setCell ⟨b,9,none⟩ (.slice none 0 0)=W:=⟨jag h rfl,jag h rfl,jag h rfl,jag h rfl,jag h rfl,jag h rfl,jag h rfl,jag h rfl,jag h rfl,jag h rfl⟩
theorem jb3 {W:World} {b:Nat} {x y z:Value} (u v q:Value) {t:TypeId} (h:W.heap[b]? = some (.cells #[x,y,z] t (0,0))):∃ V,((W.setCell ⟨b,0,none⟩ u).setCell ⟨b,1,none⟩ v).setCell ⟨b,2,none⟩ q=V/\V.heap[b]? = some (.cells #[u,v,q] t (0,0))/\OnlyAt b W V/\∀ n w0,Below n w0 W->n<=b->Below n w0 V :=
 ⟨_,rfl,jcs h,(((OnlyAt.refl _ _).set _ _).set _ _).set _ _,fun _ _ B A=>((B.setCell (p:=⟨b,0,none⟩) A _).setCell (p:=⟨b,1,none⟩) A _).setCell (p:=⟨b,2,none⟩) A _⟩
theorem ja9 {W:World} {b:Nat} {C D E F G H I J L M:Value} (v0 v1 v2 v3 v4 v5 v6 v7 v8 v9:Value) {t:TypeId} (h:W.heap[b]? = some (.cells #[C,D,E,F,G,H,I,J,L,M] t (0,0))) :
  ∃ V,(((((((((W.setCell ⟨b,0,none⟩ v0).setCell ⟨b,1,none⟩ v1).setCell ⟨b,2,none⟩ v2).setCell ⟨b,3,none⟩ v3).setCell ⟨b,4,none⟩ v4).setCell ⟨b,5,none⟩ v5).setCell ⟨b,6,none⟩ v6).setCell ⟨b,7,none⟩ v7).setCell ⟨b,8,none⟩ v8).setCell ⟨b,9,none⟩ v9=V /\
   V.heap[b]? = some (.cells #[v0,v1,v2,v3,v4,v5,v6,v7,v8,v9] t (0,0))/\OnlyAt b W V/\∀ n w0,Below n w0 W->n<=b->Below n w0 V :=
 ⟨_,rfl,jwM h,((((((((((OnlyAt.refl _ _).set _ _).set _ _).set _ _).set _ _).set _ _).set _ _).set _ _).set _ _).set _ _).set _ _,
  fun _ _ B A=>(((((((((B.setCell (p:=⟨b,0,none⟩) A _).setCell (p:=⟨b,1,none⟩) A _).setCell (p:=⟨b,2,none⟩) A _).setCell (p:=⟨b,3,none⟩) A _).setCell (p:=⟨b,4,none⟩) A _).setCell (p:=⟨b,5,none⟩) A _).setCell (p:=⟨b,6,none⟩) A _).setCell (p:=⟨b,7,none⟩) A _).setCell (p:=⟨b,8,none⟩) A _).setCell (p:=⟨b,9,none⟩) A _⟩
theorem BdAt.set_work {W V:World} {v:Value} {B:Bd} {b:Nat} {x y z:Value} {t:TypeId} (h:BdAt W v B) (C:W.heap[b]? = some (.cells #[x,y,z] t (0,0))) (D:∀ u,x≠.int .u64 u) (E:∀ u,y≠.int .u64 u) (F:∀ u,z≠.int .u64 u) (A:OnlyAt b W V):BdAt V v B :=
 h.apart C (fun _ u=>jvs D E F u) A
theorem SkB.apart {W V:World} {v:Value} {k L:Nat} {B:Bd} (h:SkB W v k L B) {b:Nat} {F:Array Value} {t:TypeId} (D:W.heap[b]? = some (.cells F t (0,0))) (E:∀ (i:Nat) (u:Int),F[i]? ≠ some (Value.int .u64 u)) (C:OnlyAt b W V):SkB V v k L B:=by
 obtain⟨y,s,G,H,A⟩:=h;exact⟨y,s,G,H,ja5 (i0:=0) (by decide) (fun x=>⟨x,rfl⟩) D E C A.e,ja5 (i0:=0) (by decide) (fun x=>⟨x,rfl⟩) D E C A.c,ja5 (i0:=1) (by decide) (fun x=>⟨x.2,rfl⟩) D E C A.g⟩
theorem jvr (x:Sk) (s:SS) {i:Nat} (u:Int):((skv x s):Array Value)[i]? ≠ some (.int .u64 u):=by
 intro h;rcases i with _ | _ | _ | _ | _ | _ | _ | _ | _ | _ | i<;>simp at h
theorem jcd {i:Nat} (u:Int):(zsV:Array Value)[i]? ≠ some (.int .u64 u):=by
 intro h;rcases i with _ | _ | _ | _ | _ | _ | _ | _ | _ | _ | i<;>simp at h
theorem joc (v:Value) (B:Bd) (kind level:Nat) (w:World) (hb:BdAt w v B) (L:B.Ok kind level) :
  Calls Tryz.prog 78 #[.agg #[v,.int .i64 kind,.int .i64 level],.nilIface] w fun e w'=>∃ x,e=.returned (.tuple #[x,.int .i64 0])/\SkB w' x kind level B/\Bw w w':=by
 obtain⟨T,o,rfl⟩:=jaD hb;obtain⟨Z,a,I,J,E,b⟩:=jas w #[.iface T o,.int .i64 kind,.int .i64 level] 117 zsV 44;obtain⟨q,c1,c2⟩:=cl3 I;have U:=Lib.hid (jsj (w:=Z) L (hb.go E));have N:=Lib.hid J;have G:=Lib.hid E;clear I J E hb L;go_enter Tryz.func78,Tryz.ntmps78;go_wp2_with fail;refine U.out.mono ?_;rintro e p ⟨x,rfl,⟨y,s,R,rfl,Q⟩,F⟩;have A:=known F (Nat.le_refl _) N.out;have Y:=Lib.hid R;clear R;obtain⟨r0,r1,r2,r3,r4,r5,r6,r7,r8,r9⟩:=jbg A;obtain⟨r,t,z,g3,g4,g5,g6,g7,g8,g9⟩:=jft A;obtain⟨V,hV,H,D,C⟩:=ja9 (.int .i64 y.kind) (.int .i64 y.level) (.slice s.ea s.el s.ec) (.int .i64 y.hb) (.string y.hr) (.int .i64 y.cr) (.int .i64 y.cc) (.slice s.ca s.cl s.cc) (.int .i64 y.gf) (.slice s.ga s.gl s.gc) A;have M:=Lib.hid A;have X:=Lib.hid (And.intro D C);have S:=Lib.hid Q;have O:=Lib.hid F;obtain⟨c,d,f,g,h,j,k,l,m,n⟩:=jbg H;clear A D C Q F H;go_wp2_with fail;obtain⟨D,C⟩:=X.out;have P:SkB p (.agg (skv y s)) kind level B:=⟨y,s,Y.out,rfl,S.out⟩;exact bodyPost_ret (v:=.tuple #[.agg (skv y s),.int .i64 0]) (by simp[results,Tryz.f78,go_sem,c,d,f,g,h,j,k,l,m,n]) rfl ⟨_,rfl,P.apart M.out (fun i u=>jcd u) D,C _ _ (G.out.trans (O.out.mono G.out.size)) (Nat.le_succ _)⟩
theorem jsP (v:Value) (B k:Bd) (kind level h g:Nat) (n:Int) (w:World) (hb:BdAt w v B) (j:B.Ok kind level) (x:w.heap[g]? = some (.cells #[.int .u64 h,.int .u64 n] 66 (0,0))) (hh:h<2^64) (hn:U64 n) (z:B.add h n=some k) :
  Calls Tryz.prog 77 #[.agg #[v,.int .i64 kind,.int .i64 level],.slice (some ⟨g,0,none⟩) 1 1] w fun e w'=>∃ v',e=.returned (.tuple #[.agg #[v',.int .i64 kind,.int .i64 level],.nilIface])/\BdAt w' v' k/\Bw w w':=by
 obtain⟨T,rv,f,rfl,hm,ad,y⟩:=jp0 hb j;obtain⟨W0,ab,c,d,D,q⟩:=jas w #[.iface T rv,.int .i64 kind,.int .i64 level] 117 #[.nilIface,.int .i64 0,.int .i64 0] 117;have U:=known D (Nat.le_refl _) x;obtain⟨W1,ac,N,E,r⟩:=jab W0 #[.int .u64 h,.int .u64 n] 66;rw[q] at N r;have H:=known E (by omega) c;have J:=known E (by omega) d;obtain⟨q0,q1⟩:=cl2 U;obtain⟨c0,c1,c2⟩:=cl3 H;obtain⟨d0,d1⟩:=cl2 N;have s:=Lib.hid (y W1 h n ((hb.go D).go E) hh hn);rw[z] at s;have I:=Lib.hid (D.trans (E.mono D.size));have l:=Lib.hid H;have m:=Lib.hid J;clear c d D hb j y x U N E H J hh hn z;go_enter Tryz.func77,Tryz.ntmps77;go_wp2_with fail;refine wp_loop_rounds 2 ?_;rw[rounds_succ];go_wp2_with fail;refine s.out.mono ?_;rintro e w2 ⟨O,v2,rfl,Q⟩;obtain⟨L,A,rfl⟩:=jaD Q;have HF:=Lib.hid (jiT w2);go_wp2_with fail;refine HF.out.mono ?_;rintro e w3 ⟨rfl,P⟩;have C:=O.trans (P.mono O.size);have G:=known C (Nat.le_refl _) l.out;have X:=known C (Nat.le_refl _) m.out;have R:=I.out.trans (C.mono I.out.size);obtain⟨p0,p1,p2⟩:=cl3 G;obtain⟨x0,x1,x2⟩:=cz3 G;obtain⟨V,o⟩:∃ V,w3.setCell ⟨w.heap.size,0,none⟩ (.iface L A)=V:=⟨_,rfl⟩;have b:V.heap[w.heap.size]? = some (.cells #[.iface L A,.int .i64 kind,.int .i64 level] 117 (0,0)):=by rw[<- o];exact hSk G (.iface L A)
 have M:OnlyAt w.heap.size w3 V:=by rw[<- o];exact (OnlyAt.refl _ _).set _ _
 have S:Bw w V:=by rw[<- o];exact R.setCell (p:=⟨w.heap.size,0,none⟩) (Nat.le_refl _) _
 have F:=(M.2 (w.heap.size+1) (by omega)).trans X;have i:BdAt V (.iface L A) k:=BdAt.set_work (Q.go P) G (by simp) (by simp) (by simp) M;obtain⟨u0,u1,u2⟩:=cl3 b;obtain⟨r0,r1,r2⟩:=cl3 F;obtain⟨z0,z1,z2⟩:=cz3 F;obtain⟨u,aa,a,Z,Y⟩:=jb3 (.iface L A) (.int .i64 kind) (.int .i64 level) F;obtain⟨k0,k1,k2⟩:=cl3 a;have t:Hid (BdAt u (.iface L A) k/\Bw w u):=⟨BdAt.set_work i F (by simp) (by simp) (by simp) Z,Y _ _ S (Nat.le_succ _)⟩;clear G X R C O P Q b M S F i a Z Y;go_wp2_with fail;rw[rounds_succ];go_wp2_with fail;exact bodyPost_ret (v:=.tuple #[.agg #[.iface L A,.int .i64 kind,.int .i64 level],.nilIface]) (by simp[results,Tryz.f77,go_sem,k0,k1,k2]) rfl ⟨_,rfl,t.out.1,t.out.2⟩
theorem jsO (v:Value) (B B2:Bd) (kind level h g:Nat) (n:Int) (w:World) (hb:BdAt w v B) (b:B.Ok kind level) (an:level<jdQ kind) (hI:w.heap[g]? = some (.cells #[.int .u64 h,.int .u64 n] 66 (0,0))) (hh:h<2^64) (hn:U64 n) (hg:GT w) (he:B.add h n=none) (al:B.low.add h n=some B2) :
  Calls Tryz.prog 77 #[.agg #[v,.int .i64 kind,.int .i64 level],.slice (some ⟨g,0,none⟩) 1 1] w fun e w'=>∃ v',e=.returned (.tuple #[.agg #[v',.int .i64 kind,.int .i64 ((level:Int)+1)],.nilIface])/\BdAt w' v' B2/\Bw w w':=by
 obtain⟨T,rv,f,rfl,hm,ay,hc⟩:=jp0 hb b;obtain⟨W0,aD,ad,ae,G,aA⟩:=jas w #[.iface T rv,.int .i64 kind,.int .i64 level] 117 #[.nilIface,.int .i64 0,.int .i64 0] 117;have r:=known G (Nat.le_refl _) hI;obtain⟨W1,aE,P,H,aB⟩:=jab W0 #[.int .u64 h,.int .u64 n] 66;rw[aA] at P aB;have N:=known H (by omega) ad;have X:=known H (by omega) ae;obtain⟨q0,q1⟩:=cl2 r;obtain⟨c0,c1,c2⟩:=cl3 N;obtain⟨d0,d1⟩:=cl2 P;have HC:=Lib.hid (hc W1 h n ((hb.go G).go H) hh hn);rw[he] at HC;have D:=Lib.hid (G.trans (H.mono G.size));have k:=Lib.hid N;have ax:=Lib.hid X;have aw:=Lib.hid P;have HB:=Lib.hid ((hb.go G).go H);have F:Hid (B.Ok kind level/\level<jdQ kind/\h<2^64/\U64 n):=⟨b,an,hh,hn⟩;have ap:=Lib.hid al;have aq:=Lib.hid hg;clear ad ae G hb b hc hI r P H N X hh hn he al an hg;go_enter Tryz.func77,Tryz.ntmps77;go_wp2_with fail;refine wp_loop_rounds 2 ?_;rw[rounds_succ];go_wp2_with fail;refine HC.out.mono ?_;rintro e w2 ⟨Q,v2,rfl,am⟩;have hF:CR 120 #[v2] w2 (.bool true):=jgE v2 60 w2 (aq.out.go (D.out.trans (Q.mono D.out.size))) am;have HF:=Lib.hid hF;obtain⟨bf,rfl,-⟩:=am;clear hF;go_wp2_with fail;refine HF.out.mono ?_;rintro e w3 ⟨rfl,af⟩;have E:=Q.trans (af.mono Q.size);have ab:=known E (Nat.le_refl _) k.out;obtain⟨p0,p1,p2⟩:=cl3 ab;have ar:=Lib.hid (jfm (.iface T rv) B kind level w3 (HB.out.go E) F.out.1 F.out.2.1);have S:=Lib.hid E;clear ab E Q af;go_wp2_with fail;refine ar.out.mono ?_;rintro e w4 ⟨v4,rfl,c,ag⟩;obtain⟨T4,ao,f4,rfl,az,ak,aj⟩:=jp0 c (jb5 F.out.1 F.out.2.1)
 have A:=S.out.trans (ag.mono S.out.size);have L:=known A (Nat.le_refl _) k.out;have u:=known A (Nat.le_refl _) ax.out;have s:=known A (Nat.le_refl _) aw.out;have l:=D.out.trans (A.mono D.out.size);obtain⟨y0,y1,y2⟩:=cl3 L;obtain⟨x0,x1,x2⟩:=cz3 L;obtain⟨V,hV,a,O,J⟩:=jb3 (.iface T4 ao) (.int .i64 kind) (.int .i64 ((level:Int)+1)) L;have q:=J _ _ l (Nat.le_refl _);have y:=(O.2 (w.heap.size+1) (by omega)).trans u;have t:=(O.2 (w.heap.size+2) (by omega)).trans s;have ai:BdAt V (.iface T4 ao) B.low:=BdAt.set_work c L (by simp) (by simp) (by simp) O;have j:=Lib.hid (aj V h n ai F.out.2.2.1 F.out.2.2.2);rw[ap.out] at j;obtain⟨u0,u1,u2⟩:=cl3 a;obtain⟨j0,j1⟩:=cl2 t;have av:=Lib.hid a;have au:=Lib.hid y;have i:=Lib.hid q;clear hm ay L u s l A c ag a O J q y t ai aj;go_wp2_with fail;refine j.out.mono ?_;rintro e w5 ⟨R,v5,rfl,d⟩;obtain⟨Y,C,rfl⟩:=jaD d;have M:=known R (Nat.le_refl _) av.out;have x:=known R (Nat.le_refl _) au.out;have m:=i.out.trans (R.mono i.out.size);obtain⟨a0,a1,a2⟩:=cl3 M;obtain⟨b0,b1,b2⟩:=cz3 M;obtain⟨U,hU⟩:∃ U,w5.setCell ⟨w.heap.size,0,none⟩ (.iface Y C)=U:=⟨_,rfl⟩;have ac:U.heap[w.heap.size]? = some (.cells #[.iface Y C,.int .i64 kind,.int .i64 ((level:Int)+1)] 117 (0,0)):=by rw[<- hU];exact hSk M (.iface Y C)
 have Z:OnlyAt w.heap.size w5 U:=by rw[<- hU];exact (OnlyAt.refl _ _).set _ _
 have o:Bw w U:=by rw[<- hU];exact m.setCell (p:=⟨w.heap.size,0,none⟩) (Nat.le_refl _) _
 have I:=(Z.2 (w.heap.size+1) (by omega)).trans x;have ah:BdAt U (.iface Y C) B2:=BdAt.set_work d M (by simp) (by simp) (by simp) Z;obtain⟨l0,l1,l2⟩:=cl3 ac;obtain⟨r0,r1,r2⟩:=cl3 I;obtain⟨z0,z1,z2⟩:=cz3 I;obtain⟨V2,aC,aa,z,J⟩:=jb3 (.iface Y C) (.int .i64 kind) (.int .i64 ((level:Int)+1)) I;obtain⟨k0,k1,k2⟩:=cl3 aa;have HE:Hid (BdAt V2 (.iface Y C) B2/\Bw w V2):=⟨BdAt.set_work ah I (by simp) (by simp) (by simp) z,J _ _ o (Nat.le_succ _)⟩;clear az ak M x m R d ac Z o I ah aa z J;go_wp2_with fail;rw[rounds_succ];go_wp2_with fail;exact bodyPost_ret (v:=.tuple #[.agg #[.iface Y C,.int .i64 kind,.int .i64 ((level:Int)+1)],.nilIface]) (by simp[results,Tryz.f77,go_sem,k0,k1,k2]) rfl ⟨_,rfl,HE.out.1,HE.out.2⟩
theorem jsN (v:Value) (B:Bd) (kind level h g:Nat) (n:Int) (w:World) (hb:BdAt w v B) (A:B.Ok kind level) (F:w.heap[g]? = some (.cells #[.int .u64 h,.int .u64 n] 66 (0,0))) (G:h<2^64) (H:U64 n) (J:GT w) :
  Calls Tryz.prog 77 #[.agg #[v,.int .i64 kind,.int .i64 level],.slice (some ⟨g,0,none⟩) 1 1] w fun e w'=>∃ v',e=.returned (.tuple #[.agg #[v',.int .i64 kind,.int .i64 ((jba (level,B) (h,n)).1:Int)],.nilIface])/\BdAt w' v' (jba (level,B) (h,n)).2/\Bw w w':=by
 cases C:B.add h n with
 | some B1 =>
  have e:jba (level,B) (h,n)=(level,B1):=by unfold jba;simp only[C]
  rw[e];exact jsP v B B1 kind level h g n w hb A F G H C
 | none =>
  obtain⟨E,D,L,I⟩:=jiF A C;have e:jba (level,B) (h,n)=(level+1,E):=by unfold jba;simp only[C,D,Option.getD_some]
  rw[e];exact jsO v B E kind level h g n w hb A (by rw[L,I];decide) F G H J C D
end Go.Proofs.YtnegciklhanmbaaGreatDoor
