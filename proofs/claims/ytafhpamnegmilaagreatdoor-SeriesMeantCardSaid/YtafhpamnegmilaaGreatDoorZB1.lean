/- Package hist: blank, begin. slices.Sorted(maps.Keys(..)) at the keys of a histogram's counts: the kit's contracts, laid at this program by hand. Package hist: done. Package hist: Add. Package hist: Lower. strings.Builder: WriteByte, WriteRune. -/
import Derived.Shelf.SlIterI.Nil
import Derived.Ground.GgzProg
import Derived.Test.YtafhpamnegmilaaGreatDoorZGC
set_option maxHeartbeats 4000000
set_option maxRecDepth 100000
namespace Go.Proofs.YtafhpamnegmilaaGreatDoor
open Go Go.RowKit Go.Shelf Go.Maps
theorem jmQ (a:List (Int × Int)) (b:Int × Int) (h:jb5 (a++[b])):jaC a b.1 b.2=a++[b]:=jia [b] a h
theorem jrA (w:World):MapIs (w.alloc (.map #[] 0)) w.heap.size 0 []:=⟨0,_,World.ownsMap_made _ _ _ _,Nat.le_refl _,fun _ _=>rfl⟩
theorem jjy (f:Nat) (w:World) (P:f<=3) :
  Calls Tryz.prog 287 #[.int .i64 f] w fun e w'=>∃ b,e=.returned (.tuple #[.agg #[.map (some b),.int .i64 f],.nilIface])/\MapIs w' b 0 []/\w.heap.size<=b/\Bw w w':=by
 have L:=jlN f P;have Q:=@run_makeMap Tryz.prog;obtain⟨N,O,I,C,M⟩:=jaf w #[.map none,.int .i64 0] 348;obtain⟨B,D⟩:∃ B,N.alloc (.map #[] 0)=B:=⟨_,rfl⟩;have G:MapIs B (w.heap.size+1) 0 []:=by rw[<- D,<- M];exact jrA N
 have A:B.heap[w.heap.size]? = some (.cells #[.map none,.int .i64 0] 348 (0,0)):=by rw[<- D];exact (Below.heap_alloc _ _ _ (by omega)).trans I
 have E:Bw w B:=by rw[<- D];exact C.alloc C.size _
 obtain⟨T,U⟩:=cl2 A;obtain⟨X,Y⟩:=cz2 A;have J:=jbB (u:=.map (some (w.heap.size+1))) (v:=.int .i64 f) A;have F:=(E.setCell (p:=⟨w.heap.size,0,none⟩) (Nat.le_refl _) (.map (some (w.heap.size+1)))).setCell (p:=⟨w.heap.size,1,none⟩) (Nat.le_refl _) (.int .i64 f);have H:=(G.kept (jeC B w.heap.size 0 (.map (some (w.heap.size+1)))) (by simp)).kept (jeC _ w.heap.size 1 (.int .i64 f)) (by simp);clear I A C E G;go_enter Tryz.func287,Tryz.ntmps287;go_wp2_with (first | (go_at_call 197;refine (L _).mono ?_;rintro e w' ⟨rfl,rfl⟩) | fail);generalize (B.setCell ⟨w.heap.size,0,none⟩ (.map (some (w.heap.size+1)))).setCell ⟨w.heap.size,1,none⟩ (.int .i64 f)=V at J F H ⊢;obtain⟨R,S⟩:=cl2 J;exact bodyPost_ret (v:=.tuple #[.agg #[.map (some (w.heap.size+1)),.int .i64 f],.nilIface]) (by simp[results,Tryz.f287,go_sem,R,S]) rfl ⟨_,rfl,H,Nat.le_succ _,F⟩
theorem jm6 (f:Nat) (l:List (Int × Int)) (a:Option Addr) (len cap:Nat) (w:World) (hf:f<=3) (hL:SlE jbO 2 w.heap.size w a len l) (hr:jaP f l=true) (hu:jb5 l) (s:jbj l) (O:len<=1000) (hp:∀ b∈l,I64 b.1) (hm:len<=maxLen) :
  Calls Tryz.prog 292 #[.agg #[.int .i64 f,.slice a len cap]] w fun e w'=>∃ b,e=.returned (.tuple #[.agg #[.map (some b),.int .i64 f],.nilIface])/\MapIs w' b l.length l/\w.heap.size<=b/\Bw w w':=by
 have hR:Hid (∀ z,Bw w z->CR 179 #[.agg #[.int .i64 f,.slice a len cap]] z (.bool true)):=fun z hb=>(jcN f l a len cap z ((hL.below hb).mono hb.size) hm (fun b hb=>(hp b hb).2)).mono fun e w' h=>⟨by rw[h.1,hr],h.2⟩
 have hB:=fun w=>jjy f w hf
 obtain⟨W0,ai,R,n,Y,an⟩:=jaI w #[.int .i64 f,.slice a len cap] 39 #[.map none,.int .i64 0] 348;have aa:=Lib.hid n;have ab:=Lib.hid R;obtain⟨z0,z1⟩:=cl2 R;clear n R;go_enter Tryz.func292,Tryz.ntmps292;go_wp2_with fail;refine (hR.out _ Y).mono ?_;rintro e z ⟨rfl,A⟩;have D:=jab A (Nat.le_refl _) ab.out;obtain⟨y0,y1⟩:=cl2 D;go_wp2_with fail;refine (hB _).mono ?_;rintro e w2 ⟨b,rfl,S,al,B⟩;obtain⟨W3,aj,o,C,ao⟩:=jaf w2 #[.map (some b),.int .i64 f] 348;have am:=S.lt;have ah:=A.size;have J:=B.size;have L:=jab (B.trans (C.mono J)) (Nat.le_refl _) D;have M:=jab (B.trans (C.mono J)) (Nat.le_refl _) (jab A (Nat.le_refl _) aa.out);have ad:MapIs W3 b 0 []:=S.kept (jaK C none) (by simp);have I:Bw w W3:=(Y.trans (A.mono (by omega))).trans ((B.mono (by omega)).trans (C.mono (by omega)));have U:=Lib.hid o;have X:=Lib.hid M;obtain⟨q0,q1⟩:=cl2 L;have HL:=Lib.hid hL;have P:Hid (jb5 l/\jbj l/\(∀ b∈l,I64 b.1)/\len<=1000/\len=l.length):=⟨hu,s,hp,O,hL.1⟩;have H:=Lib.hid I;clear D L M o C B A S hL hu s hp hr hm I;have af:=O;go_wp2_with fail;go_loopw [7,23] (fun _ i wr=>∃ k:Nat,k<=len/\i=.int .i64 k/\MapIs wr b k (l.take k)/\W3.grownBy wr (some b)) (fun _ i _=>len-(intOf i).toNat)
 case atStart=>exact⟨0,Nat.zero_le _,rfl,ad,World.grownBy.refl _ _⟩
 case round =>
  obtain⟨k,hk,rfl,hM,T⟩:=hrel;have G:=(T.block _ (Array.getElem?_eq_some_iff.1 U.out).1 (fun e=>by cases e;omega)).trans U.out;have E:=(T.block _ (Array.getElem?_eq_some_iff.1 X.out).1 (fun e=>by cases e;omega)).trans X.out;have Q:Bw w wr:=H.out.grown T H.out.size (fun j e=>by cases e;omega);by_cases ag:k<len
  ·obtain⟨x,b1,o1,hx,ea,A,p0,p1⟩:=jdU (HL.out.below Q) ag
   subst ea;have HX:=Lib.hid hx;have t:I64 x.1:=P.out.2.2.1 x (List.mem_of_getElem? hx);have y:U64 x.2:=P.out.2.1 x (List.mem_of_getElem? hx);obtain⟨x1,x2⟩:=x;dsimp only at p0 p1 t y;obtain⟨W4,ak,q,F,ap⟩:=jaf wr #[.int .i64 x1,.int .u64 x2] 132;have d:MapIs W4 b k (l.take k):=hM.kept (jaK F none) (by simp);have N:=jab F (Nat.le_refl _) G;have hP:=jns b k f x1 x2 (l.take k) W4 d t y (by omega) (P.out.1.sublist (List.take_sublist _ _)) (fun c hc=>P.out.2.1 c (List.mem_of_mem_take hc));obtain⟨u0,u1⟩:=cl2 q;obtain⟨v0,v1⟩:=cl2 N;have HG:=Lib.hid (T.trans (jaK F (some b)));clear hx G E q N d hM F T;go_wp2_with fail;refine hP.mono ?_;rintro e w6 ⟨rfl,ae,ac⟩;go_wp2_with fail;go_roundw
   case rel=>exact⟨k+1,by omega,by simp,by rw[jai HX.out,<- jmQ _ _ (by rw[<- jai HX.out];exact P.out.1.sublist (List.take_sublist _ _))];exact ae,HG.out.trans ac⟩
   case measure=>simp[intOf];omega
  ·obtain rfl:k=len:=by omega
   have m:MapIs wr b l.length l:=by have:=hM;rwa [List.take_of_length_le (by rw[P.out.2.2.2.2];exact Nat.le_refl _),P.out.2.2.2.2] at this
   obtain⟨u0,u1⟩:=cl2 G;obtain⟨o0,o1⟩:=cl2 E;obtain⟨g0,g1⟩:=cz2 E;have r:=jbB (u:=.map (some b)) (v:=.int .i64 f) E;have Z:=(Q.setCell (p:=⟨w.heap.size+1,0,none⟩) (Nat.le_succ _) (.map (some b))).setCell (p:=⟨w.heap.size+1,1,none⟩) (Nat.le_succ _) (.int .i64 f);have g:=(m.kept (jeC wr (w.heap.size+1) 0 (.map (some b))) (by simp;omega)).kept (jeC _ (w.heap.size+1) 1 (.int .i64 f)) (by simp;omega);clear G E hM m T Q;go_wp2_with fail;generalize (wr.setCell ⟨w.heap.size+1,0,none⟩ (.map (some b))).setCell ⟨w.heap.size+1,1,none⟩ (.int .i64 f)=V at r Z g ⊢;obtain⟨j0,j1⟩:=cl2 r;exact bodyPost_ret (v:=.tuple #[.agg #[.map (some b),.int .i64 f],.nilIface]) (by simp[results,Tryz.f292,go_sem,j0,j1]) rfl ⟨b,rfl,g,by omega,Z⟩
end Go.Proofs.YtafhpamnegmilaaGreatDoor
namespace Go.Proofs
open Go.RowKit Go.Maps Go.Sort Go.Shelf
def Tryz.keysA_ren:Go.Shelf.Ren:=⟨fun | 7=>295 | 10=>298 | n=>n,fun | 23=>346 | 26=>3 | 3=>48 | 28=>264 | 0=>0 | 27=>263 | 33=>225 | 4=>4 | n=>n,fun | n=>n⟩
theorem Tryz.keysA:Go.Proofs.SlLaysZI.n7 Tryz.prog Tryz.keysA_ren:={
 mixed:=by kernel_rfl
 f7:=⟨Tryz.f295.name,by decide,Tryz.func295.trans (congrArg some (by kernel_rfl))⟩
 f10:=⟨Tryz.f298.name,by decide,Tryz.func298.trans (congrArg some (by kernel_rfl))⟩
 t0:=by kernel_rfl
 a0:=fun w=>by kernel_rfl
 z0:=fun w=>by kernel_rfl
 v0:=fun w=>by kernel_rfl
 t4:=by kernel_rfl
 a4:=fun w=>by kernel_rfl
 z4:=fun w=>by kernel_rfl
 v4:=fun w=>by kernel_rfl
 t23:=by kernel_rfl
 a23:=fun w=>by kernel_rfl
 z23:=fun w=>by kernel_rfl
 v23:=fun w=>by kernel_rfl
 t26:=by kernel_rfl
 a26:=fun w=>by kernel_rfl
 z26:=fun w=>by kernel_rfl
 v26:=fun w=>by kernel_rfl
 t27:=by kernel_rfl
 a27:=fun w=>by kernel_rfl
 z27:=fun w=>by kernel_rfl
 v27:=fun w=>by kernel_rfl
 t28:=by kernel_rfl
 a28:=fun w=>by kernel_rfl
 z28:=fun w=>by kernel_rfl
 v28:=fun w=>by kernel_rfl
 t33:=by kernel_rfl
 a33:=fun w=>by kernel_rfl
 z33:=fun w=>by kernel_rfl
 v33:=fun w=>by kernel_rfl }
def Tryz.sortedA_ren:Go.Shelf.Ren:=⟨fun | 6=>294 | 8=>296 | 9=>297 | 11=>299 | n=>n,fun | 26=>3 | 28=>264 | 24=>25 | 0=>0 | 3=>3 | 33=>225 | n=>n,fun | n=>n⟩
theorem Tryz.sortedA:Go.Proofs.SlLaysZI.n6 Tryz.prog Tryz.sortedA_ren:={
 mixed:=by kernel_rfl
 f6:=⟨Tryz.f294.name,by decide,Tryz.func294.trans (congrArg some (by kernel_rfl))⟩
 f8:=⟨Tryz.f296.name,by decide,Tryz.func296.trans (congrArg some (by kernel_rfl))⟩
 f11:=⟨Tryz.f299.name,by decide,Tryz.func299.trans (congrArg some (by kernel_rfl))⟩
 t0:=by kernel_rfl
 a0:=fun w=>by kernel_rfl
 z0:=fun w=>by kernel_rfl
 v0:=fun w=>by kernel_rfl
 t24:=by kernel_rfl
 a24:=fun w=>by kernel_rfl
 z24:=fun w=>by kernel_rfl
 v24:=fun w=>by kernel_rfl
 t26:=by kernel_rfl
 a26:=fun w=>by kernel_rfl
 z26:=fun w=>by kernel_rfl
 v26:=fun w=>by kernel_rfl
 t28:=by kernel_rfl
 a28:=fun w=>by kernel_rfl
 z28:=fun w=>by kernel_rfl
 v28:=fun w=>by kernel_rfl
 i26:=by kernel_rfl }
end Go.Proofs
namespace Go.Proofs.YtafhpamnegmilaaGreatDoor
open Go Go.RowKit Go.Shelf Go.Maps Go.Sort
theorem jw4 (m:Nat):AnyZI.SortsIn Tryz.prog Tryz.sortedA_ren Fence.wide m :=
 ⟨fun B off cap ss W D A C=>callsIn_wide.2 (Tryz.slices_Sort_int B off cap ss W D A C),fun p cap W=>callsIn_wide.2 (Tryz.slices_Sort_int_none p cap W)⟩
theorem jtX (A:Option Nat) (W:World):Calls Tryz.prog 295 #[.map A] W fun e w'=>e=.returned (.func (.func 298) #[] #[.pointer (some ⟨W.heap.size,0,none⟩)])/\w'=W.alloc (.cells #[.map A] 346) :=
 (callsIn_wide (n:=5)).1 (AnyZI.keys_in Tryz.keysA Fence.wide 5 trivial rfl A W)
theorem jpT (b G:Nat) (D:DataW Unit) (w:World) (A:w.ownsMap Tryz.prog 3 (plainElem Tryz.prog 48) b G D) (F:Maps.size D<=100000) :
  Calls Tryz.prog 294 #[.func (.func 298) #[] #[.pointer (some ⟨w.heap.size,0,none⟩)]] (w.alloc (.cells #[.map (some b)] 346)) fun e w'=>∃ (v:Value) (ss:List Int),e=.returned v/\ss.Perm (intKeys D) /\
   w'.ownsRow w.heap.size 3 1 v ss.length ((ss.mergeSort (fun x y=>decide (x<=y))).map encZ)/\(v=.slice none 0 0↔ss=[])/\Bw w w':=by
 have C:=A.lt
 have B:SeqGives Fence.wide 2 Tryz.prog 298 #[.pointer (some ⟨w.heap.size,0,none⟩)] encZ (fun ss=>ss.Perm (intKeys D)) (Maps.size D) (w.alloc (.cells #[.map (some b)] 346)) :=
  AnyZI.keys_gives (ρ:=Tryz.keysA_ren) { Tryz.keysA with } Fence.wide _ trivial rfl (by omega) w.heap.size b G D _ (by simp) (by simp) (by
   obtain⟨es,clock,P,H,F,O⟩:=A;exact⟨es,clock,(Below.heap_alloc _ _ b C).trans P,H,F,O⟩)
 have E:=AnyZI.sorted_in Tryz.sortedA Fence.wide 5 trivial trivial trivial trivial rfl (by omega) (jw4 _) (enters_of Tryz.func297 (by kernel_rfl) rfl) 298 #[.pointer (some ⟨w.heap.size,0,none⟩)] trivial (enters_of Tryz.func298 (by kernel_rfl) rfl) _ _ (by unfold maxLen;omega) (by omega) _ B;change CallsIn _ _ Tryz.prog 294 _ _ _ at E;refine (callsIn_wide (n:=5)).1 (E.mono ?_);rintro e w' ⟨v,ss,I,J,L,M,N⟩;exact⟨v,ss,I,J,jl6 L (by simp),M,((Below.refl _ w).alloc (Nat.le_refl _) _).trans (N.mono (by simp))⟩
end Go.Proofs.YtafhpamnegmilaaGreatDoor
namespace Go.Proofs.YtafhpamnegmilaaGreatDoor
open Go Go.RowKit Go.Shelf Go.Maps Go.Sort
theorem jjq:∀ (l:List (Int × Int)) (p:Int),jb5 l->jb6 (ja7 l) p=match jb6 l p with
  | some x=>if x=0 then none else some x
  | none=>none
 | [],p,_=>rfl
 | (q,m)::t,p,h=>by
  obtain⟨E,F⟩:=jdh h;have D:=jjq t p E;have C:q=p->jb6 (ja7 t) p=none:=fun e=>jjr (fun c G=>by have:=F c (List.mem_filter.1 G).1;rw[<- e];exact this)
  rw[jbf];unfold ja7;rw[List.filter_cons];by_cases B:m=0
  ·subst B
   rw[if_neg (by simp)];by_cases A:q=p
   ·rw[if_pos A];exact C A
   ·rw[if_neg A];exact D
  ·rw[if_pos (by simpa using B),jbf]
   by_cases A:q=p
   ·rw[if_pos A,if_pos A];simp[B]
   ·rw[if_neg A,if_neg A];exact D
theorem joa:∀ {l:List (Int × Int)} {p x:Int},jb6 l p=some x->p∈l.map Prod.fst
 | b::t,p,x,h=>by
  rw[jbf] at h;split at h
  ·rename_i e;simp[e]
  ·exact List.mem_cons_of_mem _ (joa h)
theorem jlj:∀ {l:List (Int × Int)} {p:Int},p∈l.map Prod.fst->jb6 l p≠none
 | b::t,p,h=>by
  rw[jbf];split
  ·simp
  ·rename_i A
   rcases List.mem_cons.1 h with e | h
   ·exact absurd e.symm A
   ·exact jlj h
theorem jli:∀ {l:List (Int × Int)},jb5 l->∀ {b:Int × Int},b∈l->jb6 l b.1=some b.2
 | c::t,hu,b,h=>by
  obtain⟨A,B⟩:=jdh hu;rw[jbf];rcases List.mem_cons.1 h with rfl | h
  ·simp
  ·have:=B b h
   rw[if_neg (by omega)];exact jli A h
def jlc (l:List (Int × Int)) (left:Lit->Bool) (D:DataW Unit):Prop:=∀ p z,D.atKey (.int .i64 p) z=match jb6 l p with
 | some x=>if x=0/\left (.int .i64 p)=false then z else .lit (.int .u64 x)
 | none=>z
theorem jnV {l:List (Int × Int)} {D:DataW Unit} (h:∀ p z,D.atKey (.int .i64 p) z=match jb6 l p with
 | some x=>.lit (.int .u64 x)
 | none=>z):jlc l (Maps.has D) D:=fun p z=>by
 have A:=h p;rw[A z]
 cases B:jb6 l p with
 | none=>rfl
 | some x =>
  rw[B] at A;have:=has_true_of_atKey (k:=.int .i64 p) A;simp[this]
theorem jmw {l:List (Int × Int)} {B:Lit->Bool} {D:DataW Unit} {x c:Int} (h:jlc l B D) (C:∀ F,D.atKey (.int .i64 x) F=.lit (.int .u64 c)):jb6 l x=some c:=by
 have A:=(h x (.lit (.bool true))).symm.trans (C _)
 cases E:jb6 l x with
 | none=>rw[E] at A;simp at A
 | some v =>
  rw[E] at A;simp only at A;split at A
  ·simp at A
  ·simp at A;rw[A]
theorem jfK (q x:Int):(Lit.int .i64 q).sameKey (.int .i64 x)=decide (q=x):=by
 by_cases h:q=x
 ·subst h;rw[WideAt.sameKey_self (a:=.int .i64 q) trivial];simp
 ·rw[sameKey_ne (by simpa using h)];simp[h]
theorem jmv {l:List (Int × Int)} {A:Lit->Bool} {D:DataW Unit} {x:Int} (h:jlc l A D) (B:∀ F,D.atKey (.int .i64 x) F=.lit (.int .u64 0)):jlc l (fun z=>A z && !z.sameKey (.int .i64 x)) (D.del (.int .i64 x)):=fun q z=>by
 have E:=jmw h B;by_cases C:q=x
 ·subst C
  rw[atKey_del_same,E];simp[jfK]
 ·rw[atKey_del_other (by simpa using C),h q z]
  simp[jfK,C]
theorem jnW {l:List (Int × Int)} {A:Lit->Bool} {D:DataW Unit} {x c:Int} (h:jlc l A D) (E:c≠0) (B:∀ G,D.atKey (.int .i64 x) G=.lit (.int .u64 c)):jlc l (fun z=>A z && !z.sameKey (.int .i64 x)) D:=fun q z=>by
 have F:=jmw h B;rw[h q z];by_cases C:q=x
 ·subst C
  rw[F];simp[E]
 ·simp[jfK,C]
theorem jsb {l:List (Int × Int)} {A:Lit->Bool} {D:DataW Unit} (E:jb5 l) (h:jlc l A D) (C:∀ k,A k=false):∀ p z,D.atKey (.int .i64 p) z=match jb6 (ja7 l) p with
 | some x=>.lit (.int .u64 x)
 | none=>z:=fun p z=>by
 rw[h p z,jjq l p E]
 cases jb6 l p with
 | none=>rfl
 | some x =>
  by_cases B:x=0
  ·simp[B,C]
  ·simp[B]
theorem jqH {w:World} {b Q:Nat} {D:DataW Unit} {l:List (Int × Int)} (A:w.ownsMap Tryz.prog 3 (plainElem Tryz.prog 48) b Q D) (O:jb5 l) (N:∀ p z,D.atKey (.int .i64 p) z=match jb6 l p with
  | some x=>.lit (.int .u64 x)
  | none=>z) {ss:List Int} (h:ss.Perm (intKeys D)):ss.mergeSort (fun x y=>decide (x<=y))=l.map Prod.fst:=by
 obtain⟨es,M,J,_⟩:=A.entries jvL;obtain⟨F,B,H⟩:=A.keysOf;obtain rfl:es=F:=by rw[M] at B;simpa using B
 subst M;have C:(l.map Prod.fst).Pairwise (· < ·):=List.pairwise_map.2 O
 have I:=perm_intKeys J (fun p I=>by obtain⟨v,P⟩:=H p I;obtain⟨x,_,L,_⟩:=Maps.keyOf_i64 Tryz.underlying3 P;exact⟨x,L⟩) (ss:=l.map Prod.fst) (C.imp (fun {a b} h=>by omega)) (fun x=>by
  cases E:jb6 l x with
  | none =>
   have G:∀ z,(DataW.map es).atKey (.int .i64 x) z=z:=fun z=>by rw[N x z,E]
   rw[has_false_of_atKey G];refine⟨fun L=>?_,fun h=>by simp at h⟩;exact absurd E (jlj L)
  | some y =>
   have G:∀ z,(DataW.map es).atKey (.int .i64 x) z=.lit (.int .u64 y):=fun z=>by rw[N x z,E]
   rw[has_true_of_atKey G];exact⟨fun _=>rfl,fun _=>joa E⟩)
 rw[show (fun x y:Int=>decide (x<=y))=leI from rfl,mergeSort_of_perm_i (h.trans I.symm)];exact List.mergeSort_of_pairwise (C.imp (fun {a b} h=>by simp;omega))
theorem jkj {A B C:World} {row:Option Nat} (h:A.grownBy B row) (D:Below A.heap.size B C):A.grownBy C row:=⟨D.os.trans h.os,D.tape.trans h.tape,D.output.trans h.output,Nat.le_trans h.size D.size,fun k F E=>(D.block k F).trans (h.block k F E)⟩
theorem jl1 {k n:Nat} (h:k<n):n-(k+1)<n-k:=by omega
theorem jiT {α:Type} {enc:α->List Value} {w:World} {A e B:Nat} {v:Value} {l:List α} (D:∀ x,(enc x).length=B) (h:w.ownsRow A e B v l.length (l.flatMap enc)) {b:Nat} (C:b<A) (u z:Value) :
  ∃ a cap,v=.slice a l.length cap/\SlC enc B ((w.setCell ⟨b,0,none⟩ u).setCell ⟨b,1,none⟩ z).heap.size ((w.setCell ⟨b,0,none⟩ u).setCell ⟨b,1,none⟩ z) a l.length cap l/\∀ x,a=some x->A<=x.block :=
 jaz D (ownsRow_setCell_below (ownsRow_setCell_below h (a:=⟨b,0,none⟩) C u) (a:=⟨b,1,none⟩) C z)
abbrev jxa:Int->List Value:=fun x=>[encZ x]
theorem jlB:∀ l:List Int,l.flatMap jxa=l.map encZ
 | []=>rfl
 | x::t=>by rw[List.flatMap_cons,jlB t];rfl
theorem jtU {A:Nat} {w:World} {a:Option Addr} {len:Nat} {l:List Int} (h:SlE jxa 1 A w a len l) {j:Nat} (D:j<len):∃ x b off,l[j]? = some x/\a=some ⟨b,off,none⟩/\b<A/\w.cell? ⟨b,off+j,none⟩=some (.int .i64 x):=by
 obtain⟨x,b,off,E,e,B,C⟩:=h.at D;have:=C 0 (by omega);rw[Nat.mul_one,Nat.add_zero] at this;exact⟨x,b,off,E,e,B,this⟩
attribute [-go_sem] Builtin.append_
theorem jnP (b M:Nat) (D:DataW Unit) (w:World) (l:List (Int × Int)) (A:w.ownsMap Tryz.prog 3 (plainElem Tryz.prog 48) b M D) (O:Maps.size D<=100000) (P:jb5 l) (N:∀ p z,D.atKey (.int .i64 p) z=match jb6 l p with
  | some x=>.lit (.int .u64 x)
  | none=>z) :
  Calls Tryz.prog 294 #[.func (.func 298) #[] #[.pointer (some ⟨w.heap.size,0,none⟩)]] (w.alloc (.cells #[.map (some b)] 346)) fun e w'=>∃ E c5,e=.returned (.slice E l.length c5) /\
   SlC jxa 1 w'.heap.size w' E l.length c5 (l.map Prod.fst)/\(∀ x,E=some x->w.heap.size<=x.block)/\Bw w w':=by
 refine (jpT b M D w A O).mono ?_;rintro e Q ⟨v5,ss,rfl,C,B,L,I⟩;have J:=jqH A P N C;have G:ss.length=l.length:=by have:=congrArg List.length J;simpa using this
 rw[J,G] at B;obtain⟨E,c5,rfl,H,F⟩:=jaz (enc:=jxa) (l:=l.map Prod.fst) (fun _=>rfl) (by rw[List.length_map];rw[jlB];exact B);rw[List.length_map] at H ⊢;exact⟨E,c5,rfl,H,F,I⟩
theorem jjz (b K:Nat) (f:Int) (l:List (Int × Int)) (w:World) (hm:MapIs w b K l) (hu:jb5 l) (hb:jbj l) (hi:∀ c∈l,I64 c.1) (aP:l.length<=5000) (hK:K<=5000) :
  Calls Tryz.prog 291 #[.agg #[.map (some b),.int .i64 f]] w fun e w'=>∃ a len cap,e=.returned (.agg #[.int .i64 f,.slice a len cap])/\SlC jbO 2 w'.heap.size w' a len cap (ja7 l)/\(∀ x,a=some x->w.heap.size<=x.block)/\w.grownBy w' (some b):=by
 obtain⟨W1,bs,ao,aC,I,Z⟩:=jaI w #[.map (some b),.int .i64 f] 348 #[.int .i64 0,.slice none 0 0] 39;obtain⟨h,D0,Q,bA,a9⟩:=hm;have bu:=Q.lt;have aQ:W1.ownsMap Tryz.prog 3 (plainElem Tryz.prog 48) b h D0:=Q.kept (jaK I none) (by simp);obtain⟨c0,c1⟩:=cl2 ao;go_enter Tryz.func291,Tryz.ntmps291
 go_wp2_with (first
  | (at_range;refine wpList_range_own _ rfl _ 346 rfl 3 48 jvL jfn _ b h _ rfl aQ ?_;intro w0 ae bi aR)
  | go_in)
 go_frame;have aX:w0.heap.size=w.heap.size+3:=by rw[aR,Z]
 rw[Z] at ae ⊢;have bp:Hid (w0.heap.size=w.heap.size+3):=aX;have ai:Hid (W1.heap.size=w.heap.size+2):=Z;have a7:=Lib.hid ao;have a3:=Lib.hid aC;have aZ:=Lib.hid I;clear aR Z aX ao aC I
 go_loopw [3,4] (fun _ _ wr=>∃ (d:Lit->Bool) (cnt:Nat) (D:DataW Unit),wr.ranges Tryz.prog 3 (plainElem Tryz.prog 48) b (w.heap.size+2) h D d cnt/\jlc l d D/\W1.grownBy wr (some b))
  (fun _ _ wr=>wr.rangeLeft b (w.heap.size+2))
 case atStart=>exact⟨_,_,_,ae,jnV a9,bi.but _⟩
 case round =>
  obtain⟨d,cnt,D,S,hS,r⟩:=hrel;have aJ:=(r.block w.heap.size (by have:=ai.out;omega) (fun e=>by have:=Option.some.inj e;omega)).trans a7.out;have aD:=(r.block (w.heap.size+1) (by have:=ai.out;omega) (fun e=>by have:=Option.some.inj e;omega)).trans a3.out;have ah:=Lib.hid aD;have H:=Lib.hid aJ;have HS:=Lib.hid hS;have M:=Lib.hid r;clear aJ aD hS r
  go_wp2_with (first
   | (at_next;refine wpList_next_ranges_ii _ rfl _ rfl 3 48 .i64 .u64 jvL Tryz.underlying3 Tryz.underlying48 b (w.heap.size+2) h _ _ _ rfl S ?_ ?_)
   | go_in)
  ·intro _ aO
   have hE:=jsb hu HS.out aO;have E:=S.owns;obtain⟨u0,u1⟩:=cl2 H.out;obtain⟨W2,bc,q,o,aS⟩:=jaf wr #[.int .i64 f,.slice none 0 0] 39;have R:W2.ownsMap Tryz.prog 3 (plainElem Tryz.prog 48) b h D:=E.kept (jaK o none) (by simp);have P:=jab o (Nat.le_refl _) H.out;have ap:(W2.setCell ⟨wr.heap.size,1,none⟩ (.slice none 0 0)).heap[wr.heap.size]? = some (.cells #[.int .i64 f,.slice none 0 0] 39 (0,0)):=hSk q (.slice none 0 0);have G:=(Below.heap_setCell W2 ⟨wr.heap.size,1,none⟩ (.slice none 0 0) w.heap.size (by have:=(Array.getElem?_eq_some_iff.1 H.out).1;simp;omega)).trans P;have A:=R.kept (jeC W2 wr.heap.size 1 (.slice none 0 0)) (by have:=E.lt;simp;omega);have al:=o.setCell (p:=⟨wr.heap.size,1,none⟩) (Nat.le_refl _) (.slice none 0 0);obtain⟨v0,v1⟩:=cl2 P;obtain⟨x0,x1⟩:=cl2 q;obtain⟨y0,y1⟩:=cz2 q;obtain⟨W3,an⟩:∃ W3,W2.setCell ⟨wr.heap.size,1,none⟩ (.slice none 0 0)=W3:=⟨_,rfl⟩;rw[an] at ap G A al;have aT:W3.heap.size=wr.heap.size+1:=by rw[<- an];simpa using aS
   have ak:=Lib.hid (jnP b h D W3 (ja7 l) A (by have:=A.size_le;omega) (jgf hu) hE);have ay:=Lib.hid ap;have z:=Lib.hid G;have n:=Lib.hid al;have aj:=Lib.hid aT;have af:Hid (MapIs W3 b h (ja7 l)):=⟨h,D,A,Nat.le_refl _,hE⟩;have HL:Hid (jb5 (ja7 l)/\jbj (ja7 l)/\(∀ c∈ja7 l,I64 c.1)/\(ja7 l).length<=5000):=⟨jgf hu,jgD hb,fun c hc=>hi c (List.mem_filter.1 hc).1,Nat.le_trans (jjA l) aP⟩;obtain⟨L,am⟩:∃ L,ja7 l=L:=⟨_,rfl⟩;have a1:=Lib.hid am;rw[am] at af ak HL hE;clear am;obtain⟨z0,z1⟩:=cl2 G;clear S P q u0 ap G al aT A R E o;go_wp2_with (first | (go_at_call 295;refine (jtX _ _).mono ?_;rintro e w' ⟨rfl,rfl⟩) | (go_at_call 294;refine ak.out.mono ?_;rintro e m ⟨a5,c5,rfl,aU,ab,B⟩) | fail);obtain⟨X,hX⟩:∃ X,wr.heap.size=X:=⟨_,rfl⟩;have HX:=Lib.hid hX;rw[hX] at ay aj n ⊢;have a4:=Lib.hid aU;have bo:=Lib.hid B;have ax:=Lib.hid ab;have aV:=jab B (Nat.le_refl _) ay.out;have aW:=jab B (Nat.le_refl _) z.out;have N:=Lib.hid aW;have a2:Hid (MapIs m b h L):=af.out.kept (jaK B none) (by simp);have aY:W3.heap.size<=m.heap.size:=B.size;have ag:Hid (m.heap[w.heap.size+1]? = some (.cells #[.int .i64 0,.slice none 0 0] 39 (0,0))):=jab B (Nat.le_refl _) (jab n.out (by omega) ah.out);have a0:Hid (w.grownBy m (some b)):=((jaK aZ.out (some b)).trans (jkj (jkj M.out (n.out.mono (by rw[<- hX];exact M.out.size))) (B.mono (by have:=M.out.size;have:=aj.out;omega))));have bq:=Lib.hid aY;clear aW aU B ab H HS M ak z af hX u1 v0 v1 x0 x1 y0 y1 z0 z1 hE aO aS bc an aY
   go_loopw [7,29] (fun _ i wk=>∃ (k:Nat) (v:Value),k<=L.length/\i=.int .i64 k/\wk.heap[X]? = some (.cells #[.int .i64 f,v] 39 (0,0))/\wk.ownsRow m.heap.size 132 2 v k ((L.take k).flatMap jbO)/\m.grownBy wk (some X)) (fun _ i _=>L.length-(intOf i).toNat)
   case atStart=>exact⟨0,_,Nat.zero_le _,rfl,aV,⟨rfl,Or.inl ⟨rfl,rfl⟩⟩,World.grownBy.refl _ _⟩
   case round =>
    obtain⟨k,v,hk,rfl,O,C,hG⟩:=hrel;have aI:X<m.heap.size:=(Array.getElem?_eq_some_iff.1 aV).1;have bB:w.heap.size<X:=by have:=HX.out;have:=(Array.getElem?_eq_some_iff.1 N.out).1;have:=n.out.size;have:=(Array.getElem?_eq_some_iff.1 ah.out).1;omega
    have be:=(hG.block _ (Array.getElem?_eq_some_iff.1 N.out).1 (fun e=>by have:=Option.some.inj e;omega)).trans N.out;have bb:=hG.size;by_cases J:k<L.length
    ·obtain⟨y,hy⟩:∃ y,L[k]? = some y:=⟨_,List.getElem?_eq_getElem J⟩
     obtain⟨x,b5,o5,hx,rfl,B,bh⟩:=jtU a4.out.1 J;obtain rfl:x=y.1:=by rw[List.getElem?_map,hy] at hx;simpa using hx.symm
     have bt:W3.heap.size<=b5:=ax.out _ rfl;have bg:b5≠X:=by have:=aj.out;omega
     have bv:wr.cell? ⟨b5,o5+k,none⟩=some (.int .i64 y.1):=by rw[<- bh];exact World.cell?_of_block (hG.block _ B (fun e=>bg (Option.some.inj e)))
     have bk:MapIs wr b h L:=a2.out.kept hG (by simp;omega);have aN:jc9 L y.1=y.2:=by unfold jc9;rw[jli HL.out.1 (List.mem_of_getElem? hy)];rfl
     have bm:I64 y.1:=HL.out.2.2.1 y (List.mem_of_getElem? hy);have bj:=bk.look bm;rw[aN] at bj;obtain⟨g,cap,w1,bf,Y,I,bD,ac,au⟩:=jaL Tryz.prog 37 jcL jcO rfl (by decide) C (Below.refl m.heap.size wr) (Nat.le_refl _) bb (jbO y) rfl (jdO y) (by have:=HL.out.2.2.2;omega) (by decide);obtain⟨p0,p1⟩:=cl2 be;obtain⟨q0,q1⟩:=cl2 O;obtain⟨r0,r1⟩:=cz2 O;rw[show (jbO y).toArray=#[.int .i64 y.1,.int .u64 y.2] from rfl] at bf;have F:=(ac X aI).trans O;obtain⟨s0,s1⟩:=cl2 F;obtain⟨t0,t1⟩:=cz2 F;have aG:(w1.setCell ⟨X,1,none⟩ (.slice (some ⟨g,0,none⟩) (k+1) cap)).heap[X]? = some (.cells #[.int .i64 f,.slice (some ⟨g,0,none⟩) (k+1) cap] 39 (0,0)):=hSk F _;have av:=ownsRow_setCell_below Y (a:=⟨X,1,none⟩) aI (.slice (some ⟨g,0,none⟩) (k+1) cap);have ba:m.grownBy (w1.setCell ⟨X,1,none⟩ (.slice (some ⟨g,0,none⟩) (k+1) cap)) (some X):=(jkj hG I).trans (jeC _ _ _ _);clear ac au Y C O F I;have br:L.length<=5000:=HL.out.2.2.2;go_wp2_with fail;go_roundw
     case rel=>exact⟨k+1,_,J,by simp,aG,by rw[jai hy,List.flatMap_append];simpa using av,ba⟩
     case measure=>simp[intOf];exact jl1 J
    ·obtain rfl:k=L.length:=by omega
     rw[List.take_length] at C;have aq:w.heap.size+1<m.heap.size:=(Array.getElem?_eq_some_iff.1 ag.out).1
     obtain⟨a,cap,rfl,aK⟩:∃ a cap,v=.slice a L.length cap/\∀ x,a=some x->m.heap.size<=x.block:=by
      obtain⟨a,cap,h1,h2,h3⟩:=jaz (enc:=jbO) (fun _=>rfl) C;exact⟨a,cap,h1,h3⟩
     have aF:SlC jbO 2 ((wr.setCell ⟨w.heap.size+1,0,none⟩ (.int .i64 f)).setCell ⟨w.heap.size+1,1,none⟩ (.slice a L.length cap)).heap.size ((wr.setCell ⟨w.heap.size+1,0,none⟩ (.int .i64 f)).setCell ⟨w.heap.size+1,1,none⟩ (.slice a L.length cap)) a L.length cap L:=by
      obtain⟨a',bn,h1,h2,h3⟩:=jiT (enc:=jbO) (fun _=>rfl) C aq (.int .i64 f) (.slice a L.length cap)
      cases h1
      exact h2
     have hR:=(hG.block _ (Array.getElem?_eq_some_iff.1 ag.out).1 (fun e=>by have:=Option.some.inj e;have:=HX.out;have:=(Array.getElem?_eq_some_iff.1 ah.out).1;omega)).trans ag.out;obtain⟨s0,s1⟩:=cl2 O;obtain⟨o0,o1⟩:=cl2 hR;obtain⟨m0,m1⟩:=cz2 hR;have aH:=jbB (u:=.int .i64 f) (v:=.slice a L.length cap) hR;have a6:=Lib.hid aF;have a8:=Lib.hid aK;clear C aF aK hR;go_wp2_with fail;have aB:w.grownBy ((wr.setCell ⟨w.heap.size+1,0,none⟩ (.int .i64 f)).setCell ⟨w.heap.size+1,1,none⟩ (.slice a L.length cap)) (some b):=((a0.out.andThen hG (fun j s=>Or.inl (by have:=Option.some.inj s;omega))).andThen (jeC _ _ _ _) (fun j s=>Or.inl (by have:=Option.some.inj s;omega))).andThen (jeC _ _ _ _) (fun j s=>Or.inl (by have:=Option.some.inj s;omega));have aE:=a6.out;generalize (wr.setCell ⟨w.heap.size+1,0,none⟩ (.int .i64 f)).setCell ⟨w.heap.size+1,1,none⟩ (.slice a L.length cap)=V at aH aB aE ⊢;obtain⟨j0,j1⟩:=cl2 aH;exact bodyPost_ret (v:=.agg #[.int .i64 f,.slice a L.length cap]) (by simp[results,Tryz.f291,go_sem,j0,j1]) rfl ⟨a,L.length,cap,rfl,by rw[a1.out];exact aE,(fun x hx=>by have:=a8.out x hx;omega),aB⟩
  ·intro x c w1 az bl bC bz aL T J aM Z bw
   have ad:W1.grownBy w1 (some b):=M.out.andThen aM (fun j s=>by obtain rfl:=Option.some.inj s;exact Or.inl (by have:=ai.out;omega));have aa:=(aM.block _ (Array.getElem?_eq_some_iff.1 H.out).1 (fun e=>by have:=Option.some.inj e;omega)).trans H.out;have q0:w1.cell? ⟨w.heap.size,0,none⟩=some (.map (some b)):=cCc aa 0;have t:=Lib.hid ad;clear ad aa
   go_wp2_with (first
    | (at_delete;refine wpList_delete_ranges _ rfl _ _ 346 3 rfl 48 jvL jfn _ b (w.heap.size+2) h _ _ _ rfl T _ _ rfl (keyOf_int_mk Tryz.underlying3 bl) ?_;intro w2 aA U bx aw;go_frame)
    | go_in)
   ·have ar:c=0:=by simpa using (by assumption:(c==0)=true)
    subst ar;rw[strike_twice] at U;go_roundw
    case rel=>exact⟨_,aA,_,U,jmv HS.out aL,t.out.andThen aw.grown (fun j s=>by cases s;exact Or.inr rfl)⟩
    case measure=>rw[U.left_eq,S.left_eq];omega
   ·have ar:c≠0:=by simpa using (by assumption:(c==0)=false)
    go_roundw
    case rel=>exact⟨_,az,_,T,jnW HS.out ar aL,t.out⟩
    case measure=>rw[T.left_eq,S.left_eq];exact J
end Go.Proofs.YtafhpamnegmilaaGreatDoor
namespace Go.Proofs.YtafhpamnegmilaaGreatDoor
open Go Go.RowKit Go.Shelf Go.Maps Go.Sort
theorem jms {α:Type} {enc:α->List Value} {k n:Nat} {w V:World} {a:Option Addr} {len cap:Nat} {l:List α} (h:SlC enc k n w a len cap l) (D:∀ x,a=some x->V.heap[x.block]? = w.heap[x.block]?):SlC enc k n V a len cap l :=
 ⟨⟨h.1.1,fun j x E=>by
  obtain⟨b,off,e,A,B⟩:=h.1.2 j x E;exact⟨b,off,e,A,fun i C=>(World.cell?_of_block (show V.heap[b]? = w.heap[b]? from D _ e)).trans (B i C)⟩⟩,h.2⟩
def jvh (n:Nat) (w w7:World) (a:Option Addr) (len cap:Nat) (f:Int) (l:List (Int × Int)):Prop :=
 ((w7.setCell ⟨n+1,0,none⟩ (.int .i64 f)).setCell ⟨n+1,1,none⟩ (.slice a len cap)).heap[n+1]? = some (.cells #[.int .i64 f,.slice a len cap] 39 (0,0)) /\
 SlC jbO 2 ((w7.setCell ⟨n+1,0,none⟩ (.int .i64 f)).setCell ⟨n+1,1,none⟩ (.slice a len cap)).heap.size ((w7.setCell ⟨n+1,0,none⟩ (.int .i64 f)).setCell ⟨n+1,1,none⟩ (.slice a len cap)) a len cap l /\
 Below n w ((w7.setCell ⟨n+1,0,none⟩ (.int .i64 f)).setCell ⟨n+1,1,none⟩ (.slice a len cap))
theorem jtR {w w6 w7:World} {b:Nat} {a:Option Addr} {len cap:Nat} {f:Int} {l:List (Int × Int)} (I:w.heap.size+1<b) (B:w6.heap[w.heap.size+1]? = some (.cells #[.int .i64 0,.slice none 0 0] 39 (0,0))) (A:Bw w w6) (F:SlC jbO 2 w7.heap.size w7 a len cap l) (G:∀ x,a=some x->w6.heap.size<=x.block) (D:w6.grownBy w7 (some b)) :
  w7.heap[w.heap.size+1]? = some (.cells #[.int .i64 0,.slice none 0 0] 39 (0,0))/\jvh w.heap.size w w7 a len cap f l:=by
 have J:=(Array.getElem?_eq_some_iff.1 B).1;have C:=(D.block _ J (fun e=>by cases e;omega)).trans B;refine⟨C,jbB C,?_,?_⟩
 ·have H:((w7.setCell ⟨w.heap.size+1,0,none⟩ (.int .i64 f)).setCell ⟨w.heap.size+1,1,none⟩ (.slice a len cap)).heap.size=w7.heap.size:=by simp
  rw[H];refine jms F fun x L=>?_
  have:=G x L;exact (Below.heap_setCell _ _ _ _ (fun e=>by simp at e;omega)).trans (Below.heap_setCell _ _ _ _ (fun e=>by simp at e;omega))
 ·have E:Bw w w7:=A.grown D A.size (fun k e=>by cases e;omega)
  exact (E.setCell (p:=⟨w.heap.size+1,0,none⟩) (Nat.le_succ _) _).setCell (p:=⟨w.heap.size+1,1,none⟩) (Nat.le_succ _) _
end Go.Proofs.YtafhpamnegmilaaGreatDoor
namespace Go.Proofs.YtafhpamnegmilaaGreatDoor
open Go Go.RowKit Go.Shelf Go.Maps Go.Sort
theorem jrO (l:List (Int × Int)) (a:List (Int × Int)) (c:Int × Int):jaB a (l++[c])=jaC (jaB a l) c.1 c.2:=by simp[jaB]
theorem joD (l:List (Int × Int)) (k:Nat):jb5 (jaB [] ((l.take k).map fun b=>(jaR b.1,b.2))):=jd0 _ [] List.Pairwise.nil
theorem jtP (l:List (Int × Int)) (f:Nat) (F:f<=3) (B:∀ b∈l,jao f b.1=true) (C:jbj l):jbj (jaB [] (l.map fun b=>(jaR b.1,b.2)))/\∀ c∈jaB [] (l.map fun b=>(jaR b.1,b.2)),I64 c.1:=by
 refine⟨jcF _ [] (fun b E=>by cases E) (fun c D=>by obtain⟨d,A,rfl⟩:=List.mem_map.1 D;exact C d A),fun c D=>?_⟩;rcases jdZ _ [] c D with A | ⟨d,A,e⟩ | ⟨d,A,e⟩
 ·cases A
 ·cases A
 ·obtain⟨x,G,rfl⟩:=List.mem_map.1 A
  rw[e];have:=jcp f F x.1 (B x G);unfold jaR I64;show _/\_;split<;>omega
theorem jm8 (f:Nat) (l:List (Int × Int)) (a:Option Addr) (len cap:Nat) (w:World) (h1:1<=f) (hf:f<=3) (hL:SlE jbO 2 w.heap.size w a len l) (hr:jaP f l=true) (ae:∀ b∈l,jao f b.1=true) (af:jbj l) (aX:len<=1000) :
  Calls Tryz.prog 285 #[.agg #[.int .i64 f,.slice a len cap]] w fun e w'=>∃ Q C B,e=.returned (.tuple #[.agg #[.int .i64 ((f:Int)-1),.slice Q C B],.int .i64 0])/\SlC jbO 2 w'.heap.size w' Q C B (jgg l)/\Bw w w':=by
 have x:=Lib.hid hL.1;have hp:∀ b∈l,I64 b.1:=fun b hb=>by have:=jcp f hf b.1 (ae b hb);unfold I64;omega
 obtain⟨W0,aZ,ab,aB,R,a4⟩:=jaI w #[.int .i64 f,.slice a len cap] 39 #[.int .i64 0,.slice none 0 0] 39;have ap:=Lib.hid (jcN f l a len cap W0 ((hL.below R).mono R.size) (by unfold maxLen;omega) (fun b hb=>(hp b hb).2));rw[hr] at ap;obtain⟨z0,z1⟩:=cl2 ab;have aO:=Lib.hid aB;have aR:=Lib.hid ab;have al:=Lib.hid R;have HL:=Lib.hid hL;have a7:wrap64 ((f:Int)-1)=(f:Int)-1:=by unfold wrap64;omega
 have a8:IntKind.i64.wrap ((f:Int)-1)=(f:Int)-1:=IntWalk.i64_in _ (by omega)
 have aI:Hid (∀ w1,Calls Tryz.prog 287 #[.int .i64 ((f:Int)-1)] w1 fun e w'=>∃ b,e=.returned (.tuple #[.agg #[.map (some b),.int .i64 ((f:Int)-1)],.nilIface])/\MapIs w' b 0 []/\w1.heap.size<=b/\Bw w1 w'):=fun w1=>by
  have:=jjy (f-1) w1 (by omega);rwa [show ((f-1:Nat):Int)=(f:Int)-1 by omega] at this
 clear hL hr aB R ab;go_enter Tryz.func285,Tryz.ntmps285;go_wp2_with fail;refine ap.out.mono ?_;rintro e w1 ⟨rfl,E⟩;have J:=jab E (Nat.le_refl _) aR.out;obtain⟨y0,y1⟩:=cl2 J;have ar:=Lib.hid J;clear J;go_wp2_with fail;refine (aI.out _).mono ?_;rintro e w2 ⟨b,rfl,ai,a2,G⟩;obtain⟨W3,a0,z,H,a5⟩:=jaf w2 #[.map (some b),.int .i64 ((f:Int)-1)] 348;have n:=G.size;have L:=jab (G.trans (H.mono n)) (Nat.le_refl _) ar.out;have p:=jab (G.trans (H.mono n)) (Nat.le_refl _) (jab E (Nat.le_refl _) aO.out);have aT:MapIs W3 b 0 []:=ai.kept (jaK H none) (by simp);have aW:=E.size;have m:Bw w W3:=(al.out.trans (E.mono al.out.size)).trans ((G.mono (by omega)).trans (H.mono (by omega)));have aq:=Lib.hid z;have au:=Lib.hid p;have h:=Lib.hid L;have g:=Lib.hid m;have a3:=ai.lt;obtain⟨x0,P⟩:=cl2 z;obtain⟨q0,q1⟩:=cl2 L;clear z p L ai G H E m;go_wp2_with fail;go_loopw [7,8,9,10,30] (fun _ _ _ _ i wr=>∃ k:Nat,k<=len/\i=.int .i64 k/\MapIs wr b k (jaB [] ((l.take k).map fun b=>(jaR b.1,b.2)))/\W3.grownBy wr (some b)) (fun _ _ _ _ i _=>len-(intOf i).toNat)
 case atStart=>exact⟨0,Nat.zero_le _,rfl,aT,World.grownBy.refl _ _⟩
 case round =>
  obtain⟨k,hk,rfl,hM,o⟩:=hrel;have ad:=(o.block _ (Array.getElem?_eq_some_iff.1 h.out).1 (fun e=>by cases e;omega)).trans h.out;have ac:=(o.block _ (Array.getElem?_eq_some_iff.1 au.out).1 (fun e=>by cases e;omega)).trans au.out;have T:=(o.block _ (Array.getElem?_eq_some_iff.1 aq.out).1 (fun e=>by cases e;omega)).trans aq.out;have S:Bw w wr:=g.out.grown o g.out.size (fun j e=>by cases e;omega);have aY:=o.size;by_cases ah:k<len
  ·obtain⟨c,b1,o1,hx,ea,E,p0,p1⟩:=jdU (HL.out.below S) ah
   subst ea;have HX:=Lib.hid hx;have U:=List.mem_of_getElem? hx;have aH:I64 c.1:=hp c U;have ak:U64 c.2:=af c U;have N:=ae c U;obtain⟨Y,O⟩:=jjE f h1 hf c.1 N;have ag:I64 (jaR c.1):=by have:=jcp f hf c.1 N;unfold jaR I64;split<;>omega
   obtain⟨P,x2⟩:=c;dsimp only at p0 p1 aH ak N Y O ag;obtain⟨W4,a1,aa,I,a6⟩:=jaf wr #[.int .i64 P,.int .u64 x2] 132;have am:=Lib.hid (jk8 f h1 hf P W4 N);obtain⟨lo,aG⟩:∃ lo,jcf f P=lo:=⟨_,rfl⟩;rw[aG] at am O Y;have q:=jab I (Nat.le_refl _) ad;have r:=jab I (Nat.le_refl _) T;obtain⟨u0,u1⟩:=cl2 aa;obtain⟨v0,v1⟩:=cl2 q;have aL:Hid (MapIs W4 b k (jaB [] ((l.take k).map fun b=>(jaR b.1,b.2)))):=hM.kept (jaK I none) (by simp);have aP:=Lib.hid aa;have av:=Lib.hid r;have aJ:=Lib.hid (o.trans (jaK I (some b)));clear ad ac T aa q r hM I o hx S;go_wp2_with fail;refine am.out.mono ?_;rintro e F ⟨hi,rfl,M⟩;have aw:Hid (F.drew.heap[w2.heap.size]? = some (.cells #[.map (some b),.int .i64 ((f:Int)-1)] 348 (0,0))):=jab M.drew (Nat.le_refl _) av.out;have aQ:Hid (F.drew.heap[wr.heap.size]? = some (.cells #[.int .i64 P,.int .u64 x2] 132 (0,0))):=jab M.drew (Nat.le_refl _) aP.out;have aM:Hid (MapIs F.drew b k (jaB [] ((l.take k).map fun b=>(jaR b.1,b.2)))):=aL.out.kept (jei (jaK M none)) (by simp);have aK:Hid (W3.grownBy F.drew (some b)):=aJ.out.trans (jei (jaK M (some b)))
   have u:Hid (CR 290 #[.int .i64 ((f:Int)-1),.int .u64 lo] F.drew (.int .i64 (jaR P))):=by
    have:=joR (f-1) lo.toNat F.drew (by omega) (by unfold U64 at O;omega);rwa [show ((f-1:Nat):Int)=(f:Int)-1 by omega,show ((lo.toNat:Nat):Int)=lo by unfold U64 at O;omega,Y] at this
   have aN:=joD l k
   have HP:Hid (∀ D,Below F.drew.heap.size F.drew D->Calls Tryz.prog 289 #[.agg #[.map (some b),.int .i64 ((f:Int)-1)],.int .i64 (jaR P),.int .u64 x2] D fun e w'=>e=.returned (.tuple #[])/\MapIs w' b (k+1) (jaC (jaB [] ((l.take k).map fun b=>(jaR b.1,b.2))) (jaR P) x2)/\D.grownBy w' (some b)):=fun D A =>
    jns b k ((f:Int)-1) (jaR P) x2 _ D (aM.out.kept (jaK A none) (by simp)) ag ak (by omega) aN (jcF _ [] (fun b hb=>by cases hb) (fun c hc=>by obtain⟨d,hd,rfl⟩:=List.mem_map.1 hc;exact af d (List.mem_of_mem_take hd)))
   have HC:Hid (∀ D,Below F.drew.heap.size F.drew D->D.cell? ⟨w2.heap.size,0,none⟩=some (.map (some b))/\D.cell? ⟨w2.heap.size,1,none⟩=some (.int .i64 ((f:Int)-1))/\D.cell? ⟨wr.heap.size,1,none⟩=some (.int .u64 x2)):=fun D A=>by
    have h1:=jab A (Nat.le_refl _) aw.out;exact⟨cCc h1 0,cCc h1 1,cCc (jab A (Nat.le_refl _) aQ.out) 1⟩
   have ao:Hid (∀ D w6,Below F.drew.heap.size F.drew D->MapIs w6 b (k+1) (jaC (jaB [] ((l.take k).map fun b=>(jaR b.1,b.2))) (jaR P) x2)->D.grownBy w6 (some b)->MapIs w6 b (k+1) (jaB [] ((l.take (k+1)).map fun b=>(jaR b.1,b.2)))/\W3.grownBy w6 (some b)):=fun D w6 A Z X=>by
    rw[jai HX.out,List.map_append];exact⟨by rw[List.map_singleton,jrO];exact Z,(aK.out.trans (jaK A _)).trans X⟩
   obtain⟨y0,y1,y2⟩:=HC.out _ (Below.refl _ _);clear M ak aH ag N Y O aG u0 u1 v0 v1 p0 p1 q0 q1 x0 U;go_wp2_with fail
   -- REGION
   refine wp_region_any (by kernel_rfl) ?_;change wpAny _ _ _ _ _ _ _ (World.drew _)
   ·
    refine ta 1 ?_;refine ta 3 ?_;refine ta 5 ?_;refine rd [0,2,6] (.cons rfl (fun K hK=>?_) (.cons rfl (fun K hK=>?_) (.cons rfl (fun K hK=>?_) .nil)))
    all_goals go_simp
    all_goals (refine hK _ _ ?_;clear hK K)
    all_goals first
     | (refine rq [2,6] (.cons rfl (fun K hK=>?_) (.cons rfl (fun K hK=>?_) .nil)))
     | (refine rq [0,4,6] (.cons rfl (fun K hK=>?_) (.cons rfl (fun K hK=>?_) (.cons rfl (fun K hK=>?_) .nil))))
     | (refine rq [0,2] (.cons rfl (fun K hK=>?_) (.cons rfl (fun K hK=>?_) .nil)))
    all_goals go_simp
    all_goals first
     |
      refine u.out.mono ?_;rintro e D ⟨rfl,A⟩;have hP:=HP.out D A;obtain⟨u0,u1,v1⟩:=HC.out D A;refine hK _ _ ?_;clear hK K
     | (refine hK _ _ ?_;clear hK K)
    all_goals first
     | (refine rq [4,6] (.cons rfl (fun K hK=>?_) (.cons rfl (fun K hK=>?_) .nil)))
     | (refine rq [2] (.cons rfl (fun K hK=>?_) .nil))
     | (refine rq [0,6] (.cons rfl (fun K hK=>?_) (.cons rfl (fun K hK=>?_) .nil)))
     | (refine rq [0,4] (.cons rfl (fun K hK=>?_) (.cons rfl (fun K hK=>?_) .nil)))
    all_goals go_simp
    all_goals first
     |
      refine u.out.mono ?_;rintro e D ⟨rfl,A⟩;have hP:=HP.out D A;obtain⟨u0,u1,v1⟩:=HC.out D A;refine hK _ _ ?_;clear hK K
     | (refine hK _ _ ?_;clear hK K)
    all_goals first
     | (refine rq [6] (.cons rfl (fun K hK=>?_) .nil))
     | (refine rq [4] (.cons rfl (fun K hK=>?_) .nil))
     | (refine rq [0] (.cons rfl (fun K hK=>?_) .nil))
    all_goals go_simp
    all_goals first
     |
      refine u.out.mono ?_;rintro e D ⟨rfl,A⟩;have hP:=HP.out D A;obtain⟨u0,u1,v1⟩:=HC.out D A;refine hK _ _ ?_;clear hK K
     | (refine hK _ _ ?_;clear hK K)
    all_goals (refine rd [7] (.cons rfl (fun K hK=>?_) .nil))
    all_goals go_simp
    all_goals
     refine hP.mono ?_;rintro e w6 ⟨rfl,Z,X⟩;refine hK _ _ ?_;clear hK K
    all_goals (refine wpAny_done (by kernel_rfl) ?_ _)
    all_goals
     obtain⟨aU,aV⟩:=ao.out D w6 A Z X;clear Z X hP A u0 u1 v1;go_wp2_with fail;go_roundw
     case rel=>exact⟨k+1,ah,by simp,aU,aV⟩
     case measure=>simp[intOf];exact jl1 ah
   -- END
  ·obtain rfl:k=len:=by omega
   have ay:MapIs wr b k (jaB [] (l.map fun b=>(jaR b.1,b.2))):=by have:=hM;rwa [List.take_of_length_le (by rw[<- x.out];exact Nat.le_refl _)] at this
   have aj:=joD l k;rw[List.take_of_length_le (by rw[<- x.out];exact Nat.le_refl _)] at aj;obtain⟨s,t⟩:=jtP l f hf ae af;have an:=Lib.hid (jjz b k ((f:Int)-1) _ wr ay aj s t (by have:=jfe (l.map fun b=>(jaR b.1,b.2)) [];simp at this;have:=x.out;omega) (by omega));rw[show ja7 (jaB [] (l.map fun b=>(jaR b.1,b.2)))=jgg l from rfl] at an;have HE:=Lib.hid (fun w7 Q C B=>jtR (w:=w) (w6:=wr) (w7:=w7) (b:=b) (a:=Q) (len:=C) (cap:=B) (f:=(f:Int)-1) (l:=jgg l) (by omega) ac S);obtain⟨u0,u1⟩:=cl2 T;clear ad ac T hM ay o S aj s t;go_wp2_with fail;refine an.out.mono ?_;rintro e w7 ⟨Q,C,B,rfl,az,aE,aF⟩;obtain⟨y,aD⟩:=HE.out w7 Q C B az aE aF;obtain⟨m0,m1⟩:=cl2 y;obtain⟨n0,n1⟩:=cz2 y;have aS:=Lib.hid aD;clear y aD az aE aF;go_wp2_with fail;obtain⟨aC,aA,ax⟩:=aS.out;generalize (w7.setCell ⟨w.heap.size+1,0,none⟩ (.int .i64 ((f:Int)-1))).setCell ⟨w.heap.size+1,1,none⟩ (.slice Q C B)=V at aC aA ax ⊢;obtain⟨q0,q1⟩:=cl2 aC;exact bodyPost_ret (v:=.tuple #[.agg #[.int .i64 ((f:Int)-1),.slice Q C B],.int .i64 0]) (by simp[results,Tryz.f285,go_sem,q0,q1]) rfl ⟨Q,C,B,rfl,aA,ax⟩
end Go.Proofs.YtafhpamnegmilaaGreatDoor
namespace Go.Proofs.YtafhpamnegmilaaGreatDoor
open Go Go.RowKit
theorem jfV (B b:Nat) (H:List Value) (c:Int) (w:World) (h:Lib.IsBuilderF 206 5 B b H w) (U:H.length+1<=140737488355328) (Z:B<=w.heap.size) :
  Calls Tryz.prog 141 #[.pointer (some ⟨b,0,none⟩),.int .u8 c] w fun e w'=>e=.returned .nilIface/\(Lib.BuilderAtF 206 5 B b (.pointer (some ⟨b,0,none⟩)) (H++[.int .u8 c]) w'/\Below B w w'/\Lib.OthersKept 5 (some b) w w'):=by
 obtain⟨i0,a,P,Q,R⟩:=info_parts jra;go_enter Tryz.func141,Tryz.ntmps141;go_wp2_with fail;refine (jf3 B b H _ h).mono ?_;rintro e I ⟨rfl,Y,E,M⟩;obtain⟨S,v,G,C,O⟩:=Y;have i:I.cell? ⟨b,0,none⟩=some (.pointer (some ⟨b,0,none⟩)):=by rw[Lib.cell_of_heap G];rfl
 have c1:I.cell? ⟨b,1,none⟩=some v:=by rw[Lib.cell_of_heap G];rfl
 go_wp2_with (at_builtin;refine wpList_append_ownF _ rfl _ _ 200 rfl B 5 i0 (.int .u8 0) 1 1 jsq a P Q R rfl (by decide) _ _ _ rfl (C.alloc _) ⟨I.heap.size,0,none⟩ 1 1 [.int .u8 c] rfl rfl ?c1 ?c2 ?c3 ?c4 ?c5 ?_)
 case c1 =>
  intro j u J
  match j,J with
  | 0,J=>simp at J;subst J;simp[Addr.add]
 case c2=>intro u V;simp at V;subst V;rfl
 case c3=>unfold maxLen;omega
 case c4=>omega
 case c5=>have:=E.size;simp;omega
 intro v' L D A _;have N:b<I.heap.size:=(Array.getElem?_eq_some_iff.1 G).1
 have F:L.heap[b]? = some (.cells #[.pointer (some ⟨b,0,none⟩),v] 206 (0,0)):=by
  rw[A.block b (by simp;omega) (fun e=>O e.symm),Lib.alloc_old I _ b N];exact G
 have l:L.cell? ⟨b,0,none⟩=some (.pointer (some ⟨b,0,none⟩)):=by rw[Lib.cell_of_heap F];rfl
 have m:L.cell? ⟨b,1,none⟩=some v:=by rw[Lib.cell_of_heap F];rfl
 have n:L.frozen? ⟨b,1,none⟩=false:=Lib.frozen_of_heap F 1
 obtain⟨g,cap,rfl⟩:∃ g cap,v'=.slice (some ⟨g,0,none⟩) (H.length+1) cap:=by
  rcases D.2 with⟨_,q⟩ | ⟨g,cap,X,o,f,_⟩
  ·omega
  ·exact⟨g,cap,f⟩
 go_wp2;go_ret;refine⟨rfl,?_,?_,((M.alloc _).grown A (Lib.ownsRowF_kind (C.alloc _))).setCell ⟨b,1,none⟩ rfl _⟩
 ·exact Lib.BuilderAtF.put (T:=206) (e:=5) S F (bs':=H++[.int .u8 c]) (by simpa using D) (by decide)
 ·exact ((E.alloc (by have:=E.size;omega) _).grown A (by have:=E.size;simp;omega) (fun k d=>(C.lt k d).1)).setCell (p:=⟨b,1,none⟩) S _
theorem jed (B b:Nat) (E:List Value) (r:Int) (U : -2147483648<=r) (V:r<=2147483647) (w:World) (h:Lib.IsBuilderF 206 5 B b E w) (L:E.length+4<=140737488355328) (c:B<=w.heap.size) :
  Calls Tryz.prog 142 #[.pointer (some ⟨b,0,none⟩),.int .i32 r] w fun e w'=>(∃ v,e=.returned v)/\(Lib.BuilderAtF 206 5 B b (.pointer (some ⟨b,0,none⟩)) (E++Lib.runeCells r) w'/\Below B w w'/\Lib.OthersKept 5 (some b) w w'):=by
 have f:=Lib.runeCells_le r;go_enter Tryz.func142,Tryz.ntmps142;go_wp2_with fail;refine (jf3 B b E _ h).mono ?_;rintro e N ⟨rfl,a,G,Q⟩;obtain⟨Y,v,I,D,S⟩:=a
 obtain⟨J,cap,rfl⟩:∃ J cap,v=.slice J E.length cap:=by
  rcases D.2 with⟨M,X⟩ | ⟨g,cap,P,Z,M,_⟩
  ·exact⟨none,0,by rw[M,X]⟩
  ·exact⟨_,_,M⟩
 have i:N.cell? ⟨b,0,none⟩=some (.pointer (some ⟨b,0,none⟩)):=by rw[Lib.cell_of_heap I];rfl
 have c1:N.cell? ⟨b,1,none⟩=some (.slice J E.length cap):=by rw[Lib.cell_of_heap I];rfl
 go_wp2_with fail;refine (Tryz.utf8_AppendRune_row B _ E.length E r U V _ D L (by have:=G.size;omega)).mono ?_;rintro e O ⟨v',rfl,F,o,A⟩;have R:b<N.heap.size:=(Array.getElem?_eq_some_iff.1 I).1
 have H:O.heap[b]? = some (.cells #[.pointer (some ⟨b,0,none⟩),.slice J E.length cap] 206 (0,0)):=by
  rw[A.block b (by simp;omega) (fun e=>S e.symm),Lib.alloc_old N _ b R];exact I
 have j:O.cell? ⟨b,0,none⟩=some (.pointer (some ⟨b,0,none⟩)):=by rw[Lib.cell_of_heap H];rfl
 have l:O.cell? ⟨b,1,none⟩=some (.slice J E.length cap):=by rw[Lib.cell_of_heap H];rfl
 have m:O.frozen? ⟨b,1,none⟩=false:=Lib.frozen_of_heap H 1
 obtain⟨g,C,rfl⟩:∃ g C,v'=.slice (some ⟨g,0,none⟩) (E.length+(Lib.runeCells r).length) C:=by
  rcases F.2 with⟨_,X⟩ | ⟨g,C,P,Z,M,_⟩
  ·omega
  ·exact⟨g,C,M⟩
 go_wp2;go_ret2;refine⟨⟨_,rfl⟩,?_,?_,((Q.alloc _).grown A (Lib.ownsRowF_kind (D.alloc _))).setCell ⟨b,1,none⟩ rfl _⟩
 ·exact Lib.BuilderAtF.put (T:=206) (e:=5) Y H (bs':=E++Lib.runeCells r) (by simpa using F) (by decide)
 ·exact ((G.alloc (by have:=G.size;omega) _).grown A (by have:=G.size;simp;omega) (fun k d=>(D.lt k d).1)).setCell (p:=⟨b,1,none⟩) Y _
end Go.Proofs.YtafhpamnegmilaaGreatDoor
