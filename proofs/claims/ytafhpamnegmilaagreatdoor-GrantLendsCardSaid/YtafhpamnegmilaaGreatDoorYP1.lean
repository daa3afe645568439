/- Package grant: Issue. slices.Clone, slices.Delete at []api.Grant; Revoke. Package grant: Revoke. aviarylaw15.cut, Few. jcs as an argument, opened. Package ladder: a body's add and lower through the interface. Package ladder: lowered. The plain law of tables: labels are in a strict order; a series put in is inserted; two of different labels may be put in either way about. No program. -/
import Derived.Test.YtafhpamnegmilaaGreatDoorYRKs
import Derived.Test.YtafhpamnegmilaaGreatDoorYG3
set_option maxHeartbeats 2000000
set_option maxRecDepth 100000
namespace Go.Proofs.YtafhpamnegmilaaGreatDoor
open Go Go.RowKit Go.Shelf
def jhk (g:jcs) (tnt:Int) (s:jb4):jcs × Int × Int :=
 if jcK g then (if jdy s then (if (g.l.length:Int)==10||g.next==18446744073709551615 then (⟨0,[]⟩,0,151) else (⟨g.next+1,g.l++[⟨g.next,tnt,s⟩]⟩,g.next,0)) else (⟨0,[]⟩,0,50)) else (⟨0,[]⟩,0,150)
def jim (lo n₀:Nat) (w:World) (v:Value) (g:jcs):Prop:=∃ a len cap,v=.agg #[.int .u64 g.next,.slice a len cap]/\Grs n₀ w (.slice a len cap) g.l/\∀ x,a=some x->lo<=x.block
def jj8 (r:jcs × Int × Int) (w:World) (e:Ending) (w':World):Prop :=
 ∃ v,e=.returned (.tuple #[v,.int .u64 r.2.1,.int .i64 r.2.2])/\jim w.heap.size w'.heap.size w' v r.1/\Bw w w'
theorem je6:(Tryz.prog.info? 85).map (fun i=>(i.zero,i.size,i.bytes))=some (some (.agg #[.int .u64 0,.int .u64 0,.string ⟨#[]⟩]),3,32):=by kernel_rfl
theorem jdT:Tryz.prog.underlying 49=some (.slice 85):=by kernel_rfl
theorem jkC (l:List Gr):∀ u∈l.flatMap Gr.enc,u.oneCell'=true:=by
 intro u B;obtain⟨x,_,A⟩:=List.mem_flatMap.1 B;simp only[Gr.enc,List.mem_cons,List.not_mem_nil,or_false] at A;rcases A with rfl | rfl | rfl<;>rfl
theorem jg0 {w W:World} {r:jcs × Int × Int} {A:Int} {tm:Array Value} (G:W.heap[w.heap.size+1]? = some (.cells #[.int .u64 0,.slice none 0 0] 51 (0,0))) (F:Bw w W) (E:r=(⟨0,[]⟩,0,A))
  (H:tm[6]?.getD undef=.pointer (some ⟨w.heap.size+1,0,none⟩)) (I:tm[7]?.getD undef=.int .u64 0) (J:tm[8]?.getD undef=.int .i64 A) :
  bodyPost Tryz.prog Tryz.f45 (jj8 r w) Exit.ret { tmps:=tm,defers:=[] } ((W.setCell ⟨w.heap.size+1,0,none⟩ (.int .u64 0)).setCell ⟨w.heap.size+1,1,none⟩ (.slice none 0 0)):=by
 have D:=jbB (u:=.int .u64 0) (v:=.slice none 0 0) G;have B:=cCc D 0;have C:=cCc D 1;simp at B C;subst E;refine bodyPost_ret (v:=.tuple #[.agg #[.int .u64 0,.slice none 0 0],.int .u64 0,.int .i64 A]) (by simp[results,Tryz.f45,go_sem,B,C,H,I,J]) rfl ⟨_,rfl,⟨none,0,0,rfl,.inl ⟨rfl,rfl,rfl⟩,fun x h=>by cases h⟩,(F.setCell (p:=⟨w.heap.size+1,0,none⟩) (Nat.le_succ _) _).setCell (p:=⟨w.heap.size+1,1,none⟩) (Nat.le_succ _) _⟩
theorem jmW (g:jcs) (a:Option Addr) (len cap:Nat) (G:Int) (s:jb4) (w:World) (hL:Grs w.heap.size w (.slice a len cap) g.l) (hG:GW w) (hu:U64 g.next) :
  Calls Tryz.prog 45 #[.agg #[.int .u64 g.next,.slice a len cap],.int .u64 G,.string s.1] w (jj8 (jhk g G s) w):=by
 obtain⟨r,-⟩:=SlAt.elems jcg hL;subst r;have F:Bw w (w.alloc (.cells #[.int .u64 g.next,.slice a g.l.length cap] 51)):=(Below.refl _ w).alloc (Nat.le_refl _) _;have hX:=World.alloc_heap_new w (.cells #[.int .u64 g.next,.slice a g.l.length cap] 51);obtain⟨V,H⟩:∃ V,(w.alloc (.cells #[.int .u64 g.next,.slice a g.l.length cap] 51)).alloc (.cells #[.int .u64 0,.slice none 0 0] 51)=V:=⟨_,rfl⟩;have S:Bw w V:=by rw[<- H];exact F.alloc (by simp) _
 have an:V.heap.size=w.heap.size+2:=by rw[<- H];simp
 have U:V.heap[w.heap.size]? = some (.cells #[.int .u64 g.next,.slice a g.l.length cap] 51 (0,0)):=by rw[<- H];exact (Below.heap_alloc _ _ _ (by simp)).trans hX
 have m:V.heap[w.heap.size+1]? = some (.cells #[.int .u64 0,.slice none 0 0] 51 (0,0)):=by rw[<- H];have:=World.alloc_heap_new (w.alloc (.cells #[.int .u64 g.next,.slice a g.l.length cap] 51)) (.cells #[.int .u64 0,.slice none 0 0] 51);rwa [World.size_alloc] at this
 have z:=cCc U 0;have c1:=cCc U 1;have hR:=jed g a g.l.length cap V ((SlAt.below S hL).mono S.size) (hG.below S);simp at z c1;clear F hX;go_enter Tryz.func45,Tryz.ntmps45;go_wp2_with fail;refine hR.mono ?_;rintro e w1 ⟨rfl,J⟩;have f:=(J.block _ (by omega)).trans U;have C:=(J.block _ (by omega)).trans m;have F:Bw w w1:=S.trans (J.mono (by omega));have t:=J.size;have d0:=cCc C 0;have d1:=cCc C 1;have d2:=cFz C 0;have d3:=cFz C 1;simp at d0 d1;clear H hR z c1 U m J
 cases hr:jcK g with
 | false =>
  have c:=Lib.hid hr;clear hr;go_wp2_with fail;exact jg0 C F (by simp[jhk,c.out]) rfl rfl rfl
 | true =>
  have c:=Lib.hid hr;obtain⟨ak,al⟩:=jgK hr;obtain⟨ao,ap⟩:=hu;have hS:=jnF s w1 (hG.below F);clear hr;go_wp2_with fail;refine hS.mono ?_;rintro e w2 ⟨rfl,L⟩;have b:=(L.block _ (by omega)).trans f;have B:=(L.block _ (by omega)).trans C;have T:Bw w w2:=F.trans (L.mono (by omega));have aq:=L.size;have z:=cCc b 0;have c1:=cCc b 1;clear d0 d1 d2 d3;have d0:=cCc B 0;have d1:=cCc B 1;have d2:=cFz B 0;have d3:=cFz B 1;simp at z c1 d0 d1;clear hS f C L
  cases hs:jdy s with
  | false =>
   have d:=Lib.hid hs;clear hs;go_wp2_with fail;exact jg0 B T (by simp[jhk,c.out,d.out]) rfl rfl rfl
  | true =>
   have d:=Lib.hid hs;clear hs;by_cases Y:g.l.length=10
   ·have t1:((g.l.length:Int)==10)=true:=by simp[Y]
    have H1:=Lib.hid t1;clear Y;go_wp2_with fail;exact jg0 B T (by simp[jhk,c.out,d.out,H1.out]) rfl rfl rfl
   have t1:((g.l.length:Int)==10)=false:=by rw[beq_eq_false_iff_ne];omega
   by_cases hm:g.next=18446744073709551615
   ·have t2:(g.next==18446744073709551615)=true:=by rw[beq_iff_eq];exact hm
    have H2:=Lib.hid t2;clear hm;go_wp2_with fail;exact jg0 B T (by simp[jhk,c.out,d.out,H2.out]) rfl rfl rfl
   have t2:(g.next==18446744073709551615)=false:=by rw[beq_eq_false_iff_ne];exact hm
   have am:g.next<=18446744073709551614:=by omega
   have aa:Hid (jhk g G s=(⟨g.next+1,g.l++[⟨g.next,G,s⟩]⟩,g.next,0)):=by simp only[Hid,jhk,c.out,d.out,t1,t2];rfl
   clear Y hm;obtain⟨i0,hi,ai,t,y⟩:=info_parts je6;obtain⟨w3,ag,R,Q⟩:=run_make_own (P:=Tryz.prog) w2 (w.heap.size+2) 49 85 i0 _ 3 jdT hi ai t .i64 .i64 (g.l.length+1) (by rw[y];omega) (by unfold maxLen;omega) (by omega);have O:((g.l.length+1:Nat):Int)=(g.l.length:Int)+1:=by omega
   rw[O] at ag;have Z:Bw w w3:=T.grown Q (by omega) (fun k e=>by cases e);have i:=(Q.block w.heap.size (by omega) (by simp)).trans b;have af:=(Q.block (w.heap.size+1) (by omega) (by simp)).trans B;have ar:=Q.size;have ad:Grs w3.heap.size w3 (.slice a g.l.length cap) g.l:=(SlAt.below Z hL).mono Z.size;obtain⟨v4,w4,n,A,ab,au,M,-⟩:=jmJ Tryz.prog 49 jdT je6 rfl (by decide) R Z (by omega) (by omega) ad (jgb Gr.enc 3 jcg g.l) (jkC g.l) (by omega) (by omega) (by decide);rw[Nat.zero_add,List.nil_append] at A;obtain⟨X,E,w5,o,D,ac,av,N,-⟩:=jaL Tryz.prog 49 jdT je6 rfl (by decide) A ab (by omega) (by omega) [.int .u64 g.next,.int .u64 G,.string s.1] rfl (by simp[Value.oneCell']) (by omega) (by decide);have j:=(M w.heap.size (by omega)).trans i;have ae:=(N w.heap.size (by omega)).trans j;have I:=(N (w.heap.size+1) (by omega)).trans ((M (w.heap.size+1) (by omega)).trans af);have k0:=cCc i 1;have k1:=cCc j 0;have k2:=cCc ae 0;have m0:=cCc I 0;have m1:=cCc I 1;have m2:=cFz I 0;have m3:=cFz I 1;simp at k0 k1 k2 m0 m1;obtain⟨va,vc,rfl⟩:=jl7 A;have q:Hid (w5.ownsRow (w.heap.size+2) 85 3 (.slice (some ⟨X,0,none⟩) (g.l.length+1) E) (g.l.length+1) (g.l.flatMap Gr.enc++[.int .u64 g.next,.int .u64 G,.string s.1])):=D;have aj:w.heap.size+2<=X:=(D.lt X rfl).1;clear M N R A D Q O;go_wp2_with (first | (at_builtin;refine jb0 rfl (.tmp 33) (.tmp 35) _ rfl rfl rfl n ?_) | (at_builtin;refine jb0 rfl (.tmp 37) (.tmp 43) _ rfl rfl rfl o ?_));go_region
   all_goals go_wp2_with fail
   have hf:=jbB (u:=.int .u64 (g.next+1)) (v:=.slice (some ⟨X,0,none⟩) (g.l.length+1) E) I;have f0:=cCc hf 0;have f1:=cCc hf 1;simp at f0 f1;have hq:=ownsRow_setCell_below (ownsRow_setCell_below q.out (a:=⟨w.heap.size+1,0,none⟩) (by show w.heap.size+1<_;omega) (.int .u64 (g.next+1))) (a:=⟨w.heap.size+1,1,none⟩) (by show w.heap.size+1<_;omega) (.slice (some ⟨X,0,none⟩) (g.l.length+1) E);have ah:=(je4 hq).drew;rw[aa.out];refine bodyPost_ret (v:=.tuple #[.agg #[.int .u64 (g.next+1),.slice (some ⟨X,0,none⟩) (g.l.length+1) E],.int .u64 g.next,.int .i64 0]) (by simp[results,Tryz.f45,go_sem,f0,f1]) rfl ⟨_,rfl,⟨_,_,_,rfl,?_,fun x h=>by cases h;show w.heap.size<=X;omega⟩,((ac.setCell (p:=⟨w.heap.size+1,0,none⟩) (Nat.le_succ _) _).setCell (p:=⟨w.heap.size+1,1,none⟩) (Nat.le_succ _) _).drew⟩;unfold Grs;simpa [Gr.enc] using ah
theorem jqW (a:Option Addr) (n c:Nat) (w:World):(binOp .eql 49 (.slice a n c) (.slice none 0 0)).run Tryz.prog w=.ok (.bool a.isNone) w:=by
 exact Lib.run_eql_slice_nil w _ _ a n c 0 0 jdT
theorem jps (a:Option Addr) (len cap:Nat) (l:List Gr) (w:World) (G:Grs w.heap.size w (.slice a len cap) l) (I:l.length<2147483648) :
  Calls Tryz.prog 91 #[.slice a len cap] w fun e w'=>∃ v,e=.returned v/\w'.ownsRow w.heap.size 85 3 v l.length (l.flatMap Gr.enc)/\Bw w w':=by
 have L:=jqW a len cap
 cases a with
 | none =>
  have H:l=[]:=by
   rcases G with⟨_,h,_⟩ | ⟨b,off,c,e,_⟩
   ·exact List.eq_nil_of_length_eq_zero h
   ·simp at e
  subst H;go_enter Tryz.func91,Tryz.ntmps91;go_wp2_with fail;go_ret;exact⟨_,rfl,World.ownsRow_nil _ _ _ _,Below.refl _ _⟩
 | some a =>
  have C:Bw w (w.alloc (.cells #[] 85)):=(Below.refl _ w).alloc (Nat.le_refl _) _;have B:(w.alloc (.cells #[] 85)).ownsRow w.heap.size 85 3 (.slice (some ⟨w.heap.size,0,none⟩) 0 0) 0 []:=⟨rfl,.inr ⟨w.heap.size,0,#[],rfl,Nat.le_refl _,World.alloc_heap_new _ _,Nat.le_refl _,by unfold maxLen;omega,rfl,rfl⟩⟩;have D:Grs (w.alloc (.cells #[] 85)).heap.size (w.alloc (.cells #[] 85)) (.slice (some a) len cap) l:=(SlAt.below C G).mono (by simp);obtain⟨v4,M,E,A,F,J,-,-⟩:=jmJ Tryz.prog 49 jdT je6 rfl (by decide) B C (Nat.le_refl _) (by simp) D (jgb Gr.enc 3 jcg l) (jkC l) (by omega) (by omega) (by decide);rw[Nat.zero_add,List.nil_append] at A;clear G D B;go_enter Tryz.func91,Tryz.ntmps91;go_wp2_with (at_builtin;refine jb0 rfl _ _ _ rfl rfl rfl E ?_);go_ret;exact⟨_,rfl,A,F⟩
theorem jiW {α:Type} (enc:α->List Value) (k:Nat) (A:∀ x,(enc x).length=k):∀ (l:List α) (i:Nat),(l.flatMap enc).take (i*k)=(l.take i).flatMap enc/\(l.flatMap enc).drop (i*k)=(l.drop i).flatMap enc
 | [],i=>by simp
 | y::ys,0=>by simp
 | y::ys,i+1=>by
  obtain⟨B,C⟩:=jiW enc k A ys i;have e:(i+1)*k=(enc y).length+i*k:=by rw[A,Nat.succ_mul];omega
  simp only[List.flatMap_cons,List.take_succ_cons,List.drop_succ_cons];rw[e,List.take_length_add_append,List.drop_length_add_append,B,C];exact⟨rfl,rfl⟩
theorem jdI {g:Nat} {t:TypeId} {D:Nat × Nat}:∀ (vs:List Value) (o:Nat) (W:World) (B:Array Value),W.heap[g]? = some (.cells B t D)->o+vs.length<=B.size ->
  ∃ A,(W.setCells g o vs).heap[g]? = some (.cells A t D)/\A.size=B.size/\(∀ j,j<vs.length->A[o+j]? = vs[j]?)/\∀ j,(j<o\/o+vs.length<=j)->A[j]? = B[j]?
 | [],o,W,B,h,_=>⟨B,h,rfl,fun j C=>absurd C (by simp),fun _ _=>rfl⟩
 | v::r,o,W,B,h,hl=>by
  simp only[List.length_cons] at hl;obtain⟨A,F,G,H,E⟩:=jdI r (o+1) (W.setCell ⟨g,o,none⟩ v) (B.setIfInBounds o v) (hSk h v) (by simp;omega);refine⟨A,F,by simpa using G,fun j C=>?_,fun j C=>?_⟩
  ·cases j with
   | zero =>
    rw[Nat.add_zero,E o (.inl (by omega))];simp[show o<B.size by omega]
   | succ j =>
    have:=H j (by simp at C;omega);rw[show o+(j+1)=o+1+j by omega,this];simp
  ·simp only[List.length_cons] at C
   rw[E j (by omega)];have:j≠o:=by omega
   rw[Array.getElem?_setIfInBounds_ne (by omega)]
theorem jmy (l:List Gr) (i:Nat):(l.eraseIdx i).flatMap Gr.enc=(l.flatMap Gr.enc).take (i*3)++(l.flatMap Gr.enc).drop ((i+1)*3):=by
 rw[(jiW Gr.enc 3 jcg l i).1,(jiW Gr.enc 3 jcg l (i+1)).2,List.eraseIdx_eq_take_drop_succ,List.flatMap_append]
theorem jjj (g n m cap i:Nat) (A:Array Value) (w:World) (J:w.heap[g]? = some (.cells A 85 (0,0))) (L:m<n) (M:n<=m+1) (N:n<=cap) (F:A.size=cap*3) (T:i<=m) (I:∀ u∈A.toList.take (n*3),u.oneCell'=true) :
  (Builtin.append_ #[49,49] 49 #[.slice (some ⟨g,0,none⟩) i cap,.slice (if cap=i+1 then some ⟨g,0,none⟩ else some ⟨g,(i+1)*3,none⟩) (n-(i+1)) (cap-(i+1))]).run Tryz.prog w.drew =
   .ok (.slice (some ⟨g,0,none⟩) m cap) (w.drew.setCells g (i*3) ((A.toList.take (n*3)).drop ((i+1)*3))):=by
 obtain⟨i0,G,Q,D,R⟩:=info_parts je6;have E:w.drew.heap[g]? = some (.cells A 85 (0,0)):=J
 have B:((A.toList.take (n*3)).drop ((i+1)*3)).length=(n-(i+1))*i0.size:=by
  rw[D,List.length_drop,List.length_take,Array.length_toList,F,Nat.min_eq_left (Nat.mul_le_mul_right 3 N),<- Nat.sub_mul]
 have key:∀ a:Addr,(a=⟨g,(i+1)*3,none⟩\/(A.toList.take (n*3)).drop ((i+1)*3)=[])->(Builtin.append_ #[49,49] 49 #[.slice (some ⟨g,0,none⟩) i cap,.slice (some a) (n-(i+1)) (cap-(i+1))]).run Tryz.prog w.drew =
   .ok (.slice (some ⟨g,0,none⟩) (i+(n-(i+1))) cap) (w.drew.setCells g (0+i*i0.size) ((A.toList.take (n*3)).drop ((i+1)*3))):=by
  intro a ha;refine run_append_room_cells (P:=Tryz.prog) w.drew 49 49 85 i0 jdT G g 0 i cap a (n-(i+1)) (cap-(i+1)) _ B (fun j u C=>?_) (fun u O=>I u (List.mem_of_mem_drop O)) (by omega) (fun j C=>?_) (fun j C=>cFz E _)
  ·rcases ha with rfl | ha
   ·have H:(⟨g,(i+1)*3,none⟩:Addr).add j=⟨g,(i+1)*3+j,none⟩:=by unfold Addr.add;split<;>simp_all
    rw[H,cCc E];rw[List.getElem?_drop,List.getElem?_take] at C;split at C
    ·rw[<- C];simp
    ·cases C
   ·rw[ha] at C;simp at C
  ·rw[cCc E]
   rw[B,D] at C;rw[D];have:i*3+j<A.size:=by rw[F];omega
   simp[this]
 rw[D,Nat.zero_add,show i+(n-(i+1))=m by omega] at key;split
 ·rename_i S
  exact key _ (.inr (List.eq_nil_of_length_eq_zero (by rw[B,show n-(i+1)=0 by omega];simp)))
 ·exact key _ (.inl rfl)
theorem jnJ (g o c:Nat) (W:World) (C:∀ j,j<3->(W.cell? ⟨g,o+j,none⟩).isSome=true) (D:∀ j,j<3->W.frozen? ⟨g,o+j,none⟩=false) :
  (Builtin.clear_ #[49] 0 #[.slice (some ⟨g,o,none⟩) 1 c]).run Tryz.prog W=.ok (.tuple #[]) (W.setCells g o [.int .u64 0,.int .u64 0,.string ⟨#[]⟩]):=by
 have A:=run_storeCells_cells (P:=Tryz.prog) g o [.int .u64 0,.int .u64 0,.string ⟨#[]⟩] 0 W (by simpa using C) (by simpa using D) (by simp[Value.oneCell']);simp only[Nat.add_zero] at A;have B:(Builtin.zeroCells (Value.agg #[.int .u64 0,.int .u64 0,.string ⟨#[]⟩]).cells 1).toList=[.int .u64 0,.int .u64 0,.string ⟨#[]⟩]:=by kernel_rfl
 simp[Builtin.clear_,run_underlying jdT,B,A]
theorem jnO (g n m cap i:Nat) (B:Array Value) (l:List Gr) (w:World) (R:w.heap[g]? = some (.cells B 85 (0,0))) (T:m<n) (U:n<=m+1) (t:n<=cap) (q:n<2147483648) (hi:i<=m) (F:B.size=cap*3) (o:∀ u∈B.toList.take (n*3),u.oneCell'=true) (s:B.toList.take (n*3)=l.flatMap Gr.enc) (O:l.length=n) :
  Calls Tryz.prog 90 #[.slice (some ⟨g,0,none⟩) n cap,.int .i64 i,.int .i64 (i+1)] w fun e w'=>e=.returned (.slice (some ⟨g,0,none⟩) m cap)/\Grs w'.heap.size w' (.slice (some ⟨g,0,none⟩) m cap) (l.eraseIdx i)/\Below g w w':=by
 have b1:(0:Int)<=i:=by omega
 have b2:(i:Int)<=(i:Int)+1:=by omega
 have b3:(i:Int)+1<=(n:Nat):=by omega
 have b4:((n:Nat):Int)<=cap:=by omega
 have b5:(i:Int)<=cap:=by omega
 have b6:(i:Int)<=(n:Nat):=by omega
 have b7:(0:Int)<=(i:Int)+1:=by omega
 have b8:((i:Int)+1).toNat=i+1:=by omega
 have t1:((i:Int)==(i:Int)+1)=false:=by rw[beq_eq_false_iff_ne];omega
 have M:=jjj g n m cap i B w R T U t F hi o;have b:=Lib.hid s;have I:=Lib.hid F;have P:=Lib.hid O;have Z:=Lib.hid R;clear s F O o R;go_enter Tryz.func90,Tryz.ntmps90;go_wp2_with fail;go_region_law (refine jdS rfl (.tmp 22) (.tmp 25) _ rfl rfl rfl M ?_);have aa:m*3+3<=cap*3:=by omega
 have E:((B.toList.take (n*3)).drop ((i+1)*3)).length=(m-i)*3:=by
  rw[List.length_drop,List.length_take,Array.length_toList,I.out,Nat.min_eq_left (Nat.mul_le_mul_right 3 t)];omega
 obtain⟨A,D,v,x,y⟩:=jdI (g:=g) ((B.toList.take (n*3)).drop ((i+1)*3)) (i*3) w.drew B Z.out (by rw[E,I.out];omega);have Q:Below g w (w.drew.setCells g (i*3) ((B.toList.take (n*3)).drop ((i+1)*3))):=jfV (Below.refl g w).drew (Nat.le_refl _) _ _
 have C:Hid (∀ j,j<m*3->A[j]? = ((l.eraseIdx i).flatMap Gr.enc)[j]?):=fun j J=>by
  rw[jmy l i,<- b.out];by_cases h:j<i*3
  ·rw[y j (.inl h),List.getElem?_append_left (by rw[List.length_take,List.length_take,Array.length_toList,I.out];omega),List.getElem?_take_of_lt h,List.getElem?_take_of_lt (by omega)];simp
  ·have p:=x (j-i*3) (by rw[E];omega)
   rw[show i*3+(j-i*3)=j by omega] at p;rw[p,List.getElem?_append_right (by rw[List.length_take];omega)];congr 1;rw[List.length_take,List.length_take,Array.length_toList,I.out];omega
 have N:A.size=cap*3:=v.trans I.out;have a:=Lib.hid D;have c:=Lib.hid N;have V:(w.drew.setCells g (i*3) ((B.toList.take (n*3)).drop ((i+1)*3))).cell? ⟨g,m*3,none⟩=some (A[m*3]'(by omega)):=by rw[cCc D];simp[show m*3<A.size by omega]
 have X:(w.drew.setCells g (i*3) ((B.toList.take (n*3)).drop ((i+1)*3))).cell? ⟨g,m*3+1,none⟩=some (A[m*3+1]'(by omega)):=by rw[cCc D];simp[show m*3+1<A.size by omega]
 have Y:(w.drew.setCells g (i*3) ((B.toList.take (n*3)).drop ((i+1)*3))).cell? ⟨g,m*3+2,none⟩=some (A[m*3+2]'(by omega)):=by rw[cCc D];simp[show m*3+2<A.size by omega]
 have d:=cFz D (m*3);have f:=cFz D (m*3+1);have k:=cFz D (m*3+2);generalize A[m*3]'(by omega)=x0 at V;generalize A[m*3+1]'(by omega)=x1 at X;generalize A[m*3+2]'(by omega)=x2 at Y;generalize (w.drew.setCells g (i*3) ((B.toList.take (n*3)).drop ((i+1)*3)))=W1 at *;have bm:(m:Int)<=n:=by omega
 have bn:n-m=1:=by omega
 have S:Hid ((l.eraseIdx i).length=m):=by rw[Hid,List.length_eraseIdx,P.out];split<;>omega
 have H:Hid (((l.eraseIdx i).flatMap Gr.enc).length=m*3):=by
  rw[Hid,jgb Gr.enc 3 jcg,List.length_eraseIdx,P.out];split<;>omega
 clear D v x y N E M b I P Z;have r:=jnJ g (m*3) (cap-m) W1 (fun j J=>by rcases (by omega:j=0\/j=1\/j=2) with rfl | rfl | rfl<;>simp[V,X,Y]) (fun j J=>by rcases (by omega:j=0\/j=1\/j=2) with rfl | rfl | rfl<;>simp[d,f,k]);have L:Below g w (W1.setCells g (m*3) [.int .u64 0,.int .u64 0,.string ⟨#[]⟩]):=jfV Q (Nat.le_refl _) _ _
 have G:Grs (W1.setCells g (m*3) [.int .u64 0,.int .u64 0,.string ⟨#[]⟩]).heap.size (W1.setCells g (m*3) [.int .u64 0,.int .u64 0,.string ⟨#[]⟩]) (.slice (some ⟨g,0,none⟩) m cap) (l.eraseIdx i):=by
  obtain⟨c3,z,q2,q3,q4⟩:=jdI (g:=g) [.int .u64 0,.int .u64 0,.string ⟨#[]⟩] (m*3) W1 A a.out (by rw[c.out];simp;omega);refine .inr ⟨g,0,cap,by rw[S.out],(Array.getElem?_eq_some_iff.1 z).1,fun j J=>?_⟩;rw[H.out] at J;rw[cCc z,Nat.zero_add,q4 j (.inl J),C j J]
 clear C a c V X Y d f k;go_wp2_with fail
 all_goals go_ret
 ·rw[(by assumption:cap=i+1)] at G
  exact⟨rfl,G,L⟩
 ·exact⟨rfl,G,L⟩
theorem jkP (x:Gr) (B:Int) (b:Nat) (w:World) (A:Boxed w b 48 (.int .u64 B)) :
  Calls Tryz.prog 89 (#[x.agg]++#[.pointer (some ⟨b,0,none⟩)]) w fun e w'=>e=.returned (.bool (x.id==B))/\Bw w w':=by
 have D:=A.cell;have E:=A.lt;have C:Bw w (w.alloc (.cells #[.int .u64 x.id,.int .u64 x.tnt,.string x.scope.1] 85)):=(Below.refl _ w).alloc (Nat.le_refl _) _;unfold Gr.agg;simp only[List.append_toArray,List.cons_append,List.nil_append];clear A;go_enter Tryz.func89,Tryz.ntmps89;go_wp2_with fail;go_ret;exact⟨rfl,C⟩
def jg8 (g:jcs) (id:Int):jcs × Int :=
 if jcK g then (match g.l.findIdx? (fun x=>x.id==id) with | none=>(⟨0,[]⟩,121) | some i=>(⟨g.next,g.l.eraseIdx i⟩,0)) else (⟨0,[]⟩,150)
def jm2 (r:jcs × Int) (w:World) (e:Ending) (w':World):Prop :=
 ∃ v,e=.returned (.tuple #[v,.int .i64 r.2])/\jim w.heap.size w'.heap.size w' v r.1/\Bw w w'
theorem jji {w W:World} {r:jcs × Int} {A:Int} {tm:Array Value} (G:W.heap[w.heap.size+1+1]? = some (.cells #[.int .u64 0,.slice none 0 0] 51 (0,0))) (F:Bw w W) (E:r=(⟨0,[]⟩,A))
  (H:tm[4]?.getD undef=.pointer (some ⟨w.heap.size+1+1,0,none⟩)) (I:tm[5]?.getD undef=.int .i64 A) :
  bodyPost Tryz.prog Tryz.f47 (jm2 r w) Exit.ret { tmps:=tm,defers:=[] } ((W.setCell ⟨w.heap.size+1+1,0,none⟩ (.int .u64 0)).setCell ⟨w.heap.size+1+1,1,none⟩ (.slice none 0 0)):=by
 have D:=jbB (u:=.int .u64 0) (v:=.slice none 0 0) G;have B:=cCc D 0;have C:=cCc D 1;simp at B C;subst E;refine bodyPost_ret (v:=.tuple #[.agg #[.int .u64 0,.slice none 0 0],.int .i64 A]) (by simp[results,Tryz.f47,go_sem,B,C,H,I]) rfl ⟨_,rfl,⟨none,0,0,rfl,.inl ⟨rfl,rfl,rfl⟩,fun x h=>by cases h⟩,(F.setCell (p:=⟨w.heap.size+1+1,0,none⟩) (by show _<=w.heap.size+1+1;omega) _).setCell (p:=⟨w.heap.size+1+1,1,none⟩) (by show _<=w.heap.size+1+1;omega) _⟩
theorem jhw {B q off m A cap:Nat} {w:World} {cs:List Value} {p:Addr} (D:p.block≠q) (v:Value):SlAt B w (.slice (some ⟨q,off,none⟩) m cap) A cs->SlAt B (w.setCell p v) (.slice (some ⟨q,off,none⟩) m cap) A cs
 | .inl ⟨e,_⟩=>by cases e
 | .inr ⟨b,o,c,e,hb,hc⟩=>.inr ⟨b,o,c,e,hb,fun j C=>by
   obtain⟨rfl,_⟩:b=q/\True:=⟨by injection e with e1;injection e1 with e1;injection e1 with e1;exact e1.symm,trivial⟩;rw[World.cell?_setCell_other (h:=fun h=>D (by rw[h]))];exact hc j C⟩
theorem jmb (g:jcs) (a:Option Addr) (len cap:Nat) (Q:Int) (w:World) (hL:Grs w.heap.size w (.slice a len cap) g.l) (hG:GW w) :
  Calls Tryz.prog 47 #[.agg #[.int .u64 g.next,.slice a len cap],.int .u64 Q] w (jm2 (jg8 g Q) w):=by
 obtain⟨r,-⟩:=SlAt.elems jcg hL;subst r;have B:Bw w (w.alloc (.cells #[.int .u64 g.next,.slice a g.l.length cap] 51)):=(Below.refl _ w).alloc (Nat.le_refl _) _;have hX:=World.alloc_heap_new w (.cells #[.int .u64 g.next,.slice a g.l.length cap] 51);obtain⟨Wa,ad,b1,A,z⟩:=jxE (w.alloc (.cells #[.int .u64 g.next,.slice a g.l.length cap] 51)) (.int .u64 Q) 48
 try unfold Bw at A
 rw[World.size_alloc] at b1 z A;obtain⟨R,O⟩:∃ R,Wa.alloc (.cells #[.int .u64 0,.slice none 0 0] 51)=R:=⟨_,rfl⟩;have F:Bw Wa R:=by rw[<- O];exact (Below.refl _ _).alloc (Nat.le_refl _) _
 have N:Bw w R:=(B.trans (A.mono (by omega))).trans (F.mono (by omega));have an:R.heap.size=w.heap.size+3:=by rw[<- O];simp;omega
 have P:R.heap[w.heap.size]? = some (.cells #[.int .u64 g.next,.slice a g.l.length cap] 51 (0,0)):=(F.block _ (by omega)).trans ((A.block w.heap.size (by omega)).trans hX);have f:R.heap[w.heap.size+1+1]? = some (.cells #[.int .u64 0,.slice none 0 0] 51 (0,0)):=by rw[<- O];have:=World.alloc_heap_new Wa (.cells #[.int .u64 0,.slice none 0 0] 51);rwa [z] at this
 have e0:=jcT F b1.lt b1;have c0:=cCc P 0;have S:=cCc P 1;have hR:=jed g a g.l.length cap R ((SlAt.below N hL).mono N.size) (hG.below N);simp at c0 S;clear B hX A F b1;go_enter Tryz.func47,Tryz.ntmps47;go_wp2_with fail;refine hR.mono ?_;rintro e w1 ⟨rfl,G⟩;have X:=(G.block _ (by omega)).trans P;have C:=(G.block _ (by omega)).trans f;have e1:=jcT G e0.lt e0;have B:Bw w w1:=N.trans (G.mono (by omega));have ao:=G.size;have U:=cCc C 0;have V:=cCc C 1;have d2:=cFz C 0;have d3:=cFz C 1;simp at U V;clear ad O hR c0 S P f G
 cases hr:jcK g with
 | false =>
  have HR:=Lib.hid hr;clear hr;go_wp2_with fail;exact jji C B (by simp[jg8,HR.out]) rfl rfl
 | true =>
  have HR:=Lib.hid hr;obtain⟨ai,am⟩:=jgK hr;have S:=cCc X 1;simp at S
  have hp:jlw 89 #[.pointer (some ⟨w.heap.size+1,0,none⟩)] (fun x=>x.id==Q) w1 g.l:=by
   intro x _ W hW;exact jkP x Q (w.heap.size+1) W (jcT hW e1.lt e1)
  have c:Grs w1.heap.size w1 (.slice a g.l.length cap) g.l:=(SlAt.below B hL).mono B.size;have n:∀ args w,(callFunc 89 args).run Tryz.prog w=.ok (.enter 89 args) w:=enters_of Tryz.func89 (by kernel_rfl) rfl;have HC:=Lib.hid (jhj a g.l.length cap g.l _ _ _ w1 c (by omega) n hp);clear hp n hr;go_wp2_with fail;refine HC.out.mono ?_;rintro e w2 ⟨rfl,I⟩;clear HC U V d2 d3 S;have Y:=(I.block _ (by omega)).trans X;have D:=(I.block _ (by omega)).trans C;have A:Bw w w2:=B.trans (I.mono (by omega));have ap:=I.size;have U:=cCc D 0;have V:=cCc D 1;have d2:=cFz D 0;have d3:=cFz D 1;have S:=cCc Y 1;simp at S U V;clear X C I e1 e0 c
  cases M:g.l.findIdx? (fun x=>x.id==Q) with
  | none =>
   have HF:=Lib.hid M;have o:jiZ (fun x=>x.id==Q) g.l = -1:=by simp only[jiZ,M]
   rw[o];clear M o;go_wp2_with fail;exact jji D A (by simp[jg8,HR.out,HF.out]) rfl rfl
  | some i =>
   have HF:=Lib.hid M;have o:jiZ (fun x=>x.id==Q) g.l=i:=by simp only[jiZ,M]
   have aj:i<g.l.length:=(List.findIdx?_eq_some_iff_getElem.1 M).1;rw[o];have t1:decide ((i:Int)<0)=false:=by simp
   have b:=Lib.hid (jps a g.l.length cap g.l w2 ((SlAt.below A hL).mono A.size) (by omega));clear M o;go_wp2_with fail;refine b.out.mono ?_;rintro e w3 ⟨v3,rfl,T,J⟩;rcases T.2 with⟨_,h0⟩ | ⟨q,E,aa,rfl,hq,y,s,af,k,Z⟩
   ·omega
   have d:=(J.block _ (by omega)).trans Y;have j:=(J.block _ (by omega)).trans D;have ab:Bw w w3:=A.trans (J.mono (by omega));have aq:=J.size;obtain⟨m,ak,al⟩:∃ m,m<g.l.length/\g.l.length<=m+1:=⟨g.l.length-1,by omega,by omega⟩;have HD:=Lib.hid (jnO q g.l.length m E i aa g.l w3 y (by omega) (by omega) s (by omega) (by omega) k (by rw[Z];exact jkC g.l) Z rfl);clear b S U V d2 d3 Y D J T y s af k Z;go_wp2_with fail;refine HD.out.mono ?_;rintro e w4 ⟨rfl,ag,L⟩;have ae:=(L.block _ (by omega)).trans d;have H:=(L.block _ (by omega)).trans j;have ac:Bw w w4:=ab.trans (L.mono (by omega));have ar:=L.size;have c0:=cCc ae 0;have U:=cCc H 0;have V:=cCc H 1;have d2:=cFz H 0;have d3:=cFz H 1;simp at c0 U V;clear HD d j L;go_wp2_with fail;have M:=jbB (u:=.int .u64 g.next) (v:=.slice (some ⟨q,0,none⟩) m E) H;have f0:=cCc M 0;have f1:=cCc M 1;simp at f0 f1;have t:w.heap.size+1+1≠q:=by omega
   have ah:=jhw (p:=⟨w.heap.size+1+1,1,none⟩) t (.slice (some ⟨q,0,none⟩) m E) (jhw (p:=⟨w.heap.size+1+1,0,none⟩) t (.int .u64 g.next) ag);have h9:jg8 g Q=(⟨g.next,g.l.eraseIdx i⟩,0):=by simp[jg8,HR.out,HF.out]
   rw[h9];refine bodyPost_ret (v:=.tuple #[.agg #[.int .u64 g.next,.slice (some ⟨q,0,none⟩) m E],.int .i64 0]) (by simp[results,Tryz.f47,go_sem,f0,f1]) rfl ⟨_,rfl,⟨_,_,_,rfl,?_,fun x h=>by cases h;show w.heap.size<=q;omega⟩,(ac.setCell (p:=⟨w.heap.size+1+1,0,none⟩) (by show _<=w.heap.size+1+1;omega) _).setCell (p:=⟨w.heap.size+1+1,1,none⟩) (by show _<=w.heap.size+1+1;omega) _⟩;exact ah.mono (by simp[World.setCell])
def jsq (n:Nat) (hn:n<4294967281) (s:ByteArray):jb4:=⟨jmX n s,jmY n hn s⟩
theorem jqK (s:ByteArray) (w:World) :
  CR 19 #[.string s] w (.string (jmX 200 s)):=by
 go_enter Tryz.func19,Tryz.ntmps19;go_wp2_with fail;go_ret;exact⟨rfl,Below.refl _ _⟩
structure RGr where
 id:Int
 tnt:Int
 scope:ByteArray
def RGr.enc (g:RGr):List Value:=[.int .u64 g.id,.int .u64 g.tnt,.string g.scope]
theorem ji9 (g:RGr):g.enc.length=3:=rfl
def RGr.cut (g:RGr):Gr:=⟨g.id,g.tnt,jsq 200 (by decide) g.scope⟩
def jrX (n₀:Nat) (w:World) (sv:Value) (l:List RGr):Prop:=SlAt n₀ w sv l.length (l.flatMap RGr.enc)
def jjn (next:Int) (l:List RGr):jcs:=⟨next,(l.take 12).map RGr.cut⟩
theorem ji6 {w w':World} {A B n:Nat} {e:TypeId} {v:Value} {xs:List Value} (h:w.ownsRow A e B v n xs) (G:∀ g,v.ownBlock=some g->w'.heap[g]? = w.heap[g]?):w'.ownsRow A e B v n xs:=by
 refine⟨h.1,?_⟩;rcases h.2 with h | ⟨g,cap,C,rfl,D,E,F⟩
 ·exact .inl h
 ·exact .inr ⟨g,cap,C,rfl,D,(G g rfl).trans E,F⟩
theorem jpL {l:List RGr} {k:Nat} {x:RGr} (A:l[k]? = some x):((l.take (k+1)).map RGr.cut).flatMap Gr.enc=((l.take k).map RGr.cut).flatMap Gr.enc++[.int .u64 x.id,.int .u64 x.tnt,.string (jmX 200 x.scope)]:=by
 rw[jai A];simp[RGr.cut,Gr.enc,jsq]
theorem jnY (next:Int) (l:List RGr) (a:Option Addr) (len cap:Nat) (w:World) (s:jrX w.heap.size w (.slice a len cap) l) :
  Calls Tryz.prog 17 #[.agg #[.int .u64 next,.slice a len cap]] w fun e w'=>∃ v,e=.returned v/\jim w.heap.size w'.heap.size w' v (jjn next l)/\Bw w w':=by
 obtain⟨o,-⟩:=SlAt.elems ji9 s;subst o;have Z:Bw w (w.alloc (.cells #[.int .u64 next,.slice a l.length cap] 51)):=(Below.refl _ w).alloc (Nat.le_refl _) _;have d:=World.alloc_heap_new w (.cells #[.int .u64 next,.slice a l.length cap] 51);obtain⟨L,F⟩:∃ L,(w.alloc (.cells #[.int .u64 next,.slice a l.length cap] 51)).alloc (.cells #[.int .u64 0,.slice none 0 0] 51)=L:=⟨_,rfl⟩;have Y:Bw w L:=by rw[<- F];exact Z.alloc (by simp) _
 have q:L.heap.size=w.heap.size+2:=by rw[<- F];simp
 have P:L.heap[w.heap.size]? = some (.cells #[.int .u64 next,.slice a l.length cap] 51 (0,0)):=by rw[<- F];exact (Below.heap_alloc _ _ _ (by simp)).trans d
 have j:L.heap[w.heap.size+1]? = some (.cells #[.int .u64 0,.slice none 0 0] 51 (0,0)):=by rw[<- F];have:=World.alloc_heap_new (w.alloc (.cells #[.int .u64 next,.slice a l.length cap] 51)) (.cells #[.int .u64 0,.slice none 0 0] 51);rwa [World.size_alloc] at this
 obtain⟨M,C⟩:∃ M,L.alloc (.cells #[.int .u64 next,.slice none 0 0] 51)=M:=⟨_,rfl⟩;have c:Bw w M:=by rw[<- C];exact Y.alloc (by omega) _
 have ae:M.heap.size=w.heap.size+3:=by rw[<- C];simp;omega
 have f:M.heap[w.heap.size]? = some (.cells #[.int .u64 next,.slice a l.length cap] 51 (0,0)):=by rw[<- C];exact (Below.heap_alloc _ _ _ (by omega)).trans P
 have m:M.heap[w.heap.size+1]? = some (.cells #[.int .u64 0,.slice none 0 0] 51 (0,0)):=by rw[<- C];exact (Below.heap_alloc _ _ _ (by omega)).trans j
 have n:M.heap[w.heap.size+2]? = some (.cells #[.int .u64 next,.slice none 0 0] 51 (0,0)):=by rw[<- C,<- q];exact World.alloc_heap_new L _
 have V:=Lib.hid C;have z:=cCc P 0;simp at z;clear Z d C;go_enter Tryz.func17,Tryz.ntmps17;go_wp2_with fail;rw[V.out];have G:M.ownsRow (w.heap.size+3) 85 3 (.slice none 0 0) 0 []:=World.ownsRow_nil _ _ _ _;clear F V z P j
 go_loopw [4] (fun i wr=>∃ (k:Nat) (v:Value),i=.int .i64 k/\k<=l.length/\k<=12/\Bw w wr/\w.heap.size+3<=wr.heap.size /\
  wr.heap[w.heap.size]? = some (.cells #[.int .u64 next,.slice a l.length cap] 51 (0,0))/\wr.heap[w.heap.size+1]? = some (.cells #[.int .u64 0,.slice none 0 0] 51 (0,0)) /\
  wr.heap[w.heap.size+2]? = some (.cells #[.int .u64 next,v] 51 (0,0))/\wr.ownsRow (w.heap.size+3) 85 3 v k (((l.take k).map RGr.cut).flatMap Gr.enc)) (fun i _=>l.length-(intOf i).toNat)
 case atStart=>exact⟨0,_,rfl,Nat.zero_le _,by omega,c,by omega,f,m,n,G⟩
 case round =>
  obtain⟨k,v,rfl,hk,aj,hB,ag,d,S,t,A⟩:=hrel;clear f m n G Y c q ae;have q1:=cCc d 1;simp at q1;by_cases R:k<l.length/\k<12
  ·obtain⟨R,ad⟩:=R
   obtain⟨x,hx⟩:∃ x,l[k]? = some x:=⟨_,List.getElem?_eq_getElem R⟩;obtain⟨b,off,rfl,ak,y⟩:=(SlAt.elems ji9 (SlAt.below hB s)).2 k x hx;have z:wr.cell? ⟨b,off+k*3,none⟩=some (.int .u64 x.id):=y 0 (by omega);have c1:wr.cell? ⟨b,off+k*3+1,none⟩=some (.int .u64 x.tnt):=y 1 (by omega);have c2:wr.cell? ⟨b,off+k*3+2,none⟩=some (.string x.scope):=y 2 (by omega);obtain⟨T,U,rfl⟩:=jl7 A;have HS:=Lib.hid (jpL hx);have q2:=cCc t 1;simp at q2;obtain⟨X,J⟩:∃ X,X=wr.alloc (.cells #[.int .u64 x.id,.int .u64 x.tnt,.string (x.scope.extract 0 (min (x.scope.size:Int) 200).toNat)] 85):=⟨_,rfl⟩;have O:X.heap.size=wr.heap.size+1:=by rw[J,World.size_alloc]
   have E:Bw wr X:=by rw[J];exact (Below.refl _ _).alloc (Nat.le_refl _) _
   have I:X.ownsRow (w.heap.size+3) 85 3 (.slice T k U) k (((l.take k).map RGr.cut).flatMap Gr.enc):=ji6 A (fun g hg=>E.block g (A.lt g hg).2);obtain⟨g5,ai,w5,N,H,aa,ah,D,-⟩:=jaL Tryz.prog 49 jdT je6 rfl (by decide) I (hB.trans (E.mono (by omega))) (by omega) (by omega) [.int .u64 x.id,.int .u64 x.tnt,.string (x.scope.extract 0 (min (x.scope.size:Int) 200).toNat)] rfl (by simp[Value.oneCell']) (by omega) (by decide);rw[O,J] at N;have ab:=(D w.heap.size (by omega)).trans ((E.block _ (by omega)).trans d);have ac:=(D (w.heap.size+1) (by omega)).trans ((E.block _ (by omega)).trans S);have Q:=(D (w.heap.size+2) (by omega)).trans ((E.block _ (by omega)).trans t);have d1:=cCc Q 1;have d2:=cFz Q 1;simp at d1;have e1:w.heap.size+2<wr.heap.size:=by omega
   have e2:w.heap.size<wr.heap.size:=by omega
   have e3:w.heap.size+3<=w5.heap.size:=by omega
   have e4:(k:Int)<12:=by omega
   have r:=Lib.hid H;clear y hx s A I E J O H D ah ag;go_wp2_with (at_builtin;refine jb0 rfl (.tmp 34) (.tmp 36) _ rfl rfl rfl N ?_);go_roundw
   case rel =>
    refine⟨k+1,_,by go_num,by omega,by omega,aa.setCell (p:=⟨w.heap.size+2,1,none⟩) (by show _<=w.heap.size+2;omega) _,by simpa [World.setCell] using e3,?_,?_,hSk Q _,?_⟩
    ·exact (Below.block (B:=w.heap.size+2) ((Below.refl _ w5).setCell (p:=⟨w.heap.size+2,1,none⟩) (Nat.le_refl _) _) _ (by omega)).trans ab
    ·exact (Below.block (B:=w.heap.size+2) ((Below.refl _ w5).setCell (p:=⟨w.heap.size+2,1,none⟩) (Nat.le_refl _) _) _ (by omega)).trans ac
    ·rw[HS.out]
     exact ownsRow_setCell_below r.out (a:=⟨w.heap.size+2,1,none⟩) (by show w.heap.size+2<_;omega) _
   case measure=>simp[intOf];omega
  ·have HK:Hid (k=min l.length 12):=by rw[Hid];omega
   have hT:Hid (((l.take k).map RGr.cut)=(jjn next l).l):=by
    rw[HK.out,jjn,Hid];show List.map RGr.cut (l.take (min l.length 12))=List.map RGr.cut (l.take 12);rw[Nat.min_comm];exact congrArg _ List.take_eq_take_min.symm
   have HL:Hid (((l.take k).map RGr.cut).length=k):=by rw[Hid,List.length_map,List.length_take];omega
   obtain⟨T,U,rfl⟩:=jl7 A;have r:=Lib.hid A;clear s A;have z0:=cCc t 0;have z1:=cCc t 1;have y0:=cCc S 0;have y1:=cCc S 1;have y2:=cFz S 0;have y3:=cFz S 1;simp at z0 z1 y0 y1;clear HK
   have fin:∀ tm:Array Value,tm[2]?.getD undef=.pointer (some ⟨w.heap.size+1,0,none⟩)->bodyPost Tryz.prog Tryz.f17 (fun e w'=>∃ v,e=Ending.returned v/\jim w.heap.size w'.heap.size w' v (jjn next l)/\Bw w w') Exit.ret { tmps:=tm,defers:=[] } ((wr.setCell ⟨w.heap.size+1,0,none⟩ (.int .u64 next)).setCell ⟨w.heap.size+1,1,none⟩ (.slice T k U)):=by
    intro tm ht;have hf:=jbB (u:=.int .u64 next) (v:=.slice T k U) S;have f0:=cCc hf 0;have f1:=cCc hf 1;simp at f0 f1;have hq:=ownsRow_setCell_below (ownsRow_setCell_below r.out (a:=⟨w.heap.size+1,0,none⟩) (by show w.heap.size+1<_;omega) (.int .u64 next)) (a:=⟨w.heap.size+1,1,none⟩) (by show w.heap.size+1<_;omega) (.slice T k U);have af:=je4 hq;refine bodyPost_ret (v:=.agg #[.int .u64 next,.slice T k U]) (by simp[results,Tryz.f17,go_sem,f0,f1,ht]) rfl ⟨_,rfl,⟨_,_,_,rfl,?_,fun x h=>by subst h;have:=(r.out.lt x.block rfl).1;omega⟩,(hB.setCell (p:=⟨w.heap.size+1,0,none⟩) (Nat.le_succ _) _).setCell (p:=⟨w.heap.size+1,1,none⟩) (Nat.le_succ _) _⟩;unfold Grs;rw[<- hT.out,HL.out];exact af
   have FI:=Lib.hid fin;clear fin;go_wp2_with fail
   all_goals exact FI.out _ rfl
section
open Go.ChangeShapes Go.WideShapes Go.ChangeAt Go.Lib Go.Deep
section
variable {H:Type} {enc:TypeId × Value->H} {w:World} {base:Nat} {spare:Nat->Bool} {held:Bool}
theorem jmz (n:Nat) (cs:List Value) (x:DataW H × List MemPlace) (h:DataW.trod enc Tryz.prog w base spare held n 85 cs=some x):∃ y:RGr,cs=y.enc:=by
 obtain⟨M,m,A⟩:=jcm Tryz.underlying85 (by kernel_rfl) (by kernel_rfl) h;obtain⟨v0,Q,E,I⟩:=A 0 _ rfl;obtain⟨v1,R,F,J⟩:=A 1 _ rfl;obtain⟨v2,S,G,L⟩:=A 2 _ rfl;obtain⟨N,B,-,-⟩:=DataW.trod_int jsn I;obtain⟨O,C,-,-⟩:=DataW.trod_int jsn J;obtain⟨P,D,-,-⟩:=DataW.trod_string joK L
 match cs,M with
 | [a,b,c],_ =>
  simp only[List.getElem?_cons_zero,List.getElem?_cons_succ,Option.some.injEq,List.cons.injEq,and_true] at E F G B C D;exact⟨⟨N,O,P⟩,by rw[E,F,G,B,C,D];rfl⟩
theorem jkO {r:Reach} {F:Nat} {v:Value} {d:DataW H} {p:List MemPlace} (J:Value.okWide Tryz.prog w r F 51 v) (h:DataW.Trod enc Tryz.prog w base spare held 51 v d p) :
  ∃ next a len cap l,v=.agg #[.int .u64 next,.slice a len cap]/\U64 next/\jrX w.heap.size w (.slice a len cap) l:=by
 obtain⟨v0,v1,S,T,n,rfl,-,-,M,N⟩:=Joins.open_agg2 Tryz.underlying51 (by kernel_rfl) (by kernel_rfl) J h;obtain⟨Q,G,-,E⟩:=DataW.trod_int jsn M;simp only[List.cons.injEq,and_true] at G;subst G;obtain⟨R,C,B⟩:=jm3 Tryz.underlying51 J;have A:Tryz.prog.cellTypes Tryz.prog.depth 51=some [48,49]:=by kernel_rfl
 obtain rfl:=Option.some.inj (C.symm.trans A);obtain⟨u,P,I⟩:=B 1 v1 rfl;obtain rfl:u=49:=by simpa using P.symm
 have D:Value.okWide Tryz.prog w r F 49 v1:=by simpa only[Value.okWide,Tryz.underlying49] using I
 obtain⟨a,len,cap,rfl⟩:=okWide_slice Tryz.underlying49 D;obtain⟨l,O⟩:=jkz (encA:=RGr.enc) (k:=3) (fun _=>rfl) Tryz.underlying49 (by kernel_rfl) jmz (fun L e=>joS (a:=L) Tryz.underlying49 (by rw[<- e];exact I)) N;refine⟨Q,a,len,cap,l,rfl,?_,O⟩;simp only[Lit.wf,IntKind.min,IntKind.max,IntKind.signed,IntKind.bits,Bool.and_eq_true] at E;exact⟨by simpa using E.1,by have:=E.2;simp at this;omega⟩
end
end
theorem joi (f:Nat):∀ (l:List (Int × Int)) (A:Int),jb5 l->(∀ b∈l,A<b.1)->(∀ b∈l,b.2≠0)->(∀ b∈l,jao f b.1=true)->(jb7 (jbw f) A l).isSome=true
 | [],A,_,_,_,_=>by simp[jgc]
 | b::t,A,hu,h1,h2,h3=>by
  obtain⟨F,G⟩:=jdh hu
  have E:jbw f A b=some b.1:=by
   unfold jbw;have H:=h1 b List.mem_cons_self;have C:=h2 b List.mem_cons_self;have D:=h3 b List.mem_cons_self;rw[if_neg];simp[C,D];omega
  rw[jdj,E];exact joi f t b.1 F G (fun c B=>h2 c (List.mem_cons_of_mem _ B)) (fun c B=>h3 c (List.mem_cons_of_mem _ B))
theorem jd1 (f:Nat) (l:List (Int × Int)) (B:f<=3) (E:jb5 l) (C:∀ b∈l,b.2≠0) (A:∀ b∈l,jao f b.1=true):jaP f l=true:=by
 unfold jaP;rw[jcj f B,joi f l (-1) E (fun b D=>by have:=jcp f B b.1 (A b D);omega) C A];rfl
theorem jvd:∀ (l:List (Int × Int)) (A:Int),jb5 l->(∀ b∈l,A<b.1)->(∀ b∈l,b.1<=512)->A<=512->(l.length:Int)<=512-A
 | [],A,_,_,_,h=>by simp;omega
 | b::t,A,hu,h1,h2,h=>by
  obtain⟨D,E⟩:=jdh hu;have F:=h1 b List.mem_cons_self;have B:=h2 b List.mem_cons_self;have:=jvd t b.1 D E (fun c C=>h2 c (List.mem_cons_of_mem _ C)) B;simp only[List.length_cons];omega
theorem jfc (f:Nat) (l:List (Int × Int)) (C:f<=3) (D:jb5 l) (B:∀ b∈l,jao f b.1=true):l.length<=513:=by
 have:=jvd l (-1) D (fun b A=>by have:=jcp f C b.1 (B b A);omega) (fun b A=>(jcp f C b.1 (B b A)).2) (by omega);omega
theorem jhB (f:Nat) (l:List (Int × Int)) (C:f<=3) (A:∀ b∈l,jao f b.1=true):∀ b∈l,I64 b.1:=fun b B=>by have:=jcp f C b.1 (A b B);unfold I64;omega
theorem jhU {c A:Nat} (h:c*2^A=32) (B:A<=3):c=4\/c=8\/c=16\/c=32:=by
 rcases (by omega:A=0\/A=1\/A=2\/A=3) with rfl | rfl | rfl | rfl<;>simp at h<;>omega
theorem jtx {c A:Nat} (h:c*2^A=32) (B:A<3):c=8\/c=16\/c=32:=by
 rcases (by omega:A=0\/A=1\/A=2) with rfl | rfl | rfl<;>simp at h<;>omega
theorem jru (x : Value) (w : World) : (method 495 234 (.agg #[x]) "aviary/ladder.lower").run Tryz.prog w = .ok (233, .agg #[x]) w := by kernel_rfl
theorem jrv (x y : Value) (w : World) : (method 495 236 (.agg #[x, y]) "aviary/ladder.lower").run Tryz.prog w = .ok (261, .agg #[x, y]) w := by kernel_rfl
theorem jrt (x y z : Value) (w : World) : (method 495 237 (.agg #[x, y, z]) "aviary/ladder.lower").run Tryz.prog w = .ok (269, .agg #[x, y, z]) w := by kernel_rfl
theorem jrs (x y : Value) (w : World) : (method 495 239 (.agg #[x, y]) "aviary/ladder.lower").run Tryz.prog w = .ok (283, .agg #[x, y]) w := by kernel_rfl
theorem juc {w : World} {v : Value} {B : Bd} {E A : Nat} (M : BdAt w v B) (C : B.Ok E A) (V : A < jc1 E) : ∃ T O f, v = .iface T O /\ (∀ W, (method 495 T O "aviary/ladder.lower").run Tryz.prog W = .ok (f, O) W) /\ (∀ args W, (callFunc f args).run Tryz.prog W = .ok (.enter f args) W) /\
  ∀ W,BdAt W v B->Calls Tryz.prog f #[O] W (jbi (some B.low) W):=by
 cases B with
 | num l =>
  obtain⟨a,len,cap,rfl,-⟩:=M;obtain⟨-,-,N,I,G⟩:=C;refine⟨_,_,_,rfl,fun W=>jru _ W,enters_of Tryz.func233 (by kernel_rfl) rfl,fun W H=>?_⟩;obtain⟨S,F,D,e,J⟩:=H
  cases e
  exact jvR l a len cap W J G (by omega)
 | reg b r =>
  obtain rfl:v=_:=M;obtain⟨L,U,N,I,G,Q⟩:=C;subst L;have:jc1 1=4:=rfl;refine⟨_,_,_,rfl,fun W=>jrv _ _ W,enters_of Tryz.func261 (by kernel_rfl) rfl,fun W H=>?_⟩;exact jvS b r W (by omega) (by omega) G Q
 | cnt c l =>
  obtain⟨a,len,cap,rfl,-⟩:=M;obtain⟨L,U,N,I,G⟩:=C;subst L;have:jc1 2=3:=rfl;refine⟨_,_,_,rfl,fun W=>jrt _ _ _ W,enters_of Tryz.func269 (by kernel_rfl) rfl,fun W H=>?_⟩;obtain⟨S,F,D,e,J⟩:=H
  cases e
  exact jvP c l a len cap W (jtx N (by omega)) J I G
 | bkt f l =>
  obtain⟨a,len,cap,rfl,-⟩:=M;obtain⟨L,U,N,I,G,Q,R⟩:=C;subst L;have:jc1 3=3:=rfl;refine⟨_,_,_,rfl,fun W=>jrs _ _ W,enters_of Tryz.func283 (by kernel_rfl) rfl,fun W H=>?_⟩;obtain⟨S,F,D,e,J⟩:=H
  cases e
  have P:f<=3:=by omega
  exact jvO f l a len cap W (by omega) P J (jd1 f l P I G R) R Q (by have:=jfc f l P I R;omega)
theorem jjt {B:Bd} {A C:Nat} (h:B.Ok A C):jaF (A:Int)=(jc1 A:Int)/\C<=jc1 A:=by
 cases B with
 | num l=>obtain⟨rfl,rfl,-⟩:=h;exact⟨rfl,by decide⟩
 | reg b r=>obtain⟨rfl,-,h,-⟩:=h;exact⟨rfl,h⟩
 | cnt c l=>obtain⟨rfl,h,-⟩:=h;exact⟨rfl,h⟩
 | bkt f l=>obtain⟨rfl,h,-⟩:=h;exact⟨rfl,h⟩
theorem ja6 {W:World} {v:Value} {B:Bd} (h:BdAt W v B):∃ T A,v=.iface T A:=by
 cases B with
 | num l=>obtain⟨a,len,cap,rfl,-⟩:=h;exact⟨_,_,rfl⟩
 | reg b r=>exact⟨_,_,h⟩
 | cnt c l=>obtain⟨a,len,cap,rfl,-⟩:=h;exact⟨_,_,rfl⟩
 | bkt f l=>obtain⟨a,len,cap,rfl,-⟩:=h;exact⟨_,_,rfl⟩
def OnlyAt (b:Nat) (W V:World):Prop:=V.heap.size=W.heap.size/\∀ k,k≠b->V.heap[k]? = W.heap[k]?
theorem OnlyAt.refl (b:Nat) (W:World):OnlyAt b W W:=⟨rfl,fun _ _=>rfl⟩
theorem OnlyAt.set {b:Nat} {W V:World} (h:OnlyAt b W V) (o:Nat) (v:Value):OnlyAt b W (V.setCell ⟨b,o,none⟩ v):=⟨(jdg V _ v).trans h.1,fun k A=>(jae (p:=⟨b,o,none⟩) (fun e=>A e.symm) v).trans (h.2 k A)⟩
theorem jaW {α:Type} {enc:α->List Value} {k i0:Nat} (B:i0<k) (D:∀ x,∃ u,(enc x)[i0]? = some (.int .u64 u)) {W V:World} {b:Nat} {cs:Array Value} {t:TypeId} (G:W.heap[b]? = some (.cells cs t (0,0))) (H:∀ (i:Nat) (u:Int),cs[i]? ≠ some (Value.int .u64 u)) (F:OnlyAt b W V)
  {a:Option Addr} {len cap:Nat} {l:List α} (h:SlC enc k W.heap.size W a len cap l):SlC enc k V.heap.size V a len cap l:=by
 rw[F.1];refine⟨⟨h.1.1,fun j x J=>?_⟩,h.2⟩;obtain⟨g,off,e,I,A⟩:=h.1.2 j x J
 have C:g≠b:=fun e=>by
  subst e;obtain⟨u,D⟩:=D x;have E:=A i0 B;rw[D,cCc G] at E;exact H _ u E
 exact⟨g,off,e,I,fun i B=>(World.cell?_of_block (show V.heap[g]? = W.heap[g]? from F.2 g C)).trans (A i B)⟩
theorem BdAt.apart {W V:World} {v:Value} {B:Bd} (h:BdAt W v B) {b:Nat} {cs:Array Value} {t:TypeId} (E:W.heap[b]? = some (.cells cs t (0,0))) (F:∀ (i:Nat) (u:Int),cs[i]? ≠ some (Value.int .u64 u)) (D:OnlyAt b W V):BdAt V v B:=by
 cases B with
 | num l=>obtain⟨a,len,cap,A,C⟩:=h;exact⟨a,len,cap,A,jaW (i0:=0) (by decide) (fun x=>⟨x,rfl⟩) E F D C⟩
 | reg b r=>exact h
 | cnt c l=>obtain⟨a,len,cap,A,C⟩:=h;exact⟨a,len,cap,A,jaW (i0:=0) (by decide) (fun x=>⟨x,rfl⟩) E F D C⟩
 | bkt f l=>obtain⟨a,len,cap,A,C⟩:=h;exact⟨a,len,cap,A,jaW (i0:=1) (by decide) (fun x=>⟨x.2,rfl⟩) E F D C⟩
theorem ju3 {i:Nat} {x y z:Value} (A:∀ u,x≠.int .u64 u) (B:∀ u,y≠.int .u64 u) (C:∀ u,z≠.int .u64 u) (u:Int):(#[x,y,z]:Array Value)[i]? ≠ some (.int .u64 u):=by
 intro h;rcases i with _ | _ | _ | i
 ·exact A u (by simpa using h)
 ·exact B u (by simpa using h)
 ·exact C u (by simpa using h)
 ·simp at h
theorem jh0 {w:World} (n:Nat):Bw w (w.drewN n):=bDr (Below.refl _ _) n
theorem jni (v:Value) (B:Bd) (C A:Nat) (w:World) (c:BdAt w v B) (M:B.Ok C A) (d:A<jc1 C) :
  Calls Tryz.prog 185 #[.agg #[v,.int .i64 C,.int .i64 A]] w fun e w'=>∃ v',e=.returned (.tuple #[.agg #[v',.int .i64 C,.int .i64 ((A:Int)+1)],.nilIface])/\BdAt w' v' B.low/\Bw w w':=by
 obtain⟨T,rv,f,rfl,hm,s,g⟩:=juc c M d;obtain⟨l,o,L,S,J,t⟩:=jaI w #[.iface T rv,.int .i64 C,.int .i64 A] 116 #[.nilIface,.int .i64 0,.int .i64 0] 116;have Y:Hid (∀ w,Calls Tryz.prog 126 #[.int .i64 C] w fun e w'=>e=.returned (.int .i64 (jc1 C:Nat))/\w'=w):=fun w=>(jb1 C w).mono fun e w' ⟨m,n⟩=>⟨by rw[m,(jjt M).1],n.symm⟩
 obtain⟨c0,c1,c2⟩:=cl3 L;have a:=Lib.hid L;have b:=Lib.hid S;have O:=Lib.hid J;have h:=Lib.hid (c.go J);have j:=Lib.hid g;have t1:decide ((jc1 C:Int)<=(A:Int))=false:=by simp;omega
 have r:jc1 C<=4:=by unfold jc1;split<;>omega
 clear L S J c g M;go_enter Tryz.func185,Tryz.ntmps185;go_wp2_with fail;go_quiet ((go_at_call 126;exact Calls.quiet_of_same (Y.out _)));go_wp2_with fail;have E:=jh0 (w:=l) nq;refine (j.out _ (h.out.go E)).mono ?_;rintro e X ⟨G,v',rfl,N⟩;obtain⟨I,D,rfl⟩:=ja6 N;have Q:=jab (E.trans G) (Nat.le_refl _) a.out;have F:=jab (E.trans G) (Nat.le_refl _) b.out;have H:Bw w X:=O.out.trans ((E.trans G).mono O.out.size);have x:wrap64 ((A:Int)+1)=(A:Int)+1:=by unfold wrap64;omega
 have y:IntKind.i64.wrap ((A:Int)+1)=((A:Int)+1):=IntWalk.i64_in _ (by omega);obtain⟨d0,d1,d2⟩:=cl3 Q;obtain⟨r0,r1,r2⟩:=cl3 F;obtain⟨g0,g1,g2⟩:=cz3 F;have R:=jcI (u:=.iface I D) (v:=.int .i64 C) (q:=.int .i64 ((A:Int)+1)) F;have P:=((H.setCell (p:=⟨w.heap.size+1,0,none⟩) (Nat.le_succ _) (.iface I D)).setCell (p:=⟨w.heap.size+1,1,none⟩) (Nat.le_succ _) (.int .i64 C)).setCell (p:=⟨w.heap.size+1,2,none⟩) (Nat.le_succ _) (.int .i64 ((A:Int)+1));have k:Hid (BdAt X (.iface I D) B.low):=N;have Z:=Lib.hid F;clear Q F H N G E;go_wp2_with fail;have U:BdAt (((X.setCell ⟨w.heap.size+1,0,none⟩ (.iface I D)).setCell ⟨w.heap.size+1,1,none⟩ (.int .i64 C)).setCell ⟨w.heap.size+1,2,none⟩ (.int .i64 ((A:Int)+1))) (.iface I D) B.low:=BdAt.apart (B:=B.low) k.out Z.out (fun i u=>ju3 (by simp) (by simp) (by simp) u) ((((OnlyAt.refl _ _).set _ _).set _ _).set _ _);generalize ((X.setCell ⟨w.heap.size+1,0,none⟩ (.iface I D)).setCell ⟨w.heap.size+1,1,none⟩ (.int .i64 C)).setCell ⟨w.heap.size+1,2,none⟩ (.int .i64 ((A:Int)+1))=V at R P U ⊢;obtain⟨z,k1,k2⟩:=cl3 R;exact bodyPost_ret (v:=.tuple #[.agg #[.iface I D,.int .i64 C,.int .i64 ((A:Int)+1)],.nilIface]) (by simp[results,Tryz.f185,go_sem,z,k1,k2]) rfl ⟨_,rfl,U,P⟩
theorem jln:∀ a:List UInt8,Op.bytesLess a a=false
 | []=>rfl
 | a::x=>by simp[Op.bytesLess,jln x]
theorem jto:∀ a b c:List UInt8,Op.bytesLess a b=true->Op.bytesLess b c=true->Op.bytesLess a c=true
 | _,[],_,h,_=>by rename_i x _;cases x<;>simp[Op.bytesLess] at h
 | _,_::_,[],_,h=>by simp[Op.bytesLess] at h
 | [],_::_,_::_,_,_=>by simp[Op.bytesLess]
 | a::x,b::y,c::z,B,A=>by
  simp only[Op.bytesLess,Bool.or_eq_true,Bool.and_eq_true,decide_eq_true_eq,beq_iff_eq] at B A ⊢;rcases B with B | ⟨rfl,B⟩
  ·rcases A with A | ⟨rfl,A⟩
   ·exact .inl (UInt8.lt_trans B A)
   ·exact .inl B
  ·rcases A with A | ⟨rfl,A⟩
   ·exact .inl A
   ·exact .inr ⟨rfl,jto x y z B A⟩
theorem juT:∀ a b:List UInt8,Op.bytesLess a b=false->Op.bytesLess b a=false->a=b
 | [],[],_,_=>rfl
 | [],_::_,h,_=>by simp[Op.bytesLess] at h
 | _::_,[],_,h=>by simp[Op.bytesLess] at h
 | a::x,b::y,h1,h2=>by
  simp only[Op.bytesLess,Bool.or_eq_false_iff,decide_eq_false_iff_not] at h1 h2;have A:a=b:=UInt8.le_antisymm (UInt8.not_lt.1 h2.1) (UInt8.not_lt.1 h1.1);subst A;simp only[BEq.rfl,Bool.true_and] at h1 h2;rw[juT x y h1.2 h2.2]
theorem jwL:∀ a b c:List Lab,jau a b=true->jau b c=true->jau a c=true
 | _::_,[],_,h,_=>by simp[jau] at h
 | [],[],_,h,_=>by simp[jau] at h
 | _,_::_,[],_,h=>by simp[jau] at h
 | [],_::_,_::_,_,_=>by simp[jau]
 | x::a,y::b,z::c,h1,h2=>by
  simp only[jau] at h1 h2 ⊢;by_cases B:x.name=y.name
  ·by_cases C:x.value=y.value
   ·rw[if_pos ⟨B,C⟩] at h1
    rw[B,C];by_cases F:y.name=z.name/\y.value=z.value
    ·rw[if_pos F] at h2 ⊢
     exact jwL a b c h1 h2
    ·rw[if_neg F] at h2 ⊢
     exact h2
   ·rw[if_neg (fun k=>C k.2),if_neg (by simp[B])] at h1
    rw[B];by_cases A:y.name=z.name
    ·by_cases E:y.value=z.value
     ·rw[<- E,if_neg (fun k=>C k.2),if_neg (by simp[A])]
      exact h1
     ·rw[if_neg (fun k=>E k.2),if_neg (by simp[A])] at h2
      have D:=jto _ _ _ h1 h2;rw[if_neg (fun k=>by rw[k.2,jln] at D;cases D),if_neg (by simp[A])];exact D
    ·rw[if_neg (fun k=>A k.1),if_pos A] at h2
     rw[if_neg (fun k=>A k.1),if_pos A];exact h2
  ·rw[if_neg (fun k=>B k.1),if_pos B] at h1
   by_cases A:y.name=z.name
   ·rw[<- A,if_neg (fun k=>B k.1),if_pos B]
    exact h1
   ·rw[if_neg (fun k=>A k.1),if_pos A] at h2
    have D:=jto _ _ _ h1 h2;have G:x.name≠z.name:=fun k=>by rw[k,jln] at D;cases D
    rw[if_neg (fun k=>G k.1),if_pos G];exact D
def Sorted (l:List Ser):Prop:=l.Pairwise (fun x y=>jau x.l y.l=true)
theorem jjV:∀ (l:List Ser) (q:List Lab),jca (some q) l=true↔(∀ x∈l,jaV x=true)/\(∀ x∈l,jau q x.l=true)/\Sorted l
 | [],q=>by simp[jca,Sorted]
 | y::r,q=>by
  simp only[jca,Bool.and_eq_true,jjV r,Sorted,List.pairwise_cons,List.mem_cons,forall_eq_or_imp];constructor
  ·rintro⟨⟨C,A⟩,D,B,E⟩
   exact⟨⟨C,D⟩,⟨A,fun x F=>jwL _ _ _ A (B x F)⟩,B,E⟩
  ·rintro⟨⟨C,D⟩,⟨A,G⟩,B,E⟩
   exact⟨⟨C,A⟩,D,B,E⟩
theorem jbZ (l:List Ser):jas l=true↔l.length<=20/\(∀ x∈l,jaV x=true)/\Sorted l:=by
 unfold jas;rw[Bool.and_eq_true,decide_eq_true_eq]
 cases l with
 | nil=>simp[jca,Sorted]
 | cons y r=>simp only[jca,Bool.and_eq_true,jjV r,Sorted,List.pairwise_cons,List.mem_cons,forall_eq_or_imp,and_true];constructor<;>(intro h;simp_all)
end Go.Proofs.YtafhpamnegmilaaGreatDoor
