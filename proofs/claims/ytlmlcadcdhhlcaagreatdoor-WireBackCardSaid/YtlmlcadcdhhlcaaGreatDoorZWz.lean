/- Package wire: answer to an ask of nobody. strings.Clone of the shelf, laid at this program by hand. Package wire: Feed of nobody's ask. Package wire: close, Feed of what is no frame. Printed by gen_wz.py. -/
import Derived.Shelf.Pu.Clone
import Derived.Test.YtlmlcadcdhhlcaaGreatDoorZWq
set_option maxHeartbeats 2000000
set_option maxRecDepth 100000
namespace Go.Proofs.YtlmlcadcdhhlcaaGreatDoor
open Go Go.RowKit Go.Shelf
theorem WireAt.go {W A:World} {b:Nat} {c:Value} {l m n:Ln} (h:WireAt W b c l m n) (B:Bw W A):WireAt A b c l m n:=known B (Nat.le_refl _) h
theorem jey (b:Nat) (g:Value) (l m n:Ln) (s:ByteArray) (q:Rq) (X U:Addr) (w:World) (d:s.size<4294967281) (Z:∀ W,Bw w W->GF X U W) (c:jfo s.data.toList=.ask q) (h:WireAt w b g l m n) (a:l.known=false) :
  CR 32 #[.pointer (some ⟨b,0,none⟩),.pointer (some ⟨b,1,none⟩),.string s] w (.agg #[.int .i64 201,.int .u64 0,.slice none 0 0,.slice none 0 0]):=by
 obtain⟨W,hW,E,F,i⟩:=jab w #[.int .i64 0,.int .u64 0,.slice none 0 0,.slice none 0 0] 52;have R:=jeI s X U d W (fun V O=>Z V (F.trans (O.mono F.size)));rw[c] at R;have T:=Lib.hid R
 have S:Hid (∀ D,Bw W D->∀ A t,(D.alloc (.cells A t)).cell? ⟨b,4,none⟩=some (.bool false)/\(D.alloc (.cells A t)).heap[w.heap.size]? = some (.cells #[.int .i64 0,.int .u64 0,.slice none 0 0,.slice none 0 0] 52 (0,0))/\Bw w (D.alloc (.cells A t))):=fun D N A t=>by
  have H:Bw W (D.alloc (.cells A t)):=N.alloc N.size _;have Y:=(h.go (F.trans (H.mono F.size))).at0.2.2.2.1;rw[a] at Y;exact⟨Y,known H (Nat.le_refl _) E,F.trans (H.mono F.size)⟩
 clear R Z c h a E F d;go_enter Tryz.func32,Tryz.ntmps32;go_wp2_with fail;refine T.out.mono ?_;rintro e D ⟨⟨I,J,ta,L,rfl,-,-⟩,N⟩;have P:∀ w,(Instr.typeAssert (.iface 148 (.agg (rqV q I J ta L))) 143 146 true).run Tryz.prog w=.ok (.tuple #[.agg #[.int .u64 0,.string ⟨#[]⟩],.bool false]) w:=fun w=>by kernel_rfl
 have Q:∀ w,(Instr.typeAssert (.iface 148 (.agg (rqV q I J ta L))) 143 148 true).run Tryz.prog w=.ok (.tuple #[.agg (rqV q I J ta L),.bool true]) w:=fun w=>by kernel_rfl
 unfold rqV at P Q ⊢;obtain⟨j,E,G⟩:=S.out D N (rqV q I J ta L) 148;obtain⟨V,O⟩:∃ V,D.alloc (.cells (rqV q I J ta L) 148)=V:=⟨_,rfl⟩;unfold rqV at O;rw[show D.alloc (.cells (rqV q I J ta L) 148)=V from O] at j E G;obtain⟨x0,x1,x2,x3⟩:=cl4 E;have x:V.frozen? ⟨w.heap.size,0,none⟩=false:=cFz E 0;obtain⟨C,M⟩:∃ C,V.setCell ⟨w.heap.size,0,none⟩ (.int .i64 201)=C:=⟨_,rfl⟩;have B:C.heap[w.heap.size]? = some (.cells #[.int .i64 201,.int .u64 0,.slice none 0 0,.slice none 0 0] 52 (0,0)):=by rw[<- M];exact hSk E _
 obtain⟨k,o,r,u⟩:=cl4 B;have y:C.frozen? ⟨w.heap.size,1,none⟩=false:=cFz B 1;have z:C.frozen? ⟨w.heap.size,2,none⟩=false:=cFz B 2;have f3:C.frozen? ⟨w.heap.size,3,none⟩=false:=cFz B 3;have s1:C.setCell ⟨w.heap.size,1,none⟩ (.int .u64 0)=C:=jcy B rfl;have s2:C.setCell ⟨w.heap.size,2,none⟩ (.slice none 0 0)=C:=jcy B rfl;have s3:C.setCell ⟨w.heap.size,3,none⟩ (.slice none 0 0)=C:=jcy B rfl;have f:Hid (Bw w C):=by rw[Hid,<- M];exact G.setCell (p:=⟨w.heap.size,0,none⟩) (Nat.le_refl _) _
 clear N T S E G B;go_wp2_with fail;exact bodyPost_ret (v:=.agg #[.int .i64 201,.int .u64 0,.slice none 0 0,.slice none 0 0]) (by simp[results,Tryz.results32,go_sem,k,o,r,u]) rfl ⟨rfl,f.out⟩
end Go.Proofs.YtlmlcadcdhhlcaaGreatDoor
namespace Go.Proofs
open Go.Shelf
def Tryz.laysPu25_ren:Go.Shelf.Ren:=⟨fun | 25=>64 | n=>n,fun | 0=>0 | 3=>3 | 4=>4 | 5=>5 | 9=>9 | 37=>84 | 47=>150 | n=>n,fun | n=>n⟩
theorem Tryz.laysPu25:Go.Proofs.LaysPu.n25 Tryz.prog Tryz.laysPu25_ren:={
 mixed:=by kernel_rfl
 f25:=Tryz.func64.trans (congrArg some (by kernel_rfl))
 t0:=by kernel_rfl
 a0:=fun w=>by kernel_rfl
 z0:=fun w=>by kernel_rfl
 v0:=fun w=>by kernel_rfl
 i0:=by kernel_rfl
 t3:=by kernel_rfl
 a3:=fun w=>by kernel_rfl
 z3:=fun w=>by kernel_rfl
 v3:=fun w=>by kernel_rfl
 i3:=by kernel_rfl
 t4:=by kernel_rfl
 a4:=fun w=>by kernel_rfl
 z4:=fun w=>by kernel_rfl
 v4:=fun w=>by kernel_rfl
 i4:=by kernel_rfl
 t5:=by kernel_rfl
 a5:=fun w=>by kernel_rfl
 z5:=fun w=>by kernel_rfl
 v5:=fun w=>by kernel_rfl
 i5:=by kernel_rfl
 t9:=by kernel_rfl
 a9:=fun w=>by kernel_rfl
 z9:=fun w=>by kernel_rfl
 v9:=fun w=>by kernel_rfl
 i9:=by kernel_rfl
 t37:=by kernel_rfl
 a37:=fun w=>by kernel_rfl
 z37:=fun w=>by kernel_rfl
 v37:=fun w=>by kernel_rfl
 i37:=by kernel_rfl
 t47:=by kernel_rfl
 a47:=fun w=>by kernel_rfl
 z47:=fun w=>by kernel_rfl
 v47:=fun w=>by kernel_rfl
 i47:=by kernel_rfl }
end Go.Proofs
namespace Go.Proofs.YtlmlcadcdhhlcaaGreatDoor
open Go Go.RowKit Go.Shelf
theorem jdF (s:ByteArray) (w:World) (D:s.size<=281474976710656):CR 34 #[.string s] w (.string s):=by
 have C:=Lib.hid (AnyPu.stringslite_Clone Tryz.laysPu25 s w D);go_enter Tryz.func34,Tryz.ntmps34;go_wp2_with fail;refine C.out.mono ?_;rintro e E ⟨rfl,A⟩;have B:=Lib.hid A;clear A;go_wp2_with fail;go_ret;exact⟨rfl,B.out⟩
end Go.Proofs.YtlmlcadcdhhlcaaGreatDoor
namespace Go.Proofs.YtlmlcadcdhhlcaaGreatDoor
open Go Go.RowKit Go.Shelf
theorem jdE (s:ByteArray) (A:List (List UInt8)) (r:List UInt8) (I:Int) (G F:Addr) (w:World) (Q:s.size<4294967281) (N:GF G F w) (P:Fr.GT w) (O:Frames s.data.toList A r I) :
  Calls Tryz.prog 29 #[.string s] w fun e C=>∃ (a:Option Addr) (cap:Nat),e=.returned (.tuple #[.slice a A.length cap,.string ⟨r.toArray⟩,.int .i64 I])/\SlE jgW 1 C.heap.size C a A.length (A.map fun b=>⟨b.toArray⟩)/\Bw w C:=by
 refine (jhI s G F w Q N P).mono ?_;rintro e C ⟨l,t,R,a,cap,rfl,D,E,M⟩;obtain⟨J,L,rfl⟩:=D.one O
 have H:l=A.map fun b=>⟨b.toArray⟩:=by
  rw[<- J,List.map_map];exact (List.map_id' l).symm.trans (List.map_congr_left fun x _=>rfl)
 have B:l.length=A.length:=by rw[H,List.length_map]
 have ht:t=⟨r.toArray⟩:=by rw[<- L]
 rw[B] at E ⊢;rw[H] at E;rw[ht];exact⟨a,cap,rfl,E,M⟩
theorem jcj (e:Int) (w:World) (F:0<=e) (E:e<=4611686018427387904):CR 31 #[.agg #[.int .i64 e,.int .u64 0,.slice none 0 0,.slice none 0 0]] w (.string ⟨(mkF (Ry.B ⟨e,0,[],[]⟩)).toArray⟩):=by
 have G:=(jae e).2;have D:=(jae e).1;refine jga ⟨e,0,[],[]⟩ none 0 none 0 w (show U64 0 from⟨by decide,by decide⟩) (fun x A=>by cases A) ⟨rfl,fun j x A=>by cases A⟩ ⟨rfl,fun j x A=>by cases A⟩ ?_ ?_ ?_
 ·unfold Ry.ok jaK
  simp[F,E]
 ·unfold Ry.B
  rw[List.length_append];exact Nat.lt_of_lt_of_le (Nat.lt_of_lt_of_le Nat.zero_lt_one D) (Nat.le_add_right _ _)
 ·unfold Ry.B
  have C:jac [(0:Int)]=[0]:=by decide
  simp only[List.length_append,List.length_nil,List.flatMap_nil];show (jac [e]).length+((jac [(0:Int)]).length+((jac [(0:Int)]).length+((jac []).length+((jac [(0:Int)]).length+0))))<=2000;have:=(jao []).2;rw[C];simp only[List.length_cons,List.length_nil] at this ⊢;omega
theorem jfK (b:Nat) (X:Value) (l m n:Ln) (s:ByteArray) (q:Rq) (fm ff:Addr) (w:World) (hz:s.size<4294967281) (hE:∀ W,Bw w W->GF fm ff W) (hT:Fr.GT w) (hF:Frames s.data.toList [jcY q] [] 20) (ab:q.ok=true) (hq:jfo (jcY q)=.ask q) (h:WireAt w b X l m n) (hk:l.known=false) (hc:l.closed=false) (t:l.left=⟨#[]⟩) :
  Calls Tryz.prog 8 #[.pointer (some ⟨b,0,none⟩),.int .i64 0,.string s] w fun e w'=>e=.returned (.tuple #[.string ⟨(mkF (Ry.B ⟨201,0,[],[]⟩)).toArray⟩,.int .i64 0])/\WireAt w' b X l m n/\Kept (· ≠ b) w w':=by
 obtain⟨-,-,-,-,c4,c5⟩:=h.at0;rw[hc] at c4;rw[t] at c5;have HN:=Lib.hid fun V=>jbH ⟨b,0,none⟩ V
 have HI:=Lib.hid fun V=>jbB 0 V
 have ac:(⟨#[]⟩:ByteArray)++s=s:=by apply ByteArray.ext;rw[ByteArray.data_append];simp
 have HA:=Lib.hid (jdE s _ _ _ fm ff w hz (hE w (Below.refl _ _)) hT hF);have J:=fun (V:World) (c:Bw w V)=>jey b X l m n ⟨(jcY q).toArray⟩ q fm ff V (by have:=jcr ab;show (jcY q).toArray.size<_;rw[List.size_toArray];omega) (fun U hU=>hE U (c.trans (hU.mono c.size))) hq (h.go c) hk
 have P:=Lib.hid J;have S:=Lib.hid fun V=>jcj 201 V (by omega) (by omega)
 have HW:Hid (∀ V,Bw w V->V.cell? ⟨b,5,none⟩=some (.bool false)/\V.cell? ⟨b,6,none⟩=some (.string ⟨#[]⟩)/\V.frozen? ⟨b,6,none⟩=false/\V.setCell ⟨b,6,none⟩ (.string ⟨#[]⟩)=V/\WireAt V b X l m n):=fun V c=>by
  have I:=h.go c;obtain⟨-,-,-,-,c4,c5⟩:=I.at0;rw[hc] at c4;rw[t] at c5;exact⟨c4,c5,cFz I 6,jcy I ((show (jdf X l m n)[6]? = some (.string l.left) from rfl).trans (by rw[t])),I⟩
 have Z:(⟨(mkF (Ry.B ⟨201,0,[],[]⟩)).toArray⟩:ByteArray).size=10:=by decide
 obtain⟨T,Y⟩:∃ T,(mkF (Ry.B ⟨201,0,[],[]⟩))=T:=⟨_,rfl⟩;rw[Y] at S Z ⊢;clear hE hT hF hq h hk hc t J Y;go_enter Tryz.func8,Tryz.ntmps8;go_wp2_with fail;refine (HN.out _).mono ?_;rintro e w1 ⟨rfl,O⟩;have O:=O.symm;subst O;go_wp2_with fail;refine (HI.out _).mono ?_;rintro e w2 ⟨rfl,O⟩;have O:=O.symm;subst O;go_wp2_with fail;refine HA.out.mono ?_;rintro e E ⟨a,cap,rfl,hS,hb⟩;obtain⟨W,hW,hX,hB,ae⟩:=jab E #[.pointer none,.slice none 0 0] 86;have N:Lib.IsBuilderF 86 5 E.heap.size E.heap.size [] W:=by rw[<- hW];exact Lib.IsBuilderF.of (Lib.fresh_isBuilder _ _ E)
 have C:=Lib.hid hb;have HS:=Lib.hid hS;have M:Bw E W:=hB;clear hb hX hB HA hS;go_wp2_with fail;go_loopw [42] (fun i wr=>(i=.int .i64 0/\wr=W)\/(i=.int .i64 1/\Hid (Lib.IsBuilderF 86 5 E.heap.size E.heap.size (Lib.byteCells T) wr)/\Hid (Bw E wr))) (fun i _=>1-(intOf i).toNat)
 case atStart=>exact .inl ⟨rfl,rfl⟩
 case round =>
  rcases hrel with⟨rfl,rfl⟩ | ⟨rfl,h1,I⟩
  ·obtain⟨x,b1,o1,hx,rfl,aa,p⟩:=(HS.out.below M).at (show 0<[jcY q].length from Nat.zero_lt_one)
   obtain rfl:(⟨(jcY q).toArray⟩:ByteArray)=x:=Option.some.inj hx;have p0:wr.cell? ⟨b1,o1,none⟩=some (.string ⟨(jcY q).toArray⟩):=p 0 (by omega);have r:Bw w wr:=C.out.trans (M.mono C.out.size);have hA:=P.out _ r;clear p hx aa;go_wp2_with fail;refine hA.mono ?_;rintro e w4 ⟨rfl,L⟩;go_wp2_with fail;refine (S.out _).mono ?_;rintro e w5 ⟨rfl,f⟩;have D:Bw wr w5:=L.trans (f.mono L.size);have d:=jbn E.heap.size E.heap.size [] ⟨T.toArray⟩ w5 (jeH N (fun j hj=>D.block j hj)) (by rw[Z];decide) (by have:=D.size;omega);go_wp2_with fail;refine d.mono ?_;rintro e w6 ⟨rfl,o,g,-⟩;have F:Bw E w6:=(M.trans (D.mono (by omega))).trans g;have A:Bw w w6:=C.out.trans (F.mono C.out.size);have k4:=(HW.out _ A).1;have u:=Lib.hid F;have v:=Lib.hid o;clear F A g o d D f L r N;go_wp2_with fail;refine⟨.inr ⟨rfl,?_,u.out⟩,by simp[intOf]⟩;have h:=v.out;rw[List.nil_append,jaX] at h;exact .inr h
  ·have A:Bw w wr:=C.out.trans (I.out.mono C.out.size)
   have y:=Lib.hid (jdF ⟨#[]⟩ wr (by decide));clear N;go_wp2_with fail;refine y.out.mono ?_;rintro e w7 ⟨rfl,G⟩;have H:Bw w w7:=A.trans (G.mono A.size);obtain⟨-,k6,f6,s6,-⟩:=HW.out _ H;have z:=Lib.hid (Tryz.Builder_String_any_f E.heap.size E.heap.size T w7 (jeH h1.out (fun j hj=>G.block j hj)) (Nat.le_trans I.out.size G.size));have ad:=Lib.hid H;have Q:Hid (Bw E w7):=I.out.trans (G.mono I.out.size);clear A H G;go_wp2_with fail;refine z.out.mono ?_;rintro e w8 ⟨rfl,-,k⟩;have R:Hid (Bw w w8):=C.out.trans ((Q.out.trans k).mono C.out.size);clear k;go_wp2_with fail;go_ret2;exact⟨rfl,(HW.out _ R.out).2.2.2.2,Kept.of R.out⟩
end Go.Proofs.YtlmlcadcdhhlcaaGreatDoor
namespace Go.Proofs.YtlmlcadcdhhlcaaGreatDoor
open Go Go.RowKit Go.Shelf
theorem WireAt.set1 {W:World} {b:Nat} {c:Value} {l m n:Ln} (h:WireAt W b c l m n) (i:Nat) (v:Value) {k:Ln} (e:(jdf c l m n).setIfInBounds i v=jdf c l k n):WireAt (W.setCell ⟨b,i,none⟩ v) b c l k n:=by
 have A:=hSk h v (i:=i);rw[e] at A;exact A
theorem jhU {T e:TypeId} {B b:Nat} {A:List Value} {w D:World} (h:Lib.IsBuilderF T e B b A w) (J:∀ j,B<=j->j<w.heap.size->D.heap[j]? = w.heap[j]?):Lib.IsBuilderF T e B b A D:=by
 have one:∀ p,Lib.BuilderAtF T e B b p A w->Lib.BuilderAtF T e B b p A D:=fun p ⟨E,v,F,G,M⟩=>by
  refine⟨E,v,(J b E (Array.getElem?_eq_some_iff.1 F).1).trans F,⟨G.1,?_⟩,M⟩;rcases G.2 with N | ⟨g,cap,C,L,O,H,I,r⟩
  ·exact .inl N
  ·exact .inr ⟨g,cap,C,L,O,H,(J g H (Array.getElem?_eq_some_iff.1 I).1).trans I,r⟩
 exact h.imp (one _) (one _)
theorem jir (b:Nat) (A:Value) (l m n:Ln) (w:World) (h:WireAt w b A l m n) :
  Calls Tryz.prog 35 #[.pointer (some ⟨b,7,none⟩)] w fun e i=>e=.returned (.tuple #[])/\WireAt i b A l lnX n/\Kept (· ≠ b) w i:=by
 have G:Kept (· ≠ b) w w:=Kept.refl;obtain⟨U,B⟩:∃ V,w=V:=⟨_,rfl⟩;have X:WireAt U b A l m n:=B▸h;obtain⟨C,O⟩:∃ V,U.setCell ⟨b,7,none⟩ (.int .u64 0)=V:=⟨_,rfl⟩;have Y:WireAt C b A l ⟨0,m.role,m.till,m.known,m.closed,m.left⟩ n:=by rw[<- O];exact X.set1 7 _ rfl
 have H:Kept (· ≠ b) w C:=by rw[<- O,<- B];exact G.set (b:=b) (fun _ h=>h rfl) 7 _
 have k:U.cell? ⟨b,7,none⟩=some (.int .u64 m.tnt):=cCc X 7;have q:U.frozen? ⟨b,7,none⟩=false:=cFz X 7;obtain⟨D,P⟩:∃ V,C.setCell ⟨b,8,none⟩ (.int .i64 0)=V:=⟨_,rfl⟩;have Z:WireAt D b A l ⟨0,0,m.till,m.known,m.closed,m.left⟩ n:=by rw[<- P];exact Y.set1 8 _ rfl
 have I:Kept (· ≠ b) w D:=by rw[<- P];exact H.set (b:=b) (fun _ h=>h rfl) 8 _
 have o:C.cell? ⟨b,8,none⟩=some (.int .i64 m.role):=cCc Y 8;have r:C.frozen? ⟨b,8,none⟩=false:=cFz Y 8;obtain⟨E,Q⟩:∃ V,D.setCell ⟨b,9,none⟩ (.int .u64 0)=V:=⟨_,rfl⟩;have a:WireAt E b A l ⟨0,0,0,m.known,m.closed,m.left⟩ n:=by rw[<- Q];exact Z.set1 9 _ rfl
 have J:Kept (· ≠ b) w E:=by rw[<- Q];exact I.set (b:=b) (fun _ h=>h rfl) 9 _
 have p:D.cell? ⟨b,9,none⟩=some (.int .u64 m.till):=cCc Z 9;have s:D.frozen? ⟨b,9,none⟩=false:=cFz Z 9;obtain⟨V4,R⟩:∃ V,E.setCell ⟨b,10,none⟩ (.bool false)=V:=⟨_,rfl⟩;have c:WireAt V4 b A l ⟨0,0,0,false,m.closed,m.left⟩ n:=by rw[<- R];exact a.set1 10 _ rfl
 have L:Kept (· ≠ b) w V4:=by rw[<- R];exact J.set (b:=b) (fun _ h=>h rfl) 10 _
 have c3:E.cell? ⟨b,10,none⟩=some (.bool m.known):=cCc a 10;have t:E.frozen? ⟨b,10,none⟩=false:=cFz a 10;obtain⟨F,S⟩:∃ V,V4.setCell ⟨b,11,none⟩ (.bool true)=V:=⟨_,rfl⟩;have d:WireAt F b A l ⟨0,0,0,false,true,m.left⟩ n:=by rw[<- S];exact c.set1 11 _ rfl
 have M:Kept (· ≠ b) w F:=by rw[<- S];exact L.set (b:=b) (fun _ h=>h rfl) 11 _
 have c4:V4.cell? ⟨b,11,none⟩=some (.bool m.closed):=cCc c 11;have u:V4.frozen? ⟨b,11,none⟩=false:=cFz c 11;obtain⟨f,T⟩:∃ V,F.setCell ⟨b,12,none⟩ (.string ⟨#[]⟩)=V:=⟨_,rfl⟩;have g:WireAt f b A l ⟨0,0,0,false,true,⟨#[]⟩⟩ n:=by rw[<- T];exact d.set1 12 _ rfl
 have N:Kept (· ≠ b) w f:=by rw[<- T];exact M.set (b:=b) (fun _ h=>h rfl) 12 _
 have c5:F.cell? ⟨b,12,none⟩=some (.string m.left):=cCc d 12;have v:F.frozen? ⟨b,12,none⟩=false:=cFz d 12;have j:=Lib.hid (And.intro g N);clear h X Y Z a c d g G H I J L M N;subst B;go_enter Tryz.func35,Tryz.ntmps35;go_wp2_with fail;go_end0;exact⟨rfl,j.out⟩
theorem jfL (b:Nat) (R:Value) (l m n:Ln) (s r:ByteArray) (no:Int) (fm ff:Addr) (w:World) (hz:s.size<4294967281) (ao:r.size<=281474976710656) (hE:GF fm ff w) (hT:Fr.GT w) (hF:Frames s.data.toList [] r.data.toList no) (an:no≠20) (h:WireAt w b R l m n) (hc:m.closed=false) (hl:m.left=⟨#[]⟩) :
  Calls Tryz.prog 8 #[.pointer (some ⟨b,0,none⟩),.int .i64 1,.string s] w fun e w'=>e=.returned (.tuple #[.string ⟨(mkF (Ry.B ⟨200,0,[],[]⟩)).toArray⟩,.int .i64 0])/\WireAt w' b R l lnX n/\Kept (· ≠ b) w w':=by
 obtain⟨-,-,-,-,c4,c5⟩:=h.at1;rw[hc] at c4;rw[hl] at c5;have HN:=Lib.hid fun V=>jbH ⟨b,0,none⟩ V
 have HI:=Lib.hid fun V=>jbB 1 V
 have ap:(⟨#[]⟩:ByteArray)++s=s:=by apply ByteArray.ext;rw[ByteArray.data_append];simp
 have hA:=jdE s _ _ _ fm ff w hz hE hT hF;rw[show (⟨r.data.toList.toArray⟩:ByteArray)=r from rfl] at hA;have HA:=Lib.hid hA;have HW:=Lib.hid fun (V:World) (c:Bw w V)=>h.go c
 have f:=Lib.hid fun V=>jcj 200 V (by omega) (by omega)
 have u:(⟨(mkF (Ry.B ⟨200,0,[],[]⟩)).toArray⟩:ByteArray).size=10:=by decide
 obtain⟨T,t⟩:∃ T,(mkF (Ry.B ⟨200,0,[],[]⟩))=T:=⟨_,rfl⟩;rw[t] at f u ⊢;have au:(no==20)=false:=beq_eq_false_iff_ne.2 an;have HC:=Lib.hid fun V=>jdF r V ao
 have HL:=Lib.hid fun V (c:Bw w V)=>(h.go c)
 clear hE hT hF h hc hl hA t;go_enter Tryz.func8,Tryz.ntmps8;go_wp2_with fail;refine (HN.out _).mono ?_;rintro e w1 ⟨rfl,X⟩;have X:=X.symm;subst X;go_wp2_with fail;refine (HI.out _).mono ?_;rintro e w2 ⟨rfl,X⟩;have X:=X.symm;subst X;go_wp2_with fail;refine HA.out.mono ?_;rintro e D ⟨a,cap,rfl,-,hb⟩;obtain⟨W,hW,hX,hB,av⟩:=jab D #[.pointer none,.slice none 0 0] 86;have ab:Lib.IsBuilderF 86 5 D.heap.size D.heap.size [] W:=by rw[<- hW];exact Lib.IsBuilderF.of (Lib.fresh_isBuilder _ _ D)
 have Q:=Lib.hid hb;have H:Hid (Bw D W):=hB;have ad:=Lib.hid ab;clear hb hX hB HA ab;go_wp2_with fail;go_loopw [42] (fun i wr=>i=.int .i64 0/\wr=W) (fun i _=>0)
 case atStart=>exact⟨rfl,rfl⟩
 case round =>
  obtain⟨rfl,rfl⟩:=hrel;go_wp2_with fail;refine (HC.out _).mono ?_;rintro e G ⟨rfl,L⟩;have Z:Bw w wr:=Q.out.trans (H.out.mono Q.out.size);have Y:Bw w G:=Z.trans (L.mono Z.size);have J:=HL.out _ Y;have aa:=(Array.getElem?_eq_some_iff.1 (HL.out _ (Below.refl _ _))).1;have z:=Q.out.size;obtain⟨V,c⟩:∃ V,G.setCell ⟨b,12,none⟩ (.string r)=V:=⟨_,rfl⟩;have x:WireAt V b R l { m with left:=r } n:=by rw[<- c];exact J.set1 12 _ rfl
  have q:Kept (· ≠ b) G V:=by rw[<- c];exact Kept.refl.set (b:=b) (fun _ h=>h rfl) 12 _
  have aq:G.cell? ⟨b,12,none⟩=some (.string m.left):=cCc J 12;have ar:G.frozen? ⟨b,12,none⟩=false:=cFz J 12;have ae:=Lib.hid (jir b R l _ n V x);have ag:=Lib.hid q;have g:Hid (Bw w G/\Bw D G/\Bw wr G/\b<w.heap.size/\w.heap.size<=D.heap.size/\D.heap.size<=wr.heap.size):=⟨Y,H.out.trans (L.mono H.out.size),L,aa,z,H.out.size⟩;clear Z Y J aa z x q L;go_wp2_with fail;refine ae.out.mono ?_;rintro e w8 ⟨rfl,y,p⟩;have al:=Lib.hid y;have af:Hid (Kept (· ≠ b) G w8):=ag.out.trans p;clear y p;go_wp2_with fail;refine (f.out _).mono ?_;rintro e w9 ⟨rfl,S⟩;obtain⟨M,s2,d,s4,s5,s6⟩:=g.out;have I:Kept (· ≠ b) G w9:=af.out.trans (.of S);have P:Lib.IsBuilderF 86 5 D.heap.size D.heap.size [] w9:=jhU (jeH ad.out (fun j hj=>d.block j hj)) (fun j h1 h2=>I.block j h2 (by omega));have v:=jbn D.heap.size D.heap.size [] ⟨T.toArray⟩ w9 P (by rw[u];decide) (by have:=I.size;have:=d.size;omega);have aj:Hid (WireAt w9 b R l lnX n):=al.out.go S;have F:=Lib.hid I;have ak:=Lib.hid v;clear v P I S M s2 d s4 s5 s6;go_wp2_with fail;refine ak.out.mono ?_;rintro e N ⟨rfl,U,A,-⟩;obtain⟨M,s2,d,s4,s5,s6⟩:=g.out;have am:D.heap.size<=w9.heap.size:=by have:=F.out.size;have:=d.size;omega
  have O:Lib.IsBuilderF 86 5 D.heap.size D.heap.size (Lib.byteCells T) N:=by
   rw[List.nil_append,jaX] at U;exact .inr U
  have ai:=Lib.hid (Tryz.Builder_String_any_f D.heap.size D.heap.size T N O (by have:=A.size;omega));have o:Hid (WireAt N b R l lnX n):=(A.block b (by omega)).trans aj.out;have E:Hid (Kept (· ≠ b) w N):=⟨A.os.trans (F.out.os.trans M.os),A.tape.trans (F.out.tape.trans M.tape),A.output.trans (F.out.output.trans M.output),Nat.le_trans M.size (Nat.le_trans F.out.size A.size),fun k hk hq=>(A.block k (by omega)).trans ((F.out.block k (by have:=M.size;omega) hq).trans (M.block k hk))⟩;have ah:Hid (b<D.heap.size/\w.heap.size<=D.heap.size):=⟨by omega,s5⟩;clear U O A M s2 d s4 s5 s6 am;go_wp2_with fail;refine ai.out.mono ?_;rintro e ac ⟨rfl,-,C⟩
  have HF:Hid (WireAt ac b R l lnX n/\Kept (· ≠ b) w ac):=by
   obtain⟨z1,z2⟩:=ah.out;exact⟨(C.block b z1).trans o.out,⟨C.os.trans E.out.os,C.tape.trans E.out.tape,C.output.trans E.out.output,Nat.le_trans E.out.size C.size,fun k hk hq=>(C.block k (by omega)).trans (E.out.block k hk hq)⟩⟩
  clear C;go_wp2_with fail;go_ret2;exact⟨rfl,HF.out⟩
end Go.Proofs.YtlmlcadcdhhlcaaGreatDoor
