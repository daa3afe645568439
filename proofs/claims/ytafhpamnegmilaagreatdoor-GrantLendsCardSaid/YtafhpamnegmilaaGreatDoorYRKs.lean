/- aviarylaw04.Few over slices by their elements. aviarylaw12: One: printed by wip/tools/gen_f8.py. Tables of series in memory. aviarylaw12.Few. series.rightSeries, series.Right. series.Right. series.Find. series.add. series.Put: printed by wip/tools/gen_t5.py. series.Cost. Series of Go's sizes; aviarylaw12.shown. A series as an argument has it. What rows have in common: series opened, the tables of unicode/utf8. Printed by gen_rz.py. -/
import Derived.Lib.LaidTab
import Derived.Lib.LaidU8T
import Derived.Test.YtafhpamnegmilaaGreatDoorYL7
set_option maxHeartbeats 4000000
set_option maxRecDepth 100000
namespace Go.Proofs.YtafhpamnegmilaaGreatDoor
open Go Go.RowKit
section
open Go.Shelf
theorem jpZ:Tryz.prog.underlying 58=some (.slice 57):=by kernel_rfl
theorem jpj:(Tryz.prog.info? 57).map (fun i=>(i.zero,i.size,i.bytes))=some (some (.agg #[.string ⟨#[]⟩,.string ⟨#[]⟩]),2,32):=by kernel_rfl
def jjD (x:Lab):ji3:=⟨⟨jmX 20 x.name,jmX 120 x.value⟩,jmY 20 (by decide) _,jmY 120 (by decide) _⟩
def jeh (l:List Lab):List ji3:=(l.take 10).map jjD
theorem jpc {l:List Lab} {k:Nat} {x:Lab} (A:l[k]? = some x):((l.take (k+1)).map jjD).flatMap (fun y=>y.1.enc)=((l.take k).map jjD).flatMap (fun y=>y.1.enc)++[.string (jmX 20 x.name),.string (jmX 120 x.value)]:=by
 rw[jai A];simp[jjD,Lab.enc]
theorem jh3 (l:List Lab) (a:Option Addr) (len cap:Nat) (w:World) (T:SlE Lab.enc 2 w.heap.size w a len l) :
  Calls Tryz.prog 58 #[.slice a len cap] w fun e w'=>∃ F B,e=.returned (.slice F (jeh l).length B)/\SlC Lab.enc 2 w'.heap.size w' F (jeh l).length B ((jeh l).map (·.1))/\(∀ x,F=some x->w.heap.size<=x.block)/\Bw w w':=by
 have Q:=T.1;subst Q;have C:w.ownsRow w.heap.size 57 2 (.slice none 0 0) 0 []:=World.ownsRow_nil _ _ _ _;go_enter Tryz.func58,Tryz.ntmps58;go_wp2_with fail;go_loopw [3,4] (fun v i wr=>∃ (k:Nat),i=.int .i64 k/\k<=l.length/\k<=10/\Bw w wr/\wr.ownsRow w.heap.size 57 2 v k (((l.take k).map jjD).flatMap (fun y=>y.1.enc))) (fun _ i _=>l.length-(intOf i).toNat)
 case atStart=>exact⟨0,rfl,Nat.zero_le _,by omega,Below.refl _ _,C⟩
 case round =>
  obtain⟨k,rfl,hk,h,L,A⟩:=hrel;have Y:=L.size;by_cases H:k<l.length/\k<10
  ·obtain⟨H,X⟩:=H
   obtain⟨x,Z⟩:∃ x,l[k]? = some x:=⟨_,List.getElem?_eq_getElem H⟩;obtain⟨b,off,rfl,E,V⟩:=(T.below L).2 k x Z;have o:wr.cell? ⟨b,off+k*2,none⟩=some (.string x.name):=V 0 (by omega);have q:wr.cell? ⟨b,off+k*2+1,none⟩=some (.string x.value):=V 1 (by omega);have n:=Lib.hid (jpc Z);obtain⟨s,N,c,O,D,G,u,P,-⟩:=jaL Tryz.prog 58 jpZ jpj rfl (by decide) (W:=wr.drew) A L.drew (Nat.le_refl _) Y [.string (x.name.extract 0 (min (x.name.size:Int) 20).toNat),.string (x.value.extract 0 (min (x.value.size:Int) 120).toNat)] rfl (by simp[Value.oneCell']) (by omega) (by decide);obtain⟨J,M,rfl⟩:=jd4 A;have m:=Lib.hid D;have e4:(k:Int)<10:=by omega
   have z:c.cell? ⟨b,off+k*2,none⟩=some (.string x.name):=(G.cell (p:=⟨b,off+k*2,none⟩) E).trans ((L.cell (p:=⟨b,off+k*2,none⟩) E).symm.trans o);have k1:c.cell? ⟨b,off+k*2+1,none⟩=some (.string x.value):=(G.cell (p:=⟨b,off+k*2+1,none⟩) E).trans ((L.cell (p:=⟨b,off+k*2+1,none⟩) E).symm.trans q);have e5:b<wr.heap.size:=by omega
   have m1:0<=min (x.name.size:Int) 20:=by omega
   have m2:min (x.name.size:Int) 20<=x.name.size:=by omega
   have m3:0<=min (x.value.size:Int) 120:=by omega
   have m4:min (x.value.size:Int) 120<=x.value.size:=by omega
   clear V Z T A D P C;go_wp2_with fail
   go_region_held3 (fun w'=>w'.cell? ⟨b,off+k*2,none⟩=some (.string x.name)/\w'.cell? ⟨b,off+k*2+1,none⟩=some (.string x.value))
    (first
     | go_keep
     | exact⟨z,k1⟩)
    ((refine jdS (v:=.slice J k M) (xv:=.slice (some ⟨wr.heap.size,0,none⟩) 1 1) (v':=.slice (some ⟨s,0,none⟩) (k+1) N) (w':=c) rfl (.tmp 15) (.tmp 43) 58 rfl rfl rfl O ?_))
   all_goals go_wp2_with fail
   all_goals exact⟨⟨k+1,by go_num,by omega,by omega,G,by rw[n.out];exact m.out⟩,by simp[intOf];omega⟩
  ·have d:Hid (k=min l.length 10):=by rw[Hid];omega
   have g:Hid (((l.take k).map jjD)=jeh l):=by
    rw[d.out,jeh,Hid];rw[Nat.min_comm];exact congrArg _ List.take_eq_take_min.symm
   have U:Hid ((jeh l).length=k):=by rw[Hid,<- g.out,List.length_map,List.length_take];omega
   obtain⟨J,M,rfl⟩:=jd4 A
   have S:Hid (SlC Lab.enc 2 wr.heap.size wr J (jeh l).length M ((jeh l).map (·.1))/\∀ x,J=some x->w.heap.size<=x.block):=by
    have R:k=((jeh l).map (·.1)).length:=by rw[List.length_map,U.out]
    have I:wr.ownsRow w.heap.size 57 2 (.slice J k M) ((jeh l).map (·.1)).length (((jeh l).map (·.1)).flatMap Lab.enc):=by
     rw[<- R,List.flatMap_map];rw[g.out] at A;exact A
    obtain⟨a9,c9,r,f,t⟩:=jaz (enc:=Lab.enc) jfh I;injection r with e1 e2 e3
    subst e1;subst e3;rw[Hid,U.out];rw[<- R] at f;exact⟨f,t⟩
   clear T A d;have j:Hid (∃ F B,Ending.returned (.slice J k M)=.returned (.slice F (jeh l).length B)/\SlC Lab.enc 2 wr.heap.size wr F (jeh l).length B ((jeh l).map (·.1))/\(∀ x,F=some x->w.heap.size<=x.block)/\Bw w wr):=⟨J,M,by rw[U.out],S.out.1,S.out.2,L⟩;go_wp2_with fail
   all_goals go_ret
   all_goals exact j.out
end
structure Ser where
 l:List Lab
 sk:Sk
 seen:Int
structure SerP where
 la:Option Addr
 ll:Nat
 lc:Nat
 ss:SS
structure SerP.At (p:SerP) (n₀:Nat) (w:World) (x:Ser):Prop where
 l:SlC Lab.enc 2 n₀ w p.la p.ll p.lc x.l
 s:p.ss.At n₀ w x.sk
def jbq (x:Ser) (p:SerP):List Value:=[.slice p.la p.ll p.lc,.int .i64 x.sk.kind,.int .i64 x.sk.level,.slice p.ss.ea p.ss.el p.ss.ec,.int .i64 x.sk.hb,.string x.sk.hr,.int .i64 x.sk.cr,.int .i64 x.sk.cc,.slice p.ss.ca p.ss.cl p.ss.cc,.int .i64 x.sk.gf,.slice p.ss.ga p.ss.gl p.ss.gc,.int .u64 x.seen]
def Ser.cut (x:Ser):Ser:=⟨(jeh x.l).map (·.1),x.sk.cut,x.seen⟩
theorem jp0:Tryz.prog.underlying 60=some (.struct (Tryz.prog.fieldsOf 60)):=by kernel_rfl
theorem jnL:(Tryz.prog.info? 60).map (·.size)=some 12:=by kernel_rfl
def sets12 (W:World) (B:Nat) (v0 v1 v2 v3 v4 v5 v6 v7 v8 v9 v10 v11:Value):World:=((((((((((((W.setCell ⟨B,0,none⟩ v0).setCell ⟨B,1,none⟩ v1).setCell ⟨B,2,none⟩ v2).setCell ⟨B,3,none⟩ v3).setCell ⟨B,4,none⟩ v4).setCell ⟨B,5,none⟩ v5).setCell ⟨B,6,none⟩ v6).setCell ⟨B,7,none⟩ v7).setCell ⟨B,8,none⟩ v8).setCell ⟨B,9,none⟩ v9).setCell ⟨B,10,none⟩ v10).setCell ⟨B,11,none⟩ v11)
theorem jxo {W:World} {B:Nat} {P O N M L J I H G F C A v0 v1 v2 v3 v4 v5 v6 v7 v8 v9 D E:Value} {t:TypeId} (h:W.heap[B]? = some (.cells #[P,O,N,M,L,J,I,H,G,F,C,A] t (0,0))) :
  (sets12 W B v0 v1 v2 v3 v4 v5 v6 v7 v8 v9 D E).heap[B]? = some (.cells #[v0,v1,v2,v3,v4,v5,v6,v7,v8,v9,D,E] t (0,0)):=by
 unfold sets12;replace h:(W.setCell ⟨B,0,none⟩ v0).heap[B]? = some (.cells #[v0,O,N,M,L,J,I,H,G,F,C,A] t (0,0)):=hSk h v0;generalize W.setCell ⟨B,0,none⟩ v0=W at h ⊢;replace h:(W.setCell ⟨B,1,none⟩ v1).heap[B]? = some (.cells #[v0,v1,N,M,L,J,I,H,G,F,C,A] t (0,0)):=hSk h v1;generalize W.setCell ⟨B,1,none⟩ v1=W at h ⊢;replace h:(W.setCell ⟨B,2,none⟩ v2).heap[B]? = some (.cells #[v0,v1,v2,M,L,J,I,H,G,F,C,A] t (0,0)):=hSk h v2;generalize W.setCell ⟨B,2,none⟩ v2=W at h ⊢;replace h:(W.setCell ⟨B,3,none⟩ v3).heap[B]? = some (.cells #[v0,v1,v2,v3,L,J,I,H,G,F,C,A] t (0,0)):=hSk h v3;generalize W.setCell ⟨B,3,none⟩ v3=W at h ⊢;replace h:(W.setCell ⟨B,4,none⟩ v4).heap[B]? = some (.cells #[v0,v1,v2,v3,v4,J,I,H,G,F,C,A] t (0,0)):=hSk h v4;generalize W.setCell ⟨B,4,none⟩ v4=W at h ⊢;replace h:(W.setCell ⟨B,5,none⟩ v5).heap[B]? = some (.cells #[v0,v1,v2,v3,v4,v5,I,H,G,F,C,A] t (0,0)):=hSk h v5;generalize W.setCell ⟨B,5,none⟩ v5=W at h ⊢;replace h:(W.setCell ⟨B,6,none⟩ v6).heap[B]? = some (.cells #[v0,v1,v2,v3,v4,v5,v6,H,G,F,C,A] t (0,0)):=hSk h v6;generalize W.setCell ⟨B,6,none⟩ v6=W at h ⊢;replace h:(W.setCell ⟨B,7,none⟩ v7).heap[B]? = some (.cells #[v0,v1,v2,v3,v4,v5,v6,v7,G,F,C,A] t (0,0)):=hSk h v7;generalize W.setCell ⟨B,7,none⟩ v7=W at h ⊢;replace h:(W.setCell ⟨B,8,none⟩ v8).heap[B]? = some (.cells #[v0,v1,v2,v3,v4,v5,v6,v7,v8,F,C,A] t (0,0)):=hSk h v8;generalize W.setCell ⟨B,8,none⟩ v8=W at h ⊢
 replace h:(W.setCell ⟨B,9,none⟩ v9).heap[B]? = some (.cells #[v0,v1,v2,v3,v4,v5,v6,v7,v8,v9,C,A] t (0,0)):=hSk h v9;generalize W.setCell ⟨B,9,none⟩ v9=W at h ⊢;replace h:(W.setCell ⟨B,10,none⟩ D).heap[B]? = some (.cells #[v0,v1,v2,v3,v4,v5,v6,v7,v8,v9,D,A] t (0,0)):=hSk h D;generalize W.setCell ⟨B,10,none⟩ D=W at h ⊢;replace h:(W.setCell ⟨B,11,none⟩ E).heap[B]? = some (.cells #[v0,v1,v2,v3,v4,v5,v6,v7,v8,v9,D,E] t (0,0)):=hSk h E;exact h
theorem jlh {n B:Nat} {w W:World} (h:Below n w W) (A:n<=B) (v0 v1 v2 v3 v4 v5 v6 v7 v8 v9 C D:Value):Below n w (sets12 W B v0 v1 v2 v3 v4 v5 v6 v7 v8 v9 C D) :=
 (((((((((((h.setCell (p:=⟨B,0,none⟩) A _).setCell (p:=⟨B,1,none⟩) A _).setCell (p:=⟨B,2,none⟩) A _).setCell (p:=⟨B,3,none⟩) A _).setCell (p:=⟨B,4,none⟩) A _).setCell (p:=⟨B,5,none⟩) A _).setCell (p:=⟨B,6,none⟩) A _).setCell (p:=⟨B,7,none⟩) A _).setCell (p:=⟨B,8,none⟩) A _).setCell (p:=⟨B,9,none⟩) A _).setCell (p:=⟨B,10,none⟩) A _).setCell (p:=⟨B,11,none⟩) A _
theorem jnI (W:World) (B:Nat) (v0 v1 v2 v3 v4 v5 v6 v7 v8 v9 A C:Value):(sets12 W B v0 v1 v2 v3 v4 v5 v6 v7 v8 v9 A C).heap.size=W.heap.size:=by unfold sets12;simp only[World.size_setCell]
theorem SlC.sets12 {α:Type} {enc:α->List Value} {k E B:Nat} {W:World} {a:Option Addr} {len cap:Nat} {l:List α} (F:SlC enc k E W a len cap l) (A:∀ x,a=some x->B≠x.block) (v0 v1 v2 v3 v4 v5 v6 v7 v8 v9 C D:Value):SlC enc k E (sets12 W B v0 v1 v2 v3 v4 v5 v6 v7 v8 v9 C D) a len cap l :=
 (((((((((((F.set_far (p:=⟨B,0,none⟩) A _).set_far (p:=⟨B,1,none⟩) A _).set_far (p:=⟨B,2,none⟩) A _).set_far (p:=⟨B,3,none⟩) A _).set_far (p:=⟨B,4,none⟩) A _).set_far (p:=⟨B,5,none⟩) A _).set_far (p:=⟨B,6,none⟩) A _).set_far (p:=⟨B,7,none⟩) A _).set_far (p:=⟨B,8,none⟩) A _).set_far (p:=⟨B,9,none⟩) A _).set_far (p:=⟨B,10,none⟩) A _).set_far (p:=⟨B,11,none⟩) A _
theorem jrI {l:List Lab} {k:Sk} {H:Int} {s:SS} {w N L I:World} {J:Option Addr} {C:Nat} {v0 v1 v2 v3 v4 v5 v6 v7 v8 v9 A B:Value} (O:s.At w.heap.size w k) (P:w.heap.size+1<N.heap.size)
  (M:SlC Lab.enc 2 L.heap.size L J (jeh l).length C ((jeh l).map (·.1))) (G:∀ x,J=some x->N.heap.size<=x.block) (D:Bw w L) (F:Bw L I) :
  SerP.At ⟨J,(jeh l).length,C,s.cut⟩ (sets12 I (w.heap.size+1) v0 v1 v2 v3 v4 v5 v6 v7 v8 v9 A B).heap.size (sets12 I (w.heap.size+1) v0 v1 v2 v3 v4 v5 v6 v7 v8 v9 A B) (Ser.cut ⟨l,k,H⟩)/\(∀ z,J=some z->w.heap.size<=z.block)/\Bw w (sets12 I (w.heap.size+1) v0 v1 v2 v3 v4 v5 v6 v7 v8 v9 A B):=by
 have E:Bw w (sets12 I (w.heap.size+1) v0 v1 v2 v3 v4 v5 v6 v7 v8 v9 A B):=jlh (D.trans (F.mono D.size)) (Nat.le_succ _) ..;refine⟨⟨?_,(O.go E).cut⟩,fun z R=>by have:=G z R;omega,E⟩;rw[jnI];exact (M.go F).sets12 (fun x Q=>by have:=G x Q;omega) ..
theorem jrH (x:Ser) (p:SerP) (w:World) (h:p.At w.heap.size w x) :
  Calls Tryz.prog 27 #[.agg (jbq x p).toArray] w fun e w'=>∃ g:SerP,e=.returned (.agg (jbq x.cut g).toArray)/\g.ss=p.ss.cut/\g.At w'.heap.size w' x.cut/\(∀ z,g.la=some z->w.heap.size<=z.block)/\Bw w w':=by
 obtain⟨l,k,b⟩:=x;obtain⟨X,Y,f,s⟩:=p;obtain⟨t,d⟩:=h;dsimp only at t d;unfold jbq;dsimp only;obtain⟨F,ab,R,U,Q,u⟩:=jaI w #[.slice X Y f,.int .i64 k.kind,.int .i64 k.level,.slice s.ea s.el s.ec,.int .i64 k.hb,.string k.hr,.int .i64 k.cr,.int .i64 k.cc,.slice s.ca s.cl s.cc,.int .i64 k.gf,.slice s.ga s.gl s.gc,.int .u64 b] 60 #[.slice none 0 0,.int .i64 0,.int .i64 0,.slice none 0 0,.int .i64 0,.string ⟨#[]⟩,.int .i64 0,.int .i64 0,.slice none 0 0,.int .i64 0,.slice none 0 0,.int .u64 0] 60;obtain⟨c0,c1,c2,c3,c4,c5,c6,c7,c8,c9,j,m⟩:=jhS R;have c:SlE Lab.enc 2 F.drew.heap.size F.drew X Y l:=(t.1.go Q).drew;have M:s.At F.heap.size F k:=d.go Q;have v:w.heap.size+1<F.drew.heap.size:=by show _<F.heap.size;omega
 have O:F.drew.heap[w.heap.size]? = _:=R;have P:F.drew.heap[w.heap.size+1]? = _:=U;have L:Bw w F.drew:=Q.drew;have HS:=Lib.hid d;clear R U u t d;go_enter Tryz.func27,Tryz.ntmps27;go_wp2_with fail;refine wp_region_any (by kernel_rfl) ?_;change wpAny _ _ _ _ _ _ _ (World.drew _)
 ·
  refine ta 0 ?_;refine ta 3 ?_;refine ta 6 ?_;refine rd [1,4,7] (.cons rfl (fun K hK=>?_) (.cons rfl (fun K hK=>?_) (.cons rfl (fun K hK=>?_) .nil)))
  all_goals go_simp
  all_goals (refine hK _ _ ?_;clear hK K)
  all_goals first
   | (refine rq [2,4,7] (.cons rfl (fun K hK=>?_) (.cons rfl (fun K hK=>?_) (.cons rfl (fun K hK=>?_) .nil))))
   | (refine rq [1,7] (.cons rfl (fun K hK=>?_) (.cons rfl (fun K hK=>?_) .nil)))
   | (refine rq [1,4] (.cons rfl (fun K hK=>?_) (.cons rfl (fun K hK=>?_) .nil)))
  all_goals go_simp
  all_goals first
   |
    refine (jh3 l X Y f _ c).mono ?_;rintro e E ⟨i,G,rfl,T,S,A⟩;have B:=(A.block w.heap.size (by omega)).trans O;have J:=(A.block (w.heap.size+1) (by omega)).trans P;obtain⟨r0,r1,r2,r3,r4,r5,r6,r7,r8,r9,Z,a⟩:=jhS B;have I:s.At E.heap.size E k:=(M.go ((Below.refl _ F).drew)).go A;have V:=A.size;have H:Bw w E:=L.trans (A.mono (by omega));refine hK _ _ ?_;clear hK K
   | (refine hK _ _ ?_;clear hK K)
  all_goals first
   | (refine rq [4,7] (.cons rfl (fun K hK=>?_) (.cons rfl (fun K hK=>?_) .nil)))
   | (refine rq [2,7] (.cons rfl (fun K hK=>?_) (.cons rfl (fun K hK=>?_) .nil)))
   | (refine rq [2,4] (.cons rfl (fun K hK=>?_) (.cons rfl (fun K hK=>?_) .nil)))
   | (refine rq [1] (.cons rfl (fun K hK=>?_) .nil))
  all_goals go_simp
  all_goals first
   |
    refine (jh3 l X Y f _ c).mono ?_;rintro e E ⟨i,G,rfl,T,S,A⟩;have B:=(A.block w.heap.size (by omega)).trans O;have J:=(A.block (w.heap.size+1) (by omega)).trans P;obtain⟨r0,r1,r2,r3,r4,r5,r6,r7,r8,r9,Z,a⟩:=jhS B;have I:s.At E.heap.size E k:=(M.go ((Below.refl _ F).drew)).go A;have V:=A.size;have H:Bw w E:=L.trans (A.mono (by omega));refine hK _ _ ?_;clear hK K
   | (refine hK _ _ ?_;clear hK K)
  all_goals first
   | (refine rq [5,7] (.cons rfl (fun K hK=>?_) (.cons rfl (fun K hK=>?_) .nil)))
   | (refine rq [4] (.cons rfl (fun K hK=>?_) .nil))
   | (refine rq [2] (.cons rfl (fun K hK=>?_) .nil))
  all_goals go_simp
  all_goals first
   |
    refine (jly k s E I).mono ?_;rintro e w3 ⟨rfl,D⟩;unfold jr6;have N:=(D.block w.heap.size (by omega)).trans B;have C:=(D.block (w.heap.size+1) (by omega)).trans J;obtain⟨t0,t1,t2,t3,t4,t5,t6,t7,t8,t9,y,aa⟩:=jhS N;obtain⟨d0,d1,d2,d3,d4,d5,d6,d7,d8,d9,n,o⟩:=jhS C;obtain⟨f0,f1,f2,f3,f4,f5,f6,f7,f8,f9,q,r⟩:=jxx C;refine hK _ _ ?_;clear hK K
   |
    refine (jh3 l X Y f _ c).mono ?_;rintro e E ⟨i,G,rfl,T,S,A⟩;have B:=(A.block w.heap.size (by omega)).trans O;have J:=(A.block (w.heap.size+1) (by omega)).trans P;obtain⟨r0,r1,r2,r3,r4,r5,r6,r7,r8,r9,Z,a⟩:=jhS B;have I:s.At E.heap.size E k:=(M.go ((Below.refl _ F).drew)).go A;have V:=A.size;have H:Bw w E:=L.trans (A.mono (by omega));refine hK _ _ ?_;clear hK K
   | (refine hK _ _ ?_;clear hK K)
  all_goals first
   | (refine rq [7] (.cons rfl (fun K hK=>?_) .nil))
   | (refine rq [5] (.cons rfl (fun K hK=>?_) .nil))
  all_goals go_simp
  all_goals first
   |
    refine (jly k s E I).mono ?_;rintro e w3 ⟨rfl,D⟩;unfold jr6;have N:=(D.block w.heap.size (by omega)).trans B;have C:=(D.block (w.heap.size+1) (by omega)).trans J;obtain⟨t0,t1,t2,t3,t4,t5,t6,t7,t8,t9,y,aa⟩:=jhS N;obtain⟨d0,d1,d2,d3,d4,d5,d6,d7,d8,d9,n,o⟩:=jhS C;obtain⟨f0,f1,f2,f3,f4,f5,f6,f7,f8,f9,q,r⟩:=jxx C;refine hK _ _ ?_;clear hK K
   | (refine hK _ _ ?_;clear hK K)
  all_goals (refine ta 8 ?_;refine rd [9] (.cons rfl (fun K hK=>?_) .nil))
  all_goals go_simp
  all_goals (refine hK _ _ ?_;clear hK K)
  all_goals (refine wpAny_done (by kernel_rfl) ?_ _)
  all_goals
   clear O P B J N A c0 c1 c2 c3 c4 c5 c6 c7 c8 c9 j m c M I L;go_wp2_with fail;refine bodyPost_ret (results_cell_row rfl _ _ (w.heap.size+1) 60 _ (0,0) _ rfl (jxo C) jp0 rfl jnL) rfl ?_;exact⟨⟨i,_,G,s.cut⟩,rfl,rfl,jrI HS.out v T S H D⟩
section
open Go.Shelf
theorem jlq {A B:World} {p:Addr} (h:B.heap[p.block]? = A.heap[p.block]?):B.cell? p=A.cell? p:=by unfold World.cell?;rw[h]
theorem SlC.frame {α:Type} {enc:α->List Value} {k D:Nat} {A B:World} {a:Option Addr} {len cap:Nat} {l:List α} {q:Nat->Prop} (C:SlC enc k D A a len cap l) (L:∀ z,a=some z->0<cap->q z.block) (H:∀ b,b<D->q b->B.heap[b]? = A.heap[b]?):SlC enc k D B a len cap l :=
 ⟨⟨C.1.1,fun j x F=>by
  obtain⟨b,off,e,E,G⟩:=C.1.2 j x F;have J:=(List.getElem?_eq_some_iff.1 F).1;have M:=C.1.1;have N:=C.2.1;exact⟨b,off,e,E,fun i I=>(jlq (H b E (L _ e (by omega)))).trans (G i I)⟩⟩,C.2⟩
structure SerP.Off (p:SerP) (q:Nat->Prop):Prop where
 l:∀ z,p.la=some z->0<p.lc->q z.block
 e:∀ z,p.ss.ea=some z->0<p.ss.ec->q z.block
 c:∀ z,p.ss.ca=some z->0<p.ss.cc->q z.block
 g:∀ z,p.ss.ga=some z->0<p.ss.gc->q z.block
theorem SerP.Off.imp {p:SerP} {q r:Nat->Prop} (h:p.Off q) (C:∀ b,q b->r b):p.Off r:=⟨fun z A B=>C _ (h.l z A B),fun z A B=>C _ (h.e z A B),fun z A B=>C _ (h.c z A B),fun z A B=>C _ (h.g z A B)⟩
theorem SerP.Off.and {p:SerP} {q r:Nat->Prop} (h:p.Off q) (C:p.Off r):p.Off (fun b=>q b/\r b):=⟨fun z A B=>⟨h.l z A B,C.l z A B⟩,fun z A B=>⟨h.e z A B,C.e z A B⟩,fun z A B=>⟨h.c z A B,C.c z A B⟩,fun z A B=>⟨h.g z A B,C.g z A B⟩⟩
section
variable {n n₁:Nat} {A B w:World} {x:Ser} {p:SerP}
theorem SerP.At.off (h:p.At n w x):p.Off (· < n):=⟨fun z A B=>(h.l.2.2.2.2 z A B).2,fun z A B=>(h.s.e.2.2.2.2 z A B).2,fun z A B=>(h.s.c.2.2.2.2 z A B).2,fun z A B=>(h.s.g.2.2.2.2 z A B).2⟩
theorem SerP.At.frame {q:Nat->Prop} (h:p.At n A x) (D:p.Off q) (C:∀ b,b<n->q b->B.heap[b]? = A.heap[b]?):p.At n B x :=
 ⟨h.l.frame D.l C,⟨h.s.e.frame D.e C,h.s.c.frame D.c C,h.s.g.frame D.g C⟩⟩
theorem SerP.At.below (h:p.At n A x) (C:Below n A B):p.At n B x:=⟨h.l.below C,h.s.below C⟩
theorem SerP.At.mono (h:p.At n A x) (B:n<=n₁):p.At n₁ A x:=⟨h.l.mono B,h.s.mono B⟩
theorem SerP.At.drew (h:p.At n w x):p.At n w.drew x:=⟨h.l,⟨h.s.e,h.s.c,h.s.g⟩⟩
theorem SerP.At.go (h:p.At A.heap.size A x) (C:Bw A B):p.At B.heap.size B x:=(h.below C).mono C.size
end
def jev (e:Ser × SerP):List Value:=jbq e.1 e.2
theorem jpO (e:Ser × SerP):(jev e).length=12:=rfl
theorem jgU (e:Ser × SerP):∀ u∈jev e,u.oneCell'=true:=by
 intro u A;simp only[jev,jbq,List.mem_cons,List.not_mem_nil,or_false] at A;rcases A with h | h | h | h | h | h | h | h | h | h | h | h<;>(subst h;rfl)
structure Tab (n₀:Nat) (w:World) (a:Option Addr) (len cap:Nat) (l:List (Ser × SerP)):Prop where
 row:SlC jev 12 n₀ w a len cap l
 at_:∀ e∈l,e.2.At n₀ w e.1
section
variable {n₀ n₁:Nat} {A B w:World} {a:Option Addr} {len cap:Nat} {l:List (Ser × SerP)}
theorem Tab.below (h:Tab n₀ A a len cap l) (C:Below n₀ A B):Tab n₀ B a len cap l:=⟨h.row.below C,fun e D=>(h.at_ e D).below C⟩
theorem Tab.mono (h:Tab n₀ A a len cap l) (B:n₀<=n₁):Tab n₁ A a len cap l:=⟨h.row.mono B,fun e C=>(h.at_ e C).mono B⟩
theorem Tab.go (h:Tab A.heap.size A a len cap l) (C:Bw A B):Tab B.heap.size B a len cap l:=(h.below C).mono C.size
theorem Tab.nil:Tab n₀ w none 0 0 []:=⟨SlC.nil,fun e A=>by cases A⟩
theorem Tab.drew (h:Tab n₀ w a len cap l):Tab n₀ w.drew a len cap l:=⟨h.row,fun e A=>(h.at_ e A).drew⟩
theorem Tab.take (h:Tab n₀ w a len cap l) (m:Nat) (B:m<=len):Tab n₀ w a m cap (l.take m):=⟨h.row.take m B,fun e A=>h.at_ e (List.mem_of_mem_take A)⟩
end
theorem jgY {P:Program} {t e:TypeId} {z:Value} {G E:Nat} (R:TypeId) (ht:P.underlying t=some (.slice e)) (H:(P.info? e).map (fun i=>(i.zero,i.size,i.bytes))=some (some z,G,E))
  {W o:World} {L:Nat} {v v':Value} {n m c:Nat} {xs:List Value} (D:W.ownsRow L e G v n xs) {a:Addr} {A:List Value} (O:A.length=m*G) (B:∀ j u,A[j]? = some u->W.cell? (a.add j)=some u) (Z:∀ u∈A,u.oneCell'=true) (p:0<m)
  (S:n+m<=maxLen) (C:(n+m)*E<=140737488355328)
  (hr:(Builtin.append_ #[t,t] R #[v,.slice (some a) m c]).run P W=.ok v' o):v'.ownBlock=v.ownBlock\/∃ g,v'.ownBlock=some g/\W.heap.size<=g:=by
 obtain⟨i,V,Y,J,T⟩:=info_parts H;subst J;subst T;have Q:n+m<=9223372036854775807:=by simp only[maxLen] at S;omega
 rcases D.2 with⟨rfl,rfl⟩ | ⟨g,cap,M,rfl,d,h,k,f,U,X⟩
 ·have l:xs=[]:=List.eq_nil_of_length_eq_zero (by simpa using D.1)
  subst l;rw[run_append_nil (P:=P) W t R e i z ht V Y a m c A O B (by omega) (by omega) (by have b:=C;simp only[Nat.zero_add] at b;omega)] at hr;injection hr with hr1
  subst hr1;exact .inr ⟨_,rfl,Nat.le_refl _⟩
 ·by_cases F:n+m<=cap
  ·have N:n*i.size+A.length<=M.size:=by rw[O,U,<- Nat.add_mul];exact Nat.mul_le_mul_right _ F
   rw[run_append_room (P:=P) W t R e i ht V g n cap M h a m c A O B Z F N] at hr;injection hr with hr1
   subst hr1;exact .inl rfl
  ·have I:∀ j u,xs[j]? = some u->W.cell? ((⟨g,0,none⟩:Addr).add j)=some u:=D.cells (g:=g) rfl
   rw[run_append_grow (P:=P) W t R e i z ht V Y ⟨g,0,none⟩ n cap xs D.1 I a m c A O B (by omega) (by omega) (growslice_fits (by omega) C)] at hr;injection hr with hr1
   subst hr1;exact .inr ⟨_,rfl,Nat.le_refl _⟩
theorem jcY:Tryz.prog.underlying 22=some (.slice 60):=by kernel_rfl
theorem jek:(Tryz.prog.info? 60).map (fun i=>(i.zero,i.size,i.bytes))=some (some (.agg #[.slice none 0 0,.int .i64 0,.int .i64 0,.slice none 0 0,.int .i64 0,.string ⟨#[]⟩,.int .i64 0,.int .i64 0,.slice none 0 0,.int .i64 0,.slice none 0 0,.int .u64 0]),12,168):=by kernel_rfl
structure GrowS (base:Nat) (q:Nat->Prop) (w:World) (v:Value) (l:List (Ser × SerP)):Prop where
 own:w.ownsRow base 60 12 v l.length (l.flatMap jev)
 at_:∀ e∈l,e.2.At w.heap.size w e.1
 off:∀ e∈l,e.2.Off (fun b=>q b/\some b≠v.ownBlock)
theorem GrowS.nil (A:Nat) (q:Nat->Prop) (w:World):GrowS A q w (.slice none 0 0) []:=⟨World.ownsRow_nil _ _ _ _,(fun e h=>by cases h),(fun e h=>by cases h)⟩
theorem GrowS.form {A:Nat} {q:Nat->Prop} {w:World} {v:Value} {l:List (Ser × SerP)} (h:GrowS A q w v l):∃ a c,v=.slice a l.length c:=jd4 h.own
theorem GrowS.drew {A:Nat} {q:Nat->Prop} {w:World} {v:Value} {l:List (Ser × SerP)} (h:GrowS A q w v l):GrowS A q w.drew v l:=⟨h.own,fun e B=>(h.at_ e B).drew,h.off⟩
theorem GrowS.go {C:Nat} {q:Nat->Prop} {A B:World} {v:Value} {l:List (Ser × SerP)} (h:GrowS C q A v l) (E:Bw A B):GrowS C q B v l :=
 ⟨⟨h.own.1,h.own.2.imp id (fun ⟨g,cap,D,F,G,H,I⟩=>⟨g,cap,D,F,G,jab E (Nat.le_refl _) H,I⟩)⟩,fun e J=>(h.at_ e J).go E,h.off⟩
theorem GrowS.tab {A:Nat} {q:Nat->Prop} {w:World} {v:Value} {l:List (Ser × SerP)} (h:GrowS A q w v l):∃ a cap,v=.slice a l.length cap/\Tab w.heap.size w a l.length cap l/\(∀ z,a=some z->A<=z.block)/\(∀ e∈l,e.2.Off (fun b=>q b/\∀ z,a=some z->b≠z.block)):=by
 obtain⟨a,cap,rfl,D,E⟩:=jaz (enc:=jev) jpO h.own;refine⟨a,cap,rfl,⟨D,h.at_⟩,E,fun e F=>(h.off e F).imp fun b C=>⟨C.1,fun z G B=>?_⟩⟩;subst G;exact C.2 (by rw[B];rfl)
theorem GrowS.push {A B:Nat} {q:Nat->Prop} {W V:World} {v:Value} {l:List (Ser × SerP)} (h:GrowS A q W v l) (Y:Below B V W) (Q:B<=A) (E:A<=W.heap.size) (o:l.length<4294967) {x:Ser} {p:SerP} (d:p.At W.heap.size W x) (c:p.Off (fun b=>q b/\some b≠v.ownBlock)) :
  ∃ g cap G,(Builtin.append_ #[22,22] 22 #[v,.slice (some ⟨W.heap.size,0,none⟩) 1 1]).run Tryz.prog (W.alloc (.cells (jbq x p).toArray 60))=.ok (.slice (some ⟨g,0,none⟩) (l.length+1) cap) G /\
   GrowS A q G (.slice (some ⟨g,0,none⟩) (l.length+1) cap) (l++[(x,p)])/\Below B V G/\W.heap.size<G.heap.size/\(∀ k,k<W.heap.size->some k≠v.ownBlock->G.heap[k]? = W.heap[k]?):=by
 obtain⟨g,cap,G,I,N,P,S,-,L⟩:=jaL Tryz.prog 22 jcY jek rfl (by decide) (W:=W) h.own Y Q E (jbq x p) rfl (jgU (x,p)) (by omega) (by decide)
 have F:∀ j u,(jbq x p)[j]? = some u->(W.alloc (.cells (jbq x p).toArray 60)).cell? ((⟨W.heap.size,0,none⟩:Addr).add j)=some u:=fun j u a=>by
  have:=cCc (World.alloc_heap_new W (.cells (jbq x p).toArray 60)) j;have X:(⟨W.heap.size,0,none⟩:Addr).add j=⟨W.heap.size,j,none⟩:=by unfold Addr.add;split<;>simp_all
  rw[X,this];simpa using a
 have T:=jgY 22 jcY jek (h.own.alloc _) (n:=l.length) (m:=1) rfl F (jgU (x,p)) (by omega) (by unfold maxLen;omega) (by omega) I
 have M:∀ b,b<W.heap.size->some b≠v.ownBlock->some b≠Value.ownBlock (.slice (some ⟨g,0,none⟩) (l.length+1) cap):=fun b H R=>by
  rcases T with e | ⟨i,e,Z⟩
  ·rw[e];exact R
  ·rw[e]
   intro U;injection U with U
   simp at Z;omega
 have D:∀ e∈l++[(x,p)],e.2.At W.heap.size W e.1/\e.2.Off (fun b=>q b/\some b≠v.ownBlock):=fun e J=>by
  rcases List.mem_append.1 J with C | C
  ·exact⟨h.at_ e C,h.off e C⟩
  ·rw[List.mem_singleton] at C
   subst C;exact⟨d,c⟩
 refine⟨g,cap,G,I,⟨?_,fun e J=>?_,fun e J=>?_⟩,P,S,L⟩
 ·rw[List.length_append,List.flatMap_append]
  simpa [jev] using N
 ·obtain⟨C,O⟩:=D e J
  exact (C.frame O (fun b H f=>L b H f.2)).mono (by omega)
 ·obtain⟨C,O⟩:=D e J
  exact (C.off.and O).imp fun b H=>⟨H.2.1,M b H.1 H.2.2⟩
end
section
open Go.Shelf
attribute [-go_sem] Builtin.append_
theorem jtN {k:Nat} {F:Option Addr} {G n:Nat} {W:World} {m:List (Ser × SerP)} (h:GrowS n (fun _=>True) W (.slice F k G) m) {p:SerP} {c:SerP} (H:∀ z,p.la=some z->W.heap.size<=z.block) (E:c.Off (· < n)) (e:p.ss=c.ss.cut):p.Off (fun b=>True/\some b≠Value.ownBlock (.slice F k G)):=by
 have A:=h.own.lt;refine⟨fun z B _=>⟨trivial,fun D=>?_⟩,fun z B C=>⟨trivial,fun D=>?_⟩,fun z B C=>⟨trivial,fun D=>?_⟩,fun z B C=>⟨trivial,fun D=>?_⟩⟩
 ·have:=H z B;have:=A _ D.symm;omega
 ·rw[e] at B C;have:=E.e z B C;have:=A _ D.symm;omega
 ·rw[e] at B C;have:=E.c z B C;have:=A _ D.symm;omega
 ·rw[e] at B C;have:=E.g z B C;have:=A _ D.symm;omega
def jj1 (n:Nat) (l m:List (Ser × SerP)):Prop:=(∀ e∈m,∀ z,e.2.la=some z->n<=z.block)/\∀ q:Nat->Prop,(∀ e∈l,e.2.Off q)->∀ e∈m,e.2.Off (fun b=>q b\/n<=b)
def jh4 (l:List Ser):List Ser:=(l.take 22).map Ser.cut
theorem jlz (l:List (Ser × SerP)) (a:Option Addr) (len cap:Nat) (w:World) (s:Tab w.heap.size w a len cap l) :
  Calls Tryz.prog 6 #[.slice a len cap] w fun e w'=>∃ G A m,e=.returned (.slice G m.length A)/\Tab w'.heap.size w' G m.length A m/\m.map (·.1)=jh4 (l.map (·.1))/\(∀ x,G=some x->w.heap.size<=x.block)/\jj1 w.heap.size l m/\Bw w w':=by
 have U:=s.row.1.1;subst U;have n:=Lib.hid s;clear s;go_enter Tryz.func6,Tryz.ntmps6;go_wp2_with fail;go_loopw [3,4] (fun v i wr=>∃ (k:Nat) (m:List (Ser × SerP)),i=.int .i64 k/\k<=l.length/\k<=22/\m.length=k/\m.map (·.1)=((l.map (·.1)).take k).map Ser.cut/\jj1 w.heap.size l m/\Bw w wr/\GrowS w.heap.size (fun _=>True) wr v m) (fun _ i _=>l.length-(intOf i).toNat)
 case atStart=>exact⟨0,[],rfl,Nat.zero_le _,by omega,rfl,rfl,⟨(fun e h=>by cases h),fun q _ e h=>by cases h⟩,Below.refl _ _,GrowS.nil _ _ _⟩
 case round =>
  obtain⟨k,m,rfl,hk,ag,L,E,M,Q,R⟩:=hrel;have C:=Q.size;by_cases J:k<l.length/\k<22
  ·obtain⟨J,aa⟩:=J
   obtain⟨⟨x,p⟩,X⟩:∃ x,l[k]? = some x:=⟨_,List.getElem?_eq_getElem J⟩;obtain⟨b,off,rfl,aj,B⟩:=(n.out.below Q).row.1.2 k (x,p) X;have c0:wr.cell? ⟨b,off+k*12,none⟩=some (.slice p.la p.ll p.lc):=B 0 (by omega);have c1:wr.cell? ⟨b,off+k*12+1,none⟩=some (.int .i64 x.sk.kind):=B 1 (by omega);have c2:wr.cell? ⟨b,off+k*12+2,none⟩=some (.int .i64 x.sk.level):=B 2 (by omega);have c3:wr.cell? ⟨b,off+k*12+3,none⟩=some (.slice p.ss.ea p.ss.el p.ss.ec):=B 3 (by omega);have c4:wr.cell? ⟨b,off+k*12+4,none⟩=some (.int .i64 x.sk.hb):=B 4 (by omega);have c5:wr.cell? ⟨b,off+k*12+5,none⟩=some (.string x.sk.hr):=B 5 (by omega);have c6:wr.cell? ⟨b,off+k*12+6,none⟩=some (.int .i64 x.sk.cr):=B 6 (by omega);have c7:wr.cell? ⟨b,off+k*12+7,none⟩=some (.int .i64 x.sk.cc):=B 7 (by omega);have c8:wr.cell? ⟨b,off+k*12+8,none⟩=some (.slice p.ss.ca p.ss.cl p.ss.cc):=B 8 (by omega);have c9:wr.cell? ⟨b,off+k*12+9,none⟩=some (.int .i64 x.sk.gf):=B 9 (by omega);have ah:wr.cell? ⟨b,off+k*12+10,none⟩=some (.slice p.ss.ga p.ss.gl p.ss.gc):=B 10 (by omega);have ai:wr.cell? ⟨b,off+k*12+11,none⟩=some (.int .u64 x.seen):=B 11 (by omega);have hX:=Lib.hid X;have HG:=Lib.hid R;have HM:=Lib.hid E;have HL:=Lib.hid L;have HP:Hid (p.At wr.heap.size wr x):=((n.out.at_ _ (List.mem_of_getElem? X)).below Q).mono C;have HO:Hid (p.Off (· < w.heap.size)):=(n.out.at_ _ (List.mem_of_getElem? X)).off;obtain⟨va,vc,rfl⟩:=R.form;have f:=Lib.hid (fun p' hl e=>jtN (p:=p') HG.out hl HO.out e);clear B X R E L;have e4:(k:Int)<22:=by omega
   go_wp2_with (go_at_call 27;refine (jrH x p _ HP.out).mono ?_;rintro e w2 ⟨⟨ac,ae,ad,s'⟩,rfl,N,H,I,D⟩;have j:=Lib.hid N;obtain⟨g5,af,w5,F,S,r,ak,-⟩:=(HG.out.go D).push (Q.trans (D.mono C)) (Nat.le_refl _) (Nat.le_trans C D.size) (by rw[HL.out];omega) H (f.out _ I N);have d:=Lib.hid S;have HA:=Lib.hid H;have hZ:=D.size;clear S H N;unfold jbq at F ⊢;dsimp only at F ⊢);refine⟨⟨k+1,m++[(x.cut,⟨ac,ae,ad,s'⟩)],by go_num,by omega,by omega,by rw[List.length_append,HL.out];rfl,?_,?_,r,d.out⟩,by simp[intOf];omega⟩
   ·rw[List.map_append,HM.out,jai (x:=x) (by rw[List.getElem?_map,hX.out];rfl),List.map_append];rfl
   ·refine⟨fun e t z Z=>?_,fun q hq e t=>?_⟩
    ·rcases List.mem_append.1 t with h | h
     ·exact M.1 e h z Z
     ·rw[List.mem_singleton] at h
      subst h;exact Nat.le_trans C (I z Z)
    ·rcases List.mem_append.1 t with h | h
     ·exact M.2 q hq e h
     ·rw[List.mem_singleton] at h
      subst h;have o:=hq (x,p) (List.mem_of_getElem? hX.out);have ab:s'=p.ss.cut:=j.out;subst ab;exact⟨fun z Z _=>.inr (Nat.le_trans C (I z Z)),fun z O P=>.inl (o.e z O P),fun z O P=>.inl (o.c z O P),fun z O P=>.inl (o.g z O P)⟩
  ·have HK:Hid (k=min l.length 22):=by rw[Hid];omega
   obtain⟨va,vc,rfl,T,y,V⟩:=R.tab
   have FI:Hid (∃ G A Y,Ending.returned (.slice va m.length vc)=.returned (.slice G Y.length A)/\Tab wr.heap.size wr G Y.length A Y/\Y.map (·.1)=jh4 (l.map (·.1))/\(∀ x,G=some x->w.heap.size<=x.block)/\jj1 w.heap.size l Y/\Bw w wr):=by
    refine⟨va,vc,m,rfl,T,?_,y,M,Q⟩;rw[E,jh4,HK.out];congr 1;have u:(l.map (·.1)).length=l.length:=List.length_map ..;rw[Nat.min_comm,<- u];exact List.take_eq_take_min.symm
   clear E L HK R T V;go_wp2_with fail
   all_goals go_ret
   all_goals exact FI.out
end
section
open Go.Shelf
structure SerFit (x:Ser) (p:SerP):Prop where
 lab:jfs x.l
 ll:p.ll<4294967281
 short:p.ss.Short
 fit:x.sk.fit
 hr:x.sk.hr.size<2147483648
 seen:U64 x.seen
def jaV (x:Ser):Bool:=jal x.l&&jcc x.sk
theorem jdw (x:Ser) (p:SerP) (w:World) (h:p.At w.heap.size w x) (R:SerFit x p) (Q:GW w) :
  CR 52 #[.agg #[.slice p.la p.ll p.lc,.int .i64 x.sk.kind,.int .i64 x.sk.level,.slice p.ss.ea p.ss.el p.ss.ec,.int .i64 x.sk.hb,.string x.sk.hr,.int .i64 x.sk.cr,.int .i64 x.sk.cc,.slice p.ss.ca p.ss.cl p.ss.cc,.int .i64 x.sk.gf,.slice p.ss.ga p.ss.gl p.ss.gc,.int .u64 x.seen]] w (.bool (jaV x)):=by
 obtain⟨H,U,E,B,N⟩:=jaf w #[.slice p.la p.ll p.lc,.int .i64 x.sk.kind,.int .i64 x.sk.level,.slice p.ss.ea p.ss.el p.ss.ec,.int .i64 x.sk.hb,.string x.sk.hr,.int .i64 x.sk.cr,.int .i64 x.sk.cc,.slice p.ss.ca p.ss.cl p.ss.cc,.int .i64 x.sk.gf,.slice p.ss.ga p.ss.gl p.ss.gc,.int .u64 x.seen] 60;obtain⟨Y,Z,a,b,c,d,f,g,i,j,S,T⟩:=jhS E;have I:Hid (p.At H.heap.size H x):=h.go B;have C:=Lib.hid R;have P:Hid (GW H):=Q.below B;have G:w.heap.size<H.heap.size:=by omega
 clear h R Q N E;by_cases hr:jal x.l=true
 ·have L:Hid (jaV x=jcc x.sk):=by rw[Hid,jaV,hr];rfl
  go_enter Tryz.func52,Tryz.ntmps52
  go_wp2_with (first
   | (go_at_call 61;refine (jgl _ _ _ x.l _ I.out.l.1 C.out.lab P.out C.out.ll).mono ?_;rintro e O ⟨rfl,A⟩;rw[hr];obtain⟨V,X⟩:=jfA A;have J:Hid (p.At O.heap.size O x):=I.out.go A;have D:=B.trans (A.mono (Nat.le_of_lt G)))
   | (go_at_call 94;refine (jhl x.sk p.ss _ J.out.s C.out.short C.out.fit).mono ?_;rintro e k ⟨rfl,M⟩))
  go_ret;exact⟨by rw[L.out];rfl,D.trans (M.mono D.size)⟩
 ·have F:jal x.l=false:=by simpa using hr
  have L:Hid (jaV x=false):=by rw[Hid,jaV,F];rfl
  clear hr;go_enter Tryz.func52,Tryz.ntmps52;go_wp2_with (go_at_call 61;refine (jgl _ _ _ x.l _ I.out.l.1 C.out.lab P.out C.out.ll).mono ?_;rintro e O ⟨rfl,A⟩;rw[F]);go_ret;exact⟨by rw[L.out];rfl,B.trans (A.mono (Nat.le_of_lt G))⟩
def jdl (l:List (Ser × SerP)):Prop:=∀ e∈l,SerFit e.1 e.2
def jca:Option (List Lab)->List Ser->Bool
 | _,[]=>true
 | p,x::r=>jaV x&&(match p with | none=>true | some y=>jau y x.l)&&jca (some x.l) r
def jas (l:List Ser):Bool:=decide (l.length<=20)&&jca none l
def jdt (l:List Ser) (k:Nat):Option (List Lab):=if k=0 then none else (l[k-1]?).map (·.l)
theorem jk0 {l:List Ser} {k:Nat} {x:Ser} (A:l[k]? = some x) (p:Option (List Lab)):jca p (l.drop k)=(jaV x&&(match p with | none=>true | some y=>jau y x.l)&&jca (some x.l) (l.drop (k+1))):=by
 rw[jat A];rfl
theorem jfi {l:List Ser} {k:Nat} {x:Ser} (A:l[k]? = some x):jdt l (k+1)=some x.l:=by simp[jdt,A]
theorem jma {l:List Ser} {k:Nat} {x:Ser} (B:0<k) (A:l[k-1]? = some x):jdt l k=some x.l:=by simp[jdt,A];omega
theorem jbm (l:List (Ser × SerP)) (a:Option Addr) (len cap:Nat) (w:World) (hT:Tab w.heap.size w a len cap l) (hF:jdl l) (hG:GW w) :
  CR 26 #[.slice a len cap] w (.bool (jas (l.map (·.1)))):=by
 have j:=hT.row.1.1;subst j;have s:=Lib.hid hT;have HF:=Lib.hid hF;have HG:=Lib.hid hG;clear hT hF hG;by_cases ad:l.length<=20
 case neg =>
  have M:Hid (jas (l.map (·.1))=false):=by simp[Hid,jas];omega
  have ae:(20:Int)<l.length:=by omega
  generalize jas (l.map (·.1))=bR at M ⊢;go_enter Tryz.func26,Tryz.ntmps26;go_wp2_with fail;go_ret;exact⟨by rw[M.out];rfl,Below.refl _ _⟩
 have M:Hid (jas (l.map (·.1))=jca none (l.map (·.1))):=by simp[Hid,jas,ad]
 have ae:(l.length:Int)<=20:=by omega
 generalize jas (l.map (·.1))=bR at M ⊢;go_enter Tryz.func26,Tryz.ntmps26;go_wp2_with fail;go_loopw [10] (fun i wr=>∃ (k:Nat),i=.int .i64 k/\k<=l.length/\Bw w wr/\Hid (jca none (l.map (·.1))=jca (jdt (l.map (·.1)) k) ((l.map (·.1)).drop k))) (fun i _=>l.length-(intOf i).toNat)
 case atStart=>exact⟨0,rfl,Nat.zero_le _,Below.refl _ _,rfl⟩
 case round =>
  obtain⟨k,rfl,hk,O,r⟩:=hrel;have I:=O.size;by_cases ah:k<l.length
  ·obtain⟨⟨x,p⟩,o⟩:∃ x,l[k]? = some x:=⟨_,List.getElem?_eq_getElem ah⟩
   obtain⟨b,off,rfl,ag,E⟩:=(s.out.below O).row.1.2 k (x,p) o;have c0:wr.cell? ⟨b,off+k*12,none⟩=some (.slice p.la p.ll p.lc):=E 0 (by omega);have c1:wr.cell? ⟨b,off+k*12+1,none⟩=some (.int .i64 x.sk.kind):=E 1 (by omega);have c2:wr.cell? ⟨b,off+k*12+2,none⟩=some (.int .i64 x.sk.level):=E 2 (by omega);have c3:wr.cell? ⟨b,off+k*12+3,none⟩=some (.slice p.ss.ea p.ss.el p.ss.ec):=E 3 (by omega);have c4:wr.cell? ⟨b,off+k*12+4,none⟩=some (.int .i64 x.sk.hb):=E 4 (by omega);have c5:wr.cell? ⟨b,off+k*12+5,none⟩=some (.string x.sk.hr):=E 5 (by omega);have c6:wr.cell? ⟨b,off+k*12+6,none⟩=some (.int .i64 x.sk.cr):=E 6 (by omega);have c7:wr.cell? ⟨b,off+k*12+7,none⟩=some (.int .i64 x.sk.cc):=E 7 (by omega);have c8:wr.cell? ⟨b,off+k*12+8,none⟩=some (.slice p.ss.ca p.ss.cl p.ss.cc):=E 8 (by omega);have c9:wr.cell? ⟨b,off+k*12+9,none⟩=some (.int .i64 x.sk.gf):=E 9 (by omega);have ab:wr.cell? ⟨b,off+k*12+10,none⟩=some (.slice p.ss.ga p.ss.gl p.ss.gc):=E 10 (by omega);have ac:wr.cell? ⟨b,off+k*12+11,none⟩=some (.int .u64 x.seen):=E 11 (by omega);have HX:Hid ((l.map (·.1))[k]? = some x):=by rw[Hid,List.getElem?_map,o];rfl
   have HP:Hid (p.At wr.heap.size wr x):=((s.out.at_ _ (List.mem_of_getElem? o)).below O).mono I;have R:=Lib.hid (HF.out _ (List.mem_of_getElem? o));have F:Hid (jca none (l.map (·.1))=(jaV x&&(match jdt (l.map (·.1)) k with | none=>true | some y=>jau y x.l)&&jca (some x.l) ((l.map (·.1)).drop (k+1)))):=by rw[Hid,r.out,jk0 HX.out]
   obtain⟨t,af,d,G,ai⟩:=jaf wr #[.slice p.la p.ll p.lc,.int .i64 x.sk.kind,.int .i64 x.sk.level,.slice p.ss.ea p.ss.el p.ss.ec,.int .i64 x.sk.hb,.string x.sk.hr,.int .i64 x.sk.cr,.int .i64 x.sk.cc,.slice p.ss.ca p.ss.cl p.ss.cc,.int .i64 x.sk.gf,.slice p.ss.ga p.ss.gl p.ss.gc,.int .u64 x.seen] 60;obtain⟨r0,r1,r2,r3,r4,r5,r6,r7,r8,r9,ak,al⟩:=jhS d;have L:Hid (p.At t.heap.size t x):=HP.out.go G;have S:Hid (GW t):=HG.out.below (O.trans (G.mono I));have aj:wr.heap.size<t.heap.size:=by omega
   clear E o ai;by_cases hr:jaV x=true
   case neg =>
    have n:jaV x=false:=by simpa using hr
    have Q:Hid (bR=false):=by rw[Hid,M.out,F.out,n];rfl
    clear hr;go_wp2_with (go_at_call 52;refine (jdw x p _ L.out R.out S.out).mono ?_;rintro e P ⟨rfl,B⟩;rw[n];have hZ:=B.size);go_ret;exact⟨by rw[Q.out];rfl,O.trans ((G.mono I).trans (B.mono (by omega)))⟩
   have v:Hid (jaV x=true):=hr;clear hr;go_wp2_with (go_at_call 52;refine (jdw x p _ L.out R.out S.out).mono ?_;rintro e P ⟨rfl,B⟩;rw[v.out];have hZ:=B.size);have g0:P.cell? ⟨wr.heap.size,0,none⟩=some (.slice p.la p.ll p.lc):=(B.cell (p:=⟨wr.heap.size,0,none⟩) aj).trans r0;have z:Hid (p.At P.heap.size P x):=L.out.go B;have Z:Bw w P:=O.trans ((G.mono I).trans (B.mono (by omega)));let Inv:World->Prop:=fun W=>Bw P W
   have g:∀ W W',Inv W->Bw W W'->Inv W':=fun W W' h hb=>Below.trans h (hb.mono h.size)
   have A:Hid (∀ X:WIn Inv,Bw w X.world):=fun X=>Z.trans (Below.mono X.ok Z.size)
   have H:Hid (Inv P.drew):=(Below.refl _ _).drew;have ap:Nonempty (WIn Inv):=⟨⟨_,H.out⟩⟩;have q0:∀ X:WIn Inv,X.world.cell? ⟨wr.heap.size,0,none⟩=some (.slice p.la p.ll p.lc):=fun X=>(Below.cell X.ok (p:=⟨wr.heap.size,0,none⟩) (by show wr.heap.size<_;omega)).trans g0
   clear r0 r1 r2 r3 r4 r5 r6 r7 r8 r9 ak al d af c0 c1 c2 c3 c4 c5 c6 c7 c8 c9 ab ac g0;rcases Nat.eq_zero_or_pos k with h0 | m
   ·have t0:decide ((0:Int)<(k:Int))=false:=by simp;omega
    have t1:decide (0<k)=false:=by simp;omega
    have u:Hid (jca none (l.map (·.1))=jca (jdt (l.map (·.1)) (k+1)) ((l.map (·.1)).drop (k+1))):=by rw[Hid,F.out,v.out,jfi HX.out,h0];rfl
    clear F r h0;clear_value Inv;refine jad Inv (by kernel_rfl) (by kernel_rfl) H.out ?_
    repeat (first | go_big_quiet_step (fail) | quiet_step (fail))
    refine wpQuiet_nil ?_;rintro _ ⟨X,rfl⟩;have c:=A.out X;go_wp2_with fail
    all_goals go_roundw
    case rel=>exact⟨k+1,by go_num,by omega,c,u.out⟩
    case measure=>simp[intOf];omega
   ·obtain⟨⟨y,J⟩,q⟩:∃ x,l[k-1]? = some x:=⟨_,List.getElem?_eq_getElem (by omega)⟩
    obtain⟨b',an,V,am,f⟩:=s.out.row.1.2 (k-1) (y,J) q;injection V with V
    injection V with V e2
    subst V;subst e2;have t0:decide ((0:Int)<(k:Int))=true:=by simp;omega
    have t1:decide (0<k)=true:=by simp;omega
    have i1:(1:Int)<=(k:Int):=by omega
    have q1:∀ X:WIn Inv,X.world.cell? ⟨b,off+(k-1)*12,none⟩=some (.slice J.la J.ll J.lc):=fun X=>((A.out X).cell (p:=⟨b,off+(k-1)*12,none⟩) ag).trans (f 0 (by omega))
    have HY:Hid (jdt (l.map (·.1)) k=some y.l):=jma m (by rw[List.getElem?_map,q];rfl);have aa:Hid (J.At w.heap.size w y):=s.out.at_ _ (List.mem_of_getElem? q);have ao:=Lib.hid (HF.out _ (List.mem_of_getElem? q));have D:Hid (∀ X:WIn Inv,J.At X.world.heap.size X.world y):=fun X=>(aa.out.below (A.out X)).mono (A.out X).size
    have C:Hid (∀ X:WIn Inv,p.At X.world.heap.size X.world x):=fun X=>z.out.go X.ok
    have T:Hid (∀ X:WIn Inv,Calls Tryz.prog 57 #[.slice J.la J.ll J.lc,.slice p.la p.ll p.lc] X.world fun e w'=>e=.returned (.bool (jau y.l x.l))/\∃ Y:WIn Inv,w'=Y.world):=fun X=>jac g (jdN _ _ _ y.l _ _ _ x.l X.world (D.out X).l.1 (C.out X).l.1 (Nat.le_trans (D.out X).l.2.1 (D.out X).l.2.2.1) (Nat.le_trans (C.out X).l.2.1 (C.out X).l.2.2.1))
    have N:Hid (jca none (l.map (·.1))=(jau y.l x.l&&jca (jdt (l.map (·.1)) (k+1)) ((l.map (·.1)).drop (k+1)))):=by rw[Hid,F.out,v.out,HY.out,jfi HX.out];rfl
    clear q f F r D C;clear g;clear_value Inv;generalize jau y.l x.l=b1 at T N
    cases b1
    ·have U:=Lib.hid T.out
     have Q:Hid (bR=false):=by rw[Hid,M.out,N.out];rfl
     clear T;refine jad Inv (by kernel_rfl) (by kernel_rfl) H.out ?_
     repeat (first | go_big_quiet_step ((go_at_call 57;with_reducible exact U.out _)) | quiet_step ((go_at_call 57;with_reducible exact U.out _)))
     refine wpQuiet_nil ?_;rintro _ ⟨X,rfl⟩;have c:=A.out X;go_wp2_with fail;go_ret;exact⟨by rw[Q.out];rfl,c⟩
    ·have U:=Lib.hid T.out
     have u:Hid (jca none (l.map (·.1))=jca (jdt (l.map (·.1)) (k+1)) ((l.map (·.1)).drop (k+1))):=by rw[Hid,N.out];rfl
     clear T;refine jad Inv (by kernel_rfl) (by kernel_rfl) H.out ?_
     repeat (first | go_big_quiet_step ((go_at_call 57;with_reducible exact U.out _)) | quiet_step ((go_at_call 57;with_reducible exact U.out _)))
     refine wpQuiet_nil ?_;rintro _ ⟨X,rfl⟩;have c:=A.out X;go_wp2_with fail
     all_goals go_roundw
     case rel=>exact⟨k+1,by go_num,by omega,c,u.out⟩
     case measure=>simp[intOf];omega
  ·obtain rfl:k=l.length:=by omega
   have Q:Hid (bR=true):=by rw[Hid,M.out,r.out,List.drop_eq_nil_of_le (by rw[List.length_map];exact Nat.le_refl _)];cases jdt (l.map (·.1)) l.length<;>rfl
   go_wp2_with fail;go_ret;exact⟨by rw[Q.out];rfl,O⟩
end
section
open Go.Shelf
attribute [-go_sem] Builtin.append_
def Apart (B:Nat) (A A':World):Prop:=A.heap.size<=A'.heap.size/\∀ b,b<A.heap.size->b≠B->A'.heap[b]? = A.heap[b]?
section
variable {B:Nat} {A A' A'':World}
theorem Apart.trans (h:Apart B A A') (C:Apart B A' A''):Apart B A A'':=⟨Nat.le_trans h.1 C.1,fun b D E=>(C.2 b (Nat.lt_of_lt_of_le D h.1) E).trans (h.2 b D E)⟩
theorem Apart.set (i:Nat) (v:Value):Apart B A (A.setCell ⟨B,i,none⟩ v):=⟨by rw[World.size_setCell];exact Nat.le_refl _,fun b _ C=>jae (fun h=>C h.symm) v⟩
theorem SlC.apart {α:Type} {enc:α->List Value} {k:Nat} {a:Option Addr} {len cap:Nat} {l:List α} (D:SlC enc k A.heap.size A a len cap l) (C:∀ z,a=some z->0<cap->z.block≠B) (h:Apart B A A'):SlC enc k A'.heap.size A' a len cap l :=
 (D.frame (q:=(· ≠ B)) C h.2).mono h.1
end
end
section
open Go.Shelf
theorem Tab.drop {A:Nat} {w:World} {a:Option Addr} {len cap:Nat} {l:List (Ser × SerP)} (h:Tab A w a len cap l) (m:Nat) (C:m<=len):Tab A w (jef a cap m 12) (len-m) (cap-m) (l.drop m):=⟨h.row.drop m C,fun e B=>h.at_ e (List.mem_of_mem_drop B)⟩
theorem SerFit.add {x:Ser} {p:SerP} (h:SerFit x p) (hr:jal x.l=true) {n:Nat} {w:World} (ha:p.At n w x):p.ll<2147483648/\p.ss.Short:=by
 refine⟨?_,h.short⟩;have A:=ha.l.1.1;have B:x.l.length<=6:=by simp[jal] at hr;exact hr.1.2
 omega
def jfM (x:Ser):Int:=jcy x.sk+((jmA x.l).size:Int)
def jex:List Ser->Int
 | []=>0
 | x::r=>jfM x+jex r
def Ser.wf (x:Ser):Prop:=x.sk.fit/\U64 x.seen
structure Ser.fine (x:Ser):Prop where
 lab:jfs x.l
 ll:x.l.length<=10
 e:x.sk.e.length<=70
 c:x.sk.cl.length<=200
 g:x.sk.gl.length<=300
 fit:x.sk.fit
 hr:x.sk.hr.size<=260
 seen:U64 x.seen
theorem Ser.fine.serFit {x:Ser} {p:SerP} {n:Nat} {w:World} (h:x.fine) (A:p.At n w x):SerFit x p:=by
 have B:=A.l.1.1;have C:=A.s.e.1.1;have D:=A.s.c.1.1;have E:=A.s.g.1.1;have F:=h.ll;have G:=h.e;have H:=h.c;have I:=h.g;have J:=h.hr;exact⟨h.lab,by omega,⟨by omega,by omega,by omega⟩,h.fit,by omega,h.seen⟩
theorem Ser.wf.cut {x:Ser} (h:x.wf):x.cut.fine:=by
 refine⟨fun y A=>?_,?_,?_,?_,?_,fun b B=>h.1 b (List.mem_of_mem_take B),?_,h.2⟩
 ·simp only[Ser.cut,List.mem_map] at A
  obtain⟨u,_,rfl⟩:=A;exact u.2
 ·simp only[Ser.cut,jeh,List.length_map,List.length_take];omega
 ·simp only[Ser.cut,Sk.cut,List.length_take];omega
 ·simp only[Ser.cut,Sk.cut,List.length_take];omega
 ·simp only[Ser.cut,Sk.cut,List.length_take];omega
 ·simp only[Ser.cut,Sk.cut]
  show (jmX ((260:Nat):Int) x.sk.hr).size<=260;rw[jlv];omega
theorem jmx {l:List (Ser × SerP)} {n:Nat} {w:World} {a:Option Addr} {len cap:Nat} (B:Tab n w a len cap l) (h:∀ x∈l.map (·.1),Ser.fine x):jdl l:=fun e A=>(h e.1 (List.mem_map_of_mem A)).serFit (B.at_ e A)
theorem jof {l:List Ser} (h:∀ x∈l,x.wf):∀ x∈jh4 l,x.fine:=fun x A=>by
 simp only[jh4,List.mem_map] at A;obtain⟨y,B,rfl⟩:=A;exact (h y (List.mem_of_mem_take B)).cut
theorem jkX {α:Type} {enc:α->List Value} {k b:Nat} {W:World} {x:α} {t:TypeId} (h:W.heap[b]? = some (.cells (enc x).toArray t (0,0))):SlC enc k W.heap.size W (some ⟨b,0,none⟩) 1 1 [x]:=by
 have B:=(Array.getElem?_eq_some_iff.1 h).1;refine⟨⟨rfl,fun j y C=>?_⟩,Nat.le_refl _,by unfold maxLen;omega,(fun h=>by cases h),fun z A _=>?_⟩
 ·have D:j=0:=by have:=(List.getElem?_eq_some_iff.1 C).1;simp at this;exact this
  subst D;obtain rfl:x=y:=by simpa using C
  refine⟨b,0,rfl,B,fun i E=>?_⟩;have:=cCc h i;simpa using this
 ·injection A with A
  subst A;exact⟨rfl,B⟩
def Ser.wn (x:Ser):Prop:=x.sk.arg/\U64 x.seen
theorem Ser.wn.wf {x:Ser} (h:x.wn):x.wf:=⟨fun b A=>(h.1.g b A).1.2,h.2⟩
end
section
open Go.ChangeShapes Go.WideShapes Go.ChangeAt Go.Lib Go.Deep Go.Shelf
def ren:Ren:=⟨fun x=>x,fun | 5=>5 | 119=>275 | 138=>277 | 139=>278 | n=>n,fun | 3=>2 | 4=>3 | n=>n⟩
theorem jsm:U8Types Tryz.prog ren:=⟨by kernel_rfl,by kernel_rfl,by kernel_rfl,by kernel_rfl⟩
theorem jsl:U8Extra Tryz.prog ren:=⟨by kernel_rfl,by kernel_rfl,by kernel_rfl,by kernel_rfl,by kernel_rfl,by kernel_rfl,by kernel_rfl⟩
theorem jvB:Rows.laid_unicode_utf8_first=firstData:=by kernel_rfl
theorem jsP:(Rows.laid_unicode_utf8_acceptRanges:DataW Unit)=acceptData:=by kernel_rfl
def jrj : List (String × DataW Unit) := [("unicode/utf8.acceptRanges", Rows.laid_unicode_utf8_acceptRanges), ("unicode/utf8.first", Rows.laid_unicode_utf8_first)]
theorem jxj {W:World} (C:laidMet Tryz.prog jrj W) (E:W.ShapedOpen Tryz.prog):GW W:=by
 obtain⟨G,D,_⟩:=C;have A := LaidVars_reads D "unicode/utf8.first" Rows.laid_unicode_utf8_first (by unfold jrj; simp);have B := LaidVars_reads D "unicode/utf8.acceptRanges" Rows.laid_unicode_utf8_acceptRanges (by unfold jrj; simp);rw[jvB] at A;rw[jsP] at B;refine⟨utf8Tabs_of_readsT jsm jsl A B,?_,?_⟩
 ·exact cell_of_shapedOpen_int E (g:=1) (t:=3) (zero:=#[.int .i64 0]) (of_decide_eq_true (by kernel_rfl)) (by kernel_rfl) (by kernel_rfl) (by kernel_rfl) (by kernel_rfl) (by kernel_rfl)
 ·have F:=utf8Tabs_of_readsT jsm jsl A B
  exact World.block_lt_of_cell? W _ (F.2 0 (by decide)).1
section
variable {H:Type} {enc:TypeId × Value->H} {w:World} {base:Nat} {held:Bool}
theorem jtY (n:Nat) (cs:List Value) (x:DataW H × List MemPlace) (h:DataW.trod enc Tryz.prog w base (fun _=>true) held n 57 cs=some x):∃ y:Lab,cs=y.enc:=by
 obtain⟨I,m,E⟩:=jcm Tryz.underlying57 (by kernel_rfl) (by kernel_rfl) h;obtain⟨v0,M,C,F⟩:=E 0 _ rfl;obtain⟨v1,N,D,G⟩:=E 1 _ rfl;obtain⟨J,A,-,-⟩:=DataW.trod_string joK F;obtain⟨L,B,-,-⟩:=DataW.trod_string joK G
 match cs,I with
 | [a,b],_ =>
  simp only[List.getElem?_cons_zero,List.getElem?_cons_succ,Option.some.injEq,List.cons.injEq,and_true] at C D A B;exact⟨⟨J,L⟩,by rw[C,D,A,B];rfl⟩
theorem jrh (n:Nat) (cs:List Value) (x:DataW H × List MemPlace) (h:DataW.trod enc Tryz.prog w base (fun _=>true) held n 57 cs=some x):∃ y:Lab,cs=y.enc/\True:=by
 obtain⟨y,h⟩:=jtY n cs x h;exact⟨y,h,trivial⟩
end
def jvK : List (String × DataW Unit) := [("unicode/utf8.acceptRanges", Rows.laid_unicode_utf8_acceptRanges), eT, ("unicode/utf8.first", Rows.laid_unicode_utf8_first)]
theorem jxz {W:World} (h:laidMetH Tryz.prog jvK W):laidMet Tryz.prog jrj W/\handlesMet Tryz.prog [eT] W:=h
noncomputable def laidWorldQ (os:Os):World :=
 let h0:=(World.holding Tryz.prog os ⟨#[],#[],[]⟩)
 { h0 with heap:=((h0.heap.modify 0 juK).modify 2 fun
   | .cells _ t frozen=>.cells (firstTab.map (Value.int .u8)).toArray t frozen
   | o=>o).modify 3 fun
   | .cells _ t frozen=>.cells ((List.range 16).flatMap fun i=>[Value.int .u8 (accLo i),Value.int .u8 (accHi i)]).toArray t frozen
   | o=>o }
theorem jrk (A:Os) (args:Array Value):laidMetH Tryz.prog jvK ((laidWorldQ A).forCall (fun _ _=>0) ⟨#[],args,[]⟩).memory :=
 laidMetH_of_parts (show laidMet Tryz.prog jrj _ from laidMet_of_run' 8 (by kernel_rfl) (by kernel_rfl)) (by kernel_rfl)
end
end Go.Proofs.YtafhpamnegmilaaGreatDoor
