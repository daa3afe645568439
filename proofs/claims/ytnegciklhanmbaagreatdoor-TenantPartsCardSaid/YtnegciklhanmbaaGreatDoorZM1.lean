/- audit.Append. Sets of ints as map[int]struct{}: run equations, of no program. -/
import Derived.Test.YtnegciklhanmbaaGreatDoorZSG
set_option maxHeartbeats 4000000
set_option maxRecDepth 100000
namespace Go.Proofs.YtnegciklhanmbaaGreatDoor
open Go Go.RowKit Go.Shelf
section
def jeg (S:jpJ) (g:Lg) (tm:Int) (text:ByteArray) (w:World) (e:Ending) (w':World):Prop :=
 Bw w w'/\((jih S g tm text=false/\e=.returned (.tuple #[.agg #[.int .u64 0,.slice none 0 0],.int .i64 160])) \/
  (jih S g tm text=true/\∃ a c,e=.returned (.tuple #[.agg #[.int .u64 (jbU S g tm text).before,.slice a (jbU S g tm text).l.length c],.int .i64 0])/\jii w'.heap.size w' a (jbU S g tm text).l.length c (jbU S g tm text).l/\(∀ z,a=some z->w.heap.size<=z.block)))
theorem jjW {w A:World} {tm:Array Value} {b:Int} {v:Value} {no:Int} {R:Ending->World->Prop} (B:A.heap[w.heap.size+1+1]? = some (.cells #[.int .u64 b,v] 77 (0,0))) (E:tm[8]?.getD undef=.pointer (some ⟨w.heap.size+1+1,0,none⟩)) (F:tm[9]?.getD undef=.int .i64 no)
  (h:R (.returned (.tuple #[.agg #[.int .u64 b,v],.int .i64 no])) A):bodyPost Tryz.prog Tryz.f40 R Exit.ret { tmps:=tm,defers:=[] } A:=by
 obtain⟨C,D⟩:=cl2 B;exact bodyPost_ret (v:=.tuple #[.agg #[.int .u64 b,v],.int .i64 no]) (by simp[results,Tryz.f40,go_sem,E,F,C,D]) rfl h
structure ApIn (A B before:Int) (a:Option Addr) (len cap:Nat) (w W:World):Prop where
 rt:RtIn A B before a len cap w W
 res:W.heap[w.heap.size+1+1]? = some (.cells #[.int .u64 0,.slice none 0 0] 77 (0,0))
 size2:w.heap.size+1+1<W.heap.size
theorem ApIn.go {A B C:Int} {a:Option Addr} {len cap:Nat} {w W D:World} (h:ApIn A B C a len cap w W) (hb:Bw W D):ApIn A B C a len cap w D:=⟨h.rt.go hb,known hb (Nat.le_refl _) h.res,Nat.lt_of_lt_of_le h.size2 hb.size⟩
theorem ApIn.cells {A B C:Int} {a:Option Addr} {len cap:Nat} {w W:World} (h:ApIn A B C a len cap w W):W.cell? ⟨w.heap.size,0,none⟩=some (.int .u64 A)/\W.cell? ⟨w.heap.size,1,none⟩=some (.int .u64 B)/\W.cell? ⟨w.heap.size+1,0,none⟩=some (.int .u64 C)/\W.cell? ⟨w.heap.size+1,1,none⟩=some (.slice a len cap) /\
  W.cell? ⟨w.heap.size+1+1,0,none⟩=some (.int .u64 0)/\W.cell? ⟨w.heap.size+1+1,1,none⟩=some (.slice none 0 0)/\W.frozen? ⟨w.heap.size+1+1,0,none⟩=false/\W.frozen? ⟨w.heap.size+1+1,1,none⟩=false :=
 ⟨cCc h.rt.key 0,cCc h.rt.key 1,cCc h.rt.log 0,cCc h.rt.log 1,cCc h.res 0,cCc h.res 1,cFz h.res 0,cFz h.res 1⟩
structure ApX (A B before:Int) (a:Option Addr) (len cap:Nat) (x:Ent) (w:World) (n:Nat) (W:World):Prop where
 ap:ApIn A B before a len cap w W
 xb:W.heap[n]? = some (.cells #[.int .u64 x.seq,.int .u64 x.tm,.string x.text,.int .u64 x.sum] 135 (0,0))
theorem ApX.go {A B C:Int} {a:Option Addr} {len cap n:Nat} {x:Ent} {w W D:World} (h:ApX A B C a len cap x w n W) (hb:Bw W D):ApX A B C a len cap x w n D:=⟨h.ap.go hb,known hb (Nat.le_refl _) h.xb⟩
theorem ApX.set {A B C:Int} {a:Option Addr} {len cap n:Nat} {F tm H:Int} {text:ByteArray} {w W:World} (h:ApX A B C a len cap ⟨F,tm,text,H⟩ w n W) (I:w.heap.size+1+1<n) (s:Int) :
  ∃ V,W.setCell ⟨n,3,none⟩ (.int .u64 s)=V/\ApIn A B C a len cap w V/\V.heap[n]? = some (.cells #[.int .u64 F,.int .u64 tm,.string text,.int .u64 s] 135 (0,0)):=by
 have E:(W.setCell ⟨n,3,none⟩ (.int .u64 s)).heap.size=W.heap.size:=World.size_setCell ..;have D:∀ j,j≠n->(W.setCell ⟨n,3,none⟩ (.int .u64 s)).heap[j]? = W.heap[j]? := fun j G=>jaa (p:=⟨n,3,none⟩) (fun e=>G e.symm) _
 refine⟨_,rfl,⟨⟨(D _ (by omega)).trans h.ap.rt.key,(D _ (by omega)).trans h.ap.rt.log,h.ap.rt.below.setCell (p:=⟨n,3,none⟩) (by show w.heap.size<=n;omega) _,by rw[E];exact h.ap.rt.size⟩,(D _ (by omega)).trans h.ap.res,by rw[E];exact h.ap.size2⟩,hSk h.xb _⟩
theorem jkc {w W:World} {x y:Value} (h:W.heap[w.heap.size+1+1]? = some (.cells #[x,y] 77 (0,0))) (A:Bw w W) (u v:Value) :
  ∃ V,(W.setCell ⟨w.heap.size+1+1,0,none⟩ u).setCell ⟨w.heap.size+1+1,1,none⟩ v=V/\V.heap[w.heap.size+1+1]? = some (.cells #[u,v] 77 (0,0))/\Bw w V/\Apart (w.heap.size+1+1) W V :=
 ⟨_,rfl,hSk (hSk h _) _,(A.setCell (p:=⟨w.heap.size+1+1,0,none⟩) (by show w.heap.size<=w.heap.size+1+1;omega) _).setCell (p:=⟨w.heap.size+1+1,1,none⟩) (by show w.heap.size<=w.heap.size+1+1;omega) _,(Apart.set 0 u).trans (Apart.set 1 v)⟩
theorem jg9:Tryz.prog.underlying 50=some (.slice 135):=by kernel_rfl
theorem jg1:(Tryz.prog.info? 135).map (fun i=>(i.zero,i.size,i.bytes))=some (some (.agg #[.int .u64 0,.int .u64 0,.string ⟨#[]⟩,.int .u64 0]),4,40):=by kernel_rfl
theorem jmN (x:Ent):∀ u∈Ent.enc x,u.oneCell'=true:=by
 intro u A;simp only[Ent.enc,List.mem_cons,List.not_mem_nil,or_false] at A;rcases A with h | h | h | h<;>(subst h;rfl)
theorem jru (w:World) (c:Nat) (I:c<=1000):∃ w',(Instr.makeSlice 50 (.int .i64 0) (.int .i64 (c:Int))).run Tryz.prog w=.ok (.slice (some ⟨w.heap.size,0,none⟩) 0 c) w'/\w'.ownsRow w.heap.size 135 4 (.slice (some ⟨w.heap.size,0,none⟩) 0 c) 0 []/\Bw w w':=by
 obtain⟨i,F,H,A,C⟩:=info_parts jg1;obtain⟨w',D,E,B⟩:=run_makeSlice_owned (P:=Tryz.prog) w w.heap.size 50 135 i _ 4 jg9 F H A .i64 .i64 c (by omega) (by rw[C];omega) (by unfold maxLen;omega) (Nat.le_refl _);exact⟨w',D,E,⟨B.os,B.tape,B.output,B.size,fun k G=>B.block k G (fun h=>by cases h)⟩⟩
theorem jmf {a:Option Addr} {n cap N:Nat} {l:List Ent} {W:World} (x:Ent) (Q:W.heap.size=N) (h:jii W.heap.size W a n cap l) (X:n<=30) :
  ∃ V B v1 C g c,(Instr.makeSlice 50 (.int .i64 0) (.int .i64 ((n:Int)+1))).run Tryz.prog W=.ok (.slice (some ⟨N,0,none⟩) 0 (n+1)) V /\
   (Builtin.append_ #[50,50] 50 #[.slice (some ⟨N,0,none⟩) 0 (n+1),.slice a n cap]).run Tryz.prog V=.ok v1 B /\
   (Builtin.append_ #[50,50] 50 #[v1,.slice (some ⟨B.heap.size,0,none⟩) 1 1]).run Tryz.prog (B.alloc (.cells #[.int .u64 x.seq,.int .u64 x.tm,.string x.text,.int .u64 x.sum] 135))=.ok (.slice (some ⟨g,0,none⟩) (n+1) c) C /\
   Below N W V/\Below N W B/\Below N W C/\jii C.heap.size C (some ⟨g,0,none⟩) (n+1) c (l++[x])/\N<=g:=by
 subst Q;have R:=h.1.1;obtain⟨V,O,I,G⟩:=jru W (n+1) (by omega);obtain⟨v1,B,L,A,D,S,-,-⟩:=jbu Tryz.prog (cap:=cap) 50 jg9 jg1 rfl (by decide) I G (Nat.le_refl _) G.size (fun _=>rfl) ((h.below G).mono G.size).1 jmN (by omega) (by omega) (by decide);rw[Nat.zero_add,List.nil_append] at A;obtain⟨g,c,C,H,E,J,-,-,-⟩:=jap Tryz.prog 50 jg9 jg1 rfl (by decide) (W:=B) A D (Nat.le_refl _) D.size (Ent.enc x) rfl (jmN x) (by omega) (by decide);have F:C.ownsRow W.heap.size 135 4 (.slice (some ⟨g,0,none⟩) (n+1) c) (l++[x]).length ((l++[x]).flatMap Ent.enc):=by rw[List.length_append,<- R,List.flatMap_append];simpa using E
 obtain⟨T,U,e,P,M⟩:=jaM (enc:=Ent.enc) (fun _=>rfl) F;injection e with e1 e2 e3
 subst e1;subst e3;rw[<- e2] at P;refine⟨V,B,v1,C,g,c,?_,L,H,G,D,J,P,M _ rfl⟩;rw[show ((n:Int)+1)=((n+1:Nat):Int) by omega];exact O
theorem jqD {b off n m cap N:Nat} {W:World} {l:List Ent} (I:n=m+1) (C:1<cap) (h:jii N W (some ⟨b,off,none⟩) n cap l):jii N W (some ⟨b,off+4,none⟩) m (cap-1) l.tail:=by
 subst I;obtain⟨⟨L,F⟩,M,O,P,G⟩:=h;refine⟨⟨by rw[List.length_tail];omega,fun j x D=>?_⟩,by omega,by omega,(fun e=>by cases e),fun z A _=>?_⟩
 ·rw[List.getElem?_tail] at D
  obtain⟨J,E,e,hb,C⟩:=F (j+1) x D
  cases e
  refine⟨b,off+4,rfl,hb,fun i H=>?_⟩;have B:=C i H;rw[show off+(j+1)*4+i=off+4+j*4+i by omega] at B;exact B
 ·injection A with A
  subst A;exact⟨rfl,(G _ rfl (by omega)).2⟩
theorem jtd {A B C tm:Int} {text:ByteArray} {a:Option Addr} {len cap:Nat} {g:Lg} {w W:World} {t:Array Value} (h:ApIn A B C a len cap w W) (D:jih (jal A B) g tm text=false) (H:t[8]?.getD undef=.pointer (some ⟨w.heap.size+1+1,0,none⟩)) (I:t[9]?.getD undef=.int .i64 160) :
  bodyPost Tryz.prog Tryz.f40 (jeg (jal A B) g tm text w) Exit.ret { tmps:=t,defers:=[] } ((W.setCell ⟨w.heap.size+1+1,0,none⟩ (.int .u64 0)).setCell ⟨w.heap.size+1+1,1,none⟩ (.slice none 0 0)):=by
 obtain⟨V,F,G,E,-⟩:=jkc h.res h.rt.below (.int .u64 0) (.slice none 0 0);rw[F];exact jjW G H I ⟨E,.inl ⟨D,rfl⟩⟩
attribute [-go_sem] Builtin.append_
theorem jgT (A B tm:Int) (text:ByteArray) (g:Lg) (a:Option Addr) (n cap:Nat) (w:World) (h:jii w.heap.size w a n cap g.l) (hb:U64 g.before) (ho:∀ x∈g.l,jmc x) (ht:text.size<4294967) (al:U64 tm) :
  Calls Tryz.prog 40 #[.agg #[.int .u64 A,.int .u64 B],.agg #[.int .u64 g.before,.slice a n cap],.int .u64 tm,.string text] w (jeg (jal A B) g tm text w):=by
 obtain⟨W0,bc,aN,aO,aP,aB,a0⟩:=jbF w #[.int .u64 A,.int .u64 B] 57 #[.int .u64 g.before,.slice a n cap] 77 #[.int .u64 0,.slice none 0 0] 77;have hI:ApIn A B g.before a n cap w W0:=⟨⟨aN,aO,aB,by omega⟩,aP,by omega⟩
 have aX:Hid (∀ W,Bw w W->CR 64 #[.agg #[.int .u64 A,.int .u64 B],.agg #[.int .u64 g.before,.slice a n cap]] W (.bool (jmI (jal A B) g))):=fun W ag=>by
  have hl:=h.1.1;subst hl;exact jhk A B g a cap W ((h.below ag).mono ag.size) hb ho
 have an:=Lib.hid (fun W (ag:Bw w W)=>js5 g a n cap W ((h.below ag).mono ag.size));have az:=Lib.hid (fun W (ag:Bw w W)=>js4 g a n cap W ((h.below ag).mono ag.size));have HM:Hid (jih (jal A B) g tm text=(jmI (jal A B) g&&decide (text.size<=200)&&(jby g != 18446744073709551615)&&decide (jhO g<=tm))):=rfl;have hm:=Nat.le_trans h.2.1 h.2.2.1;unfold maxLen at hm;have H:=Lib.hid h;have aj:=Lib.hid h.1.1;have HO:=Lib.hid ho;have HI:=Lib.hid hI;obtain⟨c0,c1,d0,d1,r0,r1,f0,f1⟩:=hI.cells;have t:=aX.out W0 aB;clear aN aO aP h ho hI a0
 cases hR:jmI (jal A B) g with
 | false =>
  have H9:Hid (jih (jal A B) g tm text=false):=by rw[Hid,HM.out,hR];rfl
  rw[hR] at t;clear hR;go_enter Tryz.func40,Tryz.ntmps40;go_wp2_with (go_at_call 64;refine t.mono ?_;rintro e j ⟨rfl,F⟩;have C:=Lib.hid (HI.out.go F);obtain⟨u0,u1,v0,v1,r,s,k,p⟩:=C.out.cells);exact jtd C.out H9.out rfl rfl
 | true =>
  rw[hR] at t;rw[hR,Bool.true_and] at HM
  have aW:Hid (n<=30):=by
   simp only[jmI,Bool.and_eq_true,decide_eq_true_eq] at hR;rw[Hid,aj.out];exact hR.1.1.1
  clear hR;by_cases hz:text.size<=200
  ·have a2:decide ((200:Int)<text.size)=false:=by simp;omega
   rw[decide_eq_true hz,Bool.true_and] at HM;clear hz;by_cases hn:jby g=18446744073709551615
   ·have aR:(jby g==18446744073709551615)=true:=by simp[hn]
    have H9:Hid (jih (jal A B) g tm text=false):=by rw[Hid,HM.out,hn];rfl
    clear hn;go_enter Tryz.func40,Tryz.ntmps40
    go_wp2_with (first
     | (go_at_call 64;refine t.mono ?_;rintro e j ⟨rfl,F⟩;have C:=Lib.hid (HI.out.go F);obtain⟨u0,u1,v0,v1,r,s,k,p⟩:=C.out.cells)
     | (go_at_call 65;refine (an.out _ C.out.rt.below).mono ?_;rintro e j ⟨rfl,F⟩;have C:=Lib.hid (C.out.go F);obtain⟨u0,u1,v0,v1,r,s,k,p⟩:=C.out.cells))
    exact jtd C.out H9.out rfl rfl
   ·have aR:(jby g==18446744073709551615)=false:=by simp[hn]
    have HN:=Lib.hid hn;rw[bne_iff_ne.2 hn,Bool.true_and] at HM;clear hn
    have hw:(decide ((0:Int)<(n:Int))=false/\decide (jhO g<=tm)=true\/∃ (m:Nat) (x:Ent),n=m+1/\g.l[m]? = some x/\jhO g=x.tm):=by
     cases n with
     | zero=>exact .inl ⟨rfl,by have e:g.l=[]:=List.eq_nil_of_length_eq_zero aj.out.symm;unfold jhO;rw[e];exact decide_eq_true al.1⟩
     | succ m =>
      obtain⟨x,hx,hl⟩:=jhs aj.out;exact .inr ⟨m,x,rfl,hx,by unfold jhO;rw[hl]⟩
    have hV:(jih (jal A B) g tm text=true/\(decide ((0:Int)<(n:Int))=false\/∃ (m:Nat) (x:Ent),n=m+1/\g.l[m]? = some x/\¬ tm<x.tm))\/(jih (jal A B) g tm text=false/\∃ (m:Nat) (x:Ent),n=m+1/\g.l[m]? = some x/\tm<x.tm):=by
     rw[HM.out];rcases hw with⟨h1,h2⟩ | ⟨m,x,h1,h2,h3⟩
     ·exact .inl ⟨h2,.inl h1⟩
     ·rw[h3]
      by_cases aC:tm<x.tm
      ·exact .inr ⟨decide_eq_false (by omega),m,x,h1,h2,aC⟩
      ·exact .inl ⟨decide_eq_true (by omega),.inr ⟨m,x,h1,h2,aC⟩⟩
    clear hw;rcases hV with⟨h9,hq⟩ | ⟨h9,m,x,rfl,hx,aC⟩
    ·have H9:=Lib.hid h9
     clear h9
     have av:U64 (jby g):=by
      unfold jby
      cases aH:g.l.getLast? with
      | none=>exact⟨Int.le_refl 0,by decide⟩
      | some x=>exact (HO.out x (List.mem_of_getLast? aH)).1
     have a1:IntKind.u64.wrap (jby g+1)=jby g+1:=by rw[IntKind.wrap_u64];have:=av.1;have:=av.2;have:=HN.out;omega
     have aK:U64 (jby g+1):=⟨by have:=av.1;omega,by have:=av.2;have:=HN.out;omega⟩
     have aI:U64 (jhA g):=by
      unfold jhA
      cases aH:g.l.getLast? with
      | none=>exact hb
      | some x=>exact (HO.out x (List.mem_of_getLast? aH)).2.2.2
     obtain⟨G,aw⟩:∃ G,jby g=G:=⟨_,rfl⟩;obtain⟨hd,aJ⟩:∃ hd,jhA g=hd:=⟨_,rfl⟩;have ak:Hid (jbU (jal A B) g tm text=if g.l.length=30 then ⟨(g.l.head?.map (·.sum)).getD 0,g.l.tail++[⟨G+1,tm,text,jal A B hd (G+1) tm text⟩]⟩ else ⟨g.before,g.l++[⟨G+1,tm,text,jal A B hd (G+1) tm text⟩]⟩):=by rw[Hid,<- aw,<- aJ];rfl
     rw[aw] at an a1 aK aR;rw[aJ] at az aI;have HU:=Lib.hid (And.intro aK aI);clear av aK aI aw aJ;rcases hq with hq | ⟨m,x,aS,hx,aC⟩
     ·have aF:n=0:=by
       have h:=of_decide_eq_false hq;omega
      have aZ:decide (0<n)=false:=decide_eq_false (by omega);have aL:((n:Int)==30)=false:=by simp;omega
      have am:=Lib.hid aF;clear aF;have HT:=Lib.hid al;have ao:Hid (text.size<4294967):=ht;go_enter Tryz.func40,Tryz.ntmps40
      go_wp2_with (first
       | (go_at_call 64;refine t.mono ?_;rintro e j ⟨rfl,F⟩;have C:=Lib.hid (HI.out.go F);obtain⟨u0,u1,v0,v1,r,s,k,p⟩:=C.out.cells)
       | (go_at_call 65;refine (an.out _ C.out.rt.below).mono ?_;rintro e j ⟨rfl,F⟩;have C:=Lib.hid (C.out.go F);obtain⟨u0,u1,v0,v1,r,s,k,p⟩:=C.out.cells))
      obtain⟨W4,ae,af,ab,ay⟩:=jab j #[.int .u64 (G+1),.int .u64 tm,.string text,.int .u64 0] 135;rw[ae];have c:ApX A B g.before a n cap ⟨G+1,tm,text,0⟩ w j.heap.size W4:=⟨C.out.go ab,af⟩;have T:w.heap.size+1+1<j.heap.size:=C.out.size2;obtain⟨E,ai⟩:∃ E,j.heap.size=E:=⟨_,rfl⟩;rw[ai] at c T ⊢;let Inv:World->Prop:=ApX A B g.before a n cap ⟨G+1,tm,text,0⟩ w E;have d:∀ W W',Inv W->Bw W W'->Inv W':=fun W W' h hb=>ApX.go h hb
      have q0:∀ X:WIn Inv,X.world.cell? ⟨w.heap.size,0,none⟩=some (.int .u64 A):=fun X=>cCc (ApX.ap X.ok).rt.key 0
      have q1:∀ X:WIn Inv,X.world.cell? ⟨w.heap.size,1,none⟩=some (.int .u64 B):=fun X=>cCc (ApX.ap X.ok).rt.key 1
      have q2:∀ X:WIn Inv,X.world.cell? ⟨w.heap.size+1,0,none⟩=some (.int .u64 g.before):=fun X=>cCc (ApX.ap X.ok).rt.log 0
      have q3:∀ X:WIn Inv,X.world.cell? ⟨w.heap.size+1,1,none⟩=some (.slice a n cap):=fun X=>cCc (ApX.ap X.ok).rt.log 1
      have p0:∀ X:WIn Inv,X.world.cell? ⟨E,0,none⟩=some (.int .u64 (G+1)):=fun X=>cCc (ApX.xb X.ok) 0
      have p1:∀ X:WIn Inv,X.world.cell? ⟨E,1,none⟩=some (.int .u64 tm):=fun X=>cCc (ApX.xb X.ok) 1
      have p2:∀ X:WIn Inv,X.world.cell? ⟨E,2,none⟩=some (.string text):=fun X=>cCc (ApX.xb X.ok) 2
      have p3:∀ X:WIn Inv,X.world.cell? ⟨E,3,none⟩=some (.int .u64 0):=fun X=>cCc (ApX.xb X.ok) 3
      have K1:Hid (∀ X:WIn Inv,Calls Tryz.prog 67 #[.agg #[.int .u64 g.before,.slice a n cap]] X.world fun e w'=>e=.returned (.int .u64 hd)/\∃ Y:WIn Inv,w'=Y.world):=fun X=>jah d (az.out X.world (ApX.ap X.ok).rt.below)
      obtain⟨Q,f⟩:∃ Q,jal A B hd (G+1) tm text=Q:=⟨_,rfl⟩
      have K2:Hid (∀ X:WIn Inv,Calls Tryz.prog 66 #[.agg #[.int .u64 A,.int .u64 B],.int .u64 hd,.agg #[.int .u64 (G+1),.int .u64 tm,.string text,.int .u64 0]] X.world fun e w'=>e=.returned (.int .u64 Q)/\∃ Y:WIn Inv,w'=Y.world):=fun X=>by
       rw[<- f];exact jah d (jcP A B hd ⟨G+1,tm,text,0⟩ X.world HU.out.2 HU.out.1 HT.out ao.out)
      have HQ:Hid (∀ X:WIn Inv,ApX A B g.before a n cap ⟨G+1,tm,text,0⟩ w E X.world):=fun X=>X.ok
      have Z:Inv W4.drew:=ApX.go c (Below.refl _ _).drew;have ax:Nonempty (WIn Inv):=⟨⟨_,Z⟩⟩;rw[f] at ak;clear d c f ae af ab ay ai al;clear_value Inv;refine jaC Inv (l:=[_,_,_,_,_,_]) (o:=_) rfl (by kernel_rfl) (by kernel_rfl) (by kernel_rfl) Z ?_
      repeat (first | go_big_quiet_step ((first | (go_at_call 67;with_reducible exact K1.out _) | (go_at_call 66;with_reducible exact K2.out _))) | quiet_step ((first | (go_at_call 67;with_reducible exact K1.out _) | (go_at_call 66;with_reducible exact K2.out _))))
      refine wpQuiet_nil ?_;rintro _ ⟨X,rfl⟩;have M:=HQ.out X;generalize X.world=W5 at M ⊢;clear q0 q1 q2 q3 p0 p1 p2 p3 K1 K2 HQ Z ax X u0 u1 v0 v1 r s k p;clear Inv;obtain⟨J,ar,I,i⟩:=ApX.set M T Q;have x3:W5.cell? ⟨E,3,none⟩=some (.int .u64 0):=cCc M.xb 3;have y3:W5.frozen? ⟨E,3,none⟩=false:=cFz M.xb 3;obtain⟨u0,u1,v0,v1,r,s,k,p⟩:=I.cells;go_wp2_with fail;go_region;have u:Hid (jii J.drew.heap.size J.drew a n cap g.l):=(H.out.below I.rt.below).mono I.rt.below.size;have q:n<=30:=by have:=am.out;omega
      have a3:=Lib.hid q;obtain⟨V,V1,v8,V2,U,cc,aQ,aD,aE,au,S,D,ad,ah⟩:=jmf (W:=J.drew) ⟨G+1,tm,text,Q⟩ (show J.drew.heap.size=J.heap.size from rfl) (show jii J.drew.heap.size J.drew a n cap g.l from u.out) (by omega);have aU:w.heap.size+1+1<J.heap.size:=I.size2;have P:ApIn A B g.before a n cap w V2:=I.go (show Bw J V2 from⟨D.os,D.tape,D.output,D.size,D.block⟩);have O:V1.heap[E]? = some (.cells #[.int .u64 (G+1),.int .u64 tm,.string text,.int .u64 Q] 135 (0,0)):=(S.block E (Array.getElem?_eq_some_iff.1 i).1).trans i;have x0:V1.cell? ⟨E,0,none⟩=some (.int .u64 (G+1)):=(cCc O 0);have x1:V1.cell? ⟨E,1,none⟩=some (.int .u64 tm):=(cCc O 1);have x2:V1.cell? ⟨E,2,none⟩=some (.string text):=(cCc O 2);have aV:V1.cell? ⟨E,3,none⟩=some (.int .u64 Q):=cCc O 3;obtain⟨-,-,-,-,r,s,k,p⟩:=P.cells;obtain⟨V9,aM,R,ac,aa⟩:=jkc P.res P.rt.below (.int .u64 g.before) (.slice (some ⟨U,0,none⟩) (n+1) cc)
      have L:Hid (jbU (jal A B) g tm text=⟨g.before,g.l++[⟨G+1,tm,text,Q⟩]⟩):=by
       rw[Hid,ak.out,if_neg (by rw[<- aj.out];have:=am.out;omega)]
      have N:(g.l++[(⟨G+1,tm,text,Q⟩:Ent)]).length=n+1:=by rw[List.length_append,<- u.out.1.1];rfl
      have v:Hid (jeg (jal A B) g tm text w (.returned (.tuple #[.agg #[.int .u64 g.before,.slice (some ⟨U,0,none⟩) (n+1) cc],.int .i64 0])) V9):=by
       refine⟨ac,.inr ⟨H9.out,some ⟨U,0,none⟩,cc,?_,?_,fun z hz=>?_⟩⟩
       ·rw[L.out];dsimp only;rw[N]
       ·rw[L.out];dsimp only;rw[N]
        exact ad.apart (fun z hz _=>by cases hz;show U≠_;have:J.heap.size<=U:=ah;omega) aa
       ·cases hz;show w.heap.size<=U;have:J.heap.size<=U:=ah;omega
      have aq:=Lib.hid R;clear I i P O ad R ac aa N L au S D M ar x3 y3;go_wp2_with fail;exact jjW aq.out rfl rfl v.out
     ·have bb:=Lib.hid aS
      have be:m<n:=by omega
      have HX:Hid (∀ W,Bw w W->∃ b off,a=some ⟨b,off,none⟩/\W.cell? ⟨b,off+m*4+1,none⟩=some (.int .u64 x.tm)):=fun W hb=>by
       obtain⟨b,off,e,-,-,h1,-,-⟩:=jdt (H.out.below hb) hx;exact⟨b,off,e,h1⟩
      obtain⟨b,off,rfl,-⟩:=HX.out W0 aB
      have aA:Hid (∀ W,Bw w W->W.cell? ⟨b,off+m*4+1,none⟩=some (.int .u64 x.tm)):=fun W hb=>by
       obtain⟨b',aG,e,h1⟩:=HX.out W hb
       cases e
       exact h1
      have bd:=aW.out;have bj:IntKind.i64.wrap ((n:Int)-1)=(m:Int):=by rw[IntWalk.i64_in _ (by omega)];omega
      have ba:(n:Int)-1=(m:Int):=by omega
      have bg:decide ((0:Int)<(n:Int))=true:=decide_eq_true (by omega);have aZ:decide (0<n)=true:=decide_eq_true (by omega);have bh:(0:Int)<(n:Int):=by omega
      have bi:0<n:=by omega
      have a7:(m:Int)<(n:Int):=by omega
      clear HX hx aS;by_cases q:n=30
      ·have aL:((n:Int)==30)=true:=by simp;omega
       have am:=Lib.hid q;obtain⟨y,hy⟩:∃ y,g.l[0]? = some y:=⟨_,List.getElem?_eq_getElem (by rw[<- aj.out];omega)⟩
       have aY:Hid (∀ W,Bw w W->W.cell? ⟨b,off+3,none⟩=some (.int .u64 y.sum)):=fun W hb=>by
        obtain⟨b',aG,e,-,-,-,-,h1⟩:=jdt (H.out.below hb) hy
        cases e
        rw[Nat.zero_mul,Nat.add_zero] at h1;exact h1
       have hh:g.l.head?.map (·.sum)=some y.sum:=by rw[List.head?_eq_getElem?,hy];rfl
       rw[hh] at ak;have a5:n<=cap:=H.out.2.1;have bf:1<=n:=by omega
       have a8:(1:Int)<=(n:Int):=by omega
       have a4:(1:Int)<=(cap:Int):=by omega
       have a6:¬ cap=1:=by omega
       have a9:n-1=m:=by omega
       clear q hh hy;have HT:=Lib.hid al;have ao:Hid (text.size<4294967):=ht;go_enter Tryz.func40,Tryz.ntmps40
       go_wp2_with (first
        | (go_at_call 64;refine t.mono ?_;rintro e j ⟨rfl,F⟩;have C:=Lib.hid (HI.out.go F);obtain⟨u0,u1,v0,v1,r,s,k,p⟩:=C.out.cells)
        | (go_at_call 65;refine (an.out _ C.out.rt.below).mono ?_;rintro e j ⟨rfl,F⟩;have C:=Lib.hid (C.out.go F);obtain⟨u0,u1,v0,v1,r,s,k,p⟩:=C.out.cells;have aT:=aA.out _ C.out.rt.below))
       obtain⟨W4,ae,af,ab,ay⟩:=jab j #[.int .u64 (G+1),.int .u64 tm,.string text,.int .u64 0] 135;rw[ae];have c:ApX A B g.before (some ⟨b,off,none⟩) n cap ⟨G+1,tm,text,0⟩ w j.heap.size W4:=⟨C.out.go ab,af⟩;have T:w.heap.size+1+1<j.heap.size:=C.out.size2;obtain⟨E,ai⟩:∃ E,j.heap.size=E:=⟨_,rfl⟩;rw[ai] at c T ⊢;let Inv:World->Prop:=ApX A B g.before (some ⟨b,off,none⟩) n cap ⟨G+1,tm,text,0⟩ w E;have d:∀ W W',Inv W->Bw W W'->Inv W':=fun W W' h hb=>ApX.go h hb
       have q0:∀ X:WIn Inv,X.world.cell? ⟨w.heap.size,0,none⟩=some (.int .u64 A):=fun X=>cCc (ApX.ap X.ok).rt.key 0
       have q1:∀ X:WIn Inv,X.world.cell? ⟨w.heap.size,1,none⟩=some (.int .u64 B):=fun X=>cCc (ApX.ap X.ok).rt.key 1
       have q2:∀ X:WIn Inv,X.world.cell? ⟨w.heap.size+1,0,none⟩=some (.int .u64 g.before):=fun X=>cCc (ApX.ap X.ok).rt.log 0
       have q3:∀ X:WIn Inv,X.world.cell? ⟨w.heap.size+1,1,none⟩=some (.slice (some ⟨b,off,none⟩) n cap):=fun X=>cCc (ApX.ap X.ok).rt.log 1
       have p0:∀ X:WIn Inv,X.world.cell? ⟨E,0,none⟩=some (.int .u64 (G+1)):=fun X=>cCc (ApX.xb X.ok) 0
       have p1:∀ X:WIn Inv,X.world.cell? ⟨E,1,none⟩=some (.int .u64 tm):=fun X=>cCc (ApX.xb X.ok) 1
       have p2:∀ X:WIn Inv,X.world.cell? ⟨E,2,none⟩=some (.string text):=fun X=>cCc (ApX.xb X.ok) 2
       have p3:∀ X:WIn Inv,X.world.cell? ⟨E,3,none⟩=some (.int .u64 0):=fun X=>cCc (ApX.xb X.ok) 3
       have K1:Hid (∀ X:WIn Inv,Calls Tryz.prog 67 #[.agg #[.int .u64 g.before,.slice (some ⟨b,off,none⟩) n cap]] X.world fun e w'=>e=.returned (.int .u64 hd)/\∃ Y:WIn Inv,w'=Y.world):=fun X=>jah d (az.out X.world (ApX.ap X.ok).rt.below)
       obtain⟨Q,f⟩:∃ Q,jal A B hd (G+1) tm text=Q:=⟨_,rfl⟩
       have K2:Hid (∀ X:WIn Inv,Calls Tryz.prog 66 #[.agg #[.int .u64 A,.int .u64 B],.int .u64 hd,.agg #[.int .u64 (G+1),.int .u64 tm,.string text,.int .u64 0]] X.world fun e w'=>e=.returned (.int .u64 Q)/\∃ Y:WIn Inv,w'=Y.world):=fun X=>by
        rw[<- f];exact jah d (jcP A B hd ⟨G+1,tm,text,0⟩ X.world HU.out.2 HU.out.1 HT.out ao.out)
       have HQ:Hid (∀ X:WIn Inv,ApX A B g.before (some ⟨b,off,none⟩) n cap ⟨G+1,tm,text,0⟩ w E X.world):=fun X=>X.ok
       have Z:Inv W4.drew:=ApX.go c (Below.refl _ _).drew;have ax:Nonempty (WIn Inv):=⟨⟨_,Z⟩⟩;rw[f] at ak;clear d c f ae af ab ay ai al;clear_value Inv;refine jaC Inv (l:=[_,_,_,_,_,_]) (o:=_) rfl (by kernel_rfl) (by kernel_rfl) (by kernel_rfl) Z ?_
       repeat (first | go_big_quiet_step ((first | (go_at_call 67;with_reducible exact K1.out _) | (go_at_call 66;with_reducible exact K2.out _))) | quiet_step ((first | (go_at_call 67;with_reducible exact K1.out _) | (go_at_call 66;with_reducible exact K2.out _))))
       refine wpQuiet_nil ?_;rintro _ ⟨X,rfl⟩;have M:=HQ.out X;generalize X.world=W5 at M ⊢;clear q0 q1 q2 q3 p0 p1 p2 p3 K1 K2 HQ Z ax X u0 u1 v0 v1 r s k p;clear Inv;obtain⟨J,ar,I,i⟩:=ApX.set M T Q;have x3:W5.cell? ⟨E,3,none⟩=some (.int .u64 0):=cCc M.xb 3;have y3:W5.frozen? ⟨E,3,none⟩=false:=cFz M.xb 3;obtain⟨u0,u1,v0,v1,r,s,k,p⟩:=I.cells;go_wp2_with fail;go_region;go_wp2_with fail;have bk:=aY.out J.drew I.rt.below.drew;go_region
       have u:Hid (jii J.drew.drew.heap.size J.drew.drew (some ⟨b,off+4,none⟩) m (cap-1) g.l.tail):=by
        have h9:=jqD (show n=m+1 by omega) (show 1<cap by omega) ((H.out.below I.rt.below).mono I.rt.below.size);exact h9
       obtain⟨V,V1,v8,V2,U,cc,aQ,aD,aE,au,S,D,ad,ah⟩:=jmf (W:=J.drew.drew) ⟨G+1,tm,text,Q⟩ (show J.drew.drew.heap.size=J.heap.size from rfl) (show jii J.drew.drew.heap.size J.drew.drew (some ⟨b,off+4,none⟩) m (cap-1) g.l.tail from u.out) (by omega);have aU:w.heap.size+1+1<J.heap.size:=I.size2;have P:ApIn A B g.before (some ⟨b,off,none⟩) n cap w V2:=I.go (show Bw J V2 from⟨D.os,D.tape,D.output,D.size,D.block⟩);have O:V1.heap[E]? = some (.cells #[.int .u64 (G+1),.int .u64 tm,.string text,.int .u64 Q] 135 (0,0)):=(S.block E (Array.getElem?_eq_some_iff.1 i).1).trans i;have x0:V1.cell? ⟨E,0,none⟩=some (.int .u64 (G+1)):=(cCc O 0);have x1:V1.cell? ⟨E,1,none⟩=some (.int .u64 tm):=(cCc O 1);have x2:V1.cell? ⟨E,2,none⟩=some (.string text):=(cCc O 2);have aV:V1.cell? ⟨E,3,none⟩=some (.int .u64 Q):=cCc O 3;obtain⟨-,-,-,-,r,s,k,p⟩:=P.cells;obtain⟨V9,aM,R,ac,aa⟩:=jkc P.res P.rt.below (.int .u64 y.sum) (.slice (some ⟨U,0,none⟩) (m+1) cc)
       have L:Hid (jbU (jal A B) g tm text=⟨y.sum,g.l.tail++[⟨G+1,tm,text,Q⟩]⟩):=by
        rw[Hid,ak.out,if_pos (by rw[<- aj.out];exact am.out)];rfl
       have N:(g.l.tail++[(⟨G+1,tm,text,Q⟩:Ent)]).length=m+1:=by rw[List.length_append,<- u.out.1.1];rfl
       have v:Hid (jeg (jal A B) g tm text w (.returned (.tuple #[.agg #[.int .u64 y.sum,.slice (some ⟨U,0,none⟩) (m+1) cc],.int .i64 0])) V9):=by
        refine⟨ac,.inr ⟨H9.out,some ⟨U,0,none⟩,cc,?_,?_,fun z hz=>?_⟩⟩
        ·rw[L.out];dsimp only;rw[N]
        ·rw[L.out];dsimp only;rw[N]
         exact ad.apart (fun z hz _=>by cases hz;show U≠_;have:J.heap.size<=U:=ah;omega) aa
        ·cases hz;show w.heap.size<=U;have:J.heap.size<=U:=ah;omega
       have aq:=Lib.hid R;clear I i P O ad R ac aa N L au S D M ar x3 y3;go_wp2_with fail;exact jjW aq.out rfl rfl v.out
      ·have aL:((n:Int)==30)=false:=by simp;omega
       have am:=Lib.hid q;clear q;have HT:=Lib.hid al;have ao:Hid (text.size<4294967):=ht;go_enter Tryz.func40,Tryz.ntmps40
       go_wp2_with (first
        | (go_at_call 64;refine t.mono ?_;rintro e j ⟨rfl,F⟩;have C:=Lib.hid (HI.out.go F);obtain⟨u0,u1,v0,v1,r,s,k,p⟩:=C.out.cells)
        | (go_at_call 65;refine (an.out _ C.out.rt.below).mono ?_;rintro e j ⟨rfl,F⟩;have C:=Lib.hid (C.out.go F);obtain⟨u0,u1,v0,v1,r,s,k,p⟩:=C.out.cells;have aT:=aA.out _ C.out.rt.below))
       obtain⟨W4,ae,af,ab,ay⟩:=jab j #[.int .u64 (G+1),.int .u64 tm,.string text,.int .u64 0] 135;rw[ae];have c:ApX A B g.before (some ⟨b,off,none⟩) n cap ⟨G+1,tm,text,0⟩ w j.heap.size W4:=⟨C.out.go ab,af⟩;have T:w.heap.size+1+1<j.heap.size:=C.out.size2;obtain⟨E,ai⟩:∃ E,j.heap.size=E:=⟨_,rfl⟩;rw[ai] at c T ⊢;let Inv:World->Prop:=ApX A B g.before (some ⟨b,off,none⟩) n cap ⟨G+1,tm,text,0⟩ w E;have d:∀ W W',Inv W->Bw W W'->Inv W':=fun W W' h hb=>ApX.go h hb
       have q0:∀ X:WIn Inv,X.world.cell? ⟨w.heap.size,0,none⟩=some (.int .u64 A):=fun X=>cCc (ApX.ap X.ok).rt.key 0
       have q1:∀ X:WIn Inv,X.world.cell? ⟨w.heap.size,1,none⟩=some (.int .u64 B):=fun X=>cCc (ApX.ap X.ok).rt.key 1
       have q2:∀ X:WIn Inv,X.world.cell? ⟨w.heap.size+1,0,none⟩=some (.int .u64 g.before):=fun X=>cCc (ApX.ap X.ok).rt.log 0
       have q3:∀ X:WIn Inv,X.world.cell? ⟨w.heap.size+1,1,none⟩=some (.slice (some ⟨b,off,none⟩) n cap):=fun X=>cCc (ApX.ap X.ok).rt.log 1
       have p0:∀ X:WIn Inv,X.world.cell? ⟨E,0,none⟩=some (.int .u64 (G+1)):=fun X=>cCc (ApX.xb X.ok) 0
       have p1:∀ X:WIn Inv,X.world.cell? ⟨E,1,none⟩=some (.int .u64 tm):=fun X=>cCc (ApX.xb X.ok) 1
       have p2:∀ X:WIn Inv,X.world.cell? ⟨E,2,none⟩=some (.string text):=fun X=>cCc (ApX.xb X.ok) 2
       have p3:∀ X:WIn Inv,X.world.cell? ⟨E,3,none⟩=some (.int .u64 0):=fun X=>cCc (ApX.xb X.ok) 3
       have K1:Hid (∀ X:WIn Inv,Calls Tryz.prog 67 #[.agg #[.int .u64 g.before,.slice (some ⟨b,off,none⟩) n cap]] X.world fun e w'=>e=.returned (.int .u64 hd)/\∃ Y:WIn Inv,w'=Y.world):=fun X=>jah d (az.out X.world (ApX.ap X.ok).rt.below)
       obtain⟨Q,f⟩:∃ Q,jal A B hd (G+1) tm text=Q:=⟨_,rfl⟩
       have K2:Hid (∀ X:WIn Inv,Calls Tryz.prog 66 #[.agg #[.int .u64 A,.int .u64 B],.int .u64 hd,.agg #[.int .u64 (G+1),.int .u64 tm,.string text,.int .u64 0]] X.world fun e w'=>e=.returned (.int .u64 Q)/\∃ Y:WIn Inv,w'=Y.world):=fun X=>by
        rw[<- f];exact jah d (jcP A B hd ⟨G+1,tm,text,0⟩ X.world HU.out.2 HU.out.1 HT.out ao.out)
       have HQ:Hid (∀ X:WIn Inv,ApX A B g.before (some ⟨b,off,none⟩) n cap ⟨G+1,tm,text,0⟩ w E X.world):=fun X=>X.ok
       have Z:Inv W4.drew:=ApX.go c (Below.refl _ _).drew;have ax:Nonempty (WIn Inv):=⟨⟨_,Z⟩⟩;rw[f] at ak;clear d c f ae af ab ay ai al;clear_value Inv;refine jaC Inv (l:=[_,_,_,_,_,_]) (o:=_) rfl (by kernel_rfl) (by kernel_rfl) (by kernel_rfl) Z ?_
       repeat (first | go_big_quiet_step ((first | (go_at_call 67;with_reducible exact K1.out _) | (go_at_call 66;with_reducible exact K2.out _))) | quiet_step ((first | (go_at_call 67;with_reducible exact K1.out _) | (go_at_call 66;with_reducible exact K2.out _))))
       refine wpQuiet_nil ?_;rintro _ ⟨X,rfl⟩;have M:=HQ.out X;generalize X.world=W5 at M ⊢;clear q0 q1 q2 q3 p0 p1 p2 p3 K1 K2 HQ Z ax X u0 u1 v0 v1 r s k p;clear Inv;obtain⟨J,ar,I,i⟩:=ApX.set M T Q;have x3:W5.cell? ⟨E,3,none⟩=some (.int .u64 0):=cCc M.xb 3;have y3:W5.frozen? ⟨E,3,none⟩=false:=cFz M.xb 3;obtain⟨u0,u1,v0,v1,r,s,k,p⟩:=I.cells;go_wp2_with fail;go_region;have u:Hid (jii J.drew.heap.size J.drew (some ⟨b,off,none⟩) n cap g.l):=(H.out.below I.rt.below).mono I.rt.below.size;obtain⟨V,V1,v8,V2,U,cc,aQ,aD,aE,au,S,D,ad,ah⟩:=jmf (W:=J.drew) ⟨G+1,tm,text,Q⟩ (show J.drew.heap.size=J.heap.size from rfl) (show jii J.drew.heap.size J.drew (some ⟨b,off,none⟩) n cap g.l from u.out) (by omega);have aU:w.heap.size+1+1<J.heap.size:=I.size2;have P:ApIn A B g.before (some ⟨b,off,none⟩) n cap w V2:=I.go (show Bw J V2 from⟨D.os,D.tape,D.output,D.size,D.block⟩);have O:V1.heap[E]? = some (.cells #[.int .u64 (G+1),.int .u64 tm,.string text,.int .u64 Q] 135 (0,0)):=(S.block E (Array.getElem?_eq_some_iff.1 i).1).trans i;have x0:V1.cell? ⟨E,0,none⟩=some (.int .u64 (G+1)):=(cCc O 0);have x1:V1.cell? ⟨E,1,none⟩=some (.int .u64 tm):=(cCc O 1);have x2:V1.cell? ⟨E,2,none⟩=some (.string text):=(cCc O 2);have aV:V1.cell? ⟨E,3,none⟩=some (.int .u64 Q):=cCc O 3;obtain⟨-,-,-,-,r,s,k,p⟩:=P.cells;obtain⟨V9,aM,R,ac,aa⟩:=jkc P.res P.rt.below (.int .u64 g.before) (.slice (some ⟨U,0,none⟩) (n+1) cc)
       have L:Hid (jbU (jal A B) g tm text=⟨g.before,g.l++[⟨G+1,tm,text,Q⟩]⟩):=by
        rw[Hid,ak.out,if_neg (by rw[<- aj.out];exact am.out)]
       have N:(g.l++[(⟨G+1,tm,text,Q⟩:Ent)]).length=n+1:=by rw[List.length_append,<- u.out.1.1];rfl
       have v:Hid (jeg (jal A B) g tm text w (.returned (.tuple #[.agg #[.int .u64 g.before,.slice (some ⟨U,0,none⟩) (n+1) cc],.int .i64 0])) V9):=by
        refine⟨ac,.inr ⟨H9.out,some ⟨U,0,none⟩,cc,?_,?_,fun z hz=>?_⟩⟩
        ·rw[L.out];dsimp only;rw[N]
        ·rw[L.out];dsimp only;rw[N]
         exact ad.apart (fun z hz _=>by cases hz;show U≠_;have:J.heap.size<=U:=ah;omega) aa
        ·cases hz;show w.heap.size<=U;have:J.heap.size<=U:=ah;omega
       have aq:=Lib.hid R;clear I i P O ad R ac aa N L au S D M ar x3 y3;go_wp2_with fail;exact jjW aq.out rfl rfl v.out
    ·have H9:=Lib.hid h9
     have HX:Hid (∀ W,Bw w W->∃ b off,a=some ⟨b,off,none⟩/\W.cell? ⟨b,off+m*4+1,none⟩=some (.int .u64 x.tm)):=fun W hb=>by
      obtain⟨b,off,e,-,-,h1,-,-⟩:=jdt (H.out.below hb) hx;exact⟨b,off,e,h1⟩
     obtain⟨b,off,rfl,-⟩:=HX.out W0 aB
     have aA:Hid (∀ W,Bw w W->W.cell? ⟨b,off+m*4+1,none⟩=some (.int .u64 x.tm)):=fun W hb=>by
      obtain⟨b',aG,e,h1⟩:=HX.out W hb
      cases e
      exact h1
     clear h9 hx HX;go_enter Tryz.func40,Tryz.ntmps40
     go_wp2_with (first
      | (go_at_call 64;refine t.mono ?_;rintro e j ⟨rfl,F⟩;have C:=Lib.hid (HI.out.go F);obtain⟨u0,u1,v0,v1,r,s,k,p⟩:=C.out.cells)
      | (go_at_call 65;refine (an.out _ C.out.rt.below).mono ?_;rintro e j ⟨rfl,F⟩;have C:=Lib.hid (C.out.go F);obtain⟨u0,u1,v0,v1,r,s,k,p⟩:=C.out.cells;have aT:=aA.out _ C.out.rt.below))
     exact jtd C.out H9.out rfl rfl
  ·have a2:decide ((200:Int)<text.size)=true:=by simp;omega
   have H9:Hid (jih (jal A B) g tm text=false):=by rw[Hid,HM.out,decide_eq_false hz];rfl
   clear hz;go_enter Tryz.func40,Tryz.ntmps40;go_wp2_with (go_at_call 64;refine t.mono ?_;rintro e j ⟨rfl,F⟩;have C:=Lib.hid (HI.out.go F);obtain⟨u0,u1,v0,v1,r,s,k,p⟩:=C.out.cells);exact jtd C.out H9.out rfl rfl
end
section
open Go.Maps
def wfI (i:Int):Prop:=(Lit.int .i64 i).wf=true
theorem jid {i:Int} (A : -9223372036854775808<=i) (B:i<=9223372036854775807):wfI i:=WalkArith.wf_i64 ⟨A,B⟩
def SetAt (P:Program) (kt:TypeId) (w:World) (b n:Nat) (S:Int->Bool):Prop :=
 ∃ D:DataW Unit,w.ownsMap P kt unitElem b n D/\∀ i,wfI i->Maps.has D (.int .i64 i)=S i
section
variable {P:Program} {kt mt et:TypeId} (hk:P.underlying kt=some (.int .i64)) (hm:P.underlying mt=some (.map kt et)) (hz:∀ w,(zeroValue et).run P w=.ok (.agg #[]) w)
theorem jlP (w:World):SetAt P kt (w.alloc (.map #[] 0)) w.heap.size 0 (fun _=>false) :=
 ⟨_,World.ownsMap_made w P kt unitElem,fun _ _=>rfl⟩
theorem SetAt.kept {w w':World} {b n:Nat} {S:Int->Bool} {row:Option Nat} (h:SetAt P kt w b n S) (B:w.grownBy w' row) (A:some b≠row):SetAt P kt w' b n S :=
 let ⟨D,h1,h2⟩:=h;⟨D,h1.kept B A,h2⟩
theorem SetAt.lt {w:World} {b n:Nat} {S:Int->Bool} (h:SetAt P kt w b n S):b<w.heap.size:=let ⟨_,h1,_⟩:=h;h1.lt
theorem SetAt.below {w w':World} {B b n:Nat} {S:Int->Bool} (h:SetAt P kt w b n S) (hb:Below B w w') (H:b<B):SetAt P kt w' b n S:=by
 obtain⟨D,⟨es,clock,A,C,E,F⟩,G⟩:=h;exact⟨D,⟨es,clock,(hb.block b H).trans A,C,E,F⟩,G⟩
theorem SetAt.mono {w:World} {b n m:Nat} {S:Int->Bool} (h:SetAt P kt w b n S) (A:n<=m):SetAt P kt w b m S :=
 let ⟨D,h1,h2⟩:=h;⟨D,h1.mono A,h2⟩
theorem SetAt.congr {w:World} {b n:Nat} {S T:Int->Bool} (h:SetAt P kt w b n S) (B:∀ i,wfI i->S i=T i):SetAt P kt w b n T :=
 let ⟨D,h1,h2⟩:=h;⟨D,h1,fun i A=>(h2 i A).trans (B i A)⟩
include hk hm in
theorem SetAt.add {w:World} {b n:Nat} {S:Int->Bool} (h:SetAt P kt w b n S) (H:n<maxLen) {i:Int} (B:wfI i) :
  ∃ w',(Instr.mapUpdate mt (.map (some b)) (.int .i64 i) (.agg #[])).run P w=.ok () w'/\SetAt P kt w' b (n+1) (fun j=>S j||j==i)/\w.grownBy w' (some b):=by
 obtain⟨D,A,C⟩:=h;obtain⟨w',hr,E,F⟩:=A.update (int_keyed hk) hm H (keyOf_int_mk hk B) unitElem_mk;refine⟨w',hr,⟨_,E,fun j G=>?_⟩,F⟩;by_cases e:j=i
 ·subst e
  rw[Maps.has_put_same A.isMap ((int_keyed hk).key (keyOf_int_mk hk B))];simp
 ·rw[Maps.has_put_other (by simpa using e),C j G];simp[e]
include hk hm hz in
theorem SetAt.look {w:World} {b n:Nat} {S:Int->Bool} (h:SetAt P kt w b n S) {i:Int} (A:wfI i):(Instr.lookup mt (.map (some b)) (.int .i64 i) true).run P w=.ok (.tuple #[.agg #[],.bool (S i)]) w:=by
 obtain⟨D,B,C⟩:=h;obtain⟨v,F,hr,E⟩:=B.look_ok (int_keyed hk) hm (hz w) unitElem_mk (keyOf_int_mk hk A);obtain⟨rfl,_⟩:=unitElem_inv E;rw[hr,C i A]
include hk hm in
theorem SetAt.len {w:World} {b n:Nat} {S:Int->Bool} (h:SetAt P kt w b n S):∃ k:Nat,(∀ H,(Builtin.len_ #[mt] H #[.map (some b)]).run P w=.ok (.int .i64 k) w)/\(k=0↔∀ i,wfI i->S i=false):=by
 obtain⟨D,I,J⟩:=h;refine⟨Maps.size D,fun H=>I.len hm H,?_⟩;obtain⟨es,clock,hb,F,T,M⟩:=I;constructor
 ·intro A i Q
  rw[<- J i Q];subst M;have:((es.toList.map (WideElems.rg P kt unitElem)).foldr DataW.insert []:List (Lit × DataW Unit))=[]:=List.eq_nil_of_length_eq_zero A;rw[this];rfl
 ·intro B
  subst M;rcases Nat.eq_zero_or_pos es.size with A | A
  ·simp[Maps.size,length_sorted,A]
  ·exfalso
   have N:es[0]'A∈es.toList:=by simp
   obtain⟨y,O⟩:=F.reads _ N;have E:=WideElems.rd_key O;obtain⟨x,R,G,C⟩:=Maps.keyOf_int_inv hk E
   have L:Maps.has (DataW.map ((es.toList.map (WideElems.rg P kt unitElem)).foldr DataW.insert [])) (.int .i64 x)=true :=
    List.any_eq_true.2 ⟨WideElems.rg P kt unitElem (es[0]'A),mem_sorted.2 (List.mem_map.2 ⟨_,N,rfl⟩),by rw[WideElems.rg_of O,G];exact WideAt.sameKey_self trivial⟩
   rw[J x C,B x C] at L
   cases L
theorem jnS:∀ (n:Nat) (l:List Nat),l.Nodup->(∀ x∈l,x<n)->l.length<=n
 | 0,l,_,h=>by
  cases l with
  | nil=>simp
  | cons x xs=>exact absurd (h x (by simp)) (by omega)
 | n+1,l,hd,h=>by
  have A:=jnS n (l.erase n) (hd.erase n) (fun x B=>by
   have C:=h x (List.mem_of_mem_erase B);have D:x≠n:=fun e=>by subst e;exact (List.Nodup.not_mem_erase hd) B
   omega)
  rw[List.length_erase] at A;split at A<;>omega
include hk in
theorem SetAt.tight {w:World} {b n m:Nat} {S:Int->Bool} (h:SetAt P kt w b n S) (d:∀ i,wfI i->S i=true->0<=i/\i<m):SetAt P kt w b m S:=by
 obtain⟨D,T,U⟩:=h;obtain⟨B,X,Q,_⟩:=T.entries (int_keyed hk);obtain⟨es,clock,hb,F,s,G⟩:=T;refine⟨D,⟨es,clock,hb,F,?_,G⟩,U⟩;have C:B=(es.toList.map (WideElems.rg P kt unitElem)).foldr DataW.insert []:=by rw[X] at G;exact DataW.map.inj G
 have A:∀ p∈B,∃ x:Int,p.1=.int .i64 x/\0<=x/\x<m:=by
  intro p I;have L:=I;rw[C] at L;obtain⟨e,g,rfl⟩:=List.mem_map.1 (mem_sorted.1 L);obtain⟨y,Y⟩:=F.reads e g;obtain⟨x,j,N,M⟩:=Maps.keyOf_int_inv hk (WideElems.rd_key Y);have E:(WideElems.rg P kt (unitElem (H:=Unit)) e).1=.int .i64 x:=by rw[WideElems.rg_of Y,N]
  have V:Maps.has D (.int .i64 x)=true:=by
   rw[X];exact List.any_eq_true.2 ⟨_,I,by rw[E];exact WideAt.sameKey_self trivial⟩
  rw[U x M] at V;exact⟨x,E,d x M V⟩
 have J:B.length=es.size:=by rw[C,length_sorted];simp
 rw[<- J];let f:Lit × DataW Unit->Nat:=fun p=>match p.1 with | .int _ x=>x.toNat | _=>0
 have Z:=jnS m (B.map f) (List.pairwise_map.2 (Q.imp_of_mem (fun {p q} I k O=>by
  obtain⟨x,E,a,c⟩:=A p I;obtain⟨y,R,o,r⟩:=A q k;intro e;simp only[f,E,R] at e
  exact O (by rw[E,R];congr 1;omega)))) (fun z l=>by
   obtain⟨p,I,rfl⟩:=List.mem_map.1 l;obtain⟨x,E,a,c⟩:=A p I;simp only[f,E];omega)
 simpa using Z
def RangeAt (P:Program) (kt:TypeId) (w:World) (b r n:Nat) (S L:Int->Bool) (cnt:Nat):Prop :=
 ∃ (D:DataW Unit) (left:Lit->Bool),w.ranges P kt unitElem b r n D left cnt/\(∀ i,wfI i->Maps.has D (.int .i64 i)=S i)/\(∀ i,wfI i->left (.int .i64 i)=L i)
theorem RangeAt.left_eq {w:World} {b r n:Nat} {S L:Int->Bool} {cnt:Nat} (h:RangeAt P kt w b r n S L cnt):w.rangeLeft b r=cnt:=let ⟨_,_,h1,_⟩:=h;h1.left_eq
theorem RangeAt.kept {w w':World} {b r n:Nat} {S L:Int->Bool} {cnt:Nat} {row:Option Nat} (h:RangeAt P kt w b r n S L cnt) (C:w.grownBy w' row) (A:some b≠row) (B:some r≠row):RangeAt P kt w' b r n S L cnt :=
 let ⟨D,left,h3,h4,h5⟩:=h;⟨D,left,h3.kept C A B,h4,h5⟩
theorem RangeAt.below {w w':World} {B b r n:Nat} {S L:Int->Bool} {cnt:Nat} (h:RangeAt P kt w b r n S L cnt) (hb:Below B w w') (O:b<B) (Q:r<B):RangeAt P kt w' b r n S L cnt:=by
 obtain⟨D,C,⟨es,clock,A,E,F,G,H,I,J,M,N⟩,R,T⟩:=h;exact⟨D,C,⟨es,clock,A,E,F,(hb.block b O).trans G,H,I,J,(hb.block r Q).trans M,N⟩,R,T⟩
theorem RangeAt.ne {w:World} {b r n:Nat} {S L:Int->Bool} {cnt:Nat} (h:RangeAt P kt w b r n S L cnt):r≠b:=let ⟨_,_,h1,_⟩:=h;h1.ne
theorem RangeAt.lt {w:World} {b r n:Nat} {S L:Int->Bool} {cnt:Nat} (h:RangeAt P kt w b r n S L cnt):r<w.heap.size:=let ⟨_,_,h1,_⟩:=h;h1.lt
include hk hm in
theorem SetAt.range {w:World} {b n:Nat} {S:Int->Bool} (h:SetAt P kt w b n S) :
  ∃ w' cnt,(Instr.range mt (.map (some b))).run P w=.ok (.pointer (some ⟨w.heap.size,0,none⟩)) w'/\RangeAt P kt w' b w.heap.size n S S cnt/\w.grownBy w' none/\w'.heap.size=w.heap.size+1:=by
 obtain⟨D,B,A⟩:=h;obtain⟨w',hr,C,E,F⟩:=B.range (int_keyed hk) hm;exact⟨w',_,hr,⟨D,_,C,A,A⟩,E,F⟩
include hk in
theorem RangeAt.next {w:World} {b r n:Nat} {S L:Int->Bool} {cnt:Nat} (h:RangeAt P kt w b r n S L cnt) (O:TypeId) :
  ((∀ i,wfI i->L i=false)/\(Instr.next (.pointer (some ⟨r,0,none⟩)) false O).run P w=.ok (.tuple #[.bool false]) w) \/
  ∃ i w' A,wfI i/\L i=true/\S i=true/\(Instr.next (.pointer (some ⟨r,0,none⟩)) false O).run P w=.ok (.tuple #[.bool true,.int .i64 i,.agg #[]]) w' /\
   RangeAt P kt w' b r n S (fun j=>L j && !(j==i)) A/\A<cnt/\w.grownBy w' (some r)/\w'.heap.size=w.heap.size/\(Instr.entry (.pointer (some ⟨r,0,none⟩))).run P w'=.ok (.tuple #[.int .i64 i,.agg #[]]) w':=by
 obtain⟨D,R,T,Q,E⟩:=h;rcases T.next (int_keyed hk) O with⟨_,X,hr⟩ | ⟨key,v,kl,y,w',A,C,I,Y,F,hr,M,J,H,N,G⟩
 ·exact .inl ⟨fun i U=>by rw[<- E i U];exact X _,hr⟩
 ·obtain⟨x,rfl,rfl,B⟩:=Maps.keyOf_int_inv hk C
  obtain⟨rfl,_⟩:=unitElem_inv Y;refine .inr ⟨x,w',A,B,by rw[<- E x B];exact I,by rw[<- Q x B];exact Maps.has_true_of_atKey F,hr,⟨D,_,M,Q,fun j V=>?_⟩,J,H,N,G⟩;rw[E j V];exact Bool.eq_iff_iff.2 (by simp[Lit.sameKey])
end
end
end Go.Proofs.YtnegciklhanmbaaGreatDoor
