/- The reference of layer 12: Merged. Printed by gen_i7.py. -/
import Derived.Test.YtafhpamnegmilaaGreatDoorZVN
set_option maxHeartbeats 8000000
set_option maxRecDepth 100000
namespace Go.Proofs.YtafhpamnegmilaaGreatDoor
open Go Go.RowKit Go.Shelf
section
theorem jnk {k:Nat} (P:k=1\/k=2\/k=3) {S:List (Nat × Bd)} (N:∀ t∈S,t.2.Ok k t.1) {x:Ser} (H:SkGood x.sk) (C:x.sk.kind=(k:Int)) {y:Sk} {A:SS} {p:SS} {W:World} (U:y=jbu k (jcx k S).1 (jcx k S).2) (T:A.At W.heap.size W y) (R:p.At W.heap.size W x.sk) :
  Calls Tryz.prog 36 #[.agg #[.int .i64 y.kind,.int .i64 y.level,.slice A.ea A.el A.ec,.int .i64 y.hb,.string y.hr,.int .i64 y.cr,.int .i64 y.cc,.slice A.ca A.cl A.cc,.int .i64 y.gf,.slice A.ga A.gl A.gc],.agg #[.int .i64 x.sk.kind,.int .i64 x.sk.level,.slice p.ea p.el p.ec,.int .i64 x.sk.hb,.string x.sk.hr,.int .i64 x.sk.cr,.int .i64 x.sk.cc,.slice p.ca p.cl p.cc,.int .i64 x.sk.gf,.slice p.ga p.gl p.gc]] W fun e w'=>∃ (y:Sk) (s:SS),e=.returned (.tuple #[.agg #[.int .i64 y.kind,.int .i64 y.level,.slice s.ea s.el s.ec,.int .i64 y.hb,.string y.hr,.int .i64 y.cr,.int .i64 y.cc,.slice s.ca s.cl s.cc,.int .i64 y.gf,.slice s.ga s.gl s.gc],.int .i64 0])/\y=jbu k (jcx k (S++jb9 (k:Int) x)).1 (jcx k (S++jb9 (k:Int) x)).2/\s.At w'.heap.size w' y/\Bw W w':=by
 have F:jb9 (k:Int) x=[skB x.sk]:=by unfold jb9;rw[C];simp
 have E:=jr1 H C;have D:=joN P N;rw[F,jjX]
 have G:x.sk=jbu k (skB x.sk).1 (skB x.sk).2:=by
  obtain⟨I,L,B,e,M⟩:=H;rw[e,(jak I L B).1] at C;obtain rfl:I=k:=by omega
  rw[e,jr2 M]
 have Q:=jgO D E U G T R;refine Q.mono ?_;rintro e w' ⟨s,rfl,J,O⟩;exact⟨_,s,rfl,rfl,J,O⟩
attribute [-go_sem] Builtin.append_
theorem jhw (s:jb4) (F:Int) (l:List (Ser × SerP)) (a:Option Addr) (len cap:Nat) (w:World) (hT:Tab w.heap.size w a len cap l) (hF:jdl l) (hL:jhK (l.map (·.1))) (hQ:jas (l.map (·.1))=true->∀ x∈l.map (·.1),SkGood x.sk) :
  Calls Tryz.prog 11 #[.slice a len cap,.string s.1,.int .i64 F] w (jgx F (jbe (l.map (·.1)) s) (ja0 (l.map (·.1)) F (jaZ (l.map (·.1)) s)) w):=by
 have aJ:=hT.row.1.1;subst aJ;obtain⟨W0,bg,aH,ai,bi⟩:=jaf w #[.int .i64 0,.int .i64 0,.slice none 0 0,.int .i64 0,.string ⟨#[]⟩,.int .i64 0,.int .i64 0,.slice none 0 0,.int .i64 0,.slice none 0 0] 41;have hM:=jeW s l a l.length cap W0 (hT.go ai) hF hL;unfold jby at hM;have HT:=Lib.hid (hT.go ai);have aX:=Lib.hid aH;have av:=Lib.hid ai
 have ar:Hid (∀ i∈jaZ (l.map (·.1)) s,i<l.length):=by
  rw[Hid,jaZ];split
  ·intro i hi
   have:=((jkx s (l.map (·.1)) 0).1 i hi).2;rw[List.length_map] at this;omega
  ·intro i hi;cases hi
 have aD:jbe (l.map (·.1)) s=0->∀ x∈l.map (·.1),SkGood x.sk:=fun h=>by
  refine hQ ?_;unfold jbe at h;split at h
  ·assumption
  ·cases h
 have af:=Lib.hid aD;generalize jaZ (l.map (·.1)) s=pl at hM ar ⊢;generalize jbe (l.map (·.1)) s=er at hM af ⊢;have HL:Hid (∀ (i:Nat) (x:Ser) (p:SerP),l[i]? = some (x,p)->(l.map (·.1))[i]? = some x):=fun i x p h=>by rw[List.getElem?_map,h];rfl
 generalize l.map (·.1)=L at af HL ⊢;clear hT hF hQ hL aH ai aD;go_enter Tryz.func11,Tryz.ntmps11;go_wp2_with fail;refine hM.mono ?_;rintro e I ⟨pa,pc,rfl,hp,aj⟩;have ac:=jab aj (Nat.le_refl _) aX.out;have ag:=Lib.hid ac;have R:Hid (Bw w I):=av.out.trans (aj.mono av.out.size);obtain⟨r0,r1,r2,r3,r4,r5,r6,r7,r8,r9⟩:=jam ac;obtain⟨g0,g1,g2,g3,g4,g5,g6,g7,g8,g9⟩:=jbL ac;obtain⟨d0,d1,d2,d3,d4,d5,d6,d7,d8,d9⟩:=jgQ ac;have aY:=Lib.hid aj;clear ac aj hM;by_cases he:er=0
 case neg =>
  have t1:(er != 0)=true:=by rw[bne_iff_ne];exact he
  have HS:Hid (jmH er F=er):=by unfold Hid jmH;rw[if_neg (by simpa using he)]
  have HE:=Lib.hid he;clear he;go_wp2_with fail;refine bodyPost_ret (v:=.tuple #[.agg #[.int .i64 0,.int .i64 0,.slice none 0 0,.int .i64 0,.string ⟨#[]⟩,.int .i64 0,.int .i64 0,.slice none 0 0,.int .i64 0,.slice none 0 0],.int .i64 er]) (by simp[results,Tryz.f11,go_sem,r0,r1,r2,r3,r4,r5,r6,r7,r8,r9]) rfl ⟨jaQ 0 0 [],SkNil,?_,?_,jkV _,R.out⟩
  ·rw[jgv (by rw[HS.out];exact HE.out)]
  ·rw[HS.out];rfl
 subst he;by_cases hk:F=1\/F=2\/F=3
 case neg =>
  have HS:Hid (jmH 0 F=101):=by unfold Hid jmH;rw[if_pos (by rfl:((0:Int)==0)=true),if_neg (by simpa [not_or,and_assoc] using hk)]
  have hN:=jiH F I;rw[show jwO F=(zsk,101) from if_neg hk] at hN;obtain⟨D,j⟩:∃ D,zsk=D:=⟨_,rfl⟩;have ah:=Lib.hid j;rw[j] at hN;have HN:=Lib.hid hN;clear hk hN j;go_wp2_with fail;refine HN.out.mono ?_;rintro e w2 ⟨C,rfl,r,J⟩;have aG:=jab J (Nat.le_refl _) ag.out;obtain⟨W3,a9,Y,d,bj⟩:=jaf w2 #[.int .i64 0,.int .i64 0,.slice none 0 0,.int .i64 0,.string ⟨#[]⟩,.int .i64 0,.int .i64 0,.slice none 0 0,.int .i64 0,.slice none 0 0] 41;obtain⟨z0,z1,z2,z3,z4,z5,z6,z7,z8,z9⟩:=jam Y;obtain⟨u0,u1,u2,u3,u4,u5,u6,u7,u8,u9⟩:=jbL Y;obtain⟨U,hU,ab,ao,aF⟩:=jaD (.int .i64 D.kind) (.int .i64 D.level) (.slice C.ea C.el C.ec) (.int .i64 D.hb) (.string D.hr) (.int .i64 D.cr) (.int .i64 D.cc) (.slice C.ca C.cl C.cc) (.int .i64 D.gf) (.slice C.ga C.gl C.gc) Y;have Z:U.heap[w.heap.size]? = some (.cells #[.int .i64 0,.int .i64 0,.slice none 0 0,.int .i64 0,.string ⟨#[]⟩,.int .i64 0,.int .i64 0,.slice none 0 0,.int .i64 0,.slice none 0 0] 41 (0,0)):=(ao.2 _ (by have:=R.out.size;have:=J.size;have:=(Array.getElem?_eq_some_iff.1 ag.out).1;omega)).trans (jab d (Nat.le_refl _) aG);have al:Bw w W3:=R.out.trans ((J.trans (d.mono J.size)).mono R.out.size);have aO:Hid (Bw w U):=aF _ _ al (Nat.le_trans R.out.size J.size);have aM:Hid (C.At U.heap.size U D):=jee (r.go d) Y (fun i u=>jcP u) ao;have aW:=Lib.hid Z;have aV:=Lib.hid ab;clear aG Y Z J d r ab ao aF al;go_wp2_with fail;go_loopw [11,12] (fun f i wr=>f=.int .i64 101/\i=.int .i64 0/\wr=U) (fun _ _ _=>0)
  case atStart=>exact⟨rfl,rfl,rfl⟩
  case round =>
   obtain⟨rfl,rfl,rfl⟩:=hrel;have ab:=aV.out;have Z:=aW.out;obtain⟨q0,q1,q2,q3,q4,q5,q6,q7,q8,q9⟩:=jam Z;obtain⟨f0,f1,f2,f3,f4,f5,f6,f7,f8,f9⟩:=jbL Z;obtain⟨k0,k1,k2,k3,k4,k5,k6,k7,k8,k9⟩:=jam ab;obtain⟨V,hV,X,Q,P⟩:=jaD (.int .i64 D.kind) (.int .i64 D.level) (.slice C.ea C.el C.ec) (.int .i64 D.hb) (.string D.hr) (.int .i64 D.cr) (.int .i64 D.cc) (.slice C.ca C.cl C.cc) (.int .i64 D.gf) (.slice C.ga C.gl C.gc) Z;obtain⟨o0,o1,o2,o3,o4,o5,o6,o7,o8,o9⟩:=jam X;have T:Hid (C.At V.heap.size V D/\Bw w V):=⟨jee aM.out Z (fun i u=>jcP u) Q,P _ _ aO.out (Nat.le_refl _)⟩;clear ab Z X Q P;by_cases ar:0<pl.length
   ·have i1:(0:Int)<(pl.length:Int):=by omega
    go_wp2_with fail;refine bodyPost_ret (v:=.tuple #[.agg #[.int .i64 D.kind,.int .i64 D.level,.slice C.ea C.el C.ec,.int .i64 D.hb,.string D.hr,.int .i64 D.cr,.int .i64 D.cc,.slice C.ca C.cl C.cc,.int .i64 D.gf,.slice C.ga C.gl C.gc],.int .i64 101]) (by simp[results,Tryz.f11,go_sem,o0,o1,o2,o3,o4,o5,o6,o7,o8,o9]) rfl ⟨D,C,?_,?_,T.out.1,T.out.2⟩
    ·rw[jgv (by rw[HS.out];decide)];exact ah.out.symm
    ·rw[HS.out]
   ·have i1:¬ (0:Int)<(pl.length:Int):=by omega
    go_wp2_with fail;refine bodyPost_ret (v:=.tuple #[.agg #[.int .i64 D.kind,.int .i64 D.level,.slice C.ea C.el C.ec,.int .i64 D.hb,.string D.hr,.int .i64 D.cr,.int .i64 D.cc,.slice C.ca C.cl C.cc,.int .i64 D.gf,.slice C.ga C.gl C.gc],.int .i64 101]) (by simp[results,Tryz.f11,go_sem,o0,o1,o2,o3,o4,o5,o6,o7,o8,o9]) rfl ⟨D,C,?_,?_,T.out.1,T.out.2⟩
    ·rw[jgv (by rw[HS.out];decide)];exact ah.out.symm
    ·rw[HS.out]
 obtain⟨K,rfl,hK⟩:∃ K:Nat,F=(K:Int)/\(K=1\/K=2\/K=3):=⟨F.toNat,by omega,by omega⟩;have HS:=Lib.hid (joC (S:=ja0 L K pl) hK);have ax:=Lib.hid (af.out rfl);have hN:=jiH (K:Int) I;rw[show jwO (K:Int)=(jbu K 0 (jhh K),0) from by unfold jwO;rw[if_pos (by omega),Int.toNat_natCast]] at hN;have HN:=Lib.hid hN;have HK:=Lib.hid hK;clear hk hK af hN;obtain⟨D,j⟩:∃ D,D=jbu K 0 (jhh K):=⟨_,rfl⟩;rw[<- j] at HN;have ah:=Lib.hid j;clear j;go_wp2_with fail;refine HN.out.mono ?_;rintro e w2 ⟨C,rfl,r,J⟩;obtain⟨Wz,bh,o,an,bk⟩:=jaf w2 #[.int .i64 0,.int .i64 0,.slice none 0 0,.int .i64 0,.string ⟨#[]⟩,.int .i64 0,.int .i64 0,.slice none 0 0,.int .i64 0,.slice none 0 0] 41;obtain⟨b,ap⟩:∃ b,w2.heap.size=b:=⟨_,rfl⟩;rw[ap] at o;obtain⟨z0,z1,z2,z3,z4,z5,z6,z7,z8,z9⟩:=jam o;obtain⟨f0,f1,f2,f3,f4,f5,f6,f7,f8,f9⟩:=jbL o;obtain⟨W3,a9,Y,aC,am⟩:=jaD (.int .i64 D.kind) (.int .i64 D.level) (.slice C.ea C.el C.ec) (.int .i64 D.hb) (.string D.hr) (.int .i64 D.cr) (.int .i64 D.cc) (.slice C.ca C.cl C.cc) (.int .i64 D.gf) (.slice C.ga C.gl C.gc) o;have d:Bw w2 W3:=am _ _ an (by omega);have aA:C.At W3.heap.size W3 D:=jee (r.go an) o (fun i u=>jcP u) aC;have k:=J.trans (d.mono J.size);have aQ:Hid (MI K [] w w.heap.size b W3):=⟨⟨D,C,ah.out,Y,aA⟩,jab k (Nat.le_refl _) ag.out,R.out.trans (k.mono R.out.size)⟩;have HP:Hid (SlC ji4 1 I.heap.size I pa pl.length pc pl):=hp;have aN:=Lib.hid k;have be:pl.length<=maxLen:=Nat.le_trans hp.2.1 hp.2.2.1;unfold maxLen at be
 have az:Hid (Tab I.heap.size I a l.length cap l):=HT.out.go aY.out;have bf:I.heap.size<=b:=by rw[<- ap];exact J.size
 have bl:w.heap.size<b:=by have:=R.out.size;have:=(Array.getElem?_eq_some_iff.1 ag.out).1;omega
 clear J Y d k hp r o an aC am aA;go_wp2_with fail;clear ap;go_loopw [11,12] (fun e i wr=>∃ m:Nat,m<=pl.length/\e=.int .i64 0/\i=.int .i64 m/\MI K (ja0 L K (pl.take m)) w w.heap.size b wr/\Bw I wr) (fun _ i _=>pl.length-(intOf i).toNat)
 case atStart=>exact⟨0,Nat.zero_le _,rfl,rfl,aQ.out,aN.out⟩
 case round =>
  obtain⟨m,hm,rfl,rfl,aa,A⟩:=hrel;by_cases bb:m<pl.length
  ·obtain⟨i,hi⟩:∃ i,pl[m]? = some i:=⟨_,List.getElem?_eq_getElem bb⟩
   have ba:=ar.out i (List.mem_of_getElem? hi);obtain⟨⟨x,p⟩,hx⟩:∃ e,l[i]? = some e:=⟨_,List.getElem?_eq_getElem ba⟩;obtain⟨pb,po,rfl,bc,aq⟩:=HP.out.1.2 m i hi;obtain⟨M,N,rfl,O,H⟩:=az.out.row.1.2 i (x,p) hx
   have c0:wr.cell? ⟨pb,po+m,none⟩=some (.int .i64 (i:Int)):=by
    have h1:=aq 0 (by omega);simp only[Nat.mul_one,Nat.add_zero] at h1;exact (A.cell (p:=⟨pb,po+m,none⟩) bc).trans h1
   have n0:I.cell? ⟨M,N+i*12,none⟩=some (.slice p.la p.ll p.lc):=H 0 (by omega);have n1:I.cell? ⟨M,N+i*12+1,none⟩=some (.int .i64 x.sk.kind):=H 1 (by omega);have n2:I.cell? ⟨M,N+i*12+2,none⟩=some (.int .i64 x.sk.level):=H 2 (by omega);have n3:I.cell? ⟨M,N+i*12+3,none⟩=some (.slice p.ss.ea p.ss.el p.ss.ec):=H 3 (by omega);have n4:I.cell? ⟨M,N+i*12+4,none⟩=some (.int .i64 x.sk.hb):=H 4 (by omega);have n5:I.cell? ⟨M,N+i*12+5,none⟩=some (.string x.sk.hr):=H 5 (by omega);have n6:I.cell? ⟨M,N+i*12+6,none⟩=some (.int .i64 x.sk.cr):=H 6 (by omega);have n7:I.cell? ⟨M,N+i*12+7,none⟩=some (.int .i64 x.sk.cc):=H 7 (by omega);have n8:I.cell? ⟨M,N+i*12+8,none⟩=some (.slice p.ss.ca p.ss.cl p.ss.cc):=H 8 (by omega);have n9:I.cell? ⟨M,N+i*12+9,none⟩=some (.int .i64 x.sk.gf):=H 9 (by omega);have au:I.cell? ⟨M,N+i*12+10,none⟩=some (.slice p.ss.ga p.ss.gl p.ss.gc):=H 10 (by omega);have aL:I.cell? ⟨M,N+i*12+11,none⟩=some (.int .u64 x.seen):=H 11 (by omega);have ae:=HL.out i x p hx;have g:ja0 L K (pl.take (m+1))=ja0 L K (pl.take m)++jb9 K x:=by rw[jai hi,jjL,jl8 ae]
   have ay:=Lib.hid g;have aP:=Lib.hid (ax.out x (List.mem_of_getElem? ae));have aT:Hid (p.At I.heap.size I x):=az.out.at_ _ (List.mem_of_getElem? hx);have i0:(0:Int)<=(m:Int):=by omega
   have i1:(m:Int)<(pl.length:Int):=by omega
   have j0:(0:Int)<=(i:Int):=by omega
   have j1:(i:Int)<(l.length:Int):=by omega
   have k1:=(A.cell (p:=⟨M,N+i*12+1,none⟩) O).trans n1;have aR:=Lib.hid aa;have aw:=Lib.hid A;by_cases q:x.sk.kind=(K:Int)
   case neg =>
    have t1:(x.sk.kind==(K:Int))=false:=by rw[beq_eq_false_iff_ne];exact q
    have aU:Hid (ja0 L K (pl.take (m+1))=ja0 L K (pl.take m)):=by
     rw[Hid,ay.out];unfold jb9;rw[if_neg (by simpa using q),List.append_nil]
    clear q g aq H hi hx aa A ae n1 n2 n3 n4 n5 n6 n7 n8 n9 au aL n0;go_wp2_with fail
    all_goals go_roundw
    case rel=>exact⟨m+1,by omega,rfl,by go_num,by rw[aU.out];exact aR.out,aw.out⟩
    case measure=>simp[intOf];omega
   have t1:(x.sk.kind==(K:Int))=true:=by simp[q]
   obtain⟨⟨y,E,hy,n,t⟩,B,z⟩:=aa
   have aS:Hid (Calls Tryz.prog 36 #[.agg #[.int .i64 y.kind,.int .i64 y.level,.slice E.ea E.el E.ec,.int .i64 y.hb,.string y.hr,.int .i64 y.cr,.int .i64 y.cc,.slice E.ca E.cl E.cc,.int .i64 y.gf,.slice E.ga E.gl E.gc],.agg #[.int .i64 x.sk.kind,.int .i64 x.sk.level,.slice p.ss.ea p.ss.el p.ss.ec,.int .i64 x.sk.hb,.string x.sk.hr,.int .i64 x.sk.cr,.int .i64 x.sk.cc,.slice p.ss.ca p.ss.cl p.ss.cc,.int .i64 x.sk.gf,.slice p.ss.ga p.ss.gl p.ss.gc]] wr.drew fun e w'=>∃ (y:Sk) (s:SS),e=.returned (.tuple #[.agg #[.int .i64 y.kind,.int .i64 y.level,.slice s.ea s.el s.ec,.int .i64 y.hb,.string y.hr,.int .i64 y.cr,.int .i64 y.cc,.slice s.ca s.cl s.cc,.int .i64 y.gf,.slice s.ga s.gl s.gc],.int .i64 0])/\y=jbu K (jcx K (ja0 L K (pl.take (m+1)))).1 (jcx K (ja0 L K (pl.take (m+1)))).2/\s.At w'.heap.size w' y/\Below wr.drew.heap.size wr.drew w'):=by
    rw[ay.out];have aI:Bw wr wr.drew:=(Below.refl _ _).drew;exact jnk HK.out (jl9 ax.out _) aP.out q hy (t.go aI) (aT.out.go (A.trans (aI.mono A.size))).s
   have k2:=(A.cell (p:=⟨M,N+i*12+2,none⟩) O).trans n2;have k3:=(A.cell (p:=⟨M,N+i*12+3,none⟩) O).trans n3;have k4:=(A.cell (p:=⟨M,N+i*12+4,none⟩) O).trans n4;have k5:=(A.cell (p:=⟨M,N+i*12+5,none⟩) O).trans n5;have k6:=(A.cell (p:=⟨M,N+i*12+6,none⟩) O).trans n6;have k7:=(A.cell (p:=⟨M,N+i*12+7,none⟩) O).trans n7;have k8:=(A.cell (p:=⟨M,N+i*12+8,none⟩) O).trans n8;have k9:=(A.cell (p:=⟨M,N+i*12+9,none⟩) O).trans n9;have bm:=(A.cell (p:=⟨M,N+i*12+10,none⟩) O).trans au;obtain⟨c0,c1,c2,c3,c4,c5,c6,c7,c8,c9⟩:=jam n;have HX:Hid (wr.drew.heap[b]? = some (.cells #[.int .i64 y.kind,.int .i64 y.level,.slice E.ea E.el E.ec,.int .i64 y.hb,.string y.hr,.int .i64 y.cr,.int .i64 y.cc,.slice E.ca E.cl E.cc,.int .i64 y.gf,.slice E.ga E.gl E.gc] 41 (0,0))):=n;have HR:Hid (wr.drew.heap[w.heap.size]? = some (.cells #[.int .i64 0,.int .i64 0,.slice none 0 0,.int .i64 0,.string ⟨#[]⟩,.int .i64 0,.int .i64 0,.slice none 0 0,.int .i64 0,.slice none 0 0] 41 (0,0))):=B;have HB:Hid (Bw w wr.drew):=z.drew;have ak:Hid (Bw I wr.drew):=A.drew;clear q g aq H hi hx A ae n1 n2 n3 n4 n5 n6 n7 n8 n9 au aL n0 hy n t B z;go_wp2_with fail;refine wp_region_any (by kernel_rfl) ?_;change wpAny _ _ _ _ _ _ _ (World.drew _)
   ·
    refine ta 1 ?_;refine ta 2 ?_;refine ta 3 ?_;refine ta 4 ?_;refine rd [0,5] (.cons rfl (fun c hK=>?_) (.cons rfl (fun c hK=>?_) .nil))
    all_goals go_simp
    all_goals (refine hK _ _ ?_;clear hK c)
    all_goals first
     | (refine rq [5] (.cons rfl (fun c hK=>?_) .nil))
     | (refine taq 6 ?_;refine taq 7 ?_;refine rq [0,8] (.cons rfl (fun c hK=>?_) (.cons rfl (fun c hK=>?_) .nil)))
    all_goals go_simp
    all_goals (refine hK _ _ ?_;clear hK c)
    all_goals first
     | (refine taq 6 ?_;refine taq 7 ?_;refine rq [8] (.cons rfl (fun c hK=>?_) .nil))
     | (refine rq [8] (.cons rfl (fun c hK=>?_) .nil))
     | (refine rq [0] (.cons rfl (fun c hK=>?_) .nil))
    all_goals go_simp
    all_goals (refine hK _ _ ?_;clear hK c)
    all_goals (refine rd [9] (.cons rfl (fun c hK=>?_) .nil))
    all_goals go_simp
    all_goals
     refine aS.out.mono ?_;rintro e w5 ⟨y5,s5,rfl,aK,aB,ad⟩;have G:=jab ad (Nat.le_refl _) HX.out;have aE:=jab ad (Nat.le_refl _) HR.out;obtain⟨f0,f1,f2,f3,f4,f5,f6,f7,f8,f9⟩:=jam G;have aZ:w5.frozen? ⟨b,0,none⟩=false:=cFz G 0;have a0:w5.frozen? ⟨b,1,none⟩=false:=cFz G 1;have a1:w5.frozen? ⟨b,2,none⟩=false:=cFz G 2;have a2:w5.frozen? ⟨b,3,none⟩=false:=cFz G 3;have a3:w5.frozen? ⟨b,4,none⟩=false:=cFz G 4;have a4:w5.frozen? ⟨b,5,none⟩=false:=cFz G 5;have a5:w5.frozen? ⟨b,6,none⟩=false:=cFz G 6;have a6:w5.frozen? ⟨b,7,none⟩=false:=cFz G 7;have a7:w5.frozen? ⟨b,8,none⟩=false:=cFz G 8;have a8:w5.frozen? ⟨b,9,none⟩=false:=cFz G 9;obtain⟨V,hV,X,Q,P⟩:=jaD (.int .i64 y5.kind) (.int .i64 y5.level) (.slice s5.ea s5.el s5.ec) (.int .i64 y5.hb) (.string y5.hr) (.int .i64 y5.cr) (.int .i64 y5.cc) (.slice s5.ca s5.cl s5.cc) (.int .i64 y5.gf) (.slice s5.ga s5.gl s5.gc) G;have HO:Hid (MI K (ja0 L K (pl.take (m+1))) w w.heap.size b V/\Bw I V):=⟨⟨⟨y5,s5,aK,X,jee aB G (fun i u=>ju2 y E u) Q⟩,(Q.2 _ (by omega)).trans aE,P _ _ (HB.out.trans (ad.mono HB.out.size)) (by omega)⟩,P _ _ (ak.out.trans (ad.mono ak.out.size)) bf⟩;clear G aE X Q P aK aB ad;refine hK _ _ ?_;clear hK c
    all_goals (refine ta 10 ?_;refine ta 11 ?_;refine ta 12 ?_;refine rd [13] (.cons rfl (fun c hK=>?_) .nil))
    all_goals go_simp
    all_goals (refine hK _ _ ?_;clear hK c)
    all_goals (refine rd [14] (.cons rfl (fun c hK=>?_) .nil))
    all_goals go_simp
    all_goals (refine hK _ _ ?_;clear hK c)
    all_goals (refine wpAny_done (by kernel_rfl) ?_ _)
    all_goals
     go_wp2_with fail
     all_goals go_roundw
     case rel=>exact⟨m+1,by omega,rfl,by go_num,HO.out.1,HO.out.2⟩
     case measure=>simp[intOf];omega
  ·obtain rfl:m=pl.length:=by omega
   rw[List.take_of_length_le (Nat.le_refl _)] at aa;obtain⟨⟨y,E,hy,n,t⟩,B,z⟩:=aa;obtain⟨c0,c1,c2,c3,c4,c5,c6,c7,c8,c9⟩:=jam n;have bn:wr.cell? ⟨w.heap.size,0,none⟩=some (.int .i64 0):=cCc B 0;have bo:wr.cell? ⟨w.heap.size,1,none⟩=some (.int .i64 0):=cCc B 1;have bp:wr.cell? ⟨w.heap.size,2,none⟩=some (.slice none 0 0):=cCc B 2;have bq:wr.cell? ⟨w.heap.size,3,none⟩=some (.int .i64 0):=cCc B 3;have br:wr.cell? ⟨w.heap.size,4,none⟩=some (.string ⟨#[]⟩):=cCc B 4;have bs:wr.cell? ⟨w.heap.size,5,none⟩=some (.int .i64 0):=cCc B 5;have bt:wr.cell? ⟨w.heap.size,6,none⟩=some (.int .i64 0):=cCc B 6;have bu:wr.cell? ⟨w.heap.size,7,none⟩=some (.slice none 0 0):=cCc B 7;have bv:wr.cell? ⟨w.heap.size,8,none⟩=some (.int .i64 0):=cCc B 8;have bw:wr.cell? ⟨w.heap.size,9,none⟩=some (.slice none 0 0):=cCc B 9;have aZ:wr.frozen? ⟨w.heap.size,0,none⟩=false:=cFz B 0;have a0:wr.frozen? ⟨w.heap.size,1,none⟩=false:=cFz B 1;have a1:wr.frozen? ⟨w.heap.size,2,none⟩=false:=cFz B 2;have a2:wr.frozen? ⟨w.heap.size,3,none⟩=false:=cFz B 3;have a3:wr.frozen? ⟨w.heap.size,4,none⟩=false:=cFz B 4;have a4:wr.frozen? ⟨w.heap.size,5,none⟩=false:=cFz B 5;have a5:wr.frozen? ⟨w.heap.size,6,none⟩=false:=cFz B 6;have a6:wr.frozen? ⟨w.heap.size,7,none⟩=false:=cFz B 7;have a7:wr.frozen? ⟨w.heap.size,8,none⟩=false:=cFz B 8;have a8:wr.frozen? ⟨w.heap.size,9,none⟩=false:=cFz B 9
   obtain⟨V,hV,X,Q,P⟩:=jaD (.int .i64 y.kind) (.int .i64 y.level) (.slice E.ea E.el E.ec) (.int .i64 y.hb) (.string y.hr) (.int .i64 y.cr) (.int .i64 y.cc) (.slice E.ca E.cl E.cc) (.int .i64 y.gf) (.slice E.ga E.gl E.gc) B;obtain⟨o0,o1,o2,o3,o4,o5,o6,o7,o8,o9⟩:=jam X;have T:Hid (y=jbu K (jcx K (ja0 L K pl)).1 (jcx K (ja0 L K pl)).2/\E.At V.heap.size V y/\Bw w V):=⟨hy,jee t B (fun i u=>jcP u) Q,P _ _ z (by omega)⟩;clear n B X Q P hy t z;go_wp2_with fail;refine bodyPost_ret (v:=.tuple #[.agg #[.int .i64 y.kind,.int .i64 y.level,.slice E.ea E.el E.ec,.int .i64 y.hb,.string y.hr,.int .i64 y.cr,.int .i64 y.cc,.slice E.ca E.cl E.cc,.int .i64 y.gf,.slice E.ga E.gl E.gc],.int .i64 0]) (by simp[results,Tryz.f11,go_sem,o0,o1,o2,o3,o4,o5,o6,o7,o8,o9]) rfl ⟨y,E,T.out.1.trans HS.out.2.symm,?_,T.out.2.1,T.out.2.2⟩;rw[HS.out.1]
end
end Go.Proofs.YtafhpamnegmilaaGreatDoor
