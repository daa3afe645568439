/- grant.Rollup. What SeriesOrders and SeriesOwn have in common: boxes of series that are stored into; Put as a function. jcs as an argument that is stored into its own box. aviarylaw15.shown. aviaryref12.Ints. -/
import Derived.Test.YtafhpamnegmilaaGreatDoorYI7
set_option maxHeartbeats 8000000
set_option maxRecDepth 100000
namespace Go.Proofs.YtafhpamnegmilaaGreatDoor
open Go Go.RowKit Go.Shelf
section
attribute [-go_sem] Builtin.append_
theorem jmn (g:jcs) (ga:Option Addr) (gl gc:Nat) (tn:Int) (s:jb4) (D:Int) (l:List (Ser × SerP)) (a:Option Addr) (len cap:Nat) (w:World) (aB:Grs w.heap.size w (.slice ga gl gc) g.l) (hT:Tab w.heap.size w a len cap l) (hF:jdl l) (hQ:jas (l.map (·.1))=true->∀ x∈l.map (·.1),SkGood x.sk) (hG:GW w) (hg:GT w) :
  Calls Tryz.prog 21 #[.agg #[.int .u64 g.next,.slice ga gl gc],.int .u64 tn,.slice a len cap,.string s.1,.int .i64 D] w (jgx D (je1 g (l.map (·.1)) s) (ja0 (l.map (·.1)) D (je2 g tn (l.map (·.1)) s)) w):=by
 have aC:=hT.row.1.1;subst aC;obtain⟨W0,a7,az,aA,N,a8⟩:=jaI w #[.int .u64 g.next,.slice ga gl gc] 51 #[.int .i64 0,.int .i64 0,.slice none 0 0,.int .i64 0,.string ⟨#[]⟩,.int .i64 0,.int .i64 0,.slice none 0 0,.int .i64 0,.slice none 0 0] 41;have hM:=jlu g ga gl gc tn s l a l.length cap W0 ((SlAt.below N aB).mono N.size) (hT.go N) hF (hG.below N);unfold jc5 at hM;have HT:=Lib.hid (hT.go N);have aJ:Hid (GT W0):=hg.go N;have aP:=Lib.hid aA;have ak:=Lib.hid N
 have aD:Hid (∀ i∈je2 g tn (l.map (·.1)) s,i<l.length):=fun i o=>by
  have h1:i∈jaZ (l.map (·.1)) s:=by
   unfold je2 at o;split at o
   ·exact (List.mem_filter.1 o).1
   ·cases o
  have:=jiP _ _ i h1;rwa [List.length_map] at this
 have aw:je1 g (l.map (·.1)) s=0->∀ x∈l.map (·.1),SkGood x.sk:=fun h=>by
  refine hQ ?_;unfold je1 at h;split at h
  ·exact (jiF h).1
  ·cases h
 have aa:=Lib.hid aw;generalize je2 g tn (l.map (·.1)) s=pl at hM aD ⊢;generalize je1 g (l.map (·.1)) s=er at hM aa ⊢;have HL:Hid (∀ (i:Nat) (x:Ser) (p:SerP),l[i]? = some (x,p)->(l.map (·.1))[i]? = some x):=fun i x p h=>by rw[List.getElem?_map,h];rfl
 generalize l.map (·.1)=L at aa HL ⊢;obtain⟨c0,c1⟩:=cl2 az;clear aB hT hF hQ hG hg az aA N aw;go_enter Tryz.func21,Tryz.ntmps21;go_wp2_with fail;refine hM.mono ?_;rintro e G ⟨pa,pc,rfl,hp,ac⟩;have k:=jab ac (Nat.le_refl _) aP.out;have af:=Lib.hid k;have T:Hid (Bw w G):=ak.out.trans (ac.mono ak.out.size);obtain⟨r0,r1,r2,r3,r4,r5,r6,r7,r8,r9⟩:=jam k;obtain⟨g0,g1,g2,g3,g4,g5,g6,g7,g8,g9⟩:=jbL k;obtain⟨d0,d1,d2,d3,d4,d5,d6,d7,d8,d9⟩:=jgQ k;have ar:=Lib.hid ac;clear k ac hM;by_cases he:er=0
 case neg =>
  have t1:(er != 0)=true:=by rw[bne_iff_ne];exact he
  have HS:Hid (jmH er D=er):=by unfold Hid jmH;rw[if_neg (by simpa using he)]
  have HE:=Lib.hid he;clear he;go_wp2_with fail;refine bodyPost_ret (v:=.tuple #[.agg #[.int .i64 0,.int .i64 0,.slice none 0 0,.int .i64 0,.string ⟨#[]⟩,.int .i64 0,.int .i64 0,.slice none 0 0,.int .i64 0,.slice none 0 0],.int .i64 er]) (by simp[results,Tryz.f21,go_sem,r0,r1,r2,r3,r4,r5,r6,r7,r8,r9]) rfl ⟨jaQ 0 0 [],SkNil,?_,?_,jkV _,T.out⟩
  ·rw[jgv (by rw[HS.out];exact HE.out)]
  ·rw[HS.out];rfl
 subst he;by_cases hk:D=1\/D=2\/D=3
 case neg =>
  have HS:Hid (jmH 0 D=101):=by unfold Hid jmH;rw[if_pos (by rfl:((0:Int)==0)=true),if_neg (by simpa [not_or,and_assoc] using hk)]
  have HN:=Lib.hid (jwu D (by rw[beq_eq_false_iff_ne];exact fun h=>hk (.inl h)) (by rw[beq_eq_false_iff_ne];exact fun h=>hk (.inr (.inl h))) (by rw[beq_eq_false_iff_ne];exact fun h=>hk (.inr (.inr h))) G);clear hk;go_wp2_with fail;refine HN.out.mono ?_;rintro e w2 ⟨rfl,M⟩;have ay:=jab M (Nat.le_refl _) af.out;obtain⟨W3,a0,P,O,a5⟩:=jaf w2 #[.int .i64 0,.int .i64 0,.slice none 0 0,.int .i64 0,.string ⟨#[]⟩,.int .i64 0,.int .i64 0,.slice none 0 0,.int .i64 0,.slice none 0 0] 41;have ab:=jab O (Nat.le_refl _) ay;obtain⟨q0,q1,q2,q3,q4,q5,q6,q7,q8,q9⟩:=jam ab;obtain⟨f0,f1,f2,f3,f4,f5,f6,f7,f8,f9⟩:=jbL ab;obtain⟨bb,bc,be,bf,bg,bh,bi,bj,bk,bl⟩:=jgQ ab;obtain⟨z0,z1,z2,z3,z4,z5,z6,z7,z8,z9⟩:=jam P;obtain⟨y0,y1,y2,y3,y4,y5,y6,y7,y8,y9⟩:=jbL P;obtain⟨bw,bx,bz,bA,bB,bC,bD,bE,bF,bG⟩:=jgQ P;have aH:Hid (Bw w W3):=T.out.trans ((M.trans (O.mono M.size)).mono T.out.size);clear ay P ab M O;go_wp2_with fail;refine bodyPost_ret (v:=.tuple #[.agg #[.int .i64 0,.int .i64 0,.slice none 0 0,.int .i64 0,.string ⟨#[]⟩,.int .i64 0,.int .i64 0,.slice none 0 0,.int .i64 0,.slice none 0 0],.int .i64 101]) (by simp[results,Tryz.f21,go_sem,q0,q1,q2,q3,q4,q5,q6,q7,q8,q9]) rfl ⟨jaQ 0 0 [],SkNil,?_,?_,jkV _,aH.out⟩
  ·rw[jgv (by rw[HS.out];decide)]
  ·rw[HS.out];rfl
 obtain⟨K,rfl,hK⟩:∃ K:Nat,D=(K:Int)/\(K=1\/K=2\/K=3):=⟨D.toNat,by omega,by omega⟩;have HS:=Lib.hid (joC (S:=ja0 L K pl) hK);have an:=Lib.hid (aa.out rfl);have HN:=Lib.hid (jvj K hK G);have HK:=Lib.hid hK;clear hk hK aa;go_wp2_with fail;refine HN.out.mono ?_;rintro e w2 ⟨v2,rfl,⟨y2,q,aE,rfl,au⟩,M⟩;obtain⟨W3,a0,P,O,a5⟩:=jaf w2 #[.int .i64 y2.kind,.int .i64 y2.level,.slice q.ea q.el q.ec,.int .i64 y2.hb,.string y2.hr,.int .i64 y2.cr,.int .i64 y2.cc,.slice q.ca q.cl q.cc,.int .i64 y2.gf,.slice q.ga q.gl q.gc] 41;have R:=M.trans (O.mono M.size);have ao:Hid (MI K [] w (w.heap.size+1) w2.heap.size W3):=⟨⟨y2,q,aE,P,au.go O⟩,jab R (Nat.le_refl _) af.out,T.out.trans (R.mono T.out.size)⟩;have HP:Hid (SlC ji4 1 G.heap.size G pa pl.length pc pl):=hp;have aI:=Lib.hid R;have a4:pl.length<=maxLen:=Nat.le_trans hp.2.1 hp.2.2.1;unfold maxLen at a4;have am:Hid (GT G):=aJ.out.go ar.out;have aq:Hid (Tab G.heap.size G a l.length cap l):=HT.out.go ar.out;obtain⟨b,ag⟩:∃ b,w2.heap.size=b:=⟨_,rfl⟩;have a6:G.heap.size<=b:=by rw[<- ag];exact M.size
 have a9:w.heap.size+1<b:=by have:=T.out.size;have:=(Array.getElem?_eq_some_iff.1 af.out).1;omega
 rw[ag] at ao;clear M P O R hp aE au;go_wp2_with fail;clear ag;go_loopw [13,40] (fun e i wr=>∃ m:Nat,m<=pl.length/\e=.int .i64 0/\i=.int .i64 m/\MI K (ja0 L K (pl.take m)) w (w.heap.size+1) b wr/\Bw G wr) (fun _ i _=>pl.length-(intOf i).toNat)
 case atStart=>exact⟨0,Nat.zero_le _,rfl,rfl,ao.out,aI.out⟩
 case round =>
  obtain⟨m,hm,rfl,rfl,f,A⟩:=hrel;by_cases a2:m<pl.length
  ·obtain⟨i,o⟩:∃ i,pl[m]? = some i:=⟨_,List.getElem?_eq_getElem a2⟩
   have a1:=aD.out i (List.mem_of_getElem? o);obtain⟨⟨x,p⟩,hx⟩:∃ e,l[i]? = some e:=⟨_,List.getElem?_eq_getElem a1⟩;obtain⟨pb,po,rfl,a3,ai⟩:=HP.out.1.2 m i o;obtain⟨H,I,rfl,J,F⟩:=aq.out.row.1.2 i (x,p) hx
   have c0:wr.cell? ⟨pb,po+m,none⟩=some (.int .i64 (i:Int)):=by
    have h1:=ai 0 (by omega);simp only[Nat.mul_one,Nat.add_zero] at h1;exact (A.cell (p:=⟨pb,po+m,none⟩) a3).trans h1
   have n0:G.cell? ⟨H,I+i*12,none⟩=some (.slice p.la p.ll p.lc):=F 0 (by omega);have n1:G.cell? ⟨H,I+i*12+1,none⟩=some (.int .i64 x.sk.kind):=F 1 (by omega);have n2:G.cell? ⟨H,I+i*12+2,none⟩=some (.int .i64 x.sk.level):=F 2 (by omega);have n3:G.cell? ⟨H,I+i*12+3,none⟩=some (.slice p.ss.ea p.ss.el p.ss.ec):=F 3 (by omega);have n4:G.cell? ⟨H,I+i*12+4,none⟩=some (.int .i64 x.sk.hb):=F 4 (by omega);have n5:G.cell? ⟨H,I+i*12+5,none⟩=some (.string x.sk.hr):=F 5 (by omega);have n6:G.cell? ⟨H,I+i*12+6,none⟩=some (.int .i64 x.sk.cr):=F 6 (by omega);have n7:G.cell? ⟨H,I+i*12+7,none⟩=some (.int .i64 x.sk.cc):=F 7 (by omega);have n8:G.cell? ⟨H,I+i*12+8,none⟩=some (.slice p.ss.ca p.ss.cl p.ss.cc):=F 8 (by omega);have n9:G.cell? ⟨H,I+i*12+9,none⟩=some (.int .i64 x.sk.gf):=F 9 (by omega);have aj:G.cell? ⟨H,I+i*12+10,none⟩=some (.slice p.ss.ga p.ss.gl p.ss.gc):=F 10 (by omega);have aG:G.cell? ⟨H,I+i*12+11,none⟩=some (.int .u64 x.seen):=F 11 (by omega);have z:=HL.out i x p hx;have Q:ja0 L K (pl.take (m+1))=ja0 L K (pl.take m)++jb9 K x:=by rw[jai o,jjL,jl8 z]
   have ap:=Lib.hid Q;have aK:=Lib.hid (an.out x (List.mem_of_getElem? z));have aN:Hid (p.At G.heap.size G x):=aq.out.at_ _ (List.mem_of_getElem? hx);have i0:(0:Int)<=(m:Int):=by omega
   have i1:(m:Int)<(pl.length:Int):=by omega
   have j0:(0:Int)<=(i:Int):=by omega
   have j1:(i:Int)<(l.length:Int):=by omega
   have k1:=(A.cell (p:=⟨H,I+i*12+1,none⟩) J).trans n1;have aL:=Lib.hid f;have al:=Lib.hid A;by_cases Z:x.sk.kind=(K:Int)
   case neg =>
    have t1:(x.sk.kind != (K:Int))=true:=by rw[bne_iff_ne];exact Z
    have aO:Hid (ja0 L K (pl.take (m+1))=ja0 L K (pl.take m)):=by
     rw[Hid,ap.out];unfold jb9;rw[if_neg (by simpa using Z),List.append_nil]
    clear Z Q ai F o hx f A z n1 n2 n3 n4 n5 n6 n7 n8 n9 aj aG n0;go_wp2_with fail
    all_goals go_roundw
    case rel=>exact⟨m+1,by omega,rfl,by go_num,by rw[aO.out];exact aL.out,al.out⟩
    case measure=>simp[intOf];omega
   have t1:(x.sk.kind != (K:Int))=false:=by simp[Z]
   obtain⟨⟨y,C,hy,Y,c⟩,B,d⟩:=f
   have aM:Hid (Calls Tryz.prog 34 #[.agg #[.int .i64 y.kind,.int .i64 y.level,.slice C.ea C.el C.ec,.int .i64 y.hb,.string y.hr,.int .i64 y.cr,.int .i64 y.cc,.slice C.ca C.cl C.cc,.int .i64 y.gf,.slice C.ga C.gl C.gc],.agg #[.int .i64 x.sk.kind,.int .i64 x.sk.level,.slice p.ss.ea p.ss.el p.ss.ec,.int .i64 x.sk.hb,.string x.sk.hr,.int .i64 x.sk.cr,.int .i64 x.sk.cc,.slice p.ss.ca p.ss.cl p.ss.cc,.int .i64 x.sk.gf,.slice p.ss.ga p.ss.gl p.ss.gc]] wr.drew fun e w'=>∃ (y:Sk) (s:SS),e=.returned (.tuple #[.agg #[.int .i64 y.kind,.int .i64 y.level,.slice s.ea s.el s.ec,.int .i64 y.hb,.string y.hr,.int .i64 y.cr,.int .i64 y.cc,.slice s.ca s.cl s.cc,.int .i64 y.gf,.slice s.ga s.gl s.gc],.int .i64 0])/\y=jbu K (jcx K (ja0 L K (pl.take (m+1)))).1 (jcx K (ja0 L K (pl.take (m+1)))).2/\s.At w'.heap.size w' y/\Below wr.drew.heap.size wr.drew w'):=by
    rw[ap.out];have ah:Bw wr wr.drew:=(Below.refl _ _).drew;exact jpy HK.out (jl9 an.out _) aK.out Z ⟨y,C,hy,rfl,c.go ah⟩ (aN.out.go (A.trans (ah.mono A.size))).s (am.out.go (A.trans (ah.mono A.size)))
   have k2:=(A.cell (p:=⟨H,I+i*12+2,none⟩) J).trans n2;have k3:=(A.cell (p:=⟨H,I+i*12+3,none⟩) J).trans n3;have k4:=(A.cell (p:=⟨H,I+i*12+4,none⟩) J).trans n4;have k5:=(A.cell (p:=⟨H,I+i*12+5,none⟩) J).trans n5;have k6:=(A.cell (p:=⟨H,I+i*12+6,none⟩) J).trans n6;have k7:=(A.cell (p:=⟨H,I+i*12+7,none⟩) J).trans n7;have k8:=(A.cell (p:=⟨H,I+i*12+8,none⟩) J).trans n8;have k9:=(A.cell (p:=⟨H,I+i*12+9,none⟩) J).trans n9;have ba:=(A.cell (p:=⟨H,I+i*12+10,none⟩) J).trans aj;obtain⟨c0,c1,c2,c3,c4,c5,c6,c7,c8,c9⟩:=jam Y;have HX:Hid (wr.drew.heap[b]? = some (.cells #[.int .i64 y.kind,.int .i64 y.level,.slice C.ea C.el C.ec,.int .i64 y.hb,.string y.hr,.int .i64 y.cr,.int .i64 y.cc,.slice C.ca C.cl C.cc,.int .i64 y.gf,.slice C.ga C.gl C.gc] 41 (0,0))):=Y;have HR:Hid (wr.drew.heap[w.heap.size+1]? = some (.cells #[.int .i64 0,.int .i64 0,.slice none 0 0,.int .i64 0,.string ⟨#[]⟩,.int .i64 0,.int .i64 0,.slice none 0 0,.int .i64 0,.slice none 0 0] 41 (0,0))):=B;have HB:Hid (Bw w wr.drew):=d.drew;have ad:Hid (Bw G wr.drew):=A.drew;clear Z Q ai F o hx A z n1 n2 n3 n4 n5 n6 n7 n8 n9 aj aG n0 hy Y c B d;go_wp2_with fail;refine wp_region_any (by kernel_rfl) ?_;change wpAny _ _ _ _ _ _ _ (World.drew _)
   ·
    refine ta 1 ?_;refine ta 2 ?_;refine ta 3 ?_;refine ta 4 ?_;refine rd [0,5] (.cons rfl (fun K_ hK=>?_) (.cons rfl (fun K_ hK=>?_) .nil))
    all_goals go_simp
    all_goals (refine hK _ _ ?_;clear hK K_)
    all_goals first
     | (refine rq [5] (.cons rfl (fun K_ hK=>?_) .nil))
     | (refine rq [0] (.cons rfl (fun K_ hK=>?_) .nil))
    all_goals go_simp
    all_goals (refine hK _ _ ?_;clear hK K_)
    all_goals (refine rd [6] (.cons rfl (fun K_ hK=>?_) .nil))
    all_goals go_simp
    all_goals
     refine aM.out.mono ?_;rintro e t ⟨y5,r,rfl,aF,av,n⟩;have E:=jab n (Nat.le_refl _) HX.out;have ax:=jab n (Nat.le_refl _) HR.out;obtain⟨f0,f1,f2,f3,f4,f5,f6,f7,f8,f9⟩:=jam E;have aQ:t.frozen? ⟨b,0,none⟩=false:=cFz E 0;have aR:t.frozen? ⟨b,1,none⟩=false:=cFz E 1;have aS:t.frozen? ⟨b,2,none⟩=false:=cFz E 2;have aT:t.frozen? ⟨b,3,none⟩=false:=cFz E 3;have aU:t.frozen? ⟨b,4,none⟩=false:=cFz E 4;have aV:t.frozen? ⟨b,5,none⟩=false:=cFz E 5;have aW:t.frozen? ⟨b,6,none⟩=false:=cFz E 6;have aX:t.frozen? ⟨b,7,none⟩=false:=cFz E 7;have aY:t.frozen? ⟨b,8,none⟩=false:=cFz E 8;have aZ:t.frozen? ⟨b,9,none⟩=false:=cFz E 9;obtain⟨V,hV,j,X,U⟩:=jaD (.int .i64 y5.kind) (.int .i64 y5.level) (.slice r.ea r.el r.ec) (.int .i64 y5.hb) (.string y5.hr) (.int .i64 y5.cr) (.int .i64 y5.cc) (.slice r.ca r.cl r.cc) (.int .i64 y5.gf) (.slice r.ga r.gl r.gc) E;have HO:Hid (MI K (ja0 L K (pl.take (m+1))) w (w.heap.size+1) b V/\Bw G V):=⟨⟨⟨y5,r,aF,j,jee av E (fun i u=>ju2 y C u) X⟩,(X.2 _ (by omega)).trans ax,U _ _ (HB.out.trans (n.mono HB.out.size)) (by omega)⟩,U _ _ (ad.out.trans (n.mono ad.out.size)) a6⟩;clear E ax j X U aF av n;refine hK _ _ ?_;clear hK K_
    all_goals (refine ta 7 ?_;refine ta 8 ?_;refine ta 9 ?_;refine rd [10] (.cons rfl (fun K_ hK=>?_) .nil))
    all_goals go_simp
    all_goals (refine hK _ _ ?_;clear hK K_)
    all_goals (refine ta 11 ?_;refine wpAny_done (by kernel_rfl) ?_ _)
    all_goals
     go_wp2_with fail
     all_goals go_roundw
     case rel=>exact⟨m+1,by omega,rfl,by go_num,HO.out.1,HO.out.2⟩
     case measure=>simp[intOf];omega
  ·obtain rfl:m=pl.length:=by omega
   rw[List.take_of_length_le (Nat.le_refl _)] at f;obtain⟨⟨y,C,hy,Y,c⟩,B,d⟩:=f;obtain⟨c0,c1,c2,c3,c4,c5,c6,c7,c8,c9⟩:=jam Y;have bm:wr.cell? ⟨w.heap.size+1,0,none⟩=some (.int .i64 0):=cCc B 0;have bn:wr.cell? ⟨w.heap.size+1,1,none⟩=some (.int .i64 0):=cCc B 1;have bo:wr.cell? ⟨w.heap.size+1,2,none⟩=some (.slice none 0 0):=cCc B 2;have bp:wr.cell? ⟨w.heap.size+1,3,none⟩=some (.int .i64 0):=cCc B 3;have bq:wr.cell? ⟨w.heap.size+1,4,none⟩=some (.string ⟨#[]⟩):=cCc B 4;have br:wr.cell? ⟨w.heap.size+1,5,none⟩=some (.int .i64 0):=cCc B 5;have bs:wr.cell? ⟨w.heap.size+1,6,none⟩=some (.int .i64 0):=cCc B 6;have bt:wr.cell? ⟨w.heap.size+1,7,none⟩=some (.slice none 0 0):=cCc B 7;have bu:wr.cell? ⟨w.heap.size+1,8,none⟩=some (.int .i64 0):=cCc B 8;have bv:wr.cell? ⟨w.heap.size+1,9,none⟩=some (.slice none 0 0):=cCc B 9;have aQ:wr.frozen? ⟨w.heap.size+1,0,none⟩=false:=cFz B 0;have aR:wr.frozen? ⟨w.heap.size+1,1,none⟩=false:=cFz B 1;have aS:wr.frozen? ⟨w.heap.size+1,2,none⟩=false:=cFz B 2;have aT:wr.frozen? ⟨w.heap.size+1,3,none⟩=false:=cFz B 3;have aU:wr.frozen? ⟨w.heap.size+1,4,none⟩=false:=cFz B 4;have aV:wr.frozen? ⟨w.heap.size+1,5,none⟩=false:=cFz B 5;have aW:wr.frozen? ⟨w.heap.size+1,6,none⟩=false:=cFz B 6;have aX:wr.frozen? ⟨w.heap.size+1,7,none⟩=false:=cFz B 7;have aY:wr.frozen? ⟨w.heap.size+1,8,none⟩=false:=cFz B 8;have aZ:wr.frozen? ⟨w.heap.size+1,9,none⟩=false:=cFz B 9
   obtain⟨V,hV,j,X,U⟩:=jaD (.int .i64 y.kind) (.int .i64 y.level) (.slice C.ea C.el C.ec) (.int .i64 y.hb) (.string y.hr) (.int .i64 y.cr) (.int .i64 y.cc) (.slice C.ca C.cl C.cc) (.int .i64 y.gf) (.slice C.ga C.gl C.gc) B;obtain⟨o0,o1,o2,o3,o4,o5,o6,o7,o8,o9⟩:=jam j;have ae:Hid (y=jbu K (jcx K (ja0 L K pl)).1 (jcx K (ja0 L K pl)).2/\C.At V.heap.size V y/\Bw w V):=⟨hy,jee c B (fun i u=>jcP u) X,U _ _ d (by omega)⟩;clear Y B j X U hy c d;go_wp2_with fail;refine bodyPost_ret (v:=.tuple #[.agg #[.int .i64 y.kind,.int .i64 y.level,.slice C.ea C.el C.ec,.int .i64 y.hb,.string y.hr,.int .i64 y.cr,.int .i64 y.cc,.slice C.ca C.cl C.cc,.int .i64 y.gf,.slice C.ga C.gl C.gc],.int .i64 0]) (by simp[results,Tryz.f21,go_sem,o0,o1,o2,o3,o4,o5,o6,o7,o8,o9]) rfl ⟨y,C,ae.out.1.trans HS.out.2.symm,?_,ae.out.2.1,ae.out.2.2⟩;rw[HS.out.1]
end
theorem SerP.At.apart {B:Nat} {A C:World} {x:Ser} {p:SerP} (h:p.At A.heap.size A x) (D:p.Off (· ≠ B)) (ha:Apart B A C):p.At C.heap.size C x:=(h.frame D ha.2).mono ha.1
theorem Tab.apart {B:Nat} {A C:World} {a:Option Addr} {len cap:Nat} {l:List (Ser × SerP)} (h:Tab A.heap.size A a len cap l) (hr:∀ z,a=some z->0<cap->z.block≠B) (E:∀ e∈l,e.2.Off (· ≠ B)) (ha:Apart B A C):Tab C.heap.size C a len cap l :=
 ⟨h.row.apart hr ha,fun e D=>(h.at_ e D).apart (E e D) ha⟩
theorem joA {B:Nat} {A C:World} {a:Option Addr} {m E cap:Nat} {cs:List Value} (h:SlAt A.heap.size A (.slice a m cap) E cs) (I:∀ z,a=some z->z.block≠B) (ha:Apart B A C):SlAt C.heap.size C (.slice a m cap) E cs:=by
 rcases h with h | ⟨b,o,c,e,D,G⟩
 ·exact .inl h
 ·have F:a=some ⟨b,o,none⟩:=by injection e
  exact .inr ⟨b,o,c,e,Nat.lt_of_lt_of_le D ha.1,fun j H=>(jlq (ha.2 b D (I _ F))).trans (G j H)⟩
theorem jsp {W:World} {B:Nat} {E F:Value} {t:TypeId} (h:W.heap[B]? = some (.cells #[E,F] t (0,0))) (v0 v1:Value) :
  ∃ V,(W.setCell ⟨B,0,none⟩ v0).setCell ⟨B,1,none⟩ v1=V/\V.heap[B]? = some (.cells #[v0,v1] t (0,0))/\Apart B W V/\(∀ n A,n<=B->Below n A W->Below n A V)/\V.heap.size=W.heap.size :=
 ⟨_,rfl,jbB h,(Apart.set 0 v0).trans (Apart.set 1 v1),fun n A C D=>(D.setCell (p:=⟨B,0,none⟩) C _).setCell (p:=⟨B,1,none⟩) C _,by simp[World.setCell]⟩
def shS:jb4:=⟨⟨#[97,61,120]⟩,by decide⟩
def shG:jcs:=⟨2,[⟨1,7,shS⟩]⟩
def shL:Lab:=⟨⟨#[97]⟩,⟨#[120]⟩⟩
def shM:Lab:=⟨⟨#[97]⟩,⟨#[121]⟩⟩
def shK:ji3:=⟨shL,by decide,by decide⟩
def jss:ji3:=⟨shM,by decide,by decide⟩
theorem sh1:jhk ⟨1,[]⟩ 7 shS=(shG,1,0):=by kernel_rfl
theorem sh2:jg8 shG 1=(⟨2,[]⟩,0):=by kernel_rfl
theorem sh3:jhW shG 7 [shL]=true:=by kernel_rfl
theorem sh4:jhW shG 8 [shL]=false:=by kernel_rfl
theorem sh5:jhW shG 7 [shM]=false:=by kernel_rfl
theorem sh6:jhW ⟨2,[]⟩ 7 [shL]=false:=by kernel_rfl
theorem jiE (w:World) (x:Lab) {W:World} (h:W.heap[w.heap.size]? = some (.cells #[.string x.name,.string x.value] 57 (0,0))):Labs W.heap.size W (.slice (some ⟨w.heap.size,0,none⟩) 1 1) [x]:=by
 refine .inr ⟨w.heap.size,0,1,rfl,(Array.getElem?_eq_some_iff.1 h).1,fun i A=>?_⟩;rw[cCc h,Nat.zero_add];simp[Lab.enc]
theorem jkg {w G B:World} {b:Nat} {o:Obj} {J:Value} {l:List Gr} {cs:Array Value} {t:TypeId} (D:Bw w G) (A:Bw G B) (H:G.heap[b]? = some o) (F:b<G.heap.size) (I:Grs B.heap.size B J l) :
  ∃ C,B.alloc (.cells cs t)=C/\Bw w C/\C.heap[b]? = some o/\C.heap[B.heap.size]? = some (.cells cs t (0,0))/\B.heap.size<C.heap.size/\Grs C.heap.size C J l/\Bw G C:=by
 have E:Bw B (B.alloc (.cells cs t)):=(Below.refl _ B).alloc (Nat.le_refl _) _;exact⟨_,rfl,(D.trans (A.mono D.size)).trans (E.mono (Nat.le_trans D.size A.size)),(E.block _ (Nat.lt_of_lt_of_le F A.size)).trans ((A.block _ F).trans H),World.alloc_heap_new _ _,by simp,(SlAt.below E I).mono E.size,A.trans (E.mono A.size)⟩
structure ShAt (w:World) (bg bh:Nat) (a2:Option Addr) (len2 cap2:Nat) (a3:Option Addr) (len3 cap3:Nat) (W:World):Prop where
 below:Bw w W
 hX:W.heap[bg]? = some (.cells #[.int .u64 shG.next,.slice a2 len2 cap2] 51 (0,0))
 hZ:W.heap[bh]? = some (.cells #[.int .u64 2,.slice a3 len3 cap3] 51 (0,0))
 hY:W.heap[w.heap.size]? = some (.cells #[.string ⟨#[97]⟩,.string ⟨#[120]⟩] 57 (0,0))
 hg:Grs W.heap.size W (.slice a2 len2 cap2) shG.l
 hh:Grs W.heap.size W (.slice a3 len3 cap3) []
theorem ShAt.go {w:World} {I J:Nat} {G:Option Addr} {D A:Nat} {H:Option Addr} {E B:Nat} {W F:World} (h:ShAt w I J G D A H E B W) (C:Bw W F):ShAt w I J G D A H E B F :=
 ⟨h.below.trans (C.mono h.below.size),(C.block _ (Array.getElem?_eq_some_iff.1 h.hX).1).trans h.hX,(C.block _ (Array.getElem?_eq_some_iff.1 h.hZ).1).trans h.hZ,(C.block _ (Array.getElem?_eq_some_iff.1 h.hY).1).trans h.hY,(SlAt.below C h.hg).mono C.size,(SlAt.below C h.hh).mono C.size⟩
theorem jkT (w:World) (g:GW w):CR 16 #[] w (.bool true):=by
 obtain⟨f,P⟩:∃ f,w.alloc (.cells #[.string ⟨#[97]⟩,.string ⟨#[120]⟩] 57)=f:=⟨_,rfl⟩;have j:Bw w f:=by rw[<- P];exact (Below.refl _ w).alloc (Nat.le_refl _) _
 have n:f.heap[w.heap.size]? = some (.cells #[.string ⟨#[97]⟩,.string ⟨#[120]⟩] 57 (0,0)):=by rw[<- P];exact World.alloc_heap_new w _
 have d:w.heap.size<f.heap.size:=by rw[<- P];simp
 have hN:=jjT f;go_enter Tryz.func16,Tryz.ntmps16;go_wp2_with fail;refine hN.mono ?_;rintro e w1 ⟨rfl,R⟩;clear P hN;have o:=(R.block _ d).trans n;have U:Bw w w1:=j.trans (R.mono (by omega));have ac:w.heap.size<w1.heap.size:=Nat.lt_of_lt_of_le d R.size;clear n j d R;have hI:=jmW ⟨1,[]⟩ none 0 0 7 shS w1 (.inl ⟨rfl,rfl,rfl⟩) (g.below U) ⟨by decide,by decide⟩;rw[sh1] at hI;go_wp2_with fail;refine hI.mono ?_;rintro e w2 ⟨v2,rfl,⟨S,B,A,rfl,aa,-⟩,s⟩;clear hI;obtain⟨W2,ag,V,c,Q,ad,M,k⟩:=jkg (cs:=#[.int .u64 shG.next,.slice S B A]) (t:=51) U s o ac aa;have F:=cCc Q 0;have G:=cCc Q 1;simp at F G;have hR:=jmb shG S B A 1 W2 M (g.below V);rw[sh2] at hR;clear s aa o U ac;go_wp2_with fail;refine hR.mono ?_;rintro e w3 ⟨v3,rfl,⟨a3,J,H,rfl,ab,-⟩,u⟩;clear hR ag F G;obtain⟨h,ah,m,p,r,ai,T,I⟩:=jkg (cs:=#[.int .u64 2,.slice a3 J H]) (t:=51) V u Q ad ab;have q:h.heap[w.heap.size]? = some (.cells #[.string ⟨#[97]⟩,.string ⟨#[120]⟩] 57 (0,0)):=(I.block _ (Array.getElem?_eq_some_iff.1 c).1).trans c;have hg:Grs h.heap.size h (.slice S B A) shG.l:=(SlAt.below I M).mono I.size;have C:ShAt w w2.heap.size w3.heap.size S B A a3 J H h:=⟨m,p,r,q,hg,T⟩;clear u ab V c Q ad M k m p r ai T I q hg;have F:=cCc C.hX 0;have G:=cCc C.hX 1;simp at F G;have X:=jiR shG S B A 7 (some ⟨w.heap.size,0,none⟩) 1 [shK] h C.hg (jiE w shL C.hY) (g.below C.below) (by decide);have L:jhW shG 7 ([shK].map (·.1))=true:=sh3;rw[L] at X;go_wp2_with fail;refine X.mono ?_;rintro e w4 ⟨rfl,v⟩;clear ah X F G L;have D:=C.go v;clear v C
 have F:=cCc D.hX 0;have G:=cCc D.hX 1;simp at F G;have Y:=jiR shG S B A 8 (some ⟨w.heap.size,0,none⟩) 1 [shK] w4 D.hg (jiE w shL D.hY) (g.below D.below) (by decide);have L:jhW shG 8 ([shK].map (·.1))=false:=sh4;rw[L] at Y;go_wp2_with fail;refine Y.mono ?_;rintro e w5 ⟨rfl,x⟩;clear Y F G L;have N:=D.go x;clear x D;have F:=cCc N.hX 0;have G:=cCc N.hX 1;simp at F G;obtain⟨i,b⟩:∃ i,w5.alloc (.cells #[.string ⟨#[97]⟩,.string ⟨#[121]⟩] 57)=i:=⟨_,rfl⟩;have O:ShAt w w2.heap.size w3.heap.size S B A a3 J H i:=by rw[<- b];exact N.go ((Below.refl _ _).alloc (Nat.le_refl _) _)
 have af:i.heap[w5.heap.size]? = some (.cells #[.string ⟨#[97]⟩,.string ⟨#[121]⟩] 57 (0,0)):=by rw[<- b];exact World.alloc_heap_new w5 _
 have Z:=jiR shG S B A 7 (some ⟨w5.heap.size,0,none⟩) 1 [jss] i O.hg (jiE w5 shM af) (g.below O.below) (by decide);have L:jhW shG 7 ([jss].map (·.1))=false:=sh5;rw[L] at Z;go_wp2_with fail;refine Z.mono ?_;rintro e w7 ⟨rfl,y⟩;clear Z F G L b;have E:=O.go y;clear y O N;have F:=cCc E.hZ 0;have G:=cCc E.hZ 1;simp at F G;have a:=jiR ⟨2,[]⟩ a3 J H 7 (some ⟨w.heap.size,0,none⟩) 1 [shK] w7 E.hh (jiE w shL E.hY) (g.below E.below) (by decide);have L:jhW ⟨2,[]⟩ 7 ([shK].map (·.1))=false:=sh6;rw[L] at a;go_wp2_with fail;refine a.mono ?_;rintro e w8 ⟨rfl,z⟩;have ae:=E.go z;clear a F G L z E;go_wp2_with fail;go_ret;exact⟨rfl,ae.below⟩
theorem jjh (Z:Option Addr) (A F:Nat) (N:List Nat) (a:Option Addr) (B G:Nat) (O:List Nat) (w:World) (Q:SlE ji4 1 w.heap.size w Z A N) (R:SlE ji4 1 w.heap.size w a B O) (n:A<=maxLen) :
  CR 12 #[.slice Z A F,.slice a B G] w (.bool (N==O)):=by
 have P:=Q.1;have S:=R.1;unfold maxLen at n;by_cases m:A=B
 ·subst m
  have t:((A:Int) != (A:Int))=false:=by simp
  have d:=Lib.hid P;have f:=Lib.hid S;clear P S;go_enter Tryz.func12,Tryz.ntmps12;go_wp2_with fail;go_loopw [5] (fun i wr=>∃ (k:Nat),i=.int .i64 k/\k<=A/\Bw w wr/\Hid (N.take k=O.take k)) (fun i _=>A-(intOf i).toNat)
  case atStart=>exact⟨0,rfl,Nat.zero_le _,Below.refl _ _,rfl⟩
  case round =>
   obtain⟨k,rfl,u,H,V⟩:=hrel;by_cases L:k<A
   ·obtain⟨x,g,p,M,T,j,I⟩:=(Q.below H).at L
    obtain⟨y,h,q,c,U,l,J⟩:=(R.below H).at L;subst T;subst U;have r:wr.cell? ⟨g,p+k*1+0,none⟩=some (.int .i64 (x:Int)):=I 0 (by omega);have s:wr.cell? ⟨h,q+k*1+0,none⟩=some (.int .i64 (y:Int)):=J 0 (by omega);simp only[Nat.mul_one,Nat.add_zero] at r s;have i0:(0:Int)<=(k:Int):=by omega
    have v:(k:Int)<(A:Int):=by omega
    have X:=Lib.hid M;have Y:=Lib.hid c;clear I J M c Q R;by_cases C:x=y
    ·have o:((x:Int) != (y:Int))=false:=by simp[C]
     have D:Hid (x=y):=C;clear C;go_wp2_with fail;go_quiet (fail);go_wp2_with fail;go_roundw
     case rel=>exact⟨k+1,by go_num,by omega,bDr H _,by rw[Hid,jai X.out,jai Y.out,V.out,D.out]⟩
     case measure=>simp[intOf];omega
    ·have o:((x:Int) != (y:Int))=true:=by rw[bne_iff_ne];omega
     have D:Hid (¬ x=y):=C;clear C;go_wp2_with fail;go_quiet (fail);go_wp2_with fail;go_ret
     have E:(N==O)=false:=by
      rw[beq_eq_false_iff_ne];intro e;have M:=X.out;rw[e,Y.out] at M;exact D.out (Option.some.inj M).symm
     exact⟨by rw[E];rfl,bDr H _⟩
   ·obtain rfl:k=A:=by omega
    clear Q R;go_wp2_with fail;go_ret;have b:=V.out;rw[List.take_of_length_le (by rw[<- d.out];omega),List.take_of_length_le (by rw[<- f.out];omega)] at b;exact⟨by rw[b];simp,H⟩
 ·have t:((A:Int) != (B:Int))=true:=by rw[bne_iff_ne];omega
  have E:Hid ((N==O)=false):=by
   rw[Hid,beq_eq_false_iff_ne];intro e;rw[e] at P;omega
  clear P S;go_enter Tryz.func12,Tryz.ntmps12;go_wp2_with fail;go_ret;exact⟨by rw[E.out];rfl,Below.refl _ _⟩
end Go.Proofs.YtafhpamnegmilaaGreatDoor
