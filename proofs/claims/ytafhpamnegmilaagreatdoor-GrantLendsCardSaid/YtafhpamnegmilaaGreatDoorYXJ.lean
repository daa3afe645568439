/- Package ladder: open. Package ladder: open at a kind that is none. Package ladder: open, the other kinds. -/
import Derived.Deep.RegionHeld3
import Derived.Deep.Cut
import Derived.Deep.CutRange
import Derived.Deep.DeepCutAuto
import Derived.Test.YtafhpamnegmilaaGreatDoorYXG
set_option maxHeartbeats 8000000
set_option maxRecDepth 100000
namespace Go.Proofs.YtafhpamnegmilaaGreatDoor
open Go Go.RowKit
structure OpenIn (x:Sk) (s:SS) (w W:World):Prop where
 box:W.heap[w.heap.size]? = some (.cells #[.int .i64 x.kind,.int .i64 x.level,.slice s.ea s.el s.ec,.int .i64 x.hb,.string x.hr,.int .i64 x.cr,.int .i64 x.cc,.slice s.ca s.cl s.cc,.int .i64 x.gf,.slice s.ga s.gl s.gc] 41 (0,0))
 res:W.heap[w.heap.size+1]? = some (.cells #[.nilIface,.int .i64 0,.int .i64 0] 116 (0,0))
 flt:W.heap[w.heap.size+1+1]? = some (.cells #[.int .i64 100] 180 (0,0))
 lists:s.At W.heap.size W x
 below:Bw w W
theorem OpenIn.go {x:Sk} {s:SS} {w W B:World} (h:OpenIn x s w W) (A:Bw W B):OpenIn x s w B:=⟨jab A (Nat.le_refl _) h.box,jab A (Nat.le_refl _) h.res,jab A (Nat.le_refl _) h.flt,h.lists.go A,h.below.trans (A.mono h.below.size)⟩
def jbS (ok:Bool) (body:Value) (x:Sk) (w:World) (e:Ending) (w':World):Prop :=
 (if ok then e=.returned (.tuple #[.agg #[body,.int .i64 x.kind,.int .i64 x.level],.nilIface])
  else ∃ b,e=.returned (.tuple #[.agg #[.nilIface,.int .i64 0,.int .i64 0],.iface 178 (.pointer (some ⟨b,0,none⟩))])/\w'.heap[b]? = some (.cells #[.int .i64 100] 180 (0,0))/\w.heap.size<=b)/\Bw w w'
theorem ja1 {x:Sk} {s:SS} {w W:World} {body:Value} {tm:Array Value} (h:OpenIn x s w W) (N:tm[2]?.getD undef=.pointer (some ⟨w.heap.size+1,0,none⟩)) (O:tm[3]?.getD undef=.iface 178 (.pointer (some ⟨w.heap.size+1+1,0,none⟩))) :
  bodyPost Tryz.prog Tryz.f74 (jbS false body x w) Exit.ret { tmps:=tm,defers:=[] } (((W.setCell ⟨w.heap.size+1,0,none⟩ .nilIface).setCell ⟨w.heap.size+1,1,none⟩ (.int .i64 0)).setCell ⟨w.heap.size+1,2,none⟩ (.int .i64 0)):=by
 have G:(W.setCell ⟨w.heap.size+1,0,none⟩ .nilIface).heap[w.heap.size+1]? = some (.cells #[.nilIface,.int .i64 0,.int .i64 0] 116 (0,0)):=hSk h.res .nilIface;have D:=(jae (W:=W) (p:=⟨w.heap.size+1,0,none⟩) (b:=w.heap.size+1+1) (by show w.heap.size+1≠_;omega) .nilIface).trans h.flt;have A:=h.below.setCell (p:=⟨w.heap.size+1,0,none⟩) (Nat.le_succ _) .nilIface;generalize W.setCell ⟨w.heap.size+1,0,none⟩ .nilIface=W at G D A ⊢;have H:(W.setCell ⟨w.heap.size+1,1,none⟩ (.int .i64 0)).heap[w.heap.size+1]? = some (.cells #[.nilIface,.int .i64 0,.int .i64 0] 116 (0,0)):=hSk G (.int .i64 0);have E:=(jae (W:=W) (p:=⟨w.heap.size+1,1,none⟩) (b:=w.heap.size+1+1) (by show w.heap.size+1≠_;omega) (.int .i64 0)).trans D;have B:=A.setCell (p:=⟨w.heap.size+1,1,none⟩) (Nat.le_succ _) (.int .i64 0);generalize W.setCell ⟨w.heap.size+1,1,none⟩ (.int .i64 0)=W at H E B ⊢;have I:(W.setCell ⟨w.heap.size+1,2,none⟩ (.int .i64 0)).heap[w.heap.size+1]? = some (.cells #[.nilIface,.int .i64 0,.int .i64 0] 116 (0,0)):=hSk H (.int .i64 0);have F:=(jae (W:=W) (p:=⟨w.heap.size+1,2,none⟩) (b:=w.heap.size+1+1) (by show w.heap.size+1≠_;omega) (.int .i64 0)).trans E;have C:=B.setCell (p:=⟨w.heap.size+1,2,none⟩) (Nat.le_succ _) (.int .i64 0);generalize W.setCell ⟨w.heap.size+1,2,none⟩ (.int .i64 0)=W at I F C ⊢;obtain⟨J,L,M⟩:=cl3 I;refine bodyPost_ret (v:=.tuple #[.agg #[.nilIface,.int .i64 0,.int .i64 0],.iface 178 (.pointer (some ⟨w.heap.size+1+1,0,none⟩))]) (by simp[results,Tryz.f74,go_sem,N,O,J,L,M]) rfl ⟨?_,C⟩
 exact⟨_,rfl,F,by omega⟩
theorem jct (w:World):Calls Tryz.prog 125 #[] w fun e w'=>∃ r,e=.returned (.map (some r))/\w'.heap[r]? = some (.map jel 3)/\Bw w w' :=
 (jrf w).mono fun e w' ⟨B,A⟩=>⟨_,B,by rw[A];exact World.alloc_heap_new _ _,by rw[A];exact (Below.refl _ w).alloc (Nat.le_refl _) _⟩
theorem jwn (w:World):(zeroValue 181).run Tryz.prog w=.ok .nilFunc w:=by kernel_rfl
theorem jt6 {w:World} {r:Nat} (k:Int) (h:w.heap[r]? = some (.map jel 3)) (A:(k==1)=false) (B:(k==2)=false) (C:(k==3)=false):(Instr.lookup 183 (.map (some r)) (.int .i64 k) true).run Tryz.prog w=.ok (.tuple #[.nilFunc,.bool false]) w :=
 jkw jdC Tryz.underlying3 h (jwn w) (by simp[jel,Instr.findNow,Instr.sameNow,A,B,C])
theorem jop {w:World} {r:Nat} (h:w.heap[r]? = some (.map jel 3)):(Instr.lookup 183 (.map (some r)) (.int .i64 1) true).run Tryz.prog w=.ok (.tuple #[.func (.func 159) #[] #[],.bool true]) w:=(jkv jdC Tryz.underlying3 h rfl).1
theorem jrn {w:World} {r:Nat} (h:w.heap[r]? = some (.map jel 3)):(Instr.lookup 183 (.map (some r)) (.int .i64 2) true).run Tryz.prog w=.ok (.tuple #[.func (.func 160) #[] #[],.bool true]) w:=(jkv jdC Tryz.underlying3 h rfl).1
theorem jro {w:World} {r:Nat} (h:w.heap[r]? = some (.map jel 3)):(Instr.lookup 183 (.map (some r)) (.int .i64 3) true).run Tryz.prog w=.ok (.tuple #[.func (.func 161) #[] #[],.bool true]) w:=(jkv jdC Tryz.underlying3 h rfl).1
theorem jdp {x:Sk} {s:SS} {w:World} (H:s.At w.heap.size w x):∃ B,((w.alloc (.cells #[.int .i64 x.kind,.int .i64 x.level,.slice s.ea s.el s.ec,.int .i64 x.hb,.string x.hr,.int .i64 x.cr,.int .i64 x.cc,.slice s.ca s.cl s.cc,.int .i64 x.gf,.slice s.ga s.gl s.gc] 41)).alloc (.cells #[.nilIface,.int .i64 0,.int .i64 0] 116)).alloc (.cells #[.int .i64 100] 180)=B/\OpenIn x s w B:=by
 obtain⟨B,C,D,E,F,A,G⟩:=jbJ w #[.int .i64 x.kind,.int .i64 x.level,.slice s.ea s.el s.ec,.int .i64 x.hb,.string x.hr,.int .i64 x.cr,.int .i64 x.cc,.slice s.ca s.cl s.cc,.int .i64 x.gf,.slice s.ga s.gl s.gc] 41 #[.nilIface,.int .i64 0,.int .i64 0] 116 #[.int .i64 100] 180;exact⟨B,C,D,E,F,H.go A,A⟩
theorem jrJ (x:Sk) (s:SS) (body:Value) (w:World) (O:s.At w.heap.size w x) (J:(x.kind==1)=false) (L:(x.kind==2)=false) (M:(x.kind==3)=false) :
  Calls Tryz.prog 74 #[.agg #[.int .i64 x.kind,.int .i64 x.level,.slice s.ea s.el s.ec,.int .i64 x.hb,.string x.hr,.int .i64 x.cr,.int .i64 x.cc,.slice s.ca s.cl s.cc,.int .i64 x.gf,.slice s.ga s.gl s.gc]] w (jbS false body x w):=by
 obtain⟨B,F,N⟩:=jdp O;have E:=Lib.hid N;have D:Hid ((x.kind==1)=false/\(x.kind==2)=false/\(x.kind==3)=false):=⟨J,L,M⟩;clear O J L M N;go_enter Tryz.func74,Tryz.ntmps74;go_wp2_with fail;clear F;have R:B.cell? ⟨w.heap.size,0,none⟩=some (.int .i64 x.kind):=cCc E.out.box 0;have P:∀ W,Bw B W->W.cell? ⟨w.heap.size,0,none⟩=some (.int .i64 x.kind)/\Bw B W:=fun W h=>⟨cCc (E.out.go h).box 0,h⟩
 have I:=Lib.hid P;clear P
 go_region_held3 (fun w'=>w'.cell? ⟨w.heap.size,0,none⟩=some (.int .i64 x.kind)/\Bw B w')
  (first
   | exact I.out _ (Below.refl _ _).drew
   | (go_split_ands;refine I.out _ ?_;first | assumption | exact Below.trans (by assumption) (Below.mono (by assumption) (Below.size (by assumption)))))
  (first
   | (go_at_call 125;refine (jct _).mono ?_;rintro e Q ⟨r,rfl,hr,C⟩;have G:=jt6 x.kind hr D.out.1 D.out.2.1 D.out.2.2;have H:Bw B Q:=(by go_split_ands;exact Below.trans (by assumption) (Below.mono C (Below.size (by assumption))))))
 have A:=E.out.go H;clear G hr C;go_wp2_with fail;go_quiet (fail);obtain⟨V,X,Y⟩:=cl3 A.res;obtain⟨S,T,U⟩:=cz3 A.res;go_wp2_with fail;exact ja1 (A.go (bDr (Below.refl _ _) _)) rfl rfl
theorem jgp {x:Sk} {s:SS} {w W:World} {body:Value} {tm:Array Value} (h:OpenIn x s w W) (J:tm[2]?.getD undef=.pointer (some ⟨w.heap.size+1,0,none⟩)) (L:tm[3]?.getD undef=.nilIface) :
  bodyPost Tryz.prog Tryz.f74 (jbS true body x w) Exit.ret { tmps:=tm,defers:=[] } (((W.setCell ⟨w.heap.size+1,0,none⟩ body).setCell ⟨w.heap.size+1,1,none⟩ (.int .i64 x.kind)).setCell ⟨w.heap.size+1,2,none⟩ (.int .i64 x.level)):=by
 have D:(W.setCell ⟨w.heap.size+1,0,none⟩ body).heap[w.heap.size+1]? = some (.cells #[body,.int .i64 0,.int .i64 0] 116 (0,0)):=hSk h.res body;have A:=h.below.setCell (p:=⟨w.heap.size+1,0,none⟩) (Nat.le_succ _) body;generalize W.setCell ⟨w.heap.size+1,0,none⟩ body=W at D A ⊢;have E:(W.setCell ⟨w.heap.size+1,1,none⟩ (.int .i64 x.kind)).heap[w.heap.size+1]? = some (.cells #[body,.int .i64 x.kind,.int .i64 0] 116 (0,0)):=hSk D (.int .i64 x.kind);have B:=A.setCell (p:=⟨w.heap.size+1,1,none⟩) (Nat.le_succ _) (.int .i64 x.kind);generalize W.setCell ⟨w.heap.size+1,1,none⟩ (.int .i64 x.kind)=W at E B ⊢;have F:(W.setCell ⟨w.heap.size+1,2,none⟩ (.int .i64 x.level)).heap[w.heap.size+1]? = some (.cells #[body,.int .i64 x.kind,.int .i64 x.level] 116 (0,0)):=hSk E (.int .i64 x.level);have C:=B.setCell (p:=⟨w.heap.size+1,2,none⟩) (Nat.le_succ _) (.int .i64 x.level);generalize W.setCell ⟨w.heap.size+1,2,none⟩ (.int .i64 x.level)=W at F C ⊢;obtain⟨G,H,I⟩:=cl3 F;exact bodyPost_ret (v:=.tuple #[.agg #[body,.int .i64 x.kind,.int .i64 x.level],.nilIface]) (by simp[results,Tryz.f74,go_sem,J,L,G,H,I]) rfl ⟨rfl,C⟩
theorem jul (x:Sk) (s:SS) (w:World) (hx:s.At w.heap.size w x) (hk:x.kind=1) (h0:(x.level==0)=true) (ab:s.el<2147483648) :
  Calls Tryz.prog 74 #[.agg #[.int .i64 x.kind,.int .i64 x.level,.slice s.ea s.el s.ec,.int .i64 x.hb,.string x.hr,.int .i64 x.cr,.int .i64 x.cc,.slice s.ca s.cl s.cc,.int .i64 x.gf,.slice s.ga s.gl s.gc]] w (jbS (jaH x.e&&jaw x (jaQ 1 x.level x.e)) (.iface 234 (.agg #[.slice s.ea s.el s.ec])) x w):=by
 obtain⟨Y,b,hO⟩:=jdp hx;have o:=Lib.hid hO;have H:=Lib.hid hk;rw[hk] at b ⊢;have t1:decide (x.level<0)=false:=by have:=beq_iff_eq.1 h0;simp[this]
 have t2:decide ((4:Int)<x.level)=false:=by have:=beq_iff_eq.1 h0;simp[this]
 have l:∀ w,Calls Tryz.prog 126 #[.int .i64 1] w fun e w'=>e=.returned (.int .i64 4)/\w'=w:=fun w=>(jb1 1 w).mono fun e w' ⟨h1,h2⟩=>⟨h1,h2.symm⟩
 have T:=Lib.hid l;clear hx hO l hk;go_enter Tryz.func74,Tryz.ntmps74;go_wp2_with fail;clear b;have c0:Y.cell? ⟨w.heap.size,0,none⟩=some (.int .i64 1):=by rw[<- H.out];exact cCc o.out.box 0
 have q0:∀ W,Bw Y W->W.cell? ⟨w.heap.size,0,none⟩=some (.int .i64 1)/\Bw Y W:=fun W h=>⟨by rw[<- H.out];exact cCc (o.out.go h).box 0,h⟩
 have t:=Lib.hid q0;clear q0
 go_region_held3 (fun w'=>w'.cell? ⟨w.heap.size,0,none⟩=some (.int .i64 1)/\Bw Y w')
  (first
   | exact t.out _ (Below.refl _ _).drew
   | (go_split_ands;refine t.out _ ?_;first | assumption | exact Below.trans (by assumption) (Below.mono (by assumption) (Below.size (by assumption)))))
  (first
   | (go_at_call 125;refine (jct _).mono ?_;rintro e w1 ⟨r,rfl,hr,g⟩;have aa:=jop hr;have m:Bw Y w1:=(by go_split_ands;exact Below.trans (by assumption) (Below.mono g (Below.size (by assumption))))))
 have O:=o.out.go m;have Q:=O.box;rw[H.out] at Q;obtain⟨u,v,y,z,d4,d5,d6,d7,d8,d9⟩:=jam Q;clear aa hr g c0;go_wp2_with fail;go_quiet ((go_at_call 126;exact Calls.quiet_of_same (T.out _)));go_wp2_with fail;have P:=O.go (bDr (Below.refl _ _) nq);have p:=jkb x s (w1.drewN nq) P.lists h0;rw[H.out] at p;generalize hbr:jaH x.e=br at p;have I:=Lib.hid hbr;clear hbr;refine p.mono ?_;rintro e S ⟨rfl,i⟩;have A:=P.go i;have E:=A.box;rw[H.out] at E;clear p P i O Q u v y z d4 d5 d6 d7 d8 d9 t T o m;obtain⟨u,v,y,z,d4,d5,d6,d7,d8,d9⟩:=jam E;obtain⟨p0,p1,p2⟩:=cl3 A.res;obtain⟨f0,f1,f2⟩:=cz3 A.res
 cases br with
 | false =>
  go_wp2_with fail;rw[I.out,Bool.false_and];exact ja1 A rfl rfl
 | true =>
  obtain⟨N,c,d,a,ad⟩:=jaf S #[.iface 234 (.agg #[.slice s.ea s.el s.ec]),.int .i64 1,.int .i64 x.level] 116;have X:=Lib.hid c;have C:=Lib.hid (A.go a);have M:=Lib.hid d;clear c d a ad A p0 p1 p2 f0 f1 f2 E;go_wp2_with fail;rw[X.out];clear X u v y z d4 d5 d6 d7 d8 d9
  have q4:∀ w',Bw N w'->w'.cell? ⟨w.heap.size,0,none⟩=some (.int .i64 1)/\w'.cell? ⟨w.heap.size,1,none⟩=some (.int .i64 x.level)/\w'.cell? ⟨w.heap.size,2,none⟩=some (.slice s.ea s.el s.ec)/\w'.cell? ⟨w.heap.size,3,none⟩=some (.int .i64 x.hb)/\w'.cell? ⟨w.heap.size,4,none⟩=some (.string x.hr)/\w'.cell? ⟨w.heap.size,5,none⟩=some (.int .i64 x.cr)/\w'.cell? ⟨w.heap.size,6,none⟩=some (.int .i64 x.cc)/\w'.cell? ⟨w.heap.size,7,none⟩=some (.slice s.ca s.cl s.cc)/\w'.cell? ⟨w.heap.size,8,none⟩=some (.int .i64 x.gf)/\w'.cell? ⟨w.heap.size,9,none⟩=some (.slice s.ga s.gl s.gc)/\w'.cell? ⟨S.heap.size,0,none⟩=some (.iface 234 (.agg #[.slice s.ea s.el s.ec]))/\w'.cell? ⟨S.heap.size,1,none⟩=some (.int .i64 1)/\w'.cell? ⟨S.heap.size,2,none⟩=some (.int .i64 x.level)/\Bw N w':=fun w' h=>by
   have D:=(C.out.go h).box;rw[H.out] at D;have hc:=jab h (Nat.le_refl _) M.out;exact⟨cCc D 0,cCc D 1,cCc D 2,cCc D 3,cCc D 4,cCc D 5,cCc D 6,cCc D 7,cCc D 8,cCc D 9,cCc hc 0,cCc hc 1,cCc hc 2,h⟩
  have J:=Lib.hid q4;clear q4;obtain⟨q,n⟩:∃ q,jaw x (jaQ 1 x.level x.e)=q:=⟨_,rfl⟩;have L:=Lib.hid n;clear n;have V:Hid (∀ W,Bw N W->Calls Tryz.prog 127 #[.agg #[.iface 234 (.agg #[.slice s.ea s.el s.ec]),.int .i64 1,.int .i64 x.level]] W (jfU (jaQ 1 x.level x.e) W)):=fun W h=>jjR 1 x.level x.e s.ea s.el s.ec W (C.out.go h).lists.e.1 ab
  have U:Hid (∀ W (B:SS),Bw N W->B.At W.heap.size W (jaQ 1 x.level x.e)->CR 43 #[.agg #[.int .i64 1,.int .i64 x.level,.slice s.ea s.el s.ec,.int .i64 x.hb,.string x.hr,.int .i64 x.cr,.int .i64 x.cc,.slice s.ca s.cl s.cc,.int .i64 x.gf,.slice s.ga s.gl s.gc],.agg #[.int .i64 (jaQ 1 x.level x.e).kind,.int .i64 (jaQ 1 x.level x.e).level,.slice B.ea B.el B.ec,.int .i64 (jaQ 1 x.level x.e).hb,.string (jaQ 1 x.level x.e).hr,.int .i64 (jaQ 1 x.level x.e).cr,.int .i64 (jaQ 1 x.level x.e).cc,.slice B.ca B.cl B.cc,.int .i64 (jaQ 1 x.level x.e).gf,.slice B.ga B.gl B.gc]] W (.bool q)):=fun W B h ac=>by
   have:=jbV x (jaQ 1 x.level x.e) s B W (C.out.go h).lists ac;rw[L.out,H.out] at this;exact this
  go_region_held3 (fun w'=>w'.cell? ⟨w.heap.size,0,none⟩=some (.int .i64 1)/\w'.cell? ⟨w.heap.size,1,none⟩=some (.int .i64 x.level)/\w'.cell? ⟨w.heap.size,2,none⟩=some (.slice s.ea s.el s.ec)/\w'.cell? ⟨w.heap.size,3,none⟩=some (.int .i64 x.hb)/\w'.cell? ⟨w.heap.size,4,none⟩=some (.string x.hr)/\w'.cell? ⟨w.heap.size,5,none⟩=some (.int .i64 x.cr)/\w'.cell? ⟨w.heap.size,6,none⟩=some (.int .i64 x.cc)/\w'.cell? ⟨w.heap.size,7,none⟩=some (.slice s.ca s.cl s.cc)/\w'.cell? ⟨w.heap.size,8,none⟩=some (.int .i64 x.gf)/\w'.cell? ⟨w.heap.size,9,none⟩=some (.slice s.ga s.gl s.gc)/\w'.cell? ⟨S.heap.size,0,none⟩=some (.iface 234 (.agg #[.slice s.ea s.el s.ec]))/\w'.cell? ⟨S.heap.size,1,none⟩=some (.int .i64 1)/\w'.cell? ⟨S.heap.size,2,none⟩=some (.int .i64 x.level)/\Bw N w')
   (first
    | exact J.out _ (Below.refl _ _).drew
    | (go_split_ands;refine J.out _ ?_;first | assumption | exact Below.trans (by assumption) (Below.mono (by assumption) (Below.size (by assumption)))))
   (first
    | (go_at_call 127;refine (V.out _ (by go_split_ands;assumption)).mono ?_;rintro e w5 ⟨s5,rfl,Z,-,-,-,j⟩;have G:Bw N w5:=(by go_split_ands;exact Below.trans (by assumption) (Below.mono j (Below.size (by assumption)))))
    | (go_at_call 43;refine (U.out _ s5 G Z).mono ?_;rintro e w6 ⟨rfl,k⟩;have R:Bw N w6:=G.trans (k.mono G.size)))
  have F:=C.out.go R;have f:=jab R (Nat.le_refl _) M.out;obtain⟨u0,u1,u2⟩:=cl3 f;obtain⟨p0,p1,p2⟩:=cl3 F.res;obtain⟨f0,f1,f2⟩:=cz3 F.res;clear J V U f k j Z G R C M
  cases q with
  | false =>
   go_wp2_with fail;rw[I.out,L.out,Bool.true_and];exact ja1 F rfl rfl
  | true =>
   go_wp2_with fail;have h9:=fun tm=>jgp (body:=.iface 234 (.agg #[.slice s.ea s.el s.ec])) (tm:=tm) F
   rw[H.out] at h9;rw[I.out,L.out,Bool.true_and];exact h9 _ rfl rfl
theorem jum (x:Sk) (s:SS) (w:World) (hx:s.At w.heap.size w x) (hk:x.kind=1) (h0:(x.level==0)=false) (h1:0<=x.level) (h2:x.level<=4) :
  Calls Tryz.prog 74 #[.agg #[.int .i64 x.kind,.int .i64 x.level,.slice s.ea s.el s.ec,.int .i64 x.hb,.string x.hr,.int .i64 x.cr,.int .i64 x.cc,.slice s.ca s.cl s.cc,.int .i64 x.gf,.slice s.ga s.gl s.gc]] w (jbS ((jaT x.hb x.hr&&(x.hb==8-x.level))&&jaw x (jbl 1 x.level x.hb x.hr)) (.iface 236 (.agg #[.int .i64 x.hb,.string x.hr])) x w):=by
 obtain⟨Y,b,hO⟩:=jdp hx;have o:=Lib.hid hO;have H:=Lib.hid hk;rw[hk] at b ⊢;have t1:decide (x.level<0)=false:=by simp;omega
 have t2:decide ((4:Int)<x.level)=false:=by simp;omega
 have l:∀ w,Calls Tryz.prog 126 #[.int .i64 1] w fun e w'=>e=.returned (.int .i64 4)/\w'=w:=fun w=>(jb1 1 w).mono fun e w' ⟨h1,h2⟩=>⟨h1,h2.symm⟩
 have T:=Lib.hid l;clear hx hO l hk;go_enter Tryz.func74,Tryz.ntmps74;go_wp2_with fail;clear b;have c0:Y.cell? ⟨w.heap.size,0,none⟩=some (.int .i64 1):=by rw[<- H.out];exact cCc o.out.box 0
 have q0:∀ W,Bw Y W->W.cell? ⟨w.heap.size,0,none⟩=some (.int .i64 1)/\Bw Y W:=fun W h=>⟨by rw[<- H.out];exact cCc (o.out.go h).box 0,h⟩
 have t:=Lib.hid q0;clear q0
 go_region_held3 (fun w'=>w'.cell? ⟨w.heap.size,0,none⟩=some (.int .i64 1)/\Bw Y w')
  (first
   | exact t.out _ (Below.refl _ _).drew
   | (go_split_ands;refine t.out _ ?_;first | assumption | exact Below.trans (by assumption) (Below.mono (by assumption) (Below.size (by assumption)))))
  (first
   | (go_at_call 125;refine (jct _).mono ?_;rintro e w1 ⟨r,rfl,hr,g⟩;have aa:=jop hr;have m:Bw Y w1:=(by go_split_ands;exact Below.trans (by assumption) (Below.mono g (Below.size (by assumption))))))
 have O:=o.out.go m;have Q:=O.box;rw[H.out] at Q;obtain⟨u,v,y,z,d4,d5,d6,d7,d8,d9⟩:=jam Q;clear aa hr g c0;go_wp2_with fail;go_quiet ((go_at_call 126;exact Calls.quiet_of_same (T.out _)));go_wp2_with fail;have P:=O.go (bDr (Below.refl _ _) nq);have p:=jkc x s (w1.drewN nq) P.lists h0 h1 h2;rw[H.out] at p;generalize hbr:(jaT x.hb x.hr&&(x.hb==8-x.level))=br at p;have I:=Lib.hid hbr;clear hbr;refine p.mono ?_;rintro e S ⟨rfl,i⟩;have A:=P.go i;have D:=A.box;rw[H.out] at D;clear p P i O Q u v y z d4 d5 d6 d7 d8 d9 t T o m;obtain⟨u,v,y,z,d4,d5,d6,d7,d8,d9⟩:=jam D;obtain⟨p0,p1,p2⟩:=cl3 A.res;obtain⟨f0,f1,f2⟩:=cz3 A.res
 cases br with
 | false =>
  go_wp2_with fail;rw[I.out,Bool.false_and];exact ja1 A rfl rfl
 | true =>
  obtain⟨N,c,d,a,ac⟩:=jaf S #[.iface 236 (.agg #[.int .i64 x.hb,.string x.hr]),.int .i64 1,.int .i64 x.level] 116;have X:=Lib.hid c;have E:=Lib.hid (A.go a);have M:=Lib.hid d;clear c d a ac A p0 p1 p2 f0 f1 f2 D;go_wp2_with fail;rw[X.out];clear X u v y z d4 d5 d6 d7 d8 d9
  have q4:∀ w',Bw N w'->w'.cell? ⟨w.heap.size,0,none⟩=some (.int .i64 1)/\w'.cell? ⟨w.heap.size,1,none⟩=some (.int .i64 x.level)/\w'.cell? ⟨w.heap.size,2,none⟩=some (.slice s.ea s.el s.ec)/\w'.cell? ⟨w.heap.size,3,none⟩=some (.int .i64 x.hb)/\w'.cell? ⟨w.heap.size,4,none⟩=some (.string x.hr)/\w'.cell? ⟨w.heap.size,5,none⟩=some (.int .i64 x.cr)/\w'.cell? ⟨w.heap.size,6,none⟩=some (.int .i64 x.cc)/\w'.cell? ⟨w.heap.size,7,none⟩=some (.slice s.ca s.cl s.cc)/\w'.cell? ⟨w.heap.size,8,none⟩=some (.int .i64 x.gf)/\w'.cell? ⟨w.heap.size,9,none⟩=some (.slice s.ga s.gl s.gc)/\w'.cell? ⟨S.heap.size,0,none⟩=some (.iface 236 (.agg #[.int .i64 x.hb,.string x.hr]))/\w'.cell? ⟨S.heap.size,1,none⟩=some (.int .i64 1)/\w'.cell? ⟨S.heap.size,2,none⟩=some (.int .i64 x.level)/\Bw N w':=fun w' h=>by
   have C:=(E.out.go h).box;rw[H.out] at C;have hc:=jab h (Nat.le_refl _) M.out;exact⟨cCc C 0,cCc C 1,cCc C 2,cCc C 3,cCc C 4,cCc C 5,cCc C 6,cCc C 7,cCc C 8,cCc C 9,cCc hc 0,cCc hc 1,cCc hc 2,h⟩
  have J:=Lib.hid q4;clear q4;obtain⟨q,n⟩:∃ q,jaw x (jbl 1 x.level x.hb x.hr)=q:=⟨_,rfl⟩;have L:=Lib.hid n;clear n;have V:Hid (∀ W,Bw N W->Calls Tryz.prog 127 #[.agg #[.iface 236 (.agg #[.int .i64 x.hb,.string x.hr]),.int .i64 1,.int .i64 x.level]] W (jfU (jbl 1 x.level x.hb x.hr) W)):=fun W h=>jjS 1 x.level x.hb x.hr W
  have U:Hid (∀ W (B:SS),Bw N W->B.At W.heap.size W (jbl 1 x.level x.hb x.hr)->CR 43 #[.agg #[.int .i64 1,.int .i64 x.level,.slice s.ea s.el s.ec,.int .i64 x.hb,.string x.hr,.int .i64 x.cr,.int .i64 x.cc,.slice s.ca s.cl s.cc,.int .i64 x.gf,.slice s.ga s.gl s.gc],.agg #[.int .i64 (jbl 1 x.level x.hb x.hr).kind,.int .i64 (jbl 1 x.level x.hb x.hr).level,.slice B.ea B.el B.ec,.int .i64 (jbl 1 x.level x.hb x.hr).hb,.string (jbl 1 x.level x.hb x.hr).hr,.int .i64 (jbl 1 x.level x.hb x.hr).cr,.int .i64 (jbl 1 x.level x.hb x.hr).cc,.slice B.ca B.cl B.cc,.int .i64 (jbl 1 x.level x.hb x.hr).gf,.slice B.ga B.gl B.gc]] W (.bool q)):=fun W B h ab=>by
   have:=jbV x (jbl 1 x.level x.hb x.hr) s B W (E.out.go h).lists ab;rw[L.out,H.out] at this;exact this
  go_region_held3 (fun w'=>w'.cell? ⟨w.heap.size,0,none⟩=some (.int .i64 1)/\w'.cell? ⟨w.heap.size,1,none⟩=some (.int .i64 x.level)/\w'.cell? ⟨w.heap.size,2,none⟩=some (.slice s.ea s.el s.ec)/\w'.cell? ⟨w.heap.size,3,none⟩=some (.int .i64 x.hb)/\w'.cell? ⟨w.heap.size,4,none⟩=some (.string x.hr)/\w'.cell? ⟨w.heap.size,5,none⟩=some (.int .i64 x.cr)/\w'.cell? ⟨w.heap.size,6,none⟩=some (.int .i64 x.cc)/\w'.cell? ⟨w.heap.size,7,none⟩=some (.slice s.ca s.cl s.cc)/\w'.cell? ⟨w.heap.size,8,none⟩=some (.int .i64 x.gf)/\w'.cell? ⟨w.heap.size,9,none⟩=some (.slice s.ga s.gl s.gc)/\w'.cell? ⟨S.heap.size,0,none⟩=some (.iface 236 (.agg #[.int .i64 x.hb,.string x.hr]))/\w'.cell? ⟨S.heap.size,1,none⟩=some (.int .i64 1)/\w'.cell? ⟨S.heap.size,2,none⟩=some (.int .i64 x.level)/\Bw N w')
   (first
    | exact J.out _ (Below.refl _ _).drew
    | (go_split_ands;refine J.out _ ?_;first | assumption | exact Below.trans (by assumption) (Below.mono (by assumption) (Below.size (by assumption)))))
   (first
    | (go_at_call 127;refine (V.out _ (by go_split_ands;assumption)).mono ?_;rintro e w5 ⟨s5,rfl,Z,-,-,-,j⟩;have G:Bw N w5:=(by go_split_ands;exact Below.trans (by assumption) (Below.mono j (Below.size (by assumption)))))
    | (go_at_call 43;refine (U.out _ s5 G Z).mono ?_;rintro e w6 ⟨rfl,k⟩;have R:Bw N w6:=G.trans (k.mono G.size)))
  have F:=E.out.go R;have f:=jab R (Nat.le_refl _) M.out;obtain⟨u0,u1,u2⟩:=cl3 f;obtain⟨p0,p1,p2⟩:=cl3 F.res;obtain⟨f0,f1,f2⟩:=cz3 F.res;clear J V U f k j Z G R E M
  cases q with
  | false =>
   go_wp2_with fail;rw[I.out,L.out,Bool.true_and];exact ja1 F rfl rfl
  | true =>
   go_wp2_with fail;have h9:=fun tm=>jgp (body:=.iface 236 (.agg #[.int .i64 x.hb,.string x.hr])) (tm:=tm) F
   rw[H.out] at h9;rw[I.out,L.out,Bool.true_and];exact h9 _ rfl rfl
theorem juk (x:Sk) (s:SS) (w:World) (hx:s.At w.heap.size w x) (hk:x.kind=2) (h1:0<=x.level) (h2:x.level<=3) (ab:s.cl<2147483648) :
  Calls Tryz.prog 74 #[.agg #[.int .i64 x.kind,.int .i64 x.level,.slice s.ea s.el s.ec,.int .i64 x.hb,.string x.hr,.int .i64 x.cr,.int .i64 x.cc,.slice s.ca s.cl s.cc,.int .i64 x.gf,.slice s.ga s.gl s.gc]] w (jbS ((jaN x.cr x.cc x.cl&&(x.cr==2)&&(x.cc==32 / 2^x.level.toNat))&&jaw x (jba 2 x.level x.cr x.cc x.cl)) (.iface 237 (.agg #[.int .i64 x.cr,.int .i64 x.cc,.slice s.ca s.cl s.cc])) x w):=by
 obtain⟨Y,b,hO⟩:=jdp hx;have p:=Lib.hid hO;have H:=Lib.hid hk;rw[hk] at b ⊢;have t1:decide (x.level<0)=false:=by simp;omega
 have t2:decide ((3:Int)<x.level)=false:=by simp;omega
 have m:∀ w,Calls Tryz.prog 126 #[.int .i64 2] w fun e w'=>e=.returned (.int .i64 3)/\w'=w:=fun w=>(jb1 2 w).mono fun e w' ⟨h1,h2⟩=>⟨h1,h2.symm⟩
 have T:=Lib.hid m;clear hx hO m hk;go_enter Tryz.func74,Tryz.ntmps74;go_wp2_with fail;clear b;have c0:Y.cell? ⟨w.heap.size,0,none⟩=some (.int .i64 2):=by rw[<- H.out];exact cCc p.out.box 0
 have q0:∀ W,Bw Y W->W.cell? ⟨w.heap.size,0,none⟩=some (.int .i64 2)/\Bw Y W:=fun W h=>⟨by rw[<- H.out];exact cCc (p.out.go h).box 0,h⟩
 have u:=Lib.hid q0;clear q0
 go_region_held3 (fun w'=>w'.cell? ⟨w.heap.size,0,none⟩=some (.int .i64 2)/\Bw Y w')
  (first
   | exact u.out _ (Below.refl _ _).drew
   | (go_split_ands;refine u.out _ ?_;first | assumption | exact Below.trans (by assumption) (Below.mono (by assumption) (Below.size (by assumption)))))
  (first
   | (go_at_call 125;refine (jct _).mono ?_;rintro e w1 ⟨r,rfl,hr,i⟩;have aa:=jrn hr;have n:Bw Y w1:=(by go_split_ands;exact Below.trans (by assumption) (Below.mono i (Below.size (by assumption))))))
 have O:=p.out.go n;have Q:=O.box;rw[H.out] at Q;obtain⟨v,y,z,d3,d4,d5,d6,d7,d8,d9⟩:=jam Q;clear aa hr i c0;go_wp2_with fail;go_quiet ((go_at_call 126;exact Calls.quiet_of_same (T.out _)));go_wp2_with fail;have P:=O.go (bDr (Below.refl _ _) nq);have q:=jqE x s (w1.drewN nq) P.lists h1 h2;rw[H.out] at q;generalize hbr:(jaN x.cr x.cc x.cl&&(x.cr==2)&&(x.cc==32 / 2^x.level.toNat))=br at q;have I:=Lib.hid hbr;clear hbr;refine q.mono ?_;rintro e S ⟨rfl,j⟩;have A:=P.go j;have E:=A.box;rw[H.out] at E;clear q P j O Q v y z d3 d4 d5 d6 d7 d8 d9 u T p n;obtain⟨v,y,z,d3,d4,d5,d6,d7,d8,d9⟩:=jam E;obtain⟨p0,p1,p2⟩:=cl3 A.res;obtain⟨f0,f1,f2⟩:=cz3 A.res
 cases br with
 | false =>
  go_wp2_with fail;rw[I.out,Bool.false_and];exact ja1 A rfl rfl
 | true =>
  obtain⟨N,d,f,a,ad⟩:=jaf S #[.iface 237 (.agg #[.int .i64 x.cr,.int .i64 x.cc,.slice s.ca s.cl s.cc]),.int .i64 2,.int .i64 x.level] 116;have X:=Lib.hid d;have C:=Lib.hid (A.go a);have M:=Lib.hid f;clear d f a ad A p0 p1 p2 f0 f1 f2 E;go_wp2_with fail;rw[X.out];clear X v y z d3 d4 d5 d6 d7 d8 d9
  have q4:∀ w',Bw N w'->w'.cell? ⟨w.heap.size,0,none⟩=some (.int .i64 2)/\w'.cell? ⟨w.heap.size,1,none⟩=some (.int .i64 x.level)/\w'.cell? ⟨w.heap.size,2,none⟩=some (.slice s.ea s.el s.ec)/\w'.cell? ⟨w.heap.size,3,none⟩=some (.int .i64 x.hb)/\w'.cell? ⟨w.heap.size,4,none⟩=some (.string x.hr)/\w'.cell? ⟨w.heap.size,5,none⟩=some (.int .i64 x.cr)/\w'.cell? ⟨w.heap.size,6,none⟩=some (.int .i64 x.cc)/\w'.cell? ⟨w.heap.size,7,none⟩=some (.slice s.ca s.cl s.cc)/\w'.cell? ⟨w.heap.size,8,none⟩=some (.int .i64 x.gf)/\w'.cell? ⟨w.heap.size,9,none⟩=some (.slice s.ga s.gl s.gc)/\w'.cell? ⟨S.heap.size,0,none⟩=some (.iface 237 (.agg #[.int .i64 x.cr,.int .i64 x.cc,.slice s.ca s.cl s.cc]))/\w'.cell? ⟨S.heap.size,1,none⟩=some (.int .i64 2)/\w'.cell? ⟨S.heap.size,2,none⟩=some (.int .i64 x.level)/\Bw N w':=fun w' h=>by
   have D:=(C.out.go h).box;rw[H.out] at D;have hc:=jab h (Nat.le_refl _) M.out;exact⟨cCc D 0,cCc D 1,cCc D 2,cCc D 3,cCc D 4,cCc D 5,cCc D 6,cCc D 7,cCc D 8,cCc D 9,cCc hc 0,cCc hc 1,cCc hc 2,h⟩
  have J:=Lib.hid q4;clear q4;obtain⟨t,o⟩:∃ t,jaw x (jba 2 x.level x.cr x.cc x.cl)=t:=⟨_,rfl⟩;have L:=Lib.hid o;clear o;have V:Hid (∀ W,Bw N W->Calls Tryz.prog 127 #[.agg #[.iface 237 (.agg #[.int .i64 x.cr,.int .i64 x.cc,.slice s.ca s.cl s.cc]),.int .i64 2,.int .i64 x.level]] W (jfU (jba 2 x.level x.cr x.cc x.cl) W)):=fun W h=>jjQ 2 x.level x.cr x.cc x.cl s.ca s.cl s.cc W (C.out.go h).lists.c.1 ab
  have U:Hid (∀ W (B:SS),Bw N W->B.At W.heap.size W (jba 2 x.level x.cr x.cc x.cl)->CR 43 #[.agg #[.int .i64 2,.int .i64 x.level,.slice s.ea s.el s.ec,.int .i64 x.hb,.string x.hr,.int .i64 x.cr,.int .i64 x.cc,.slice s.ca s.cl s.cc,.int .i64 x.gf,.slice s.ga s.gl s.gc],.agg #[.int .i64 (jba 2 x.level x.cr x.cc x.cl).kind,.int .i64 (jba 2 x.level x.cr x.cc x.cl).level,.slice B.ea B.el B.ec,.int .i64 (jba 2 x.level x.cr x.cc x.cl).hb,.string (jba 2 x.level x.cr x.cc x.cl).hr,.int .i64 (jba 2 x.level x.cr x.cc x.cl).cr,.int .i64 (jba 2 x.level x.cr x.cc x.cl).cc,.slice B.ca B.cl B.cc,.int .i64 (jba 2 x.level x.cr x.cc x.cl).gf,.slice B.ga B.gl B.gc]] W (.bool t)):=fun W B h ac=>by
   have:=jbV x (jba 2 x.level x.cr x.cc x.cl) s B W (C.out.go h).lists ac;rw[L.out,H.out] at this;exact this
  go_region_held3 (fun w'=>w'.cell? ⟨w.heap.size,0,none⟩=some (.int .i64 2)/\w'.cell? ⟨w.heap.size,1,none⟩=some (.int .i64 x.level)/\w'.cell? ⟨w.heap.size,2,none⟩=some (.slice s.ea s.el s.ec)/\w'.cell? ⟨w.heap.size,3,none⟩=some (.int .i64 x.hb)/\w'.cell? ⟨w.heap.size,4,none⟩=some (.string x.hr)/\w'.cell? ⟨w.heap.size,5,none⟩=some (.int .i64 x.cr)/\w'.cell? ⟨w.heap.size,6,none⟩=some (.int .i64 x.cc)/\w'.cell? ⟨w.heap.size,7,none⟩=some (.slice s.ca s.cl s.cc)/\w'.cell? ⟨w.heap.size,8,none⟩=some (.int .i64 x.gf)/\w'.cell? ⟨w.heap.size,9,none⟩=some (.slice s.ga s.gl s.gc)/\w'.cell? ⟨S.heap.size,0,none⟩=some (.iface 237 (.agg #[.int .i64 x.cr,.int .i64 x.cc,.slice s.ca s.cl s.cc]))/\w'.cell? ⟨S.heap.size,1,none⟩=some (.int .i64 2)/\w'.cell? ⟨S.heap.size,2,none⟩=some (.int .i64 x.level)/\Bw N w')
   (first
    | exact J.out _ (Below.refl _ _).drew
    | (go_split_ands;refine J.out _ ?_;first | assumption | exact Below.trans (by assumption) (Below.mono (by assumption) (Below.size (by assumption)))))
   (first
    | (go_at_call 127;refine (V.out _ (by go_split_ands;assumption)).mono ?_;rintro e w5 ⟨s5,rfl,Z,-,-,-,k⟩;have G:Bw N w5:=(by go_split_ands;exact Below.trans (by assumption) (Below.mono k (Below.size (by assumption)))))
    | (go_at_call 43;refine (U.out _ s5 G Z).mono ?_;rintro e w6 ⟨rfl,l⟩;have R:Bw N w6:=G.trans (l.mono G.size)))
  have F:=C.out.go R;have g:=jab R (Nat.le_refl _) M.out;obtain⟨u0,u1,u2⟩:=cl3 g;obtain⟨p0,p1,p2⟩:=cl3 F.res;obtain⟨f0,f1,f2⟩:=cz3 F.res;clear J V U g l k Z G R C M
  cases t with
  | false =>
   go_wp2_with fail;rw[I.out,L.out,Bool.true_and];exact ja1 F rfl rfl
  | true =>
   go_wp2_with fail;have h9:=fun tm=>jgp (body:=.iface 237 (.agg #[.int .i64 x.cr,.int .i64 x.cc,.slice s.ca s.cl s.cc])) (tm:=tm) F
   rw[H.out] at h9;rw[I.out,L.out,Bool.true_and];exact h9 _ rfl rfl
theorem juj (x:Sk) (s:SS) (w:World) (hx:s.At w.heap.size w x) (hk:x.kind=3) (h1:0<=x.level) (h2:x.level<=3) (ab:s.gl<2147483648) (B:∀ b∈x.gl,b.1<=9223372036854775807) :
  Calls Tryz.prog 74 #[.agg #[.int .i64 x.kind,.int .i64 x.level,.slice s.ea s.el s.ec,.int .i64 x.hb,.string x.hr,.int .i64 x.cr,.int .i64 x.cc,.slice s.ca s.cl s.cc,.int .i64 x.gf,.slice s.ga s.gl s.gc]] w (jbS ((jaP x.gf x.gl&&(x.gf==3-x.level))&&jaw x (jbv 3 x.level x.gf x.gl)) (.iface 239 (.agg #[.int .i64 x.gf,.slice s.ga s.gl s.gc])) x w):=by
 obtain⟨Y,c,hO⟩:=jdp hx;have q:=Lib.hid hO;have H:=Lib.hid hk;rw[hk] at c ⊢;have t1:decide (x.level<0)=false:=by simp;omega
 have t2:decide ((3:Int)<x.level)=false:=by simp;omega
 have n:∀ w,Calls Tryz.prog 126 #[.int .i64 3] w fun e w'=>e=.returned (.int .i64 3)/\w'=w:=fun w=>(jb1 3 w).mono fun e w' ⟨h1,h2⟩=>⟨h1,h2.symm⟩
 have T:=Lib.hid n;clear hx hO n hk;go_enter Tryz.func74,Tryz.ntmps74;go_wp2_with fail;clear c;have c0:Y.cell? ⟨w.heap.size,0,none⟩=some (.int .i64 3):=by rw[<- H.out];exact cCc q.out.box 0
 have q0:∀ W,Bw Y W->W.cell? ⟨w.heap.size,0,none⟩=some (.int .i64 3)/\Bw Y W:=fun W h=>⟨by rw[<- H.out];exact cCc (q.out.go h).box 0,h⟩
 have v:=Lib.hid q0;clear q0
 go_region_held3 (fun w'=>w'.cell? ⟨w.heap.size,0,none⟩=some (.int .i64 3)/\Bw Y w')
  (first
   | exact v.out _ (Below.refl _ _).drew
   | (go_split_ands;refine v.out _ ?_;first | assumption | exact Below.trans (by assumption) (Below.mono (by assumption) (Below.size (by assumption)))))
  (first
   | (go_at_call 125;refine (jct _).mono ?_;rintro e w1 ⟨r,rfl,hr,j⟩;have aa:=jro hr;have o:Bw Y w1:=(by go_split_ands;exact Below.trans (by assumption) (Below.mono j (Below.size (by assumption))))))
 have O:=q.out.go o;have Q:=O.box;rw[H.out] at Q;obtain⟨y,z,d2,d3,d4,d5,d6,d7,d8,d9⟩:=jam Q;clear aa hr j c0;go_wp2_with fail;go_quiet ((go_at_call 126;exact Calls.quiet_of_same (T.out _)));go_wp2_with fail;have P:=O.go (bDr (Below.refl _ _) nq);have t:=jvM x s (w1.drewN nq) P.lists h1 h2 B;rw[H.out] at t;generalize hbr:(jaP x.gf x.gl&&(x.gf==3-x.level))=br at t;have I:=Lib.hid hbr;clear hbr;refine t.mono ?_;rintro e S ⟨rfl,k⟩;have A:=P.go k;have E:=A.box;rw[H.out] at E;clear t P k O Q y z d2 d3 d4 d5 d6 d7 d8 d9 v T q o;obtain⟨y,z,d2,d3,d4,d5,d6,d7,d8,d9⟩:=jam E;obtain⟨p0,p1,p2⟩:=cl3 A.res;obtain⟨f0,f1,f2⟩:=cz3 A.res
 cases br with
 | false =>
  go_wp2_with fail;rw[I.out,Bool.false_and];exact ja1 A rfl rfl
 | true =>
  obtain⟨N,d,f,a,ad⟩:=jaf S #[.iface 239 (.agg #[.int .i64 x.gf,.slice s.ga s.gl s.gc]),.int .i64 3,.int .i64 x.level] 116;have X:=Lib.hid d;have D:=Lib.hid (A.go a);have M:=Lib.hid f;clear d f a ad A p0 p1 p2 f0 f1 f2 E;go_wp2_with fail;rw[X.out];clear X y z d2 d3 d4 d5 d6 d7 d8 d9
  have q4:∀ w',Bw N w'->w'.cell? ⟨w.heap.size,0,none⟩=some (.int .i64 3)/\w'.cell? ⟨w.heap.size,1,none⟩=some (.int .i64 x.level)/\w'.cell? ⟨w.heap.size,2,none⟩=some (.slice s.ea s.el s.ec)/\w'.cell? ⟨w.heap.size,3,none⟩=some (.int .i64 x.hb)/\w'.cell? ⟨w.heap.size,4,none⟩=some (.string x.hr)/\w'.cell? ⟨w.heap.size,5,none⟩=some (.int .i64 x.cr)/\w'.cell? ⟨w.heap.size,6,none⟩=some (.int .i64 x.cc)/\w'.cell? ⟨w.heap.size,7,none⟩=some (.slice s.ca s.cl s.cc)/\w'.cell? ⟨w.heap.size,8,none⟩=some (.int .i64 x.gf)/\w'.cell? ⟨w.heap.size,9,none⟩=some (.slice s.ga s.gl s.gc)/\w'.cell? ⟨S.heap.size,0,none⟩=some (.iface 239 (.agg #[.int .i64 x.gf,.slice s.ga s.gl s.gc]))/\w'.cell? ⟨S.heap.size,1,none⟩=some (.int .i64 3)/\w'.cell? ⟨S.heap.size,2,none⟩=some (.int .i64 x.level)/\Bw N w':=fun w' h=>by
   have B:=(D.out.go h).box;rw[H.out] at B;have hc:=jab h (Nat.le_refl _) M.out;exact⟨cCc B 0,cCc B 1,cCc B 2,cCc B 3,cCc B 4,cCc B 5,cCc B 6,cCc B 7,cCc B 8,cCc B 9,cCc hc 0,cCc hc 1,cCc hc 2,h⟩
  have J:=Lib.hid q4;clear q4;obtain⟨u,p⟩:∃ u,jaw x (jbv 3 x.level x.gf x.gl)=u:=⟨_,rfl⟩;have L:=Lib.hid p;clear p;have V:Hid (∀ W,Bw N W->Calls Tryz.prog 127 #[.agg #[.iface 239 (.agg #[.int .i64 x.gf,.slice s.ga s.gl s.gc]),.int .i64 3,.int .i64 x.level]] W (jfU (jbv 3 x.level x.gf x.gl) W)):=fun W h=>jjP 3 x.level x.gf x.gl s.ga s.gl s.gc W (D.out.go h).lists.g.1 ab
  have U:Hid (∀ W (C:SS),Bw N W->C.At W.heap.size W (jbv 3 x.level x.gf x.gl)->CR 43 #[.agg #[.int .i64 3,.int .i64 x.level,.slice s.ea s.el s.ec,.int .i64 x.hb,.string x.hr,.int .i64 x.cr,.int .i64 x.cc,.slice s.ca s.cl s.cc,.int .i64 x.gf,.slice s.ga s.gl s.gc],.agg #[.int .i64 (jbv 3 x.level x.gf x.gl).kind,.int .i64 (jbv 3 x.level x.gf x.gl).level,.slice C.ea C.el C.ec,.int .i64 (jbv 3 x.level x.gf x.gl).hb,.string (jbv 3 x.level x.gf x.gl).hr,.int .i64 (jbv 3 x.level x.gf x.gl).cr,.int .i64 (jbv 3 x.level x.gf x.gl).cc,.slice C.ca C.cl C.cc,.int .i64 (jbv 3 x.level x.gf x.gl).gf,.slice C.ga C.gl C.gc]] W (.bool u)):=fun W C h ac=>by
   have:=jbV x (jbv 3 x.level x.gf x.gl) s C W (D.out.go h).lists ac;rw[L.out,H.out] at this;exact this
  go_region_held3 (fun w'=>w'.cell? ⟨w.heap.size,0,none⟩=some (.int .i64 3)/\w'.cell? ⟨w.heap.size,1,none⟩=some (.int .i64 x.level)/\w'.cell? ⟨w.heap.size,2,none⟩=some (.slice s.ea s.el s.ec)/\w'.cell? ⟨w.heap.size,3,none⟩=some (.int .i64 x.hb)/\w'.cell? ⟨w.heap.size,4,none⟩=some (.string x.hr)/\w'.cell? ⟨w.heap.size,5,none⟩=some (.int .i64 x.cr)/\w'.cell? ⟨w.heap.size,6,none⟩=some (.int .i64 x.cc)/\w'.cell? ⟨w.heap.size,7,none⟩=some (.slice s.ca s.cl s.cc)/\w'.cell? ⟨w.heap.size,8,none⟩=some (.int .i64 x.gf)/\w'.cell? ⟨w.heap.size,9,none⟩=some (.slice s.ga s.gl s.gc)/\w'.cell? ⟨S.heap.size,0,none⟩=some (.iface 239 (.agg #[.int .i64 x.gf,.slice s.ga s.gl s.gc]))/\w'.cell? ⟨S.heap.size,1,none⟩=some (.int .i64 3)/\w'.cell? ⟨S.heap.size,2,none⟩=some (.int .i64 x.level)/\Bw N w')
   (first
    | exact J.out _ (Below.refl _ _).drew
    | (go_split_ands;refine J.out _ ?_;first | assumption | exact Below.trans (by assumption) (Below.mono (by assumption) (Below.size (by assumption)))))
   (first
    | (go_at_call 127;refine (V.out _ (by go_split_ands;assumption)).mono ?_;rintro e w5 ⟨s5,rfl,Z,-,-,-,l⟩;have G:Bw N w5:=(by go_split_ands;exact Below.trans (by assumption) (Below.mono l (Below.size (by assumption)))))
    | (go_at_call 43;refine (U.out _ s5 G Z).mono ?_;rintro e w6 ⟨rfl,m⟩;have R:Bw N w6:=G.trans (m.mono G.size)))
  have F:=D.out.go R;have i:=jab R (Nat.le_refl _) M.out;obtain⟨u0,u1,u2⟩:=cl3 i;obtain⟨p0,p1,p2⟩:=cl3 F.res;obtain⟨f0,f1,f2⟩:=cz3 F.res;clear J V U i m l Z G R D M
  cases u with
  | false =>
   go_wp2_with fail;rw[I.out,L.out,Bool.true_and];exact ja1 F rfl rfl
  | true =>
   go_wp2_with fail;have h9:=fun tm=>jgp (body:=.iface 239 (.agg #[.int .i64 x.gf,.slice s.ga s.gl s.gc])) (tm:=tm) F
   rw[H.out] at h9;rw[I.out,L.out,Bool.true_and];exact h9 _ rfl rfl
end Go.Proofs.YtafhpamnegmilaaGreatDoor
