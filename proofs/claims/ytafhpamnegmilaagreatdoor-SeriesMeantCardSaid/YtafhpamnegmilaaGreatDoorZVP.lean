/- The reference of layer 12: Right. Tables cut: their limits. The reference of layer 12: Right, at tables within limits. -/
import Derived.Test.YtafhpamnegmilaaGreatDoorZV1
import Derived.Test.YtafhpamnegmilaaGreatDoorZDN
set_option maxHeartbeats 8000000
set_option maxRecDepth 100000
namespace Go.Proofs.YtafhpamnegmilaaGreatDoor
open Go Go.RowKit Go.Shelf
def juQ (l:List (Ser × SerP)):Prop:=∀ e∈l,jc8 e.1.sk.e/\I64 e.1.sk.cc/\jsG e.1.sk.gl
theorem jnX {l:List Ser} {x:Ser} (A:l[0]? = some x):jca (jdt l 0) (l.drop 0)=(jal x.l&&jcc x.sk&&jca (jdt l 1) (l.drop 1)):=by
 rw[jk0 A,jfi A];show (jaV x&&true&&_)=_;rw[Bool.and_true];rfl
theorem jpW {l:List Ser} {k:Nat} {x y:Ser} (B:0<k) (A:l[k]? = some x) (C:l[k-1]? = some y):jca (jdt l k) (l.drop k)=(jal x.l&&jcc x.sk&&jau y.l x.l&&jca (jdt l (k+1)) (l.drop (k+1))):=by
 rw[jk0 A,jfi A,jma B C];rfl
theorem jiN (l:List (Ser × SerP)) (a:Option Addr) (len cap:Nat) (w:World) (hT:Tab w.heap.size w a len cap l) (hF:jdl l) (hN:juQ l) (hm:len<=maxLen) :
  CR 30 #[.slice a len cap] w (.bool (jas (l.map (·.1)))):=by
 unfold maxLen at hm;have u:=Lib.hid hT.row.1.1
 have HL:Hid (jas (l.map (·.1))=(jca (jdt (l.map (·.1)) 0) ((l.map (·.1)).drop 0)&&decide (len<=20))):=by
  rw[Hid,u.out];unfold jas;rw[List.length_map,Bool.and_comm];rfl
 generalize jas (l.map (·.1))=R at HL ⊢;have z:=Lib.hid hT;have HF:=Lib.hid hF;have HM:=Lib.hid hN;clear hT hF hN;go_enter Tryz.func30,Tryz.ntmps30;go_wp2_with fail;go_loopw [3] (fun i wr=>∃ (k:Nat),i=.int .i64 k/\k<=len/\Bw w wr/\Hid (R=(jca (jdt (l.map (·.1)) k) ((l.map (·.1)).drop k)&&decide (len<=20)))) (fun i _=>len-(intOf i).toNat)
 case atStart=>exact⟨0,rfl,Nat.zero_le _,Below.refl _ _,HL⟩
 case round =>
  obtain⟨k,rfl,hk,m,f⟩:=hrel;by_cases ae:k<len
  ·obtain⟨⟨x,p⟩,U⟩:∃ x,l[k]? = some x:=⟨_,List.getElem?_eq_getElem (by have:=u.out;omega)⟩
   obtain⟨b,off,ea,S,C⟩:=z.out.row.1.2 k (x,p) U;subst ea;have i1:(k:Int)<(len:Int):=by omega
   have i0:(0:Int)<=(k:Int):=by omega
   have c:Hid (∀ W,Bw w W->p.At W.heap.size W x):=fun W D=>((z.out.at_ _ (List.mem_of_getElem? U)).below D).mono D.size
   have J:=Lib.hid (HF.out _ (List.mem_of_getElem? U));obtain⟨n1,n2,n3⟩:=HM.out _ (List.mem_of_getElem? U);have HN:Hid (∀ W,Bw w W->CR 64 #[.slice p.la p.ll p.lc] W (.bool (jal x.l))):=fun W D=>jcw _ _ _ _ W (c.out W D).l.1 J.out.lab (by have h9:p.ll<4294967281:=J.out.ll;unfold maxLen;omega)
   have HU:Hid (∀ W,Bw w W->CR 65 #[.agg #[.int .i64 x.sk.kind,.int .i64 x.sk.level,.slice p.ss.ea p.ss.el p.ss.ec,.int .i64 x.sk.hb,.string x.sk.hr,.int .i64 x.sk.cr,.int .i64 x.sk.cc,.slice p.ss.ca p.ss.cl p.ss.cc,.int .i64 x.sk.gf,.slice p.ss.ga p.ss.gl p.ss.gc]] W (.bool (jcc x.sk))):=fun W D=>jaU _ _ W (c.out W D).s n1 n2 n3
   have L:(l.map (·.1))[k]? = some x:=by rw[List.getElem?_map,U];rfl
   clear n1 n2 n3;rcases Nat.eq_zero_or_pos k with r | r
   ·have g0:decide ((0:Int)<(k:Int))=false:=by rw[decide_eq_false_iff_not];omega
    have g1:decide (0<k)=false:=by rw[decide_eq_false_iff_not];omega
    have H:Hid (R=(jal x.l&&jcc x.sk&&jca (jdt (l.map (·.1)) (k+1)) ((l.map (·.1)).drop (k+1))&&decide (len<=20))):=by
     subst r;rw[Hid,f.out,jnX L]
    clear U L r f c J;generalize jal x.l=bn at HN H;generalize jcc x.sk=bv at HU H;let Inv0:World->Prop:=fun W=>Bw w W
    have E:∀ W Q,Inv0 W->Bw W Q->Inv0 Q:=fun W Q h S=>Below.trans h (S.mono (Below.size h))
    have O:Hid (∀ X:WIn Inv0,Calls Tryz.prog 64 #[.slice p.la p.ll p.lc] X.world fun e w'=>e=.returned (.bool bn)/\∃ Y:WIn Inv0,w'=Y.world):=fun X=>jac E (HN.out X.world X.ok)
    have P:Hid (∀ X:WIn Inv0,Calls Tryz.prog 65 #[.agg #[.int .i64 x.sk.kind,.int .i64 x.sk.level,.slice p.ss.ea p.ss.el p.ss.ec,.int .i64 x.sk.hb,.string x.sk.hr,.int .i64 x.sk.cr,.int .i64 x.sk.cc,.slice p.ss.ca p.ss.cl p.ss.cc,.int .i64 x.sk.gf,.slice p.ss.ga p.ss.gl p.ss.gc]] X.world fun e w'=>e=.returned (.bool bv)/\∃ Y:WIn Inv0,w'=Y.world):=fun X=>jac E (HU.out X.world X.ok)
    have M:Hid (∀ X:WIn Inv0,Bw w X.world):=fun X=>X.ok
    have B:∀ (X:WIn Inv0) j v,j<12->w.cell? ⟨b,off+k*12+j,none⟩=some v->X.world.cell? ⟨b,off+k*12+j,none⟩=some v:=fun X j v _ h=>((M.out X).cell (p:=⟨b,off+k*12+j,none⟩) S).trans h
    have q0:∀ X:WIn Inv0,X.world.cell? ⟨b,off+k*12,none⟩=some (.slice p.la p.ll p.lc):=fun X=>B X 0 _ (by decide) (C 0 (by decide))
    have q1:∀ X:WIn Inv0,X.world.cell? ⟨b,off+k*12+1,none⟩=some (.int .i64 x.sk.kind):=fun X=>B X 1 _ (by decide) (C 1 (by decide))
    have q2:∀ X:WIn Inv0,X.world.cell? ⟨b,off+k*12+2,none⟩=some (.int .i64 x.sk.level):=fun X=>B X 2 _ (by decide) (C 2 (by decide))
    have q3:∀ X:WIn Inv0,X.world.cell? ⟨b,off+k*12+3,none⟩=some (.slice p.ss.ea p.ss.el p.ss.ec):=fun X=>B X 3 _ (by decide) (C 3 (by decide))
    have q4:∀ X:WIn Inv0,X.world.cell? ⟨b,off+k*12+4,none⟩=some (.int .i64 x.sk.hb):=fun X=>B X 4 _ (by decide) (C 4 (by decide))
    have q5:∀ X:WIn Inv0,X.world.cell? ⟨b,off+k*12+5,none⟩=some (.string x.sk.hr):=fun X=>B X 5 _ (by decide) (C 5 (by decide))
    have q6:∀ X:WIn Inv0,X.world.cell? ⟨b,off+k*12+6,none⟩=some (.int .i64 x.sk.cr):=fun X=>B X 6 _ (by decide) (C 6 (by decide))
    have q7:∀ X:WIn Inv0,X.world.cell? ⟨b,off+k*12+7,none⟩=some (.int .i64 x.sk.cc):=fun X=>B X 7 _ (by decide) (C 7 (by decide))
    have q8:∀ X:WIn Inv0,X.world.cell? ⟨b,off+k*12+8,none⟩=some (.slice p.ss.ca p.ss.cl p.ss.cc):=fun X=>B X 8 _ (by decide) (C 8 (by decide))
    have q9:∀ X:WIn Inv0,X.world.cell? ⟨b,off+k*12+9,none⟩=some (.int .i64 x.sk.gf):=fun X=>B X 9 _ (by decide) (C 9 (by decide))
    have V:∀ X:WIn Inv0,X.world.cell? ⟨b,off+k*12+10,none⟩=some (.slice p.ss.ga p.ss.gl p.ss.gc):=fun X=>B X 10 _ (by decide) (C 10 (by decide))
    have Z:∀ X:WIn Inv0,X.world.cell? ⟨b,off+k*12+11,none⟩=some (.int .u64 x.seen):=fun X=>B X 11 _ (by decide) (C 11 (by decide))
    have G:Hid (Inv0 (World.drew wr)):=m.drew;have T:Nonempty (WIn Inv0):=⟨⟨_,G.out⟩⟩;clear E m C B;clear_value Inv0;obtain rfl | ⟨rfl,rfl⟩ | ⟨rfl,rfl⟩:bn=false\/bn=true/\bv=false\/bn=true/\bv=true:=by cases bn<;>cases bv<;>simp
    all_goals
     go_wp2_with fail;refine jad Inv0 (by kernel_rfl) (by kernel_rfl) G.out ?_
     repeat (first | go_big_quiet_step ((first | (go_at_call 64;with_reducible exact O.out _) | (go_at_call 65;with_reducible exact P.out _) | (go_at_call 66;with_reducible exact g.out _))) | quiet_step ((first | (go_at_call 64;with_reducible exact O.out _) | (go_at_call 65;with_reducible exact P.out _) | (go_at_call 66;with_reducible exact g.out _))))
     refine wpQuiet_nil ?_;rintro _ ⟨X,rfl⟩;have A:=M.out X;obtain⟨t,F⟩:∃ t,X.world=t:=⟨_,rfl⟩;rw[F] at A ⊢;clear M O P q0 q1 q2 q3 q4 q5 q6 q7 q8 q9 V Z G T F X;go_wp2_with fail
    ·go_ret
     exact⟨by rw[H.out];rfl,A⟩
    ·go_ret
     exact⟨by rw[H.out];rfl,A⟩
    ·go_roundw
     case rel=>exact⟨k+1,by go_num,by omega,A,H.out⟩
     case measure=>simp[intOf];omega
   ·have g0:decide ((0:Int)<(k:Int))=true:=by rw[decide_eq_true_iff];omega
    have g1:decide (0<k)=true:=decide_eq_true r;obtain⟨⟨y,I⟩,o⟩:∃ x,l[k-1]? = some x:=⟨_,List.getElem?_eq_getElem (by have:=u.out;omega)⟩;obtain⟨b',ac,aa,-,n⟩:=z.out.row.1.2 (k-1) (y,I) o
    cases aa
    have d:Hid (∀ W,Bw w W->I.At W.heap.size W y):=fun W D=>((z.out.at_ _ (List.mem_of_getElem? o)).below D).mono D.size
    have N:=Lib.hid (HF.out _ (List.mem_of_getElem? o));have HZ:Hid (∀ W,Bw w W->CR 66 #[.slice I.la I.ll I.lc,.slice p.la p.ll p.lc] W (.bool (jau y.l x.l))):=fun W D=>jja _ _ _ _ _ _ _ _ W (d.out W D).l.1 (c.out W D).l.1 N.out.lab (by have h9:I.ll<4294967281:=N.out.ll;unfold maxLen;omega)
    have q:(l.map (·.1))[k-1]? = some y:=by rw[List.getElem?_map,o];rfl
    have H:Hid (R=(jal x.l&&jcc x.sk&&jau y.l x.l&&jca (jdt (l.map (·.1)) (k+1)) ((l.map (·.1)).drop (k+1))&&decide (len<=20))):=by
     rw[Hid,f.out,jpW r L q]
    have j0:wrap64 ((k:Int)-1)=((k-1:Nat):Int):=by rw[show ((k:Int)-1)=((k-1:Nat):Int) by omega];exact IntWalk.wrap64_in ((k-1:Nat):Int) (by omega)
    have j1:((k-1:Nat):Int)<(len:Int):=by omega
    have j2:(0:Int)<=((k-1:Nat):Int):=Int.natCast_nonneg _;clear U L o q f c J d N;generalize jal x.l=bn at HN H;generalize jcc x.sk=bv at HU H;generalize jau y.l x.l=bz at HZ H;let Inv0:World->Prop:=fun W=>Bw w W
    have E:∀ W Q,Inv0 W->Bw W Q->Inv0 Q:=fun W Q h S=>Below.trans h (S.mono (Below.size h))
    have O:Hid (∀ X:WIn Inv0,Calls Tryz.prog 64 #[.slice p.la p.ll p.lc] X.world fun e w'=>e=.returned (.bool bn)/\∃ Y:WIn Inv0,w'=Y.world):=fun X=>jac E (HN.out X.world X.ok)
    have P:Hid (∀ X:WIn Inv0,Calls Tryz.prog 65 #[.agg #[.int .i64 x.sk.kind,.int .i64 x.sk.level,.slice p.ss.ea p.ss.el p.ss.ec,.int .i64 x.sk.hb,.string x.sk.hr,.int .i64 x.sk.cr,.int .i64 x.sk.cc,.slice p.ss.ca p.ss.cl p.ss.cc,.int .i64 x.sk.gf,.slice p.ss.ga p.ss.gl p.ss.gc]] X.world fun e w'=>e=.returned (.bool bv)/\∃ Y:WIn Inv0,w'=Y.world):=fun X=>jac E (HU.out X.world X.ok)
    have g:Hid (∀ X:WIn Inv0,Calls Tryz.prog 66 #[.slice I.la I.ll I.lc,.slice p.la p.ll p.lc] X.world fun e w'=>e=.returned (.bool bz)/\∃ Y:WIn Inv0,w'=Y.world):=fun X=>jac E (HZ.out X.world X.ok)
    have M:Hid (∀ X:WIn Inv0,Bw w X.world):=fun X=>X.ok
    have B:∀ (X:WIn Inv0) j v,j<12->w.cell? ⟨b,off+k*12+j,none⟩=some v->X.world.cell? ⟨b,off+k*12+j,none⟩=some v:=fun X j v _ h=>((M.out X).cell (p:=⟨b,off+k*12+j,none⟩) S).trans h
    have q0:∀ X:WIn Inv0,X.world.cell? ⟨b,off+k*12,none⟩=some (.slice p.la p.ll p.lc):=fun X=>B X 0 _ (by decide) (C 0 (by decide))
    have q1:∀ X:WIn Inv0,X.world.cell? ⟨b,off+k*12+1,none⟩=some (.int .i64 x.sk.kind):=fun X=>B X 1 _ (by decide) (C 1 (by decide))
    have q2:∀ X:WIn Inv0,X.world.cell? ⟨b,off+k*12+2,none⟩=some (.int .i64 x.sk.level):=fun X=>B X 2 _ (by decide) (C 2 (by decide))
    have q3:∀ X:WIn Inv0,X.world.cell? ⟨b,off+k*12+3,none⟩=some (.slice p.ss.ea p.ss.el p.ss.ec):=fun X=>B X 3 _ (by decide) (C 3 (by decide))
    have q4:∀ X:WIn Inv0,X.world.cell? ⟨b,off+k*12+4,none⟩=some (.int .i64 x.sk.hb):=fun X=>B X 4 _ (by decide) (C 4 (by decide))
    have q5:∀ X:WIn Inv0,X.world.cell? ⟨b,off+k*12+5,none⟩=some (.string x.sk.hr):=fun X=>B X 5 _ (by decide) (C 5 (by decide))
    have q6:∀ X:WIn Inv0,X.world.cell? ⟨b,off+k*12+6,none⟩=some (.int .i64 x.sk.cr):=fun X=>B X 6 _ (by decide) (C 6 (by decide))
    have q7:∀ X:WIn Inv0,X.world.cell? ⟨b,off+k*12+7,none⟩=some (.int .i64 x.sk.cc):=fun X=>B X 7 _ (by decide) (C 7 (by decide))
    have q8:∀ X:WIn Inv0,X.world.cell? ⟨b,off+k*12+8,none⟩=some (.slice p.ss.ca p.ss.cl p.ss.cc):=fun X=>B X 8 _ (by decide) (C 8 (by decide))
    have q9:∀ X:WIn Inv0,X.world.cell? ⟨b,off+k*12+9,none⟩=some (.int .i64 x.sk.gf):=fun X=>B X 9 _ (by decide) (C 9 (by decide))
    have V:∀ X:WIn Inv0,X.world.cell? ⟨b,off+k*12+10,none⟩=some (.slice p.ss.ga p.ss.gl p.ss.gc):=fun X=>B X 10 _ (by decide) (C 10 (by decide))
    have Z:∀ X:WIn Inv0,X.world.cell? ⟨b,off+k*12+11,none⟩=some (.int .u64 x.seen):=fun X=>B X 11 _ (by decide) (C 11 (by decide))
    have ab:∀ X:WIn Inv0,X.world.cell? ⟨b,off+(k-1)*12,none⟩=some (.slice I.la I.ll I.lc):=fun X=>((M.out X).cell (p:=⟨b,off+(k-1)*12,none⟩) S).trans (n 0 (by omega))
    have G:Hid (Inv0 (World.drew wr)):=m.drew;have T:Nonempty (WIn Inv0):=⟨⟨_,G.out⟩⟩;clear E m C B n;clear_value Inv0;obtain rfl | ⟨rfl,rfl⟩ | ⟨rfl,rfl,rfl⟩ | ⟨rfl,rfl,rfl⟩:bn=false\/bn=true/\bv=false\/bn=true/\bv=true/\bz=false\/bn=true/\bv=true/\bz=true:=by cases bn<;>cases bv<;>cases bz<;>simp
    all_goals
     go_wp2_with fail;refine jad Inv0 (by kernel_rfl) (by kernel_rfl) G.out ?_
     repeat (first | go_big_quiet_step ((first | (go_at_call 64;with_reducible exact O.out _) | (go_at_call 65;with_reducible exact P.out _) | (go_at_call 66;with_reducible exact g.out _))) | quiet_step ((first | (go_at_call 64;with_reducible exact O.out _) | (go_at_call 65;with_reducible exact P.out _) | (go_at_call 66;with_reducible exact g.out _))))
     refine wpQuiet_nil ?_;rintro _ ⟨X,rfl⟩;have A:=M.out X;obtain⟨t,F⟩:∃ t,X.world=t:=⟨_,rfl⟩;rw[F] at A ⊢;clear M O P g q0 q1 q2 q3 q4 q5 q6 q7 q8 q9 V Z ab G T F X;go_wp2_with fail
    ·go_ret
     exact⟨by rw[H.out];rfl,A⟩
    ·go_ret
     exact⟨by rw[H.out];rfl,A⟩
    ·go_ret
     exact⟨by rw[H.out];rfl,A⟩
    ·go_roundw
     case rel=>exact⟨k+1,by go_num,by omega,A,H.out⟩
     case measure=>simp[intOf];omega
  ·have ad:k=len:=by omega
   have HD:Hid (jca (jdt (l.map (·.1)) k) ((l.map (·.1)).drop k)=true):=by
    rw[Hid,List.drop_eq_nil_of_le (by rw[List.length_map];have:=u.out;omega)]
    cases jdt (l.map (·.1)) k<;>rfl
   have H9:Hid (R=decide (len<=20)):=by rw[Hid,f.out,HD.out,Bool.true_and]
   have h6:decide ((len:Int)<=20)=decide (len<=20):=decide_eq_decide.2 (by omega);go_wp2_with fail;go_ret;exact⟨by rw[H9.out];first | rfl | (simp only[h6];rfl),m⟩
def jhK (L:List Ser):Prop:=∀ x∈L,x.sk.lim
def Ser.wnc (x:Ser):Prop:=x.wn/\I64 x.sk.cc
theorem jvA {L:List Ser} (h:∀ x∈L,Ser.wnc x):jhK (jh4 L):=fun x B=>by
 simp only[jh4,List.mem_map] at B;obtain⟨y,C,rfl⟩:=B;have A:=h y (List.mem_of_mem_take C);exact jvN A.1.1 A.2
theorem jwW {L:List Ser} (h:∀ x∈L,Ser.wn x) (hr:jas (jh4 L)=true):QT (jh4 L):=by
 refine⟨hr,fun x A=>⟨jof (fun y D=>(h y D).wf) x A,?_⟩⟩;have E:=((jbZ _).1 hr).2.1 x A;simp only[jaV,Bool.and_eq_true] at E;simp only[jh4,List.mem_map] at A;obtain⟨y,D,rfl⟩:=A;have B:=(h y (List.mem_of_mem_take D)).1;exact .of E.2 (fun n C=>B.e n (List.mem_of_mem_take C)) (fun n C=>B.c n (List.mem_of_mem_take C)) (fun z F=>(B.g z (List.mem_of_mem_take F)).2)
theorem jsc {l:List (Ser × SerP)} (h:jhK (l.map (·.1))):juQ l:=fun e A=>by
 have:=h e.1 (List.mem_map_of_mem A);exact⟨this.e,this.cc,this.g⟩
theorem jkQ (l:List (Ser × SerP)) (a:Option Addr) (len cap:Nat) (w:World) (A:Tab w.heap.size w a len cap l) (B:jdl l) (C:jhK (l.map (·.1))) :
  CR 30 #[.slice a len cap] w (.bool (jas (l.map (·.1)))) :=
 jiN l a len cap w A B (jsc C) (Nat.le_trans A.row.2.1 A.row.2.2.1)
end Go.Proofs.YtafhpamnegmilaaGreatDoor
