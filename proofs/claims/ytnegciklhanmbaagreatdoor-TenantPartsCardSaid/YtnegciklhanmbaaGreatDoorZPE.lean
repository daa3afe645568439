/- clock.Stale, watch.stale; the library's IndexFunc, DeleteFunc at series (where none goes); clock.Expire there. clock.Expire where no series is stale. label.Parse's reader: its methods, rune by rune. label.Parse's reader: equals, quote, end, comma, step. label.Parse's reader: step, newReader. label.read. -/
import Derived.Test.YtnegciklhanmbaaGreatDoorZLG
set_option maxHeartbeats 4000000
set_option maxRecDepth 100000
namespace Go.Proofs.YtnegciklhanmbaaGreatDoor
open Go Go.RowKit Go.Shelf
theorem jpY (A B:Int) (x:Ser) (p:SerP) (w:World) (N:U64 x.seen) (M:U64 A):CR 145 #[.agg #[.slice p.la p.ll p.lc,.int .i64 x.sk.kind,.int .i64 x.sk.level,.slice p.ss.ea p.ss.el p.ss.ec,.int .i64 x.sk.hb,.string x.sk.hr,.int .i64 x.sk.cr,.int .i64 x.sk.cc,.slice p.ss.ca p.ss.cl p.ss.cc,.int .i64 x.sk.gf,.slice p.ss.ga p.ss.gl p.ss.gc,.int .u64 x.seen],.int .u64 A,.int .u64 B] w (.bool (jdq A B x)):=by
 obtain⟨H,L,D,C,G⟩:=jab w #[.slice p.la p.ll p.lc,.int .i64 x.sk.kind,.int .i64 x.sk.level,.slice p.ss.ea p.ss.el p.ss.ec,.int .i64 x.sk.hb,.string x.sk.hr,.int .i64 x.sk.cr,.int .i64 x.sk.cc,.slice p.ss.ca p.ss.cl p.ss.cc,.int .i64 x.sk.gf,.slice p.ss.ga p.ss.gl p.ss.gc,.int .u64 x.seen] 90;have I:H.cell? ⟨w.heap.size,11,none⟩=some (.int .u64 x.seen):=cCc D 11;have E:Hid (jdq A B x=(decide (x.seen<A)&&decide (B<A-x.seen))):=rfl;clear D G;by_cases h:x.seen<A
 ·have O:IntKind.u64.wrap (A-x.seen)=A-x.seen:=by rw[IntKind.wrap_u64];have:=M.2;have:=N.1;omega
  have F:Hid (jdq A B x=decide (B<A-x.seen)):=by rw[Hid,E.out,decide_eq_true h];rfl
  have J:decide (x.seen<A)=true:=decide_eq_true h;clear E;go_enter Tryz.func145,Tryz.ntmps145;go_wp2_with fail;go_ret;exact⟨congrArg (fun z=>Ending.returned (.bool z)) F.out.symm,C⟩
 ·have F:Hid (jdq A B x=false):=by rw[Hid,E.out,decide_eq_false h];rfl
  have J:decide (x.seen<A)=false:=decide_eq_false h;clear E;go_enter Tryz.func145,Tryz.ntmps145;go_wp2_with fail;go_ret;exact⟨congrArg (fun z=>Ending.returned (.bool z)) F.out.symm,C⟩
theorem jsl (B A:Int) (x:Ser) (p:SerP) (w:World) (O:U64 x.seen) (N:U64 B):CR 102 #[.agg #[.int .u64 B,.int .u64 A],.agg #[.slice p.la p.ll p.lc,.int .i64 x.sk.kind,.int .i64 x.sk.level,.slice p.ss.ea p.ss.el p.ss.ec,.int .i64 x.sk.hb,.string x.sk.hr,.int .i64 x.sk.cr,.int .i64 x.sk.cc,.slice p.ss.ca p.ss.cl p.ss.cc,.int .i64 x.sk.gf,.slice p.ss.ga p.ss.gl p.ss.gc,.int .u64 x.seen]] w (.bool (jdq B A x)):=by
 obtain⟨H,M,E,D,C,G⟩:=jas w #[.int .u64 B,.int .u64 A] 199 #[.slice p.la p.ll p.lc,.int .i64 x.sk.kind,.int .i64 x.sk.level,.slice p.ss.ea p.ss.el p.ss.ec,.int .i64 x.sk.hb,.string x.sk.hr,.int .i64 x.sk.cr,.int .i64 x.sk.cc,.slice p.ss.ca p.ss.cl p.ss.cc,.int .i64 x.sk.gf,.slice p.ss.ga p.ss.gl p.ss.gc,.int .u64 x.seen] 90;obtain⟨P,Q⟩:=cl2 E;obtain⟨R,c1,c2,c3,c4,c5,S,T,U,V,I,J⟩:=jkX D;have L:=jpY B A x p H O N;clear E D G;go_enter Tryz.func102,Tryz.ntmps102;go_wp2_with (go_at_call 145;refine L.mono ?_;rintro e X ⟨rfl,F⟩);go_ret;exact⟨rfl,C.trans (F.mono C.size)⟩
theorem jjJ (a:Option Addr) (cap:Nat) (l:List (Ser × SerP)) (B:Nat) (first:Value) (w:World) (H:Tab w.heap.size w a l.length cap l) (Q:l.length<4294967281)
  (X:∀ args w,(callFunc B args).run Tryz.prog w=.ok (.enter B args) w)
  (I:∀ x p,(x,p)∈l->∀ W,Calls Tryz.prog B #[first,.agg #[.slice p.la p.ll p.lc,.int .i64 x.sk.kind,.int .i64 x.sk.level,.slice p.ss.ea p.ss.el p.ss.ec,.int .i64 x.sk.hb,.string x.sk.hr,.int .i64 x.sk.cr,.int .i64 x.sk.cc,.slice p.ss.ca p.ss.cl p.ss.cc,.int .i64 x.sk.gf,.slice p.ss.ga p.ss.gl p.ss.gc,.int .u64 x.seen]] W fun e M=>e=.returned (.bool false)/\Bw W M) :
  CR 144 #[.slice a l.length cap,.func (.func B) #[first] #[]] w (.int .i64 (-1)):=by
 have L:=Lib.hid H;have J:=Lib.hid I;clear I H;go_enter Tryz.func144,Tryz.ntmps144;go_wp2_with fail;go_loopw [8] (fun i wr=>∃ k:Nat,i=.int .i64 k/\k<=l.length/\Bw w wr) (fun i _=>l.length-(intOf i).toNat)
 case atStart=>exact⟨0,rfl,Nat.zero_le _,Below.refl _ _⟩
 case round =>
  obtain⟨k,rfl,Y,D⟩:=hrel;by_cases F:k<l.length
  ·obtain⟨⟨x,p⟩,G⟩:∃ x,l[k]? = some x:=⟨_,List.getElem?_eq_getElem F⟩
   obtain⟨b,off,rfl,P,A⟩:=(L.out.below D).row.1.2 k (x,p) G;have R:wr.cell? ⟨b,off+k*12,none⟩=some (.slice p.la p.ll p.lc):=A 0 (by omega);have c1:wr.cell? ⟨b,off+k*12+1,none⟩=some (.int .i64 x.sk.kind):=A 1 (by omega);have c2:wr.cell? ⟨b,off+k*12+2,none⟩=some (.int .i64 x.sk.level):=A 2 (by omega);have c3:wr.cell? ⟨b,off+k*12+3,none⟩=some (.slice p.ss.ea p.ss.el p.ss.ec):=A 3 (by omega);have c4:wr.cell? ⟨b,off+k*12+4,none⟩=some (.int .i64 x.sk.hb):=A 4 (by omega);have c5:wr.cell? ⟨b,off+k*12+5,none⟩=some (.string x.sk.hr):=A 5 (by omega);have S:wr.cell? ⟨b,off+k*12+6,none⟩=some (.int .i64 x.sk.cr):=A 6 (by omega);have T:wr.cell? ⟨b,off+k*12+7,none⟩=some (.int .i64 x.sk.cc):=A 7 (by omega);have U:wr.cell? ⟨b,off+k*12+8,none⟩=some (.slice p.ss.ca p.ss.cl p.ss.cc):=A 8 (by omega);have V:wr.cell? ⟨b,off+k*12+9,none⟩=some (.int .i64 x.sk.gf):=A 9 (by omega);have N:wr.cell? ⟨b,off+k*12+10,none⟩=some (.slice p.ss.ga p.ss.gl p.ss.gc):=A 10 (by omega);have O:wr.cell? ⟨b,off+k*12+11,none⟩=some (.int .u64 x.seen):=A 11 (by omega);have C:=J.out x p (List.mem_of_getElem? G) wr;clear A G;go_wp2_with fail;refine C.mono ?_;rintro e Z ⟨rfl,E⟩;go_wp2_with fail;go_roundw
   case rel=>exact⟨k+1,by go_num,by omega,D.trans (E.mono D.size)⟩
   case measure=>simp[intOf];omega
  ·obtain rfl:k=l.length:=by omega
   go_wp2_with fail;go_ret;exact⟨rfl,D⟩
theorem jik (a:Option Addr) (cap:Nat) (l:List (Ser × SerP)) (A:Nat) (first:Value) (w:World) (E:Tab w.heap.size w a l.length cap l) (C:l.length<4294967281)
  (D:∀ args w,(callFunc A args).run Tryz.prog w=.ok (.enter A args) w)
  (F:∀ x p,(x,p)∈l->∀ W,Calls Tryz.prog A #[first,.agg #[.slice p.la p.ll p.lc,.int .i64 x.sk.kind,.int .i64 x.sk.level,.slice p.ss.ea p.ss.el p.ss.ec,.int .i64 x.sk.hb,.string x.sk.hr,.int .i64 x.sk.cr,.int .i64 x.sk.cc,.slice p.ss.ca p.ss.cl p.ss.cc,.int .i64 x.sk.gf,.slice p.ss.ga p.ss.gl p.ss.gc,.int .u64 x.seen]] W fun e G=>e=.returned (.bool false)/\Bw W G) :
  CR 100 #[.slice a l.length cap,.func (.func A) #[first] #[]] w (.slice a l.length cap):=by
 have H:=jjJ a cap l A first w E C D F;clear F E D;go_enter Tryz.func100,Tryz.ntmps100;go_wp2_with (go_at_call 144;refine H.mono ?_;rintro e I ⟨rfl,B⟩);go_ret;exact⟨rfl,B⟩
theorem GrowS.low {b c:Nat} {w:World} {v:Value} {l:List (Ser × SerP)} (h:GrowS c (c <= ·) w v l) (hb:b<=c):GrowS b (b <= ·) w v l :=
 ⟨⟨h.own.1,h.own.2.imp id fun ⟨g,cap,A,C,D,E⟩=>⟨g,cap,A,C,Nat.le_trans hb D,E⟩⟩,h.at_,fun e F=>(h.off e F).imp fun _ B=>⟨Nat.le_trans hb B.1,B.2⟩⟩
def jej (l:List (Ser × SerP)) (w:World) (e:Ending) (w':World):Prop :=
 if jaj (l.map (·.1)) then ∃ a' c' m,∃ n:Int,e=.returned (.tuple #[.slice a' (List.length m) c',.int .i64 n,.int .i64 0])/\Tab w'.heap.size w' a' m.length c' m/\m.map (·.1)=l.map (·.1)/\GrowS w.heap.size (w.heap.size <= ·) w' (.slice a' m.length c') m/\Bw w w'
 else e=.returned (.tuple #[.slice none 0 0,.int .i64 0,.int .i64 120])/\Bw w w'
theorem jok (G B:Int) (l:List (Ser × SerP)) (a:Option Addr) (cap:Nat) (w:World) (Y:Tab w.heap.size w a l.length cap l) (c:jdl l) (hG:GW w) (hn:U64 G) (z:∀ x∈l.map (·.1),jdq G B x=false) :
  Calls Tryz.prog 63 #[.slice a l.length cap,.int .u64 G,.int .u64 B] w (jej l w):=by
 have d:=jaU l a l.length cap w Y c hG;have T:Hid (∀ e w',jej l w e w'=if jaj (l.map (·.1)) then ∃ o r m,∃ n:Int,e=.returned (.tuple #[.slice o (List.length m) r,.int .i64 n,.int .i64 0])/\Tab w'.heap.size w' o m.length r m/\m.map (·.1)=l.map (·.1)/\GrowS w.heap.size (w.heap.size <= ·) w' (.slice o m.length r) m/\Bw w w' else e=.returned (.tuple #[.slice none 0 0,.int .i64 0,.int .i64 120])/\Bw w w'):=fun _ _=>rfl
 cases hr:jaj (l.map (·.1)) with
 | false =>
  rw[hr] at T d;generalize jej l w=Q at T ⊢;clear hr z;go_enter Tryz.func63,Tryz.ntmps63;go_wp2_with (go_at_call 57;refine d.mono ?_;rintro e i ⟨rfl,J⟩);refine bodyPost_ret (v:=.tuple #[.slice none 0 0,.int .i64 0,.int .i64 120]) (by simp[results,Tryz.results63,go_sem]) rfl ?_;rw[T.out];exact⟨rfl,J⟩
 | true =>
  rw[hr] at T d;have hA:=jfA hr c Y;have s:l.length<=20:=by simp[jaj] at hr;exact hr.1
  have HF:=Lib.hid c;have HT:=Lib.hid Y;have k:=Lib.hid z;have HC:Hid (∀ W,Bw w W->Calls Tryz.prog 101 #[.slice a l.length cap] W _):=fun W hb=>jk3 l a cap W (Y.go hb) hA s
  have ab:∀ (fn:Fn) (first cap:Array Value) (w:World),(Instr.makeFunc fn first cap).run Tryz.prog w=.ok (.func fn first cap) w:=fun _ _ _ _=>rfl
  generalize jej l w=Q at T ⊢;clear hr z Y c hA;go_enter Tryz.func63,Tryz.ntmps63;go_wp2_with (go_at_call 57;refine d.mono ?_;rintro e i ⟨rfl,J⟩);obtain⟨L,u,M,X,aa⟩:=jab i #[.int .u64 G,.int .u64 B] 199;rw[u];have N:Hid (Bw w L.drew):=(J.trans (X.mono J.size)).drew;have HZ:Hid (∀ C,Below L.drew.heap.size L.drew C->C.cell? ⟨i.heap.size,0,none⟩=some (.int .u64 G)/\C.cell? ⟨i.heap.size,1,none⟩=some (.int .u64 B)):=fun C hb=>⟨cCc (known (W:=L.drew) hb (Nat.le_refl _) M) 0,cCc (known (W:=L.drew) hb (Nat.le_refl _) M) 1⟩
  obtain⟨k0,k1⟩:=cl2 M
  have HD:Hid (∀ (D:Option Addr) (c2:Nat) (m:List (Ser × SerP)) (W:World),Tab W.heap.size W D m.length c2 m->m.map (·.1)=l.map (·.1)->CR 100 #[.slice D m.length c2,.func (.func 102) #[.agg #[.int .u64 G,.int .u64 B]] #[]] W (.slice D m.length c2)):=fun D c2 m W R g =>
   jik D c2 m _ _ W R (by have:=congrArg List.length g;simp at this;omega) (enters_of Tryz.func102 (by kernel_rfl) rfl) fun x p hx V=>by
    have Z:x∈l.map (·.1):=by rw[<- g];exact List.mem_map_of_mem (f:=(·.1)) hx
    obtain⟨⟨y,q⟩,hy,S⟩:=List.mem_map.1 Z;have S:y=x:=S;subst S;have h:=jsl G B y p V (HF.out _ hy).seen hn;rw[k.out y Z] at h;exact h
  have U:Hid (∀ (D:Option Addr) (c2:Nat) (m:List (Ser × SerP)) (C:World),Tab C.heap.size C D m.length c2 m->m.map (·.1)=l.map (·.1)->GrowS L.drew.heap.size (L.drew.heap.size <= ·) C (.slice D m.length c2) m->Below L.drew.heap.size L.drew C->∀ b,Bw C b->∀ n:Int,Q (.returned (.tuple #[.slice D m.length c2,.int .i64 n,.int .i64 0])) b):=fun D c2 m C R g t A b H n=>by
   have hB:=N.out;have hz:=hB.size;rw[T.out,if_pos trivial];exact⟨D,c2,m,n,rfl,R.go H,g,(t.low hz).go H,(hB.trans (A.mono hz)).trans (H.mono (by have:=A.size;omega))⟩
  clear M X aa J hG;refine wp_region_any (by kernel_rfl) ?_;change wpAny _ _ _ _ _ _ _ (World.drew _)
  ·
   refine ta 0 ?_;refine rd [1,2] (.cons rfl (fun K hK=>?_) (.cons rfl (fun K hK=>?_) .nil))
   all_goals go_simp
   all_goals first
    |
     refine (HC.out _ N.out).mono ?_;rintro e C ⟨D,c2,m,rfl,E,F,I,-,A⟩;obtain⟨z0,z1⟩:=HZ.out C A;have P:=HD.out D c2 m C E F;have O:=U.out D c2 m C E F I A;clear E F I A;refine hK _ _ ?_;clear hK K
    | (refine hK _ _ ?_;clear hK K)
   all_goals first
    | (refine rq [2] (.cons rfl (fun K hK=>?_) .nil))
    | (refine taq 3 ?_;refine rq [1] (.cons rfl (fun K hK=>?_) .nil))
   all_goals go_simp
   all_goals first
    |
     refine (HC.out _ N.out).mono ?_;rintro e C ⟨D,c2,m,rfl,E,F,I,-,A⟩;obtain⟨z0,z1⟩:=HZ.out C A;have P:=HD.out D c2 m C E F;have O:=U.out D c2 m C E F I A;clear E F I A;refine hK _ _ ?_;clear hK K
    | (refine hK _ _ ?_;clear hK K)
   all_goals first
    | (refine taq 3 ?_;refine rq [4] (.cons rfl (fun K hK=>?_) .nil))
    | (refine rq [4] (.cons rfl (fun K hK=>?_) .nil))
   all_goals go_simp
   all_goals
    refine P.mono ?_;rintro e b ⟨rfl,H⟩;have j:=O b H;clear P O H;refine hK _ _ ?_;clear hK K
   all_goals (refine ta 5 ?_;refine wpAny_done (by kernel_rfl) ?_ _)
   all_goals
    go_wp2_with fail;refine bodyPost_ret (v:=.tuple #[.slice D m.length c2,.int .i64 _,.int .i64 0]) (by simp[results,Tryz.results63,go_sem];rfl) rfl ?_;exact j _
structure PR.Ok (r:PR):Prop where
 nm:r.nm.size<=12
 vl:r.vl.size<=4*r.runes
 ru:r.runes<=24
 pl:r.place<=2
 ll:r.l.length<=6
 lb:∀ x∈r.l,x.name.size<=12/\x.value.size<=96
theorem PR.new_ok:PR.new.Ok:=⟨by decide,by decide,by decide,by decide,by decide,fun x h=>by cases h⟩
theorem ji9 (c:Int):(jgn c).size<=4:=by
 unfold jgn Utf8.encode;dsimp only
 repeat' split
 all_goals simp[ByteArray.size]
theorem jpo {c:Int} (h:ja7 c=true):(jgn c).size=1:=by
 simp[ja7] at h;have A:Utf8.valid c=true:=by unfold Utf8.valid;simp;omega
 unfold jgn Utf8.encode;rw[if_pos A];dsimp only;rw[if_pos (by omega)];rfl
theorem ji3 {r r':PR} {c:Int} (h:r.Ok) (e:jaZ r c=some r'):r'.Ok:=by
 obtain⟨E,F,G,B,C,D⟩:=h;unfold jaZ at e;split at e
 ·split at e
  ·cases e
  ·rename_i A
   simp only[Bool.or_eq_true,Bool.not_eq_true',not_or,Bool.not_eq_false,beq_iff_eq] at A;injection e with e
   subst e;exact⟨by show (r.nm++jgn c).size<=12;rw[ByteArray.size_append,jpo A.1];omega,F,G,B,C,D⟩
 ·split at e
  ·cases e
  ·rename_i A
   simp only[Bool.or_eq_true,Bool.not_eq_true',not_or,Bool.not_eq_false,beq_iff_eq] at A;injection e with e
   subst e;have H:=ji9 c;exact⟨E,by show (r.vl++jgn c).size<=4*(r.runes+1);rw[ByteArray.size_append];omega,by show r.runes+1<=24;omega,B,C,D⟩
theorem jnU {r r':PR} (h:r.Ok) (e:jcS r=some r'):r'.Ok:=by
 have B:=jrO e h.ll;unfold jcS at e;split at e
 ·cases e
 ·split at e
  ·cases e
  ·injection e with e
   subst e;refine⟨Nat.zero_le _,Nat.zero_le _,Nat.zero_le _,Nat.zero_le _,B,fun x A=>?_⟩;rcases List.mem_append.1 A with A | A
   ·exact h.lb x A
   ·rw[List.mem_singleton] at A
    subst A;exact⟨h.nm,by have:=h.vl;have:=h.ru;show r.vl.size<=96;omega⟩
theorem jrR {r r':PR} {c:Int} (h:r.Ok) (e:jez r c=some r'):r'.Ok:=by
 have A:∀ p,p<=2->PR.Ok { r with place:=p }:=fun p A=>⟨h.nm,h.vl,h.ru,A,h.ll,h.lb⟩
 unfold jez at e
 repeat' split at e
 all_goals first
  | exact ji3 (A 1 (by omega)) e
  | exact ji3 h e
  | exact jnU h e
  | (cases e;done)
  | (injection e with e;subst e;exact A _ (by omega))
def jqA (b:Nat):Array MapEntry:=#[{ key:=.int .i32 61,val:=.func (.func 154) #[.pointer (some ⟨b,0,none⟩)] #[],born:=0 },{ key:=.int .i32 44,val:=.func (.func 155) #[.pointer (some ⟨b,0,none⟩)] #[],born:=1 },{ key:=.int .i32 92,val:=.func (.func 156) #[.pointer (some ⟨b,0,none⟩)] #[],born:=2 }]
structure RdL (b:Nat) (w:World) (v:Value) (r:PR):Prop where
 box:w.heap[b]? = some (.cells #[.string r.nm,.string r.vl,.int .i64 r.place,.int .i64 r.runes,v,.map (some (b+1))] 221 (0,0))
 mp:w.heap[b+1]? = some (.map (jqA b) 3)
 own:w.ownsRow (b+2) 93 2 v r.l.length (r.l.flatMap Lab.enc)
structure BK (b:Nat) (w w':World):Prop where
 below:Below b w w'
 keeps:KeepsOthers w w'
theorem BK.trans {b:Nat} {x y z:World} (h:BK b x y) (k:BK b y z):BK b x z:=⟨h.below.trans k.below,h.keeps.trans k.keeps⟩
theorem BK.refl (b:Nat) (w:World):BK b w w:=⟨Below.refl _ _,KeepsOthers.refl _⟩
theorem BK.set (b i:Nat) (w:World) (u:Value):BK b w (w.setCell ⟨b,i,none⟩ u):=⟨(Below.refl b w).setCell (p:=⟨b,i,none⟩) (Nat.le_refl _) u,KeepsOthers.setCell _ _ _⟩
def RdPostL (b:Nat) (o:Option PR) (w:World) (e:Ending) (w':World):Prop :=
 BK b w w'/\∃ v r',RdL b w' v r'/\match o with
  | some r2=>r'=r2/\e=.returned .nilIface
  | none=>∃ f,e=.returned (.iface 214 (.agg #[.string f]))
theorem RdL.lt {b:Nat} {w:World} {v:Value} {r:PR} (h:RdL b w v r):b+1<w.heap.size:=(Array.getElem?_eq_some_iff.1 h.mp).1
theorem jlE {w V:World} {A e size n:Nat} {v:Value} {xs:List Value} (h:w.ownsRow A e size v n xs) (hb:∀ k,A<=k->V.heap[k]? = w.heap[k]?):V.ownsRow A e size v n xs :=
 ⟨h.1,h.2.imp id (fun ⟨g,cap,B,D,C,E,F⟩=>⟨g,cap,B,D,C,(hb g C).trans E,F⟩)⟩
theorem RdL.set {b:Nat} {w:World} {v:Value} {r:PR} (h:RdL b w v r) {i:Nat} {u v':Value} {r':PR} (B:r'.l=r.l) (C:v'=v)
  (A:(#[.string r.nm,.string r.vl,.int .i64 r.place,.int .i64 r.runes,v,.map (some (b+1))]:Array Value).setIfInBounds i u=#[.string r'.nm,.string r'.vl,.int .i64 r'.place,.int .i64 r'.runes,v',.map (some (b+1))]) :
  RdL b (w.setCell ⟨b,i,none⟩ u) v' r'/\BK b w (w.setCell ⟨b,i,none⟩ u):=by
 subst C;refine⟨⟨?_,(jaa (p:=⟨b,i,none⟩) (by show b≠b+1;omega) u).trans h.mp,?_⟩,BK.set b i w u⟩
 ·rw[<- A];exact hSk h.box u
 ·rw[B];exact jlE h.own fun k D=>jaa (p:=⟨b,i,none⟩) (by show b≠k;omega) u
theorem RdL.drew {b:Nat} {w:World} {v:Value} {r:PR} (h:RdL b w v r):RdL b w.drew v r:=⟨h.box,h.mp,h.own⟩
theorem joP (f:ByteArray) (w:World):CR 69 #[.iface 214 (.agg #[.string f])] w (.int .i64 40):=by
 have E:∀ w,(Instr.typeAssert (.iface 214 (.agg #[.string f])) 119 214 true).run Tryz.prog w=.ok (.tuple #[.agg #[.string f],.bool true]) w:=fun w=>by kernel_rfl
 obtain⟨F,D,B,A,C⟩:=jab w #[.string f] 214;clear B C;go_enter Tryz.func69,Tryz.ntmps69;go_wp2_with fail;go_ret;exact⟨rfl,A⟩
theorem RdPostL.no {b:Nat} {w w':World} {v:Value} {r:PR} {o:Option PR} {f:ByteArray} (h:RdL b w' v r) (A:BK b w w') (B:o=none):RdPostL b o w (.returned (.iface 214 (.agg #[.string f]))) w':=by
 subst B;exact⟨A,v,r,h,f,rfl⟩
theorem RdPostL.yes {b:Nat} {w w':World} {v:Value} {r:PR} {o:Option PR} (h:RdL b w' v r) (A:BK b w w') (B:o=some r):RdPostL b o w (.returned .nilIface) w':=by
 subst B;exact⟨A,v,r,h,rfl,rfl⟩
theorem jgl (b:Nat) (c:Int) (r:PR) (v:Value) (w:World) (h:RdL b w v r) (N:r.Ok) :
  Calls Tryz.prog 157 #[.pointer (some ⟨b,0,none⟩),.int .i32 c] w (RdPostL b (jaZ r c) w):=by
 have V:w.cell? ⟨b,0,none⟩=some (.string r.nm):=(cCc h.box 0);have c1:w.cell? ⟨b,1,none⟩=some (.string r.vl):=(cCc h.box 1);have c2:w.cell? ⟨b,2,none⟩=some (.int .i64 r.place):=(cCc h.box 2);have c3:w.cell? ⟨b,3,none⟩=some (.int .i64 r.runes):=(cCc h.box 3);have X:w.frozen? ⟨b,0,none⟩=false:=(cFz h.box 0);have Y:w.frozen? ⟨b,1,none⟩=false:=(cFz h.box 1);have Z:w.frozen? ⟨b,2,none⟩=false:=(cFz h.box 2);have a:w.frozen? ⟨b,3,none⟩=false:=(cFz h.box 3);have H:=Lib.hid h;have d:=N.nm;have g:=N.vl;have hr:=N.ru;have U:(Utf8.encode c).size<=4:=ji9 c;have P:¬ 9223372036854775807<r.nm.size+(Utf8.encode c).size:=by omega
 have M:¬ 9223372036854775807<r.vl.size+(Utf8.encode c).size:=by omega
 obtain⟨Q,L⟩:∃ Q,RdPostL b (jaZ r c) w=Q:=⟨_,rfl⟩;have B:Hid (jaZ r c=none->∀ f,Q (.returned (.iface 214 (.agg #[.string f]))) w):=fun h f=>L▸RdPostL.no H.out (BK.refl _ _) h
 have A:Hid (∀ r' v' w',RdL b w' v' r'->BK b w w'->jaZ r c=some r'->Q (.returned .nilIface) w'):=fun r' v' w' R S T=>L▸RdPostL.yes R S T
 rw[L];clear h L;by_cases C:r.place=0
 ·have O:((r.place:Int)==0)=true:=by simp[C]
  cases J:ja7 c with
  | true =>
   by_cases E:r.nm.size=12
   ·have I:((r.nm.size:Int)==12)=true:=by simp[E]
    have D:=Lib.hid (B.out (by unfold jaZ;rw[if_pos C,E];simp));clear E C B A;go_enter Tryz.func157,Tryz.ntmps157;go_wp2_with (go_at_call 167;refine (jcx _ _).mono ?_;rintro e w' ⟨rfl,rfl⟩);exact D.out _
   ·have I:((r.nm.size:Int)==12)=false:=by simp;omega
    have F:=H.out.set (i:=0) (u:=.string (r.nm++jgn c)) (v':=v) (r':={ r with nm:=r.nm++jgn c }) rfl rfl rfl;have D:=Lib.hid (A.out _ _ _ F.1 F.2 (by unfold jaZ;rw[if_pos C,J,if_neg (by simpa using E)]));clear E C B A F;go_enter Tryz.func157,Tryz.ntmps157;go_wp2_with (go_at_call 167;refine (jcx _ _).mono ?_;rintro e w' ⟨rfl,rfl⟩);exact D.out
  | false =>
   have D:=Lib.hid (B.out (by unfold jaZ;rw[if_pos C,J];rfl));clear C B A;go_enter Tryz.func157,Tryz.ntmps157;go_wp2_with (go_at_call 167;refine (jcx _ _).mono ?_;rintro e w' ⟨rfl,rfl⟩);exact D.out _
 ·have O:((r.place:Int)==0)=false:=by simp;omega
  cases J:jbj c with
  | true =>
   by_cases E:r.runes=24
   ·have I:((r.runes:Int)==24)=true:=by simp[E]
    have D:=Lib.hid (B.out (by unfold jaZ;rw[if_neg C,E];simp));clear E C B A;go_enter Tryz.func157,Tryz.ntmps157;go_wp2_with (go_at_call 168;refine (jca _ _).mono ?_;rintro e w' ⟨rfl,rfl⟩);exact D.out _
   ·have I:((r.runes:Int)==24)=false:=by simp;omega
    have F:=H.out.set (i:=1) (u:=.string (r.vl++jgn c)) (v':=v) (r':={ r with vl:=r.vl++jgn c }) rfl rfl rfl;have G:=F.1.set (i:=3) (u:=.int .i64 ((r.runes:Int)+1)) (v':=v) (r':={ r with vl:=r.vl++jgn c,runes:=r.runes+1 }) rfl rfl rfl;have D:=Lib.hid (A.out _ _ _ G.1 (F.2.trans G.2) (by unfold jaZ;rw[if_neg C,J,if_neg (by simpa using E)]));clear E C B A F G;go_enter Tryz.func157,Tryz.ntmps157;go_wp2_with (go_at_call 168;refine (jca _ _).mono ?_;rintro e w' ⟨rfl,rfl⟩);exact D.out
  | false =>
   have D:=Lib.hid (B.out (by unfold jaZ;rw[if_neg C,J];rfl));clear C B A;go_enter Tryz.func157,Tryz.ntmps157;go_wp2_with (go_at_call 168;refine (jca _ _).mono ?_;rintro e w' ⟨rfl,rfl⟩);exact D.out _
section
theorem RdL.push {b:Nat} {w:World} {v:Value} {r:PR} (h:RdL b w v r) (U:r.l.length<=6) :
  ∃ g c A V,(Builtin.append_ #[88,88] 88 #[v,.slice (some ⟨w.heap.size,0,none⟩) 1 1]).run Tryz.prog (w.alloc (.cells #[.string r.nm,.string r.vl] 93)).drew=.ok (.slice (some ⟨g,0,none⟩) (r.l.length+1) c) A /\
   A.setCell ⟨b,4,none⟩ (.slice (some ⟨g,0,none⟩) (r.l.length+1) c)=V/\A.cell? ⟨b,4,none⟩=some v/\A.frozen? ⟨b,4,none⟩=false/\RdL b V (.slice (some ⟨g,0,none⟩) (r.l.length+1) c) { r with l:=r.l++[⟨r.nm,r.vl⟩] }/\BK b w V:=by
 have P:=h.lt;obtain⟨g,c,A,H,F,N,R,D,I⟩:=jap Tryz.prog 88 jkr jjL rfl (by decide) (W:=w.drew) (w0:=w) (B:=b+2) h.own ((Below.refl _ w).drew) (Nat.le_refl _) (show b+2<=w.heap.size by omega) (Lab.enc ⟨r.nm,r.vl⟩) rfl (jj7 _) (by omega) (by decide)
 have G:KeepsOthers w A:=⟨Nat.le_of_lt R,fun k o E Q=>by
  refine (I k (Array.getElem?_eq_some_iff.1 E).1 (fun e=>?_)).trans E;rcases h.own.2 with⟨rfl,_⟩ | ⟨T,S,L,rfl,_,O,_⟩
  ·cases e
  ·cases e
   rw[O] at E
   cases E
   cases Q⟩
 have C:A.heap[b]? = _:=(D b (by omega)).trans h.box;have J:A.heap[b+1]? = _:=(D (b+1) (by omega)).trans h.mp;refine⟨g,c,A,_,H,rfl,cCc C 4,cFz C 4,⟨hSk C _,(jaa (p:=⟨b,4,none⟩) (by show b≠b+1;omega) _).trans J,?_⟩,(BK.trans ⟨N.mono (show b<=b+2 by omega),G⟩ (BK.set b 4 A _))⟩
 have M:A.ownsRow (b+2) 93 2 (.slice (some ⟨g,0,none⟩) (r.l.length+1) c) (r.l++[(⟨r.nm,r.vl⟩:Lab)]).length ((r.l++[(⟨r.nm,r.vl⟩:Lab)]).flatMap Lab.enc):=by
  rw[List.length_append,List.flatMap_append];simpa using F
 exact jlE M fun k E=>jaa (p:=⟨b,4,none⟩) (by show b≠k;omega) _
attribute [-go_sem] Builtin.append_
theorem jnx (b:Nat) (r:PR) (v:Value) (w:World) (h:RdL b w v r) (j:r.Ok) :
  Calls Tryz.prog 112 #[.pointer (some ⟨b,0,none⟩)] w (RdPostL b (jcS r) w):=by
 obtain⟨U,X,rfl⟩:=jbD h.own;have d:=h.lt;have m:w.cell? ⟨b,0,none⟩=some (.string r.nm):=(cCc h.box 0);have c1:w.cell? ⟨b,1,none⟩=some (.string r.vl):=(cCc h.box 1);have c2:w.cell? ⟨b,2,none⟩=some (.int .i64 r.place):=(cCc h.box 2);have c3:w.cell? ⟨b,3,none⟩=some (.int .i64 r.runes):=(cCc h.box 3);have c4:w.cell? ⟨b,4,none⟩=some (.slice U r.l.length X):=(cCc h.box 4);have y:w.frozen? ⟨b,0,none⟩=false:=(cFz h.box 0);have z:w.frozen? ⟨b,1,none⟩=false:=(cFz h.box 1);have f2:w.frozen? ⟨b,2,none⟩=false:=(cFz h.box 2);have f3:w.frozen? ⟨b,3,none⟩=false:=(cFz h.box 3);have f4:w.frozen? ⟨b,4,none⟩=false:=(cFz h.box 4);obtain⟨g,c,k,V,N,T,t,x,D,M⟩:=h.push j.ll;have E:=D.set (i:=0) (u:=.string ⟨#[]⟩) (v':=_) (r':=⟨⟨#[]⟩,r.vl,r.place,r.runes,r.l++[⟨r.nm,r.vl⟩]⟩) rfl rfl rfl;have F:=E.1.set (i:=1) (u:=.string ⟨#[]⟩) (v':=_) (r':=⟨⟨#[]⟩,⟨#[]⟩,r.place,r.runes,r.l++[⟨r.nm,r.vl⟩]⟩) rfl rfl rfl;have G:=F.1.set (i:=2) (u:=.int .i64 0) (v':=_) (r':=⟨⟨#[]⟩,⟨#[]⟩,0,r.runes,r.l++[⟨r.nm,r.vl⟩]⟩) rfl rfl rfl;have H:=G.1.set (i:=3) (u:=.int .i64 0) (v':=_) (r':=⟨⟨#[]⟩,⟨#[]⟩,0,0,r.l++[⟨r.nm,r.vl⟩]⟩) rfl rfl rfl;have L:=((M.trans E.2).trans (F.2.trans G.2)).trans H.2;have C:=Lib.hid (And.intro H.1 L);have n:V.cell? ⟨b,0,none⟩=some (.string r.nm):=(cCc D.box 0);have o:V.cell? ⟨b,1,none⟩=some (.string r.vl):=(cCc D.box 1);have q:V.cell? ⟨b,2,none⟩=some (.int .i64 r.place):=(cCc D.box 2);have s:V.cell? ⟨b,3,none⟩=some (.int .i64 r.runes):=(cCc D.box 3);have t0:V.frozen? ⟨b,0,none⟩=false:=(cFz D.box 0)
 have t1:V.frozen? ⟨b,1,none⟩=false:=(cFz D.box 1);have t2:V.frozen? ⟨b,2,none⟩=false:=(cFz D.box 2);have t3:V.frozen? ⟨b,3,none⟩=false:=(cFz D.box 3);obtain⟨Q,P⟩:∃ Q,RdPostL b (jcS r) w=Q:=⟨_,rfl⟩;have B:Hid (jcS r=none->∀ f,Q (.returned (.iface 214 (.agg #[.string f]))) w):=fun e f=>P▸RdPostL.no h (BK.refl _ _) e
 have A:Hid (∀ r' v' w',RdL b w' v' r'->BK b w w'->jcS r=some r'->Q (.returned .nilIface) w'):=fun r' v' w' Y Z a=>P▸RdPostL.yes Y Z a
 rw[P];clear h P D E F G H M L;by_cases I:r.place=1
 ·have R:((r.place:Int) != 1)=false:=by simp[I]
  by_cases O:r.l.length=6
  ·have S:((r.l.length:Int)==6)=true:=by simp[O]
   have J:=Lib.hid (B.out (by unfold jcS;rw[if_neg (by simp[I]),if_pos O]));clear O I B A N T C;go_enter Tryz.func112,Tryz.ntmps112;go_wp2_with fail;exact J.out _
  ·have S:((r.l.length:Int)==6)=false:=by simp;omega
   have J:=Lib.hid (A.out _ _ _ C.out.1 C.out.2 (by unfold jcS;rw[if_neg (by simp[I]),if_neg O]));have k4:(w.alloc (.cells #[.string r.nm,.string r.vl] 93)).cell? ⟨b,4,none⟩=some (.slice U r.l.length X):=(((Below.refl _ w).alloc (Nat.le_refl _) _).cell (p:=⟨b,4,none⟩) (show b<w.heap.size by omega)).trans c4;clear O I B A C;go_enter Tryz.func112,Tryz.ntmps112;go_wp2_with fail;go_region;go_wp2_with fail;exact J.out
 ·have R:((r.place:Int) != 1)=true:=by simp;omega
  have J:=Lib.hid (B.out (by unfold jcS;rw[if_pos I]));clear I B A N T C;go_enter Tryz.func112,Tryz.ntmps112;go_wp2_with fail;exact J.out _
theorem joG (b:Nat) (c:Int) (r:PR) (v:Value) (w:World) (h:RdL b w v r) (G:r.Ok) :
  Calls Tryz.prog 155 #[.pointer (some ⟨b,0,none⟩),.int .i32 c] w (RdPostL b (jcS r) w):=by
 have C:=jnx b r v w h G;obtain⟨Q,B⟩:∃ Q,RdPostL b (jcS r) w=Q:=⟨_,rfl⟩
 have F:Hid (∀ e w',Q e w'->∃ z,e=.returned z):=fun e w' h=>by
  rw[<- B] at h;obtain⟨-,v,r',-,A⟩:=h
  cases D:jcS r with
  | none=>rw[D] at A;exact⟨_,A.choose_spec⟩
  | some r2=>rw[D] at A;exact⟨_,A.2⟩
 rw[B] at C ⊢;clear h B;go_enter Tryz.func155,Tryz.ntmps155;go_wp2_with (go_at_call 112;refine C.mono ?_;rintro e w' E;obtain⟨z,rfl⟩:=F.out _ _ E);exact E
theorem jpk (b:Nat) (c:Int) (r:PR) (v:Value) (w:World) (h:RdL b w v r) :
  Calls Tryz.prog 156 #[.pointer (some ⟨b,0,none⟩),.int .i32 c] w (RdPostL b (if r.place=0 then none else some { r with place:=2 }) w):=by
 have E:w.cell? ⟨b,0,none⟩=some (.string r.nm):=(cCc h.box 0);have c1:w.cell? ⟨b,1,none⟩=some (.string r.vl):=(cCc h.box 1);have c2:w.cell? ⟨b,2,none⟩=some (.int .i64 r.place):=(cCc h.box 2);have c3:w.cell? ⟨b,3,none⟩=some (.int .i64 r.runes):=(cCc h.box 3);have F:w.frozen? ⟨b,0,none⟩=false:=(cFz h.box 0);have G:w.frozen? ⟨b,1,none⟩=false:=(cFz h.box 1);have H:w.frozen? ⟨b,2,none⟩=false:=(cFz h.box 2);have I:w.frozen? ⟨b,3,none⟩=false:=(cFz h.box 3);by_cases B:r.place=0
 ·have D:((r.place:Int)==0)=true:=by simp[B]
  rw[if_pos B];have A:Hid (∀ f,RdPostL b none w (.returned (.iface 214 (.agg #[.string f]))) w):=fun f=>RdPostL.no h (BK.refl _ _) rfl
  generalize RdPostL b none w=Q at A ⊢;clear h B;go_enter Tryz.func156,Tryz.ntmps156;go_wp2_with fail;exact A.out _
 ·have D:((r.place:Int)==0)=false:=by simp;omega
  rw[if_neg B];have C:=h.set (i:=2) (u:=.int .i64 2) (v':=v) (r':={ r with place:=2 }) rfl rfl rfl;have A:Hid (RdPostL b (some { r with place:=2 }) w (.returned .nilIface) _):=RdPostL.yes C.1 C.2 rfl;generalize RdPostL b (some { r with place:=2 }) w=Q at A ⊢;clear h B C;go_enter Tryz.func156,Tryz.ntmps156;go_wp2_with fail;exact A.out
def juz (r:PR):Option PR:=if r.place=1 then jaZ r 61 else if r.nm.size=0 then none else some { r with place:=1 }
theorem RdPostL.ret {b:Nat} {o:Option PR} {w:World} {e:Ending} {w':World} (h:RdPostL b o w e w'):∃ z,e=.returned z:=by
 obtain⟨-,v,r',-,A⟩:=h
 cases o with
 | none=>exact⟨_,A.choose_spec⟩
 | some r2=>exact⟨_,A.2⟩
theorem jmt (b:Nat) (r:PR) (v:Value) (w:World) (h:RdL b w v r) (J:r.Ok) :
  Calls Tryz.prog 154 #[.pointer (some ⟨b,0,none⟩),.int .i32 61] w (RdPostL b (juz r) w):=by
 have N:w.cell? ⟨b,0,none⟩=some (.string r.nm):=(cCc h.box 0);have c1:w.cell? ⟨b,1,none⟩=some (.string r.vl):=(cCc h.box 1);have c2:w.cell? ⟨b,2,none⟩=some (.int .i64 r.place):=(cCc h.box 2);have c3:w.cell? ⟨b,3,none⟩=some (.int .i64 r.runes):=(cCc h.box 3);have O:w.frozen? ⟨b,0,none⟩=false:=(cFz h.box 0);have P:w.frozen? ⟨b,1,none⟩=false:=(cFz h.box 1);have R:w.frozen? ⟨b,2,none⟩=false:=(cFz h.box 2);have S:w.frozen? ⟨b,3,none⟩=false:=(cFz h.box 3);have A:=jcz r.nm;by_cases B:r.place=1
 ·have G:((r.place:Int)==1)=true:=by simp[B]
  have I:=jgl b 61 r v w h J;rw[show juz r=jaZ r 61 by unfold juz;rw[if_pos B]];have H:=Lib.hid (fun e w' (h:RdPostL b (jaZ r 61) w e w')=>h.ret);generalize RdPostL b (jaZ r 61) w=Q at I H ⊢;clear h B J;go_enter Tryz.func154,Tryz.ntmps154;go_wp2_with (go_at_call 157;refine I.mono ?_;rintro e w' L;obtain⟨z,rfl⟩:=H.out _ _ L);exact L
 ·have G:((r.place:Int)==1)=false:=by simp;omega
  by_cases C:r.nm.size=0
  ·have E:r.nm.toList.isEmpty=true:=by rw[A];simp[C]
   have M:r.nm.toList=[]:=by simpa using E
   rw[show juz r=none by unfold juz;rw[if_neg B,if_pos C]];have D:Hid (∀ f,RdPostL b none w (.returned (.iface 214 (.agg #[.string f]))) w):=fun f=>RdPostL.no h (BK.refl _ _) rfl
   generalize RdPostL b none w=Q at D ⊢;clear h B A C;go_enter Tryz.func154,Tryz.ntmps154;go_wp2_with fail;exact D.out _
  ·have E:r.nm.toList.isEmpty=false:=by rw[A];simp[C]
   have M:¬ r.nm.toList=[]:=by simpa using E
   rw[show juz r=some { r with place:=1 } by unfold juz;rw[if_neg B,if_neg C]];have F:=h.set (i:=2) (u:=.int .i64 1) (v':=v) (r':={ r with place:=1 }) rfl rfl rfl;have D:Hid (RdPostL b (some { r with place:=1 }) w (.returned .nilIface) _):=RdPostL.yes F.1 F.2 rfl;generalize RdPostL b (some { r with place:=1 }) w=Q at D ⊢;clear h B F A C;go_enter Tryz.func154,Tryz.ntmps154;go_wp2_with fail;exact D.out
end
theorem jd6:Tryz.prog.underlying 219=some (.map 21 217):=by kernel_rfl
theorem jwV (w:World):(zeroValue 217).run Tryz.prog w=.ok .nilFunc w:=by kernel_rfl
theorem jrQ (r:PR) (c:Int) (A:¬ r.place=2):jez r c=if c=61 then juz r else if c=44 then jcS r else if c=92 then (if r.place=0 then none else some { r with place:=2 }) else jaZ r c:=by
 unfold jez;rw[if_neg A];by_cases h:c=61
 ·subst h;rfl
 ·rw[if_neg h,if_neg h]
theorem jsm (b:Nat) (c:Int) (r:PR) (v:Value) (w:World) (h:RdL b w v r) (C:r.Ok) :
  Calls Tryz.prog 111 #[.pointer (some ⟨b,0,none⟩),.int .i32 c] w (RdPostL b (jez r c) w):=by
 obtain⟨R,c1,c2,c3,c4,c5⟩:=cl6 h.box;obtain⟨S,T,U,V⟩:=cz4 h.box;have F:=Lib.hid (fun (o:Option PR) w0 e w' (h:RdPostL b o w0 e w')=>h.ret);by_cases D:r.place=2
 ·have L:((r.place:Int)==2)=true:=by simp[D]
  have J:=h.set (i:=2) (u:=.int .i64 1) (v':=v) (r':={ r with place:=1 }) rfl rfl rfl;have B:=jgl b c { r with place:=1 } v _ J.1 ⟨C.nm,C.vl,C.ru,(by show 1<=2;omega),C.ll,C.lb⟩;rw[show jez r c=jaZ { r with place:=1 } c by unfold jez;rw[if_pos D]];have Q:=Lib.hid J.2;clear h D C J;generalize jaZ { r with place:=1 } c=o at B ⊢;go_enter Tryz.func111,Tryz.ntmps111;go_wp2_with (go_at_call 157;refine B.mono ?_;rintro e w' A;obtain⟨z,rfl⟩:=F.out _ _ _ _ A);go_ret;exact⟨Q.out.trans A.1,A.2⟩
 ·have L:((r.place:Int)==2)=false:=by simp;omega
  rw[jrQ r c D];by_cases G:c=61
  ·subst G
   have E:=(jeW (P:=Tryz.prog) (i:=0) jd6 Tryz.underlying21 (n:=61) h.mp rfl).1;have B:=jmt b r v w h C;rw[if_pos rfl];clear h D C;generalize juz r=o at B ⊢;go_enter Tryz.func111,Tryz.ntmps111;go_wp2_with (go_at_call 154;refine B.mono ?_;rintro e w' A;obtain⟨z,rfl⟩:=F.out _ _ _ _ A);go_ret;exact A
  ·rw[if_neg G]
   by_cases H:c=44
   ·subst H
    have E:=(jeW (P:=Tryz.prog) (i:=1) jd6 Tryz.underlying21 (n:=44) h.mp rfl).1;have B:=joG b 44 r v w h C;rw[if_pos rfl];clear h D C;generalize jcS r=o at B ⊢;go_enter Tryz.func111,Tryz.ntmps111;go_wp2_with (go_at_call 155;refine B.mono ?_;rintro e w' A;obtain⟨z,rfl⟩:=F.out _ _ _ _ A);go_ret;exact A
   ·rw[if_neg H]
    by_cases I:c=92
    ·subst I
     have E:=(jeW (P:=Tryz.prog) (i:=2) jd6 Tryz.underlying21 (n:=92) h.mp rfl).1;have B:=jpk b 92 r v w h;rw[if_pos rfl];clear h D C;generalize (if r.place=0 then none else some { r with place:=2 })=o at B ⊢;go_enter Tryz.func111,Tryz.ntmps111;go_wp2_with (go_at_call 156;refine B.mono ?_;rintro e w' A;obtain⟨z,rfl⟩:=F.out _ _ _ _ A);go_ret;exact A
    ·have M:(c==61)=false:=by simp[G]
     have N:(c==44)=false:=by simp[H]
     have O:(c==92)=false:=by simp[I]
     have E:=jfQ (P:=Tryz.prog) (n:=c) jd6 Tryz.underlying21 h.mp (jwV w) (by simp[jqA,Instr.findNow,Instr.sameNow,M,N,O]);have B:=jgl b c r v w h C;rw[if_neg I];clear h D C G H I M N O;generalize jaZ r c=o at B ⊢;go_enter Tryz.func111,Tryz.ntmps111;go_wp2_with (go_at_call 157;refine B.mono ?_;rintro e w' A;obtain⟨z,rfl⟩:=F.out _ _ _ _ A);go_ret;exact A
theorem jj4 (w:World):Calls Tryz.prog 110 #[] w fun e w'=>e=.returned (.pointer (some ⟨w.heap.size,0,none⟩))/\RdL w.heap.size w' (.slice none 0 0) .new/\Bw w w':=by
 have O:∀ (I:Fn) (first cap:Array Value) (w:World),(Instr.makeFunc I first cap).run Tryz.prog w=.ok (.func I first cap) w:=fun _ _ _ _=>rfl
 have Q:=@run_makeMap Tryz.prog;obtain⟨G,N,E,B,F⟩:=jab w #[.string ⟨#[]⟩,.string ⟨#[]⟩,.int .i64 0,.int .i64 0,.slice none 0 0,.map none] 221;have R:=jb0 (P:=Tryz.prog) G (clock:=0) (es:=#[]) (n:=61) (.func (.func 154) #[.pointer (some ⟨w.heap.size,0,none⟩)] #[]) jd6 Tryz.underlying21 rfl;have S:=jb0 (P:=Tryz.prog) G (clock:=1) (es:=#[{ key:=.int .i32 61,val:=.func (.func 154) #[.pointer (some ⟨w.heap.size,0,none⟩)] #[],born:=0 }]) (n:=44) (.func (.func 155) #[.pointer (some ⟨w.heap.size,0,none⟩)] #[]) jd6 Tryz.underlying21 rfl;have T:=jb0 (P:=Tryz.prog) G (clock:=2) (es:=#[{ key:=.int .i32 61,val:=.func (.func 154) #[.pointer (some ⟨w.heap.size,0,none⟩)] #[],born:=0 },{ key:=.int .i32 44,val:=.func (.func 155) #[.pointer (some ⟨w.heap.size,0,none⟩)] #[],born:=1 }]) (n:=92) (.func (.func 156) #[.pointer (some ⟨w.heap.size,0,none⟩)] #[]) jd6 Tryz.underlying21 rfl;simp only[List.push_toArray,List.nil_append,List.cons_append,Nat.zero_add,Nat.reduceAdd,F] at R S T;obtain⟨M,H⟩:∃ M,G.alloc (.map (jqA w.heap.size) 3)=M:=⟨_,rfl⟩;have D:M.heap[w.heap.size+1]? = some (.map (jqA w.heap.size) 3):=by rw[<- H,<- F];exact World.alloc_heap_new _ _
 have A:M.heap[w.heap.size]? = some (.cells #[.string ⟨#[]⟩,.string ⟨#[]⟩,.int .i64 0,.int .i64 0,.slice none 0 0,.map none] 221 (0,0)):=by rw[<- H];exact (Below.heap_alloc _ _ _ (by omega)).trans E
 have C:Bw w M:=by rw[<- H];exact B.alloc (by omega) _
 have c5:M.cell? ⟨w.heap.size,5,none⟩=some (.map none):=cCc A 5;have U:M.frozen? ⟨w.heap.size,5,none⟩=false:=cFz A 5
 have L:Hid (RdL w.heap.size (M.setCell ⟨w.heap.size,5,none⟩ (.map (some (w.heap.size+1)))) (.slice none 0 0) .new) :=
  ⟨hSk A _,(jaa (p:=⟨w.heap.size,5,none⟩) (by show w.heap.size≠w.heap.size+1;omega) _).trans D,World.ownsRow_nil _ _ _ _⟩
 have J:=Lib.hid (C.setCell (p:=⟨w.heap.size,5,none⟩) (Nat.le_refl _) (.map (some (w.heap.size+1))));unfold jqA at H;clear E B D A C;go_enter Tryz.func110,Tryz.ntmps110;go_wp2_with fail;go_ret;exact⟨rfl,L.out,J.out⟩
theorem RdL.iter {b k pos:Nat} {w w':World} {v:Value} {r:PR} {s:ByteArray} (h:RdL b w v r) (C:w.heap[k]? = some (.stringIter s pos)) (D:∀ j,j≠k->w'.heap[j]? = w.heap[j]?):RdL b w' v r:=by
 refine⟨(D _ (fun e=>?_)).trans h.box,(D _ (fun e=>?_)).trans h.mp,h.own.1,h.own.2.imp id fun ⟨g,cap,A,E,F,B,G⟩=>⟨g,cap,A,E,F,(D _ (fun e=>?_)).trans B,G⟩⟩
 ·subst e;have:=h.box;rw[C] at this;cases this
 ·subst e;have:=h.mp;rw[C] at this;cases this
 ·subst e;rw[C] at B;cases B
def jcZ (s:ByteArray) (w:World) (e:Ending) (w':World):Prop :=
 Bw w w'/\match jgI s with
  | some l=>∃ a c,e=.returned (.tuple #[.slice a l.length c,.nilIface])/\w'.ownsRow w.heap.size 93 2 (.slice a l.length c) l.length (l.flatMap Lab.enc)/\(∀ x∈l,x.name.size<=12/\x.value.size<=96)/\l.length<=6
  | none=>∃ v f,e=.returned (.tuple #[v,.iface 214 (.agg #[.string f])])
theorem juy {w:World} {b c e size n:Nat} {v:Value} {xs:List Value} (h:w.ownsRow c e size v n xs) (hb:b<=c):w.ownsRow b e size v n xs :=
 ⟨h.1,h.2.imp id fun ⟨g,cap,A,B,C,D⟩=>⟨g,cap,A,B,Nat.le_trans hb C,D⟩⟩
theorem jrd (s:ByteArray) (w:World) (hs:s.size<4294967281) (hG:GW w):Calls Tryz.prog 68 #[.string s] w (jcZ s w):=by
 have t:=jfx s w (by unfold maxLen;omega) hG;have D:jgI s=if jcg s then ((jhS .new (rl s 0)).bind jcS).map (·.l) else none:=rfl
 cases E:jcg s with
 | false =>
  rw[E,if_neg (by decide)] at D;rw[E] at t;have V:Hid (∀ v f w',Bw w w'->jcZ s w (.returned (.tuple #[v,.iface 214 (.agg #[.string f])])) w'):=fun v f w' hb=>⟨hb,by rw[D];exact⟨v,f,rfl⟩⟩
  generalize jcZ s w=Q at V ⊢;clear D E;go_enter Tryz.func68,Tryz.ntmps68;go_wp2_with fail;go_step3;go_wp2_with (go_at_call 109;refine t.mono ?_;rintro e w1 ⟨rfl,G⟩);exact V.out _ _ _ G
 | true =>
  rw[E,if_pos rfl] at D;rw[E] at t
  have L:Hid (∀ e w',jcZ s w e w'=(Bw w w'/\match ((jhS .new (rl s 0)).bind jcS).map (·.l) with
   | some l=>∃ a c,e=.returned (.tuple #[.slice a l.length c,.nilIface])/\w'.ownsRow w.heap.size 93 2 (.slice a l.length c) l.length (l.flatMap Lab.enc)/\(∀ x∈l,x.name.size<=12/\x.value.size<=96)/\l.length<=6
   | none=>∃ v f,e=.returned (.tuple #[v,.iface 214 (.agg #[.string f])]))):=fun e w'=>by unfold jcZ;rw[D]
  generalize jcZ s w=Q at L ⊢;clear D E;have HS:Hid (s.size<4294967281):=hs;go_enter Tryz.func68,Tryz.ntmps68;go_wp2_with fail;go_step3
  go_wp2_with (first
   | (go_at_call 109;refine t.mono ?_;rintro e w1 ⟨rfl,G⟩)
   | (go_at_call 110;refine (jj4 w1).mono ?_;rintro e S ⟨rfl,F,m⟩))
  apply wp_label;have I:=F.lt;obtain⟨b,hb⟩:∃ b,w1.heap.size=b:=⟨_,rfl⟩;have R:w.heap.size<=b:=by rw[<- hb];exact G.size
  have C:Bw w S:=G.trans (m.mono G.size);rw[hb] at F I ⊢;have H:=World.iter_heap S s 0;have aa:Bw w (S.iter s 0):=C.alloc C.size _
  have ab:RdL b (S.iter s 0) (.slice none 0 0) .new:=by
   have O:∀ j,j<S.heap.size->(S.iter s 0).heap[j]? = S.heap[j]? := fun j hj=>Below.heap_alloc _ _ _ hj
   exact⟨(O _ (by omega)).trans F.box,(O _ I).trans F.mp,World.ownsRow_nil _ _ _ _⟩
  obtain⟨k,hk⟩:∃ k,S.heap.size=k:=⟨_,rfl⟩;have ad:k<(S.iter s 0).heap.size:=(Array.getElem?_eq_some_iff.1 (hk▸H)).1;clear hb m C F;rw[hk] at H I;go_wp2_with fail;clear hk;go_loopw [7,9] (fun e _ wr=>∃ (pos:Nat) (r:PR) (v:Value),e=.nilIface/\wr.heap[k]? = some (.stringIter s pos)/\Bw w wr/\RdL b wr v r/\r.Ok/\Hid (jhS .new (rl s 0)=jhS r (rl s pos))) (fun _ _ wr=>s.size-wr.iterPos k)
  case atStart=>exact⟨0,.new,_,rfl,H,aa,ab,PR.new_ok,rfl⟩
  case round =>
   obtain⟨pos,r,v,rfl,N,z,Y,M,HP⟩:=hrel;have Z:=jaw N;by_cases q:pos<s.size
   ·obtain⟨W1,ac,n,C,ae,p⟩:=jd0 (P:=Tryz.prog) N z (show w.heap.size<=k by omega) q
    have T:=Y.iter N p;have J:=jgm s pos q;have hd:=jdU s pos q;have hS:=jsm b ((Utf8.decode s pos).1:Int) r v W1 T M;have X:Hid (jhS .new (rl s 0)=(jez r ((Utf8.decode s pos).1:Int)).bind fun r=>jhS r (rl s (pos+(Utf8.decode s pos).2))):=by rw[Hid,HP.out,J];rfl
    have HO:=Lib.hid (fun r' (h:jez r ((Utf8.decode s pos).1:Int)=some r')=>jrR M h);clear J Y T;obtain⟨o,O⟩:∃ o,jez r ((Utf8.decode s pos).1:Int)=o:=⟨_,rfl⟩;rw[O] at hS X HO;clear O
    cases o with
    | some r2 =>
     go_wp2_with (go_at_call 111;refine hS.mono ?_;rintro e d ⟨B,v4,u,A,rfl,rfl⟩);have U:=B.keeps.same k _ n rfl;go_roundw
     case rel=>exact⟨_,u,v4,rfl,U,C.trans (B.below.mono R),A,HO.out _ rfl,X.out⟩
     case measure=>rw[jaw U,Z];omega
    | none =>
     have V:Hid (jhS .new (rl s 0)=none):=X.out;go_wp2_with (go_at_call 111;refine hS.mono ?_;rintro e d ⟨B,v4,u,A,y,rfl⟩;have x4:d.cell? ⟨b,4,none⟩=some v4:=cCc A.box 4);rw[L.out,V.out];exact⟨C.trans (B.below.mono R),_,y,rfl⟩
   ·have ac:∀ ty,(Instr.next (.pointer (some ⟨k,0,none⟩)) true ty).run Tryz.prog wr=_:=fun ty=>Lib.run_next_end_at wr k s pos ty N q
    have V:Hid (jhS .new (rl s 0)=some r):=by rw[Hid,HP.out,ji7 s pos q];rfl
    have hE:=jnx b r v wr Y M;have g:=Lib.hid (fun r' (h:jcS r=some r')=>And.intro (jnU M h) (show r'.l=r'.l from rfl));obtain⟨o,O⟩:∃ o,jcS r=o:=⟨_,rfl⟩;have i:=Lib.hid O;rw[O] at hE g;clear O
    cases o with
    | some r2 =>
     go_wp2_with (go_at_call 112;refine hE.mono ?_;rintro e d ⟨B,v4,u,A,rfl,rfl⟩;have x4:d.cell? ⟨b,4,none⟩=some v4:=cCc A.box 4);obtain⟨a4,c4,rfl⟩:=jbD A.own;rw[L.out,V.out];simp only[Option.bind_some,i.out,Option.map_some];have h4:=(g.out _ rfl).1;exact⟨z.trans (B.below.mono R),a4,c4,rfl,juy A.own (by omega),h4.lb,h4.ll⟩
    | none =>
     go_wp2_with (go_at_call 112;refine hE.mono ?_;rintro e d ⟨B,v4,u,A,y,rfl⟩;have x4:d.cell? ⟨b,4,none⟩=some v4:=cCc A.box 4);rw[L.out,V.out];simp only[Option.bind_some,i.out,Option.map_none];exact⟨z.trans (B.below.mono R),_,y,rfl⟩
end Go.Proofs.YtnegciklhanmbaaGreatDoor
