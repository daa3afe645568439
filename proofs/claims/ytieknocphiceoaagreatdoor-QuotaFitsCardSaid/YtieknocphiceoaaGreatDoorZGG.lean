/- Package cms: Lower's function. Package hist: put. Package hist: blank, begin. slices.Sorted(maps.Keys(..)) at the keys of a histogram's counts: the kit's contracts, laid at this program by hand. Package hist: done. Package hist: Add. -/
import Derived.Maps.OwnOps
import Derived.Maps.OwnSet
import Derived.Maps.RangeWalk
import Derived.Maps.Ext
import Derived.Shelf.SlIterI.Nil
import Derived.Ground.GgzProg
import Derived.Test.YtieknocphiceoaaGreatDoorZCC
namespace Go.Proofs.YtieknocphiceoaaGreatDoor
open Go Go.RowKit Go.Shelf
theorem jhk {α:Type} (pl:α->Nat) (F:Nat->Int->Int) (hF:∀ p x y,F p x=F p y):∀ (ps:List α) (l:List Int) (i:Nat),(jcK pl F l ps).getD i 0=if i∈ps.map pl/\i<l.length then F i 0 else l.getD i 0
 | [],l,i=>by simp[jcK]
 | p::ps,l,i=>by
  show (jcK pl F (l.set (pl p) (F (pl p) (l.getD (pl p) 0))) ps).getD i 0=_;rw[jhk pl F hF ps,List.length_set,jm2];by_cases h1:i∈ps.map pl/\i<l.length
  ·rw[if_pos h1,if_pos ⟨List.mem_cons_of_mem _ h1.1,h1.2⟩]
  ·rw[if_neg h1]
   by_cases h2:pl p=i/\i<l.length
   ·rw[if_pos h2,if_pos ⟨by rw[List.map_cons,h2.1];exact List.mem_cons_self,h2.2⟩,h2.1]
    exact hF _ _ _
   ·rw[if_neg h2,if_neg (fun h=>?_)]
    rcases List.mem_cons.1 h.1 with e | e
    ·exact h2 ⟨e.symm,h.2⟩
    ·exact h1 ⟨e,h.2⟩
def jqa (c:Nat) (l:List Int) (p:Nat) (_:Int):Int:=jdl (l.getD (p / (c / 2)*c+p % (c / 2)) 0) (l.getD (p / (c / 2)*c+p % (c / 2)+c / 2) 0)
theorem jlu (c:Nat) (l:List Int):jcK (fun x:Fin (2*(c / 2))=>x.1) (jqa c l) (List.replicate (2*(c / 2)) 0) (List.finRange (2*(c / 2)))=jdf c l:=by
 refine jm1 _ _ (by rw[jd5,jeF];simp;omega) (fun i hi=>?_);rw[jd5,List.length_replicate] at hi;have hm:i∈(List.finRange (2*(c / 2))).map (fun x:Fin (2*(c / 2))=>x.1):=List.mem_map.2 ⟨⟨i,hi⟩,List.mem_finRange _,rfl⟩;rw[jhk _ _ (fun p x y=>rfl),joZ _ _ _ (by omega),if_pos ⟨hm,by simpa using hi⟩];rfl
set_option maxRecDepth 100000 in
set_option maxHeartbeats 2000000 in
theorem jpw (c fb xb p:Nat) (old:Int) (l:List Int) (a:Option Addr) (len cap:Nat) (v:Value) (w:World) (hc:c=8\/c=16\/c=32) (hp:p<2*(c / 2)) (hl:l.length=2*c) (hlu:jdK l) (hL:SlE jbH 1 w.heap.size w a len l)
  (hf:w.heap[fb]? = some (.cells #[.int .i64 2,.int .i64 ((c / 2:Nat):Int),v] 161 (0,0))) (hx:w.heap[xb]? = some (.cells #[.int .i64 2,.int .i64 c,.slice a len cap] 45 (0,0))) :
  Calls Tryz.prog 296 #[.int .i64 p,.int .u64 old,.pointer (some ⟨fb,0,none⟩),.pointer (some ⟨xb,0,none⟩)] w fun e w'=>e=.returned (.int .u64 (jqa c l p old))/\Below w.heap.size w w':=by
 obtain⟨q,hq⟩:∃ q,p / (c / 2)*c+p % (c / 2)=q:=⟨_,rfl⟩;obtain⟨d,hd⟩:∃ d,c / 2=d:=⟨_,rfl⟩;have hqd:q+d<len:=by rw[hL.1,hl,<- hq,<- hd];rcases hc with rfl | rfl | rfl<;>simp only[Nat.reduceDiv] at hp ⊢<;>omega
 have hll:=hL.1;obtain⟨x,hx1⟩:∃ x,l[q]? = some x:=⟨_,List.getElem?_eq_getElem (by omega)⟩;obtain⟨y,hy1⟩:∃ y,l[q+d]? = some y:=⟨_,List.getElem?_eq_getElem (by omega)⟩;have hF:jqa c l p old=jdl x y:=by unfold jqa;rw[hq,hd,List.getD_eq_getElem?_getD,hx1,List.getD_eq_getElem?_getD,hy1];rfl
 rw[hF];have hxu:U64 x:=hlu x (List.mem_of_getElem? hx1);have hyu:U64 y:=hlu y (List.mem_of_getElem? hy1);obtain⟨bb,off,rfl,hbb,hcx⟩:=hL.2 q x hx1;obtain⟨bb2,off2,e2,-,hcy⟩:=hL.2 (q+d) y hy1
 cases e2
 have k1:w.cell? ⟨bb,off+q,none⟩=some (.int .u64 x):=by have h1:=hcx 0 (by omega);rwa [Nat.mul_one] at h1
 have k2:w.cell? ⟨bb,off+(q+d),none⟩=some (.int .u64 y):=by have h1:=hcy 0 (by omega);rwa [Nat.mul_one] at h1
 have hdd:(d=4/\c=8)\/(d=8/\c=16)\/(d=16/\c=32):=by omega
 have hd1:1<=d/\d<=16:=by clear hq;omega
 have hc32:c<=32:=by clear hq;omega
 have hlen:len<=64:=by clear hq;omega
 have hqi:wrap64 (wrap64 (wrap64 ((p:Int) / (d:Int))*(c:Int))+(p:Int) % (d:Int))=(q:Int):=by
  have hb:p / d*c<=32/\p % d<=16/\p / d<=32:=by rcases hdd with⟨rfl,rfl⟩ | ⟨rfl,rfl⟩ | ⟨rfl,rfl⟩<;>omega
  rw[show (p:Int) / (d:Int)=((p / d:Nat):Int) by rw[Int.natCast_ediv],jbl (p / d) (by omega),<- Int.natCast_mul,jbl _ (by omega),show (p:Int) % (d:Int)=((p % d:Nat):Int) by rw[Int.natCast_emod],<- Int.natCast_add,jbl _ (by omega),<- hq,hd]
 rw[hd] at hf;clear hq hd hc hdd hp hl hll;have hd0:(0:Int)<d:=by omega
 have hqn:(q:Int)<len:=by omega
 have hqn2:(q:Int)+d<len:=by omega
 obtain⟨f0,f1,f2⟩:=cl3 hf;obtain⟨g0,g1,g2⟩:=cl3 hx;clear hcx hcy hf hx hL hF hlu;go_enter Tryz.func296,Tryz.ntmps296;go_wp2_with fail;go_quiet (fail);go_wp2_with fail;rw[hqi];have hB1:Below w.heap.size w (w.drewN nq):=bDr (Below.refl _ _) nq;obtain⟨W1,hW1⟩:∃ W1,w.drewN nq=W1:=⟨_,rfl⟩;rw[hW1] at hB1 ⊢;have k2:w.cell? ⟨bb,off+((q:Int)+(d:Int)).toNat,none⟩=some (.int .u64 y):=by rw[show ((q:Int)+(d:Int)).toNat=q+d by omega];exact k2
 have HQ:Hid (∀ W,Below W1.heap.size W1 W->W.cell? ⟨fb,1,none⟩=some (.int .i64 d)/\W.cell? ⟨xb,2,none⟩=some (.slice (some ⟨bb,off,none⟩) len cap)/\W.cell? ⟨bb,off+q,none⟩=some (.int .u64 x)/\W.cell? ⟨bb,off+((q:Int)+(d:Int)).toNat,none⟩=some (.int .u64 y)/\Below W1.heap.size W1 W):=fun W h=>by
  have h0:=hB1.trans (h.mono hB1.size);have hlt:∀ b o v,w.cell? ⟨b,o,none⟩=some v->b<w.heap.size:=fun b o v hc=>World.block_lt_of_cell? w _ hc
  exact⟨(h0.cell (p:=⟨fb,1,none⟩) (hlt _ _ _ f1)).trans f1,(h0.cell (p:=⟨xb,2,none⟩) (hlt _ _ _ g2)).trans g2,(h0.cell (p:=⟨bb,off+q,none⟩) (hlt _ _ _ k1)).trans k1,(h0.cell (p:=⟨bb,off+((q:Int)+(d:Int)).toNat,none⟩) (hlt _ _ _ k2)).trans k2,h⟩
 obtain⟨m0,m1,m2,m3,mB⟩:=HQ.out W1 (Below.refl _ _);have HT:Hid (Calls Tryz.prog 297 #[.slice (some ⟨W1.heap.size,0,none⟩) 2 2] (W1.alloc (.cells #[.int .u64 x,.int .u64 y] 55)).drew fun e w'=>e=.returned (.int .u64 (jdl x y))/\w'=(W1.alloc (.cells #[.int .u64 x,.int .u64 y] 55)).drew):=jhT W1.heap.size x y _ (cCc (W:=W1.alloc _) (World.alloc_heap_new W1 _) 0) (cCc (W:=W1.alloc _) (World.alloc_heap_new W1 _) 1) hxu hyu;have HB1:=Lib.hid hB1;have hw1:IntKind.i64.wrap ((q:Int)+(d:Int))=(q:Int)+(d:Int):=IntWalk.i64_in _ (by omega);have hn0:(0:Int)<=q:=by omega
 have hn1:(0:Int)<=(q:Int)+d:=by omega
 clear hW1 k1 k2 f0 f1 f2 g0 g1 g2 hqi hB1
 go_region_held3 (fun w'=>w'.cell? ⟨fb,1,none⟩=some (.int .i64 d)/\w'.cell? ⟨xb,2,none⟩=some (.slice (some ⟨bb,off,none⟩) len cap)/\w'.cell? ⟨bb,off+q,none⟩=some (.int .u64 x)/\w'.cell? ⟨bb,off+((q:Int)+(d:Int)).toNat,none⟩=some (.int .u64 y)/\Below W1.heap.size W1 w')
  (first
   | exact HQ.out _ (Below.refl _ _).drew
   | (go_split_ands;refine HQ.out _ ?_;first | assumption | exact Below.alloc (by assumption) (Below.size (by assumption)) _ | exact Below.drew (by assumption) | exact Below.trans (by assumption) (Below.mono (by assumption) (Below.size (by assumption)))))
  (first
   | (go_at_call 297;refine HT.out.mono ?_;rintro e w5 ⟨rfl,rfl⟩))
 go_wp2_with fail;go_ret;exact⟨rfl,HB1.out.trans (((Below.refl _ W1).alloc (Nat.le_refl _) _).drew.mono HB1.out.size)⟩
end Go.Proofs.YtieknocphiceoaaGreatDoor
namespace Go.Proofs.YtieknocphiceoaaGreatDoor
open Go Go.RowKit Go.Shelf Go.Maps
theorem jqT:Keyed Tryz.prog 3:=int_keyed Tryz.underlying3
theorem jea:Tryz.prog.underlying 360=some (.map 3 55):=by kernel_rfl
theorem jsu (w:World):(zeroValue 55).run Tryz.prog w=.ok (.int .u64 0) w:=by kernel_rfl
def MapIs (W:World) (b K:Nat) (l:List (Int × Int)):Prop:=∃ (nn:Nat) (D:DataW Unit),W.ownsMap Tryz.prog 3 (plainElem Tryz.prog 55) b nn D/\nn<=K/\∀ p z,D.atKey (.int .i64 p) z=match jbL l p with
 | some x=>.lit (.int .u64 x)
 | none=>z
theorem MapIs.kept {W W':World} {b K:Nat} {l:List (Int × Int)} {row:Option Nat} (h:MapIs W b K l) (hg:W.grownBy W' row) (hne:some b≠row):MapIs W' b K l:=by
 obtain⟨nn,D,h1,h2⟩:=h;exact⟨nn,D,h1.kept hg hne,h2⟩
theorem MapIs.lt {W:World} {b K:Nat} {l:List (Int × Int)} (h:MapIs W b K l):b<W.heap.size:=by
 obtain⟨nn,D,h1,h2⟩:=h;exact h1.lt
theorem jp9 {p:Int} (h:I64 p):(Lit.int .i64 p).wf=true:=WalkArith.wf_i64 h
theorem jr7 {p:Int} (h:U64 p):(Lit.int .u64 p).wf=true:=by unfold U64 at h;simp[Lit.wf,IntKind.min,IntKind.max,IntKind.signed,IntKind.bits];omega
def jcA (l:List (Int × Int)) (p:Int):Int:=(jbL l p).getD 0
theorem MapIs.look {W:World} {b K:Nat} {l:List (Int × Int)} (h:MapIs W b K l) {p:Int} (hp:I64 p):(Instr.lookup 360 (.map (some b)) (.int .i64 p) false).run Tryz.prog W=.ok (.int .u64 (jcA l p)) W:=by
 obtain⟨nn,D,h1,h2,h3⟩:=h;obtain⟨c,hr,hc,-⟩:=h1.lookup_int (key:=.int .i64 p) jqT jea Tryz.underlying55 (jsu W) (keyOf_int_mk Tryz.underlying3 (jp9 hp));rw[h3] at hc
 have e:c=jcA l p:=by
  unfold jcA
  cases hb:jbL l p with
  | none=>rw[hb] at hc;simpa using hc.symm
  | some x=>rw[hb] at hc;simpa using hc.symm
 rw[<- e];exact hr
theorem MapIs.update {W:World} {b K:Nat} {l:List (Int × Int)} (h:MapIs W b K l) {p n:Int} (hp:I64 p) (hn:U64 n) (hK:K<=5000) (hu:jcr l) (hbu:jbG l):∃ w',(Instr.mapUpdate 360 (.map (some b)) (.int .i64 p) (.int .u64 (jdl (jcA l p) n))).run Tryz.prog W=.ok () w'/\MapIs w' b (K+1) (jaF l p n)/\W.grownBy w' (some b):=by
 obtain⟨nn,D,h1,h2,h3⟩:=h
 have hv:U64 (jdl (jcA l p) n):=by
  refine jfU _ _ ?_ hn;unfold jcA
  cases hb:jbL l p with
  | none=>exact jnZ
  | some x=>exact jiM hbu hb
 obtain⟨w',hr,ho,hg⟩:=h1.update (key:=.int .i64 p) jqT jea (by unfold maxLen;omega) (keyOf_int_mk Tryz.underlying3 (jp9 hp)) (plainElem_int Tryz.underlying55 (jr7 hv));refine⟨w',hr,⟨nn+1,_,ho,by omega,fun q z=>?_⟩,hg⟩;rw[jiL l p n q hu];by_cases hq:q=p
 ·subst hq
  rw[if_pos rfl,atKey_put_same (k:=.int .i64 q) (h1.tidy jqT).isMap trivial];unfold jrD jcA
  cases jbL l q with
  | none=>simp only[Option.getD_none];rw[jr1 n hn]
  | some x=>rfl
 ·rw[if_neg hq,atKey_put_other (by simpa using hq)]
  exact h3 q z
set_option maxRecDepth 100000 in
set_option maxHeartbeats 2000000 in
theorem jre (b K:Nat) (f:Int) (p n:Int) (l:List (Int × Int)) (w:World) (hm:MapIs w b K l) (hp:I64 p) (hn:U64 n) (hK:K<=5000) (hu:jcr l) (hb:jbG l) :
  Calls Tryz.prog 310 #[.agg #[.map (some b),.int .i64 f],.int .i64 p,.int .u64 n] w fun e w'=>e=.returned (.tuple #[])/\MapIs w' b (K+1) (jaF l p n)/\w.grownBy w' (some b):=by
 obtain⟨W1,hW1,hX1,hB1,hs1⟩:=jah w #[.map (some b),.int .i64 f] 362;have hbl:=hm.lt
 have hx:U64 (jcA l p):=by
  unfold jcA
  cases h:jbL l p with
  | none=>exact jnZ
  | some x=>exact jiM hb h
 have hM1:MapIs W1.drew b K l:=hm.kept (jen (jbe hB1 none)) (by simp);have hlk:=hM1.look hp;obtain⟨W2,hW2,hX2,hB2,hs2⟩:=jah W1.drew #[.int .u64 (jcA l p),.int .u64 n] 55;have hM2:MapIs W2 b K l:=hM1.kept (jbe hB2 none) (by simp);obtain⟨W3,hup,hM3,hG3⟩:=hM2.update hp hn hK hu hb;have HT:=Lib.hid (jh8 W1.drew.heap.size (jcA l p) n W2 (cCc hX2 0) (cCc hX2 1) hx hn);rw[show W1.drew.heap.size=w.heap.size+1 from hs1] at HT;have HW2:Hid ((W1.alloc (.cells #[.int .u64 (jcA l p),.int .u64 n] 55)).drew=W2):=by rw[Hid,<- hW2];rfl
 have hXd:W1.drew.heap[w.heap.size]? = some (.cells #[.map (some b),.int .i64 f] 362 (0,0)):=hX1;have hXe:=jak hB2 (Nat.le_refl _) hXd;have y0:W1.drew.cell? ⟨w.heap.size,0,none⟩=some (.map (some b)):=cCc hXd 0;have z0:W2.cell? ⟨w.heap.size,0,none⟩=some (.map (some b)):=cCc hXe 0;have hG:w.grownBy W3 (some b):=((jen (jbe hB1 (some b))).trans (jbe hB2 (some b))).trans hG3;have fin:Ending.returned (.tuple #[])=Ending.returned (.tuple #[])/\MapIs W3 b (K+1) (jaF l p n)/\w.grownBy W3 (some b):=⟨rfl,hM3,hG⟩;generalize jdl (jcA l p) n=s at hup HT;generalize jcA l p=x at hlk HT HW2 hx;clear hm hM1 hM2 hM3 hG3 hG hXd hXe hX1 hX2 hB1 hB2 hW2 hp hn hu hb hx;go_enter Tryz.func310,Tryz.ntmps310;go_wp2_with fail;refine wp_region_any (by kernel_rfl) ?_;change wpAny _ _ _ _ _ _ _ (World.drew _);refine tk 0 (v:=?_) rfl ?_ ?_;rotate_left
 ·intro w;go_simp;with_reducible rfl
 refine tk 2 (v:=?_) rfl ?_ ?_;rotate_left
 ·intro w;go_simp;with_reducible rfl
 refine tk 3 (v:=?_) rfl ?_ ?_;rotate_left
 ·intro w;go_simp;with_reducible rfl
 refine tk 5 (v:=?_) rfl ?_ ?_;rotate_left
 ·intro w;go_simp;with_reducible rfl
 refine tk 7 (v:=?_) rfl ?_ ?_;rotate_left
 ·intro w;go_simp;with_reducible rfl
 refine wpAny_ready (rs:=[1,4]) (by kernel_rfl) (by simp) ?_;refine AllReady.cons rfl (fun K hK=>?_) ?_
 ·go_simp
  refine hK _ _ ?_;clear hK K;refine wpAny_ready (rs:=[4]) (by kernel_rfl) (by simp) ?_;refine AllReady.cons rfl (fun K hK=>?_) ?_
  ·go_simp
   refine hK _ _ ?_;clear hK K;refine wpAny_ready (rs:=[6]) (by kernel_rfl) (by simp) ?_;refine AllReady.cons rfl (fun K hK=>?_) ?_
   ·go_simp
    refine hK _ _ ?_;clear hK K;refine wpAny_ready (rs:=[8]) (by kernel_rfl) (by simp) ?_;refine AllReady.cons rfl (fun K hK=>?_) ?_
    ·go_simp
     rw[HW2.out];refine hK _ _ ?_;clear hK K;refine wpAny_ready (rs:=[9]) (by kernel_rfl) (by simp) ?_;refine AllReady.cons rfl (fun K hK=>?_) ?_
     ·go_simp
      refine HT.out.mono ?_;rintro e w5 ⟨rfl,rfl⟩;refine hK _ _ ?_;clear hK K;refine wpAny_ready (rs:=[10]) (by kernel_rfl) (by simp) ?_;refine AllReady.cons rfl (fun K hK=>?_) ?_
      ·go_simp
       refine hK _ _ ?_;clear hK K;refine wpAny_done (by kernel_rfl) ?_ _;go_end0;exact⟨rfl,fin.2⟩
      exact AllReady.nil
     exact AllReady.nil
    exact AllReady.nil
   exact AllReady.nil
  exact AllReady.nil
 refine AllReady.cons rfl (fun K hK=>?_) ?_
 ·go_simp
  refine hK _ _ ?_;clear hK K;refine wpAny_ready (rs:=[1,6]) (by kernel_rfl) (by simp) ?_;refine AllReady.cons rfl (fun K hK=>?_) ?_
  ·go_simp
   refine hK _ _ ?_;clear hK K;refine wpAny_ready (rs:=[6]) (by kernel_rfl) (by simp) ?_;refine AllReady.cons rfl (fun K hK=>?_) ?_
   ·go_simp
    refine hK _ _ ?_;clear hK K;refine wpAny_ready (rs:=[8]) (by kernel_rfl) (by simp) ?_;refine AllReady.cons rfl (fun K hK=>?_) ?_
    ·go_simp
     rw[HW2.out];refine hK _ _ ?_;clear hK K;refine wpAny_ready (rs:=[9]) (by kernel_rfl) (by simp) ?_;refine AllReady.cons rfl (fun K hK=>?_) ?_
     ·go_simp
      refine HT.out.mono ?_;rintro e w5 ⟨rfl,rfl⟩;refine hK _ _ ?_;clear hK K;refine wpAny_ready (rs:=[10]) (by kernel_rfl) (by simp) ?_;refine AllReady.cons rfl (fun K hK=>?_) ?_
      ·go_simp
       refine hK _ _ ?_;clear hK K;refine wpAny_done (by kernel_rfl) ?_ _;go_end0;exact⟨rfl,fin.2⟩
      exact AllReady.nil
     exact AllReady.nil
    exact AllReady.nil
   exact AllReady.nil
  refine AllReady.cons rfl (fun K hK=>?_) ?_
  ·go_simp
   refine hK _ _ ?_;clear hK K;refine wpAny_ready (rs:=[1,8]) (by kernel_rfl) (by simp) ?_;refine AllReady.cons rfl (fun K hK=>?_) ?_
   ·go_simp
    refine hK _ _ ?_;clear hK K;refine wpAny_ready (rs:=[8]) (by kernel_rfl) (by simp) ?_;refine AllReady.cons rfl (fun K hK=>?_) ?_
    ·go_simp
     rw[HW2.out];refine hK _ _ ?_;clear hK K;refine wpAny_ready (rs:=[9]) (by kernel_rfl) (by simp) ?_;refine AllReady.cons rfl (fun K hK=>?_) ?_
     ·go_simp
      refine HT.out.mono ?_;rintro e w5 ⟨rfl,rfl⟩;refine hK _ _ ?_;clear hK K;refine wpAny_ready (rs:=[10]) (by kernel_rfl) (by simp) ?_;refine AllReady.cons rfl (fun K hK=>?_) ?_
      ·go_simp
       refine hK _ _ ?_;clear hK K;refine wpAny_done (by kernel_rfl) ?_ _;go_end0;exact⟨rfl,fin.2⟩
      exact AllReady.nil
     exact AllReady.nil
    exact AllReady.nil
   refine AllReady.cons rfl (fun K hK=>?_) ?_
   ·go_simp
    rw[HW2.out];refine hK _ _ ?_;clear hK K;refine wpAny_ready (rs:=[1,9]) (by kernel_rfl) (by simp) ?_;refine AllReady.cons rfl (fun K hK=>?_) ?_
    ·go_simp
     refine hK _ _ ?_;clear hK K;refine wpAny_ready (rs:=[9]) (by kernel_rfl) (by simp) ?_;refine AllReady.cons rfl (fun K hK=>?_) ?_
     ·go_simp
      refine HT.out.mono ?_;rintro e w5 ⟨rfl,rfl⟩;refine hK _ _ ?_;clear hK K;refine wpAny_ready (rs:=[10]) (by kernel_rfl) (by simp) ?_;refine AllReady.cons rfl (fun K hK=>?_) ?_
      ·go_simp
       refine hK _ _ ?_;clear hK K;refine wpAny_done (by kernel_rfl) ?_ _;go_end0;exact⟨rfl,fin.2⟩
      exact AllReady.nil
     exact AllReady.nil
    refine AllReady.cons rfl (fun K hK=>?_) ?_
    ·go_simp
     refine HT.out.mono ?_;rintro e w5 ⟨rfl,rfl⟩;refine hK _ _ ?_;clear hK K;refine wpAny_ready (rs:=[1]) (by kernel_rfl) (by simp) ?_;refine AllReady.cons rfl (fun K hK=>?_) ?_
     ·go_simp
      refine hK _ _ ?_;clear hK K;refine wpAny_ready (rs:=[10]) (by kernel_rfl) (by simp) ?_;refine AllReady.cons rfl (fun K hK=>?_) ?_
      ·go_simp
       refine hK _ _ ?_;clear hK K;refine wpAny_done (by kernel_rfl) ?_ _;go_end0;exact⟨rfl,fin.2⟩
      exact AllReady.nil
     exact AllReady.nil
    exact AllReady.nil
   exact AllReady.nil
  exact AllReady.nil
 exact AllReady.nil
end Go.Proofs.YtieknocphiceoaaGreatDoor
namespace Go.Proofs.YtieknocphiceoaaGreatDoor
open Go Go.RowKit Go.Shelf Go.Maps
theorem jnu (w:World):MapIs (w.alloc (.map #[] 0)) w.heap.size 0 []:=⟨0,_,World.ownsMap_made _ _ _ _,Nat.le_refl _,fun _ _=>rfl⟩
set_option maxRecDepth 100000 in
set_option maxHeartbeats 1000000 in
theorem jlF (f:Nat) (w:World) (hf:f<=3) :
  Calls Tryz.prog 308 #[.int .i64 f] w fun e w'=>∃ b,e=.returned (.tuple #[.agg #[.map (some b),.int .i64 f],.nilIface])/\MapIs w' b 0 []/\w.heap.size<=b/\Below w.heap.size w w':=by
 have hib:=ji4 f hf;have hmm:=@run_makeMap Tryz.prog;obtain⟨W0,hW0,hX0,hB0,hs0⟩:=jah w #[.map none,.int .i64 0] 362;obtain⟨W1,hW1⟩:∃ W1,W0.alloc (.map #[] 0)=W1:=⟨_,rfl⟩;have hM1:MapIs W1 (w.heap.size+1) 0 []:=by rw[<- hW1,<- hs0];exact jnu W0
 have hX1:W1.heap[w.heap.size]? = some (.cells #[.map none,.int .i64 0] 362 (0,0)):=by rw[<- hW1];exact (Below.heap_alloc _ _ _ (by omega)).trans hX0
 have hB1:Below w.heap.size w W1:=by rw[<- hW1];exact hB0.alloc hB0.size _
 obtain⟨d0,d1⟩:=cl2 hX1;obtain⟨g0,g1⟩:=cz2 hX1;have hX2:=jb1 (u:=.map (some (w.heap.size+1))) (v:=.int .i64 f) hX1;have hB2:=(hB1.setCell (p:=⟨w.heap.size,0,none⟩) (Nat.le_refl _) (.map (some (w.heap.size+1)))).setCell (p:=⟨w.heap.size,1,none⟩) (Nat.le_refl _) (.int .i64 f);have hM2:=(hM1.kept (jfs W1 w.heap.size 0 (.map (some (w.heap.size+1)))) (by simp)).kept (jfs _ w.heap.size 1 (.int .i64 f)) (by simp);clear hX0 hX1 hB0 hB1 hM1;go_enter Tryz.func308,Tryz.ntmps308;go_wp2_with (first | (go_at_call 218;refine (hib _).mono ?_;rintro e w' ⟨rfl,rfl⟩) | fail);generalize (W1.setCell ⟨w.heap.size,0,none⟩ (.map (some (w.heap.size+1)))).setCell ⟨w.heap.size,1,none⟩ (.int .i64 f)=V at hX2 hB2 hM2 ⊢;obtain⟨k0,k1⟩:=cl2 hX2;exact bodyPost_ret (v:=.tuple #[.agg #[.map (some (w.heap.size+1)),.int .i64 f],.nilIface]) (by simp[results,Tryz.f308,go_sem,k0,k1]) rfl ⟨_,rfl,hM2,Nat.le_succ _,hB2⟩
end Go.Proofs.YtieknocphiceoaaGreatDoor
namespace Go.Proofs
open Go.RowKit Go.Maps Go.Sort Go.Shelf
def Tryz.keysA_ren:Go.Shelf.Ren:=⟨fun | 7=>316 | 10=>319 | n=>n,fun | 23=>360 | 26=>3 | 3=>55 | 28=>193 | 0=>0 | 27=>192 | 33=>73 | 4=>4 | n=>n,fun | n=>n⟩
theorem Tryz.keysA:Go.Proofs.SlLaysZI.n7 Tryz.prog Tryz.keysA_ren:={
 mixed:=by kernel_rfl
 f7:=⟨Tryz.f316.name,by decide,Tryz.func316.trans (congrArg some (by kernel_rfl))⟩
 f10:=⟨Tryz.f319.name,by decide,Tryz.func319.trans (congrArg some (by kernel_rfl))⟩
 t0:=by kernel_rfl
 a0:=fun w=>by kernel_rfl
 z0:=fun w=>by kernel_rfl
 v0:=fun w=>by kernel_rfl
 t4:=by kernel_rfl
 a4:=fun w=>by kernel_rfl
 z4:=fun w=>by kernel_rfl
 v4:=fun w=>by kernel_rfl
 t23:=by kernel_rfl
 a23:=fun w=>by kernel_rfl
 z23:=fun w=>by kernel_rfl
 v23:=fun w=>by kernel_rfl
 t26:=by kernel_rfl
 a26:=fun w=>by kernel_rfl
 z26:=fun w=>by kernel_rfl
 v26:=fun w=>by kernel_rfl
 t27:=by kernel_rfl
 a27:=fun w=>by kernel_rfl
 z27:=fun w=>by kernel_rfl
 v27:=fun w=>by kernel_rfl
 t28:=by kernel_rfl
 a28:=fun w=>by kernel_rfl
 z28:=fun w=>by kernel_rfl
 v28:=fun w=>by kernel_rfl
 t33:=by kernel_rfl
 a33:=fun w=>by kernel_rfl
 z33:=fun w=>by kernel_rfl
 v33:=fun w=>by kernel_rfl }
def Tryz.sortedA_ren:Go.Shelf.Ren:=⟨fun | 6=>315 | 8=>317 | 9=>318 | 11=>320 | n=>n,fun | 26=>3 | 28=>193 | 24=>25 | 0=>0 | 3=>3 | 33=>73 | n=>n,fun | n=>n⟩
theorem Tryz.sortedA:Go.Proofs.SlLaysZI.n6 Tryz.prog Tryz.sortedA_ren:={
 mixed:=by kernel_rfl
 f6:=⟨Tryz.f315.name,by decide,Tryz.func315.trans (congrArg some (by kernel_rfl))⟩
 f8:=⟨Tryz.f317.name,by decide,Tryz.func317.trans (congrArg some (by kernel_rfl))⟩
 f11:=⟨Tryz.f320.name,by decide,Tryz.func320.trans (congrArg some (by kernel_rfl))⟩
 t0:=by kernel_rfl
 a0:=fun w=>by kernel_rfl
 z0:=fun w=>by kernel_rfl
 v0:=fun w=>by kernel_rfl
 t24:=by kernel_rfl
 a24:=fun w=>by kernel_rfl
 z24:=fun w=>by kernel_rfl
 v24:=fun w=>by kernel_rfl
 t26:=by kernel_rfl
 a26:=fun w=>by kernel_rfl
 z26:=fun w=>by kernel_rfl
 v26:=fun w=>by kernel_rfl
 t28:=by kernel_rfl
 a28:=fun w=>by kernel_rfl
 z28:=fun w=>by kernel_rfl
 v28:=fun w=>by kernel_rfl
 i26:=by kernel_rfl }
end Go.Proofs
namespace Go.Proofs.YtieknocphiceoaaGreatDoor
open Go Go.RowKit Go.Shelf Go.Maps Go.Sort
theorem jr5 (m:Nat):AnyZI.SortsIn Tryz.prog Tryz.sortedA_ren Fence.wide m :=
 ⟨fun blk off cap ss W hH hblk hsz=>callsIn_wide.2 (Tryz.slices_Sort_int blk off cap ss W hH hblk hsz),fun p cap W=>callsIn_wide.2 (Tryz.slices_Sort_int_none p cap W)⟩
theorem jpl (mb:Option Nat) (W:World):Calls Tryz.prog 316 #[.map mb] W fun e w'=>e=.returned (.func (.func 319) #[] #[.pointer (some ⟨W.heap.size,0,none⟩)])/\w'=W.alloc (.cells #[.map mb] 360) :=
 (callsIn_wide (n:=5)).1 (AnyZI.keys_in Tryz.keysA Fence.wide 5 trivial rfl mb W)
theorem jl7 (b nn:Nat) (D:DataW Unit) (w:World) (hown:w.ownsMap Tryz.prog 3 (plainElem Tryz.prog 55) b nn D) (hs:Maps.size D<=100000) :
  Calls Tryz.prog 315 #[.func (.func 319) #[] #[.pointer (some ⟨w.heap.size,0,none⟩)]] (w.alloc (.cells #[.map (some b)] 360)) fun e w'=>∃ (v:Value) (ss:List Int),e=.returned v/\ss.Perm (intKeys D) /\
   w'.ownsRow w.heap.size 3 1 v ss.length ((ss.mergeSort (fun x y=>decide (x<=y))).map encZ)/\(v=.slice none 0 0↔ss=[])/\Below w.heap.size w w':=by
 have hbl:=hown.lt
 have hseq:SeqGives Fence.wide 2 Tryz.prog 319 #[.pointer (some ⟨w.heap.size,0,none⟩)] encZ (fun ss=>ss.Perm (intKeys D)) (Maps.size D) (w.alloc (.cells #[.map (some b)] 360)) :=
  AnyZI.keys_gives (ρ:=Tryz.keysA_ren) { Tryz.keysA with } Fence.wide _ trivial rfl (by omega) w.heap.size b nn D _ (by simp) (by simp) (by
   obtain⟨es,clock,hb,Ft,hs,hD⟩:=hown;exact⟨es,clock,(Below.heap_alloc _ _ b hbl).trans hb,Ft,hs,hD⟩)
 have cS:=AnyZI.sorted_in Tryz.sortedA Fence.wide 5 trivial trivial trivial trivial rfl (by omega) (jr5 _) (enters_of Tryz.func318 (by kernel_rfl) rfl) 319 #[.pointer (some ⟨w.heap.size,0,none⟩)] trivial (enters_of Tryz.func319 (by kernel_rfl) rfl) _ _ (by unfold maxLen;omega) (by omega) _ hseq;change CallsIn _ _ Tryz.prog 315 _ _ _ at cS;refine (callsIn_wide (n:=5)).1 (cS.mono ?_);rintro e w' ⟨v,ss,h1,h2,h3,h4,h5⟩;exact⟨v,ss,h1,h2,jnC h3 (by simp),h4,((Below.refl _ w).alloc (Nat.le_refl _) _).trans (h5.mono (by simp))⟩
end Go.Proofs.YtieknocphiceoaaGreatDoor
namespace Go.Proofs.YtieknocphiceoaaGreatDoor
open Go Go.RowKit Go.Shelf Go.Maps Go.Sort
theorem jhf:∀ (l:List (Int × Int)) (p:Int),jcr l->jbL (jbV l) p=match jbL l p with
  | some x=>if x=0 then none else some x
  | none=>none
 | [],p,_=>rfl
 | (q,m)::t,p,h=>by
  obtain⟨h1,h2⟩:=jcE h;have ih:=jhf t p h1;have hno:q=p->jbL (jbV t) p=none:=fun e=>jhg (fun c hc=>by have:=h2 c (List.mem_filter.1 hc).1;rw[<- e];exact this)
  rw[ja8];unfold jbV;rw[List.filter_cons];by_cases hm:m=0
  ·subst hm
   rw[if_neg (by simp)];by_cases hq:q=p
   ·rw[if_pos hq];exact hno hq
   ·rw[if_neg hq];exact ih
  ·rw[if_pos (by simpa using hm),ja8]
   by_cases hq:q=p
   ·rw[if_pos hq,if_pos hq];simp[hm]
   ·rw[if_neg hq,if_neg hq];exact ih
theorem jkO:∀ {l:List (Int × Int)} {p x:Int},jbL l p=some x->p∈l.map Prod.fst
 | b::t,p,x,h=>by
  rw[ja8] at h;split at h
  ·rename_i e;simp[e]
  ·exact List.mem_cons_of_mem _ (jkO h)
theorem jiK:∀ {l:List (Int × Int)} {p:Int},p∈l.map Prod.fst->jbL l p≠none
 | b::t,p,h=>by
  rw[ja8];split
  ·simp
  ·rename_i hne
   rcases List.mem_cons.1 h with e | h
   ·exact absurd e.symm hne
   ·exact jiK h
theorem jiJ:∀ {l:List (Int × Int)},jcr l->∀ {b:Int × Int},b∈l->jbL l b.1=some b.2
 | c::t,hu,b,h=>by
  obtain⟨h1,h2⟩:=jcE hu;rw[ja8];rcases List.mem_cons.1 h with rfl | h
  ·simp
  ·have:=h2 b h
   rw[if_neg (by omega)];exact jiJ h1 h
def jiI (l:List (Int × Int)) (left:Lit->Bool) (D:DataW Unit):Prop:=∀ p z,D.atKey (.int .i64 p) z=match jbL l p with
 | some x=>if x=0/\left (.int .i64 p)=false then z else .lit (.int .u64 x)
 | none=>z
theorem jkB {l:List (Int × Int)} {D:DataW Unit} (h:∀ p z,D.atKey (.int .i64 p) z=match jbL l p with
 | some x=>.lit (.int .u64 x)
 | none=>z):jiI l (Maps.has D) D:=fun p z=>by
 have h1:=h p;rw[h1 z]
 cases hb:jbL l p with
 | none=>rfl
 | some x =>
  rw[hb] at h1;have:=has_true_of_atKey (k:=.int .i64 p) h1;simp[this]
theorem jjF {l:List (Int × Int)} {left:Lit->Bool} {D:DataW Unit} {x c:Int} (h:jiI l left D) (hat:∀ zd,D.atKey (.int .i64 x) zd=.lit (.int .u64 c)):jbL l x=some c:=by
 have h1:=(h x (.lit (.bool true))).symm.trans (hat _)
 cases hb:jbL l x with
 | none=>rw[hb] at h1;simp at h1
 | some v =>
  rw[hb] at h1;simp only at h1;split at h1
  ·simp at h1
  ·simp at h1;rw[h1]
theorem jev (q x:Int):(Lit.int .i64 q).sameKey (.int .i64 x)=decide (q=x):=by
 by_cases h:q=x
 ·subst h;rw[WideAt.sameKey_self (a:=.int .i64 q) trivial];simp
 ·rw[sameKey_ne (by simpa using h)];simp[h]
theorem jjE {l:List (Int × Int)} {left:Lit->Bool} {D:DataW Unit} {x:Int} (h:jiI l left D) (hat:∀ zd,D.atKey (.int .i64 x) zd=.lit (.int .u64 0)):jiI l (fun z=>left z && !z.sameKey (.int .i64 x)) (D.del (.int .i64 x)):=fun q z=>by
 have hv:=jjF h hat;by_cases hq:q=x
 ·subst hq
  rw[atKey_del_same,hv];simp[jev]
 ·rw[atKey_del_other (by simpa using hq),h q z]
  simp[jev,hq]
theorem jkC {l:List (Int × Int)} {left:Lit->Bool} {D:DataW Unit} {x c:Int} (h:jiI l left D) (hc:c≠0) (hat:∀ zd,D.atKey (.int .i64 x) zd=.lit (.int .u64 c)):jiI l (fun z=>left z && !z.sameKey (.int .i64 x)) D:=fun q z=>by
 have hv:=jjF h hat;rw[h q z];by_cases hq:q=x
 ·subst hq
  rw[hv];simp[hc]
 ·simp[jev,hq]
theorem jnT {l:List (Int × Int)} {left:Lit->Bool} {D:DataW Unit} (hu:jcr l) (h:jiI l left D) (hl:∀ k,left k=false):∀ p z,D.atKey (.int .i64 p) z=match jbL (jbV l) p with
 | some x=>.lit (.int .u64 x)
 | none=>z:=fun p z=>by
 rw[h p z,jhf l p hu]
 cases jbL l p with
 | none=>rfl
 | some x =>
  by_cases hx:x=0
  ·simp[hx,hl]
  ·simp[hx]
theorem jmM {w:World} {b nn:Nat} {D:DataW Unit} {l:List (Int × Int)} (hown:w.ownsMap Tryz.prog 3 (plainElem Tryz.prog 55) b nn D) (hu:jcr l) (hE:∀ p z,D.atKey (.int .i64 p) z=match jbL l p with
  | some x=>.lit (.int .u64 x)
  | none=>z) {ss:List Int} (h:ss.Perm (intKeys D)):ss.mergeSort (fun x y=>decide (x<=y))=l.map Prod.fst:=by
 obtain⟨es,hD,hpw,_⟩:=hown.entries jqT;obtain⟨es',hD',hko⟩:=hown.keysOf;obtain rfl:es=es':=by rw[hD] at hD';simpa using hD'
 subst hD;have hup:(l.map Prod.fst).Pairwise (· < ·):=List.pairwise_map.2 hu
 have hp:=perm_intKeys hpw (fun p hp=>by obtain⟨v,hv⟩:=hko p hp;obtain⟨x,_,hx,_⟩:=Maps.keyOf_i64 Tryz.underlying3 hv;exact⟨x,hx⟩) (ss:=l.map Prod.fst) (hup.imp (fun {a b} h=>by omega)) (fun x=>by
  cases hb:jbL l x with
  | none =>
   have h1:∀ z,(DataW.map es).atKey (.int .i64 x) z=z:=fun z=>by rw[hE x z,hb]
   rw[has_false_of_atKey h1];refine⟨fun hx=>?_,fun h=>by simp at h⟩;exact absurd hb (jiK hx)
  | some y =>
   have h1:∀ z,(DataW.map es).atKey (.int .i64 x) z=.lit (.int .u64 y):=fun z=>by rw[hE x z,hb]
   rw[has_true_of_atKey h1];exact⟨fun _=>rfl,fun _=>jkO hb⟩)
 rw[show (fun x y:Int=>decide (x<=y))=leI from rfl,mergeSort_of_perm_i (h.trans hp.symm)];exact List.mergeSort_of_pairwise (hup.imp (fun {a b} h=>by simp;omega))
theorem jh1 {A B C:World} {row:Option Nat} (h:A.grownBy B row) (hb:Below A.heap.size B C):A.grownBy C row:=⟨hb.os.trans h.os,hb.tape.trans h.tape,hb.output.trans h.output,Nat.le_trans h.size hb.size,fun k hk hne=>(hb.block k hk).trans (h.block k hk hne)⟩
theorem jbj {k n:Nat} (h:k<n):n-(k+1)<n-k:=by omega
theorem jgL {α:Type} {enc:α->List Value} {w:World} {base e size:Nat} {v:Value} {l:List α} (hk:∀ x,(enc x).length=size) (h:w.ownsRow base e size v l.length (l.flatMap enc)) {b:Nat} (hb:b<base) (u z:Value) :
  ∃ a cap,v=.slice a l.length cap/\SlC enc size ((w.setCell ⟨b,0,none⟩ u).setCell ⟨b,1,none⟩ z).heap.size ((w.setCell ⟨b,0,none⟩ u).setCell ⟨b,1,none⟩ z) a l.length cap l/\∀ x,a=some x->base<=x.block :=
 jaE hk (ownsRow_setCell_below (ownsRow_setCell_below h (a:=⟨b,0,none⟩) hb u) (a:=⟨b,1,none⟩) hb z)
abbrev jsd:Int->List Value:=fun x=>[encZ x]
theorem jiY:∀ l:List Int,l.flatMap jsd=l.map encZ
 | []=>rfl
 | x::t=>by rw[List.flatMap_cons,jiY t];rfl
theorem jpj {n₀:Nat} {w:World} {a:Option Addr} {len:Nat} {l:List Int} (h:SlE jsd 1 n₀ w a len l) {j:Nat} (hj:j<len):∃ x b off,l[j]? = some x/\a=some ⟨b,off,none⟩/\b<n₀/\w.cell? ⟨b,off+j,none⟩=some (.int .i64 x):=by
 obtain⟨x,b,off,hx,e,hb,hc⟩:=h.at hj;have:=hc 0 (by omega);rw[Nat.mul_one,Nat.add_zero] at this;exact⟨x,b,off,hx,e,hb,this⟩
attribute [-go_sem] Builtin.append_
theorem jkx (b nn:Nat) (D:DataW Unit) (w:World) (l:List (Int × Int)) (hown:w.ownsMap Tryz.prog 3 (plainElem Tryz.prog 55) b nn D) (hs:Maps.size D<=100000) (hu:jcr l) (hE:∀ p z,D.atKey (.int .i64 p) z=match jbL l p with
  | some x=>.lit (.int .u64 x)
  | none=>z) :
  Calls Tryz.prog 315 #[.func (.func 319) #[] #[.pointer (some ⟨w.heap.size,0,none⟩)]] (w.alloc (.cells #[.map (some b)] 360)) fun e w'=>∃ a5 c5,e=.returned (.slice a5 l.length c5) /\
   SlC jsd 1 w'.heap.size w' a5 l.length c5 (l.map Prod.fst)/\(∀ x,a5=some x->w.heap.size<=x.block)/\Below w.heap.size w w':=by
 refine (jl7 b nn D w hown hs).mono ?_;rintro e w5 ⟨v5,ss,rfl,hperm,hrow,hnil,hb5⟩;have hk:=jmM hown hu hE hperm;have hlss:ss.length=l.length:=by have:=congrArg List.length hk;simpa using this
 rw[hk,hlss] at hrow;obtain⟨a5,c5,rfl,hs5,hb5'⟩:=jaE (enc:=jsd) (l:=l.map Prod.fst) (fun _=>rfl) (by rw[List.length_map];rw[jiY];exact hrow);rw[List.length_map] at hs5 ⊢;exact⟨a5,c5,rfl,hs5,hb5',hb5⟩
set_option maxRecDepth 100000 in
set_option maxHeartbeats 2000000 in
theorem jlG (b K:Nat) (f:Int) (l:List (Int × Int)) (w:World) (hm:MapIs w b K l) (hu:jcr l) (hb:jbG l) (hi:∀ c∈l,I64 c.1) (hlen:l.length<=5000) (hK:K<=5000) :
  Calls Tryz.prog 312 #[.agg #[.map (some b),.int .i64 f]] w fun e w'=>∃ a len cap,e=.returned (.agg #[.int .i64 f,.slice a len cap])/\SlC jb5 2 w'.heap.size w' a len cap (jbV l)/\(∀ x,a=some x->w.heap.size<=x.block)/\w.grownBy w' (some b):=by
 obtain⟨W1,hW1,hX1,hR1,hB1,hs1⟩:=jaS w #[.map (some b),.int .i64 f] 362 #[.int .i64 0,.slice none 0 0] 48;obtain⟨nn,D0,hown0,hnn,hD0⟩:=hm;have hbl:=hown0.lt;have hown:W1.ownsMap Tryz.prog 3 (plainElem Tryz.prog 55) b nn D0:=hown0.kept (jbe hB1 none) (by simp);obtain⟨c0,c1⟩:=cl2 hX1;go_enter Tryz.func312,Tryz.ntmps312
 go_wp2_with (first
  | (at_range;refine wpList_range_own _ rfl _ 360 rfl 3 55 jqT jea _ b nn _ rfl hown ?_;intro w0 hrg0 hg0 hs0)
  | go_in)
 go_frame;have hz0:w0.heap.size=w.heap.size+3:=by rw[hs0,hs1]
 rw[hs1] at hrg0 ⊢;have HZ0:Hid (w0.heap.size=w.heap.size+3):=hz0;have HS1:Hid (W1.heap.size=w.heap.size+2):=hs1;have HX1:=Lib.hid hX1;have HR1:=Lib.hid hR1;have HB1:=Lib.hid hB1;clear hs0 hs1 hz0 hX1 hR1 hB1
 go_loopw [3,4] (fun _ _ wr=>∃ (left:Lit->Bool) (cnt:Nat) (D:DataW Unit),wr.ranges Tryz.prog 3 (plainElem Tryz.prog 55) b (w.heap.size+2) nn D left cnt/\jiI l left D/\W1.grownBy wr (some b))
  (fun _ _ wr=>wr.rangeLeft b (w.heap.size+2))
 case atStart=>exact⟨_,_,_,hrg0,jkB hD0,hg0.but _⟩
 case round =>
  obtain⟨left,cnt,D,hrg,hS,hgw⟩:=hrel;have hXr:=(hgw.block w.heap.size (by have:=HS1.out;omega) (fun e=>by have:=Option.some.inj e;omega)).trans HX1.out;have hRr:=(hgw.block (w.heap.size+1) (by have:=HS1.out;omega) (fun e=>by have:=Option.some.inj e;omega)).trans HR1.out;have HRr:=Lib.hid hRr;have HXr:=Lib.hid hXr;have HS:=Lib.hid hS;have HGW:=Lib.hid hgw;clear hXr hRr hS hgw
  go_wp2_with (first
   | (at_next;refine wpList_next_ranges_ii _ rfl _ rfl 3 55 .i64 .u64 jqT Tryz.underlying3 Tryz.underlying55 b (w.heap.size+2) nn _ _ _ rfl hrg ?_ ?_)
   | go_in)
  ·intro _ hl0
   have hE:=jnT hu HS.out hl0;have hown2:=hrg.owns;obtain⟨u0,u1⟩:=cl2 HXr.out;obtain⟨W2,hW2,hX2,hB2,hs2⟩:=jah wr #[.int .i64 f,.slice none 0 0] 48;have hown3:W2.ownsMap Tryz.prog 3 (plainElem Tryz.prog 55) b nn D:=hown2.kept (jbe hB2 none) (by simp);have hXw2:=jak hB2 (Nat.le_refl _) HXr.out;have hX3:(W2.setCell ⟨wr.heap.size,1,none⟩ (.slice none 0 0)).heap[wr.heap.size]? = some (.cells #[.int .i64 f,.slice none 0 0] 48 (0,0)):=hSk hX2 (.slice none 0 0);have hX3w:=(Below.heap_setCell W2 ⟨wr.heap.size,1,none⟩ (.slice none 0 0) w.heap.size (by have:=(Array.getElem?_eq_some_iff.1 HXr.out).1;simp;omega)).trans hXw2;have hown4:=hown3.kept (jfs W2 wr.heap.size 1 (.slice none 0 0)) (by have:=hown2.lt;simp;omega);have hB3:=hB2.setCell (p:=⟨wr.heap.size,1,none⟩) (Nat.le_refl _) (.slice none 0 0);obtain⟨v0,v1⟩:=cl2 hXw2;obtain⟨x0,x1⟩:=cl2 hX2;obtain⟨y0,y1⟩:=cz2 hX2;obtain⟨W3,hW3⟩:∃ W3,W2.setCell ⟨wr.heap.size,1,none⟩ (.slice none 0 0)=W3:=⟨_,rfl⟩;rw[hW3] at hX3 hX3w hown4 hB3;have hs3:W3.heap.size=wr.heap.size+1:=by rw[<- hW3];simpa using hs2
   have HSO:=Lib.hid (jkx b nn D W3 (jbV l) hown4 (by have:=hown4.size_le;omega) (jga hu) hE);have HX3:=Lib.hid hX3;have HXW3:=Lib.hid hX3w;have HB3:=Lib.hid hB3;have HS3:=Lib.hid hs3;have HM3:Hid (MapIs W3 b nn (jbV l)):=⟨nn,D,hown4,Nat.le_refl _,hE⟩;have HL:Hid (jcr (jbV l)/\jbG (jbV l)/\(∀ c∈jbV l,I64 c.1)/\(jbV l).length<=5000):=⟨jga hu,jht hb,fun c hc=>hi c (List.mem_filter.1 hc).1,Nat.le_trans (jhs l) hlen⟩;obtain⟨L,hLe⟩:∃ L,jbV l=L:=⟨_,rfl⟩;have HLe:=Lib.hid hLe;rw[hLe] at HM3 HSO HL hE;clear hLe;obtain⟨z0,z1⟩:=cl2 hX3w;clear hrg hXw2 hX2 u0 hX3 hX3w hB3 hs3 hown4 hown3 hown2 hB2;go_wp2_with (first | (go_at_call 316;refine (jpl _ _).mono ?_;rintro e w' ⟨rfl,rfl⟩) | (go_at_call 315;refine HSO.out.mono ?_;rintro e w5 ⟨a5,c5,rfl,hs5,hb5',hb5⟩) | fail);obtain⟨X,hX⟩:∃ X,wr.heap.size=X:=⟨_,rfl⟩;have HX:=Lib.hid hX;rw[hX] at HX3 HS3 HB3 ⊢;have HS5:=Lib.hid hs5;have HB5:=Lib.hid hb5;have HB5':=Lib.hid hb5';have hx5:=jak hb5 (Nat.le_refl _) HX3.out;have hy5:=jak hb5 (Nat.le_refl _) HXW3.out;have HXW5:=Lib.hid hy5;have HM5:Hid (MapIs w5 b nn L):=HM3.out.kept (jbe hb5 none) (by simp);have hz5:W3.heap.size<=w5.heap.size:=hb5.size;have HR5:Hid (w5.heap[w.heap.size+1]? = some (.cells #[.int .i64 0,.slice none 0 0] 48 (0,0))):=jak hb5 (Nat.le_refl _) (jak HB3.out (by omega) HRr.out);have HG5:Hid (w.grownBy w5 (some b)):=((jbe HB1.out (some b)).trans (jh1 (jh1 HGW.out (HB3.out.mono (by rw[<- hX];exact HGW.out.size))) (hb5.mono (by have:=HGW.out.size;have:=HS3.out;omega))))
   have HZ5:=Lib.hid hz5;clear hy5 hs5 hb5 hb5' HXr HS HGW HSO HXW3 HM3 hX u1 v0 v1 x0 x1 y0 y1 z0 z1 hE hl0 hs2 hW2 hW3 hz5;go_loopw [7,29] (fun _ i wk=>∃ (k:Nat) (v:Value),k<=L.length/\i=.int .i64 k/\wk.heap[X]? = some (.cells #[.int .i64 f,v] 48 (0,0))/\wk.ownsRow w5.heap.size 118 2 v k ((L.take k).flatMap jb5)/\w5.grownBy wk (some X)) (fun _ i _=>L.length-(intOf i).toNat)
   case atStart=>exact⟨0,_,Nat.zero_le _,rfl,hx5,⟨rfl,Or.inl ⟨rfl,rfl⟩⟩,World.grownBy.refl _ _⟩
   case round =>
    obtain⟨k,v,hk,rfl,hXk,hrow,hG⟩:=hrel;have hXb:X<w5.heap.size:=(Array.getElem?_eq_some_iff.1 hx5).1;have hwX:w.heap.size<X:=by have:=HX.out;have:=(Array.getElem?_eq_some_iff.1 HXW5.out).1;have:=HB3.out.size;have:=(Array.getElem?_eq_some_iff.1 HRr.out).1;omega
    have hXw:=(hG.block _ (Array.getElem?_eq_some_iff.1 HXW5.out).1 (fun e=>by have:=Option.some.inj e;omega)).trans HXW5.out;have hGs:=hG.size;by_cases hlt:k<L.length
    ·obtain⟨y,hy⟩:∃ y,L[k]? = some y:=⟨_,List.getElem?_eq_getElem hlt⟩
     obtain⟨x,b5,o5,hx,rfl,hb5,hc5⟩:=jpj HS5.out.1 hlt;obtain rfl:x=y.1:=by rw[List.getElem?_map,hy] at hx;simpa using hx.symm
     have hb3:W3.heap.size<=b5:=HB5'.out _ rfl;have hbX:b5≠X:=by have:=HS3.out;omega
     have hck:wr.cell? ⟨b5,o5+k,none⟩=some (.int .i64 y.1):=by rw[<- hc5];exact World.cell?_of_block (hG.block _ hb5 (fun e=>hbX (Option.some.inj e)))
     have hmk:MapIs wr b nn L:=HM5.out.kept hG (by simp;omega);have hget:jcA L y.1=y.2:=by unfold jcA;rw[jiJ HL.out.1 (List.mem_of_getElem? hy)];rfl
     have hy1:I64 y.1:=HL.out.2.2.1 y (List.mem_of_getElem? hy);have hlk:=hmk.look hy1;rw[hget] at hlk;obtain⟨g,cap,w1,hap,hrow1,hB1,hz1,hbl1,hoth1⟩:=jax Tryz.prog 46 jco jcq rfl (by decide) hrow (Below.refl w5.heap.size wr) (Nat.le_refl _) hGs (jb5 y) rfl (jc9 y) (by have:=HL.out.2.2.2;omega) (by decide);obtain⟨p0,p1⟩:=cl2 hXw;obtain⟨q0,q1⟩:=cl2 hXk;obtain⟨r0,r1⟩:=cz2 hXk;rw[show (jb5 y).toArray=#[.int .i64 y.1,.int .u64 y.2] from rfl] at hap;have hX1k:=(hbl1 X hXb).trans hXk;obtain⟨s0,s1⟩:=cl2 hX1k;obtain⟨t0,t1⟩:=cz2 hX1k;have hX2k:(w1.setCell ⟨X,1,none⟩ (.slice (some ⟨g,0,none⟩) (k+1) cap)).heap[X]? = some (.cells #[.int .i64 f,.slice (some ⟨g,0,none⟩) (k+1) cap] 48 (0,0)):=hSk hX1k _;have hrow2:=ownsRow_setCell_below hrow1 (a:=⟨X,1,none⟩) hXb (.slice (some ⟨g,0,none⟩) (k+1) cap);have hG2:w5.grownBy (w1.setCell ⟨X,1,none⟩ (.slice (some ⟨g,0,none⟩) (k+1) cap)) (some X):=(jh1 hG hB1).trans (jfs _ _ _ _);clear hbl1 hoth1 hrow1 hrow hXk hX1k hB1;have hL5:L.length<=5000:=HL.out.2.2.2;go_wp2_with fail;go_roundw
     case rel=>exact⟨k+1,_,hlt,by simp,hX2k,by rw[jan hy,List.flatMap_append];simpa using hrow2,hG2⟩
     case measure=>simp[intOf];exact jbj hlt
    ·obtain rfl:k=L.length:=by omega
     rw[List.take_length] at hrow;have hbase:w.heap.size+1<w5.heap.size:=(Array.getElem?_eq_some_iff.1 HR5.out).1
     obtain⟨a,cap,rfl,hab⟩:∃ a cap,v=.slice a L.length cap/\∀ x,a=some x->w5.heap.size<=x.block:=by
      obtain⟨a,cap,h1,h2,h3⟩:=jaE (enc:=jb5) (fun _=>rfl) hrow;exact⟨a,cap,h1,h3⟩
     have hSl:SlC jb5 2 ((wr.setCell ⟨w.heap.size+1,0,none⟩ (.int .i64 f)).setCell ⟨w.heap.size+1,1,none⟩ (.slice a L.length cap)).heap.size ((wr.setCell ⟨w.heap.size+1,0,none⟩ (.int .i64 f)).setCell ⟨w.heap.size+1,1,none⟩ (.slice a L.length cap)) a L.length cap L:=by
      obtain⟨a',cap',h1,h2,h3⟩:=jgL (enc:=jb5) (fun _=>rfl) hrow hbase (.int .i64 f) (.slice a L.length cap)
      cases h1
      exact h2
     have hR:=(hG.block _ (Array.getElem?_eq_some_iff.1 HR5.out).1 (fun e=>by have:=Option.some.inj e;have:=HX.out;have:=(Array.getElem?_eq_some_iff.1 HRr.out).1;omega)).trans HR5.out;obtain⟨s0,s1⟩:=cl2 hXk;obtain⟨o0,o1⟩:=cl2 hR;obtain⟨m0,m1⟩:=cz2 hR;have hX6:=jb1 (u:=.int .i64 f) (v:=.slice a L.length cap) hR;have HSl:=Lib.hid hSl;have Hab:=Lib.hid hab;clear hrow hSl hab hR;go_wp2_with fail;have hG6:w.grownBy ((wr.setCell ⟨w.heap.size+1,0,none⟩ (.int .i64 f)).setCell ⟨w.heap.size+1,1,none⟩ (.slice a L.length cap)) (some b):=((HG5.out.andThen hG (fun j hj=>Or.inl (by have:=Option.some.inj hj;omega))).andThen (jfs _ _ _ _) (fun j hj=>Or.inl (by have:=Option.some.inj hj;omega))).andThen (jfs _ _ _ _) (fun j hj=>Or.inl (by have:=Option.some.inj hj;omega));have hS6:=HSl.out;generalize (wr.setCell ⟨w.heap.size+1,0,none⟩ (.int .i64 f)).setCell ⟨w.heap.size+1,1,none⟩ (.slice a L.length cap)=V at hX6 hG6 hS6 ⊢;obtain⟨j0,j1⟩:=cl2 hX6;exact bodyPost_ret (v:=.agg #[.int .i64 f,.slice a L.length cap]) (by simp[results,Tryz.f312,go_sem,j0,j1]) rfl ⟨a,L.length,cap,rfl,by rw[HLe.out];exact hS6,(fun x hx=>by have:=Hab.out x hx;omega),hG6⟩
  ·intro x c w1 cnt1 hwx hwc hlx hat hrg1 hlt hg1 hs1 hen
   have hgw1:W1.grownBy w1 (some b):=HGW.out.andThen hg1 (fun j hj=>by obtain rfl:=Option.some.inj hj;exact Or.inl (by have:=HS1.out;omega));have hXw1:=(hg1.block _ (Array.getElem?_eq_some_iff.1 HXr.out).1 (fun e=>by have:=Option.some.inj e;omega)).trans HXr.out;have q0:w1.cell? ⟨w.heap.size,0,none⟩=some (.map (some b)):=cCc hXw1 0;have HGW1:=Lib.hid hgw1;clear hgw1 hXw1
   go_wp2_with (first
    | (at_delete;refine wpList_delete_ranges _ rfl _ _ 360 3 rfl 55 jqT jea _ b (w.heap.size+2) nn _ _ _ rfl hrg1 _ _ rfl (keyOf_int_mk Tryz.underlying3 hwx) ?_;intro w2 cnt2 hrg2 hle hturn;go_frame)
    | go_in)
   ·have hc0:c=0:=by simpa using (by assumption:(c==0)=true)
    subst hc0;rw[strike_twice] at hrg2;go_roundw
    case rel=>exact⟨_,cnt2,_,hrg2,jjE HS.out hat,HGW1.out.andThen hturn.grown (fun j hj=>by cases hj;exact Or.inr rfl)⟩
    case measure=>rw[hrg2.left_eq,hrg.left_eq];omega
   ·have hc0:c≠0:=by simpa using (by assumption:(c==0)=false)
    go_roundw
    case rel=>exact⟨_,cnt1,_,hrg1,jkC HS.out hc0 hat,HGW1.out⟩
    case measure=>rw[hrg1.left_eq,hrg.left_eq];exact hlt
end Go.Proofs.YtieknocphiceoaaGreatDoor
namespace Go.Proofs.YtieknocphiceoaaGreatDoor
open Go Go.RowKit Go.Shelf Go.Maps Go.Sort
theorem jnS {α:Type} {enc:α->List Value} {k n:Nat} {w V:World} {a:Option Addr} {len cap:Nat} {l:List α} (h:SlC enc k n w a len cap l) (hk:∀ x,a=some x->V.heap[x.block]? = w.heap[x.block]?):SlC enc k n V a len cap l :=
 ⟨⟨h.1.1,fun j x hx=>by
  obtain⟨b,off,e,hb,hc⟩:=h.1.2 j x hx;exact⟨b,off,e,hb,fun i hi=>(World.cell?_of_block (show V.heap[b]? = w.heap[b]? from hk _ e)).trans (hc i hi)⟩⟩,h.2⟩
def jqr (n:Nat) (w w7:World) (a:Option Addr) (len cap:Nat) (f:Int) (l:List (Int × Int)):Prop :=
 ((w7.setCell ⟨n+1,0,none⟩ (.int .i64 f)).setCell ⟨n+1,1,none⟩ (.slice a len cap)).heap[n+1]? = some (.cells #[.int .i64 f,.slice a len cap] 48 (0,0)) /\
 SlC jb5 2 ((w7.setCell ⟨n+1,0,none⟩ (.int .i64 f)).setCell ⟨n+1,1,none⟩ (.slice a len cap)).heap.size ((w7.setCell ⟨n+1,0,none⟩ (.int .i64 f)).setCell ⟨n+1,1,none⟩ (.slice a len cap)) a len cap l /\
 Below n w ((w7.setCell ⟨n+1,0,none⟩ (.int .i64 f)).setCell ⟨n+1,1,none⟩ (.slice a len cap))
theorem jph {w w6 w7:World} {b:Nat} {a:Option Addr} {len cap:Nat} {f:Int} {l:List (Int × Int)} (hbn:w.heap.size+1<b) (hR6:w6.heap[w.heap.size+1]? = some (.cells #[.int .i64 0,.slice none 0 0] 48 (0,0))) (hB6:Below w.heap.size w w6) (hS7:SlC jb5 2 w7.heap.size w7 a len cap l) (ha7:∀ x,a=some x->w6.heap.size<=x.block) (hg7:w6.grownBy w7 (some b)) :
  w7.heap[w.heap.size+1]? = some (.cells #[.int .i64 0,.slice none 0 0] 48 (0,0))/\jqr w.heap.size w w7 a len cap f l:=by
 have hl:=(Array.getElem?_eq_some_iff.1 hR6).1;have hR7:=(hg7.block _ hl (fun e=>by cases e;omega)).trans hR6;refine⟨hR7,jb1 hR7,?_,?_⟩
 ·have hsz:((w7.setCell ⟨w.heap.size+1,0,none⟩ (.int .i64 f)).setCell ⟨w.heap.size+1,1,none⟩ (.slice a len cap)).heap.size=w7.heap.size:=by simp
  rw[hsz];refine jnS hS7 fun x hx=>?_
  have:=ha7 x hx;exact (Below.heap_setCell _ _ _ _ (fun e=>by simp at e;omega)).trans (Below.heap_setCell _ _ _ _ (fun e=>by simp at e;omega))
 ·have hB7:Below w.heap.size w w7:=hB6.grown hg7 hB6.size (fun k e=>by cases e;omega)
  exact (hB7.setCell (p:=⟨w.heap.size+1,0,none⟩) (Nat.le_succ _) _).setCell (p:=⟨w.heap.size+1,1,none⟩) (Nat.le_succ _) _
end Go.Proofs.YtieknocphiceoaaGreatDoor
