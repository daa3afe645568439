/- aviarylaw12.Few. series.rightSeries, series.Right. series.Right. series.Find. series.add. series.Put: printed by wip/tools/gen_t5.py. series.Cost. -/
import Derived.Test.YtieknocphiceoaaGreatDoorZT0
namespace Go.Proofs.YtieknocphiceoaaGreatDoor
open Go Go.RowKit Go.Shelf
attribute [-go_sem] Builtin.append_
theorem jpd {k:Nat} {va:Option Addr} {vc n:Nat} {W:World} {m:List (Ser × SerP)} (h:GrowS n (fun _=>True) W (.slice va k vc) m) {p:SerP} {c:SerP} (hl:∀ z,p.la=some z->W.heap.size<=z.block) (hc:c.Off (· < n)) (e:p.ss=c.ss.cut):p.Off (fun b=>True/\some b≠Value.ownBlock (.slice va k vc)):=by
 have hown:=h.own.lt;refine⟨fun z h1 _=>⟨trivial,fun h3=>?_⟩,fun z h1 h2=>⟨trivial,fun h3=>?_⟩,fun z h1 h2=>⟨trivial,fun h3=>?_⟩,fun z h1 h2=>⟨trivial,fun h3=>?_⟩⟩
 ·have:=hl z h1;have:=hown _ h3.symm;omega
 ·rw[e] at h1 h2;have:=hc.e z h1 h2;have:=hown _ h3.symm;omega
 ·rw[e] at h1 h2;have:=hc.c z h1 h2;have:=hown _ h3.symm;omega
 ·rw[e] at h1 h2;have:=hc.g z h1 h2;have:=hown _ h3.symm;omega
def jhN (n:Nat) (l m:List (Ser × SerP)):Prop:=(∀ e∈m,∀ z,e.2.la=some z->n<=z.block)/\∀ q:Nat->Prop,(∀ e∈l,e.2.Off q)->∀ e∈m,e.2.Off (fun b=>q b\/n<=b)
def jf6 (l:List Ser):List Ser:=(l.take 22).map Ser.cut
set_option maxRecDepth 100000 in
set_option maxHeartbeats 2000000 in
theorem jmW (l:List (Ser × SerP)) (a:Option Addr) (len cap:Nat) (w:World) (hT:Tab w.heap.size w a len cap l) :
  Calls Tryz.prog 7 #[.slice a len cap] w fun e w'=>∃ a' cap' m,e=.returned (.slice a' m.length cap')/\Tab w'.heap.size w' a' m.length cap' m/\m.map (·.1)=jf6 (l.map (·.1))/\(∀ x,a'=some x->w.heap.size<=x.block)/\jhN w.heap.size l m/\Below w.heap.size w w':=by
 have hlen:=hT.row.1.1;subst hlen;have HT:=Lib.hid hT;clear hT;go_enter Tryz.func7,Tryz.ntmps7;go_wp2_with fail;go_loopw [3,4] (fun v i wr=>∃ (k:Nat) (m:List (Ser × SerP)),i=.int .i64 k/\k<=l.length/\k<=22/\m.length=k/\m.map (·.1)=((l.map (·.1)).take k).map Ser.cut/\jhN w.heap.size l m/\Below w.heap.size w wr/\GrowS w.heap.size (fun _=>True) wr v m) (fun _ i _=>l.length-(intOf i).toNat)
 case atStart=>exact⟨0,[],rfl,Nat.zero_le _,by omega,rfl,rfl,⟨(fun e h=>by cases h),fun q _ e h=>by cases h⟩,Below.refl _ _,GrowS.nil _ _ _⟩
 case round =>
  obtain⟨k,m,rfl,hk,hk22,hmk,hmm,hml,hB,hG⟩:=hrel;have hsz:=hB.size;by_cases hlt:k<l.length/\k<22
  ·obtain⟨hlt,hlt22⟩:=hlt
   obtain⟨⟨x,p⟩,hx⟩:∃ x,l[k]? = some x:=⟨_,List.getElem?_eq_getElem hlt⟩;obtain⟨b,off,rfl,hbb,hc⟩:=(HT.out.below hB).row.1.2 k (x,p) hx;have c0:wr.cell? ⟨b,off+k*12,none⟩=some (.slice p.la p.ll p.lc):=hc 0 (by omega);have c1:wr.cell? ⟨b,off+k*12+1,none⟩=some (.int .i64 x.sk.kind):=hc 1 (by omega);have c2:wr.cell? ⟨b,off+k*12+2,none⟩=some (.int .i64 x.sk.level):=hc 2 (by omega);have c3:wr.cell? ⟨b,off+k*12+3,none⟩=some (.slice p.ss.ea p.ss.el p.ss.ec):=hc 3 (by omega);have c4:wr.cell? ⟨b,off+k*12+4,none⟩=some (.int .i64 x.sk.hb):=hc 4 (by omega);have c5:wr.cell? ⟨b,off+k*12+5,none⟩=some (.string x.sk.hr):=hc 5 (by omega);have c6:wr.cell? ⟨b,off+k*12+6,none⟩=some (.int .i64 x.sk.cr):=hc 6 (by omega);have c7:wr.cell? ⟨b,off+k*12+7,none⟩=some (.int .i64 x.sk.cc):=hc 7 (by omega);have c8:wr.cell? ⟨b,off+k*12+8,none⟩=some (.slice p.ss.ca p.ss.cl p.ss.cc):=hc 8 (by omega);have c9:wr.cell? ⟨b,off+k*12+9,none⟩=some (.int .i64 x.sk.gf):=hc 9 (by omega);have c10:wr.cell? ⟨b,off+k*12+10,none⟩=some (.slice p.ss.ga p.ss.gl p.ss.gc):=hc 10 (by omega);have c11:wr.cell? ⟨b,off+k*12+11,none⟩=some (.int .u64 x.seen):=hc 11 (by omega);have hX:=Lib.hid hx;have HG:=Lib.hid hG;have HM:=Lib.hid hmm;have HL:=Lib.hid hmk;have HP:Hid (p.At wr.heap.size wr x):=((HT.out.at_ _ (List.mem_of_getElem? hx)).below hB).mono hsz;have HO:Hid (p.Off (· < w.heap.size)):=(HT.out.at_ _ (List.mem_of_getElem? hx)).off;obtain⟨va,vc,rfl⟩:=hG.form;have HO2:=Lib.hid (fun p' hl e=>jpd (p:=p') HG.out hl HO.out e)
   clear hc hx hG hmm hmk;have e4:(k:Int)<22:=by omega
   go_wp2_with (go_at_call 38;refine (jnz x p _ HP.out).mono ?_;rintro e w2 ⟨⟨la',ll',lc',s'⟩,rfl,hss,hat,hfr,hb2⟩;have HSS:=Lib.hid hss;obtain⟨g5,cap5,w5,hap5,hG5,hB5,hz5,-⟩:=(HG.out.go hb2).push (hB.trans (hb2.mono hsz)) (Nat.le_refl _) (Nat.le_trans hsz hb2.size) (by rw[HL.out];omega) hat (HO2.out _ hfr hss);have HG5:=Lib.hid hG5;have HA:=Lib.hid hat;have hZ:=hb2.size;clear hG5 hat hss;unfold ja1 at hap5 ⊢;dsimp only at hap5 ⊢);refine⟨⟨k+1,m++[(x.cut,⟨la',ll',lc',s'⟩)],by go_num,by omega,by omega,by rw[List.length_append,HL.out];rfl,?_,?_,hB5,HG5.out⟩,by simp[intOf];omega⟩
   ·rw[List.map_append,HM.out,jan (x:=x) (by rw[List.getElem?_map,hX.out];rfl),List.map_append];rfl
   ·refine⟨fun e he z hz=>?_,fun q hq e he=>?_⟩
    ·rcases List.mem_append.1 he with h | h
     ·exact hml.1 e h z hz
     ·rw[List.mem_singleton] at h
      subst h;exact Nat.le_trans hsz (hfr z hz)
    ·rcases List.mem_append.1 he with h | h
     ·exact hml.2 q hq e h
     ·rw[List.mem_singleton] at h
      subst h;have h4:=hq (x,p) (List.mem_of_getElem? hX.out);have hs4:s'=p.ss.cut:=HSS.out;subst hs4;exact⟨fun z hz _=>.inr (Nat.le_trans hsz (hfr z hz)),fun z h1 h2=>.inl (h4.e z h1 h2),fun z h1 h2=>.inl (h4.c z h1 h2),fun z h1 h2=>.inl (h4.g z h1 h2)⟩
  ·have HK:Hid (k=min l.length 22):=by rw[Hid];omega
   obtain⟨va,vc,rfl,hTb,hlo,hoff⟩:=hG.tab
   have FI:Hid (∃ a' cap' m',Ending.returned (.slice va m.length vc)=.returned (.slice a' m'.length cap')/\Tab wr.heap.size wr a' m'.length cap' m'/\m'.map (·.1)=jf6 (l.map (·.1))/\(∀ x,a'=some x->w.heap.size<=x.block)/\jhN w.heap.size l m'/\Below w.heap.size w wr):=by
    refine⟨va,vc,m,rfl,hTb,?_,hlo,hml,hB⟩;rw[hmm,jf6,HK.out];congr 1;have hl2:(l.map (·.1)).length=l.length:=List.length_map ..;rw[Nat.min_comm,<- hl2];exact List.take_eq_take_min.symm
   clear hmm hmk HK hG hTb hoff;go_wp2_with fail
   all_goals go_ret
   all_goals exact FI.out
end Go.Proofs.YtieknocphiceoaaGreatDoor
namespace Go.Proofs.YtieknocphiceoaaGreatDoor
open Go Go.RowKit Go.Shelf
structure SerFit (x:Ser) (p:SerP):Prop where
 lab:jez x.l
 ll:p.ll<4294967281
 short:p.ss.Short
 fit:x.sk.fit
 hr:x.sk.hr.size<2147483648
 seen:U64 x.seen
def jaM (x:Ser):Bool:=jar x.l&&jcd x.sk
set_option maxRecDepth 100000 in
set_option maxHeartbeats 1000000 in
theorem jcR (x:Ser) (p:SerP) (w:World) (h:p.At w.heap.size w x) (hf:SerFit x p) (hG:GW w) :
  Calls Tryz.prog 76 #[.agg #[.slice p.la p.ll p.lc,.int .i64 x.sk.kind,.int .i64 x.sk.level,.slice p.ss.ea p.ss.el p.ss.ec,.int .i64 x.sk.hb,.string x.sk.hr,.int .i64 x.sk.cr,.int .i64 x.sk.cc,.slice p.ss.ca p.ss.cl p.ss.cc,.int .i64 x.sk.gf,.slice p.ss.ga p.ss.gl p.ss.gc,.int .u64 x.seen]] w fun e w'=>e=.returned (.bool (jaM x))/\Below w.heap.size w w':=by
 obtain⟨W0,hW0,hX0,hB0,hs0⟩:=jah w #[.slice p.la p.ll p.lc,.int .i64 x.sk.kind,.int .i64 x.sk.level,.slice p.ss.ea p.ss.el p.ss.ec,.int .i64 x.sk.hb,.string x.sk.hr,.int .i64 x.sk.cr,.int .i64 x.sk.cc,.slice p.ss.ca p.ss.cl p.ss.cc,.int .i64 x.sk.gf,.slice p.ss.ga p.ss.gl p.ss.gc,.int .u64 x.seen] 70;obtain⟨c0,c1,c2,c3,c4,c5,c6,c7,c8,c9,c10,c11⟩:=jbU hX0;have HA:Hid (p.At W0.heap.size W0 x):=h.go hB0;have HF:=Lib.hid hf;have HG:Hid (GW W0):=hG.below hB0;have hz0:w.heap.size<W0.heap.size:=by omega
 clear h hf hG hs0 hX0;by_cases hr:jar x.l=true
 ·have HR:Hid (jaM x=jcd x.sk):=by rw[Hid,jaM,hr];rfl
  go_enter Tryz.func76,Tryz.ntmps76
  go_wp2_with (first
   | (go_at_call 101;refine (jeQ _ _ _ x.l _ HA.out.l.1 HF.out.lab HG.out HF.out.ll).mono ?_;rintro e w1 ⟨rfl,hb1⟩;rw[hr];obtain⟨hc1,hc2⟩:=je4 hb1;have HA1:Hid (p.At w1.heap.size w1 x):=HA.out.go hb1;have hB1:=hB0.trans (hb1.mono (Nat.le_of_lt hz0)))
   | (go_at_call 127;refine (jfD x.sk p.ss _ HA1.out.s HF.out.short HF.out.fit).mono ?_;rintro e w2 ⟨rfl,hb2⟩))
  go_ret;exact⟨by rw[HR.out];rfl,hB1.trans (hb2.mono hB1.size)⟩
 ·have hr':jar x.l=false:=by simpa using hr
  have HR:Hid (jaM x=false):=by rw[Hid,jaM,hr'];rfl
  clear hr;go_enter Tryz.func76,Tryz.ntmps76;go_wp2_with (go_at_call 101;refine (jeQ _ _ _ x.l _ HA.out.l.1 HF.out.lab HG.out HF.out.ll).mono ?_;rintro e w1 ⟨rfl,hb1⟩;rw[hr']);go_ret;exact⟨by rw[HR.out];rfl,hB0.trans (hb1.mono (Nat.le_of_lt hz0))⟩
def jbu (l:List (Ser × SerP)):Prop:=∀ e∈l,SerFit e.1 e.2
def jbJ:Option (List Lab)->List Ser->Bool
 | _,[]=>true
 | p,x::r=>jaM x&&(match p with | none=>true | some y=>jau y x.l)&&jbJ (some x.l) r
def jag (l:List Ser):Bool:=decide (l.length<=20)&&jbJ none l
def jcP (l:List Ser) (k:Nat):Option (List Lab):=if k=0 then none else (l[k-1]?).map (·.l)
theorem jiw {l:List Ser} {k:Nat} {x:Ser} (hx:l[k]? = some x) (p:Option (List Lab)):jbJ p (l.drop k)=(jaM x&&(match p with | none=>true | some y=>jau y x.l)&&jbJ (some x.l) (l.drop (k+1))):=by
 rw[jaJ hx];rfl
theorem jd9 {l:List Ser} {k:Nat} {x:Ser} (hx:l[k]? = some x):jcP l (k+1)=some x.l:=by simp[jcP,hx]
theorem jjn {l:List Ser} {k:Nat} {x:Ser} (hk:0<k) (hx:l[k-1]? = some x):jcP l k=some x.l:=by simp[jcP,hx];omega
set_option maxRecDepth 100000 in
set_option maxHeartbeats 4000000 in
theorem ja2 (l:List (Ser × SerP)) (a:Option Addr) (len cap:Nat) (w:World) (hT:Tab w.heap.size w a len cap l) (hF:jbu l) (hG:GW w) :
  Calls Tryz.prog 39 #[.slice a len cap] w fun e w'=>e=.returned (.bool (jag (l.map (·.1))))/\Below w.heap.size w w':=by
 have hlen:=hT.row.1.1;subst hlen;have HT:=Lib.hid hT;have HF:=Lib.hid hF;have HG:=Lib.hid hG;clear hT hF hG;by_cases h20:l.length<=20
 case neg =>
  have HR:Hid (jag (l.map (·.1))=false):=by simp[Hid,jag];omega
  have h21:(20:Int)<l.length:=by omega
  generalize jag (l.map (·.1))=bR at HR ⊢;go_enter Tryz.func39,Tryz.ntmps39;go_wp2_with fail;go_ret;exact⟨by rw[HR.out];rfl,Below.refl _ _⟩
 have HR:Hid (jag (l.map (·.1))=jbJ none (l.map (·.1))):=by simp[Hid,jag,h20]
 have h21:(l.length:Int)<=20:=by omega
 generalize jag (l.map (·.1))=bR at HR ⊢;go_enter Tryz.func39,Tryz.ntmps39;go_wp2_with fail;go_loopw [10] (fun i wr=>∃ (k:Nat),i=.int .i64 k/\k<=l.length/\Below w.heap.size w wr/\Hid (jbJ none (l.map (·.1))=jbJ (jcP (l.map (·.1)) k) ((l.map (·.1)).drop k))) (fun i _=>l.length-(intOf i).toNat)
 case atStart=>exact⟨0,rfl,Nat.zero_le _,Below.refl _ _,rfl⟩
 case round =>
  obtain⟨k,rfl,hk,hB,HS⟩:=hrel;have hsz:=hB.size;by_cases hlt:k<l.length
  ·obtain⟨⟨x,p⟩,hx⟩:∃ x,l[k]? = some x:=⟨_,List.getElem?_eq_getElem hlt⟩
   obtain⟨b,off,rfl,hbb,hc⟩:=(HT.out.below hB).row.1.2 k (x,p) hx;have c0:wr.cell? ⟨b,off+k*12,none⟩=some (.slice p.la p.ll p.lc):=hc 0 (by omega);have c1:wr.cell? ⟨b,off+k*12+1,none⟩=some (.int .i64 x.sk.kind):=hc 1 (by omega);have c2:wr.cell? ⟨b,off+k*12+2,none⟩=some (.int .i64 x.sk.level):=hc 2 (by omega);have c3:wr.cell? ⟨b,off+k*12+3,none⟩=some (.slice p.ss.ea p.ss.el p.ss.ec):=hc 3 (by omega);have c4:wr.cell? ⟨b,off+k*12+4,none⟩=some (.int .i64 x.sk.hb):=hc 4 (by omega);have c5:wr.cell? ⟨b,off+k*12+5,none⟩=some (.string x.sk.hr):=hc 5 (by omega);have c6:wr.cell? ⟨b,off+k*12+6,none⟩=some (.int .i64 x.sk.cr):=hc 6 (by omega);have c7:wr.cell? ⟨b,off+k*12+7,none⟩=some (.int .i64 x.sk.cc):=hc 7 (by omega);have c8:wr.cell? ⟨b,off+k*12+8,none⟩=some (.slice p.ss.ca p.ss.cl p.ss.cc):=hc 8 (by omega);have c9:wr.cell? ⟨b,off+k*12+9,none⟩=some (.int .i64 x.sk.gf):=hc 9 (by omega);have c10:wr.cell? ⟨b,off+k*12+10,none⟩=some (.slice p.ss.ga p.ss.gl p.ss.gc):=hc 10 (by omega);have c11:wr.cell? ⟨b,off+k*12+11,none⟩=some (.int .u64 x.seen):=hc 11 (by omega);have HX:Hid ((l.map (·.1))[k]? = some x):=by rw[Hid,List.getElem?_map,hx];rfl
   have HP:Hid (p.At wr.heap.size wr x):=((HT.out.at_ _ (List.mem_of_getElem? hx)).below hB).mono hsz;have HFx:=Lib.hid (HF.out _ (List.mem_of_getElem? hx));have HS':Hid (jbJ none (l.map (·.1))=(jaM x&&(match jcP (l.map (·.1)) k with | none=>true | some y=>jau y x.l)&&jbJ (some x.l) ((l.map (·.1)).drop (k+1)))):=by rw[Hid,HS.out,jiw HX.out]
   obtain⟨W1,hW1,hX1,hB1,hs1⟩:=jah wr #[.slice p.la p.ll p.lc,.int .i64 x.sk.kind,.int .i64 x.sk.level,.slice p.ss.ea p.ss.el p.ss.ec,.int .i64 x.sk.hb,.string x.sk.hr,.int .i64 x.sk.cr,.int .i64 x.sk.cc,.slice p.ss.ca p.ss.cl p.ss.cc,.int .i64 x.sk.gf,.slice p.ss.ga p.ss.gl p.ss.gc,.int .u64 x.seen] 70;obtain⟨r0,r1,r2,r3,r4,r5,r6,r7,r8,r9,r10,r11⟩:=jbU hX1;have HP1:Hid (p.At W1.heap.size W1 x):=HP.out.go hB1;have HG1:Hid (GW W1):=HG.out.below (hB.trans (hB1.mono hsz));have hz1:wr.heap.size<W1.heap.size:=by omega
   clear hc hx hs1;by_cases hr:jaM x=true
   case neg =>
    have hr':jaM x=false:=by simpa using hr
    have H9:Hid (bR=false):=by rw[Hid,HR.out,HS'.out,hr'];rfl
    clear hr;go_wp2_with (go_at_call 76;refine (jcR x p _ HP1.out HFx.out HG1.out).mono ?_;rintro e w2 ⟨rfl,hb2⟩;rw[hr'];have hZ:=hb2.size);go_ret;exact⟨by rw[H9.out];rfl,hB.trans ((hB1.mono hsz).trans (hb2.mono (by omega)))⟩
   have H8:Hid (jaM x=true):=hr;clear hr;go_wp2_with (go_at_call 76;refine (jcR x p _ HP1.out HFx.out HG1.out).mono ?_;rintro e w2 ⟨rfl,hb2⟩;rw[H8.out];have hZ:=hb2.size);have g0:w2.cell? ⟨wr.heap.size,0,none⟩=some (.slice p.la p.ll p.lc):=(hb2.cell (p:=⟨wr.heap.size,0,none⟩) hz1).trans r0;have HP2:Hid (p.At w2.heap.size w2 x):=HP1.out.go hb2;have hBB:Below w.heap.size w w2:=hB.trans ((hB1.mono hsz).trans (hb2.mono (by omega)));let Inv:World->Prop:=fun W=>Below w2.heap.size w2 W
   have hgo:∀ W W',Inv W->Below W.heap.size W W'->Inv W':=fun W W' h hb=>Below.trans h (hb.mono h.size)
   have hfin:Hid (∀ X:WIn Inv,Below w.heap.size w X.world):=fun X=>hBB.trans (Below.mono X.ok hBB.size)
   have hI0:Hid (Inv w2.drew):=(Below.refl _ _).drew;have hne:Nonempty (WIn Inv):=⟨⟨_,hI0.out⟩⟩;have q0:∀ X:WIn Inv,X.world.cell? ⟨wr.heap.size,0,none⟩=some (.slice p.la p.ll p.lc):=fun X=>(Below.cell X.ok (p:=⟨wr.heap.size,0,none⟩) (by show wr.heap.size<_;omega)).trans g0
   clear r0 r1 r2 r3 r4 r5 r6 r7 r8 r9 r10 r11 hX1 hW1 c0 c1 c2 c3 c4 c5 c6 c7 c8 c9 c10 c11 g0;rcases Nat.eq_zero_or_pos k with h0 | hpos
   ·have t0:decide ((0:Int)<(k:Int))=false:=by simp;omega
    have t1:decide (0<k)=false:=by simp;omega
    have H7:Hid (jbJ none (l.map (·.1))=jbJ (jcP (l.map (·.1)) (k+1)) ((l.map (·.1)).drop (k+1))):=by rw[Hid,HS'.out,H8.out,jd9 HX.out,h0];rfl
    clear HS' HS h0;clear_value Inv;refine jac Inv (by kernel_rfl) (by kernel_rfl) hI0.out ?_
    repeat (first | go_big_quiet_step (fail) | quiet_step (fail))
    refine wpQuiet_nil ?_;rintro _ ⟨X,rfl⟩;have hX:=hfin.out X;go_wp2_with fail
    all_goals go_roundw
    case rel=>exact⟨k+1,by go_num,by omega,hX,H7.out⟩
    case measure=>simp[intOf];omega
   ·obtain⟨⟨y,py⟩,hy⟩:∃ x,l[k-1]? = some x:=⟨_,List.getElem?_eq_getElem (by omega)⟩
    obtain⟨b',off',e1,hbb',hc'⟩:=HT.out.row.1.2 (k-1) (y,py) hy;injection e1 with e1
    injection e1 with e1 e2
    subst e1;subst e2;have t0:decide ((0:Int)<(k:Int))=true:=by simp;omega
    have t1:decide (0<k)=true:=by simp;omega
    have i1:(1:Int)<=(k:Int):=by omega
    have q1:∀ X:WIn Inv,X.world.cell? ⟨b,off+(k-1)*12,none⟩=some (.slice py.la py.ll py.lc):=fun X=>((hfin.out X).cell (p:=⟨b,off+(k-1)*12,none⟩) hbb).trans (hc' 0 (by omega))
    have HY:Hid (jcP (l.map (·.1)) k=some y.l):=jjn hpos (by rw[List.getElem?_map,hy];rfl);have HPy:Hid (py.At w.heap.size w y):=HT.out.at_ _ (List.mem_of_getElem? hy);have HFy:=Lib.hid (HF.out _ (List.mem_of_getElem? hy));have HPyI:Hid (∀ X:WIn Inv,py.At X.world.heap.size X.world y):=fun X=>(HPy.out.below (hfin.out X)).mono (hfin.out X).size
    have HPxI:Hid (∀ X:WIn Inv,p.At X.world.heap.size X.world x):=fun X=>HP2.out.go X.ok
    have K0:Hid (∀ X:WIn Inv,Calls Tryz.prog 83 #[.slice py.la py.ll py.lc,.slice p.la p.ll p.lc] X.world fun e w'=>e=.returned (.bool (jau y.l x.l))/\∃ Y:WIn Inv,w'=Y.world):=fun X=>jab hgo (jc8 _ _ _ y.l _ _ _ x.l X.world (HPyI.out X).l.1 (HPxI.out X).l.1 (Nat.le_trans (HPyI.out X).l.2.1 (HPyI.out X).l.2.2.1) (Nat.le_trans (HPxI.out X).l.2.1 (HPxI.out X).l.2.2.1))
    have HS2:Hid (jbJ none (l.map (·.1))=(jau y.l x.l&&jbJ (jcP (l.map (·.1)) (k+1)) ((l.map (·.1)).drop (k+1)))):=by rw[Hid,HS'.out,H8.out,HY.out,jd9 HX.out];rfl
    clear hy hc' HS' HS HPyI HPxI;clear hgo;clear_value Inv;generalize jau y.l x.l=b1 at K0 HS2
    cases b1
    ·have K1:=Lib.hid K0.out
     have H9:Hid (bR=false):=by rw[Hid,HR.out,HS2.out];rfl
     clear K0;refine jac Inv (by kernel_rfl) (by kernel_rfl) hI0.out ?_
     repeat (first | go_big_quiet_step ((go_at_call 83;with_reducible exact K1.out _)) | quiet_step ((go_at_call 83;with_reducible exact K1.out _)))
     refine wpQuiet_nil ?_;rintro _ ⟨X,rfl⟩;have hX:=hfin.out X;go_wp2_with fail;go_ret;exact⟨by rw[H9.out];rfl,hX⟩
    ·have K1:=Lib.hid K0.out
     have H7:Hid (jbJ none (l.map (·.1))=jbJ (jcP (l.map (·.1)) (k+1)) ((l.map (·.1)).drop (k+1))):=by rw[Hid,HS2.out];rfl
     clear K0;refine jac Inv (by kernel_rfl) (by kernel_rfl) hI0.out ?_
     repeat (first | go_big_quiet_step ((go_at_call 83;with_reducible exact K1.out _)) | quiet_step ((go_at_call 83;with_reducible exact K1.out _)))
     refine wpQuiet_nil ?_;rintro _ ⟨X,rfl⟩;have hX:=hfin.out X;go_wp2_with fail
     all_goals go_roundw
     case rel=>exact⟨k+1,by go_num,by omega,hX,H7.out⟩
     case measure=>simp[intOf];omega
  ·obtain rfl:k=l.length:=by omega
   have H9:Hid (bR=true):=by rw[Hid,HR.out,HS.out,List.drop_eq_nil_of_le (by rw[List.length_map];exact Nat.le_refl _)];cases jcP (l.map (·.1)) l.length<;>rfl
   go_wp2_with fail;go_ret;exact⟨by rw[H9.out];rfl,hB⟩
def jb8 (l:List Ser) (q:List Lab):Nat:=(l.takeWhile (fun x=>jau x.l q)).length
def jcn (l:List Ser) (q:List Lab):Bool:=match l[jb8 l q]? with | some x=>x.l==q | none=>false
theorem jj2 {l:List Ser} {q:List Lab} {k:Nat} {x:Ser} (hx:l[k]? = some x) (h:jau x.l q=true):jb8 (l.drop k) q=1+jb8 (l.drop (k+1)) q:=by
 rw[jaJ hx,jb8,List.takeWhile_cons,if_pos h,List.length_cons,Nat.add_comm];rfl
theorem jj3 {l:List Ser} {q:List Lab} {k:Nat} {x:Ser} (hx:l[k]? = some x) (h:jau x.l q=false):jb8 (l.drop k) q=0:=by
 rw[jaJ hx,jb8,List.takeWhile_cons,if_neg (by simp[h])];rfl
theorem jmY (l:List Ser) (q:List Lab):jb8 l q<=l.length:=(List.takeWhile_prefix _).length_le
set_option maxRecDepth 100000 in
set_option maxHeartbeats 4000000 in
theorem jgK (l:List (Ser × SerP)) (a:Option Addr) (len cap:Nat) (q:List Lab) (qa:Option Addr) (qn qc:Nat) (w:World) (hT:Tab w.heap.size w a len cap l) (hF:jbu l) (hG:GW w) (hQ:SlE Lab.enc 2 w.heap.size w qa qn q) (hqm:qn<=maxLen) :
  Calls Tryz.prog 77 #[.slice a len cap,.slice qa qn qc] w fun e w'=>e=.returned (.tuple #[.int .i64 (if jag (l.map (·.1)) then (jb8 (l.map (·.1)) q:Int) else 0),.bool (jag (l.map (·.1))&&jcn (l.map (·.1)) q)])/\Below w.heap.size w w':=by
 have hR:=ja2 l a len cap w hT hF hG;have hlen:=hT.row.1.1;subst hlen;have HT:=Lib.hid hT;have HQ:=Lib.hid hQ;have hm:l.length<=maxLen:=Nat.le_trans hT.row.2.1 hT.row.2.2.1;unfold maxLen at hm;have HQM:=Lib.hid hqm;clear hT hF hG hQ hqm
 cases hr:jag (l.map (·.1)) with
 | false =>
  rw[hr] at hR;go_enter Tryz.func77,Tryz.ntmps77;go_wp2_with (go_at_call 39;refine hR.mono ?_;rintro e w1 ⟨rfl,hb1⟩);go_ret2;exact⟨rfl,hb1⟩
 | true =>
  rw[hr] at hR;rw[if_pos rfl,Bool.true_and];clear hr;obtain⟨bT,hbT⟩:∃ bT,jcn (l.map (·.1)) q=bT:=⟨_,rfl⟩;obtain⟨kT,hkT⟩:∃ kT,jb8 (l.map (·.1)) q=kT:=⟨_,rfl⟩;rw[hbT,hkT];have HbT:Hid (bT=jcn (l.map (·.1)) q):=hbT.symm;have HkT:Hid (kT=jb8 (l.map (·.1)) q):=hkT.symm;clear hbT hkT;go_enter Tryz.func77,Tryz.ntmps77;go_wp2_with (go_at_call 39;refine hR.mono ?_;rintro e w1 ⟨rfl,hb1⟩);clear hR;go_loopw [6] (fun i wr=>∃ (k:Nat),i=.int .i64 k/\k<=l.length/\Below w.heap.size w wr/\Hid (kT=k+jb8 ((l.map (·.1)).drop k) q)) (fun i _=>l.length-(intOf i).toNat)
  case atStart=>exact⟨0,rfl,Nat.zero_le _,hb1,by rw[Hid,HkT.out,Nat.zero_add];rfl⟩
  case round =>
   obtain⟨k,rfl,hk,hB,HS⟩:=hrel;have hsz:=hB.size;by_cases hlt:k<l.length
   ·obtain⟨⟨x,p⟩,hx⟩:∃ x,l[k]? = some x:=⟨_,List.getElem?_eq_getElem hlt⟩
    obtain⟨b,off,rfl,hbb,hc⟩:=HT.out.row.1.2 k (x,p) hx;have HX:Hid ((l.map (·.1))[k]? = some x):=by rw[Hid,List.getElem?_map,hx];rfl
    have c0:wr.cell? ⟨b,off+k*12,none⟩=some (.slice p.la p.ll p.lc):=(hB.cell (p:=⟨b,off+k*12,none⟩) hbb).trans (hc 0 (by omega));have HP:Hid (p.At w.heap.size w x):=HT.out.at_ _ (List.mem_of_getElem? hx);have HC:Hid (w.cell? ⟨b,off+k*12,none⟩=some (.slice p.la p.ll p.lc)):=hc 0 (by omega);clear hc hx
    cases hL:jau x.l q with
    | true =>
     have HL:=Lib.hid hL;clear hL;go_wp2_with (go_at_call 83;refine (jc8 _ _ _ x.l _ _ _ q wr ((HP.out.below hB).mono hsz).l.1 ((HQ.out.below hB).mono hsz) (Nat.le_trans HP.out.l.2.1 HP.out.l.2.2.1) HQM.out).mono ?_;rintro e w2 ⟨rfl,hb2⟩;rw[HL.out]);go_roundw
     case rel=>exact⟨k+1,by go_num,by omega,hB.trans (hb2.mono hsz),by rw[Hid,HS.out,jj2 HX.out HL.out];omega⟩
     case measure=>simp[intOf];omega
    | false =>
     have HL:=Lib.hid hL;have H9:Hid (kT=k):=by rw[Hid,HS.out,jj3 HX.out HL.out];rfl
     have H8:Hid (bT=(x.l==q)):=by rw[Hid,HbT.out,jcn,<- HkT.out,H9.out,HX.out]
     clear hL;go_wp2_with (go_at_call 83;refine (jc8 _ _ _ x.l _ _ _ q wr ((HP.out.below hB).mono hsz).l.1 ((HQ.out.below hB).mono hsz) (Nat.le_trans HP.out.l.2.1 HP.out.l.2.2.1) HQM.out).mono ?_;rintro e w2 ⟨rfl,hb2⟩;rw[HL.out];have hB2:=hB.trans (hb2.mono hsz);have c2:w2.cell? ⟨b,off+k*12,none⟩=some (.slice p.la p.ll p.lc):=(hB2.cell (p:=⟨b,off+k*12,none⟩) hbb).trans HC.out);refine (jmQ _ _ _ x.l _ _ _ q w2 ((HP.out.below hB2).mono hB2.size).l.1 ((HQ.out.below hB2).mono hB2.size) (Nat.le_trans HP.out.l.2.1 HP.out.l.2.2.1)).mono ?_;rintro e w3 ⟨rfl,hb3⟩;go_wp2_with fail;go_ret2;exact⟨by rw[H9.out,H8.out];simp,hB2.trans (hb3.mono hB2.size)⟩
   ·obtain rfl:k=l.length:=by omega
    have hnil:(l.map (·.1)).drop l.length=[]:=List.drop_eq_nil_of_le (by rw[List.length_map];exact Nat.le_refl _);have H9:Hid (kT=l.length):=by rw[Hid,HS.out,hnil];rfl
    have H8:Hid (bT=false):=by rw[Hid,HbT.out,jcn,<- HkT.out,H9.out,List.getElem?_eq_none (by rw[List.length_map];exact Nat.le_refl _)]
    clear hnil;go_wp2_with fail;go_ret2;exact⟨by rw[H9.out,H8.out];rfl,hB⟩
end Go.Proofs.YtieknocphiceoaaGreatDoor
namespace Go.Proofs.YtieknocphiceoaaGreatDoor
open Go Go.RowKit Go.Shelf
def Loose (w:World) (b:Nat):Prop:=∃ c t,w.heap[b]? = some (.cells c t (0,0))
theorem Loose.of_heap {A B:World} {b:Nat} (h:Loose A b) (e:B.heap[b]? = A.heap[b]?):Loose B b:=by obtain⟨c,t,h⟩:=h;exact⟨c,t,e.trans h⟩
theorem Loose.lt {A:World} {b:Nat} (h:Loose A b):b<A.heap.size:=by obtain⟨c,t,h⟩:=h;exact (Array.getElem?_eq_some_iff.1 h).1
theorem Loose.go {A B:World} {b:Nat} (h:Loose A b) (hb:Below A.heap.size A B):Loose B b:=h.of_heap (hb.block b h.lt)
theorem jhA {w:World} {base e size n m:Nat} {v:Value} {xs:List Value} (h:w.ownsRow base e size v n xs) {a:Option Addr} {c:Nat} (hv:v=.slice a m c) {x:Addr} (hx:a=some x):Loose w x.block:=by
 subst hx;rcases h.2 with⟨rfl,_⟩ | ⟨g,cap,cur,rfl,_,hg,_⟩
 ·cases hv
 ·injection hv with h1 h2 h3
  injection h1 with h1
  subst h1;exact⟨_,_,hg⟩
def jcI (w:World) (e:Ser × SerP):Prop:=∀ z,e.2.la=some z->0<e.2.lc->Loose w z.block
set_option maxHeartbeats 1000000 in
theorem jjY (a:Option Addr) (len cap:Nat) (l:List Lab) (w:World) (hL:SlE Lab.enc 2 w.heap.size w a len l) (hll:len<2147483648) :
  Calls Tryz.prog 85 #[.slice a len cap] w fun e w'=>∃ a' cap',e=.returned (.slice a' len cap')/\SlC Lab.enc 2 w'.heap.size w' a' len cap' l/\(∀ x,a'=some x->w.heap.size<=x.block)/\Below w.heap.size w w'/\(∀ x,a'=some x->Loose w' x.block):=by
 have he:=jho a len cap;have hlen:=hL.1
 cases a with
 | none =>
  have hl0:l=[]:=by
   cases l with
   | nil=>rfl
   | cons y ys=>obtain⟨b,off,e,_⟩:=hL.2 0 y rfl;cases e
  subst hl0;obtain rfl:len=0:=hlen;clear hL;go_enter Tryz.func85,Tryz.ntmps85;go_wp2_with fail;go_ret;exact⟨none,0,rfl,SlC.nil,(fun x h=>by cases h),Below.refl _ _,(fun x h=>by cases h)⟩
 | some a =>
  have hB1:Below w.heap.size w (w.alloc (.cells #[] 67)):=(Below.refl _ w).alloc (Nat.le_refl _) _;have hown:(w.alloc (.cells #[] 67)).ownsRow w.heap.size 67 2 (.slice (some ⟨w.heap.size,0,none⟩) 0 0) 0 []:=⟨rfl,.inr ⟨w.heap.size,0,#[],rfl,Nat.le_refl _,World.alloc_heap_new _ _,Nat.le_refl _,by unfold maxLen;omega,rfl,rfl⟩⟩;have hL1:=hL.go hB1;obtain⟨v4,w4,hap4,hown4,hB4,hz4,-,-⟩:=jaW Tryz.prog (cap:=cap) 68 jkG jkY rfl (by decide) hown hB1 (Nat.le_refl _) (by simp) (fun _=>rfl) hL1 jnA (by omega) hll (by decide);rw[Nat.zero_add,List.nil_append,hlen] at hown4;have hlo4:∀ a c,v4=.slice a l.length c->∀ x,a=some x->Loose w4 x.block:=fun a c hv x hx=>jhA hown4 hv hx
  obtain⟨a4,c4,hv4,hs4,hb4⟩:=jaE (enc:=Lab.enc) (fun _=>rfl) hown4;have HLo:=Lib.hid (hlo4 a4 c4 hv4);have HS:Hid (SlC Lab.enc 2 w4.heap.size w4 a4 len c4 l):=by rw[Hid,hlen];exact hs4
  rw[<- hlen] at hv4;subst hv4;clear hL hL1 hown hs4 hown4 hlen hlo4;go_enter Tryz.func85,Tryz.ntmps85;go_wp2_with (at_builtin;refine jcw rfl _ _ _ rfl rfl rfl hap4 ?_);go_ret;exact⟨_,_,rfl,HS.out,hb4,hB4,HLo.out⟩
attribute [-go_sem] Builtin.append_
def Apart (B:Nat) (A A':World):Prop:=A.heap.size<=A'.heap.size/\∀ b,b<A.heap.size->b≠B->A'.heap[b]? = A.heap[b]?
section
variable {B:Nat} {A A' A'':World}
theorem Apart.of_below (h:Below A.heap.size A A'):Apart B A A':=⟨h.size,fun b hb _=>h.block b hb⟩
theorem Apart.trans (h:Apart B A A') (h':Apart B A' A''):Apart B A A'':=⟨Nat.le_trans h.1 h'.1,fun b hb hn=>(h'.2 b (Nat.lt_of_lt_of_le hb h.1) hn).trans (h.2 b hb hn)⟩
theorem Apart.set (i:Nat) (v:Value):Apart B A (A.setCell ⟨B,i,none⟩ v):=⟨by rw[World.size_setCell];exact Nat.le_refl _,fun b _ hn=>jam (fun h=>hn h.symm) v⟩
theorem SlC.apart {α:Type} {enc:α->List Value} {k:Nat} {a:Option Addr} {len cap:Nat} {l:List α} (hs:SlC enc k A.heap.size A a len cap l) (hn:∀ z,a=some z->0<cap->z.block≠B) (h:Apart B A A'):SlC enc k A'.heap.size A' a len cap l :=
 (hs.frame (q:=(· ≠ B)) hn h.2).mono h.1
end
theorem jf0 {W:World} {B i:Nat} {c:Array Value} {t:TypeId} (h:W.heap[B]? = some (.cells c t (0,0))) (v:Value):∃ V,W.setCell ⟨B,i,none⟩ v=V/\V.heap[B]? = some (.cells (c.setIfInBounds i v) t (0,0))/\Apart B W V/\(∀ n w0,n<=B->Below n w0 W->Below n w0 V)/\V.heap.size<=W.heap.size/\W.heap.size<=V.heap.size :=
 ⟨_,rfl,hSk h v,Apart.set i v,fun _ _ hn hb=>hb.setCell (p:=⟨B,i,none⟩) hn v,Nat.le_of_eq (World.size_setCell ..),Nat.le_of_eq (World.size_setCell ..).symm⟩
theorem GrowS.push_own {base:Nat} {q:Nat->Prop} {W w1:World} {v v':Value} {l:List (Ser × SerP)} (h:GrowS base q W v l) (hn:l.length<4294967) {x:Ser} {p:SerP}
  (hap:(Builtin.append_ #[22,22] 22 #[v,.slice (some ⟨W.heap.size,0,none⟩) 1 1]).run Tryz.prog (W.alloc (.cells (ja1 x p).toArray 70))=.ok v' w1):v'.ownBlock=v.ownBlock\/∃ g,v'.ownBlock=some g/\W.heap.size<=g:=by
 have hcell:∀ j u,(ja1 x p)[j]? = some u->(W.alloc (.cells (ja1 x p).toArray 70)).cell? ((⟨W.heap.size,0,none⟩:Addr).add j)=some u:=fun j u hj=>by
  have:=cCc (World.alloc_heap_new W (.cells (ja1 x p).toArray 70)) j;have ea:(⟨W.heap.size,0,none⟩:Addr).add j=⟨W.heap.size,j,none⟩:=by unfold Addr.add;split<;>simp_all
  rw[ea,this];simpa using hj
 rcases jcZ 22 jbx jch (h.own.alloc _) (n:=l.length) (m:=1) rfl hcell (jdm (x,p)) (by omega) (by unfold maxLen;omega) (by omega) hap with e | ⟨g,e,hg⟩
 ·exact .inl e
 ·refine .inr ⟨g,e,?_⟩
  simp at hg;omega
def jfX (l:List (Ser × SerP)):Prop:=∀ e∈l,e.2.ll<2147483648/\e.2.ss.Short
set_option maxRecDepth 100000 in
set_option maxHeartbeats 4000000 in
theorem jek (base:Nat) (m:List (Ser × SerP)) (v:Value) (l:List (Ser × SerP)) (a:Option Addr) (len cap:Nat) (w:World) (hbase:base<=w.heap.size) (hM:GrowS base (base <= ·) w v m) (hT:Tab w.heap.size w a len cap l) (hA:jfX l) (hn:m.length+l.length<4294967) (hfar:∀ z,a=some z->0<cap->some z.block≠v.ownBlock) (hoff:∀ e∈l,e.2.Off (fun b=>some b≠v.ownBlock)) (hfree:∀ e∈m,jcI w e) :
  Calls Tryz.prog 78 #[v,.slice a len cap] w fun e w'=>∃ v' m',e=.returned v'/\GrowS base (base <= ·) w' v' (m++m')/\m'.map (·.1)=l.map (·.1)/\Below base w w'/\(∀ e∈m++m',jcI w' e):=by
 have hlen:=hT.row.1.1;subst hlen;have HT:=Lib.hid hT;have HA:=Lib.hid hA;have HM:=Lib.hid hM;have HO:=Lib.hid (And.intro hfar hoff);have hm:l.length<=maxLen:=Nat.le_trans hT.row.2.1 hT.row.2.2.1;unfold maxLen at hm;obtain⟨va,vc,rfl⟩:=hM.form;have HFree:=Lib.hid hfree;clear hT hA hM hfar hoff hfree;go_enter Tryz.func78,Tryz.ntmps78;go_wp2_with fail;go_loopw [0,9] (fun v i wr=>∃ (k:Nat) (m':List (Ser × SerP)),i=.int .i64 k/\k<=l.length/\GrowS base (base <= ·) wr v (m++m')/\Hid (m'.length=k)/\Hid (m'.map (·.1)=(l.map (·.1)).take k)/\Below base w wr/\w.heap.size<=wr.heap.size/\Hid (∀ b,b<w.heap.size->some b≠Value.ownBlock (.slice va m.length vc)->wr.heap[b]? = w.heap[b]? /\ some b≠v.ownBlock)/\Hid (∀ e∈m++m',jcI wr e)) (fun _ i _=>l.length-(intOf i).toNat)
 case atStart=>exact⟨0,[],rfl,Nat.zero_le _,by rw[List.append_nil];exact HM.out,rfl,rfl,Below.refl _ _,Nat.le_refl _,(fun b _ h=>⟨rfl,h⟩),by rw[List.append_nil];exact HFree.out⟩
 case round =>
  obtain⟨k,m',rfl,hk,hG,HL,HMP,hB,hsz,HFr,HFe⟩:=hrel;have HG:=Lib.hid hG;obtain⟨ua,uc,hu⟩:=hG.form;subst hu;have hnn:(m++m').length<4294967:=by rw[List.length_append,HL.out];omega
  obtain⟨nn,hnE⟩:∃ nn,(m++m').length=nn:=⟨_,rfl⟩;have HN:=Lib.hid hnE;rw[hnE] at HG HFr hnn ⊢;clear hG hnE;by_cases hlt:k<l.length
  ·obtain⟨⟨x,p⟩,hx⟩:∃ x,l[k]? = some x:=⟨_,List.getElem?_eq_getElem hlt⟩
   obtain⟨b,off,rfl,hbb,hc⟩:=HT.out.row.1.2 k (x,p) hx;have hblk:wr.heap[b]? = w.heap[b]? := (HFr.out b hbb (HO.out.1 _ rfl (by have:=HT.out.row.2.1;omega))).1;replace hc:∀ i,i<12->wr.cell? ⟨b,off+k*12+i,none⟩=(ja4 (x,p))[i]? := fun i hi=>(jiR (p:=⟨b,off+k*12+i,none⟩) hblk).trans (hc i hi)
   have c0:wr.cell? ⟨b,off+k*12,none⟩=some (.slice p.la p.ll p.lc):=hc 0 (by omega);have c1:wr.cell? ⟨b,off+k*12+1,none⟩=some (.int .i64 x.sk.kind):=hc 1 (by omega);have c2:wr.cell? ⟨b,off+k*12+2,none⟩=some (.int .i64 x.sk.level):=hc 2 (by omega);have c3:wr.cell? ⟨b,off+k*12+3,none⟩=some (.slice p.ss.ea p.ss.el p.ss.ec):=hc 3 (by omega);have c4:wr.cell? ⟨b,off+k*12+4,none⟩=some (.int .i64 x.sk.hb):=hc 4 (by omega);have c5:wr.cell? ⟨b,off+k*12+5,none⟩=some (.string x.sk.hr):=hc 5 (by omega);have c6:wr.cell? ⟨b,off+k*12+6,none⟩=some (.int .i64 x.sk.cr):=hc 6 (by omega);have c7:wr.cell? ⟨b,off+k*12+7,none⟩=some (.int .i64 x.sk.cc):=hc 7 (by omega);have c8:wr.cell? ⟨b,off+k*12+8,none⟩=some (.slice p.ss.ca p.ss.cl p.ss.cc):=hc 8 (by omega);have c9:wr.cell? ⟨b,off+k*12+9,none⟩=some (.int .i64 x.sk.gf):=hc 9 (by omega);have c10:wr.cell? ⟨b,off+k*12+10,none⟩=some (.slice p.ss.ga p.ss.gl p.ss.gc):=hc 10 (by omega);have c11:wr.cell? ⟨b,off+k*12+11,none⟩=some (.int .u64 x.seen):=hc 11 (by omega);have HX:Hid ((l.map (·.1))[k]? = some x):=by rw[Hid,List.getElem?_map,hx];rfl
   have HAx:=Lib.hid (HA.out _ (List.mem_of_getElem? hx));have HP:Hid (p.At wr.heap.size wr x):=((HT.out.at_ _ (List.mem_of_getElem? hx)).frame (HO.out.2 _ (List.mem_of_getElem? hx)) (fun b hb hq=>(HFr.out b hb hq).1)).mono hsz;obtain⟨W1,hW1,hX1,hB1,hs1⟩:=jah wr #[.slice p.la p.ll p.lc,.int .i64 x.sk.kind,.int .i64 x.sk.level,.slice p.ss.ea p.ss.el p.ss.ec,.int .i64 x.sk.hb,.string x.sk.hr,.int .i64 x.sk.cr,.int .i64 x.sk.cc,.slice p.ss.ca p.ss.cl p.ss.cc,.int .i64 x.sk.gf,.slice p.ss.ga p.ss.gl p.ss.gc,.int .u64 x.seen] 70;obtain⟨r0,r1,r2,r3,r4,r5,r6,r7,r8,r9,r10,r11⟩:=jbU hX1;have HP1:Hid (p.At W1.heap.size W1 x):=HP.out.go hB1;have hz1:wr.heap.size<W1.heap.size:=by omega
   have HN5:Hid (p.Off (· ≠ wr.heap.size)):=HP.out.off.imp (fun b hb=>Nat.ne_of_lt hb);clear hc hx hblk;go_wp2_with fail;have HA0:Hid (p.ss.Short):=HAx.out.2;refine (jjY p.la p.ll p.lc x.l W1 HP1.out.l.1 HAx.out.1).mono ?_;rintro e w2 ⟨la',lc',rfl,hl2,hlo2,hb2,hlf2⟩;have HLf2:=Lib.hid hlf2;clear hlf2;have hX2:=jak hb2 (Nat.le_refl _) hX1;have hZ2:=hb2.size;have g2:w2.cell? ⟨wr.heap.size,0,none⟩=some (.slice p.la p.ll p.lc):=cCc hX2 0;have f2:w2.frozen? ⟨wr.heap.size,0,none⟩=false:=cFz hX2 0;obtain⟨V2,hV2,hXV2,hAp2,hBV2,hs2,ht2⟩:=jf0 (i:=0) hX2 (.slice la' p.ll lc');have d3:V2.cell? ⟨wr.heap.size,3,none⟩=some (.slice p.ss.ea p.ss.el p.ss.ec):=cCc hXV2 3;have HPe:Hid (SlC jbH 1 V2.heap.size V2 p.ss.ea p.ss.el p.ss.ec x.sk.e):=((HP1.out.go hb2).s.e).apart (HN5.out.e) hAp2;have HPc:Hid (SlC jbH 1 V2.heap.size V2 p.ss.ca p.ss.cl p.ss.cc x.sk.cl):=((HP1.out.go hb2).s.c).apart (HN5.out.c) hAp2;have HPg:Hid (SlC jb5 2 V2.heap.size V2 p.ss.ga p.ss.gl p.ss.gc x.sk.gl):=((HP1.out.go hb2).s.g).apart (HN5.out.g) hAp2;have HL2:Hid (SlC Lab.enc 2 V2.heap.size V2 la' p.ll lc' x.l):=hl2.apart (fun z hz _=>by have:=hlo2 z hz;omega) hAp2;have HB2:Hid (Below wr.heap.size wr V2):=hBV2 _ _ (Nat.le_refl _) (hB1.trans (hb2.mono (by omega)));clear r0 r1 r2 r3 r4 r5 r6 r7 r8 r9 r10 r11 c0 c1 c2 c3 c4 c5 c6 c7 c8 c9 c10 c11 hX1 hW1 hX2 hl2;go_wp2_with fail;refine (jde p.ss.ea p.ss.el p.ss.ec x.sk.e V2 HPe.out.1 HA0.out.1).mono ?_;rintro e w3 ⟨ea',ec',rfl,hl3,hlo3,hb3⟩
   have hX3:=jak hb3 (Nat.le_refl _) hXV2;have hZ3:=hb3.size;have g3:w3.cell? ⟨wr.heap.size,3,none⟩=some (.slice p.ss.ea p.ss.el p.ss.ec):=cCc hX3 3;have f3:w3.frozen? ⟨wr.heap.size,3,none⟩=false:=cFz hX3 3;obtain⟨V3,hV3,hXV3,hAp3,hBV3,hs3,ht3⟩:=jf0 (i:=3) hX3 (.slice ea' p.ss.el ec');have d8:V3.cell? ⟨wr.heap.size,8,none⟩=some (.slice p.ss.ca p.ss.cl p.ss.cc):=cCc hXV3 8;have HPc3:Hid (SlC jbH 1 V3.heap.size V3 p.ss.ca p.ss.cl p.ss.cc x.sk.cl):=(HPc.out.go hb3).apart (HN5.out.c) hAp3;have HPg3:Hid (SlC jb5 2 V3.heap.size V3 p.ss.ga p.ss.gl p.ss.gc x.sk.gl):=(HPg.out.go hb3).apart (HN5.out.g) hAp3;have HL3:Hid (SlC Lab.enc 2 V3.heap.size V3 la' p.ll lc' x.l):=(HL2.out.go hb3).apart (fun z hz _=>by have:=hlo2 z hz;omega) hAp3;have HE3:Hid (SlC jbH 1 V3.heap.size V3 ea' p.ss.el ec' x.sk.e):=hl3.apart (fun z hz _=>by have:=hlo3 z hz;omega) hAp3;have HB3:Hid (Below wr.heap.size wr V3):=hBV3 _ _ (Nat.le_refl _) (HB2.out.trans (hb3.mono (by omega)));clear hV2 hXV2 g2 f2 d3 hX3 hl3;go_wp2_with fail;refine (jde p.ss.ca p.ss.cl p.ss.cc x.sk.cl V3 HPc3.out.1 HA0.out.2.1).mono ?_;rintro e w4 ⟨ca',cc',rfl,hl4,hlo4,hb4⟩;have hX4:=jak hb4 (Nat.le_refl _) hXV3;have hZ4:=hb4.size;have g4:w4.cell? ⟨wr.heap.size,8,none⟩=some (.slice p.ss.ca p.ss.cl p.ss.cc):=cCc hX4 8;have f4:w4.frozen? ⟨wr.heap.size,8,none⟩=false:=cFz hX4 8;obtain⟨V4,hV4,hXV4,hAp4,hBV4,hs4,ht4⟩:=jf0 (i:=8) hX4 (.slice ca' p.ss.cl cc')
   have d10:V4.cell? ⟨wr.heap.size,10,none⟩=some (.slice p.ss.ga p.ss.gl p.ss.gc):=cCc hXV4 10;have HPg4:Hid (SlC jb5 2 V4.heap.size V4 p.ss.ga p.ss.gl p.ss.gc x.sk.gl):=(HPg3.out.go hb4).apart (HN5.out.g) hAp4;have HL4:Hid (SlC Lab.enc 2 V4.heap.size V4 la' p.ll lc' x.l):=(HL3.out.go hb4).apart (fun z hz _=>by have:=hlo2 z hz;omega) hAp4;have HE4:Hid (SlC jbH 1 V4.heap.size V4 ea' p.ss.el ec' x.sk.e):=(HE3.out.go hb4).apart (fun z hz _=>by have:=hlo3 z hz;omega) hAp4;have HC4:Hid (SlC jbH 1 V4.heap.size V4 ca' p.ss.cl cc' x.sk.cl):=hl4.apart (fun z hz _=>by have:=hlo4 z hz;omega) hAp4;have HB4:Hid (Below wr.heap.size wr V4):=hBV4 _ _ (Nat.le_refl _) (HB3.out.trans (hb4.mono (by omega)));clear hV3 hXV3 g3 f3 d8 hX4 hl4;go_wp2_with fail;refine (jf2 p.ss.ga p.ss.gl p.ss.gc x.sk.gl V4 HPg4.out.1 HA0.out.2.2).mono ?_;rintro e w5 ⟨ga',gc',rfl,hl5,hlo5,hb5⟩;have hX5:=jak hb5 (Nat.le_refl _) hXV4;have hZ5:=hb5.size;have g5:w5.cell? ⟨wr.heap.size,10,none⟩=some (.slice p.ss.ga p.ss.gl p.ss.gc):=cCc hX5 10;have f5:w5.frozen? ⟨wr.heap.size,10,none⟩=false:=cFz hX5 10;obtain⟨V5,hV5,hXV5,hAp5,hBV5,hs5,ht5⟩:=jf0 (i:=10) hX5 (.slice ga' p.ss.gl gc');have HL5:=(HL4.out.go hb5).apart (fun z hz _=>by have:=hlo2 z hz;omega) hAp5;have HE5:=(HE4.out.go hb5).apart (fun z hz _=>by have:=hlo3 z hz;omega) hAp5;have HC5:=(HC4.out.go hb5).apart (fun z hz _=>by have:=hlo4 z hz;omega) hAp5;have HG5:=hl5.apart (fun z hz _=>by have:=hlo5 z hz;omega) hAp5
   have hB5:Below wr.heap.size wr V5:=hBV5 _ _ (Nat.le_refl _) (HB4.out.trans (hb5.mono (by omega)));have hApp:Apart wr.heap.size w2 V5:=(((((hAp2.trans (Apart.of_below hb3)).trans hAp3).trans (Apart.of_below hb4)).trans hAp4).trans (Apart.of_below hb5)).trans hAp5;have HLf5:Hid (∀ z,la'=some z->Loose V5 z.block):=fun z hz=>(HLf2.out z hz).of_heap (hApp.2 _ (HLf2.out z hz).lt (by have:=hlo2 z hz;omega))
   clear hApp;obtain⟨p',hp'⟩:∃ p':SerP,p'=⟨la',p.ll,lc',⟨ea',p.ss.el,ec',ca',p.ss.cl,cc',ga',p.ss.gl,gc'⟩⟩:=⟨_,rfl⟩;have HAt:p'.At V5.heap.size V5 x:=by subst hp';exact⟨HL5,HE5,HC5,HG5⟩
   have HOf:p'.Off (fun b=>base<=b/\some b≠Value.ownBlock (.slice ua nn uc)):=by
    have hlt:=HG.out.own.lt;have hk0:∀ z,wr.heap.size<=z->base<=z/\some z≠Value.ownBlock (.slice ua nn uc):=fun z hz=>⟨by have:=hB.size;omega,fun h=>by have:=(hlt z h.symm).2;omega⟩
    subst hp';exact⟨fun z h1 _=>hk0 _ (by have:=hlo2 z h1;omega),fun z h1 _=>hk0 _ (by have:=hlo3 z h1;omega),fun z h1 _=>hk0 _ (by have:=hlo4 z h1;omega),fun z h1 _=>hk0 _ (by have:=hlo5 z h1;omega)⟩
   obtain⟨g6,cap6,w6,hap6,hG6,hB6,hz6,hfr6⟩:=(HG.out.go hB5).push (hB.trans (hB5.mono (by omega))) (Nat.le_refl _) (by have:=hB5.size;omega) (by rw[HN.out];exact hnn) HAt HOf;have hown6:=(HG.out.go hB5).push_own (by rw[HN.out];exact hnn) hap6;rw[HN.out] at hap6 hG6 hown6;obtain⟨s0,s1,s2,s3,s4,s5,s6,s7,s8,s9,s10,s11⟩:=jbU hXV5
   have FI:Hid (∃ m'':List (Ser × SerP),GrowS base (base <= ·) w6 (.slice (some ⟨g6,0,none⟩) (nn+1) cap6) (m++m'')/\m''.length=k+1/\m''.map (·.1)=(l.map (·.1)).take (k+1)/\Below base w w6/\w.heap.size<=w6.heap.size/\(∀ b,b<w.heap.size->some b≠Value.ownBlock (.slice va m.length vc)->w6.heap[b]? = w.heap[b]? /\ some b≠Value.ownBlock (.slice (some ⟨g6,0,none⟩) (nn+1) cap6))/\(∀ e∈m++m'',jcI w6 e)):=by
    have hz5:=hB5.size;refine⟨m'++[(x,p')],by rw[<- List.append_assoc];exact hG6,by rw[List.length_append,HL.out];rfl,?_,hB6,by omega,fun c hc hc2=>?_,fun e he z hz hz0=>?_⟩
    ·rw[List.map_append,HMP.out,jan HX.out];rfl
    ·obtain⟨h1,h2⟩:=HFr.out c hc hc2
     refine⟨(hfr6 c (by omega) h2).trans ((hB5.block c (by omega)).trans h1),?_⟩;rcases hown6 with h | ⟨g,h,hg⟩
     ·rw[h];exact h2
     ·rw[h];intro h3;injection h3 with h3;omega
    ·rw[<- List.append_assoc] at he
     rcases List.mem_append.1 he with he | he
     ·have h1:=HFe.out e he z hz hz0
      have h2:=h1.lt;exact (h1.of_heap (hB5.block _ h2)).of_heap (hfr6 _ (by omega) ((HG.out.off e he).l z hz hz0).2)
     ·rw[List.mem_singleton] at he
      subst he;have h3:=HOf.l z hz hz0;subst hp';have h1:=HLf5.out z hz;exact h1.of_heap (hfr6 _ h1.lt h3.2)
   unfold ja1 at hap6;clear hs1;subst hp';dsimp only at hap6;clear hV4 hXV4 g4 f4 d10 hX5 hl5 HL5 HE5 HC5 HG5 hAp5 hAp4 hAp3 hAp2 hG6 hfr6 hown6 HOf HAt hXV5 hBV5 hBV4 hBV3 hBV2;go_wp2_with fail;go_roundw
   case rel =>
    obtain⟨m'',h1,h2,h3,h4,h5,h6,h7⟩:=FI.out;exact⟨k+1,m'',by go_num,by omega,h1,h2,h3,h4,h5,h6,h7⟩
   case measure=>simp[intOf];omega
  ·have H9:Hid (m'.map (·.1)=l.map (·.1)):=by rw[Hid,HMP.out,List.take_of_length_le (by rw[List.length_map];omega)]
   go_wp2_with fail;go_ret;exact⟨_,rfl,m',HG.out,H9.out,hB,fun a b h=>HFe.out (a,b) (List.mem_append.2 h)⟩
end Go.Proofs.YtieknocphiceoaaGreatDoor
namespace Go.Proofs.YtieknocphiceoaaGreatDoor
open Go Go.RowKit Go.Shelf
theorem Tab.drop {n₀:Nat} {w:World} {a:Option Addr} {len cap:Nat} {l:List (Ser × SerP)} (h:Tab n₀ w a len cap l) (m:Nat) (hm:m<=len):Tab n₀ w (jc6 a cap m 12) (len-m) (cap-m) (l.drop m):=⟨h.row.drop m hm,fun e he=>h.at_ e (List.mem_of_mem_drop he)⟩
theorem jld (a:Option Addr) (len cap m:Nat) (w:World) (h:m<=cap):(Instr.slice 22 (.slice a len cap) none (some (.int .i64 (m:Int))) none).run Tryz.prog w=.ok (.slice a m cap) w:=by
 have hz:=jhn a cap 12;unfold jc6 at hz;have hs:(sizeOf 70).run Tryz.prog w=.ok 12 w:=by kernel_rfl
 have he:Tryz.prog.elem 22=70:=by kernel_rfl
 rw[run_slice_h (t:=22) (a:=a) (len:=len) (cap:=cap) (w:=w) (ht:=by rw[he];exact jbx) (kh:=.i64) (h:=(m:Int)) (by omega) (by omega),he,hs];simp only[Result.andThen,sliced,Int.toNat_natCast,Nat.sub_zero,hz]
theorem jhH (a:Option Addr) (len cap m:Nat) (w:World) (h:m<=len):(Instr.slice 22 (.slice a len cap) (some (.int .i64 (m:Int))) none none).run Tryz.prog w=.ok (.slice (jc6 a cap m 12) (len-m) (cap-m)) w:=by
 have hs:(sizeOf 70).run Tryz.prog w=.ok 12 w:=by kernel_rfl
 have he:Tryz.prog.elem 22=70:=by kernel_rfl
 rw[run_slice_l (t:=22) (a:=a) (len:=len) (cap:=cap) (w:=w) (ht:=by rw[he];exact jbx) (kl:=.i64) (l:=(m:Int)) (by omega) (by omega),he,hs];simp only[Result.andThen,sliced,Int.toNat_natCast,jc6]
theorem jrn {w:World} {x:Ser} {p:SerP} (h:p.At w.heap.size w x):Tab (w.alloc (.cells (ja1 x p).toArray 70)).heap.size (w.alloc (.cells (ja1 x p).toArray 70)) (some ⟨w.heap.size,0,none⟩) 1 1 [(x,p)]:=by
 have hB:Below w.heap.size w (w.alloc (.cells (ja1 x p).toArray 70)):=(Below.refl _ w).alloc (Nat.le_refl _) _;have hz:w.heap.size<(w.alloc (.cells (ja1 x p).toArray 70)).heap.size:=by simp
 refine⟨⟨⟨rfl,fun j y hy=>?_⟩,Nat.le_refl _,by unfold maxLen;omega,(fun h=>by cases h),fun z hz1 _=>?_⟩,fun e he=>?_⟩
 ·have hj:j=0:=by have:=(List.getElem?_eq_some_iff.1 hy).1;simp at this;exact this
  subst hj;obtain rfl:(x,p)=y:=by simpa using hy
  refine⟨w.heap.size,0,rfl,hz,fun i hi=>?_⟩;have:=cCc (World.alloc_heap_new w (.cells (ja1 x p).toArray 70)) i;simp[ja4]
 ·injection hz1 with hz1
  subst hz1;exact⟨rfl,hz⟩
 ·rw[List.mem_singleton] at he
  subst he;exact h.go hB
theorem jlQ (w:World) (c:Nat) (hc:c<=1000):∃ w',(Instr.makeSlice 22 (.int .i64 0) (.int .i64 (c:Int))).run Tryz.prog w=.ok (.slice (some ⟨w.heap.size,0,none⟩) 0 c) w'/\GrowS w.heap.size (w.heap.size <= ·) w' (.slice (some ⟨w.heap.size,0,none⟩) 0 c) []/\Below w.heap.size w w':=by
 obtain⟨i,hi,hz,hsize,hby⟩:=info_parts jch;obtain⟨w',h1,h2,h3⟩:=run_makeSlice_owned (P:=Tryz.prog) w w.heap.size 22 70 i _ 12 jbx hi hz hsize .i64 .i64 c (by omega) (by rw[hby];omega) (by unfold maxLen;omega) (Nat.le_refl _);exact⟨w',h1,⟨h2,(fun e h=>by cases h),(fun e h=>by cases h)⟩,⟨h3.os,h3.tape,h3.output,h3.size,fun k hk=>h3.block k hk (fun h=>by cases h)⟩⟩
def jrc (l:List Ser) (x:Ser):List Ser:=l.take (jb8 l x.l)++x::l.drop (jb8 l x.l+(if jcn l x.l then 1 else 0))
def jdV (l:List Ser) (x:Ser):Bool:=jag l&&jaM x&&(jcn l x.l || !(l.length==20))
def jmp (l:List Ser) (x:Ser) (w:World) (e:Ending) (w':World):Prop :=
 Below w.heap.size w w'/\((jdV l x=false/\e=.returned (.tuple #[.slice none 0 0,.int .i64 120])) \/
  (jdV l x=true/\∃ a' cap' m,e=.returned (.tuple #[.slice a' (List.length m) cap',.int .i64 0])/\Tab w'.heap.size w' a' m.length cap' m/\m.map (·.1)=jrc l x/\(∀ z,a'=some z->w.heap.size<=z.block)/\(∀ e∈m,e.2.Off (fun b=>w.heap.size<=b/\∀ z,a'=some z->b≠z.block))/\(∀ z,a'=some z->Loose w' z.block)/\(∀ e∈m,jcI w' e)))
theorem SerFit.add {x:Ser} {p:SerP} (h:SerFit x p) (hr:jar x.l=true) {n:Nat} {w:World} (ha:p.At n w x):p.ll<2147483648/\p.ss.Short:=by
 refine⟨?_,h.short⟩;have h1:=ha.l.1.1;have h2:x.l.length<=6:=by simp[jar] at hr;exact hr.1.2
 omega
theorem jjG:∀ (l:List Ser) (p:Option (List Lab)),jbJ p l=true->∀ x∈l,jaM x=true
 | [],_,_,x,h=>by cases h
 | y::r,p,h,x,hx=>by
  simp only[jbJ,Bool.and_eq_true] at h;rcases List.mem_cons.1 hx with rfl | hx
  ·exact h.1.1
  ·exact jjG r _ h.2 x hx
theorem jfY {l:List (Ser × SerP)} {n:Nat} {w:World} {a:Option Addr} {len cap:Nat} (hr:jag (l.map (·.1))=true) (hF:jbu l) (hT:Tab n w a len cap l):jfX l:=fun e he=>by
 simp only[jag,Bool.and_eq_true] at hr;have h1:=jjG _ _ hr.2 e.1 (List.mem_map_of_mem he);simp only[jaM,Bool.and_eq_true] at h1;exact (hF e he).add h1.1 (hT.at_ e he)
def jaB (x:Ser):Int:=jbm x.sk+((je1 x.l).size:Int)
def jaw:List Ser->Int
 | []=>0
 | x::r=>jaB x+jaw r
theorem jfq (a b:List Ser):jaw (a++b)=jaw a+jaw b:=by
 induction a with
 | nil=>simp[jaw]
 | cons x a ih=>simp only[List.cons_append,jaw,ih];omega
theorem jdL {x:Sk} {s:SS} {n:Nat} {w:World} (hx:s.At n w x) (hs:s.Short) (hr:x.hr.size<2147483648):0<=jbm x/\jbm x<=34359738400:=by
 have h1:=hx.e.1.1;have h2:=hx.c.1.1;have h3:=hx.g.1.1;obtain⟨s1,s2,s3⟩:=hs;unfold jbm
 repeat' split
 all_goals omega
theorem jex {l:List Lab} (h:jez l):(je1 l).size<=180388625808:=by
 unfold je1;split
 ·rename_i hr
  have h6:l.length<=6:=by simp[jar] at hr;exact hr.1.2
  obtain⟨ls,rfl⟩:=jkf l h;rw[jdw,Lib.size_eq]
  have h7:=jkZ [44] 30064770967 (((ls.map (·.1)).map jc7).map (·.data.toList)) (fun x hx=>by
   simp only[List.mem_map] at hx;obtain⟨_,⟨_,⟨u,_,rfl⟩,rfl⟩,rfl⟩:=hx;exact jgg u)
  simp only[List.length_map,List.length_singleton] at h7 h6;have:ls.length*(30064770967+1)<=6*(30064770967+1):=Nat.mul_le_mul_right _ h6;simp only[];omega
 ·exact Nat.zero_le _
theorem jdz {x:Ser} {p:SerP} {n:Nat} {w:World} (h:p.At n w x) (hf:SerFit x p):0<=jaB x/\jaB x<=220000000000:=by
 have h1:=jdL h.s hf.short hf.hr;have h2:=jex hf.lab;unfold jaB;omega
theorem jbp:∀ (l:List (Ser × SerP)) (n:Nat) (w:World),(∀ e∈l,e.2.At n w e.1)->jbu l->0<=jaw (l.map (·.1))/\jaw (l.map (·.1))<=220000000000*l.length
 | [],_,_,_,_=>by simp[jaw]
 | e::r,n,w,h,hf=>by
  have h1:=jdz (h e List.mem_cons_self) (hf e List.mem_cons_self);have h2:=jbp r n w (fun e he=>h e (List.mem_cons_of_mem _ he)) (fun e he=>hf e (List.mem_cons_of_mem _ he));simp only[List.map_cons,jaw,List.length_cons];omega
def jaz (l:List Ser):Int:=if jag l then jaw l else 0
set_option maxRecDepth 100000 in
set_option maxHeartbeats 4000000 in
theorem jbk (l:List (Ser × SerP)) (a:Option Addr) (len cap:Nat) (w:World) (hT:Tab w.heap.size w a len cap l) (hF:jbu l) (hG:GW w) :
  Calls Tryz.prog 37 #[.slice a len cap] w fun e w'=>e=.returned (.int .i64 (jaz (l.map (·.1))))/\Below w.heap.size w w':=by
 have hR:=ja2 l a len cap w hT hF hG;have hlen:=hT.row.1.1;subst hlen;have HT:=Lib.hid hT;have HF:=Lib.hid hF;have HG:=Lib.hid hG;have hm:l.length<=maxLen:=Nat.le_trans hT.row.2.1 hT.row.2.2.1;unfold maxLen at hm
 have HK:Hid (∀ k,k<=l.length->0<=jaw ((l.map (·.1)).take k)/\jaw ((l.map (·.1)).take k)<=220000000000*k):=fun k hk=>by
  have h1:=jbp (l.take k) _ _ (fun e he=>hT.at_ e (List.mem_of_mem_take he)) (fun e he=>hF e (List.mem_of_mem_take he));rw[List.map_take,List.length_take,Nat.min_eq_left hk] at h1;exact h1
 clear hT hF hG
 cases hr:jag (l.map (·.1)) with
 | false =>
  rw[hr] at hR;have HR:Hid (jaz (l.map (·.1))=0):=by rw[Hid,jaz,hr];rfl
  generalize jaz (l.map (·.1))=cR at HR ⊢;clear hr;go_enter Tryz.func37,Tryz.ntmps37;go_wp2_with (go_at_call 39;refine hR.mono ?_;rintro e w1 ⟨rfl,hb1⟩);go_ret;exact⟨by rw[HR.out];rfl,hb1⟩
 | true =>
  rw[hr] at hR;have HR:Hid (jaz (l.map (·.1))=jaw (l.map (·.1))):=by rw[Hid,jaz,hr];rfl
  have h20:l.length<=20:=by simp[jag] at hr;exact hr.1
  generalize jaz (l.map (·.1))=cR at HR ⊢;clear hr;go_enter Tryz.func37,Tryz.ntmps37;go_wp2_with (go_at_call 39;refine hR.mono ?_;rintro e w1 ⟨rfl,hb1⟩);clear hR;go_loopw [3,13] (fun c i wr=>∃ (k:Nat) (s:Int),i=.int .i64 k/\c=.int .i64 s/\k<=l.length/\Below w.heap.size w wr/\Hid (s=jaw ((l.map (·.1)).take k))/\0<=s/\s<=220000000000*k) (fun _ i _=>l.length-(intOf i).toNat)
  case atStart=>exact⟨0,0,rfl,rfl,Nat.zero_le _,hb1,rfl,by omega,by omega⟩
  case round =>
   obtain⟨k,s,rfl,rfl,hk,hB,HS,hs0,hs1⟩:=hrel;have hsz:=hB.size;by_cases hlt:k<l.length
   ·obtain⟨⟨x,p⟩,hx⟩:∃ x,l[k]? = some x:=⟨_,List.getElem?_eq_getElem hlt⟩
    obtain⟨b,off,rfl,hbb,hc⟩:=(HT.out.below hB).row.1.2 k (x,p) hx;have c0:wr.cell? ⟨b,off+k*12,none⟩=some (.slice p.la p.ll p.lc):=hc 0 (by omega);have c1:wr.cell? ⟨b,off+k*12+1,none⟩=some (.int .i64 x.sk.kind):=hc 1 (by omega);have c2:wr.cell? ⟨b,off+k*12+2,none⟩=some (.int .i64 x.sk.level):=hc 2 (by omega);have c3:wr.cell? ⟨b,off+k*12+3,none⟩=some (.slice p.ss.ea p.ss.el p.ss.ec):=hc 3 (by omega);have c4:wr.cell? ⟨b,off+k*12+4,none⟩=some (.int .i64 x.sk.hb):=hc 4 (by omega);have c5:wr.cell? ⟨b,off+k*12+5,none⟩=some (.string x.sk.hr):=hc 5 (by omega);have c6:wr.cell? ⟨b,off+k*12+6,none⟩=some (.int .i64 x.sk.cr):=hc 6 (by omega);have c7:wr.cell? ⟨b,off+k*12+7,none⟩=some (.int .i64 x.sk.cc):=hc 7 (by omega);have c8:wr.cell? ⟨b,off+k*12+8,none⟩=some (.slice p.ss.ca p.ss.cl p.ss.cc):=hc 8 (by omega);have c9:wr.cell? ⟨b,off+k*12+9,none⟩=some (.int .i64 x.sk.gf):=hc 9 (by omega);have c10:wr.cell? ⟨b,off+k*12+10,none⟩=some (.slice p.ss.ga p.ss.gl p.ss.gc):=hc 10 (by omega);have c11:wr.cell? ⟨b,off+k*12+11,none⟩=some (.int .u64 x.seen):=hc 11 (by omega);have HX:Hid ((l.map (·.1))[k]? = some x):=by rw[Hid,List.getElem?_map,hx];rfl
    have HP:Hid (p.At wr.heap.size wr x):=((HT.out.at_ _ (List.mem_of_getElem? hx)).below hB).mono hsz;have HFx:=Lib.hid (HF.out _ (List.mem_of_getElem? hx));obtain⟨W1,hW1,hX1,hB1,hzz⟩:=jah wr #[.slice p.la p.ll p.lc,.int .i64 x.sk.kind,.int .i64 x.sk.level,.slice p.ss.ea p.ss.el p.ss.ec,.int .i64 x.sk.hb,.string x.sk.hr,.int .i64 x.sk.cr,.int .i64 x.sk.cc,.slice p.ss.ca p.ss.cl p.ss.cc,.int .i64 x.sk.gf,.slice p.ss.ga p.ss.gl p.ss.gc,.int .u64 x.seen] 70;obtain⟨r0,r1,r2,r3,r4,r5,r6,r7,r8,r9,r10,r11⟩:=jbU hX1;have HP1:Hid (p.At W1.heap.size W1 x):=HP.out.go hB1;have HG1:Hid (GW W1):=HG.out.below (hB.trans (hB1.mono hsz));have hz1:wr.heap.size<W1.heap.size:=by omega
    have hT2:=jex HFx.out.lab;obtain⟨hC1,hC2⟩:=jdL HP.out.s HFx.out.short HFx.out.hr
    have H9:Hid (jaw ((l.map (·.1)).take (k+1))=s+(jbm x.sk+((je1 x.l).size:Int))):=by
     rw[Hid,jan HX.out,jfq,<- HS.out];simp[jaw,jaB]
    have HTx:=jjb p.la p.ll p.lc x.l W1 HP1.out.l.1 HFx.out.lab HG1.out HFx.out.ll;have HCx:Hid (∀ w',Below W1.heap.size W1 w'->Calls Tryz.prog 80 #[.agg #[.int .i64 x.sk.kind,.int .i64 x.sk.level,.slice p.ss.ea p.ss.el p.ss.ec,.int .i64 x.sk.hb,.string x.sk.hr,.int .i64 x.sk.cr,.int .i64 x.sk.cc,.slice p.ss.ca p.ss.cl p.ss.cc,.int .i64 x.sk.gf,.slice p.ss.ga p.ss.gl p.ss.gc]] w' fun e w''=>e=.returned (.int .i64 (jbm x.sk))/\Below w'.heap.size w' w''):=fun w' hb=>jgi x.sk p.ss w' (HP1.out.go hb).s HFx.out.short HFx.out.fit HFx.out.hr
    generalize je1 x.l=tx at *;generalize jbm x.sk=cx at *;clear hc hx
    go_wp2_with (first
     | (go_at_call 79;refine HTx.mono ?_;rintro e w2 ⟨rfl,hb2⟩;obtain⟨hc2,hd2⟩:=je4 hb2)
     | (go_at_call 80;refine (HCx.out _ hb2).mono ?_;rintro e w3 ⟨rfl,hb3⟩))
    have hBB:Below w.heap.size w w3:=hB.trans ((hB1.trans ((hb2.trans (hb3.mono hb2.size)).mono (by omega))).mono hsz);go_roundw
    case rel=>exact⟨k+1,s+(cx+(tx.size:Int)),by go_num,by go_num,by omega,hBB,H9.out.symm,by omega,by omega⟩
    case measure=>simp[intOf];omega
   ·obtain rfl:k=l.length:=by omega
    have H9:Hid (cR=s):=by rw[Hid,HR.out,HS.out,List.take_of_length_le (by rw[List.length_map];exact Nat.le_refl _)]
    go_wp2_with fail;go_ret;exact⟨by rw[H9.out];rfl,hB⟩
end Go.Proofs.YtieknocphiceoaaGreatDoor
