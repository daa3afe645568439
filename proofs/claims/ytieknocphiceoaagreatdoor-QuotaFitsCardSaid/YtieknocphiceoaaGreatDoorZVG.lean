/- aviaryref13.Fit. -/
import Derived.Test.YtieknocphiceoaaGreatDoorZVF
namespace Go.Proofs.YtieknocphiceoaaGreatDoor
open Go Go.RowKit Go.Shelf
def jsy:Value->Nat
 | .slice _ n _=>n
 | _=>0
theorem jlM (a:Option Addr) (n c:Nat):jsy (.slice a n c)=n:=rfl
structure RFit (b:Int) (w:World) (L:List Ser) (W:World) (m:List (Ser × SerP)) (ta:Option Addr) (tc:Nat) (pa:Option Addr) (pc:Nat) (ps:List Nat):Prop where
 tab:Tab W.heap.size W ta m.length tc m
 qt:QT (m.map (·.1))
 fit:FitTo b L (m.map (·.1)) ps
 own:W.ownsRow w.heap.size 3 1 (.slice pa ps.length pc) ps.length (ps.flatMap jeb)
 off:∀ z,pa=some z->OffB z.block ta m
 small:mu (m.map (·.1))+ps.length<=80
 below:Below w.heap.size w W
theorem RFit.go {b:Int} {w W W':World} {L:List Ser} {m:List (Ser × SerP)} {ta pa:Option Addr} {tc pc:Nat} {ps:List Nat} (h:RFit b w L W m ta tc pa pc ps) (hb:Below W.heap.size W W'):RFit b w L W' m ta tc pa pc ps :=
 ⟨h.tab.go hb,h.qt,h.fit,jet h.own hb,h.off,h.small,h.below.trans (hb.mono h.below.size)⟩
theorem jgj {m:List (Ser × SerP)} {v:Nat} {x:Ser} {p:SerP} (hx:m[v]? = some (x,p)) (q:SerP):(m.set v (jcN x,q)).map (·.1)=jcY (m.map (·.1)) v:=by
 rw[jeT (x:=x) (by rw[List.getElem?_map,hx];rfl),List.map_set]
theorem RFit.step {b:Int} {w W w5 w6:World} {L:List Ser} {m:List (Ser × SerP)} {ta:Option Addr} {tc:Nat} {ps:List Nat} {pa:Option Addr} {pc:Nat} {g pc' v:Nat} {x:Ser} {p:SerP} {tb:Option Addr} {tbc:Nat} {s:SS} (h:RFit b w L W m ta tc pa pc ps)
  (hc:b<jaw (m.map (·.1))) (hv:jbK (m.map (·.1))=some v) (hx:m[v]? = some (x,p)) (hm:jbv x=true)
  (ho:w5.ownsRow w.heap.size 3 1 (.slice (some ⟨g,0,none⟩) (ps++[v]).length pc') (ps++[v]).length ((ps++[v]).flatMap jeb)) (hB5:Below w.heap.size w w5) (hog:OffB g ta m) (hg:g<w5.heap.size)
  (hT:Tab w6.heap.size w6 tb m.length tbc (m.set v (jcN x,⟨p.la,p.ll,p.lc,s⟩))) (hfr:∀ z,tb=some z->w5.heap.size<=z.block) (hs:s.From w5.heap.size) (hB6:Below w5.heap.size w5 w6) :
  RFit b w L w6 (m.set v (jcN x,⟨p.la,p.ll,p.lc,s⟩)) tb tbc (some ⟨g,0,none⟩) pc' (ps++[v]):=by
 have hx1:(m.map (·.1))[v]? = some x:=by rw[List.getElem?_map,hx];rfl
 refine⟨by rw[List.length_set];exact hT,?_,?_,jet ho hB6,fun z hz=>?_,?_,hB5.trans (hB6.mono hB5.size)⟩
 ·rw[jgj hx];exact h.qt.low hx1 hm
 ·rw[jgj hx];exact h.fit.step h.qt hc hv
 ·cases hz
  refine⟨fun z hz=>by have:=hfr z hz;show z.block≠g;omega,fun e he=>?_⟩;rcases List.mem_or_eq_of_mem_set he with he | rfl
  ·exact hog.2 e he
  ·have h2:=hog.2 _ (List.mem_of_getElem? hx)
   exact⟨h2.l,fun z hz _=>by have:=hs.1 z hz;show z.block≠g;omega,fun z hz _=>by have:=hs.2.1 z hz;show z.block≠g;omega,fun z hz _=>by have:=hs.2.2 z hz;show z.block≠g;omega⟩
 ·rw[jgj hx]
  have h1:=jjg h.qt hx1 hm;have h2:=h.small;rw[List.length_append];simp only[List.length_singleton];omega
theorem jj6 {b:Int} {L:List Ser} {n:Int} {w w':World} (h:jas b L=([],[],n)) (hB:Below w.heap.size w w'):jmg b L (jas b L).2.1 (jas b L).2.2 w (.returned (.tuple #[.slice none 0 0,.slice none 0 0,.int .i64 n])) w':=by
 rw[h];exact⟨[],none,0,none,0,rfl,Tab.nil,by rw[h];rfl,SlC.nil,hB⟩
theorem RFit.post {b:Int} {w W:World} {L:List Ser} {m:List (Ser × SerP)} {ta pa:Option Addr} {tc pc:Nat} {ps:List Nat} (h:RFit b w L W m ta tc pa pc ps) (hr:jag L=true) (hbu:jav b=true) (hc:jaw (m.map (·.1))<=b) :
  jmg b L (jas b L).2.1 (jas b L).2.2 w (.returned (.tuple #[.slice ta m.length tc,.slice pa ps.length pc,.int .i64 0])) W:=by
 have he:jas b L=(m.map (·.1),ps,0):=jj5 hr hbu (h.fit.done hc);rw[he];obtain⟨a',c',hv,hS,-⟩:=jaE (enc:=jeb) jkS h.own
 cases hv
 exact⟨m,ta,tc,pa,pc,rfl,h.tab,by rw[he],hS,h.below⟩
attribute [-go_sem] Builtin.append_
set_option maxRecDepth 100000 in
set_option maxHeartbeats 4000000 in
theorem jis (b:Int) (l:List (Ser × SerP)) (a:Option Addr) (len cap:Nat) (w:World) (hT:Tab w.heap.size w a len cap l) (hF:jbu l) (hL:jdC (l.map (·.1))) (hQ:jag (l.map (·.1))=true->QT (l.map (·.1))) :
  Calls Tryz.prog 9 #[.slice a len cap,.int .i64 b] w (jmg b (l.map (·.1)) (jas b (l.map (·.1))).2.1 (jas b (l.map (·.1))).2.2 w):=by
 have hR:=jcc l a len cap w hT hF hL;have hlen:=hT.row.1.1;subst hlen;have HT:=Lib.hid hT;have HI:Hid (∀ w,Calls Tryz.prog 45 #[.int .i64 b] w fun e w'=>e=.returned (.bool (jav b))/\w'=w):=fun w=>jc2 b w
 clear hT hF hL;obtain⟨L,hLe⟩:∃ L,l.map (·.1)=L:=⟨_,rfl⟩;rw[hLe] at hR hQ ⊢
 cases hr:jag L with
 | false =>
  rw[hr] at hR;have HE:Hid (∀ w',Below w.heap.size w w'->jmg b L (jas b L).2.1 (jas b L).2.2 w (.returned (.tuple #[.slice none 0 0,.slice none 0 0,.int .i64 120])) w'):=fun w' hb=>jj6 (jiX hr) hb
  clear hr hQ hLe;generalize jmg b L (jas b L).2.1 (jas b L).2.2 w=Q at HE ⊢;go_enter Tryz.func9,Tryz.ntmps9;go_wp2_with (go_at_call 44;refine hR.mono ?_;rintro e w1 ⟨rfl,hb1⟩);go_ret3;exact HE.out _ hb1
 | true =>
  rw[hr] at hR
  cases hbu:jav b with
  | false =>
   rw[hbu] at HI;have HE:Hid (∀ w',Below w.heap.size w w'->jmg b L (jas b L).2.1 (jas b L).2.2 w (.returned (.tuple #[.slice none 0 0,.slice none 0 0,.int .i64 130])) w'):=fun w' hb=>jj6 (jmZ hr hbu) hb
   clear hr hQ hbu hLe;generalize jmg b L (jas b L).2.1 (jas b L).2.2 w=Q at HE ⊢;go_enter Tryz.func9,Tryz.ntmps9
   go_wp2_with (first
    | (go_at_call 44;refine hR.mono ?_;rintro e w1 ⟨rfl,hb1⟩)
    | (go_at_call 45;refine (HI.out _).mono ?_;rintro e w2 ⟨rfl,rfl⟩))
   go_ret3;exact HE.out _ hb1
  | true =>
   rw[hbu] at HI;have HE:Hid (∀ w',fit b L=none->Below w.heap.size w w'->jmg b L (jas b L).2.1 (jas b L).2.2 w (.returned (.tuple #[.slice none 0 0,.slice none 0 0,.int .i64 130])) w'):=fun w' hn hb=>jj6 (jj4 hr hbu hn) hb
   have HD:Hid (∀ (m:List (Ser × SerP)) (ta:Option Addr) (tc:Nat) (pa:Option Addr) (pc:Nat) (ps:List Nat) W,RFit b w L W m ta tc pa pc ps->jaw (m.map (·.1))<=b->jmg b L (jas b L).2.1 (jas b L).2.2 w (.returned (.tuple #[.slice ta m.length tc,.slice pa ps.length pc,.int .i64 0])) W):=fun m ta tc pa pc ps W h hc=>h.post hr hbu hc
   have hbb:0<=b/\b<=1000000:=by simpa [jav] using hbu
   obtain⟨hv0,hv1⟩:=hbb;have HS0:Hid (∀ W,Below w.heap.size w W->RFit b w L W l a cap none 0 []):=fun W hb=>⟨HT.out.go hb,by rw[hLe];exact hQ hr,by rw[hLe];exact .start b L,World.ownsRow_nil _ _ _ _,(fun z hz=>by cases hz),by rw[hLe];have:=(hQ hr).mu;simpa using this,hb⟩
   clear hr hQ hbu hLe;generalize jmg b L (jas b L).2.1 (jas b L).2.2 w=Q at HE HD ⊢;go_enter Tryz.func9,Tryz.ntmps9
   go_wp2_with (first
    | (go_at_call 44;refine hR.mono ?_;rintro e w1 ⟨rfl,hb1⟩)
    | (go_at_call 45;refine (HI.out _).mono ?_;rintro e w2 ⟨rfl,rfl⟩))
   have HS1:=Lib.hid (HS0.out _ hb1);clear HS0 hR HI HT hb1;go_loopw [0,7] (fun tv pv wr=>∃ (m:List (Ser × SerP)) (ta:Option Addr) (tc:Nat) (pa:Option Addr) (pc:Nat) (ps:List Nat),tv=.slice ta m.length tc/\pv=.slice pa ps.length pc/\ps.length<=80/\Hid (RFit b w L wr m ta tc pa pc ps)) (fun _ pv _=>100-jsy pv)
   case atStart=>exact⟨l,a,cap,none,0,[],rfl,rfl,by decide,HS1.out⟩
   case round =>
    obtain⟨m,ta,tc,pa,pc,ps,rfl,rfl,hps,HA⟩:=hrel;have hF:=jbw HA.out.tab HA.out.qt.fine;have hL:=jqg HA.out.qt;have HCo:=Lib.hid (jbO m ta m.length tc wr HA.out.tab hF hL);have htc:jaz (m.map (·.1))=jaw (m.map (·.1)):=by rw[jaz,HA.out.qt.right,if_pos rfl]
    rw[htc] at HCo;have hcs:=jbp m _ _ HA.out.tab.at_ hF;have h20:m.length<=20:=by have:=HA.out.qt.len;rwa [List.length_map] at this
    have HVi:Hid (∀ W,Below wr.heap.size wr W->Calls Tryz.prog 11 #[.slice ta m.length tc] W fun e w'=>e=.returned (.tuple #[.int .i64 (jhL (m.map (·.1))),.bool (jgU (m.map (·.1)))])/\Below W.heap.size W w'):=fun W hb=>jdF m ta m.length tc W (HA.out.tab.go hb) hF hL
    obtain⟨c0,hc0⟩:∃ c,jaw (m.map (·.1))=c:=⟨_,rfl⟩;rw[hc0] at HCo hcs;have HC0:=Lib.hid hc0;obtain⟨k0,k1⟩:=hcs;have hk2:c0<=4400000000000:=by omega
    clear k1 hc0 htc hF hL;by_cases hc:c0<=b
    ·have hc2:¬ b<c0:=by omega
     go_wp2_with fail;refine HCo.out.mono ?_;rintro e w5 ⟨rfl,hb5⟩;go_wp2_with fail;go_ret3;exact HD.out _ _ _ _ _ _ _ (HA.out.go hb5) (by rw[HC0.out];exact hc)
    ·have hc2:b<c0:=by omega
     have HCb:Hid (b<jaw (m.map (·.1))):=by rw[Hid,HC0.out];exact hc2
     clear hc
     cases hvb:jgU (m.map (·.1)) with
     | false =>
      have HN:Hid (fit b L=none):=HA.out.fit.stuck HCb.out (job HA.out.qt hvb);rw[hvb] at HVi;generalize jhL (m.map (·.1))=vp at HVi;clear hvb;go_wp2_with fail;refine HCo.out.mono ?_;rintro e w5 ⟨rfl,hb5⟩;go_wp2_with fail;refine (HVi.out w5 hb5).mono ?_;rintro e w6 ⟨rfl,hb6⟩;go_wp2_with fail;go_ret3;exact HE.out _ HN.out (HA.out.below.trans ((hb5.trans (hb6.mono hb5.size)).mono HA.out.below.size))
     | true =>
      obtain⟨v,x,hv,hvp,hvl,hx1,hmx⟩:=joc HA.out.qt hvb;rw[List.length_map] at hvl;obtain⟨⟨y,p⟩,hx⟩:∃ x,m[v]? = some x:=⟨_,List.getElem?_eq_getElem hvl⟩;obtain rfl:y=x:=by rw[List.getElem?_map,hx] at hx1;exact Option.some.inj hx1
      rw[hvb,hvp] at HVi;have HX:=Lib.hid hx;have HV:=Lib.hid hv;have HMx:=Lib.hid hmx;have hgd:=HA.out.qt.good y (List.mem_of_getElem? hx1);have HLo:Hid (∀ (w5:World),Tab w5.heap.size w5 ta m.length tc m->Calls Tryz.prog 47 #[.slice ta m.length tc,.int .i64 v] w5 fun e w'=>∃ (tb:Option Addr) (tbc:Nat) (s:SS),e=.returned (.slice tb m.length tbc)/\Tab w'.heap.size w' tb m.length tbc (m.set v (jcN y,⟨p.la,p.ll,p.lc,s⟩))/\(∀ z,tb=some z->w5.heap.size<=z.block)/\s.From w5.heap.size/\Below w5.heap.size w5 w'):=fun w5 h=>jfl hx ta m.length tc w5 h hgd hmx h20
      have hmp:0<m.length:=by omega
      clear hvb hvp hv hx hx1 hmx hgd;go_wp2_with fail;refine HCo.out.mono ?_;rintro e w5 ⟨rfl,hb5⟩;go_wp2_with fail;refine (HVi.out w5 hb5).mono ?_;rintro e w6 ⟨rfl,hb6⟩;have hA6:=(HA.out.go hb5).go hb6;obtain⟨g,pc',w7,hap,ho7,hB7,hT7,hog,hg7⟩:=jkk hA6.own hA6.below (Nat.le_refl _) hA6.below.size (by omega) hA6.tab hmp hA6.off v;have HO7:=Lib.hid ho7;have HB7:=Lib.hid hB7;have HOg:=Lib.hid hog;have HG7:=Lib.hid hg7;have HL7:=Lib.hid (HLo.out w7 hT7);have HA6:=Lib.hid hA6;clear ho7 hB7 hT7 hog hg7 hA6 hb5 hb6 HLo HCo HVi hmp hvl;go_wp2_with fail;refine HL7.out.mono ?_;rintro e w8 ⟨tb,tbc,s,rfl,hT8,hfr,hs8,hB8⟩;have HA8:=Lib.hid (HA6.out.step HCb.out HV.out HX.out HMx.out HO7.out HB7.out HOg.out HG7.out hT8 hfr hs8 hB8);clear hT8 hfr hs8 hB8;go_wp2_with fail;refine⟨⟨m.set v (jcN y,⟨p.la,p.ll,p.lc,s⟩),tb,tbc,some ⟨g,0,none⟩,pc',ps++[v],by rw[List.length_set],by rw[List.length_append];rfl,by have:=HA8.out.small;omega,HA8.out⟩,?_⟩;simp only[jlM];omega
end Go.Proofs.YtieknocphiceoaaGreatDoor
