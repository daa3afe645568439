/- aviarylaw13.QuotaSteps answers true. -/
import Derived.Test.YtpnlmfilmbodfaaGreatDoorVQH
import Derived.Test.YtpnlmfilmbodfaaGreatDoorVQK
namespace Go.Proofs.YtpnlmfilmbodfaaGreatDoor
open Go Go.RowKit Go.Shelf
theorem steps_one {b : Int} {t A : List Ser} {v : Nat} {ps : List Nat} (hQ : QT t) (h : fit b t = some (A, v :: ps)) : b < costL t ∧ victim t = some v ∧ fit b (lowAt t v) = some (A, ps) := by
  by_cases hc : costL t ≤ b
  · rw [fit_done hc] at h; cases h
  · cases hv : victim t with
    | none => rw [fit_stuck (by omega) hv] at h; cases h
    | some u =>
      rw [fit_step hQ (by omega) hv, Option.map_eq_some_iff] at h
      obtain ⟨⟨A', ps'⟩, h1, h2⟩ := h
      cases h2
      exact ⟨by omega, rfl, h1⟩
structure StepAt (w1 : World) (b : Int) (A : List Ser) (ps : List Nat) (ta : Option Addr) (nL tc : Nat) (ta3 : Option Addr) (n3 tc3 : Nat) (m3 : List (Ser × SerP)) (pa3 : Option Addr) (pc3 k : Nat) (W : World) (m : List (Ser × SerP)) : Prop where
  len : m.length = nL
  grow : GrowS w1.heap.size (fun _ => True) W (.slice ta nL tc) m
  qt : QT (m.map (·.1))
  fit : fit b (m.map (·.1)) = some (A, ps.drop k)
  tab : Tab W.heap.size W ta3 n3 tc3 m3
  pls : SlC encP 1 W.heap.size W pa3 ps.length pc3 ps
  below : Below w1.heap.size w1 W
section
variable {w1 W W' : World} {b : Int} {A : List Ser} {ps : List Nat} {ta ta3 pa3 : Option Addr} {nL tc n3 tc3 pc3 k : Nat} {m3 m : List (Ser × SerP)}
theorem StepAt.go (h : StepAt w1 b A ps ta nL tc ta3 n3 tc3 m3 pa3 pc3 k W m) (hb : Below W.heap.size W W') : StepAt w1 b A ps ta nL tc ta3 n3 tc3 m3 pa3 pc3 k W' m :=
  ⟨h.len, h.grow.go hb, h.qt, h.fit, h.tab.go hb, h.pls.go hb, h.below.trans (hb.mono h.below.size)⟩
theorem StepAt.tabOf (h : StepAt w1 b A ps ta nL tc ta3 n3 tc3 m3 pa3 pc3 k W m) : Tab W.heap.size W ta nL tc m := by
  have hl := h.len
  subst hl
  obtain ⟨a', c', e1, h1, -⟩ := h.grow.tab
  injection e1 with e1 e2 e3
  subst e1
  subst e3
  exact h1
theorem StepAt.ownOf (h : StepAt w1 b A ps ta nL tc ta3 n3 tc3 m3 pa3 pc3 k W m) : W.ownsRow w1.heap.size 64 12 (.slice ta m.length tc) m.length (m.flatMap serEnc) := by
  have h1 := h.grow.own
  rw [← h.len] at h1
  exact h1
theorem StepAt.step {g v : Nat} {x : Ser} {p : SerP} {y : Sk} {s : SS} (h : StepAt w1 b A ps (some ⟨g, 0, none⟩) nL tc ta3 n3 tc3 m3 pa3 pc3 k W m) (hx : m[v]? = some (x, p)) (hv : ps[k]? = some v) (hA : Apart g W W') (hB : ∀ n w0, n ≤ g → Below n w0 W → Below n w0 W')
    (hO : W'.ownsRow w1.heap.size 64 12 (.slice (some ⟨g, 0, none⟩) m.length tc) m.length ((m.set v (⟨x.l, y, x.seen⟩, ⟨p.la, p.ll, p.lc, s⟩)).flatMap serEnc)) (hs : s.At W.heap.size W y) {n : Nat} (hf : s.From n) (hg : g < n) (hy : y = skLow x.sk) (hm : mayLow x = true)
    (h1 : ∀ z, ta3 = some z → 0 < tc3 → z.block ≠ g) (h2 : ∀ e ∈ m3, e.2.Off (· ≠ g)) (h3 : ∀ z, pa3 = some z → 0 < pc3 → z.block ≠ g) :
    StepAt w1 b A ps (some ⟨g, 0, none⟩) nL tc ta3 n3 tc3 m3 pa3 pc3 (k + 1) W' (m.set v (⟨x.l, y, x.seen⟩, ⟨p.la, p.ll, p.lc, s⟩)) := by
  have hl := h.len
  subst hl
  have hlen : (m.set v (⟨x.l, y, x.seen⟩, (⟨p.la, p.ll, p.lc, s⟩ : SerP))).length = m.length := List.length_set ..
  have hxl : (m.map (·.1))[v]? = some x := by rw [List.getElem?_map, hx]; rfl
  have hmap : (m.set v (⟨x.l, y, x.seen⟩, (⟨p.la, p.ll, p.lc, s⟩ : SerP))).map (·.1) = lowAt (m.map (·.1)) v := by
    rw [lowAt_eq hxl, List.map_set, hy]
    rfl
  have hfit := h.fit
  rw [drop_cons' hv] at hfit
  have hgr := h.grow.setS hx hA hO hs hf hg (fun _ _ => trivial)
  rw [hlen] at hgr
  have hbase := (own_blk h.grow.own).1
  exact ⟨hlen, hgr, by rw [hmap]; exact h.qt.low hxl hm, by rw [hmap]; exact (steps_one h.qt hfit).2.2, h.tab.apart h1 h2 hA, h.pls.apart h3 hA, hB _ _ hbase h.below⟩
end
set_option maxRecDepth 100000 in
set_option maxHeartbeats 4000000 in
theorem quotaSteps_any (l : List (Ser × SerP)) (a : Option Addr) (len cap : Nat) (b : Int) (w : World) (hT : Tab w.heap.size w a len cap l) (hU : ∀ x ∈ l.map (·.1), Ser.wn x) (_hb : I64 b) (hG : GW w) (_ : GT w) :
    Calls Tryz.prog 10 #[.slice a len cap, .int .i64 b] w fun e w' => e = .returned (.bool true) ∧ Below w.heap.size w w' := by
  have HT := Lib.hid hT
  have HG := Lib.hid hG
  obtain ⟨L, hL⟩ : ∃ L, few12 (l.map (·.1)) = L := ⟨_, rfl⟩
  have HQ : Hid (tabRight L = true → QT L) := by rw [← hL]; exact qt_few hU
  have HFi : Hid (∀ x ∈ L, x.fine) := by rw [← hL]; exact fine_few (fun y hy => (hU y hy).wf)
  have HL := Lib.hid hL
  have hok := fitAll_ok (b := b) (L := L)
  obtain ⟨A, hA⟩ : ∃ A, (fitAll b L).1 = A := ⟨_, rfl⟩
  obtain ⟨ps, hps⟩ : ∃ ps, (fitAll b L).2.1 = ps := ⟨_, rfl⟩
  obtain ⟨er, her⟩ : ∃ er, (fitAll b L).2.2 = er := ⟨_, rfl⟩
  rw [hA, hps, her] at hok
  have HOk := Lib.hid hok
  have HA := Lib.hid hA
  have HF1 : Hid (∀ (m : List (Ser × SerP)) (a2 : Option Addr) (len2 cap2 : Nat) W, Tab W.heap.size W a2 len2 cap2 m → m.map (·.1) = L → GW W → Calls Tryz.prog 45 #[.slice a2 len2 cap2, .int .i64 b] W fun e w' => ∃ (m : List (Ser × SerP)) (ta : Option Addr) (tc : Nat) (pa : Option Addr) (pc : Nat), e = .returned (.tuple #[.slice ta m.length tc, .slice pa ps.length pc, .int .i64 er]) ∧ Tab w'.heap.size w' ta m.length tc m ∧ m.map (·.1) = A ∧
      (∀ z, ta = some z → W.heap.size ≤ z.block) ∧ (∀ e ∈ m, e.2.Off (W.heap.size ≤ ·)) ∧ SlC encP 1 w'.heap.size w' pa ps.length pc ps ∧ (∀ z, pa = some z → W.heap.size ≤ z.block) ∧ Below W.heap.size W w') := fun m a2 len2 cap2 W hT hm hG => by
    refine (Fit_any b m a2 len2 cap2 W hT (tabFit_of hT (by rw [hm]; exact HFi.out)) (fun hr => by rw [hm] at hr ⊢; exact HQ.out hr) hG).mono ?_
    rintro e w' ⟨m4, ta, tc, pa, pc, k1, k2, k3, k4, k5, k6, k7, k8⟩
    rw [hm] at k1 k3 k6
    rw [hps] at k1 k6
    rw [her] at k1
    exact ⟨m4, ta, tc, pa, pc, k1, k2, k3.trans hA, k4, fun e he => (k5 e he).imp fun b hb => hb.1, k6, k7, k8⟩
  clear hT hU hG hL hA hps her hok
  go_enter Tryz.func10, Tryz.ntmps10
  go_wp2_with (first
    | (go_at_call 40; refine (shown13_any w HG.out).mono ?_; rintro e w1 ⟨rfl, hb1⟩)
    | (go_at_call 41; refine (few12_grow l a len cap w1 (HT.out.go hb1)).mono ?_; rintro e w2 ⟨a2, cap2, m, rfl, hgr, hm, hb2⟩))
  have hb02 := hb1.trans (hb2.mono hb1.size)
  have hm' := hm.trans HL.out
  obtain ⟨a', c', e1, hT2, -⟩ := hgr.tab
  injection e1 with e1 e2 e3
  subst e1
  subst e3
  have hlt := hgr.own.lt
  refine (HF1.out m a2 _ cap2 w2 hT2 hm' (HG.out.below hb02)).mono ?_
  rintro e w3 ⟨m3, ta3, tc3, pa3, pc3, rfl, hT3, hm3, hta3, hof3, hp3, hpa3, hb3⟩
  have hb03 := hb02.trans (hb3.mono hb02.size)
  have HB1 := Lib.hid hb1
  have hs3 := hp3.2.2.1
  have hs3' := hp3.2.1
  unfold maxLen at hs3
  have hl2 := hT2.row.2.2.1
  have hl2' := hT2.row.2.1
  unfold maxLen at hl2
  by_cases e1 : er = 0
  case neg =>
    have t1 : (er != 0) = true := by rw [bne_iff_ne]; exact e1
    clear HOk HF1 hT3 hm3 hta3 hof3 hp3 hpa3 hT2 hgr hm hm' HT HL HQ HFi HA e1
    generalize m3.length = ml3
    generalize m.length = ml
    go_wp2_with fail
    go_ret
    exact ⟨rfl, hb03⟩
  subst e1
  obtain ⟨hrL, hbu, hfit⟩ := HOk.out rfl
  have HS0 : Hid (StepAt w1 b A ps a2 m.length cap2 ta3 m3.length tc3 m3 pa3 pc3 0 w3 m) := ⟨rfl, hgr.go hb3, by rw [hm']; exact HQ.out hrL, by rw [hm', List.drop_zero]; exact hfit, hT3, hp3, hb2.trans (hb3.mono hb2.size)⟩
  have HM3 := Lib.hid hm3
  have HTa := Lib.hid (And.intro hta3 (And.intro hof3 hpa3))
  have HLt := Lib.hid hlt
  have hl3 := hT3.row.2.2.1
  have hl3' := hT3.row.2.1
  unfold maxLen at hl3
  have h20 : m.length ≤ 20 := by have := (HQ.out hrL).len; rw [← hm', List.length_map] at this; exact this
  have hbu2 : 0 ≤ b ∧ b ≤ 1000000 := by simpa [isBudgetB] using hbu
  clear HOk HF1 hT3 hm3 hta3 hof3 hp3 hpa3 hT2 hgr hm hm' HT HL HQ HFi HA hlt hrL hfit hbu
  generalize m.length = nL at *
  generalize m3.length = n3 at *
  go_wp2_with fail
  go_loopw [9] (fun i wr => ∃ (k : Nat) (m : List (Ser × SerP)), i = .int .i64 k ∧ k ≤ ps.length ∧ Hid (StepAt w1 b A ps a2 nL cap2 ta3 n3 tc3 m3 pa3 pc3 k wr m)) (fun i _ => ps.length - (intOf i).toNat)
  case atStart => exact ⟨0, m, rfl, Nat.zero_le _, HS0.out⟩
  case round =>
    obtain ⟨k, m, rfl, hk, HS⟩ := hrel
    by_cases hlt : k < ps.length
    · obtain ⟨v, hv⟩ : ∃ v, ps[k]? = some v := ⟨_, List.getElem?_eq_getElem hlt⟩
      have hfit := HS.out.fit
      rw [drop_cons' hv] at hfit
      obtain ⟨hc1, hvic, -⟩ := steps_one HS.out.qt hfit
      obtain ⟨hf1, hf2, hvl, x, hx, hmay⟩ := victim_some hvic
      have hT := HS.out.tabOf
      have hV := Victim_any m a2 nL cap2 wr hT (tabFit_of hT HS.out.qt.fine) (HG.out.below (HB1.out.trans (HS.out.below.mono HB1.out.size)))
      rw [vicP, vicB, HS.out.qt.right, if_pos rfl, Bool.true_and, hf1, hf2] at hV
      have HV := Lib.hid hV
      have HFs : Hid (∀ W, Below wr.heap.size wr W → Calls Tryz.prog 48 #[.slice a2 nL cap2, .int .i64 b] W fun e w' => e = .returned (.bool false) ∧ Below W.heap.size W w') := fun W hb => by
        have hS := HS.out.go hb
        have h1 := QFits_any b m a2 nL cap2 W hS.tabOf (tabFit_of hS.tabOf hS.qt.fine) (HG.out.below (HB1.out.trans (hS.below.mono HB1.out.size)))
        have h2 : fitsB b (m.map (·.1)) = false := by
          unfold fitsB
          rw [decide_eq_false (by omega : ¬ costL (m.map (·.1)) ≤ b), Bool.and_false]
        rw [h2] at h1
        exact h1
      rw [List.length_map] at hvl
      obtain ⟨⟨z, p⟩, hxm⟩ : ∃ e, m[v]? = some e := ⟨_, List.getElem?_eq_getElem hvl⟩
      obtain rfl : z = x := by
        have h1 : (m.map (·.1))[v]? = some z := by rw [List.getElem?_map, hxm]; rfl
        rw [hx] at h1
        exact (Option.some.inj h1).symm
      have HXM := Lib.hid hxm
      have HMay := Lib.hid hmay
      have HVk := Lib.hid hv
      obtain ⟨g, rfl⟩ : ∃ g, a2 = some ⟨g, 0, none⟩ := by
        rcases HS.out.grow.own.2 with ⟨h1, h2⟩ | ⟨g, cap, cur, h1, _⟩
        · have h3 := HS.out.len
          injection h1 with h1 h4
          omega
        · injection h1 with h1
          exact ⟨g, h1⟩
      have hgood := HS.out.qt.good z (List.mem_of_getElem? hx)
      have HLo : Hid (∀ W, Below wr.heap.size wr W → Calls Tryz.prog 19 #[.agg #[.int .i64 z.sk.kind, .int .i64 z.sk.level, .slice p.ss.ea p.ss.el p.ss.ec, .int .i64 z.sk.hb, .string z.sk.hr, .int .i64 z.sk.cr, .int .i64 z.sk.cc, .slice p.ss.ca p.ss.cl p.ss.cc, .int .i64 z.sk.gf, .slice p.ss.ga p.ss.gl p.ss.gc]] W fun e w' => ∃ (y : Sk) (s : SS), y = skLow z.sk ∧ e = .returned (.tuple #[.agg #[.int .i64 y.kind, .int .i64 y.level, .slice s.ea s.el s.ec, .int .i64 y.hb, .string y.hr, .int .i64 y.cr, .int .i64 y.cc, .slice s.ca s.cl s.cc, .int .i64 y.gf, .slice s.ga s.gl s.gc], .int .i64 0]) ∧ s.At w'.heap.size w' y ∧ s.From W.heap.size ∧ Below W.heap.size W w') := fun W hb => low_call hgood hmay ((HS.out.go hb).grow.at_ _ (List.mem_of_getElem? HXM.out)).s
      have hpl := HS.out.pls.1.2 k v hv
      obtain ⟨pb, po, rfl, hpb, hpc⟩ := hpl
      have hvn : v < nL := by have := HS.out.len; omega
      have P1 : Hid (∀ W, Below wr.heap.size wr W → W.cell? ⟨pb, po + k, none⟩ = some (.int .i64 (v : Int))) := fun W hb => by
        have h1 := hpc 0 (by omega)
        simp only [Nat.mul_one, Nat.add_zero] at h1
        exact (hb.cell (p := ⟨pb, po + k, none⟩) hpb).trans h1
      have i0 : (0 : Int) ≤ (k : Int) := by omega
      have i1 : (k : Int) < (ps.length : Int) := by omega
      clear hT hV hfit hc1 hvic hf1 hf2 hx hmay hxm hv hgood hpc
      go_wp2_with (first
        | (go_at_call 42; refine HV.out.mono ?_; rintro e w5 ⟨rfl, hb5⟩; have p1 := P1.out w5 hb5))
      refine (HFs.out w5 hb5).mono ?_
      rintro e w6 ⟨rfl, hb6⟩
      have hb16 := hb5.trans (hb6.mono hb5.size)
      have HS6 := Lib.hid (HS.out.go hb16)
      have hlo6 := HLo.out w6 hb16
      have HLo6 := Lib.hid hlo6
      have e1 : w6.cell? ⟨g, v * 12 + 1, none⟩ = some (.int .i64 z.sk.kind) := own_cell HS6.out.ownOf (flat_at (i := 1) HXM.out (by decide))
      have e2 : w6.cell? ⟨g, v * 12 + 2, none⟩ = some (.int .i64 z.sk.level) := own_cell HS6.out.ownOf (flat_at (i := 2) HXM.out (by decide))
      have e3 : w6.cell? ⟨g, v * 12 + 3, none⟩ = some (.slice p.ss.ea p.ss.el p.ss.ec) := own_cell HS6.out.ownOf (flat_at (i := 3) HXM.out (by decide))
      have e4 : w6.cell? ⟨g, v * 12 + 4, none⟩ = some (.int .i64 z.sk.hb) := own_cell HS6.out.ownOf (flat_at (i := 4) HXM.out (by decide))
      have e5 : w6.cell? ⟨g, v * 12 + 5, none⟩ = some (.string z.sk.hr) := own_cell HS6.out.ownOf (flat_at (i := 5) HXM.out (by decide))
      have e6 : w6.cell? ⟨g, v * 12 + 6, none⟩ = some (.int .i64 z.sk.cr) := own_cell HS6.out.ownOf (flat_at (i := 6) HXM.out (by decide))
      have e7 : w6.cell? ⟨g, v * 12 + 7, none⟩ = some (.int .i64 z.sk.cc) := own_cell HS6.out.ownOf (flat_at (i := 7) HXM.out (by decide))
      have e8 : w6.cell? ⟨g, v * 12 + 8, none⟩ = some (.slice p.ss.ca p.ss.cl p.ss.cc) := own_cell HS6.out.ownOf (flat_at (i := 8) HXM.out (by decide))
      have e9 : w6.cell? ⟨g, v * 12 + 9, none⟩ = some (.int .i64 z.sk.gf) := own_cell HS6.out.ownOf (flat_at (i := 9) HXM.out (by decide))
      have e10 : w6.cell? ⟨g, v * 12 + 10, none⟩ = some (.slice p.ss.ga p.ss.gl p.ss.gc) := own_cell HS6.out.ownOf (flat_at (i := 10) HXM.out (by decide))
      clear HV HFs P1 HLo hlo6 hb5 hb6 p1
      go_wp2_with fail
      refine HLo6.out.mono ?_
      rintro e w7 ⟨y, s, hy, rfl, hsA, hsF, hb7⟩
      have HY := Lib.hid hy
      clear hy
      obtain ⟨W8, hW8, hX8, hB8, hs8⟩ := boxes1 w7 #[.int .i64 y.kind, .int .i64 y.level, .slice s.ea s.el s.ec, .int .i64 y.hb, .string y.hr, .int .i64 y.cr, .int .i64 y.cc, .slice s.ca s.cl s.cc, .int .i64 y.gf, .slice s.ga s.gl s.gc] 33
      have HS8 := Lib.hid ((HS6.out.go hb7).go hB8)
      have hg6 := own_lt HS6.out.ownOf
      obtain ⟨V, hV, hVO, hVA, hVB⟩ := own_store10 y s HS8.out.ownOf HXM.out
      have hsz6 := HS6.out.below.size
      have hga : ∀ n, w2.heap.size ≤ n → g < n := fun n hn => Nat.lt_of_lt_of_le (HLt.out g rfl).2 hn
      have HNx := Lib.hid (HS8.out.step HXM.out HVk.out hVA hVB hVO (hsA.go hB8) hsF hg6 HY.out HMay.out (fun z hz _ => by have := hga _ (HTa.out.1 z hz); omega) (fun e he => (HTa.out.2.1 e he).imp fun b hb => by have := hga _ hb; omega) (fun z hz _ => by have := hga _ (HTa.out.2.2 z hz); omega))
      have r0 : W8.cell? ⟨w7.heap.size, 0, none⟩ = some (.int .i64 y.kind) := cCc hX8 0
      have r1 : W8.cell? ⟨w7.heap.size, 1, none⟩ = some (.int .i64 y.level) := cCc hX8 1
      have r2 : W8.cell? ⟨w7.heap.size, 2, none⟩ = some (.slice s.ea s.el s.ec) := cCc hX8 2
      have r3 : W8.cell? ⟨w7.heap.size, 3, none⟩ = some (.int .i64 y.hb) := cCc hX8 3
      have r4 : W8.cell? ⟨w7.heap.size, 4, none⟩ = some (.string y.hr) := cCc hX8 4
      have r5 : W8.cell? ⟨w7.heap.size, 5, none⟩ = some (.int .i64 y.cr) := cCc hX8 5
      have r6 : W8.cell? ⟨w7.heap.size, 6, none⟩ = some (.int .i64 y.cc) := cCc hX8 6
      have r7 : W8.cell? ⟨w7.heap.size, 7, none⟩ = some (.slice s.ca s.cl s.cc) := cCc hX8 7
      have r8 : W8.cell? ⟨w7.heap.size, 8, none⟩ = some (.int .i64 y.gf) := cCc hX8 8
      have r9 : W8.cell? ⟨w7.heap.size, 9, none⟩ = some (.slice s.ga s.gl s.gc) := cCc hX8 9
      have s1 : W8.cell? ⟨g, v * 12 + 1, none⟩ = some (.int .i64 z.sk.kind) := own_cell HS8.out.ownOf (flat_at (i := 1) HXM.out (by decide))
      have t1 : W8.frozen? ⟨g, v * 12 + 1, none⟩ = false := own_frozen HS8.out.ownOf _
      have s2 : W8.cell? ⟨g, v * 12 + 2, none⟩ = some (.int .i64 z.sk.level) := own_cell HS8.out.ownOf (flat_at (i := 2) HXM.out (by decide))
      have t2 : W8.frozen? ⟨g, v * 12 + 2, none⟩ = false := own_frozen HS8.out.ownOf _
      have s3 : W8.cell? ⟨g, v * 12 + 3, none⟩ = some (.slice p.ss.ea p.ss.el p.ss.ec) := own_cell HS8.out.ownOf (flat_at (i := 3) HXM.out (by decide))
      have t3 : W8.frozen? ⟨g, v * 12 + 3, none⟩ = false := own_frozen HS8.out.ownOf _
      have s4 : W8.cell? ⟨g, v * 12 + 4, none⟩ = some (.int .i64 z.sk.hb) := own_cell HS8.out.ownOf (flat_at (i := 4) HXM.out (by decide))
      have t4 : W8.frozen? ⟨g, v * 12 + 4, none⟩ = false := own_frozen HS8.out.ownOf _
      have s5 : W8.cell? ⟨g, v * 12 + 5, none⟩ = some (.string z.sk.hr) := own_cell HS8.out.ownOf (flat_at (i := 5) HXM.out (by decide))
      have t5 : W8.frozen? ⟨g, v * 12 + 5, none⟩ = false := own_frozen HS8.out.ownOf _
      have s6 : W8.cell? ⟨g, v * 12 + 6, none⟩ = some (.int .i64 z.sk.cr) := own_cell HS8.out.ownOf (flat_at (i := 6) HXM.out (by decide))
      have t6 : W8.frozen? ⟨g, v * 12 + 6, none⟩ = false := own_frozen HS8.out.ownOf _
      have s7 : W8.cell? ⟨g, v * 12 + 7, none⟩ = some (.int .i64 z.sk.cc) := own_cell HS8.out.ownOf (flat_at (i := 7) HXM.out (by decide))
      have t7 : W8.frozen? ⟨g, v * 12 + 7, none⟩ = false := own_frozen HS8.out.ownOf _
      have s8 : W8.cell? ⟨g, v * 12 + 8, none⟩ = some (.slice p.ss.ca p.ss.cl p.ss.cc) := own_cell HS8.out.ownOf (flat_at (i := 8) HXM.out (by decide))
      have t8 : W8.frozen? ⟨g, v * 12 + 8, none⟩ = false := own_frozen HS8.out.ownOf _
      have s9 : W8.cell? ⟨g, v * 12 + 9, none⟩ = some (.int .i64 z.sk.gf) := own_cell HS8.out.ownOf (flat_at (i := 9) HXM.out (by decide))
      have t9 : W8.frozen? ⟨g, v * 12 + 9, none⟩ = false := own_frozen HS8.out.ownOf _
      have s10 : W8.cell? ⟨g, v * 12 + 10, none⟩ = some (.slice p.ss.ga p.ss.gl p.ss.gc) := own_cell HS8.out.ownOf (flat_at (i := 10) HXM.out (by decide))
      have t10 : W8.frozen? ⟨g, v * 12 + 10, none⟩ = false := own_frozen HS8.out.ownOf _
      clear hX8 hB8 hVO hVA hVB hsA hsF HS6 HLo6 e1 e2 e3 e4 e5 e6 e7 e8 e9 e10
      go_wp2_with fail
      go_roundw
      case rel => exact ⟨k + 1, _, by go_num, by omega, HNx.out⟩
      case measure => simp [intOf]; omega
    · obtain rfl : k = ps.length := by omega
      have hfit := HS.out.fit
      rw [List.drop_of_length_le (Nat.le_refl _)] at hfit
      have heq := (fit_says b _ HS.out.qt _ _ hfit).same rfl
      have hSm := series_Same_eq m3 m ta3 a2 n3 nL tc3 cap2 wr HS.out.tab HS.out.tabOf (by rw [HM3.out, heq])
      have HSm := Lib.hid hSm
      have hB := HB1.out.trans (HS.out.below.mono HB1.out.size)
      clear hSm hfit heq
      go_wp2_with (go_at_call 47; refine HSm.out.mono ?_; rintro e w5 ⟨rfl, hb5⟩)
      go_ret
      exact ⟨rfl, hB.trans (hb5.mono hB.size)⟩
end Go.Proofs.YtpnlmfilmbodfaaGreatDoor
