/- quota.copied: a table that shares nothing. -/
import Derived.Test.YtpnlmfilmbodfaaGreatDoorVQA
import Derived.Test.YtpnlmfilmbodfaaGreatDoorVP1
import Derived.Test.YtpnlmfilmbodfaaGreatDoorVUS
namespace Go.Proofs.YtpnlmfilmbodfaaGreatDoor
open Go Go.RowKit Go.Shelf
section
variable {w : World} {base e size n c g : Nat} {xs : List Value}
theorem own_cell (h : w.ownsRow base e size (.slice (some ⟨g, 0, none⟩) n c) n xs) {j : Nat} {u : Value} (hj : xs[j]? = some u) : w.cell? ⟨g, j, none⟩ = some u := by
  have h1 := h.cells (g := g) rfl j u hj
  have ea : (⟨g, 0, none⟩ : Addr).add j = ⟨g, j, none⟩ := by unfold Addr.add; split <;> simp_all
  rw [ea] at h1
  exact h1
theorem own_blk (h : w.ownsRow base e size (.slice (some ⟨g, 0, none⟩) n c) n xs) : base ≤ g ∧ ∃ cur, w.heap[g]? = some (.cells cur e (0, 0)) ∧ n ≤ c ∧ c ≤ maxLen ∧ cur.size = c * size ∧ cur.toList.take (n * size) = xs := by
  rcases h.2 with ⟨h1, _⟩ | ⟨g', cap, cur, h1, h2, h3, h4, h5, h6, h7⟩
  · cases h1
  · injection h1 with e1 e2 e3
    injection e1 with e1
    injection e1 with e1
    subst e1
    subst e3
    exact ⟨h2, cur, h3, h4, h5, h6, h7⟩
theorem own_frozen (h : w.ownsRow base e size (.slice (some ⟨g, 0, none⟩) n c) n xs) (j : Nat) : w.frozen? ⟨g, j, none⟩ = false := by
  obtain ⟨-, cur, h1, -⟩ := own_blk h
  exact cFz h1 j
theorem own_lt (h : w.ownsRow base e size (.slice (some ⟨g, 0, none⟩) n c) n xs) : g < w.heap.size := by
  obtain ⟨-, cur, h1, -⟩ := own_blk h
  exact (Array.getElem?_eq_some_iff.1 h1).1
theorem own_set (h : w.ownsRow base e size (.slice (some ⟨g, 0, none⟩) n c) n xs) (i : Nat) (v : Value) : (w.setCell ⟨g, i, none⟩ v).ownsRow base e size (.slice (some ⟨g, 0, none⟩) n c) n (xs.set i v) := by
  obtain ⟨h0, cur, h1, h2, h3, h4, h5⟩ := own_blk h
  refine ⟨by rw [List.length_set]; exact h.1, .inr ⟨g, c, cur.setIfInBounds i v, rfl, h0, hSk h1 v, h2, h3, by rw [Array.size_setIfInBounds]; exact h4, ?_⟩⟩
  rw [Array.toList_setIfInBounds, List.take_set, h5]
end
theorem flat_set {m : List (Ser × SerP)} {k i : Nat} {e e' : Ser × SerP} {v : Value} (he : m[k]? = some e) (hi : i < 12) (hv : serEnc e' = (serEnc e).set i v) : (m.set k e').flatMap serEnc = (m.flatMap serEnc).set (k * 12 + i) v := by
  induction m generalizing k with
  | nil => simp at he
  | cons y r ih =>
    cases k with
    | zero =>
      simp only [List.getElem?_cons_zero, Option.some.injEq] at he
      subst he
      rw [List.set_cons_zero, List.flatMap_cons, List.flatMap_cons, hv, Nat.zero_mul, Nat.zero_add, List.set_append_left _ _ (by rw [serEnc_len]; exact hi)]
    | succ k =>
      rw [List.getElem?_cons_succ] at he
      rw [List.set_cons_succ, List.flatMap_cons, List.flatMap_cons, ih he, List.set_append_right _ _ (by rw [serEnc_len]; omega), serEnc_len]
      congr 2
      omega
theorem flat_at {m : List (Ser × SerP)} {k i : Nat} {e : Ser × SerP} (he : m[k]? = some e) (hi : i < 12) : (m.flatMap serEnc)[k * 12 + i]? = (serEnc e)[i]? := flat_cell serEnc 12 serEnc_len m k i e he hi
theorem eqlnil_tab (a : Option Addr) (n c : Nat) (w : World) : (binOp .eql 57 (.slice a n c) (.slice none 0 0)).run Tryz.prog w = .ok (.bool a.isNone) w := Lib.run_eql_slice_nil w _ _ a n c 0 0 und_table
set_option maxHeartbeats 1000000 in
theorem clone_tab (a : Option Addr) (len cap : Nat) (l : List (Ser × SerP)) (w : World) (hL : SlE serEnc 12 w.heap.size w a len l) (hll : len < 2147483648) :
    Calls Tryz.prog 164 #[.slice a len cap] w fun e w' => ∃ v, e = .returned v ∧ w'.ownsRow w.heap.size 64 12 v l.length (l.flatMap serEnc) ∧ Below w.heap.size w w' := by
  have he := eqlnil_tab a len cap
  have hlen := hL.1
  cases a with
  | none =>
    have hl0 : l = [] := by
      cases l with
      | nil => rfl
      | cons y ys => obtain ⟨b, off, e, _⟩ := hL.2 0 y rfl; cases e
    subst hl0
    obtain rfl : len = 0 := hlen
    clear hL
    go_enter Tryz.func164, Tryz.ntmps164
    go_wp2_with fail
    go_ret
    exact ⟨_, rfl, World.ownsRow_nil _ _ _ _, Below.refl _ _⟩
  | some a =>
    have hB1 : Below w.heap.size w (w.alloc (.cells #[] 64)) := (Below.refl _ w).alloc (Nat.le_refl _) _
    have hown : (w.alloc (.cells #[] 64)).ownsRow w.heap.size 64 12 (.slice (some ⟨w.heap.size, 0, none⟩) 0 0) 0 [] := ⟨rfl, .inr ⟨w.heap.size, 0, #[], rfl, Nat.le_refl _, World.alloc_heap_new _ _, Nat.le_refl _, by unfold maxLen; omega, rfl, rfl⟩⟩
    have hL1 := hL.go hB1
    obtain ⟨v4, w4, hap4, hown4, hB4, hz4, -, -⟩ := append_elems Tryz.prog (cap := cap) 57 und_table info_series rfl (by decide) hown hB1 (Nat.le_refl _) (by simp) serEnc_len hL1 serEnc_one (by omega) hll (by decide)
    rw [Nat.zero_add, List.nil_append, hlen] at hown4
    have HO := Lib.hid hown4
    clear hL hL1 hown hown4 hlen
    go_enter Tryz.func164, Tryz.ntmps164
    go_wp2_with (at_builtin; refine wp_append_eq rfl _ _ _ rfl rfl rfl hap4 ?_)
    go_ret
    exact ⟨_, rfl, HO.out, hB4⟩
theorem own_store {W : World} {base n c g k i : Nat} {m : List (Ser × SerP)} {e : Ser × SerP} (e' : Ser × SerP) (v : Value) (hO : W.ownsRow base 64 12 (.slice (some ⟨g, 0, none⟩) n c) n (m.flatMap serEnc)) (he : m[k]? = some e) (hi : i < 12) (hv : serEnc e' = (serEnc e).set i v) :
    ∃ V, W.setCell ⟨g, k * 12 + i, none⟩ v = V ∧ V.ownsRow base 64 12 (.slice (some ⟨g, 0, none⟩) n c) n ((m.set k e').flatMap serEnc) ∧ Apart g W V ∧ (∀ n w0, n ≤ g → Below n w0 W → Below n w0 V) ∧ V.heap.size ≤ W.heap.size ∧ W.heap.size ≤ V.heap.size ∧ (m.set k e')[k]? = some e' := by
  refine ⟨_, rfl, ?_, Apart.set _ v, fun _ _ hn hb => hb.setCell (p := ⟨g, k * 12 + i, none⟩) hn v, Nat.le_of_eq (World.size_setCell ..), Nat.le_of_eq (World.size_setCell ..).symm, ?_⟩
  · rw [flat_set he hi hv]
    exact own_set hO _ v
  · rw [List.getElem?_set, if_pos rfl, if_pos (List.getElem?_eq_some_iff.1 he).1]
structure CopyAt (w : World) (l : List (Ser × SerP)) (v : Value) (k : Nat) (W : World) (m : List (Ser × SerP)) : Prop where
  own : W.ownsRow w.heap.size 64 12 v l.length (m.flatMap serEnc)
  keep : m.map (·.1) = l.map (·.1)
  new : ∀ j e, j < k → m[j]? = some e → e.2.At W.heap.size W e.1 ∧ e.2.Off (fun b => w.heap.size ≤ b ∧ some b ≠ v.ownBlock)
  old : ∀ j, k ≤ j → m[j]? = l[j]?
  below : Below w.heap.size w W
theorem CopyAt.len {w W : World} {l m : List (Ser × SerP)} {v : Value} {k : Nat} (h : CopyAt w l v k W m) : m.length = l.length := by
  have := congrArg List.length h.keep
  simpa using this
theorem CopyAt.grow {w W : World} {l m : List (Ser × SerP)} {v : Value} {k : Nat} (h : CopyAt w l v k W m) (hk : l.length ≤ k) : GrowS w.heap.size (w.heap.size ≤ ·) W v m := by
  have hl := h.len
  refine ⟨by rw [hl]; exact h.own, fun e he => ?_, fun e he => ?_⟩
  · obtain ⟨i, hi⟩ := List.mem_iff_getElem?.1 he
    exact (h.new i e (by have := (List.getElem?_eq_some_iff.1 hi).1; omega) hi).1
  · obtain ⟨i, hi⟩ := List.mem_iff_getElem?.1 he
    exact (h.new i e (by have := (List.getElem?_eq_some_iff.1 hi).1; omega) hi).2
theorem CopyAt.step {w W V : World} {l m : List (Ser × SerP)} {g c k : Nat} {x : Ser} {p p' : SerP} (h : CopyAt w l (.slice (some ⟨g, 0, none⟩) l.length c) k W m) (hx : l[k]? = some (x, p)) (hV : V.ownsRow w.heap.size 64 12 (.slice (some ⟨g, 0, none⟩) l.length c) l.length ((m.set k (x, p')).flatMap serEnc))
    (hA : Apart g W V) (hp : p'.At V.heap.size V x) (ho : p'.Off (fun b => w.heap.size ≤ b ∧ b ≠ g)) (hB : Below w.heap.size w V) : CopyAt w l (.slice (some ⟨g, 0, none⟩) l.length c) (k + 1) V (m.set k (x, p')) := by
  have hkl := (List.getElem?_eq_some_iff.1 hx).1
  have hmk : m[k]? = some (x, p) := (h.old k (Nat.le_refl _)).trans hx
  refine ⟨hV, ?_, fun j e hj he => ?_, fun j hj => ?_, hB⟩
  · rw [List.map_set, ← h.keep]
    apply List.ext_getElem?
    intro j
    rw [List.getElem?_set]
    by_cases hkj : k = j
    · subst hkj
      rw [if_pos rfl, if_pos (by rw [List.length_map, h.len]; exact hkl), List.getElem?_map, hmk]
      rfl
    · rw [if_neg hkj]
  · rw [List.getElem?_set] at he
    by_cases hkj : k = j
    · subst hkj
      rw [if_pos rfl, if_pos (by rw [h.len]; exact hkl)] at he
      cases he
      exact ⟨hp, ho.imp fun b hb => ⟨hb.1, fun e => hb.2 (by injection e)⟩⟩
    · rw [if_neg hkj] at he
      obtain ⟨h1, h2⟩ := h.new j e (by omega) he
      exact ⟨(h1.frame (h2.imp (r := (· ≠ g)) fun b hb e => hb.2 (by rw [e]; rfl)) hA.2).mono hA.1, h2⟩
  · rw [List.getElem?_set, if_neg (by omega)]
    exact h.old j (by omega)
set_option maxRecDepth 100000 in
set_option maxHeartbeats 4000000 in
theorem copied_any (l : List (Ser × SerP)) (a : Option Addr) (len cap : Nat) (w : World) (hT : Tab w.heap.size w a len cap l) (hA : AddFit l) (hn : l.length < 2147483648) :
    Calls Tryz.prog 112 #[.slice a len cap] w fun e w' => ∃ v m, e = .returned v ∧ GrowS w.heap.size (w.heap.size ≤ ·) w' v m ∧ m.map (·.1) = l.map (·.1) ∧ Below w.heap.size w w' := by
  have hlen := hT.row.1.1
  subst hlen
  have HT := Lib.hid hT
  have HA := Lib.hid hA
  have HC := Lib.hid (clone_tab a l.length cap l w hT.row.1 (by omega))
  clear hT hA
  go_enter Tryz.func112, Tryz.ntmps112
  go_wp2_with (go_at_call 164; refine HC.out.mono ?_; rintro e w1 ⟨v, rfl, hown, hb1⟩; obtain ⟨va, vc, rfl⟩ := owns_formL hown)
  have HO1 := Lib.hid hown
  clear hown
  go_loopw [10] (fun i wr => ∃ (k : Nat) (m : List (Ser × SerP)), i = .int .i64 k ∧ k ≤ l.length ∧ Hid (CopyAt w l (.slice va l.length vc) k wr m)) (fun i _ => l.length - (intOf i).toNat)
  case atStart => exact ⟨0, l, rfl, Nat.zero_le _, HO1.out, rfl, (fun j e h => by omega), (fun _ _ => rfl), hb1⟩
  case round =>
    obtain ⟨k, m, rfl, hk, HM⟩ := hrel
    by_cases hlt : k < l.length
    · obtain ⟨⟨x, p⟩, hx⟩ : ∃ x, l[k]? = some x := ⟨_, List.getElem?_eq_getElem hlt⟩
      obtain ⟨g, rfl⟩ : ∃ g, va = some ⟨g, 0, none⟩ := by
        rcases HM.out.own.2 with ⟨h1, h2⟩ | ⟨g, cap, cur, h1, _⟩
        · omega
        · injection h1 with h1
          exact ⟨g, h1⟩
      have hmk : m[k]? = some (x, p) := (HM.out.old k (Nat.le_refl _)).trans hx
      have HO := Lib.hid HM.out.own
      have HB := Lib.hid HM.out.below
      have hg1 := (own_blk HO.out).1
      have hgr := own_lt HO.out
      have hsz := HB.out.size
      have HP : Hid (p.At wr.heap.size wr x) := ((HT.out.at_ _ (List.mem_of_getElem? hx)).below HB.out).mono hsz
      have HPo : Hid (p.Off (· < w.heap.size)) := (HT.out.at_ _ (List.mem_of_getElem? hx)).off
      have HN5 : Hid (p.Off (· ≠ g)) := HPo.out.imp (fun b hb => by omega)
      have HAx := Lib.hid (HA.out _ (List.mem_of_getElem? hx))
      have HX := Lib.hid hx
      have HMK := Lib.hid hmk
      have c0 : wr.cell? ⟨g, k * 12, none⟩ = some (.slice p.la p.ll p.lc) := own_cell HO.out (flat_at (i := 0) hmk (by decide))
      clear hx hmk
      go_wp2_with fail
      refine (clone_lab p.la p.ll p.lc x.l _ HP.out.l.1 HAx.out.1).mono ?_
      rintro e w2 ⟨la', lc', rfl, hl2, hlo2, hb2⟩
      have hZ2 := hb2.size
      have HO2 : Hid (w2.ownsRow w.heap.size 64 12 (.slice (some ⟨g, 0, none⟩) l.length vc) l.length (m.flatMap serEnc)) := owns_go HO.out hb2
      have f2 : w2.frozen? ⟨g, k * 12, none⟩ = false := own_frozen HO2.out _
      obtain ⟨V2, hV2, hO2, hAp2, hBV2, hs2, ht2, hm2⟩ := own_store (i := 0) (x, (⟨la', p.ll, lc', p.ss⟩ : SerP)) (.slice la' p.ll lc') HO2.out HMK.out (by decide) rfl
      replace hV2 : w2.setCell ⟨g, k * 12, none⟩ (.slice la' p.ll lc') = V2 := hV2
      have d2 : w2.cell? ⟨g, k * 12, none⟩ = some (.slice p.la p.ll p.lc) := own_cell HO2.out (flat_at (i := 0) HMK.out (by decide))
      have hB2 : Below w.heap.size w V2 := hBV2 _ _ hg1 (HB.out.trans (hb2.mono hsz))
      have HPe : Hid (SlC encU 1 V2.heap.size V2 p.ss.ea p.ss.el p.ss.ec x.sk.e) := ((HP.out.go hb2).s.e).apart (HN5.out.e) hAp2
      have HPc : Hid (SlC encU 1 V2.heap.size V2 p.ss.ca p.ss.cl p.ss.cc x.sk.cl) := ((HP.out.go hb2).s.c).apart (HN5.out.c) hAp2
      have HPg : Hid (SlC encB 2 V2.heap.size V2 p.ss.ga p.ss.gl p.ss.gc x.sk.gl) := ((HP.out.go hb2).s.g).apart (HN5.out.g) hAp2
      have HL2 : Hid (SlC Lab.enc 2 V2.heap.size V2 la' p.ll lc' x.l) := hl2.apart (fun z hz _ => by have := hlo2 z hz; omega) hAp2
      have HO2 := Lib.hid hO2
      have HM2 := Lib.hid hm2
      have HAp2 := Lib.hid ((Apart.of_below (B := g) hb2).trans hAp2)
      have c3 : V2.cell? ⟨g, k * 12 + 3, none⟩ = some (.slice p.ss.ea p.ss.el p.ss.ec) := own_cell hO2 (flat_at (i := 3) hm2 (by decide))
      have hgr2 := own_lt hO2
      clear hl2 hO2 hm2 hAp2 c0
      go_wp2_with fail
      refine (clone_u64 p.ss.ea p.ss.el p.ss.ec x.sk.e V2 HPe.out.1 HAx.out.2.1).mono ?_
      rintro e w3 ⟨ea', ec', rfl, hl3, hlo3, hb3⟩
      have hZ3 := hb3.size
      have HO3 := Lib.hid (owns_go HO2.out hb3)
      have f3 : w3.frozen? ⟨g, k * 12 + 3, none⟩ = false := own_frozen HO3.out _
      obtain ⟨V3, hV3, hO3, hAp3, hBV3, hs3, ht3, hm3⟩ := own_store (i := 3) (x, (⟨la', p.ll, lc', { p.ss with ea := ea', ec := ec' }⟩ : SerP)) (.slice ea' p.ss.el ec') HO3.out HM2.out (by decide) rfl
      have d3 : w3.cell? ⟨g, k * 12 + 3, none⟩ = some (.slice p.ss.ea p.ss.el p.ss.ec) := own_cell HO3.out (flat_at (i := 3) HM2.out (by decide))
      have hB3 : Below w.heap.size w V3 := hBV3 _ _ hg1 (hB2.trans (hb3.mono hB2.size))
      have HPc3 : Hid (SlC encU 1 V3.heap.size V3 p.ss.ca p.ss.cl p.ss.cc x.sk.cl) := (HPc.out.go hb3).apart (HN5.out.c) hAp3
      have HPg3 : Hid (SlC encB 2 V3.heap.size V3 p.ss.ga p.ss.gl p.ss.gc x.sk.gl) := (HPg.out.go hb3).apart (HN5.out.g) hAp3
      have HL3 : Hid (SlC Lab.enc 2 V3.heap.size V3 la' p.ll lc' x.l) := (HL2.out.go hb3).apart (fun z hz _ => by have := hlo2 z hz; omega) hAp3
      have HE3 : Hid (SlC encU 1 V3.heap.size V3 ea' p.ss.el ec' x.sk.e) := hl3.apart (fun z hz _ => by have := hlo3 z hz; omega) hAp3
      have HO3 := Lib.hid hO3
      have HM3 := Lib.hid hm3
      have HAp3 := Lib.hid ((HAp2.out.trans (Apart.of_below (B := g) hb3)).trans hAp3)
      have c8 : V3.cell? ⟨g, k * 12 + 8, none⟩ = some (.slice p.ss.ca p.ss.cl p.ss.cc) := own_cell hO3 (flat_at (i := 8) hm3 (by decide))
      have hgr3 := own_lt hO3
      clear hl3 hO3 hm3 hAp3 c3 hV2 f2 HO2 d2
      go_wp2_with fail
      refine (clone_u64 p.ss.ca p.ss.cl p.ss.cc x.sk.cl V3 HPc3.out.1 HAx.out.2.2.1).mono ?_
      rintro e w4 ⟨ca', cc', rfl, hl4, hlo4, hb4⟩
      have hZ4 := hb4.size
      have HO4 := Lib.hid (owns_go HO3.out hb4)
      have f4 : w4.frozen? ⟨g, k * 12 + 8, none⟩ = false := own_frozen HO4.out _
      obtain ⟨V4, hV4, hO4, hAp4, hBV4, hs4, ht4, hm4⟩ := own_store (i := 8) (x, (⟨la', p.ll, lc', { p.ss with ea := ea', ec := ec', ca := ca', cc := cc' }⟩ : SerP)) (.slice ca' p.ss.cl cc') HO4.out HM3.out (by decide) rfl
      replace hV4 : w4.setCell ⟨g, k * 12 + 1 + 5 + 2, none⟩ (.slice ca' p.ss.cl cc') = V4 := hV4
      replace f4 : w4.frozen? ⟨g, k * 12 + 1 + 5 + 2, none⟩ = false := f4
      have d4 : w4.cell? ⟨g, k * 12 + 1 + 5 + 2, none⟩ = some (.slice p.ss.ca p.ss.cl p.ss.cc) := own_cell HO4.out (flat_at (i := 8) HM3.out (by decide))
      have hB4 : Below w.heap.size w V4 := hBV4 _ _ hg1 (hB3.trans (hb4.mono hB3.size))
      have HPg4 : Hid (SlC encB 2 V4.heap.size V4 p.ss.ga p.ss.gl p.ss.gc x.sk.gl) := (HPg3.out.go hb4).apart (HN5.out.g) hAp4
      have HL4 : Hid (SlC Lab.enc 2 V4.heap.size V4 la' p.ll lc' x.l) := (HL3.out.go hb4).apart (fun z hz _ => by have := hlo2 z hz; omega) hAp4
      have HE4 : Hid (SlC encU 1 V4.heap.size V4 ea' p.ss.el ec' x.sk.e) := (HE3.out.go hb4).apart (fun z hz _ => by have := hlo3 z hz; omega) hAp4
      have HC4 : Hid (SlC encU 1 V4.heap.size V4 ca' p.ss.cl cc' x.sk.cl) := hl4.apart (fun z hz _ => by have := hlo4 z hz; omega) hAp4
      have HO4 := Lib.hid hO4
      have HM4 := Lib.hid hm4
      have HAp4 := Lib.hid ((HAp3.out.trans (Apart.of_below (B := g) hb4)).trans hAp4)
      have c10 : V4.cell? ⟨g, k * 12 + 10, none⟩ = some (.slice p.ss.ga p.ss.gl p.ss.gc) := own_cell hO4 (flat_at (i := 10) hm4 (by decide))
      have hgr4 := own_lt hO4
      clear hl4 hO4 hm4 hAp4 c8 hV3 f3 HO3 d3
      go_wp2_with fail
      refine (clone_bin p.ss.ga p.ss.gl p.ss.gc x.sk.gl V4 HPg4.out.1 HAx.out.2.2.2).mono ?_
      rintro e w5 ⟨ga', gc', rfl, hl5, hlo5, hb5⟩
      have hZ5 := hb5.size
      have HO5 := Lib.hid (owns_go HO4.out hb5)
      have f5 : w5.frozen? ⟨g, k * 12 + 10, none⟩ = false := own_frozen HO5.out _
      obtain ⟨V5, hV5, hO5, hAp5, hBV5, hs5, ht5, hm5⟩ := own_store (i := 10) (x, (⟨la', p.ll, lc', ⟨ea', p.ss.el, ec', ca', p.ss.cl, cc', ga', p.ss.gl, gc'⟩⟩ : SerP)) (.slice ga' p.ss.gl gc') HO5.out HM4.out (by decide) rfl
      replace hV5 : w5.setCell ⟨g, k * 12 + 1 + 8 + 1, none⟩ (.slice ga' p.ss.gl gc') = V5 := hV5
      replace f5 : w5.frozen? ⟨g, k * 12 + 1 + 8 + 1, none⟩ = false := f5
      have d5 : w5.cell? ⟨g, k * 12 + 1 + 8 + 1, none⟩ = some (.slice p.ss.ga p.ss.gl p.ss.gc) := own_cell HO5.out (flat_at (i := 10) HM4.out (by decide))
      have hB5 : Below w.heap.size w V5 := hBV5 _ _ hg1 (hB4.trans (hb5.mono hB4.size))
      have HL5 := (HL4.out.go hb5).apart (fun z hz _ => by have := hlo2 z hz; omega) hAp5
      have HE5 := (HE4.out.go hb5).apart (fun z hz _ => by have := hlo3 z hz; omega) hAp5
      have HC5 := (HC4.out.go hb5).apart (fun z hz _ => by have := hlo4 z hz; omega) hAp5
      have HG5 := hl5.apart (fun z hz _ => by have := hlo5 z hz; omega) hAp5
      have hAp := (HAp4.out.trans (Apart.of_below (B := g) hb5)).trans hAp5
      simp only [List.set_set] at hO5
      have FI : Hid (CopyAt w l (.slice (some ⟨g, 0, none⟩) l.length vc) (k + 1) V5 (m.set k (x, ⟨la', p.ll, lc', ⟨ea', p.ss.el, ec', ca', p.ss.cl, cc', ga', p.ss.gl, gc'⟩⟩))) :=
        HM.out.step HX.out hO5 hAp ⟨HL5, HE5, HC5, HG5⟩ ⟨fun z h1 _ => by have := hlo2 z h1; omega, fun z h1 _ => by have := hlo3 z h1; omega, fun z h1 _ => by have := hlo4 z h1; omega, fun z h1 _ => by have := hlo5 z h1; omega⟩ hB5
      clear hl5 hO5 hm5 hAp5 hAp HL5 HE5 HC5 HG5 c10 hV4 f4 d4 HO4
      go_wp2_with fail
      go_roundw
      case rel => exact ⟨k + 1, _, by go_num, by omega, FI.out⟩
      case measure => simp [intOf]; omega
    · have H9 := Lib.hid (HM.out.grow (by omega))
      have H8 := Lib.hid HM.out.keep
      have HB := Lib.hid HM.out.below
      go_wp2_with fail
      go_ret
      exact ⟨_, rfl, m, H9.out, H8.out, HB.out⟩
end Go.Proofs.YtpnlmfilmbodfaaGreatDoor
