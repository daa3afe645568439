/- quota.Least. aviarylaw13.QuotaLeast answers true. -/
import Derived.Test.YtpnlmfilmbodfaaGreatDoorVA2
import Derived.Test.YtpnlmfilmbodfaaGreatDoorVA7
import Derived.Test.YtpnlmfilmbodfaaGreatDoorVA8
import Derived.Test.YtpnlmfilmbodfaaGreatDoorVB1
import Derived.Test.YtpnlmfilmbodfaaGreatDoorVCF
import Derived.Test.YtpnlmfilmbodfaaGreatDoorVCG
import Derived.Test.YtpnlmfilmbodfaaGreatDoorVF4
import Derived.Test.YtpnlmfilmbodfaaGreatDoorVF6
import Derived.Test.YtpnlmfilmbodfaaGreatDoorVF7
import Derived.Test.YtpnlmfilmbodfaaGreatDoorVF8
import Derived.Test.YtpnlmfilmbodfaaGreatDoorVG0
import Derived.Test.YtpnlmfilmbodfaaGreatDoorVGB
import Derived.Test.YtpnlmfilmbodfaaGreatDoorVGG
import Derived.Test.YtpnlmfilmbodfaaGreatDoorVGH
import Derived.Test.YtpnlmfilmbodfaaGreatDoorVH0
import Derived.Test.YtpnlmfilmbodfaaGreatDoorVH1
import Derived.Test.YtpnlmfilmbodfaaGreatDoorVHA
import Derived.Test.YtpnlmfilmbodfaaGreatDoorVHF
import Derived.Test.YtpnlmfilmbodfaaGreatDoorVJ1
import Derived.Test.YtpnlmfilmbodfaaGreatDoorVL0
import Derived.Test.YtpnlmfilmbodfaaGreatDoorVL2
import Derived.Test.YtpnlmfilmbodfaaGreatDoorVL3
import Derived.Test.YtpnlmfilmbodfaaGreatDoorVL5
import Derived.Test.YtpnlmfilmbodfaaGreatDoorVL7
import Derived.Test.YtpnlmfilmbodfaaGreatDoorVLI
import Derived.Test.YtpnlmfilmbodfaaGreatDoorVLR
import Derived.Test.YtpnlmfilmbodfaaGreatDoorVM1
import Derived.Test.YtpnlmfilmbodfaaGreatDoorVM2
import Derived.Test.YtpnlmfilmbodfaaGreatDoorVP1
import Derived.Test.YtpnlmfilmbodfaaGreatDoorVQA
import Derived.Test.YtpnlmfilmbodfaaGreatDoorVQB
import Derived.Test.YtpnlmfilmbodfaaGreatDoorVQD
import Derived.Test.YtpnlmfilmbodfaaGreatDoorVQH
import Derived.Test.YtpnlmfilmbodfaaGreatDoorVQK
import Derived.Test.YtpnlmfilmbodfaaGreatDoorVRKs
import Derived.Test.YtpnlmfilmbodfaaGreatDoorVS3
import Derived.Test.YtpnlmfilmbodfaaGreatDoorVS7
import Derived.Test.YtpnlmfilmbodfaaGreatDoorVShelf
import Derived.Test.YtpnlmfilmbodfaaGreatDoorVT7
import Derived.Test.YtpnlmfilmbodfaaGreatDoorVUS
import Derived.Test.YtpnlmfilmbodfaaGreatDoorVV1
import Derived.Test.YtpnlmfilmbodfaaGreatDoorVXA
import Derived.Test.YtpnlmfilmbodfaaGreatDoorVXE
import Derived.Test.YtpnlmfilmbodfaaGreatDoorVXI
import Derived.Test.YtpnlmfilmbodfaaGreatDoorVXK
import Derived.Test.YtpnlmfilmbodfaaGreatDoorWQ0
import Derived.Test.YtpnlmfilmbodfaaGreatDoorProg
import Derived.Test.YtpnlmfilmbodfaaGreatDoorWLR
import Derived.Test.YtpnlmfilmbodfaaGreatDoorWLE
import Derived.Test.YtpnlmfilmbodfaaGreatDoorWJ0
import Derived.BigRegion
import Derived.Deep.RegionHeld3
import Derived.StillTactics
import Derived.Laws.Rows
import Derived.Lib.MinMax
import Derived.Deep.Cut
import Derived.Deep.CutRange
import Derived.Deep.DeepCutAuto
import Derived.Laws.BitsAllLaws
import Derived.Lib.SliceRun
import Derived.ProofKit
import Derived.OpenShut
import Derived.Carry
import Derived.Deep.Slices
import Derived.Deep.Fields
import Derived.Deep.DeepHandedRow
import Derived.Lib.SmallJoins
import Derived.RangeFuncNested
import Derived.RangeFuncBound
import Derived.RangeFuncCalls
import Derived.RangeFuncLeaves
import Derived.Shelf.Abstract
import Derived.Shelf.RegionOpen
import Derived.OwnWalkIn
import Derived.TacticsInMore
import Derived.LoopNIn
import Derived.LoopIn
import Derived.Outline
import Derived.BigGuardIn
import Derived.WalkMore
import Derived.WalkKit
import Derived.LoopTactic
import Derived.WalkLawsBesides
import Derived.WalkSpells
import Derived.Lib.Hide
import Derived.Laws.RangeAny
import Derived.Lib.OthersKept
import Derived.Lib.Strings
import Derived.Deep.QuietTactic
import Derived.BigQuiet
import Derived.ScopeJumps
import Derived.Deep.RegionLaw
import Derived.WideMake
import Derived.Shelf.Strings.Builder1
import Derived.Shelf.Strings.Builder2
import Derived.Shelf.Strings.OnBuilder
import Derived.Shelf.Small.Bits
import Derived.Shelf.Strings.BuilderF
import Derived.Shelf.Strings.BuilderK
import Derived.Shelf.Strings.BuilderRune
import Derived.Shelf.Utf8.AppendRune
import Derived.Shelf.Utf8.AppendRunePlain
import Derived.Shelf.Strings.Builder2Cap
import Derived.Shelf.Strconv.Itoa0
import Derived.Shelf.Strings.Search1
import Derived.Shelf.Strings.Search2
import Derived.Shelf.Strings.Search3
import Derived.Shelf.Strings.Cut
import Derived.Shelf.LaysM
import Derived.Shelf.Strings.Shaped
import Derived.Shelf.Unicode.DecodeSlow
import Derived.Shelf.Unicode.DecodeAny
import Derived.Shelf.Strings.BuilderCap
import Derived.Ground.SlgmProg
import Derived.Shelf.SortM.Plain
import Derived.Shelf.SortM.SortNone
import Derived.Maps.RangeWalk
import Derived.Maps.OwnSet
import Derived.Shelf.SlIterI.Nil
import Derived.Ground.GgzProg
import Derived.Maps.OwnOps
import Derived.Maps.Ext
import Derived.Laws.BytesArg
import Derived.Lib.ConvBytes
import Derived.Lib.BitFns
import Derived.Lib.ItoaNum
import Derived.LaidEql
import Derived.Stop.Asserts
import Derived.RowKitTokens
namespace Go.Proofs.YtpnlmfilmbodfaaGreatDoor
open Go Go.RowKit Go.Shelf
def leastB (L : List Ser) : Int := if tabRight L then leastL L else 0
theorem bot_call {x : Ser} {p : SerP} {W : World} (hx : x.good) (hp : p.ss.At W.heap.size W x.sk) :
    Calls Tryz.prog 21 #[.agg #[.int .i64 x.sk.kind, .int .i64 x.sk.level, .slice p.ss.ea p.ss.el p.ss.ec, .int .i64 x.sk.hb, .string x.sk.hr, .int .i64 x.sk.cr, .int .i64 x.sk.cc, .slice p.ss.ca p.ss.cl p.ss.cc, .int .i64 x.sk.gf, .slice p.ss.ga p.ss.gl p.ss.gc], .int .i64 (bottomB x.sk.kind)] W fun e w' => ∃ (y : Sk) (s : SS), y = (botSer x).sk ∧ e = .returned (.tuple #[.agg #[.int .i64 y.kind, .int .i64 y.level, .slice s.ea s.el s.ec, .int .i64 y.hb, .string y.hr, .int .i64 y.cr, .int .i64 y.cc, .slice s.ca s.cl s.cc, .int .i64 y.gf, .slice s.ga s.gl s.gc], .int .i64 0]) ∧ s.At w'.heap.size w' y ∧ s.From W.heap.size ∧ Below W.heap.size W w' := by
  obtain ⟨k, L, B, e, hB⟩ := hx.sk
  have hbt : bottomB x.sk.kind = (botN k : Int) := by rw [e, (skOf_kind k L B).1, (bot_eq hB).1]
  rw [hbt]
  refine (To_anyN (w := W) (v := .agg #[.int .i64 x.sk.kind, .int .i64 x.sk.level, .slice p.ss.ea p.ss.el p.ss.ec, .int .i64 x.sk.hb, .string x.sk.hr, .int .i64 x.sk.cr, .int .i64 x.sk.cc, .slice p.ss.ca p.ss.cl p.ss.cc, .int .i64 x.sk.gf, .slice p.ss.ga p.ss.gl p.ss.gc]) hB (Nat.le_refl _) ⟨x.sk, p.ss, e, rfl, hp⟩).mono ?_
  rintro e' w' ⟨v, h1, ⟨y, s, hy, rfl, hA, hF⟩, hb⟩
  refine ⟨y, s, ?_, h1, hA, hF, hb⟩
  unfold botSer
  dsimp only
  rw [hy, hbt, Int.toNat_natCast, e, skTo_sk hB]
theorem map_bot_set {L : List Ser} {k : Nat} {x : Ser} (h : L[k]? = some x) : ((L.take k).map botSer ++ L.drop k).set k (botSer x) = (L.take (k + 1)).map botSer ++ L.drop (k + 1) := by
  have hk := (List.getElem?_eq_some_iff.1 h).1
  rw [take_snoc' h, List.map_append, drop_cons' h]
  have hl : ((L.take k).map botSer).length = k := by rw [List.length_map, List.length_take]; omega
  rw [List.set_append_right _ _ (by omega), hl, Nat.sub_self, List.set_cons_zero]
  simp
theorem at_bot {L : List Ser} {k : Nat} {x : Ser} (h : L[k]? = some x) : ((L.take k).map botSer ++ L.drop k)[k]? = some x := by
  have hk := (List.getElem?_eq_some_iff.1 h).1
  have hl : ((L.take k).map botSer).length = k := by rw [List.length_map, List.length_take]; omega
  rw [List.getElem?_append_right (by omega), hl, Nat.sub_self, drop_cons' h]
  rfl
theorem qt_bot {L : List Ser} (h : QT L) : QT (L.map botSer) := by
  have hg : ∀ x ∈ L.map botSer, x.good := fun x hx => by
    obtain ⟨y, hy, rfl⟩ := List.mem_map.1 hx
    exact (h.good y hy).bot
  refine ⟨right_labs (l := L) ?_ h.right (fun x hx => (hg x hx).sk.ok), hg⟩
  rw [List.map_map]
  rfl
theorem below10 {n b : Nat} {w0 W : World} (h : Below n w0 W) (hb : n ≤ b) (v0 v1 v2 v3 v4 v5 v6 v7 v8 v9 : Value) : Below n w0 ((((((((((W.setCell ⟨b, 0, none⟩ v0).setCell ⟨b, 1, none⟩ v1).setCell ⟨b, 2, none⟩ v2).setCell ⟨b, 3, none⟩ v3).setCell ⟨b, 4, none⟩ v4).setCell ⟨b, 5, none⟩ v5).setCell ⟨b, 6, none⟩ v6).setCell ⟨b, 7, none⟩ v7).setCell ⟨b, 8, none⟩ v8).setCell ⟨b, 9, none⟩ v9) :=
  (((((((((h.setCell (p := ⟨b, 0, none⟩) hb _).setCell (p := ⟨b, 1, none⟩) hb _).setCell (p := ⟨b, 2, none⟩) hb _).setCell (p := ⟨b, 3, none⟩) hb _).setCell (p := ⟨b, 4, none⟩) hb _).setCell (p := ⟨b, 5, none⟩) hb _).setCell (p := ⟨b, 6, none⟩) hb _).setCell (p := ⟨b, 7, none⟩) hb _).setCell (p := ⟨b, 8, none⟩) hb _).setCell (p := ⟨b, 9, none⟩) hb _
theorem alloc_box {W wc : World} {cs : Array Value} {t : TypeId} (hb : Below (W.alloc (.cells cs t)).drew.heap.size (W.alloc (.cells cs t)).drew wc) : wc.heap[W.heap.size]? = some (.cells cs t (0, 0)) :=
  (hb.block _ (by show _ < (W.alloc (.cells cs t)).heap.size; simp)).trans (World.alloc_heap_new _ _)
def SkBox (b : Nat) (t : TypeId) (y : Sk) (s : SS) (W : World) (cs : Array Value) : Prop := W.heap[b]? = some (.cells cs t (0, 0)) ∧ s.At W.heap.size W y
theorem SkBox.set {W : World} {b : Nat} {cs : Array Value} {t : TypeId} {y : Sk} {s : SS} (h : SkBox b t y s W cs) (hf : s.Far b) (o : Nat) (v : Value) : SkBox b t y s (W.setCell ⟨b, o, none⟩ v) (cs.setIfInBounds o v) := by
  refine ⟨hSk h.1 v, ?_⟩
  have hl : (W.setCell ⟨b, o, none⟩ v).heap.size = W.heap.size := by simp [World.setCell]
  rw [hl]
  exact h.2.set hf v
theorem skbox_store {W w6 : World} {b : Nat} {cs : Array Value} {t0 t : TypeId} {z0 z1 z2 z3 z4 z5 z6 z7 z8 z9 : Value} {y : Sk} {s : SS} (hs : W.heap.size = b) (hbx : w6.heap[b]? = some (.cells #[z0, z1, z2, z3, z4, z5, z6, z7, z8, z9] t (0, 0))) (hA : s.At w6.heap.size w6 y)
    (hF : s.From (W.alloc (.cells cs t0)).drew.heap.size) :
    ∃ V : World, ((((((((((w6.setCell ⟨b, 0, none⟩ (.int .i64 y.kind)).setCell ⟨b, 1, none⟩ (.int .i64 y.level)).setCell ⟨b, 2, none⟩ (.slice s.ea s.el s.ec)).setCell ⟨b, 3, none⟩ (.int .i64 y.hb)).setCell ⟨b, 4, none⟩ (.string y.hr)).setCell ⟨b, 5, none⟩ (.int .i64 y.cr)).setCell ⟨b, 6, none⟩ (.int .i64 y.cc)).setCell ⟨b, 7, none⟩ (.slice s.ca s.cl s.cc)).setCell ⟨b, 8, none⟩ (.int .i64 y.gf)).setCell ⟨b, 9, none⟩ (.slice s.ga s.gl s.gc)) = V ∧ V.heap[b]? = some (.cells #[.int .i64 y.kind, .int .i64 y.level, .slice s.ea s.el s.ec, .int .i64 y.hb, .string y.hr, .int .i64 y.cr, .int .i64 y.cc, .slice s.ca s.cl s.cc, .int .i64 y.gf, .slice s.ga s.gl s.gc] t (0, 0)) ∧ s.At V.heap.size V y ∧ s.From W.heap.size := by
  have hz : (W.alloc (.cells cs t0)).drew.heap.size = b + 1 := by show (W.alloc (.cells cs t0)).heap.size = _; simp [hs]
  rw [hz] at hF
  have hf : s.Far b := ⟨fun z hz => by have := hF.1 z hz; omega, fun z hz => by have := hF.2.1 z hz; omega, fun z hz => by have := hF.2.2 z hz; omega⟩
  have h0 : SkBox b t y s w6 #[z0, z1, z2, z3, z4, z5, z6, z7, z8, z9] := ⟨hbx, hA⟩
  have k0 : SkBox b t y s _ #[.int .i64 y.kind, z1, z2, z3, z4, z5, z6, z7, z8, z9] := h0.set hf 0 (.int .i64 y.kind)
  have k1 : SkBox b t y s _ #[.int .i64 y.kind, .int .i64 y.level, z2, z3, z4, z5, z6, z7, z8, z9] := k0.set hf 1 (.int .i64 y.level)
  have k2 : SkBox b t y s _ #[.int .i64 y.kind, .int .i64 y.level, .slice s.ea s.el s.ec, z3, z4, z5, z6, z7, z8, z9] := k1.set hf 2 (.slice s.ea s.el s.ec)
  have k3 : SkBox b t y s _ #[.int .i64 y.kind, .int .i64 y.level, .slice s.ea s.el s.ec, .int .i64 y.hb, z4, z5, z6, z7, z8, z9] := k2.set hf 3 (.int .i64 y.hb)
  have k4 : SkBox b t y s _ #[.int .i64 y.kind, .int .i64 y.level, .slice s.ea s.el s.ec, .int .i64 y.hb, .string y.hr, z5, z6, z7, z8, z9] := k3.set hf 4 (.string y.hr)
  have k5 : SkBox b t y s _ #[.int .i64 y.kind, .int .i64 y.level, .slice s.ea s.el s.ec, .int .i64 y.hb, .string y.hr, .int .i64 y.cr, z6, z7, z8, z9] := k4.set hf 5 (.int .i64 y.cr)
  have k6 : SkBox b t y s _ #[.int .i64 y.kind, .int .i64 y.level, .slice s.ea s.el s.ec, .int .i64 y.hb, .string y.hr, .int .i64 y.cr, .int .i64 y.cc, z7, z8, z9] := k5.set hf 6 (.int .i64 y.cc)
  have k7 : SkBox b t y s _ #[.int .i64 y.kind, .int .i64 y.level, .slice s.ea s.el s.ec, .int .i64 y.hb, .string y.hr, .int .i64 y.cr, .int .i64 y.cc, .slice s.ca s.cl s.cc, z8, z9] := k6.set hf 7 (.slice s.ca s.cl s.cc)
  have k8 : SkBox b t y s _ #[.int .i64 y.kind, .int .i64 y.level, .slice s.ea s.el s.ec, .int .i64 y.hb, .string y.hr, .int .i64 y.cr, .int .i64 y.cc, .slice s.ca s.cl s.cc, .int .i64 y.gf, z9] := k7.set hf 8 (.int .i64 y.gf)
  have k9 : SkBox b t y s _ #[.int .i64 y.kind, .int .i64 y.level, .slice s.ea s.el s.ec, .int .i64 y.hb, .string y.hr, .int .i64 y.cr, .int .i64 y.cc, .slice s.ca s.cl s.cc, .int .i64 y.gf, .slice s.ga s.gl s.gc] := k8.set hf 9 (.slice s.ga s.gl s.gc)
  exact ⟨_, rfl, k9.1, k9.2, hF.mono (by omega)⟩
set_option maxRecDepth 100000 in
set_option maxHeartbeats 4000000 in
theorem Least_any (l : List (Ser × SerP)) (a : Option Addr) (len cap : Nat) (w : World) (hT : Tab w.heap.size w a len cap l) (hF : TabFit l) (hQ : tabRight (l.map (·.1)) = true → QT (l.map (·.1))) (hG : GW w) :
    Calls Tryz.prog 50 #[.slice a len cap] w fun e w' => e = .returned (.int .i64 (leastB (l.map (·.1)))) ∧ Below w.heap.size w w' := by
  have hR := series_Right_any l a len cap w hT hF hG
  have hlen := hT.row.1.1
  subst hlen
  have HT := Lib.hid hT
  have HF := Lib.hid hF
  have HG := Lib.hid hG
  clear hT hF hG
  obtain ⟨L, hL⟩ : ∃ L, l.map (·.1) = L := ⟨_, rfl⟩
  rw [hL] at hR hQ ⊢
  cases hr : tabRight L with
  | false =>
    rw [hr] at hR
    have H9 : Hid (leastB L = 0) := by unfold leastB; rw [Hid, hr]; rfl
    generalize leastB L = c9 at H9 ⊢
    clear hr hQ
    go_enter Tryz.func50, Tryz.ntmps50
    go_wp2_with (go_at_call 43; refine hR.mono ?_; rintro e w1 ⟨rfl, hb1⟩)
    go_ret
    exact ⟨by rw [H9.out]; rfl, hb1⟩
  | true =>
    rw [hr] at hR
    have H9 : Hid (leastB L = costL (L.map botSer)) := by unfold leastB; rw [Hid, hr]; rfl
    have HQ := Lib.hid (hQ hr)
    have HL := Lib.hid hL
    have h20 : L.length ≤ 20 := HQ.out.len
    have hll : l.length = L.length := by rw [← hL, List.length_map]
    have HC : Hid (∀ w', Below w.heap.size w w' → Calls Tryz.prog 112 #[.slice a l.length cap] w' fun e w'' => ∃ v m, e = .returned v ∧ GrowS w'.heap.size (w'.heap.size ≤ ·) w'' v m ∧ m.map (·.1) = L ∧ Below w'.heap.size w' w'') := fun w' hb => by
      rw [← hL]
      exact copied_any l a l.length cap w' (HT.out.go hb) (addFit_of (by rw [hL]; exact hr) HF.out HT.out) (by omega)
    generalize leastB L = c9 at H9 ⊢
    clear hr hQ hL hll
    generalize l.length = ll at *
    go_enter Tryz.func50, Tryz.ntmps50
    go_wp2_with (first
      | (go_at_call 43; refine hR.mono ?_; rintro e w1 ⟨rfl, hb1⟩)
      | (go_at_call 112; refine (HC.out _ hb1).mono ?_; rintro e w3 ⟨tv, m, rfl, hgr, hm, hb3⟩; obtain ⟨ta, tc, rfl⟩ := hgr.form))
    have hml : m.length = L.length := by rw [← hm, List.length_map]
    have HGr := Lib.hid hgr
    have HM := Lib.hid hm
    have HB1 := Lib.hid hb1
    have HB3 := Lib.hid hb3
    rw [hml] at HGr ⊢
    clear hgr hm hb1 hb3 hR HC hml
    go_loopw [15] (fun i wr => ∃ (k : Nat) (m : List (Ser × SerP)), i = .int .i64 k ∧ k ≤ L.length ∧ Hid (m.length = L.length) ∧ Hid (GrowS w1.heap.size (w1.heap.size ≤ ·) wr (.slice ta m.length tc) m) ∧ Hid (m.map (·.1) = (L.take k).map botSer ++ L.drop k) ∧ Hid (Below w1.heap.size w1 wr)) (fun i _ => L.length - (intOf i).toNat)
    case atStart => exact ⟨0, m, rfl, Nat.zero_le _, by rw [Hid, ← HM.out, List.length_map], by rw [Hid, show m.length = L.length by rw [← HM.out, List.length_map]]; exact HGr.out, HM.out, HB3.out⟩
    case round =>
      obtain ⟨k, m, rfl, hk, HLm, HGm, HMm, HBm⟩ := hrel
      by_cases hlt : k < L.length
      · obtain ⟨x, hx⟩ : ∃ x, L[k]? = some x := ⟨_, List.getElem?_eq_getElem hlt⟩
        have hmx := at_bot hx
        rw [← HMm.out, List.getElem?_map, Option.map_eq_some_iff] at hmx
        obtain ⟨⟨z, p⟩, hmk, e1⟩ := hmx
        obtain rfl : z = x := e1
        have HX := Lib.hid hx
        have HMK := Lib.hid hmk
        obtain ⟨g, rfl⟩ : ∃ g, ta = some ⟨g, 0, none⟩ := by
          rcases HGm.out.own.2 with ⟨h1, h2⟩ | ⟨g, cap, cur, h1, _⟩
          · have := HLm.out; omega
          · injection h1 with h1
            exact ⟨g, h1⟩
        have hkm : k < m.length := by have := HLm.out; omega
        have hml : m.length = L.length := HLm.out
        have e0 : wr.cell? ⟨g, k * 12, none⟩ = some (.slice p.la p.ll p.lc) := own_cell HGm.out.own (flat_at (i := 0) HMK.out (by decide))
        have e1 : wr.cell? ⟨g, k * 12 + 1, none⟩ = some (.int .i64 z.sk.kind) := own_cell HGm.out.own (flat_at (i := 1) HMK.out (by decide))
        have e2 : wr.cell? ⟨g, k * 12 + 2, none⟩ = some (.int .i64 z.sk.level) := own_cell HGm.out.own (flat_at (i := 2) HMK.out (by decide))
        have e3 : wr.cell? ⟨g, k * 12 + 3, none⟩ = some (.slice p.ss.ea p.ss.el p.ss.ec) := own_cell HGm.out.own (flat_at (i := 3) HMK.out (by decide))
        have e4 : wr.cell? ⟨g, k * 12 + 4, none⟩ = some (.int .i64 z.sk.hb) := own_cell HGm.out.own (flat_at (i := 4) HMK.out (by decide))
        have e5 : wr.cell? ⟨g, k * 12 + 5, none⟩ = some (.string z.sk.hr) := own_cell HGm.out.own (flat_at (i := 5) HMK.out (by decide))
        have e6 : wr.cell? ⟨g, k * 12 + 6, none⟩ = some (.int .i64 z.sk.cr) := own_cell HGm.out.own (flat_at (i := 6) HMK.out (by decide))
        have e7 : wr.cell? ⟨g, k * 12 + 7, none⟩ = some (.int .i64 z.sk.cc) := own_cell HGm.out.own (flat_at (i := 7) HMK.out (by decide))
        have e8 : wr.cell? ⟨g, k * 12 + 8, none⟩ = some (.slice p.ss.ca p.ss.cl p.ss.cc) := own_cell HGm.out.own (flat_at (i := 8) HMK.out (by decide))
        have e9 : wr.cell? ⟨g, k * 12 + 9, none⟩ = some (.int .i64 z.sk.gf) := own_cell HGm.out.own (flat_at (i := 9) HMK.out (by decide))
        have e10 : wr.cell? ⟨g, k * 12 + 10, none⟩ = some (.slice p.ss.ga p.ss.gl p.ss.gc) := own_cell HGm.out.own (flat_at (i := 10) HMK.out (by decide))
        have e11 : wr.cell? ⟨g, k * 12 + 11, none⟩ = some (.int .u64 z.seen) := own_cell HGm.out.own (flat_at (i := 11) HMK.out (by decide))
        clear hml
        obtain ⟨W1, hW1, hX1, hB1, hs1⟩ := boxes1 wr #[.slice p.la p.ll p.lc, .int .i64 z.sk.kind, .int .i64 z.sk.level, .slice p.ss.ea p.ss.el p.ss.ec, .int .i64 z.sk.hb, .string z.sk.hr, .int .i64 z.sk.cr, .int .i64 z.sk.cc, .slice p.ss.ca p.ss.cl p.ss.cc, .int .i64 z.sk.gf, .slice p.ss.ga p.ss.gl p.ss.gc, .int .u64 z.seen] 64
        have r0 : W1.cell? ⟨wr.heap.size, 0, none⟩ = some (.slice p.la p.ll p.lc) := cCc hX1 0
        have r1 : W1.cell? ⟨wr.heap.size, 1, none⟩ = some (.int .i64 z.sk.kind) := cCc hX1 1
        have r2 : W1.cell? ⟨wr.heap.size, 2, none⟩ = some (.int .i64 z.sk.level) := cCc hX1 2
        have r3 : W1.cell? ⟨wr.heap.size, 3, none⟩ = some (.slice p.ss.ea p.ss.el p.ss.ec) := cCc hX1 3
        have r4 : W1.cell? ⟨wr.heap.size, 4, none⟩ = some (.int .i64 z.sk.hb) := cCc hX1 4
        have r5 : W1.cell? ⟨wr.heap.size, 5, none⟩ = some (.string z.sk.hr) := cCc hX1 5
        have r6 : W1.cell? ⟨wr.heap.size, 6, none⟩ = some (.int .i64 z.sk.cr) := cCc hX1 6
        have r7 : W1.cell? ⟨wr.heap.size, 7, none⟩ = some (.int .i64 z.sk.cc) := cCc hX1 7
        have r8 : W1.cell? ⟨wr.heap.size, 8, none⟩ = some (.slice p.ss.ca p.ss.cl p.ss.cc) := cCc hX1 8
        have r9 : W1.cell? ⟨wr.heap.size, 9, none⟩ = some (.int .i64 z.sk.gf) := cCc hX1 9
        have r10 : W1.cell? ⟨wr.heap.size, 10, none⟩ = some (.slice p.ss.ga p.ss.gl p.ss.gc) := cCc hX1 10
        have r11 : W1.cell? ⟨wr.heap.size, 11, none⟩ = some (.int .u64 z.seen) := cCc hX1 11
        have HP1 : Hid (p.At W1.heap.size W1 z) := (HGm.out.at_ _ (List.mem_of_getElem? HMK.out)).go hB1
        have HG1 := Lib.hid (HGm.out.go hB1)
        have HBW : Hid (Below w1.heap.size w1 W1) := HBm.out.trans (hB1.mono HBm.out.size)
        have HBT : Hid (∀ w, Calls Tryz.prog 31 #[.int .i64 z.sk.kind] w fun e w' => e = .returned (.int .i64 (bottomB z.sk.kind)) ∧ w' = w) := fun w => (Bottom_any z.sk.kind w).mono fun e w' ⟨h1, h2⟩ => ⟨h1, h2.symm⟩
        have hbt : -1 ≤ bottomB z.sk.kind ∧ bottomB z.sk.kind ≤ 4 := by unfold bottomB; repeat' split; all_goals omega
        have HTo : Hid (∀ W, p.ss.At W.heap.size W z.sk → Calls Tryz.prog 21 #[.agg #[.int .i64 z.sk.kind, .int .i64 z.sk.level, .slice p.ss.ea p.ss.el p.ss.ec, .int .i64 z.sk.hb, .string z.sk.hr, .int .i64 z.sk.cr, .int .i64 z.sk.cc, .slice p.ss.ca p.ss.cl p.ss.cc, .int .i64 z.sk.gf, .slice p.ss.ga p.ss.gl p.ss.gc], .int .i64 (bottomB z.sk.kind)] W fun e w' => ∃ (y : Sk) (s : SS), y = (botSer z).sk ∧ e = .returned (.tuple #[.agg #[.int .i64 y.kind, .int .i64 y.level, .slice s.ea s.el s.ec, .int .i64 y.hb, .string y.hr, .int .i64 y.cr, .int .i64 y.cc, .slice s.ca s.cl s.cc, .int .i64 y.gf, .slice s.ga s.gl s.gc], .int .i64 0]) ∧ s.At w'.heap.size w' y ∧ s.From W.heap.size ∧ Below W.heap.size W w') := fun W h => bot_call (HQ.out.good z (List.mem_of_getElem? HX.out)) h
        generalize bottomB z.sk.kind = bt at HBT hbt HTo
        go_wp2_with fail
        have hwr1 : wr.heap.size < W1.heap.size := by omega
        have hkp : ∀ W, Below W1.heap.size W1 W → W.cell? ⟨wr.heap.size, 1, none⟩ = some (.int .i64 z.sk.kind) ∧ W.cell? ⟨wr.heap.size, 2, none⟩ = some (.int .i64 z.sk.level) ∧ W.cell? ⟨wr.heap.size, 3, none⟩ = some (.slice p.ss.ea p.ss.el p.ss.ec) ∧ W.cell? ⟨wr.heap.size, 4, none⟩ = some (.int .i64 z.sk.hb) ∧ W.cell? ⟨wr.heap.size, 5, none⟩ = some (.string z.sk.hr) ∧ W.cell? ⟨wr.heap.size, 6, none⟩ = some (.int .i64 z.sk.cr) ∧ W.cell? ⟨wr.heap.size, 7, none⟩ = some (.int .i64 z.sk.cc) ∧ W.cell? ⟨wr.heap.size, 8, none⟩ = some (.slice p.ss.ca p.ss.cl p.ss.cc) ∧ W.cell? ⟨wr.heap.size, 9, none⟩ = some (.int .i64 z.sk.gf) ∧ W.cell? ⟨wr.heap.size, 10, none⟩ = some (.slice p.ss.ga p.ss.gl p.ss.gc) ∧ Below W1.heap.size W1 W := fun W h =>
          ⟨(h.cell (p := ⟨wr.heap.size, 1, none⟩) hwr1).trans r1, (h.cell (p := ⟨wr.heap.size, 2, none⟩) hwr1).trans r2, (h.cell (p := ⟨wr.heap.size, 3, none⟩) hwr1).trans r3, (h.cell (p := ⟨wr.heap.size, 4, none⟩) hwr1).trans r4, (h.cell (p := ⟨wr.heap.size, 5, none⟩) hwr1).trans r5, (h.cell (p := ⟨wr.heap.size, 6, none⟩) hwr1).trans r6, (h.cell (p := ⟨wr.heap.size, 7, none⟩) hwr1).trans r7, (h.cell (p := ⟨wr.heap.size, 8, none⟩) hwr1).trans r8, (h.cell (p := ⟨wr.heap.size, 9, none⟩) hwr1).trans r9, (h.cell (p := ⟨wr.heap.size, 10, none⟩) hwr1).trans r10, h⟩
        have HKP := Lib.hid hkp
        obtain ⟨v1, v2, v3, v4, v5, v6, v7, v8, v9, v10, qB⟩ := hkp W1 (Below.refl _ _)
        clear hkp r0 r1 r2 r3 r4 r5 r6 r7 r8 r9 r10 r11 hX1 hW1 e0 e1 e2 e3 e4 e5 e6 e7 e8 e9 e10 e11
        go_cut [6, 7] (fun s6 s7 wx => ∃ (b6 : Nat) (y : Sk) (s : SS), s6 = .pointer (some ⟨b6, 0, none⟩) ∧ s7 = .int .i64 0 ∧ Hid (y = (botSer z).sk) ∧ Hid (Below W1.heap.size W1 wx) ∧ Hid (W1.heap.size ≤ b6) ∧ Hid (wx.heap[b6]? = some (.cells #[.int .i64 y.kind, .int .i64 y.level, .slice s.ea s.el s.ec, .int .i64 y.hb, .string y.hr, .int .i64 y.cr, .int .i64 y.cc, .slice s.ca s.cl s.cc, .int .i64 y.gf, .slice s.ga s.gl s.gc] 33 (0, 0))) ∧ Hid (s.At wx.heap.size wx y) ∧ Hid (s.From W1.heap.size))
        case first =>
          go_region_held3 (fun w' => w'.cell? ⟨wr.heap.size, 1, none⟩ = some (.int .i64 z.sk.kind) ∧ w'.cell? ⟨wr.heap.size, 2, none⟩ = some (.int .i64 z.sk.level) ∧ w'.cell? ⟨wr.heap.size, 3, none⟩ = some (.slice p.ss.ea p.ss.el p.ss.ec) ∧ w'.cell? ⟨wr.heap.size, 4, none⟩ = some (.int .i64 z.sk.hb) ∧ w'.cell? ⟨wr.heap.size, 5, none⟩ = some (.string z.sk.hr) ∧ w'.cell? ⟨wr.heap.size, 6, none⟩ = some (.int .i64 z.sk.cr) ∧ w'.cell? ⟨wr.heap.size, 7, none⟩ = some (.int .i64 z.sk.cc) ∧ w'.cell? ⟨wr.heap.size, 8, none⟩ = some (.slice p.ss.ca p.ss.cl p.ss.cc) ∧ w'.cell? ⟨wr.heap.size, 9, none⟩ = some (.int .i64 z.sk.gf) ∧ w'.cell? ⟨wr.heap.size, 10, none⟩ = some (.slice p.ss.ga p.ss.gl p.ss.gc) ∧ Below W1.heap.size W1 w')
            (first
              | with_reducible exact HKP.out _ qB.drew
              | with_reducible exact HKP.out _ (Below.alloc qB (Nat.le_refl _) _).drew
              | with_reducible exact HKP.out _ (Below.alloc hq6 hq6.size _)
              | with_reducible exact HKP.out _ (Below.alloc hq6 hq6.size _).drew
              | with_reducible exact HKP.out _ (below10 hq6 (Nat.le_of_eq hs1) _ _ _ _ _ _ _ _ _ _)
              | (go_split_ands; with_reducible refine HKP.out _ ?_; with_reducible first | assumption | exact Below.trans (by assumption) (Below.mono (by assumption) (Below.size (by assumption))) | exact Below.alloc (by assumption) (Below.size (by assumption)) _)
              | (trace_state; go_keep))
            (first
              | (go_at_call 31; refine (HBT.out _).mono ?_; rintro e wc ⟨rfl, rfl⟩)
              | (go_at_call 21; refine (HTo.out _ (HP1.out.s.go (by go_split_ands; assumption))).mono ?_; rintro e w6 ⟨y, s, hy, rfl, hsA, hsF, hb6⟩; have HY := Lib.hid hy; clear hy; have hq6 : Below W1.heap.size W1 w6 := (by go_split_ands; exact Below.trans (by assumption) (Below.mono hb6 (Below.size (by assumption)))); try (have hbx := alloc_box hb6; rw [hs1] at hbx; have f0 : w6.cell? ⟨wr.heap.size + 1, 0, none⟩ = some (.int .i64 0) := cCc hbx 0; have f1 : w6.cell? ⟨wr.heap.size + 1, 1, none⟩ = some (.int .i64 0) := cCc hbx 1; have f2 : w6.cell? ⟨wr.heap.size + 1, 2, none⟩ = some (.slice none 0 0) := cCc hbx 2; have f3 : w6.cell? ⟨wr.heap.size + 1, 3, none⟩ = some (.int .i64 0) := cCc hbx 3; have f4 : w6.cell? ⟨wr.heap.size + 1, 4, none⟩ = some (.string ⟨#[]⟩) := cCc hbx 4; have f5 : w6.cell? ⟨wr.heap.size + 1, 5, none⟩ = some (.int .i64 0) := cCc hbx 5; have f6 : w6.cell? ⟨wr.heap.size + 1, 6, none⟩ = some (.int .i64 0) := cCc hbx 6; have f7 : w6.cell? ⟨wr.heap.size + 1, 7, none⟩ = some (.slice none 0 0) := cCc hbx 7; have f8 : w6.cell? ⟨wr.heap.size + 1, 8, none⟩ = some (.int .i64 0) := cCc hbx 8; have f9 : w6.cell? ⟨wr.heap.size + 1, 9, none⟩ = some (.slice none 0 0) := cCc hbx 9; have g0 : w6.frozen? ⟨wr.heap.size + 1, 0, none⟩ = false := cFz hbx 0; have g1 : w6.frozen? ⟨wr.heap.size + 1, 1, none⟩ = false := cFz hbx 1; have g2 : w6.frozen? ⟨wr.heap.size + 1, 2, none⟩ = false := cFz hbx 2; have g3 : w6.frozen? ⟨wr.heap.size + 1, 3, none⟩ = false := cFz hbx 3; have g4 : w6.frozen? ⟨wr.heap.size + 1, 4, none⟩ = false := cFz hbx 4; have g5 : w6.frozen? ⟨wr.heap.size + 1, 5, none⟩ = false := cFz hbx 5; have g6 : w6.frozen? ⟨wr.heap.size + 1, 6, none⟩ = false := cFz hbx 6; have g7 : w6.frozen? ⟨wr.heap.size + 1, 7, none⟩ = false := cFz hbx 7; have g8 : w6.frozen? ⟨wr.heap.size + 1, 8, none⟩ = false := cFz hbx 8; have g9 : w6.frozen? ⟨wr.heap.size + 1, 9, none⟩ = false := cFz hbx 9)))
          all_goals go_wp2_with fail
          all_goals go_meet
          · exact ⟨w6.heap.size, y, s, rfl, rfl, HY, hq6.alloc hq6.size _, hq6.size, World.alloc_heap_new _ _, hsA.go ((Below.refl _ _).alloc (Nat.le_refl _) _), hsF⟩
          all_goals
            obtain ⟨V, hV, h1, h2, h3⟩ := skbox_store hs1 hbx hsA hsF
            have hBl := below10 hq6 (Nat.le_of_eq hs1) (.int .i64 y.kind) (.int .i64 y.level) (.slice s.ea s.el s.ec) (.int .i64 y.hb) (.string y.hr) (.int .i64 y.cr) (.int .i64 y.cc) (.slice s.ca s.cl s.cc) (.int .i64 y.gf) (.slice s.ga s.gl s.gc)
            rw [hV] at hBl ⊢
            exact ⟨wr.heap.size + 1, y, s, rfl, rfl, HY, hBl, Nat.le_of_eq hs1, h1, h2, h3⟩
        case rest =>
          obtain ⟨b6, y, s, rfl, rfl, HY, HBx, HB6, HX6, HsA, HsF⟩ := hcut
          have r0 : wc.cell? ⟨b6, 0, none⟩ = some (.int .i64 y.kind) := cCc HX6.out 0
          have r1 : wc.cell? ⟨b6, 1, none⟩ = some (.int .i64 y.level) := cCc HX6.out 1
          have r2 : wc.cell? ⟨b6, 2, none⟩ = some (.slice s.ea s.el s.ec) := cCc HX6.out 2
          have r3 : wc.cell? ⟨b6, 3, none⟩ = some (.int .i64 y.hb) := cCc HX6.out 3
          have r4 : wc.cell? ⟨b6, 4, none⟩ = some (.string y.hr) := cCc HX6.out 4
          have r5 : wc.cell? ⟨b6, 5, none⟩ = some (.int .i64 y.cr) := cCc HX6.out 5
          have r6 : wc.cell? ⟨b6, 6, none⟩ = some (.int .i64 y.cc) := cCc HX6.out 6
          have r7 : wc.cell? ⟨b6, 7, none⟩ = some (.slice s.ca s.cl s.cc) := cCc HX6.out 7
          have r8 : wc.cell? ⟨b6, 8, none⟩ = some (.int .i64 y.gf) := cCc HX6.out 8
          have r9 : wc.cell? ⟨b6, 9, none⟩ = some (.slice s.ga s.gl s.gc) := cCc HX6.out 9
          have HGx := Lib.hid (HG1.out.go HBx.out)
          have s1 : wc.cell? ⟨g, k * 12 + 1, none⟩ = some (.int .i64 z.sk.kind) := own_cell HGx.out.own (flat_at (i := 1) HMK.out (by decide))
          have t1 : wc.frozen? ⟨g, k * 12 + 1, none⟩ = false := own_frozen HGx.out.own _
          have s2 : wc.cell? ⟨g, k * 12 + 2, none⟩ = some (.int .i64 z.sk.level) := own_cell HGx.out.own (flat_at (i := 2) HMK.out (by decide))
          have t2 : wc.frozen? ⟨g, k * 12 + 2, none⟩ = false := own_frozen HGx.out.own _
          have s3 : wc.cell? ⟨g, k * 12 + 3, none⟩ = some (.slice p.ss.ea p.ss.el p.ss.ec) := own_cell HGx.out.own (flat_at (i := 3) HMK.out (by decide))
          have t3 : wc.frozen? ⟨g, k * 12 + 3, none⟩ = false := own_frozen HGx.out.own _
          have s4 : wc.cell? ⟨g, k * 12 + 4, none⟩ = some (.int .i64 z.sk.hb) := own_cell HGx.out.own (flat_at (i := 4) HMK.out (by decide))
          have t4 : wc.frozen? ⟨g, k * 12 + 4, none⟩ = false := own_frozen HGx.out.own _
          have s5 : wc.cell? ⟨g, k * 12 + 5, none⟩ = some (.string z.sk.hr) := own_cell HGx.out.own (flat_at (i := 5) HMK.out (by decide))
          have t5 : wc.frozen? ⟨g, k * 12 + 5, none⟩ = false := own_frozen HGx.out.own _
          have s6 : wc.cell? ⟨g, k * 12 + 6, none⟩ = some (.int .i64 z.sk.cr) := own_cell HGx.out.own (flat_at (i := 6) HMK.out (by decide))
          have t6 : wc.frozen? ⟨g, k * 12 + 6, none⟩ = false := own_frozen HGx.out.own _
          have s7 : wc.cell? ⟨g, k * 12 + 7, none⟩ = some (.int .i64 z.sk.cc) := own_cell HGx.out.own (flat_at (i := 7) HMK.out (by decide))
          have t7 : wc.frozen? ⟨g, k * 12 + 7, none⟩ = false := own_frozen HGx.out.own _
          have s8 : wc.cell? ⟨g, k * 12 + 8, none⟩ = some (.slice p.ss.ca p.ss.cl p.ss.cc) := own_cell HGx.out.own (flat_at (i := 8) HMK.out (by decide))
          have t8 : wc.frozen? ⟨g, k * 12 + 8, none⟩ = false := own_frozen HGx.out.own _
          have s9 : wc.cell? ⟨g, k * 12 + 9, none⟩ = some (.int .i64 z.sk.gf) := own_cell HGx.out.own (flat_at (i := 9) HMK.out (by decide))
          have t9 : wc.frozen? ⟨g, k * 12 + 9, none⟩ = false := own_frozen HGx.out.own _
          have s10 : wc.cell? ⟨g, k * 12 + 10, none⟩ = some (.slice p.ss.ga p.ss.gl p.ss.gc) := own_cell HGx.out.own (flat_at (i := 10) HMK.out (by decide))
          have t10 : wc.frozen? ⟨g, k * 12 + 10, none⟩ = false := own_frozen HGx.out.own _
          obtain ⟨V, hV, hVO, hVA, hVB⟩ := own_store10 y s HGx.out.own HMK.out
          have hgl := own_lt HG1.out.own
          have hbc : Below w1.heap.size w1 wc := HBW.out.trans (HBx.out.mono HBW.out.size)
          have hbw := HBW.out.size
          have HN1 := Lib.hid (HGx.out.setS HMK.out hVA hVO HsA.out HsF.out hgl (fun b hb => by omega))
          have HN2 : Hid ((m.set k (⟨z.l, y, z.seen⟩, (⟨p.la, p.ll, p.lc, s⟩ : SerP))).map (·.1) = (L.take (k + 1)).map botSer ++ L.drop (k + 1)) := by
            have e : (⟨z.l, y, z.seen⟩ : Ser) = botSer z := by rw [HY.out]; rfl
            rw [Hid, List.map_set, HMm.out, ← map_bot_set HX.out, ← e]
          have HN3 : Hid (Below w1.heap.size w1 V) := hVB _ _ (own_blk HG1.out.own).1 hbc
          have HN4 : Hid ((m.set k (⟨z.l, y, z.seen⟩, (⟨p.la, p.ll, p.lc, s⟩ : SerP))).length = L.length) := by rw [Hid, List.length_set]; exact HLm.out
          clear hVO hVA hVB hgl hbc hbw
          go_wp2_with fail
          go_roundw
          case rel => exact ⟨k + 1, _, by go_num, by omega, HN4, HN1, HN2, HN3⟩
          case measure => simp [intOf]; omega
      · obtain rfl : k = L.length := by omega
        have hm9 : m.map (·.1) = L.map botSer := by rw [HMm.out, List.take_of_length_le (Nat.le_refl _), List.drop_of_length_le (Nat.le_refl _), List.append_nil]
        obtain ⟨a', c', e1, h1, -⟩ := HGm.out.tab
        injection e1 with e1 e2 e3
        subst e1
        subst e3
        have hqb := qt_bot HQ.out
        have hB := HB1.out.trans (HBm.out.mono HB1.out.size)
        have hCo := series_Cost_any m ta m.length tc wr h1 (tabFit_of h1 (by rw [hm9]; exact hqb.fine)) (HG.out.below hB)
        rw [hm9, tabCost, hqb.right, if_pos rfl, ← H9.out, HLm.out] at hCo
        have HCo := Lib.hid hCo
        clear hCo h1 hm9 hqb
        go_wp2_with (go_at_call 44; refine HCo.out.mono ?_; rintro e w5 ⟨rfl, hb5⟩)
        go_ret
        exact ⟨rfl, hB.trans (hb5.mono hB.size)⟩
end Go.Proofs.YtpnlmfilmbodfaaGreatDoor
namespace Go.Proofs.YtpnlmfilmbodfaaGreatDoor
open Go Go.RowKit Go.Shelf
theorem least_plain {b : Int} {L : List Ser} (hQ : tabRight L = true → QT L) (hr : tabRight L = true) (h0 : 0 ≤ b) (h1 : b ≤ 1000000) : ((fitAll b L).2.2 = 0 ∨ b < leastB L) ∧ (vicB L = true ∨ leastB L = tabCost L) := by
  have h := hQ hr
  have hB : isBudgetB b = true := by simp [isBudgetB]; omega
  have e : leastB L = leastL L := by unfold leastB; rw [if_pos hr]
  rw [e]
  refine ⟨?_, ?_⟩
  · cases hf : fit b L with
    | none => exact .inr (fit_least b L h hf)
    | some r => exact .inl (by rw [fitAll_some (a := r.1) (ps := r.2) hr hB hf])
  · cases hv : victim L with
    | none => exact .inr (by rw [least_self h hv, tabCost, hr, if_pos rfl])
    | some v => exact .inl (by have := (victim_some hv).1; unfold vicB; rw [hr, this]; rfl)
set_option maxRecDepth 100000 in
set_option maxHeartbeats 4000000 in
theorem quotaLeast_any (l : List (Ser × SerP)) (a : Option Addr) (len cap : Nat) (b : Int) (w : World) (hT : Tab w.heap.size w a len cap l) (hU : ∀ x ∈ l.map (·.1), Ser.wn x) (_hb : I64 b) (hG : GW w) (_ : GT w) :
    Calls Tryz.prog 11 #[.slice a len cap, .int .i64 b] w fun e w' => e = .returned (.bool true) ∧ Below w.heap.size w w' := by
  have HT := Lib.hid hT
  have HG := Lib.hid hG
  obtain ⟨L, hL⟩ : ∃ L, few12 (l.map (·.1)) = L := ⟨_, rfl⟩
  have HQ : Hid (tabRight L = true → QT L) := by rw [← hL]; exact qt_few hU
  have HFi : Hid (∀ x ∈ L, x.fine) := by rw [← hL]; exact fine_few (fun y hy => (hU y hy).wf)
  have HL := Lib.hid hL
  have HPl : Hid (tabRight L = true → 0 ≤ b → b ≤ 1000000 → ((fitAll b L).2.2 = 0 ∨ b < leastB L) ∧ (vicB L = true ∨ leastB L = tabCost L)) := least_plain HQ.out
  obtain ⟨ps, hps⟩ : ∃ ps, (fitAll b L).2.1 = ps := ⟨_, rfl⟩
  obtain ⟨er, her⟩ : ∃ er, (fitAll b L).2.2 = er := ⟨_, rfl⟩
  rw [her] at HPl
  have HF1 : Hid (∀ (m : List (Ser × SerP)) (a2 : Option Addr) (len2 cap2 : Nat) W, Tab W.heap.size W a2 len2 cap2 m → m.map (·.1) = L → GW W → Calls Tryz.prog 45 #[.slice a2 len2 cap2, .int .i64 b] W (FitP b L ps er W)) := fun m a2 len2 cap2 W hT hm hG => Fit_named hps her hT hm HFi.out HQ.out hG
  clear hT hU hG hL hps her
  go_enter Tryz.func11, Tryz.ntmps11
  go_wp2_with (first
    | (go_at_call 40; refine (shown13_any w HG.out).mono ?_; rintro e w1 ⟨rfl, hb1⟩)
    | (go_at_call 41; refine (few12_any l a len cap w1 (HT.out.go hb1)).mono ?_; rintro e w2 ⟨a2, cap2, m, rfl, hT2, hm, hlo2, hla, hb2⟩; clear hlo2 hla))
  have hb02 := hb1.trans (hb2.mono hb1.size)
  have hm' := hm.trans HL.out
  have hfit : TabFit m := tabFit_of hT2 (by rw [hm']; exact HFi.out)
  have hR := series_Right_any m a2 m.length cap2 w2 hT2 hfit (HG.out.below hb02)
  rw [hm'] at hR
  refine hR.mono ?_
  rintro e w3 ⟨rfl, hb3⟩
  have hb03 := hb02.trans (hb3.mono hb02.size)
  have HT2 := Lib.hid hT2
  have HM2 := Lib.hid hm'
  have HFit := Lib.hid hfit
  clear hR hT2 hm hm' hfit HT HL
  cases hr : tabRight L with
  | false =>
    clear HPl HF1
    go_wp2_with fail
    go_ret
    exact ⟨rfl, hb03⟩
  | true =>
    by_cases h0 : b < 0
    · clear HPl HF1
      go_wp2_with fail
      go_ret
      exact ⟨rfl, hb03⟩
    by_cases h1 : 1000000 < b
    · clear HPl HF1
      go_wp2_with fail
      go_ret
      exact ⟨rfl, hb03⟩
    have hpl := HPl.out hr (by omega) (by omega)
    clear HPl
    have hF := Lib.hid (HF1.out m a2 _ cap2 w3 (HT2.out.go hb3) HM2.out (HG.out.below hb03))
    have HLe : Hid (∀ W, Below w3.heap.size w3 W → Calls Tryz.prog 50 #[.slice a2 m.length cap2] W fun e w' => e = .returned (.int .i64 (leastB L)) ∧ Below W.heap.size W w') := fun W hb => by
      have h1 := Least_any m a2 m.length cap2 W ((HT2.out.go hb3).go hb) HFit.out (by rw [HM2.out]; exact HQ.out) (HG.out.below (hb03.trans (hb.mono hb03.size)))
      rw [HM2.out] at h1
      exact h1
    have HVi : Hid (∀ W, Below w3.heap.size w3 W → Calls Tryz.prog 42 #[.slice a2 m.length cap2] W fun e w' => e = .returned (.tuple #[.int .i64 (vicP L), .bool (vicB L)]) ∧ Below W.heap.size W w') := fun W hb => by
      have h1 := Victim_any m a2 m.length cap2 W ((HT2.out.go hb3).go hb) HFit.out (HG.out.below (hb03.trans (hb.mono hb03.size)))
      rw [HM2.out] at h1
      exact h1
    have HCo : Hid (∀ W, Below w3.heap.size w3 W → Calls Tryz.prog 44 #[.slice a2 m.length cap2] W fun e w' => e = .returned (.int .i64 (tabCost L)) ∧ Below W.heap.size W w') := fun W hb => by
      have h1 := series_Cost_any m a2 m.length cap2 W ((HT2.out.go hb3).go hb) HFit.out (HG.out.below (hb03.trans (hb.mono hb03.size)))
      rw [HM2.out] at h1
      exact h1
    generalize leastB L = lb at *
    generalize vicP L = vp at *
    generalize vicB L = vb at *
    generalize tabCost L = tc at *
    generalize m.length = ml at *
    clear HF1 HQ HFi HT2 HM2 HFit hr
    obtain ⟨p1, p2⟩ := hpl
    go_wp2_with fail
    refine hF.out.mono ?_
    clear hF
    rintro e w4 ⟨m4, ta4, tc4, pa4, pc4, rfl, -, -, -, hb4⟩
    go_wp2_with fail
    refine (HLe.out _ hb4).mono ?_
    rintro e w5 ⟨rfl, hb5⟩
    have hb35 := hb4.trans (hb5.mono hb4.size)
    go_wp2_with fail
    refine (HVi.out _ hb35).mono ?_
    rintro e w6 ⟨rfl, hb6⟩
    have hb36 := hb35.trans (hb6.mono hb35.size)
    have hb06 := hb03.trans (hb36.mono hb03.size)
    clear HLe HVi
    have q1 : (er = 0 ∨ (er ≠ 0 ∧ b < lb)) := by
      by_cases h : er = 0
      · exact .inl h
      · exact .inr ⟨h, p1.resolve_left h⟩
    clear p1
    rcases q1 with q1 | ⟨q1, q2⟩
    · subst q1
      cases vb with
      | true =>
        clear p2
        go_wp2_with fail
        go_ret
        exact ⟨rfl, hb06⟩
      | false =>
        have p3 := p2.resolve_left (by decide)
        subst p3
        clear p2
        go_wp2_with (go_at_call 44; refine (HCo.out _ hb36).mono ?_; rintro e w7 ⟨rfl, hb7⟩)
        go_ret
        exact ⟨rfl, hb06.trans (hb7.mono hb06.size)⟩
    · have t1 : (er == 0) = false := beq_eq_false_iff_ne.2 q1
      cases vb with
      | true =>
        clear p2
        go_wp2_with fail
        go_ret
        exact ⟨rfl, hb06⟩
      | false =>
        have p3 := p2.resolve_left (by decide)
        subst p3
        clear p2
        go_wp2_with (go_at_call 44; refine (HCo.out _ hb36).mono ?_; rintro e w7 ⟨rfl, hb7⟩)
        go_ret
        exact ⟨rfl, hb06.trans (hb7.mono hb06.size)⟩
end Go.Proofs.YtpnlmfilmbodfaaGreatDoor
