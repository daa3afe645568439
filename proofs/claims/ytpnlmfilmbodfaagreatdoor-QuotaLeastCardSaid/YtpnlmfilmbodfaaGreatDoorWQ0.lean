/- Quota in plain data: a table's victim, what is fitted. No program in sight. -/
import Derived.Test.YtpnlmfilmbodfaaGreatDoorVA2
import Derived.Test.YtpnlmfilmbodfaaGreatDoorVA7
import Derived.Test.YtpnlmfilmbodfaaGreatDoorVA8
import Derived.Test.YtpnlmfilmbodfaaGreatDoorVB1
import Derived.Test.YtpnlmfilmbodfaaGreatDoorVCF
import Derived.Test.YtpnlmfilmbodfaaGreatDoorVCG
import Derived.Test.YtpnlmfilmbodfaaGreatDoorVF4
import Derived.Test.YtpnlmfilmbodfaaGreatDoorVF6
import Derived.Test.YtpnlmfilmbodfaaGreatDoorVF7
import Derived.Test.YtpnlmfilmbodfaaGreatDoorVF8
import Derived.Test.YtpnlmfilmbodfaaGreatDoorVG0
import Derived.Test.YtpnlmfilmbodfaaGreatDoorVGB
import Derived.Test.YtpnlmfilmbodfaaGreatDoorVGG
import Derived.Test.YtpnlmfilmbodfaaGreatDoorVGH
import Derived.Test.YtpnlmfilmbodfaaGreatDoorVH0
import Derived.Test.YtpnlmfilmbodfaaGreatDoorVH1
import Derived.Test.YtpnlmfilmbodfaaGreatDoorVHA
import Derived.Test.YtpnlmfilmbodfaaGreatDoorVHF
import Derived.Test.YtpnlmfilmbodfaaGreatDoorVJ1
import Derived.Test.YtpnlmfilmbodfaaGreatDoorVL0
import Derived.Test.YtpnlmfilmbodfaaGreatDoorVL2
import Derived.Test.YtpnlmfilmbodfaaGreatDoorVL3
import Derived.Test.YtpnlmfilmbodfaaGreatDoorVL5
import Derived.Test.YtpnlmfilmbodfaaGreatDoorVL7
import Derived.Test.YtpnlmfilmbodfaaGreatDoorVLI
import Derived.Test.YtpnlmfilmbodfaaGreatDoorVLR
import Derived.Test.YtpnlmfilmbodfaaGreatDoorVM1
import Derived.Test.YtpnlmfilmbodfaaGreatDoorVM2
import Derived.Test.YtpnlmfilmbodfaaGreatDoorVP1
import Derived.Test.YtpnlmfilmbodfaaGreatDoorVQA
import Derived.Test.YtpnlmfilmbodfaaGreatDoorVQB
import Derived.Test.YtpnlmfilmbodfaaGreatDoorVQD
import Derived.Test.YtpnlmfilmbodfaaGreatDoorVQH
import Derived.Test.YtpnlmfilmbodfaaGreatDoorVQK
import Derived.Test.YtpnlmfilmbodfaaGreatDoorVRKs
import Derived.Test.YtpnlmfilmbodfaaGreatDoorVS3
import Derived.Test.YtpnlmfilmbodfaaGreatDoorVS7
import Derived.Test.YtpnlmfilmbodfaaGreatDoorVShelf
import Derived.Test.YtpnlmfilmbodfaaGreatDoorVT7
import Derived.Test.YtpnlmfilmbodfaaGreatDoorVUS
import Derived.Test.YtpnlmfilmbodfaaGreatDoorVV1
import Derived.Test.YtpnlmfilmbodfaaGreatDoorVXA
import Derived.Test.YtpnlmfilmbodfaaGreatDoorVXE
import Derived.Test.YtpnlmfilmbodfaaGreatDoorVXI
import Derived.Test.YtpnlmfilmbodfaaGreatDoorVXK
import Derived.Test.YtpnlmfilmbodfaaGreatDoorProg
import Derived.Test.YtpnlmfilmbodfaaGreatDoorWLE
import Derived.Test.YtpnlmfilmbodfaaGreatDoorWJ0
import Derived.Deep.RegionHeld3
import Derived.StillTactics
import Derived.Laws.Rows
import Derived.Lib.MinMax
import Derived.Deep.Cut
import Derived.Deep.CutRange
import Derived.Deep.DeepCutAuto
import Derived.Laws.BitsAllLaws
import Derived.Lib.SliceRun
import Derived.ProofKit
import Derived.OpenShut
import Derived.Carry
import Derived.Deep.Slices
import Derived.Deep.Fields
import Derived.Deep.DeepHandedRow
import Derived.Lib.SmallJoins
import Derived.RangeFuncNested
import Derived.RangeFuncBound
import Derived.RangeFuncCalls
import Derived.RangeFuncLeaves
import Derived.Shelf.Abstract
import Derived.Shelf.RegionOpen
import Derived.OwnWalkIn
import Derived.TacticsInMore
import Derived.LoopNIn
import Derived.LoopIn
import Derived.Outline
import Derived.BigGuardIn
import Derived.WalkMore
import Derived.WalkKit
import Derived.LoopTactic
import Derived.WalkLawsBesides
import Derived.WalkSpells
import Derived.Lib.Hide
import Derived.Laws.RangeAny
import Derived.Lib.OthersKept
import Derived.Lib.Strings
import Derived.Deep.QuietTactic
import Derived.BigQuiet
import Derived.ScopeJumps
import Derived.Deep.RegionLaw
import Derived.BigRegion
import Derived.WideMake
import Derived.Shelf.Strings.Builder1
import Derived.Shelf.Strings.Builder2
import Derived.Shelf.Strings.OnBuilder
import Derived.Shelf.Small.Bits
import Derived.Shelf.Strings.BuilderF
import Derived.Shelf.Strings.BuilderK
import Derived.Shelf.Strings.BuilderRune
import Derived.Shelf.Utf8.AppendRune
import Derived.Shelf.Utf8.AppendRunePlain
import Derived.Shelf.Strings.Builder2Cap
import Derived.Shelf.Strconv.Itoa0
import Derived.Shelf.Strings.Search1
import Derived.Shelf.Strings.Search2
import Derived.Shelf.Strings.Search3
import Derived.Shelf.Strings.Cut
import Derived.Shelf.LaysM
import Derived.Shelf.Strings.Shaped
import Derived.Shelf.Unicode.DecodeSlow
import Derived.Shelf.Unicode.DecodeAny
import Derived.Shelf.Strings.BuilderCap
import Derived.Ground.SlgmProg
import Derived.Shelf.SortM.Plain
import Derived.Shelf.SortM.SortNone
import Derived.Shelf.SlIterI.Nil
import Derived.Ground.GgzProg
import Derived.Maps.OwnOps
import Derived.Maps.OwnSet
import Derived.Maps.RangeWalk
import Derived.Maps.Ext
import Derived.Laws.BytesArg
import Derived.Lib.ConvBytes
import Derived.Lib.BitFns
import Derived.Lib.ItoaNum
import Derived.LaidEql
import Derived.Stop.Asserts
import Derived.RowKitTokens
namespace Go.Proofs.YtpnlmfilmbodfaaGreatDoor
open Go Go.RowKit Go.Shelf
def skTo (x : Sk) (t : Nat) : Sk := skOf x.kind.toNat (wkTo (x.level.toNat, bdOf x) t).1 (wkTo (x.level.toNat, bdOf x) t).2
theorem skTo_sk {k L : Nat} {B : Bd} (h : B.Ok k L) (t : Nat) : skTo (skOf k L B) t = skOf k (wkTo (L, B) t).1 (wkTo (L, B) t).2 := by
  unfold skTo
  rw [bdOf_sk h, (skOf_kind k L B).1, (skOf_kind k L B).2, Int.toNat_natCast, Int.toNat_natCast]
def botSer (x : Ser) : Ser := ⟨x.l, skTo x.sk (bottomB x.sk.kind).toNat, x.seen⟩
theorem botN_pos {k L : Nat} {B : Bd} (h : B.Ok k L) : (bottomB (skOf k L B).kind).toNat = botN k := by
  rw [(skOf_kind k L B).1, (bot_eq h).1, Int.toNat_natCast]
theorem wk_bins {t : Nat} : ∀ (n : Nat) (s : Nat × Bd), (∀ f l, s.2 = .bkt f l → l.length ≤ 300) → ∀ f l, (wkDown n s).2 = .bkt f l → l.length ≤ 300
  | 0, _, h => h
  | n + 1, s, h => wk_bins (t := t) n (wkLow s) (bd_low_bins h)
theorem Ser.good.bot {x : Ser} (h : x.good) : (botSer x).good := by
  obtain ⟨k, L, B, e, hB⟩ := h.sk
  unfold botSer
  rw [e, botN_pos hB, skTo_sk hB]
  exact h.with (wkTo_ok (botN k) (Nat.le_refl _) _ (L, B) rfl hB).1 (wk_bins (t := 0) _ _ (good_bins h.fine e))
theorem botSer_low {x : Ser} (h : x.good) (hm : mayLow x = true) : botSer (lowSer x) = botSer x := by
  obtain ⟨k, L, B, e, hB⟩ := h.sk
  have hx : x = ⟨x.l, skOf k L B, x.seen⟩ := by rw [← e]
  have hlt : L < botN k := by rw [hx, mayLow_sk hB] at hm; simpa using hm
  have hlow := bd_low_ok hB hlt
  unfold botSer lowSer
  dsimp only
  rw [e, skLow_sk hB, botN_pos hB, botN_pos hlow, skTo_sk hB, skTo_sk hlow]
  have h1 : wkTo (L, B) (botN k) = wkTo (L + 1, B.low) (botN k) := wkTo_low hlt
  rw [h1]
theorem botSer_self {x : Ser} (h : x.good) (hm : mayLow x = false) : botSer x = x := by
  obtain ⟨k, L, B, e, hB⟩ := h.sk
  have hx : x = ⟨x.l, skOf k L B, x.seen⟩ := by rw [← e]
  have hlt : ¬ L < botN k := by rw [hx, mayLow_sk hB] at hm; simpa using hm
  unfold botSer
  rw [e, botN_pos hB, skTo_sk hB, wkTo_self (s := (L, B)) (by show botN k ≤ L; omega)]
  exact hx.symm
def leastL (l : List Ser) : Int := costL (l.map botSer)
theorem least_low {l : List Ser} (hl : QT l) {v : Nat} {x : Ser} (hx : l[v]? = some x) (hm : mayLow x = true) : leastL (lowAt l v) = leastL l := by
  unfold leastL
  congr 1
  rw [lowAt_eq hx, List.map_set, botSer_low (hl.good x (List.mem_of_getElem? hx)) hm]
  apply List.ext_getElem?
  intro j
  rw [List.getElem?_set]
  by_cases hij : v = j
  · subst hij
    rw [if_pos rfl, if_pos (by rw [List.length_map]; exact (List.getElem?_eq_some_iff.1 hx).1), List.getElem?_map, hx]
    rfl
  · rw [if_neg hij]
theorem least_self {l : List Ser} (hl : QT l) (hv : victim l = none) : leastL l = costL l := by
  unfold leastL
  congr 1
  conv => rhs; rw [← List.map_id l]
  exact List.map_congr_left fun x hx => botSer_self (hl.good x hx) ((victim_none hv).2 x hx)
theorem fit_least (b : Int) : ∀ l, QT l → fit b l = none → b < leastL l := by
  refine fit_ind b (fun l r => r = none → b < leastL l) (fun l hl h e => by cases e) (fun l hl h hv _ => by rw [least_self hl hv]; exact h) (fun l v x hl h hv hx hm ih e => ?_)
  rw [← least_low hl hx hm]
  exact ih (by simpa using e)
end Go.Proofs.YtpnlmfilmbodfaaGreatDoor
