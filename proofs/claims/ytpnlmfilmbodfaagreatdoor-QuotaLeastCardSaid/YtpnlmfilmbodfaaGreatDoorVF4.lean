/- aviarylaw04.Few over slices by their elements. -/
import Derived.Test.YtpnlmfilmbodfaaGreatDoorVL7
import Derived.Deep.RegionHeld3
import Derived.StillTactics
namespace Go.Proofs.YtpnlmfilmbodfaaGreatDoor
open Go Go.RowKit Go.Shelf
theorem und_labels : Tryz.prog.underlying 62 = some (.slice 148) := by kernel_rfl
theorem info_label : (Tryz.prog.info? 148).map (fun i => (i.zero, i.size, i.bytes)) = some (some (.agg #[.string ⟨#[]⟩, .string ⟨#[]⟩]), 2, 32) := by kernel_rfl
def labCut (x : Lab) : LabK := ⟨⟨cutN 20 x.name, cutN 120 x.value⟩, cutN_lt 20 (by decide) _, cutN_lt 120 (by decide) _⟩
def few04 (l : List Lab) : List LabK := (l.take 10).map labCut
theorem few04_step {l : List Lab} {k : Nat} {x : Lab} (hx : l[k]? = some x) : ((l.take (k + 1)).map labCut).flatMap (fun y => y.1.enc) = ((l.take k).map labCut).flatMap (fun y => y.1.enc) ++ [.string (cutN 20 x.name), .string (cutN 120 x.value)] := by
  rw [take_snoc' hx]
  simp [labCut, Lab.enc]
set_option maxRecDepth 100000 in
set_option maxHeartbeats 2000000 in
theorem few04_any (l : List Lab) (a : Option Addr) (len cap : Nat) (w : World) (hL : SlE Lab.enc 2 w.heap.size w a len l) :
    Calls Tryz.prog 159 #[.slice a len cap] w fun e w' => ∃ a' cap', e = .returned (.slice a' (few04 l).length cap') ∧ SlC Lab.enc 2 w'.heap.size w' a' (few04 l).length cap' ((few04 l).map (·.1)) ∧ (∀ x, a' = some x → w.heap.size ≤ x.block) ∧ Below w.heap.size w w' := by
  have hlen := hL.1
  subst hlen
  have hown0 : w.ownsRow w.heap.size 148 2 (.slice none 0 0) 0 [] := World.ownsRow_nil _ _ _ _
  go_enter Tryz.func159, Tryz.ntmps159
  go_wp2_with fail
  go_loopw [3, 4] (fun v i wr => ∃ (k : Nat), i = .int .i64 k ∧ k ≤ l.length ∧ k ≤ 10 ∧ Below w.heap.size w wr ∧ wr.ownsRow w.heap.size 148 2 v k (((l.take k).map labCut).flatMap (fun y => y.1.enc))) (fun _ i _ => l.length - (intOf i).toNat)
  case atStart => exact ⟨0, rfl, Nat.zero_le _, by omega, Below.refl _ _, hown0⟩
  case round =>
    obtain ⟨k, rfl, hk, hk10, hB, hown⟩ := hrel
    have hsz := hB.size
    by_cases hlt : k < l.length ∧ k < 10
    · obtain ⟨hlt, hlt10⟩ := hlt
      obtain ⟨x, hx⟩ : ∃ x, l[k]? = some x := ⟨_, List.getElem?_eq_getElem hlt⟩
      obtain ⟨b, off, rfl, hbb, hc⟩ := (hL.below hB).2 k x hx
      have c0 : wr.cell? ⟨b, off + k * 2, none⟩ = some (.string x.name) := hc 0 (by omega)
      have c1 : wr.cell? ⟨b, off + k * 2 + 1, none⟩ = some (.string x.value) := hc 1 (by omega)
      have HS := Lib.hid (few04_step hx)
      obtain ⟨g5, cap5, w5, hap5, hown5, hB5, hz5, hbl5, -⟩ := append_one Tryz.prog 62 und_labels info_label rfl (by decide) (W := wr.drew) hown hB.drew (Nat.le_refl _) hsz [.string (x.name.extract 0 (min (x.name.size : Int) 20).toNat), .string (x.value.extract 0 (min (x.value.size : Int) 120).toNat)] rfl (by simp [Value.oneCell']) (by omega) (by decide)
      obtain ⟨va, vc, rfl⟩ := owns_formL hown
      have HO := Lib.hid hown5
      have e4 : (k : Int) < 10 := by omega
      have k0 : w5.cell? ⟨b, off + k * 2, none⟩ = some (.string x.name) := (hB5.cell (p := ⟨b, off + k * 2, none⟩) hbb).trans ((hB.cell (p := ⟨b, off + k * 2, none⟩) hbb).symm.trans c0)
      have k1 : w5.cell? ⟨b, off + k * 2 + 1, none⟩ = some (.string x.value) := (hB5.cell (p := ⟨b, off + k * 2 + 1, none⟩) hbb).trans ((hB.cell (p := ⟨b, off + k * 2 + 1, none⟩) hbb).symm.trans c1)
      have e5 : b < wr.heap.size := by omega
      have m1 : 0 ≤ min (x.name.size : Int) 20 := by omega
      have m2 : min (x.name.size : Int) 20 ≤ x.name.size := by omega
      have m3 : 0 ≤ min (x.value.size : Int) 120 := by omega
      have m4 : min (x.value.size : Int) 120 ≤ x.value.size := by omega
      clear hc hx hL hown hown5 hbl5 hown0
      go_wp2_with fail
      go_region_held3 (fun w' => w'.cell? ⟨b, off + k * 2, none⟩ = some (.string x.name) ∧ w'.cell? ⟨b, off + k * 2 + 1, none⟩ = some (.string x.value))
        (first
          | go_keep
          | exact ⟨k0, k1⟩)
        ((refine step_append_eq (v := .slice va k vc) (xv := .slice (some ⟨wr.heap.size, 0, none⟩) 1 1) (v' := .slice (some ⟨g5, 0, none⟩) (k + 1) cap5) (w' := w5) rfl (.tmp 15) (.tmp 43) 62 rfl rfl rfl hap5 ?_))
      all_goals go_wp2_with fail
      all_goals exact ⟨⟨k + 1, by go_num, by omega, by omega, hB5, by rw [HS.out]; exact HO.out⟩, by simp [intOf]; omega⟩
    · have HK : Hid (k = min l.length 10) := by rw [Hid]; omega
      have hT : Hid (((l.take k).map labCut) = few04 l) := by
        rw [HK.out, few04, Hid]
        rw [Nat.min_comm]
        exact congrArg _ List.take_eq_take_min.symm
      have HL : Hid ((few04 l).length = k) := by rw [Hid, ← hT.out, List.length_map, List.length_take]; omega
      obtain ⟨va, vc, rfl⟩ := owns_formL hown
      have hsl : Hid (SlC Lab.enc 2 wr.heap.size wr va (few04 l).length vc ((few04 l).map (·.1)) ∧ ∀ x, va = some x → w.heap.size ≤ x.block) := by
        have hlm : k = ((few04 l).map (·.1)).length := by rw [List.length_map, HL.out]
        have hown' : wr.ownsRow w.heap.size 148 2 (.slice va k vc) ((few04 l).map (·.1)).length (((few04 l).map (·.1)).flatMap Lab.enc) := by
          rw [← hlm, List.flatMap_map]
          rw [hT.out] at hown
          exact hown
        obtain ⟨a9, c9, e9, h9, g9⟩ := slC_of_owns (enc := Lab.enc) labEnc_len hown'
        injection e9 with e1 e2 e3
        subst e1; subst e3
        rw [Hid, HL.out]
        rw [← hlm] at h9
        exact ⟨h9, g9⟩
      clear hL hown HK
      have FI : Hid (∃ a' cap', Ending.returned (.slice va k vc) = .returned (.slice a' (few04 l).length cap') ∧ SlC Lab.enc 2 wr.heap.size wr a' (few04 l).length cap' ((few04 l).map (·.1)) ∧ (∀ x, a' = some x → w.heap.size ≤ x.block) ∧ Below w.heap.size w wr) := ⟨va, vc, by rw [HL.out], hsl.out.1, hsl.out.2, hB⟩
      go_wp2_with fail
      all_goals go_ret
      all_goals exact FI.out
end Go.Proofs.YtpnlmfilmbodfaaGreatDoor
