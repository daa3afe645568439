/- aviarylaw12.Few. -/
import Derived.Test.YthnfhklfmaeccaaGreatDoorT0
namespace Go.Proofs.YthnfhklfmaeccaaGreatDoor
open Go Go.RowKit Go.Shelf

attribute [-go_sem] Builtin.append_
theorem grow_off {k : Nat} {va : Option Addr} {vc n : Nat} {W : World} {m : List (Ser × SerP)} (h : GrowS n (fun _ => True) W (.slice va k vc) m) {p : SerP} {c : SerP} (hl : ∀ z, p.la = some z → W.heap.size ≤ z.block) (hc : c.Off (· < n)) (e : p.ss = c.ss.cut) : p.Off (fun b => True ∧ some b ≠ Value.ownBlock (.slice va k vc)) := by
  have hown := h.own.lt
  refine ⟨fun z h1 _ => ⟨trivial, fun h3 => ?_⟩, fun z h1 h2 => ⟨trivial, fun h3 => ?_⟩, fun z h1 h2 => ⟨trivial, fun h3 => ?_⟩, fun z h1 h2 => ⟨trivial, fun h3 => ?_⟩⟩
  · have := hl z h1; have := hown _ h3.symm; omega
  · rw [e] at h1 h2; have := hc.e z h1 h2; have := hown _ h3.symm; omega
  · rw [e] at h1 h2; have := hc.c z h1 h2; have := hown _ h3.symm; omega
  · rw [e] at h1 h2; have := hc.g z h1 h2; have := hown _ h3.symm; omega
/-- The label lists lie from a block on, the other lists where the argument's lie, or from that block on. -/
def LabsFrom (n : Nat) (l m : List (Ser × SerP)) : Prop := (∀ e ∈ m, ∀ z, e.2.la = some z → n ≤ z.block) ∧ ∀ q : Nat → Prop, (∀ e ∈ l, e.2.Off q) → ∀ e ∈ m, e.2.Off (fun b => q b ∨ n ≤ b)
def few12 (l : List Ser) : List Ser := (l.take 22).map Ser.cut
set_option maxRecDepth 100000 in
set_option maxHeartbeats 2000000 in
theorem few12_any (l : List (Ser × SerP)) (a : Option Addr) (len cap : Nat) (w : World) (hT : Tab w.heap.size w a len cap l) :
    Calls Tryz.prog 5 #[.slice a len cap] w fun e w' => ∃ a' cap' m, e = .returned (.slice a' m.length cap') ∧ Tab w'.heap.size w' a' m.length cap' m ∧ m.map (·.1) = few12 (l.map (·.1)) ∧ (∀ x, a' = some x → w.heap.size ≤ x.block) ∧ LabsFrom w.heap.size l m ∧ Below w.heap.size w w' := by
  have hlen := hT.row.1.1
  subst hlen
  have HT := Lib.hid hT
  clear hT
  go_enter Tryz.func5, Tryz.ntmps5
  go_wp2_with fail
  go_loopw [3, 4] (fun v i wr => ∃ (k : Nat) (m : List (Ser × SerP)), i = .int .i64 k ∧ k ≤ l.length ∧ k ≤ 22 ∧ m.length = k ∧ m.map (·.1) = ((l.map (·.1)).take k).map Ser.cut ∧ LabsFrom w.heap.size l m ∧ Below w.heap.size w wr ∧ GrowS w.heap.size (fun _ => True) wr v m) (fun _ i _ => l.length - (intOf i).toNat)
  case atStart => exact ⟨0, [], rfl, Nat.zero_le _, by omega, rfl, rfl, ⟨(fun e h => by cases h), fun q _ e h => by cases h⟩, Below.refl _ _, GrowS.nil _ _ _⟩
  case round =>
    obtain ⟨k, m, rfl, hk, hk22, hmk, hmm, hml, hB, hG⟩ := hrel
    have hsz := hB.size
    by_cases hlt : k < l.length ∧ k < 22
    · obtain ⟨hlt, hlt22⟩ := hlt
      obtain ⟨⟨x, p⟩, hx⟩ : ∃ x, l[k]? = some x := ⟨_, List.getElem?_eq_getElem hlt⟩
      obtain ⟨b, off, rfl, hbb, hc⟩ := (HT.out.below hB).row.1.2 k (x, p) hx
      have c0 : wr.cell? ⟨b, off + k * 12, none⟩ = some (.slice p.la p.ll p.lc) := hc 0 (by omega)
      have c1 : wr.cell? ⟨b, off + k * 12 + 1, none⟩ = some (.int .i64 x.sk.kind) := hc 1 (by omega)
      have c2 : wr.cell? ⟨b, off + k * 12 + 2, none⟩ = some (.int .i64 x.sk.level) := hc 2 (by omega)
      have c3 : wr.cell? ⟨b, off + k * 12 + 3, none⟩ = some (.slice p.ss.ea p.ss.el p.ss.ec) := hc 3 (by omega)
      have c4 : wr.cell? ⟨b, off + k * 12 + 4, none⟩ = some (.int .i64 x.sk.hb) := hc 4 (by omega)
      have c5 : wr.cell? ⟨b, off + k * 12 + 5, none⟩ = some (.string x.sk.hr) := hc 5 (by omega)
      have c6 : wr.cell? ⟨b, off + k * 12 + 6, none⟩ = some (.int .i64 x.sk.cr) := hc 6 (by omega)
      have c7 : wr.cell? ⟨b, off + k * 12 + 7, none⟩ = some (.int .i64 x.sk.cc) := hc 7 (by omega)
      have c8 : wr.cell? ⟨b, off + k * 12 + 8, none⟩ = some (.slice p.ss.ca p.ss.cl p.ss.cc) := hc 8 (by omega)
      have c9 : wr.cell? ⟨b, off + k * 12 + 9, none⟩ = some (.int .i64 x.sk.gf) := hc 9 (by omega)
      have c10 : wr.cell? ⟨b, off + k * 12 + 10, none⟩ = some (.slice p.ss.ga p.ss.gl p.ss.gc) := hc 10 (by omega)
      have c11 : wr.cell? ⟨b, off + k * 12 + 11, none⟩ = some (.int .u64 x.seen) := hc 11 (by omega)
      have hX := Lib.hid hx
      have HG := Lib.hid hG
      have HM := Lib.hid hmm
      have HL := Lib.hid hmk
      have HP : Hid (p.At wr.heap.size wr x) := ((HT.out.at_ _ (List.mem_of_getElem? hx)).below hB).mono hsz
      have HO : Hid (p.Off (· < w.heap.size)) := (HT.out.at_ _ (List.mem_of_getElem? hx)).off
      obtain ⟨va, vc, rfl⟩ := hG.form
      have HO2 := Lib.hid (fun p' hl e => grow_off (p := p') HG.out hl HO.out e)
      clear hc hx hG hmm hmk
      have e4 : (k : Int) < 22 := by omega
      go_wp2_with (go_at_call 12; refine (one12_any x p _ HP.out).mono ?_; rintro e w2 ⟨⟨la', ll', lc', s'⟩, rfl, hss, hat, hfr, hb2⟩; have HSS := Lib.hid hss; obtain ⟨g5, cap5, w5, hap5, hG5, hB5, hz5, -⟩ := (HG.out.go hb2).push (hB.trans (hb2.mono hsz)) (Nat.le_refl _) (Nat.le_trans hsz hb2.size) (by rw [HL.out]; omega) hat (HO2.out _ hfr hss); have HG5 := Lib.hid hG5; have HA := Lib.hid hat; have hZ := hb2.size; clear hG5 hat hss; unfold serVals at hap5 ⊢; dsimp only at hap5 ⊢)
      refine ⟨⟨k + 1, m ++ [(x.cut, ⟨la', ll', lc', s'⟩)], by go_num, by omega, by omega, by rw [List.length_append, HL.out]; rfl, ?_, ?_, hB5, HG5.out⟩, by simp [intOf]; omega⟩
      · rw [List.map_append, HM.out, take_snoc' (x := x) (by rw [List.getElem?_map, hX.out]; rfl), List.map_append]; rfl
      · refine ⟨fun e he z hz => ?_, fun q hq e he => ?_⟩
        · rcases List.mem_append.1 he with h | h
          · exact hml.1 e h z hz
          · rw [List.mem_singleton] at h
            subst h
            exact Nat.le_trans hsz (hfr z hz)
        · rcases List.mem_append.1 he with h | h
          · exact hml.2 q hq e h
          · rw [List.mem_singleton] at h
            subst h
            have h4 := hq (x, p) (List.mem_of_getElem? hX.out)
            have hs4 : s' = p.ss.cut := HSS.out
            subst hs4
            exact ⟨fun z hz _ => .inr (Nat.le_trans hsz (hfr z hz)), fun z h1 h2 => .inl (h4.e z h1 h2), fun z h1 h2 => .inl (h4.c z h1 h2), fun z h1 h2 => .inl (h4.g z h1 h2)⟩
    · have HK : Hid (k = min l.length 22) := by rw [Hid]; omega
      obtain ⟨va, vc, rfl, hTb, hlo, hoff⟩ := hG.tab
      have FI : Hid (∃ a' cap' m', Ending.returned (.slice va m.length vc) = .returned (.slice a' m'.length cap') ∧ Tab wr.heap.size wr a' m'.length cap' m' ∧ m'.map (·.1) = few12 (l.map (·.1)) ∧ (∀ x, a' = some x → w.heap.size ≤ x.block) ∧ LabsFrom w.heap.size l m' ∧ Below w.heap.size w wr) := by
        refine ⟨va, vc, m, rfl, hTb, ?_, hlo, hml, hB⟩
        rw [hmm, few12, HK.out]
        congr 1
        have hl2 : (l.map (·.1)).length = l.length := List.length_map ..
        rw [Nat.min_comm, ← hl2]
        exact List.take_eq_take_min.symm
      clear hmm hmk HK hG hTb hoff
      go_wp2_with fail
      all_goals go_ret
      all_goals exact FI.out
end Go.Proofs.YthnfhklfmaeccaaGreatDoor
