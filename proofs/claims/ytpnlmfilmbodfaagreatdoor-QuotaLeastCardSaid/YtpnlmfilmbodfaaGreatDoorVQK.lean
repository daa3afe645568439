/- aviarylaw12.Few: the table is the call's own (lines of F9); a sketch stored into a table of the call's own. -/
import Derived.Test.YtpnlmfilmbodfaaGreatDoorVT7
import Derived.Test.YtpnlmfilmbodfaaGreatDoorVQB
import Derived.Test.YtpnlmfilmbodfaaGreatDoorVLR
namespace Go.Proofs.YtpnlmfilmbodfaaGreatDoor
open Go Go.RowKit Go.Shelf
attribute [-go_sem] Builtin.append_
set_option maxRecDepth 100000 in
set_option maxHeartbeats 2000000 in
theorem few12_grow (l : List (Ser × SerP)) (a : Option Addr) (len cap : Nat) (w : World) (hT : Tab w.heap.size w a len cap l) :
    Calls Tryz.prog 41 #[.slice a len cap] w fun e w' => ∃ a' cap' m, e = .returned (.slice a' m.length cap') ∧ GrowS w.heap.size (fun _ => True) w' (.slice a' m.length cap') m ∧ m.map (·.1) = few12 (l.map (·.1)) ∧ Below w.heap.size w w' := by
  have hlen := hT.row.1.1
  subst hlen
  have HT := Lib.hid hT
  clear hT
  go_enter Tryz.func41, Tryz.ntmps41
  go_wp2_with fail
  go_loopw [3, 4] (fun v i wr => ∃ (k : Nat) (m : List (Ser × SerP)), i = .int .i64 k ∧ k ≤ l.length ∧ k ≤ 22 ∧ m.length = k ∧ m.map (·.1) = ((l.map (·.1)).take k).map Ser.cut ∧ LabsFrom w.heap.size l m ∧ Below w.heap.size w wr ∧ GrowS w.heap.size (fun _ => True) wr v m) (fun _ i _ => l.length - (intOf i).toNat)
  case atStart => exact ⟨0, [], rfl, Nat.zero_le _, by omega, rfl, rfl, ⟨(fun e h => by cases h), fun q _ e h => by cases h⟩, Below.refl _ _, GrowS.nil _ _ _⟩
  case round =>
    obtain ⟨k, m, rfl, hk, hk22, hmk, hmm, hml, hB, hG⟩ := hrel
    have hsz := hB.size
    by_cases hlt : k < l.length ∧ k < 22
    · obtain ⟨hlt, hlt22⟩ := hlt
      obtain ⟨⟨x, p⟩, hx⟩ : ∃ x, l[k]? = some x := ⟨_, List.getElem?_eq_getElem hlt⟩
      obtain ⟨b, off, rfl, hbb, hc⟩ := (HT.out.below hB).row.1.2 k (x, p) hx
      have c0 : wr.cell? ⟨b, off + k * 12, none⟩ = some (.slice p.la p.ll p.lc) := hc 0 (by omega)
      have c1 : wr.cell? ⟨b, off + k * 12 + 1, none⟩ = some (.int .i64 x.sk.kind) := hc 1 (by omega)
      have c2 : wr.cell? ⟨b, off + k * 12 + 2, none⟩ = some (.int .i64 x.sk.level) := hc 2 (by omega)
      have c3 : wr.cell? ⟨b, off + k * 12 + 3, none⟩ = some (.slice p.ss.ea p.ss.el p.ss.ec) := hc 3 (by omega)
      have c4 : wr.cell? ⟨b, off + k * 12 + 4, none⟩ = some (.int .i64 x.sk.hb) := hc 4 (by omega)
      have c5 : wr.cell? ⟨b, off + k * 12 + 5, none⟩ = some (.string x.sk.hr) := hc 5 (by omega)
      have c6 : wr.cell? ⟨b, off + k * 12 + 6, none⟩ = some (.int .i64 x.sk.cr) := hc 6 (by omega)
      have c7 : wr.cell? ⟨b, off + k * 12 + 7, none⟩ = some (.int .i64 x.sk.cc) := hc 7 (by omega)
      have c8 : wr.cell? ⟨b, off + k * 12 + 8, none⟩ = some (.slice p.ss.ca p.ss.cl p.ss.cc) := hc 8 (by omega)
      have c9 : wr.cell? ⟨b, off + k * 12 + 9, none⟩ = some (.int .i64 x.sk.gf) := hc 9 (by omega)
      have c10 : wr.cell? ⟨b, off + k * 12 + 10, none⟩ = some (.slice p.ss.ga p.ss.gl p.ss.gc) := hc 10 (by omega)
      have c11 : wr.cell? ⟨b, off + k * 12 + 11, none⟩ = some (.int .u64 x.seen) := hc 11 (by omega)
      have hX := Lib.hid hx
      have HG := Lib.hid hG
      have HM := Lib.hid hmm
      have HL := Lib.hid hmk
      have HP : Hid (p.At wr.heap.size wr x) := ((HT.out.at_ _ (List.mem_of_getElem? hx)).below hB).mono hsz
      have HO : Hid (p.Off (· < w.heap.size)) := (HT.out.at_ _ (List.mem_of_getElem? hx)).off
      obtain ⟨va, vc, rfl⟩ := hG.form
      have HO2 := Lib.hid (fun p' hl e => grow_off (p := p') HG.out hl HO.out e)
      clear hc hx hG hmm hmk
      have e4 : (k : Int) < 22 := by omega
      go_wp2_with (go_at_call 107; refine (one12_any x p _ HP.out).mono ?_; rintro e w2 ⟨⟨la', ll', lc', s'⟩, rfl, hss, hat, hfr, hb2⟩; have HSS := Lib.hid hss; obtain ⟨g5, cap5, w5, hap5, hG5, hB5, hz5, -⟩ := (HG.out.go hb2).push (hB.trans (hb2.mono hsz)) (Nat.le_refl _) (Nat.le_trans hsz hb2.size) (by rw [HL.out]; omega) hat (HO2.out _ hfr hss); have HG5 := Lib.hid hG5; have HA := Lib.hid hat; have hZ := hb2.size; clear hG5 hat hss; unfold serVals at hap5 ⊢; dsimp only at hap5 ⊢)
      refine ⟨⟨k + 1, m ++ [(x.cut, ⟨la', ll', lc', s'⟩)], by go_num, by omega, by omega, by rw [List.length_append, HL.out]; rfl, ?_, ?_, hB5, HG5.out⟩, by simp [intOf]; omega⟩
      · rw [List.map_append, HM.out, take_snoc' (x := x) (by rw [List.getElem?_map, hX.out]; rfl), List.map_append]; rfl
      · refine ⟨fun e he z hz => ?_, fun q hq e he => ?_⟩
        · rcases List.mem_append.1 he with h | h
          · exact hml.1 e h z hz
          · rw [List.mem_singleton] at h
            subst h
            exact Nat.le_trans hsz (hfr z hz)
        · rcases List.mem_append.1 he with h | h
          · exact hml.2 q hq e h
          · rw [List.mem_singleton] at h
            subst h
            have h4 := hq (x, p) (List.mem_of_getElem? hX.out)
            have hs4 : s' = p.ss.cut := HSS.out
            subst hs4
            exact ⟨fun z hz _ => .inr (Nat.le_trans hsz (hfr z hz)), fun z h1 h2 => .inl (h4.e z h1 h2), fun z h1 h2 => .inl (h4.c z h1 h2), fun z h1 h2 => .inl (h4.g z h1 h2)⟩
    · have HK : Hid (k = min l.length 22) := by rw [Hid]; omega
      obtain ⟨va, vc, rfl⟩ := hG.form
      have FI : Hid (∃ a' cap' m', Ending.returned (.slice va m.length vc) = .returned (.slice a' m'.length cap') ∧ GrowS w.heap.size (fun _ => True) wr (.slice a' m'.length cap') m' ∧ m'.map (·.1) = few12 (l.map (·.1)) ∧ Below w.heap.size w wr) := by
        refine ⟨va, vc, m, rfl, hG, ?_, hB⟩
        rw [hmm, few12, HK.out]
        congr 1
        have hl2 : (l.map (·.1)).length = l.length := List.length_map ..
        rw [Nat.min_comm, ← hl2]
        exact List.take_eq_take_min.symm
      clear hmm hmk HK hG
      go_wp2_with fail
      all_goals go_ret
      all_goals exact FI.out
theorem GrowS.setS {base g c k n : Nat} {q : Nat → Prop} {W W' : World} {m : List (Ser × SerP)} {x : Ser} {p : SerP} {y : Sk} {s : SS} (h : GrowS base q W (.slice (some ⟨g, 0, none⟩) m.length c) m) (hx : m[k]? = some (x, p)) (hA : Apart g W W')
    (hO : W'.ownsRow base 64 12 (.slice (some ⟨g, 0, none⟩) m.length c) m.length ((m.set k (⟨x.l, y, x.seen⟩, ⟨p.la, p.ll, p.lc, s⟩)).flatMap serEnc)) (hs : s.At W.heap.size W y) (hf : s.From n) (hg : g < n) (hq : ∀ b, n ≤ b → q b) :
    GrowS base q W' (.slice (some ⟨g, 0, none⟩) (m.set k (⟨x.l, y, x.seen⟩, (⟨p.la, p.ll, p.lc, s⟩ : SerP))).length c) (m.set k (⟨x.l, y, x.seen⟩, ⟨p.la, p.ll, p.lc, s⟩)) := by
  have hlen : (m.set k (⟨x.l, y, x.seen⟩, (⟨p.la, p.ll, p.lc, s⟩ : SerP))).length = m.length := List.length_set ..
  have hxm := List.mem_of_getElem? hx
  have key : ∀ e ∈ m.set k (⟨x.l, y, x.seen⟩, (⟨p.la, p.ll, p.lc, s⟩ : SerP)), e.2.At W.heap.size W e.1 ∧ e.2.Off (fun b => q b ∧ some b ≠ Value.ownBlock (.slice (some ⟨g, 0, none⟩) m.length c)) := fun e he => by
    rcases List.mem_or_eq_of_mem_set he with he | rfl
    · exact ⟨h.at_ e he, h.off e he⟩
    · have h1 := h.at_ _ hxm
      have h2 := h.off _ hxm
      have hk : ∀ b, n ≤ b → q b ∧ some b ≠ Value.ownBlock (.slice (some ⟨g, 0, none⟩) m.length c) := fun b hb => by
        refine ⟨hq b hb, fun e => ?_⟩
        injection e with e; simp at e; omega
      exact ⟨⟨h1.l, hs⟩, ⟨h2.l, fun z hz _ => hk _ (hf.1 z hz), fun z hz _ => hk _ (hf.2.1 z hz), fun z hz _ => hk _ (hf.2.2 z hz)⟩⟩
  rw [hlen]
  refine ⟨by rw [hlen]; exact hO, fun e he => ?_, fun e he => (key e he).2⟩
  obtain ⟨h1, h2⟩ := key e he
  exact (h1.frame (h2.imp (r := (· ≠ g)) fun b hb e => hb.2 (by rw [e]; rfl)) hA.2).mono hA.1
end Go.Proofs.YtpnlmfilmbodfaaGreatDoor
