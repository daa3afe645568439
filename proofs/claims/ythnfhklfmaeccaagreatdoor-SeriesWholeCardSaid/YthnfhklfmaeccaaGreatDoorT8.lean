/- Series of Go's sizes; aviarylaw12.shown. -/
import Derived.Test.YthnfhklfmaeccaaGreatDoorT6
import Derived.Test.YthnfhklfmaeccaaGreatDoorT7
namespace Go.Proofs.YthnfhklfmaeccaaGreatDoor
open Go Go.RowKit Go.Shelf

/-- A series as an argument has it, and one whose parts are cut. -/
def Ser.wf (x : Ser) : Prop := x.sk.fit ∧ U64 x.seen
structure Ser.fine (x : Ser) : Prop where
  lab : LabsOk x.l
  ll : x.l.length ≤ 10
  e : x.sk.e.length ≤ 70
  c : x.sk.cl.length ≤ 200
  g : x.sk.gl.length ≤ 300
  fit : x.sk.fit
  hr : x.sk.hr.size ≤ 260
  seen : U64 x.seen
theorem Ser.fine.serFit {x : Ser} {p : SerP} {n : Nat} {w : World} (h : x.fine) (hp : p.At n w x) : SerFit x p := by
  have h1 := hp.l.1.1
  have h2 := hp.s.e.1.1
  have h3 := hp.s.c.1.1
  have h4 := hp.s.g.1.1
  have h5 := h.ll
  have h6 := h.e
  have h7 := h.c
  have h8 := h.g
  have h9 := h.hr
  exact ⟨h.lab, by omega, ⟨by omega, by omega, by omega⟩, h.fit, by omega, h.seen⟩
theorem Ser.wf.cut {x : Ser} (h : x.wf) : x.cut.fine := by
  refine ⟨fun y hy => ?_, ?_, ?_, ?_, ?_, fun b hb => h.1 b (List.mem_of_mem_take hb), ?_, h.2⟩
  · simp only [Ser.cut, List.mem_map] at hy
    obtain ⟨u, _, rfl⟩ := hy
    exact u.2
  · simp only [Ser.cut, few04, List.length_map, List.length_take]; omega
  · simp only [Ser.cut, Sk.cut, List.length_take]; omega
  · simp only [Ser.cut, Sk.cut, List.length_take]; omega
  · simp only [Ser.cut, Sk.cut, List.length_take]; omega
  · simp only [Ser.cut, Sk.cut]
    show (cutN ((260 : Nat) : Int) x.sk.hr).size ≤ 260
    rw [cutN_size]; omega
theorem tabFit_of {l : List (Ser × SerP)} {n : Nat} {w : World} {a : Option Addr} {len cap : Nat} (hT : Tab n w a len cap l) (h : ∀ x ∈ l.map (·.1), Ser.fine x) : TabFit l := fun e he => (h e.1 (List.mem_map_of_mem he)).serFit (hT.at_ e he)
theorem fine_few {l : List Ser} (h : ∀ x ∈ l, x.wf) : ∀ x ∈ few12 l, x.fine := fun x hx => by
  simp only [few12, List.mem_map] at hx
  obtain ⟨y, hy, rfl⟩ := hx
  exact (h y (List.mem_of_mem_take hy)).cut
theorem fine_put {l : List Ser} {x : Ser} (h : ∀ y ∈ l, y.fine) (hx : x.fine) : ∀ y ∈ putL l x, y.fine := fun y hy => by
  simp only [putL, List.mem_append, List.mem_cons] at hy
  rcases hy with hy | rfl | hy
  · exact h y (List.mem_of_mem_take hy)
  · exact hx
  · exact h y (List.mem_of_mem_drop hy)

set_option maxRecDepth 100000 in
set_option maxHeartbeats 4000000 in
theorem Drop_nil (q : List Lab) (qa : Option Addr) (qn qc : Nat) (w : World) (hG : GW w) (hQ : SlE Lab.enc 2 w.heap.size w qa qn q) (hqm : qn ≤ maxLen) :
    Calls Tryz.prog 9 #[.slice none 0 0, .slice qa qn qc] w fun e w' => e = .returned (.tuple #[.slice none 0 0, .int .i64 121]) ∧ Below w.heap.size w w' := by
  have hR := series_Right_any [] none 0 0 w Tab.nil (fun e h => by cases h) hG
  have HFd : Hid (∀ w', Below w.heap.size w w' → Calls Tryz.prog 16 #[.slice none 0 0, .slice qa qn qc] w' fun e w'' => e = .returned (.tuple #[.int .i64 0, .bool false]) ∧ Below w'.heap.size w' w'') := fun w' hb =>
    series_Find_any [] none 0 0 q qa qn qc w' Tab.nil (fun e h => by cases h) (hG.below hb) ((hQ.below hb).mono hb.size) hqm
  rw [show tabRight (([] : List (Ser × SerP)).map (·.1)) = true from rfl] at hR
  clear hG hQ hqm
  go_enter Tryz.func9, Tryz.ntmps9
  go_wp2_with (first
    | (go_at_call 11; refine hR.mono ?_; rintro e w1 ⟨rfl, hb1⟩)
    | (go_at_call 16; refine (HFd.out _ hb1).mono ?_; rintro e w2 ⟨rfl, hb2⟩))
  go_ret2
  exact ⟨rfl, hb1.trans (hb2.mono hb1.size)⟩

def shSer : Ser := ⟨[⟨⟨#[97]⟩, ⟨#[120]⟩⟩], ⟨1, 0, [7], 0, ⟨#[]⟩, 0, 0, [], 0, []⟩, 0⟩
theorem sh_ok : putOk [] shSer = true := by kernel_rfl
theorem sh_put : putL [] shSer = [shSer] := by kernel_rfl
theorem sh_cost : tabCost [shSer] = 27 := by kernel_rfl
theorem sh_right : tabRight [shSer] = true := by kernel_rfl
theorem sh_fine : shSer.fine := by
  refine ⟨fun y hy => ?_, by decide, by decide, by decide, by decide, (fun b hb => by cases hb), by decide, by unfold U64; decide⟩
  simp only [shSer, List.mem_singleton] at hy
  subst hy
  exact ⟨by decide, by decide⟩
theorem slC_one {α : Type} {enc : α → List Value} {k b : Nat} {W : World} {x : α} {t : TypeId} (h : W.heap[b]? = some (.cells (enc x).toArray t (0, 0))) : SlC enc k W.heap.size W (some ⟨b, 0, none⟩) 1 1 [x] := by
  have hb := (Array.getElem?_eq_some_iff.1 h).1
  refine ⟨⟨rfl, fun j y hy => ?_⟩, Nat.le_refl _, by unfold maxLen; omega, (fun h => by cases h), fun z hz _ => ?_⟩
  · have hj : j = 0 := by have := (List.getElem?_eq_some_iff.1 hy).1; simp at this; exact this
    subst hj
    obtain rfl : x = y := by simpa using hy
    refine ⟨b, 0, rfl, hb, fun i hi => ?_⟩
    have := cell_of_cells h i
    simpa using this
  · injection hz with hz
    subst hz
    exact ⟨rfl, hb⟩
set_option maxRecDepth 100000 in
set_option maxHeartbeats 4000000 in
theorem shown12_any (w : World) (hG : GW w) : Calls Tryz.prog 4 #[] w fun e w' => e = .returned (.bool true) ∧ Below w.heap.size w w' := by
  go_enter Tryz.func4, Tryz.ntmps4
  go_wp2_with fail
  obtain ⟨A, hA, hXa, hXb, hBa, hsa⟩ := boxes2 w #[.string ⟨#[97]⟩, .string ⟨#[120]⟩] 32 #[.int .u64 7] 34
  obtain ⟨W0, hW0, hX2, hBb, hsb⟩ := boxes1 A #[.slice (some ⟨w.heap.size, 0, none⟩) 1 1, .int .i64 1, .int .i64 0, .slice (some ⟨w.heap.size + 1, 0, none⟩) 1 1, .int .i64 0, .string ⟨#[]⟩, .int .i64 0, .int .i64 0, .slice none 0 0, .int .i64 0, .slice none 0 0, .int .u64 0] 48
  rw [hA, hW0]
  have hX0 := known hBb (Nat.le_refl _) hXa
  have hX1 := known hBb (Nat.le_refl _) hXb
  rw [hsa] at hX2
  have hB0 : Below w.heap.size w W0 := hBa.trans (hBb.mono (by omega))
  have hz0 : W0.heap.size = w.heap.size + 3 := by omega
  clear hW0 hA hXa hXb hBa hBb hsa hsb
  have HP : Hid (SerP.At ⟨some ⟨w.heap.size, 0, none⟩, 1, 1, ⟨some ⟨w.heap.size + 1, 0, none⟩, 1, 1, none, 0, 0, none, 0, 0⟩⟩ W0.heap.size W0 shSer) := ⟨slC_one (t := 32) hX0, slC_one (t := 34) hX1, SlC.nil, SlC.nil⟩
  have hc0 : W0.cell? ⟨w.heap.size + 2, 0, none⟩ = some (.slice (some ⟨w.heap.size, 0, none⟩) 1 1) := cell_of_cells hX2 0
  refine (series_Put_any [] none 0 0 shSer ⟨some ⟨w.heap.size, 0, none⟩, 1, 1, ⟨some ⟨w.heap.size + 1, 0, none⟩, 1, 1, none, 0, 0, none, 0, 0⟩⟩ W0 Tab.nil (fun e h => by cases h) HP.out (sh_fine.serFit HP.out) (hG.below hB0)).mono ?_
  rintro e w1 ⟨hb1, h⟩
  rcases h with ⟨h, -⟩ | ⟨-, a', cap', m, rfl, hT1, hm, -, -⟩
  · exact absurd (h.symm.trans sh_ok) (by decide)
  have hm' : m.map (·.1) = [shSer] := hm.trans sh_put
  have HM := Lib.hid hm'
  have HT1 := Lib.hid hT1
  have hbw1 : Below w.heap.size w w1 := hB0.trans (hb1.mono (by omega))
  have hz1 := hb1.size
  obtain ⟨hc1, hd1⟩ := bcell hb1
  have HD := Lib.hid (Drop_nil shSer.l (some ⟨w.heap.size, 0, none⟩) 1 1 w1 (hG.below hbw1) (HP.out.go hb1).l.1 (by unfold maxLen; omega))
  have HG := Lib.hid hG
  clear hm hm' hT1 hG hX0 hX1 hX2
  have HF : Hid (TabFit m) := tabFit_of HT1.out (by rw [HM.out]; intro x hx; rw [List.mem_singleton] at hx; subst hx; exact sh_fine)
  generalize m.length = nm at *
  have HCo : Hid (∀ w', Below w1.heap.size w1 w' → Calls Tryz.prog 10 #[.slice a' nm cap'] w' fun e w'' => e = .returned (.int .i64 27) ∧ Below w'.heap.size w' w'') := fun w' hb => by
    have := series_Cost_any m a' nm cap' w' (HT1.out.go hb) HF.out (HG.out.below (hbw1.trans (hb.mono hbw1.size)))
    rw [HM.out, sh_cost] at this
    exact this
  have HRi : Hid (∀ w', Below w1.heap.size w1 w' → Calls Tryz.prog 11 #[.slice a' nm cap'] w' fun e w'' => e = .returned (.bool true) ∧ Below w'.heap.size w' w'') := fun w' hb => by
    have := series_Right_any m a' nm cap' w' (HT1.out.go hb) HF.out (HG.out.below (hbw1.trans (hb.mono hbw1.size)))
    rw [HM.out, sh_right] at this
    exact this
  go_wp2_with (first
    | (go_at_call 9; refine HD.out.mono ?_; rintro e w2 ⟨rfl, hb2⟩)
    | (go_at_call 10; refine (HCo.out _ hb2).mono ?_; rintro e w3 ⟨rfl, hb3⟩; have hb13 := hb2.trans (hb3.mono hb2.size))
    | (go_at_call 11; refine (HRi.out _ hb13).mono ?_; rintro e w4 ⟨rfl, hb4⟩))
  go_ret
  exact ⟨rfl, hbw1.trans ((hb13.trans (hb4.mono hb13.size)).mono hbw1.size)⟩
end Go.Proofs.YthnfhklfmaeccaaGreatDoor
