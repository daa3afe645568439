/- series.Put: printed by wip/tools/gen_t5.py. -/
import Derived.Test.YthnfhklfmaeccaaGreatDoorT4
namespace Go.Proofs.YthnfhklfmaeccaaGreatDoor
open Go Go.RowKit Go.Shelf

/-- An address moved on, as a slice expression moves it. -/
def dropA (a : Option Addr) (cap m k : Nat) : Option Addr := if cap = m then a else a.map (·.add (m * k))
theorem SlC.drop {α : Type} {enc : α → List Value} {k n₀ : Nat} {w : World} {a : Option Addr} {len cap : Nat} {l : List α} (hs : SlC enc k n₀ w a len cap l) (m : Nat) (hm : m ≤ len) : SlC enc k n₀ w (dropA a cap m k) (len - m) (cap - m) (l.drop m) := by
  have hl := hs.1.1
  have hc := hs.2.1
  have hmx := hs.2.2.1
  refine ⟨⟨by rw [List.length_drop]; omega, fun j x hx => ?_⟩, by omega, by omega, fun h => ?_, fun x hx hpos => ?_⟩
  · rw [List.getElem?_drop] at hx
    obtain ⟨b, off, e, hb, hcell⟩ := hs.1.2 (m + j) x hx
    have hlt := (List.getElem?_eq_some_iff.1 hx).1
    refine ⟨b, off + m * k, ?_, hb, fun i hi => ?_⟩
    · rw [dropA, if_neg (by omega), e, Option.map_some, add_none rfl]
    · rw [← hcell i hi]; congr 2; rw [Nat.add_mul]; omega
  · by_cases h0 : cap = m
    · omega
    · rw [dropA, if_neg h0] at h
      have := hs.2.2.2.1 (by simpa using h)
      omega
  · rw [dropA, if_neg (by omega)] at hx
    cases a with
    | none => cases hx
    | some z =>
      obtain ⟨h1, h2⟩ := hs.2.2.2.2 z rfl (by omega)
      rw [Option.map_some] at hx
      injection hx with hx
      rw [← hx, add_none h1]
      exact ⟨rfl, h2⟩
theorem Tab.drop {n₀ : Nat} {w : World} {a : Option Addr} {len cap : Nat} {l : List (Ser × SerP)} (h : Tab n₀ w a len cap l) (m : Nat) (hm : m ≤ len) : Tab n₀ w (dropA a cap m 12) (len - m) (cap - m) (l.drop m) := ⟨h.row.drop m hm, fun e he => h.at_ e (List.mem_of_mem_drop he)⟩
theorem dropA_zero (a : Option Addr) (cap k : Nat) : dropA a cap 0 k = a := by
  unfold dropA
  split
  · rfl
  · cases a <;> simp [Addr.add]
theorem slice_to (a : Option Addr) (len cap m : Nat) (w : World) (h : m ≤ cap) : (Instr.slice 22 (.slice a len cap) none (some (.int .i64 (m : Int))) none).run Tryz.prog w = .ok (.slice a m cap) w := by
  have hz := dropA_zero a cap 12
  unfold dropA at hz
  have hs : (sizeOf 48).run Tryz.prog w = .ok 12 w := by kernel_rfl
  have he : Tryz.prog.elem 22 = 48 := by kernel_rfl
  rw [run_slice_h (t := 22) (a := a) (len := len) (cap := cap) (w := w) (ht := by rw [he]; exact und_table) (kh := .i64) (h := (m : Int)) (by omega) (by omega), he, hs]
  simp only [Result.andThen, sliced, Int.toNat_natCast, Nat.sub_zero, hz]
theorem slice_from (a : Option Addr) (len cap m : Nat) (w : World) (h : m ≤ len) : (Instr.slice 22 (.slice a len cap) (some (.int .i64 (m : Int))) none none).run Tryz.prog w = .ok (.slice (dropA a cap m 12) (len - m) (cap - m)) w := by
  have hs : (sizeOf 48).run Tryz.prog w = .ok 12 w := by kernel_rfl
  have he : Tryz.prog.elem 22 = 48 := by kernel_rfl
  rw [run_slice_l (t := 22) (a := a) (len := len) (cap := cap) (w := w) (ht := by rw [he]; exact und_table) (kl := .i64) (l := (m : Int)) (by omega) (by omega), he, hs]
  simp only [Result.andThen, sliced, Int.toNat_natCast, dropA]
/-- A slice of one series, just built. -/
theorem tab_one {w : World} {x : Ser} {p : SerP} (h : p.At w.heap.size w x) : Tab (w.alloc (.cells (serVals x p).toArray 48)).heap.size (w.alloc (.cells (serVals x p).toArray 48)) (some ⟨w.heap.size, 0, none⟩) 1 1 [(x, p)] := by
  have hB : Below w.heap.size w (w.alloc (.cells (serVals x p).toArray 48)) := (Below.refl _ w).alloc (Nat.le_refl _) _
  have hz : w.heap.size < (w.alloc (.cells (serVals x p).toArray 48)).heap.size := by simp
  refine ⟨⟨⟨rfl, fun j y hy => ?_⟩, Nat.le_refl _, by unfold maxLen; omega, (fun h => by cases h), fun z hz1 _ => ?_⟩, fun e he => ?_⟩
  · have hj : j = 0 := by have := (List.getElem?_eq_some_iff.1 hy).1; simp at this; exact this
    subst hj
    obtain rfl : (x, p) = y := by simpa using hy
    refine ⟨w.heap.size, 0, rfl, hz, fun i hi => ?_⟩
    have := cell_of_cells (World.alloc_heap_new w (.cells (serVals x p).toArray 48)) i
    simp [serEnc]
  · injection hz1 with hz1
    subst hz1
    exact ⟨rfl, hz⟩
  · rw [List.mem_singleton] at he
    subst he
    exact h.go hB
theorem make_table (w : World) (c : Nat) (hc : c ≤ 1000) : ∃ w', (Instr.makeSlice 22 (.int .i64 0) (.int .i64 (c : Int))).run Tryz.prog w = .ok (.slice (some ⟨w.heap.size, 0, none⟩) 0 c) w' ∧ GrowS w.heap.size (w.heap.size ≤ ·) w' (.slice (some ⟨w.heap.size, 0, none⟩) 0 c) [] ∧ Below w.heap.size w w' := by
  obtain ⟨i, hi, hz, hsize, hby⟩ := info_parts info_series
  obtain ⟨w', h1, h2, h3⟩ := run_makeSlice_owned (P := Tryz.prog) w w.heap.size 22 48 i _ 12 und_table hi hz hsize .i64 .i64 c (by omega) (by rw [hby]; omega) (by unfold maxLen; omega) (Nat.le_refl _)
  exact ⟨w', h1, ⟨h2, (fun e h => by cases h), (fun e h => by cases h)⟩, ⟨h3.os, h3.tape, h3.output, h3.size, fun k hk => h3.block k hk (fun h => by cases h)⟩⟩
/-- What is put in, and whether it may be. -/
def putL (l : List Ser) (x : Ser) : List Ser := l.take (findAt l x.l) ++ x :: l.drop (findAt l x.l + (if thereAt l x.l then 1 else 0))
def putOk (l : List Ser) (x : Ser) : Bool := tabRight l && serRight x && (thereAt l x.l || !(l.length == 20))
def PutPost (l : List Ser) (x : Ser) (w : World) (e : Ending) (w' : World) : Prop :=
  Below w.heap.size w w' ∧ ((putOk l x = false ∧ e = .returned (.tuple #[.slice none 0 0, .int .i64 120])) ∨
    (putOk l x = true ∧ ∃ a' cap' m, e = .returned (.tuple #[.slice a' (List.length m) cap', .int .i64 0]) ∧ Tab w'.heap.size w' a' m.length cap' m ∧ m.map (·.1) = putL l x ∧ (∀ z, a' = some z → w.heap.size ≤ z.block) ∧ (∀ e ∈ m, e.2.Off (fun b => w.heap.size ≤ b ∧ ∀ z, a' = some z → b ≠ z.block)) ∧ (∀ z, a' = some z → Loose w' z.block) ∧ (∀ e ∈ m, LabFree w' e)))
theorem SerFit.add {x : Ser} {p : SerP} (h : SerFit x p) (hr : labRight x.l = true) {n : Nat} {w : World} (ha : p.At n w x) : p.ll < 2147483648 ∧ p.ss.Short := by
  refine ⟨?_, h.short⟩
  have h1 := ha.l.1.1
  have h2 : x.l.length ≤ 6 := by simp [labRight] at hr; exact hr.1.2
  omega
theorem tabGo_all : ∀ (l : List Ser) (p : Option (List Lab)), tabGo p l = true → ∀ x ∈ l, serRight x = true
  | [], _, _, x, h => by cases h
  | y :: r, p, h, x, hx => by
    simp only [tabGo, Bool.and_eq_true] at h
    rcases List.mem_cons.1 hx with rfl | hx
    · exact h.1.1
    · exact tabGo_all r _ h.2 x hx
theorem addFit_of {l : List (Ser × SerP)} {n : Nat} {w : World} {a : Option Addr} {len cap : Nat} (hr : tabRight (l.map (·.1)) = true) (hF : TabFit l) (hT : Tab n w a len cap l) : AddFit l := fun e he => by
  simp only [tabRight, Bool.and_eq_true] at hr
  have h1 := tabGo_all _ _ hr.2 e.1 (List.mem_map_of_mem he)
  simp only [serRight, Bool.and_eq_true] at h1
  exact (hF e he).add h1.1 (hT.at_ e he)

end Go.Proofs.YthnfhklfmaeccaaGreatDoor
