/- Package code: writer.numbers, exact, bins. -/
import Derived.Test.YtjpnbkdhmjgdgaaDoorY2
namespace Go.Proofs.YtjpnbkdhmjgdgaaDoor
open Go Go.RowKit

/-- What a write into the writer leaves as it was. -/
def WK (B b : Nat) (w w' : World) : Prop := Below B w w' ∧ Lib.OthersKept 5 (some b) w w'
theorem WK.refl (B b : Nat) (w : World) : WK B b w w := ⟨Below.refl _ _, Lib.OthersKept.refl _ _ _⟩
theorem WK.trans {B b : Nat} {w w' w'' : World} (h : WK B b w w') (h' : WK B b w' w'') : WK B b w w'' := ⟨h.1.trans h'.1, h.2.trans h'.2⟩
theorem WK.of_below {B b : Nat} {w w' : World} (h : Below w.heap.size w w') (hB : B ≤ w.heap.size) : WK B b w w' := ⟨h.mono hB, fun _ _ hk _ _ => known h (Nat.le_refl _) hk⟩
abbrev Wr (B b : Nat) (bs : List UInt8) (w : World) : Prop := Lib.IsBuilderF 57 5 B b (Lib.byteCells bs) w
theorem owns_goF {A B : World} {base e size n : Nat} {v : Value} {xs : List Value} (h : A.ownsRowF base e size v n xs) (hb : Below A.heap.size A B) : B.ownsRowF base e size v n xs :=
  ⟨h.1, h.2.imp id (fun ⟨g, cap, cur, fz, h1, h2, h3, h4⟩ => ⟨g, cap, cur, fz, h1, h2, known hb (Nat.le_refl _) h3, h4⟩)⟩
theorem Wr.go {B b : Nat} {bs : List UInt8} {A W : World} (h : Wr B b bs A) (hb : Below A.heap.size A W) : Wr B b bs W := by
  rcases h with ⟨h1, v, h2, h3, h4⟩ | ⟨h1, v, h2, h3, h4⟩
  · exact .inl ⟨h1, v, known hb (Nat.le_refl _) h2, owns_goF h3 hb, h4⟩
  · exact .inr ⟨h1, v, known hb (Nat.le_refl _) h2, owns_goF h3 hb, h4⟩
theorem putNums_len (n : Int) : 1 ≤ (putNums n).length ∧ (putNums n).length ≤ 9 := by
  unfold putNums
  repeat' split
  all_goals simp
theorem numsB_append (a b : List Int) : numsB (a ++ b) = numsB a ++ numsB b := by simp [numsB]
theorem numsB_len (l : List Int) : l.length ≤ (numsB l).length ∧ (numsB l).length ≤ 9 * l.length := by
  induction l with
  | nil => simp [numsB]
  | cons x l ih =>
    have := putNums_len x
    rw [show numsB (x :: l) = (putNums x).map (fun k => UInt8.ofNat k.toNat) ++ numsB l from rfl, List.length_append, List.length_map, List.length_cons]
    omega
theorem byteCells_append (a b : List UInt8) : Lib.byteCells (a ++ b) = Lib.byteCells a ++ Lib.byteCells b := by simp [Lib.byteCells]

set_option maxRecDepth 100000 in
set_option maxHeartbeats 4000000 in
theorem numbers_any (B b : Nat) (bs : List UInt8) (l : List Int) (a : Option Addr) (len cap : Nat) (w : World) (h : Wr B b bs w) (hk : ∀ w', WK B b w w' → SlE encU 1 w'.heap.size w' a len l) (hu : U64s l) (hlen : bs.length + 9 * len ≤ 4294967296) (hBw : B ≤ w.heap.size) :
    Calls Tryd.prog 19 #[.pointer (some ⟨b, 0, none⟩), .slice a len cap] w fun e w' => e = .returned (.tuple #[]) ∧ Wr B b (bs ++ numsB l) w' ∧ WK B b w w' := by
  have hl := (hk w (WK.refl _ _ _)).1
  subst hl
  have H := Lib.hid h
  have HK := Lib.hid hk
  have HU := Lib.hid hu
  have HL : Hid (bs.length + 9 * l.length ≤ 4294967296) := hlen
  have hll : l.length ≤ 4294967296 := by omega
  clear h hk hu hlen
  go_enter Tryd.func19, Tryd.ntmps19
  go_wp2_with fail
  go_loopw [8] (fun i wr => ∃ (k : Nat), i = .int .i64 k ∧ k ≤ l.length ∧ Hid (Wr B b (bs ++ numsB (l.take k)) wr) ∧ Hid (WK B b w wr)) (fun i _ => l.length - (intOf i).toNat)
  case atStart => exact ⟨0, rfl, Nat.zero_le _, by rw [Hid, List.take_zero, show numsB [] = [] from rfl, List.append_nil]; exact H.out, WK.refl _ _ _⟩
  case round =>
    obtain ⟨k, rfl, hkl, HW, HC⟩ := hrel
    by_cases hlt : k < l.length
    · obtain ⟨n, hn⟩ : ∃ n, l[k]? = some n := ⟨_, List.getElem?_eq_getElem hlt⟩
      obtain ⟨b1, o1, rfl, hbb, hc⟩ := (HK.out wr HC.out).2 k n hn
      have c0 : wr.cell? ⟨b1, o1 + k * 1, none⟩ = some (.int .u64 n) := hc 0 (by omega)
      rw [Nat.mul_one] at c0
      have HN := Lib.hid hn
      have hun : U64 n := HU.out n (List.mem_of_getElem? hn)
      have HUn := Lib.hid hun
      have HBr : Hid (B ≤ wr.heap.size) := Nat.le_trans hBw HC.out.1.size
      have HW2 : Hid (∀ w2, Below wr.drew.heap.size wr.drew w2 → Wr B b (bs ++ numsB (l.take k)) w2) := fun w2 hb => (HW.out.go ((Below.refl _ _).drew)).go hb
      have HB2 : Hid (∀ w2, Below wr.drew.heap.size wr.drew w2 → B ≤ w2.heap.size) := fun w2 hb => Nat.le_trans HBr.out hb.size
      have HL2 : Hid ((Lib.byteCells (bs ++ numsB (l.take k))).length + (strOfNums (putNums n)).size ≤ 140737488355328) := by
        have h1 := (numsB_len (l.take k)).2
        have h2 := (putNums_len n).2
        have h3 := HL.out
        rw [List.length_take] at h1
        rw [Hid, Lib.byteCells_length, List.length_append, strOfNums_size]
        omega
      have HF : Hid (∀ w3, Lib.BuilderAtF 57 5 B b (.pointer (some ⟨b, 0, none⟩)) (Lib.byteCells (bs ++ numsB (l.take k)) ++ Lib.strCells (strOfNums (putNums n))) w3 → Wr B b (bs ++ numsB (l.take (k + 1))) w3) := fun w3 h => by
        rw [strCells_nums, ← byteCells_append, List.append_assoc] at h
        rw [take_snoc' HN.out, numsB_append, show numsB [n] = (putNums n).map (fun k => UInt8.ofNat k.toNat) by simp [numsB]]
        exact .inr h
      clear hc hn hun
      go_wp2_with fail
      refine wp_region_any (by kernel_rfl) ?_
      change wpAny _ _ _ _ _ _ _ (World.drew _)
      refine wpAny_take (i := 0) (v := ?_) rfl (by kernel_rfl) (by kernel_rfl) (by kernel_rfl) (fun _ _ _ h => h) (Or.inl ⟨by rfl, ?_⟩) ?_
      rotate_left
      · intro w; go_simp; with_reducible rfl
      refine wpAny_take (i := 1) (v := ?_) rfl (by kernel_rfl) (by kernel_rfl) (by kernel_rfl) (fun _ _ _ h => h) (Or.inl ⟨by rfl, ?_⟩) ?_
      rotate_left
      · intro w; go_simp; with_reducible rfl
      refine wpAny_take (i := 2) (v := ?_) rfl (by kernel_rfl) (by kernel_rfl) (by kernel_rfl) (fun _ _ _ h => h) (Or.inl ⟨by rfl, ?_⟩) ?_
      rotate_left
      · intro w; go_simp; with_reducible rfl
      refine wpAny_take (i := 3) (v := ?_) rfl (by kernel_rfl) (by kernel_rfl) (by kernel_rfl) (fun _ _ _ h => h) (Or.inl ⟨by rfl, ?_⟩) ?_
      rotate_left
      · intro w; go_simp; with_reducible rfl
      refine wpAny_ready (rs := [4]) (by kernel_rfl) (by simp) ?_
      refine AllReady.cons rfl (fun K hK => ?_) ?_
      · go_simp
        refine (field_Put_any n _ HUn.out).mono ?_
        rintro e w2 ⟨rfl, hb2⟩
        refine hK _ _ ?_
        clear hK K
        refine wpAny_ready (rs := [5]) (by kernel_rfl) (by simp) ?_
        refine AllReady.cons rfl (fun K hK => ?_) ?_
        · go_simp
          refine (WriteString_any_w B b _ (strOfNums (putNums n)) w2 (HW2.out w2 hb2) (HL2.out) (HB2.out w2 hb2)).mono ?_
          rintro e w3 ⟨rfl, hA3, hB3, hO3⟩
          refine hK _ _ ?_
          clear hK K
          refine wpAny_done (by kernel_rfl) ?_ _
          go_wp2_with fail
          go_roundw
          case rel => exact ⟨k + 1, by go_num, by omega, HF.out w3 hA3, (HC.out.trans (WK.of_below ((Below.refl _ _).drew) HBr.out)).trans ((WK.of_below hb2 HBr.out).trans ⟨hB3, hO3⟩)⟩
          case measure => simp [intOf]; omega
        exact AllReady.nil
      exact AllReady.nil
    · obtain rfl : k = l.length := by omega
      have H9 : Hid (Wr B b (bs ++ numsB l) wr) := by have := HW.out; rw [List.take_length] at this; exact this
      go_wp2_with fail
      go_end0
      exact ⟨rfl, H9.out, HC.out⟩
end Go.Proofs.YtjpnbkdhmjgdgaaDoor
