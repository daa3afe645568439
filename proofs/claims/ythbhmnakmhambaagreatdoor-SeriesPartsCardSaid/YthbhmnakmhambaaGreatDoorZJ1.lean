/- Exact sets as plain data: insertion into rising numbers. No program in sight. Registers as plain data: what a number tells, and the registers of one digit less. No program in sight. Counters as plain data: a number added, half as many columns. No program in sight. Histograms as plain data: bins put into rising bins, buckets half as fine. No program in sight. Sketches at work as plain data: a number added, one level lower. No program in sight. Series of Go's sizes; aviarylaw12.shown. series.Meant; what a scope means, in plain data. Package ladder: what sketches cost, in plain data. Sketches at work as plain data: two merged. No program in sight. -/
import Derived.Test.YthbhmnakmhambaaGreatDoorZT8
import Derived.Test.YthbhmnakmhambaaGreatDoorZME
namespace Go.Proofs.YthbhmnakmhambaaGreatDoor
open Go Go.RowKit
theorem up_ext : ∀ (l m : List Int), Up l → Up m → (∀ y, y ∈ l ↔ y ∈ m) → l = m
 | [], [], _, _, _ => rfl
 | [], b :: m, _, _, h => by have := (h b).2 List.mem_cons_self; cases this
 | a :: l, [], _, _, h => by have := (h a).1 List.mem_cons_self; cases this
 | a :: l, b :: m, hl, hm, h => by
  obtain ⟨l1, l2⟩ := up_tail hl
  obtain ⟨m1, m2⟩ := up_tail hm
  have hab : a = b := by
   rcases List.mem_cons.1 ((h a).1 List.mem_cons_self) with e | e
   ·exact e
   ·rcases List.mem_cons.1 ((h b).2 List.mem_cons_self) with e2 | e2
    ·exact e2.symm
    ·have := m2 a e; have := l2 b e2; omega
  subst hab
  congr 1
  refine up_ext l m l1 m1 (fun y => ⟨fun hy => ?_, fun hy => ?_⟩)
  ·rcases List.mem_cons.1 ((h y).1 (List.mem_cons_of_mem _ hy)) with e | e
   ·subst e; have := l2 y hy; omega
   ·exact e
  ·rcases List.mem_cons.1 ((h y).2 (List.mem_cons_of_mem _ hy)) with e | e
   ·subst e; have := m2 y hy; omega
   ·exact e
end Go.Proofs.YthbhmnakmhambaaGreatDoor
namespace Go.Proofs.YthbhmnakmhambaaGreatDoor
open Go Go.RowKit
theorem tell_comm (r : List Nat) (p q j k : Nat) : hlTell (hlTell r p j) q k = hlTell (hlTell r q k) p j := by
 refine getD_ext _ _ (by simp [hlTell_len]) (fun i hi => ?_)
 simp only [tell_at, hlTell_len]
 split <;> split <;> simp_all <;> omega
theorem tell_idem (r : List Nat) (p k : Nat) : hlTell (hlTell r p k) p k = hlTell r p k := by
 refine getD_ext _ _ (by simp [hlTell_len]) (fun i hi => ?_)
 simp only [tell_at, hlTell_len]
 split <;> simp_all
theorem hlLow_none (b : Nat) : hlLow b (hlNone b) = hlNone (b - 1) := by
 have h0 : ∀ i, (hlNone b).getD i 0 = 0 := fun i => by
  unfold hlNone
  rw [List.getD_eq_getElem?_getD, List.getElem?_replicate]
  split <;> rfl
 refine getD_ext _ _ (by rw [hlLow_len]; simp [hlNone]) (fun i hi => ?_)
 rw [hlLow_len] at hi
 rw [low_at _ _ _ hi, h0, h0]
 simp [hlNone, upR, oneR, List.getD_eq_getElem?_getD, hi]
theorem hlAdd_comm (b : Nat) (r : List Nat) (m n : Nat) : hlAdd b (hlAdd b r m) n = hlAdd b (hlAdd b r n) m := tell_comm _ _ _ _ _
theorem hlSum_add (b : Nat) : ∀ (l r : List Nat) (n : Nat), hlSum b (hlAdd b r n) l = hlAdd b (hlSum b r l) n
 | [], _, _ => rfl
 | x :: l, r, n => by
  show hlSum b (hlAdd b (hlAdd b r n) x) l = hlAdd b (hlSum b (hlAdd b r x) l) n
  rw [hlAdd_comm, hlSum_add b l]
theorem hlSum_ins (b : Nat) : ∀ (l : List Int) (r : List Nat) (n : Int), hlSum b r ((insR l n).map Int.toNat) = hlAdd b (hlSum b r (l.map Int.toNat)) n.toNat
 | [], r, n => by simp [insR, hlSum]
 | x :: xs, r, n => by
  unfold insR
  split
  ·show hlSum b (hlAdd b r x.toNat) ((insR xs n).map Int.toNat) = _
   rw [hlSum_ins b xs]; rfl
  ·split
   ·rename_i h1 h2
    subst h2
    show hlSum b (hlAdd b r x.toNat) (xs.map Int.toNat) = hlAdd b (hlSum b (hlAdd b r x.toNat) (xs.map Int.toNat)) x.toNat
    rw [hlSum_add]
    exact (tell_idem _ _ _).symm
   ·show hlSum b (hlAdd b r n.toNat) ((x :: xs).map Int.toNat) = _
    rw [hlSum_add]
theorem hlSum_gather (b : Nat) : ∀ (l c m : List Int) (r : List Nat), Up c → exGather c l = some m → hlSum b r (m.map Int.toNat) = hlSum b (hlSum b r (c.map Int.toNat)) (l.map Int.toNat)
 | [], c, m, r, _, h => by simp only [exGather, Option.some.injEq] at h; rw [h]; rfl
 | n :: l, c, m, r, hu, h => by
  simp only [exGather] at h
  split at h
  ·cases h
  ·rw [hlSum_gather b l _ m r (by rw [exIns_eq c n hu]; exact insR_up c n hu) h, exIns_eq c n hu, hlSum_ins]
   rfl
end Go.Proofs.YthbhmnakmhambaaGreatDoor
namespace Go.Proofs.YthbhmnakmhambaaGreatDoor
open Go Go.RowKit
theorem satI_r (a b n : Int) (ha : U64 a) (hb : U64 b) (hn : U64 n) : satI (satI a n) b = satI (satI a b) n := by
 unfold U64 satI at *
 split <;> split <;> split <;> split <;> omega
theorem satI_a (a b n : Int) (ha : U64 a) (hb : U64 b) (hn : U64 n) : satI a (satI b n) = satI (satI a b) n := by
 unfold U64 satI at *
 split <;> split <;> split <;> split <;> omega
theorem cmLow_none (c : Nat) : cmLow c (cmNone c) = cmNone (c / 2) := by
 have h0 : ∀ i, (cmNone c).getD i 0 = 0 := fun i => by
  unfold cmNone
  rw [List.getD_eq_getElem?_getD, List.getElem?_replicate]
  split <;> rfl
 refine getD_extI _ _ (by rw [cmLow_len]; simp [cmNone]) (fun i hi => ?_)
 rw [cmLow_len] at hi
 rw [cmLow_at _ _ _ hi, h0, h0]
 simp [cmNone, satI, List.getD_eq_getElem?_getD, hi]
end Go.Proofs.YthbhmnakmhambaaGreatDoor
namespace Go.Proofs.YthbhmnakmhambaaGreatDoor
open Go Go.RowKit
theorem binPut_cons (q m : Int) (t : List (Int × Int)) (p n : Int) : binPut ((q, m) :: t) p n = if q < p then (q, m) :: binPut t p n else if q = p then (q, satI m n) :: t else (p, n) :: (q, m) :: t := rfl
theorem bin_ext : ∀ (l m : List (Int × Int)), BinUp l → BinUp m → (∀ p, binAt l p = binAt m p) → l = m
 | [], [], _, _, _ => rfl
 | [], b :: m, _, _, h => by have := h b.1; rw [binAt_cons, if_pos rfl] at this; cases this
 | a :: l, [], _, _, h => by have := h a.1; rw [binAt_cons, if_pos rfl] at this; cases this
 | a :: l, b :: m, hl, hm, h => by
  obtain ⟨l1, l2⟩ := binUp_tail hl
  obtain ⟨m1, m2⟩ := binUp_tail hm
  have hab : a.1 = b.1 := by
   apply Classical.byContradiction
   intro hne
   by_cases hlt : a.1 < b.1
   ·have := h a.1
    rw [binAt_cons, if_pos rfl, binAt_none (t := b :: m) (fun c hc => by
     rcases List.mem_cons.1 hc with rfl | hc
     ·exact hlt
     ·have := m2 c hc; omega)] at this
    cases this
   ·have := h b.1
    rw [binAt_cons b m, if_pos rfl, binAt_none (t := a :: l) (fun c hc => by
     rcases List.mem_cons.1 hc with rfl | hc
     ·omega
     ·have := l2 c hc; omega)] at this
    cases this
  have h2 : a.2 = b.2 := by
   have := h a.1
   rw [binAt_cons, if_pos rfl, binAt_cons, if_pos hab.symm] at this
   simpa using this
  have hh : a = b := Prod.ext hab h2
  subst hh
  congr 1
  refine bin_ext l m l1 m1 (fun p => ?_)
  have := h p
  rw [binAt_cons, binAt_cons] at this
  by_cases hp : a.1 = p
  ·rw [binAt_none (fun c hc => by have := l2 c hc; omega), binAt_none (fun c hc => by have := m2 c hc; omega)]
  ·rwa [if_neg hp, if_neg hp] at this
theorem satI_comm (a b : Int) : satI a b = satI b a := by
 unfold satI
 split <;> split <;> omega
theorem satI_pos (a b : Int) (ha : U64 a) (hb : U64 b) (h : a ≠ 0 ∨ b ≠ 0) : satI a b ≠ 0 := by
 unfold U64 satI at *
 split <;> omega
theorem binUp_comm {o : Option Int} {m n : Int} (ho : ∀ x, o = some x → U64 x) (hm : U64 m) (hn : U64 n) : satI (binUp o m) n = satI (binUp o n) m := by
 cases o with
 | none => exact satI_comm m n
 | some x => exact satI_r x n m (ho x rfl) hn hm
theorem binPut_comm (l : List (Int × Int)) (p m q n : Int) (hu : BinUp l) (hb : BinsU l) (hm : U64 m) (hn : U64 n) : binPut (binPut l p m) q n = binPut (binPut l q n) p m := by
 refine bin_ext _ _ (binPut_up _ _ _ (binPut_up _ _ _ hu)) (binPut_up _ _ _ (binPut_up _ _ _ hu)) (fun r => ?_)
 rw [binAt_put _ _ _ _ (binPut_up _ _ _ hu), binAt_put _ _ _ _ (binPut_up _ _ _ hu), binAt_put _ _ _ _ hu, binAt_put _ _ _ _ hu, binAt_put _ _ _ _ hu, binAt_put _ _ _ _ hu]
 by_cases h1 : r = q
 ·by_cases h2 : r = p
  ·subst h1
   subst h2
   simp only [if_true]
   rw [show binUp (some (binUp (binAt l r) m)) n = satI (binUp (binAt l r) m) n from rfl, show binUp (some (binUp (binAt l r) n)) m = satI (binUp (binAt l r) n) m from rfl, binUp_comm (fun x => binAt_u64 hb) hm hn]
  ·rw [if_pos h1, if_neg h2, if_pos h1, if_neg (fun e => h2 (by omega))]
 ·by_cases h2 : r = p
  ·rw [if_neg h1, if_pos h2, if_pos h2, if_neg (fun e => h1 (by omega))]
  ·rw [if_neg h1, if_neg h2, if_neg h2, if_neg h1]
theorem binPut_twice (l : List (Int × Int)) (p m n : Int) (hu : BinUp l) (hb : BinsU l) (hm : U64 m) (hn : U64 n) : binPut (binPut l p m) p n = binPut l p (satI m n) := by
 refine bin_ext _ _ (binPut_up _ _ _ (binPut_up _ _ _ hu)) (binPut_up _ _ _ hu) (fun r => ?_)
 rw [binAt_put _ _ _ _ (binPut_up _ _ _ hu), binAt_put _ _ _ _ hu, binAt_put _ _ _ _ hu, binAt_put _ _ _ _ hu, if_pos rfl]
 by_cases h : r = p
 ·rw [if_pos h, if_pos h]
  cases ho : binAt l p with
  | none => rfl
  | some x =>
   have hx := binAt_u64 hb ho
   show some (satI (satI x m) n) = some (satI x (satI m n))
   rw [satI_a x m n hx hm hn]
 ·rw [if_neg h, if_neg h, if_neg h]
theorem hiPuts_put : ∀ (l a : List (Int × Int)) (p n : Int), BinUp a → BinsU a → BinsU l → U64 n → hiPuts (binPut a p n) l = binPut (hiPuts a l) p n
 | [], _, _, _, _, _, _, _ => rfl
 | b :: l, a, p, n, hu, ha, hl, hn => by
  have hb := hl b List.mem_cons_self
  show hiPuts (binPut (binPut a p n) b.1 b.2) l = binPut (hiPuts (binPut a b.1 b.2) l) p n
  rw [binPut_comm a p n b.1 b.2 hu ha hn hb]
  exact hiPuts_put l _ p n (binPut_up _ _ _ hu) (binPut_u64 _ _ _ ha hb) (fun c hc => hl c (List.mem_cons_of_mem _ hc)) hn
theorem hiPuts_ins : ∀ (l a : List (Int × Int)) (g : Int → Int) (p n : Int), BinUp a → BinsU a → BinsU l → U64 n →
  hiPuts a ((binPut l p n).map fun b => (g b.1, b.2)) = binPut (hiPuts a (l.map fun b => (g b.1, b.2))) (g p) n
 | [], a, g, p, n, _, _, _, _ => rfl
 | (q, m) :: t, a, g, p, n, hu, ha, hl, hn => by
  have hm : U64 m := hl (q, m) List.mem_cons_self
  have ht : BinsU t := fun c hc => hl c (List.mem_cons_of_mem _ hc)
  have htg : BinsU (t.map fun b => (g b.1, b.2)) := fun c hc => by
   obtain ⟨d, hd, rfl⟩ := List.mem_map.1 hc
   exact ht d hd
  rw [binPut_cons q m t p n]
  split
  ·exact hiPuts_ins t _ g p n (binPut_up a (g q) m hu) (binPut_u64 a (g q) m ha hm) ht hn
  ·split
   ·rename_i h1 h2
    subst h2
    show hiPuts (binPut a (g q) (satI m n)) (t.map fun b => (g b.1, b.2)) = binPut (hiPuts (binPut a (g q) m) (t.map fun b => (g b.1, b.2))) (g q) n
    rw [← binPut_twice a (g q) m n hu ha hm hn, hiPuts_put _ _ _ _ (binPut_up _ _ _ hu) (binPut_u64 _ _ _ ha hm) htg hn]
   ·show hiPuts (binPut (binPut a (g p) n) (g q) m) (t.map fun b => (g b.1, b.2)) = binPut (hiPuts (binPut a (g q) m) (t.map fun b => (g b.1, b.2))) (g p) n
    rw [binPut_comm a (g p) n (g q) m hu ha hn hm, hiPuts_put _ _ _ _ (binPut_up _ _ _ hu) (binPut_u64 _ _ _ ha hm) htg hn]
theorem hiDone_self {l : List (Int × Int)} (h : ∀ b ∈ l, b.2 ≠ 0) : hiDone l = l := List.filter_eq_self.2 (fun b hb => by simpa using h b hb)
theorem binPut_pos : ∀ (l : List (Int × Int)) (p n : Int), (∀ b ∈ l, b.2 ≠ 0) → BinsU l → U64 n → n ≠ 0 → ∀ b ∈ binPut l p n, b.2 ≠ 0
 | [], p, n, _, _, _, hn, b, hb => by simp [binPut] at hb; rw [hb]; exact hn
 | (q, m) :: t, p, n, h, hu, hn, h0, b, hb => by
  have ht : ∀ b ∈ t, b.2 ≠ 0 := fun b hb => h b (List.mem_cons_of_mem _ hb)
  unfold binPut at hb
  split at hb
  ·rcases List.mem_cons.1 hb with rfl | hb
   ·exact h _ List.mem_cons_self
   ·exact binPut_pos t p n ht (fun c hc => hu c (List.mem_cons_of_mem _ hc)) hn h0 b hb
  ·split at hb
   ·rcases List.mem_cons.1 hb with rfl | hb
    ·exact satI_pos _ _ (hu (q, m) List.mem_cons_self) hn (.inr h0)
    ·exact ht b hb
   ·rcases List.mem_cons.1 hb with rfl | hb
    ·exact h0
    ·exact h b hb
theorem hiPuts_pos : ∀ (l a : List (Int × Int)), (∀ b ∈ a, b.2 ≠ 0) → BinsU a → (∀ b ∈ l, b.2 ≠ 0) → BinsU l → ∀ b ∈ hiPuts a l, b.2 ≠ 0
 | [], _, h, _, _, _ => h
 | b :: l, a, h, hu, hl, hlu => hiPuts_pos l _ (binPut_pos a b.1 b.2 h hu (hlu b List.mem_cons_self) (hl b List.mem_cons_self)) (binPut_u64 _ _ _ hu (hlu b List.mem_cons_self)) (fun c hc => hl c (List.mem_cons_of_mem _ hc)) (fun c hc => hlu c (List.mem_cons_of_mem _ hc))
theorem hiLow_eq {l : List (Int × Int)} (h : ∀ b ∈ l, b.2 ≠ 0) (hu : BinsU l) : hiLow l = hiPuts [] (l.map fun b => (hiHalf b.1, b.2)) := by
 obtain ⟨h1, h2⟩ := half_bins h hu
 exact hiDone_self (hiPuts_pos _ [] (fun b hb => by cases hb) (fun b hb => by cases hb) h1 h2)
end Go.Proofs.YthbhmnakmhambaaGreatDoor
namespace Go.Proofs.YthbhmnakmhambaaGreatDoor
open Go Go.RowKit
theorem wkTo_to (t u : Nat) (ht : t ≤ u) : ∀ (m : Nat) (s : Nat × Bd), t - s.1 = m → wkTo (wkTo s t) u = wkTo s u := by
 intro m
 induction m with
 | zero => intro s hm; rw [wkTo_self (s := s) (t := t) (by omega)]
 | succ m ih =>
  intro s hm
  rw [wkTo_low (s := s) (t := t) (by omega), wkTo_low (s := s) (t := u) (by omega)]
  exact ih (wkLow s) (by show t - (s.1 + 1) = m; omega)
end Go.Proofs.YthbhmnakmhambaaGreatDoor
namespace Go.Proofs.YthbhmnakmhambaaGreatDoor
open Go Go.RowKit Go.Shelf
set_option maxRecDepth 100000 in
set_option maxHeartbeats 4000000 in
theorem Drop_nil (q : List Lab) (qa : Option Addr) (qn qc : Nat) (w : World) (hG : GW w) (hQ : SlE Lab.enc 2 w.heap.size w qa qn q) (hqm : qn ≤ maxLen) :
  Calls Tryz.prog 57 #[.slice none 0 0, .slice qa qn qc] w fun e w' => e = .returned (.tuple #[.slice none 0 0, .int .i64 121]) ∧ Below w.heap.size w w' := by
 have hR := series_Right_any [] none 0 0 w Tab.nil (fun e h => by cases h) hG
 have HFd : Hid (∀ w', Below w.heap.size w w' → Calls Tryz.prog 52 #[.slice none 0 0, .slice qa qn qc] w' fun e w'' => e = .returned (.tuple #[.int .i64 0, .bool false]) ∧ Below w'.heap.size w' w'') := fun w' hb =>
  series_Find_any [] none 0 0 q qa qn qc w' Tab.nil (fun e h => by cases h) (hG.below hb) ((hQ.below hb).mono hb.size) hqm
 rw [show tabRight (([] : List (Ser × SerP)).map (·.1)) = true from rfl] at hR
 clear hG hQ hqm
 go_enter Tryz.func57, Tryz.ntmps57
 go_wp2_with (first
  | (go_at_call 10; refine hR.mono ?_; rintro e w1 ⟨rfl, hb1⟩)
  | (go_at_call 52; refine (HFd.out _ hb1).mono ?_; rintro e w2 ⟨rfl, hb2⟩))
 go_ret2
 exact ⟨rfl, hb1.trans (hb2.mono hb1.size)⟩
def shSer : Ser := ⟨[⟨⟨#[97]⟩, ⟨#[120]⟩⟩], ⟨1, 0, [7], 0, ⟨#[]⟩, 0, 0, [], 0, []⟩, 0⟩
theorem sh_ok : putOk [] shSer = true := by kernel_rfl
theorem sh_put : putL [] shSer = [shSer] := by kernel_rfl
theorem sh_cost : tabCost [shSer] = 27 := by kernel_rfl
theorem sh_right : tabRight [shSer] = true := by kernel_rfl
theorem sh_fine : shSer.fine := by
 refine ⟨fun y hy => ?_, by decide, by decide, by decide, by decide, (fun b hb => by cases hb), by decide, by unfold U64; decide⟩
 simp only [shSer, List.mem_singleton] at hy
 subst hy
 exact ⟨by decide, by decide⟩
set_option maxRecDepth 100000 in
set_option maxHeartbeats 4000000 in
theorem shown12_any (w : World) (hG : GW w) : Calls Tryz.prog 25 #[] w fun e w' => e = .returned (.bool true) ∧ Below w.heap.size w w' := by
 go_enter Tryz.func25, Tryz.ntmps25
 go_wp2_with fail
 obtain ⟨A, hA, hXa, hXb, hBa, hsa⟩ := boxes2 w #[.string ⟨#[97]⟩, .string ⟨#[120]⟩] 70 #[.int .u64 7] 41
 obtain ⟨W0, hW0, hX2, hBb, hsb⟩ := boxes1 A #[.slice (some ⟨w.heap.size, 0, none⟩) 1 1, .int .i64 1, .int .i64 0, .slice (some ⟨w.heap.size + 1, 0, none⟩) 1 1, .int .i64 0, .string ⟨#[]⟩, .int .i64 0, .int .i64 0, .slice none 0 0, .int .i64 0, .slice none 0 0, .int .u64 0] 43
 rw [hA, hW0]
 have hX0 := known hBb (Nat.le_refl _) hXa
 have hX1 := known hBb (Nat.le_refl _) hXb
 rw [hsa] at hX2
 have hB0 : Below w.heap.size w W0 := hBa.trans (hBb.mono (by omega))
 have hz0 : W0.heap.size = w.heap.size + 3 := by omega
 clear hW0 hA hXa hXb hBa hBb hsa hsb
 have HP : Hid (SerP.At ⟨some ⟨w.heap.size, 0, none⟩, 1, 1, ⟨some ⟨w.heap.size + 1, 0, none⟩, 1, 1, none, 0, 0, none, 0, 0⟩⟩ W0.heap.size W0 shSer) := ⟨slC_one (t := 70) hX0, slC_one (t := 41) hX1, SlC.nil, SlC.nil⟩
 have hc0 : W0.cell? ⟨w.heap.size + 2, 0, none⟩ = some (.slice (some ⟨w.heap.size, 0, none⟩) 1 1) := cCc hX2 0
 refine (series_Put_any [] none 0 0 shSer ⟨some ⟨w.heap.size, 0, none⟩, 1, 1, ⟨some ⟨w.heap.size + 1, 0, none⟩, 1, 1, none, 0, 0, none, 0, 0⟩⟩ W0 Tab.nil (fun e h => by cases h) HP.out (sh_fine.serFit HP.out) (hG.below hB0)).mono ?_
 rintro e w1 ⟨hb1, h⟩
 rcases h with ⟨h, -⟩ | ⟨-, a', cap', m, rfl, hT1, hm, -, -⟩
 ·exact absurd (h.symm.trans sh_ok) (by decide)
 have hm' : m.map (·.1) = [shSer] := hm.trans sh_put
 have HM := Lib.hid hm'
 have HT1 := Lib.hid hT1
 have hbw1 : Below w.heap.size w w1 := hB0.trans (hb1.mono (by omega))
 have hz1 := hb1.size
 obtain ⟨hc1, hd1⟩ := bcell hb1
 have HD := Lib.hid (Drop_nil shSer.l (some ⟨w.heap.size, 0, none⟩) 1 1 w1 (hG.below hbw1) (HP.out.go hb1).l.1 (by unfold maxLen; omega))
 have HG := Lib.hid hG
 clear hm hm' hT1 hG hX0 hX1 hX2
 have HF : Hid (TabFit m) := tabFit_of HT1.out (by rw [HM.out]; intro x hx; rw [List.mem_singleton] at hx; subst hx; exact sh_fine)
 generalize m.length = nm at *
 have HCo : Hid (∀ w', Below w1.heap.size w1 w' → Calls Tryz.prog 12 #[.slice a' nm cap'] w' fun e w'' => e = .returned (.int .i64 27) ∧ Below w'.heap.size w' w'') := fun w' hb => by
  have := series_Cost_any m a' nm cap' w' (HT1.out.go hb) HF.out (HG.out.below (hbw1.trans (hb.mono hbw1.size)))
  rw [HM.out, sh_cost] at this
  exact this
 have HRi : Hid (∀ w', Below w1.heap.size w1 w' → Calls Tryz.prog 10 #[.slice a' nm cap'] w' fun e w'' => e = .returned (.bool true) ∧ Below w'.heap.size w' w'') := fun w' hb => by
  have := series_Right_any m a' nm cap' w' (HT1.out.go hb) HF.out (HG.out.below (hbw1.trans (hb.mono hbw1.size)))
  rw [HM.out, sh_right] at this
  exact this
 go_wp2_with (first
  | (go_at_call 57; refine HD.out.mono ?_; rintro e w2 ⟨rfl, hb2⟩)
  | (go_at_call 12; refine (HCo.out _ hb2).mono ?_; rintro e w3 ⟨rfl, hb3⟩; have hb13 := hb2.trans (hb3.mono hb2.size))
  | (go_at_call 10; refine (HRi.out _ hb13).mono ?_; rintro e w4 ⟨rfl, hb4⟩))
 go_ret
 exact ⟨rfl, hbw1.trans ((hb13.trans (hb4.mono hb13.size)).mono hbw1.size)⟩
end Go.Proofs.YthbhmnakmhambaaGreatDoor
namespace Go.Proofs.YthbhmnakmhambaaGreatDoor
open Go Go.RowKit Go.Shelf
attribute [-go_sem] Builtin.append_
end Go.Proofs.YthbhmnakmhambaaGreatDoor
namespace Go.Proofs.YthbhmnakmhambaaGreatDoor
open Go Go.RowKit Go.Shelf
theorem cut12_any (s : ByteArray) (w : World) :
  Calls Tryz.prog 26 #[.string s] w fun e w' => e = .returned (.string (cutN 500 s)) ∧ Below w.heap.size w w' := by
 go_enter Tryz.func26, Tryz.ntmps26
 go_wp2_with fail
 go_ret
 exact ⟨rfl, Below.refl _ _⟩
end Go.Proofs.YthbhmnakmhambaaGreatDoor
namespace Go.Proofs.YthbhmnakmhambaaGreatDoor
open Go Go.RowKit Go.Shelf
theorem Same_sk {B : Bd} {k L : Nat} {v v' : Value} {w : World} (hv : SkB w v k L B) (hv' : SkB w v' k L B) : Calls Tryz.prog 28 #[v, v'] w fun e w' => e = .returned (.bool true) ∧ Below w.heap.size w w' := by
 obtain ⟨y, s, rfl, rfl, hA⟩ := hv
 obtain ⟨y', t, rfl, rfl, hA'⟩ := hv'
 have h1 := ladder_Same_any (skOf k L B) (skOf k L B) s t w hA hA'
 rw [sk_same] at h1
 exact h1
end Go.Proofs.YthbhmnakmhambaaGreatDoor
namespace Go.Proofs.YthbhmnakmhambaaGreatDoor
open Go Go.RowKit
theorem up_sub : ∀ (m l : List Int), Up l → Up m → (∀ y ∈ l, y ∈ m) → l.length ≤ m.length
 | [], l, _, _, h => by
  cases l with
  | nil => exact Nat.le_refl _
  | cons x l => exact absurd (h x List.mem_cons_self) (by simp)
 | x :: m, l, hl, hm, h => by
  obtain ⟨m1, m2⟩ := up_tail hm
  cases l with
  | nil => exact Nat.zero_le _
  | cons y l =>
   obtain ⟨l1, l2⟩ := up_tail hl
   have := up_sub m l l1 m1 (fun z hz => by
    rcases List.mem_cons.1 (h z (List.mem_cons_of_mem _ hz)) with e | e
    ·have a1 := l2 z hz
     rcases List.mem_cons.1 (h y List.mem_cons_self) with e2 | e2
     ·omega
     ·have := m2 y e2; omega
    ·exact e)
   simp only [List.length_cons]
   omega
theorem gather_none : ∀ (r l : List Int), Up l → exGather l r = none → ∀ m, Up m → (∀ y, y ∈ l ∨ y ∈ r → y ∈ m) → 64 < m.length
 | [], l, _, h, _, _, _ => by simp [exGather] at h
 | n :: r, l, hu, h, m, hm, hs => by
  rw [exGather] at h
  split at h
  ·rename_i hc
   rw [exIns_eq l n hu] at hc
   have := up_sub m (insR l n) (insR_up l n hu) hm (fun y hy => by
    rcases (insR_mem l n y).1 hy with e | e
    ·exact hs y (.inr (by rw [e]; exact List.mem_cons_self))
    ·exact hs y (.inl e))
   omega
  ·rw [exIns_eq l n hu] at h
   exact gather_none r _ (insR_up l n hu) h m hm (fun y hy => by
    rcases hy with e | e
    ·rcases (insR_mem l n y).1 e with e | e
     ·exact hs y (.inr (by rw [e]; exact List.mem_cons_self))
     ·exact hs y (.inl e)
    ·exact hs y (.inr (List.mem_cons_of_mem _ e)))
theorem gather_same (l l' r r' : List Int) (hu : Up l) (hl : l.length ≤ 64) (hu' : Up l') (hl' : l'.length ≤ 64) (h : ∀ y, (y ∈ l ∨ y ∈ r) ↔ (y ∈ l' ∨ y ∈ r')) : exGather l r = exGather l' r' := by
 cases e : exGather l r with
 | some m =>
  obtain ⟨a1, a2, a3⟩ := gather_some r l m hu hl e
  cases e' : exGather l' r' with
  | some m' =>
   obtain ⟨b1, b2, b3⟩ := gather_some r' l' m' hu' hl' e'
   rw [up_ext m m' a1 b1 (fun y => by rw [a3, b3]; exact h y)]
  | none => have := gather_none r' l' hu' e' m a1 (fun y hy => (a3 y).2 ((h y).2 hy)); omega
 | none =>
  cases e' : exGather l' r' with
  | some m' =>
   obtain ⟨b1, b2, b3⟩ := gather_some r' l' m' hu' hl' e'
   have := gather_none r l hu e m' b1 (fun y hy => (b3 y).2 ((h y).1 hy))
   omega
  | none => rfl
theorem hlMax_tell (r s : List Nat) (p k : Nat) (h : r.length = s.length) : hlMax r (hlTell s p k) = hlTell (hlMax r s) p k := by
 refine getD_ext _ _ (by rw [hlMax_len, hlTell_len, hlMax_len]) fun i hi => ?_
 rw [hlMax_len] at hi
 rw [hlMax_at _ _ _ hi, tell_at, tell_at, hlMax_at _ _ _ hi, hlMax_len, ← h]
 split <;> omega
theorem hlMax_none (b : Nat) (r : List Nat) : hlMax r (hlNone b) = r := by
 refine getD_ext _ _ (hlMax_len _ _) fun i hi => ?_
 rw [hlMax_len] at hi
 rw [hlMax_at _ _ _ hi]
 have := hlNone_le b 0 i
 omega
theorem hlMax_comm (r s : List Nat) (h : r.length = s.length) : hlMax r s = hlMax s r := by
 refine getD_ext _ _ (by rw [hlMax_len, hlMax_len, h]) fun i hi => ?_
 rw [hlMax_len] at hi
 rw [hlMax_at _ _ _ hi, hlMax_at _ _ _ (by omega), Nat.max_comm]
theorem cmMrg_none (c : Nat) (l : List Int) (hl : U64s l) : cmMrg l (cmNone c) = l := by
 refine getD_extI _ _ (cmMrg_len _ _) fun i hi => ?_
 rw [cmMrg_len] at hi
 rw [cmMrg_at _ _ _ hi]
 have : (cmNone c).getD i 0 = 0 := by
  unfold cmNone
  rw [List.getD_eq_getElem?_getD, List.getElem?_replicate]
  split <;> rfl
 rw [this, satI_comm, satI_0 _ (getD_u64 l hl i)]
theorem cmMrg_comm (l m : List Int) (h : l.length = m.length) : cmMrg l m = cmMrg m l := by
 refine getD_extI _ _ (by rw [cmMrg_len, cmMrg_len, h]) fun i hi => ?_
 rw [cmMrg_len] at hi
 rw [cmMrg_at _ _ _ hi, cmMrg_at _ _ _ (by omega), satI_comm]
theorem map_id_bins (l : List (Int × Int)) : (l.map fun b => (id b.1, b.2)) = l := by
 induction l with
 | nil => rfl
 | cons b l ih => rw [List.map_cons, ih]; rfl
theorem hiPuts_put2 (l m : List (Int × Int)) (p n : Int) (hu : BinUp l) (hl : BinsU l) (hm : BinsU m) (hn : U64 n) : hiPuts l (binPut m p n) = binPut (hiPuts l m) p n := by
 have h := hiPuts_ins m l id p n hu hl hm hn
 rw [map_id_bins, map_id_bins] at h
 exact h
theorem hiPuts_comm : ∀ (m l : List (Int × Int)), BinUp l → BinUp m → BinsU l → BinsU m → hiPuts l m = hiPuts m l
 | [], l, hl, _, _, _ => by rw [hiPuts_self l [] (by simpa using hl)]; rfl
 | (p, n) :: m, l, hl, hm, ul, um => by
  obtain ⟨m1, m2⟩ := binUp_tail hm
  have hn : U64 n := um (p, n) List.mem_cons_self
  have hum : BinsU m := fun c hc => um c (List.mem_cons_of_mem _ hc)
  have e : (p, n) :: m = binPut m p n := by
   cases m with
   | nil => rfl
   | cons c m =>
    have := m2 c List.mem_cons_self
    obtain ⟨q, k⟩ := c
    rw [binPut_cons, if_neg (by simp only at this; omega), if_neg (by simp only at this; omega)]
  rw [e, hiPuts_put2 l m p n hl ul hum hn, hiPuts_put l m p n m1 hum ul hn, hiPuts_comm m l hl m1 ul hum]
theorem hiMrg_pos {l m : List (Int × Int)} (h1 : ∀ b ∈ l, b.2 ≠ 0) (h2 : BinsU l) (h3 : ∀ b ∈ m, b.2 ≠ 0) (h4 : BinsU m) : hiDone (hiPuts l m) = hiPuts l m := hiDone_self (hiPuts_pos m l h1 h2 h3 h4)
def bdBase (k t : Nat) : Bd := if k = 1 then (if t = 0 then .num [] else .reg (8 - t) (hlNone (8 - t))) else if k = 2 then .cnt (32 / 2 ^ t) (cmNone (32 / 2 ^ t)) else .bkt (3 - t) []
theorem base_low (k t : Nat) (hk : k = 1 ∨ k = 2 ∨ k = 3) (ht : t < botN k) : (bdBase k t).low = bdBase k (t + 1) := by
 rcases hk with rfl | rfl | rfl
 ·have ht4 : t < 4 := ht
  show (if t = 0 then Bd.num [] else .reg (8 - t) (hlNone (8 - t))).low = if t + 1 = 0 then Bd.num [] else .reg (8 - (t + 1)) (hlNone (8 - (t + 1)))
  rw [if_neg (by omega : ¬ t + 1 = 0)]
  by_cases h0 : t = 0
  ·subst h0
   rw [if_pos rfl]
   simp only [Bd.low, hlSum, List.map_nil, List.foldl_nil]
  ·rw [if_neg h0]
   show Bd.reg (8 - t - 1) (hlLow (8 - t) (hlNone (8 - t))) = _
   rw [hlLow_none, show 8 - t - 1 = 8 - (t + 1) by omega]
 ·have ht3 : t < 3 := ht
  show Bd.cnt (32 / 2 ^ t / 2) (cmLow (32 / 2 ^ t) (cmNone (32 / 2 ^ t))) = Bd.cnt (32 / 2 ^ (t + 1)) (cmNone (32 / 2 ^ (t + 1)))
  rw [cmLow_none, Nat.div_div_eq_div_mul, ← Nat.pow_succ]
 ·show Bd.bkt (3 - t - 1) (hiLow []) = Bd.bkt (3 - (t + 1)) []
  rw [show 3 - t - 1 = 3 - (t + 1) by omega]
  rfl
theorem down_base (k : Nat) (hk : k = 1 ∨ k = 2 ∨ k = 3) : ∀ (n t : Nat), t + n ≤ botN k → wkDown n (t, bdBase k t) = (t + n, bdBase k (t + n))
 | 0, _, _ => rfl
 | n + 1, t, h => by
  show wkDown n (t + 1, (bdBase k t).low) = _
  rw [base_low k t hk (by omega), down_base k hk n (t + 1) (by omega), show t + 1 + n = t + (n + 1) by omega]
theorem new_base (k : Nat) (hk : k = 1 ∨ k = 2 ∨ k = 3) : bdNew k = bdBase k 0 := by rcases hk with rfl | rfl | rfl <;> rfl
theorem to_base (k t : Nat) (hk : k = 1 ∨ k = 2 ∨ k = 3) (ht : t ≤ botN k) : wkTo (0, bdNew k) t = (t, bdBase k t) := by
 have := down_base k hk t 0 (by omega)
 rw [Nat.zero_add] at this
 unfold wkTo
 rw [new_base k hk]
 exact this
theorem base_ok (k t : Nat) (hk : k = 1 ∨ k = 2 ∨ k = 3) (ht : t ≤ botN k) : (bdBase k t).Ok k t := by
 have h := (wkTo_ok t ht _ (0, bdNew k) rfl (bdNew_ok k hk)).1
 rw [to_base k t hk ht] at h
 exact h
theorem ok_wide {k t : Nat} {B : Bd} (hB : B.Ok k t) (h : k ≠ 1 ∨ 1 ≤ t) : B.wide := by
 cases B with
 | num l => obtain ⟨h1, h2, -⟩ := hB; omega
 | reg b r => trivial
 | cnt c l => trivial
 | bkt f l => trivial
theorem merge_base {k t : Nat} {x : Bd} (hx : x.Ok k t) (h : k ≠ 1 ∨ 1 ≤ t) : x.merge (bdBase k t) = some x := by
 cases x with
 | num l => obtain ⟨h1, h2, -⟩ := hx; omega
 | reg b r =>
  obtain ⟨rfl, h1, -⟩ := hx
  unfold bdBase
  rw [if_pos rfl, if_neg (by omega)]
  show some (Bd.reg b (hlMax r (hlNone (8 - t)))) = _
  rw [hlMax_none]
 | cnt c l =>
  obtain ⟨rfl, -, -, -, h5⟩ := hx
  show some (Bd.cnt c (cmMrg l (cmNone (32 / 2 ^ t)))) = _
  rw [cmMrg_none _ _ h5]
 | bkt f l =>
  obtain ⟨rfl, -, -, -, h5, -⟩ := hx
  show some (Bd.bkt f (hiDone l)) = _
  rw [hiDone_self h5]
theorem merge_at {s t : Nat × Bd} {u : Nat} {x y z : Bd} (hu : max s.1 t.1 = u) (hs : wkTo s u = (u, x)) (ht : wkTo t u = (u, y)) (hm : x.merge y = some z) : wkMerge s t = (u, z) := by
 unfold wkMerge
 rw [hu, hs, ht]
 simp only [hm]
theorem merge_comm {k L : Nat} {x y : Bd} (hx : x.Ok k L) (hy : y.Ok k L) : x.merge y = y.merge x := by
 cases x with
 | num l =>
  cases y with
  | num m =>
   show (exGather l m).map Bd.num = (exGather m l).map Bd.num
   rw [gather_same l m m l hx.2.2.1 hx.2.2.2.1 hy.2.2.1 hy.2.2.2.1 (fun y => Or.comm)]
  | reg b r => rfl
  | cnt c l => rfl
  | bkt f l => rfl
 | reg b r =>
  cases y with
  | num m => rfl
  | reg b' s =>
   obtain ⟨a1, a2, a3, a4, a5, a6⟩ := hx
   obtain ⟨b1, b2, b3, b4, b5, b6⟩ := hy
   obtain rfl : b = b' := by omega
   show some (Bd.reg b (hlMax r s)) = some (Bd.reg b (hlMax s r))
   rw [hlMax_comm r s (by omega)]
  | cnt c l => rfl
  | bkt f l => rfl
 | cnt c l =>
  cases y with
  | num m => rfl
  | reg b r => rfl
  | cnt c' m =>
   obtain ⟨a1, a2, a3, a4, a5⟩ := hx
   obtain ⟨b1, b2, b3, b4, b5⟩ := hy
   obtain rfl : c = c' := same_cols a3 b3
   show some (Bd.cnt c (cmMrg l m)) = some (Bd.cnt c (cmMrg m l))
   rw [cmMrg_comm l m (by omega)]
  | bkt f l => rfl
 | bkt f l =>
  cases y with
  | num m => rfl
  | reg b r => rfl
  | cnt c m => rfl
  | bkt f' m =>
   obtain ⟨a1, a2, a3, a4, a5, a6, a7⟩ := hx
   obtain ⟨b1, b2, b3, b4, b5, b6, b7⟩ := hy
   obtain rfl : f = f' := by omega
   show some (Bd.bkt f (hiDone (hiPuts l m))) = some (Bd.bkt f (hiDone (hiPuts m l)))
   rw [hiPuts_comm m l a4 b4 a6 b6]
end Go.Proofs.YthbhmnakmhambaaGreatDoor
