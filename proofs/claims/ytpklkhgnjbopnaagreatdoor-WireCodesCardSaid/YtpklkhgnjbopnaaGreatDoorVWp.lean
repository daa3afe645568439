/- The reference of layer 20: num, PutReq at right requests, Req. Printed by gen_wss.py. The reference of layer 20: Req of what is the same. Package aviarylaw20: cut, Few. Printed by gen_wba.py. Package frame: each. -/
import Derived.Test.YtpklkhgnjbopnaaGreatDoorVG2
namespace Go.Proofs.YtpklkhgnjbopnaaGreatDoor
open Go Go.RowKit Go.Shelf
theorem num20_any (n : Int) (h0 : 0 ≤ n) (h1 : n ≤ 9223372036854775807) (w : World) : CR 56 #[.int .i64 n] w (.string (putR n)) := by
 have HP := Lib.hid (refPut_any n ⟨h0, by omega⟩ w)
 go_enter Tryz.func56, Tryz.ntmps56
 go_wp2_with fail
 refine HP.out.mono ?_
 rintro e w1 ⟨rfl, hb⟩
 have HB := Lib.hid hb
 clear hb
 go_wp2_with fail
 go_ret
 exact ⟨rfl, HB.out⟩
def rqS0 (r : Rq) : ByteArray := putR r.op ++ putR r.now ++ putR r.labels.size ++ r.labels ++ putR r.scope.size ++ r.scope ++ putR r.kind ++ putR (r.items.length : Int)
def rqS1 (r : Rq) (k : Nat) : ByteArray := (r.items.take k).foldl (fun s i => s ++ putR (i.1 : Int) ++ putR i.2) (rqS0 r)
def rqS2 (r : Rq) : ByteArray := rqS1 r r.items.length ++ putR r.h ++ putR r.tnt ++ putR r.id ++ putR (r.tens.length : Int)
def rqS3 (r : Rq) (k : Nat) : ByteArray := (r.tens.take k).foldl (fun s n => s ++ putR n) (rqS2 r)
theorem fold_size {α : Type} (f : ByteArray → α → ByteArray) (c : Nat) (hf : ∀ s x, (f s x).size ≤ s.size + c) : ∀ (l : List α) (s : ByteArray), (l.foldl f s).size ≤ s.size + c * l.length
 | [], s => by simp
 | x :: l, s => by
  have h1 := fold_size f c hf l (f s x)
  have h2 := hf s x
  have h3 : c * (l.length + 1) = c * l.length + c := Nat.mul_succ c l.length
  rw [List.foldl_cons, List.length_cons]
  omega
theorem rqS0_size {r : Rq} (h : r.ok = true) : (rqS0 r).size ≤ 854 := by
 unfold Rq.ok at h
 simp only [Bool.and_eq_true, decide_eq_true_eq] at h
 obtain ⟨⟨⟨⟨⟨⟨⟨_, _⟩, _⟩, _⟩, h5⟩, h6⟩, h7⟩, h8⟩ := h
 have e1 := putR_size r.op
 have e2 := putR_size r.now
 have e3 := putR_size r.labels.size
 have e4 := putR_size r.scope.size
 have e5 := putR_size r.kind
 have e6 := putR_size (r.items.length : Int)
 unfold rqS0
 simp only [ByteArray.size_append]
 omega
theorem rqS1_size {r : Rq} (h : r.ok = true) (k : Nat) (hk : k ≤ r.items.length) : (rqS1 r k).size ≤ 1754 := by
 have h0 := rqS0_size h
 have h1 := fold_size (fun (s : ByteArray) (i : Nat × Int) => s ++ putR (i.1 : Int) ++ putR i.2) 18 (fun s i => by
  have e1 := putR_size (i.1 : Int)
  have e2 := putR_size i.2
  simp only [ByteArray.size_append]
  omega) (r.items.take k) (rqS0 r)
 unfold Rq.ok at h
 simp only [Bool.and_eq_true, decide_eq_true_eq] at h
 obtain ⟨⟨⟨⟨⟨⟨⟨_, _⟩, _⟩, _⟩, h5⟩, h6⟩, h7⟩, h8⟩ := h
 rw [List.length_take] at h1
 have h2 : 18 * min k r.items.length ≤ 18 * 50 := Nat.mul_le_mul_left 18 (by omega)
 unfold rqS1
 omega
theorem rqS2_size {r : Rq} (h : r.ok = true) : (rqS2 r).size ≤ 1790 := by
 have h0 := rqS1_size h r.items.length (Nat.le_refl _)
 have e1 := putR_size r.h
 have e2 := putR_size r.tnt
 have e3 := putR_size r.id
 have e4 := putR_size (r.tens.length : Int)
 unfold rqS2
 simp only [ByteArray.size_append]
 omega
theorem rqS3_size {r : Rq} (h : r.ok = true) (k : Nat) (hk : k ≤ r.tens.length) : (rqS3 r k).size ≤ 1862 := by
 have h0 := rqS2_size h
 have h1 := fold_size (fun (s : ByteArray) (n : Int) => s ++ putR n) 9 (fun s n => by
  have e1 := putR_size n
  simp only [ByteArray.size_append]
  omega) (r.tens.take k) (rqS2 r)
 unfold Rq.ok at h
 simp only [Bool.and_eq_true, decide_eq_true_eq] at h
 obtain ⟨⟨⟨⟨⟨⟨⟨_, _⟩, _⟩, _⟩, h5⟩, h6⟩, h7⟩, h8⟩ := h
 rw [List.length_take] at h1
 have h2 : 9 * min k r.tens.length ≤ 9 * 8 := Nat.mul_le_mul_left 9 (by omega)
 unfold rqS3
 omega
theorem rqS1_step (r : Rq) {k : Nat} {i : Nat × Int} (h : r.items[k]? = some i) : rqS1 r (k + 1) = rqS1 r k ++ putR (i.1 : Int) ++ putR i.2 := by
 unfold rqS1
 rw [take_snoc' h, List.foldl_append]
 rfl
theorem rqS3_step (r : Rq) {k : Nat} {n : Int} (h : r.tens[k]? = some n) : rqS3 r (k + 1) = rqS3 r k ++ putR n := by
 unfold rqS3
 rw [take_snoc' h, List.foldl_append]
 rfl
set_option maxRecDepth 100000 in
set_option maxHeartbeats 8000000 in
theorem ref20_PutReq_ok (r : Rq) (ia : Option Addr) (ic : Nat) (ta : Option Addr) (tc : Nat) (w : World) (hw : r.Wf) (hI : SlE encIt 2 w.heap.size w ia r.items.length r.items) (hT : SlE encU 1 w.heap.size w ta r.tens.length r.tens) (hok : r.ok = true) :
  CR 20 #[.agg (rqV r ia ic ta tc)] w (.tuple #[.string (rqS3 r r.tens.length), .int .i64 0]) := by
 obtain ⟨W, hW, hX, hB, hsz⟩ := boxes1 w (rqV r ia ic ta tc) 56
 have hok2 := hok
 unfold Rq.ok at hok2
 simp only [Bool.and_eq_true, decide_eq_true_eq] at hok2
 obtain ⟨⟨⟨⟨⟨⟨⟨g1, g2⟩, g3⟩, g4⟩, g5⟩, g6⟩, g7⟩, g8⟩ := hok2
 have n1 : ¬ r.op < 0 := by omega
 have n2 : ¬ 255 < r.op := by omega
 have n3 : ¬ r.kind < 0 := by omega
 have n4 : ¬ 255 < r.kind := by omega
 have n5 : ¬ (400 : Int) < (r.labels.size : Int) := by omega
 have n6 : ¬ (400 : Int) < (r.scope.size : Int) := by omega
 have n7 : ¬ (50 : Int) < (r.items.length : Int) := by omega
 have n8 : ¬ (8 : Int) < (r.tens.length : Int) := by omega
 unfold rqV at hX hW ⊢
 obtain ⟨c0, c1, c2, c3, c4, c5, c6, c7, c8, c9⟩ := cl10 hX
 obtain ⟨P0, hP0⟩ : ∃ P, putR r.op = P := ⟨_, rfl⟩
 obtain ⟨P1, hP1⟩ : ∃ P, putR r.now = P := ⟨_, rfl⟩
 obtain ⟨P2, hP2⟩ : ∃ P, putR (r.labels.size : Int) = P := ⟨_, rfl⟩
 obtain ⟨P3, hP3⟩ : ∃ P, putR (r.scope.size : Int) = P := ⟨_, rfl⟩
 obtain ⟨P4, hP4⟩ : ∃ P, putR r.kind = P := ⟨_, rfl⟩
 obtain ⟨P5, hP5⟩ : ∃ P, putR (r.items.length : Int) = P := ⟨_, rfl⟩
 have HP0 : Hid (∀ V, CR 56 #[.int .i64 r.op] V (.string P0)) := fun V => hP0 ▸ num20_any r.op g1 (by omega) V
 have HP1 : Hid (∀ V, CR 57 #[.int .u64 r.now] V (.string P1)) := fun V => hP1 ▸ refPut_any r.now hw.now V
 have HP2 : Hid (∀ V, CR 56 #[.int .i64 r.labels.size] V (.string P2)) := fun V => hP2 ▸ num20_any r.labels.size (by omega) (by omega) V
 have HP3 : Hid (∀ V, CR 56 #[.int .i64 r.scope.size] V (.string P3)) := fun V => hP3 ▸ num20_any r.scope.size (by omega) (by omega) V
 have HP4 : Hid (∀ V, CR 56 #[.int .i64 r.kind] V (.string P4)) := fun V => hP4 ▸ num20_any r.kind g3 (by omega) V
 have HP5 : Hid (∀ V, CR 56 #[.int .i64 r.items.length] V (.string P5)) := fun V => hP5 ▸ num20_any r.items.length (by omega) (by omega) V
 have hS0 : rqS0 r = P0 ++ P1 ++ P2 ++ r.labels ++ P3 ++ r.scope ++ P4 ++ P5 := by unfold rqS0; rw [hP0, hP1, hP2, hP3, hP4, hP5]
 have z0 := putR_size r.op
 have z1 := putR_size r.now
 have z2 := putR_size r.labels.size
 have z3 := putR_size r.scope.size
 have z4 := putR_size r.kind
 have z5 := putR_size (r.items.length : Int)
 rw [hP0] at z0
 rw [hP1] at z1
 rw [hP2] at z2
 rw [hP3] at z3
 rw [hP4] at z4
 rw [hP5] at z5
 have k1 : ¬ 9223372036854775807 < P0.size + P1.size := by omega
 have k2 : ¬ 9223372036854775807 < P0.size + P1.size + P2.size := by omega
 have k3 : ¬ 9223372036854775807 < P0.size + P1.size + P2.size + r.labels.size := by omega
 have k4 : ¬ 9223372036854775807 < P0.size + P1.size + P2.size + r.labels.size + P3.size := by omega
 have k5 : ¬ 9223372036854775807 < P0.size + P1.size + P2.size + r.labels.size + P3.size + r.scope.size := by omega
 have k6 : ¬ 9223372036854775807 < P0.size + P1.size + P2.size + r.labels.size + P3.size + r.scope.size + P4.size := by omega
 have k7 : ¬ 9223372036854775807 < P0.size + P1.size + P2.size + r.labels.size + P3.size + r.scope.size + P4.size + P5.size := by omega
 obtain ⟨D, hD⟩ : ∃ D, W.drew = D := ⟨_, rfl⟩
 have hXD : D.heap[w.heap.size]? = some (.cells #[.int .i64 r.op, .int .u64 r.now, .string r.labels, .string r.scope, .int .i64 r.kind, .slice ia r.items.length ic, .int .u64 r.h, .int .u64 r.tnt, .int .u64 r.id, .slice ta r.tens.length tc] 56 (0, 0)) := by rw [← hD]; exact hX
 have HBD : Hid (Below W.heap.size W D) := by rw [Hid, ← hD]; exact (Below.refl _ W).drew
 have HCl : Hid (∀ V, Below W.heap.size W V → (fun w' => w'.cell? ⟨w.heap.size, 0, none⟩ = some (.int .i64 r.op) ∧ w'.cell? ⟨w.heap.size, 1, none⟩ = some (.int .u64 r.now) ∧ w'.cell? ⟨w.heap.size, 2, none⟩ = some (.string r.labels) ∧ w'.cell? ⟨w.heap.size, 3, none⟩ = some (.string r.scope) ∧ w'.cell? ⟨w.heap.size, 4, none⟩ = some (.int .i64 r.kind) ∧ w'.cell? ⟨w.heap.size, 5, none⟩ = some (.slice ia r.items.length ic) ∧ w'.cell? ⟨w.heap.size, 6, none⟩ = some (.int .u64 r.h) ∧ w'.cell? ⟨w.heap.size, 7, none⟩ = some (.int .u64 r.tnt) ∧ w'.cell? ⟨w.heap.size, 8, none⟩ = some (.int .u64 r.id) ∧ w'.cell? ⟨w.heap.size, 9, none⟩ = some (.slice ta r.tens.length tc)) V) := fun V hV => by
  have h := known hV (Nat.le_refl _) hX
  exact ⟨cCc h 0, cCc h 1, cCc h 2, cCc h 3, cCc h 4, cCc h 5, cCc h 6, cCc h 7, cCc h 8, cCc h 9⟩
 have HS : Hid (∀ V, Below D.heap.size D V → (fun w' => w'.cell? ⟨w.heap.size, 0, none⟩ = some (.int .i64 r.op) ∧ w'.cell? ⟨w.heap.size, 1, none⟩ = some (.int .u64 r.now) ∧ w'.cell? ⟨w.heap.size, 2, none⟩ = some (.string r.labels) ∧ w'.cell? ⟨w.heap.size, 3, none⟩ = some (.string r.scope) ∧ w'.cell? ⟨w.heap.size, 4, none⟩ = some (.int .i64 r.kind) ∧ w'.cell? ⟨w.heap.size, 5, none⟩ = some (.slice ia r.items.length ic) ∧ w'.cell? ⟨w.heap.size, 6, none⟩ = some (.int .u64 r.h) ∧ w'.cell? ⟨w.heap.size, 7, none⟩ = some (.int .u64 r.tnt) ∧ w'.cell? ⟨w.heap.size, 8, none⟩ = some (.int .u64 r.id) ∧ w'.cell? ⟨w.heap.size, 9, none⟩ = some (.slice ta r.tens.length tc)) V) := fun V hV => HCl.out V (HBD.out.trans (hV.mono HBD.out.size))
 have HD := Lib.hid hD
 have HSL := Lib.hid (And.intro (hI.go hB) (And.intro (hT.go hB) (And.intro hB (And.intro hw hok))))
 have HGG := Lib.hid (And.intro g5 (And.intro g6 hS0))
 clear hX hXD hD hB hsz hI hT hw hok hS0 hP0 hP1 hP2 hP3 hP4 hP5 z0 z1 z2 z3 z4 z5 g1 g2 g3 g4 g5 g6 g7 g8
 go_enter Tryz.func20, Tryz.ntmps20
 go_wp2_with fail
 refine wp_region_held_drew (S := fun w' => w'.cell? ⟨w.heap.size, 0, none⟩ = some (.int .i64 r.op) ∧ w'.cell? ⟨w.heap.size, 1, none⟩ = some (.int .u64 r.now) ∧ w'.cell? ⟨w.heap.size, 2, none⟩ = some (.string r.labels) ∧ w'.cell? ⟨w.heap.size, 3, none⟩ = some (.string r.scope) ∧ w'.cell? ⟨w.heap.size, 4, none⟩ = some (.int .i64 r.kind) ∧ w'.cell? ⟨w.heap.size, 5, none⟩ = some (.slice ia r.items.length ic) ∧ w'.cell? ⟨w.heap.size, 6, none⟩ = some (.int .u64 r.h) ∧ w'.cell? ⟨w.heap.size, 7, none⟩ = some (.int .u64 r.tnt) ∧ w'.cell? ⟨w.heap.size, 8, none⟩ = some (.int .u64 r.id) ∧ w'.cell? ⟨w.heap.size, 9, none⟩ = some (.slice ta r.tens.length tc)) (by kernel_rfl) (by rw [HD.out]; exact HS.out D (Below.refl _ _)) (fun hS => ?_)
 rw [HD.out] at hS ⊢
 refine wpAnyH_take (i := 0) (v := ?_) rfl (by kernel_rfl) (by kernel_rfl) (by kernel_rfl) (fun _ _ _ h => h) (Or.inl ⟨by rfl, ?_⟩) (by assumption) ?_
 rotate_left
 ·intro w hSw; go_simp; with_reducible rfl
 refine wpAnyH_take (i := 1) (v := ?_) rfl (by kernel_rfl) (by kernel_rfl) (by kernel_rfl) (fun _ _ _ h => h) (Or.inl ⟨by rfl, ?_⟩) (by assumption) ?_
 rotate_left
 ·intro w hSw; go_split_ands; go_simp; with_reducible rfl
 refine wpAnyH_take (i := 3) (v := ?_) rfl (by kernel_rfl) (by kernel_rfl) (by kernel_rfl) (fun _ _ _ h => h) (Or.inl ⟨by rfl, ?_⟩) (by assumption) ?_
 rotate_left
 ·intro w hSw; go_simp; with_reducible rfl
 refine wpAnyH_take (i := 4) (v := ?_) rfl (by kernel_rfl) (by kernel_rfl) (by kernel_rfl) (fun _ _ _ h => h) (Or.inl ⟨by rfl, ?_⟩) (by assumption) ?_
 rotate_left
 ·intro w hSw; go_split_ands; go_simp; with_reducible rfl
 refine wpAnyH_take (i := 7) (v := ?_) rfl (by kernel_rfl) (by kernel_rfl) (by kernel_rfl) (fun _ _ _ h => h) (Or.inl ⟨by rfl, ?_⟩) (by assumption) ?_
 rotate_left
 ·intro w hSw; go_simp; with_reducible rfl
 refine wpAnyH_take (i := 8) (v := ?_) rfl (by kernel_rfl) (by kernel_rfl) (by kernel_rfl) (fun _ _ _ h => h) (Or.inl ⟨by rfl, ?_⟩) (by assumption) ?_
 rotate_left
 ·intro w hSw; go_split_ands; go_simp; with_reducible rfl
 refine wpAnyH_take (i := 9) (v := ?_) rfl (by kernel_rfl) (by kernel_rfl) (by kernel_rfl) (fun _ _ _ h => h) (Or.inl ⟨by rfl, ?_⟩) (by assumption) ?_
 rotate_left
 ·intro w hSw; go_simp; with_reducible rfl
 refine wpAnyH_take (i := 12) (v := ?_) rfl (by kernel_rfl) (by kernel_rfl) (by kernel_rfl) (fun _ _ _ h => h) (Or.inl ⟨by rfl, ?_⟩) (by assumption) ?_
 rotate_left
 ·intro w hSw; go_simp; with_reducible rfl
 refine wpAnyH_take (i := 13) (v := ?_) rfl (by kernel_rfl) (by kernel_rfl) (by kernel_rfl) (fun _ _ _ h => h) (Or.inl ⟨by rfl, ?_⟩) (by assumption) ?_
 rotate_left
 ·intro w hSw; go_split_ands; go_simp; with_reducible rfl
 refine wpAnyH_take (i := 15) (v := ?_) rfl (by kernel_rfl) (by kernel_rfl) (by kernel_rfl) (fun _ _ _ h => h) (Or.inl ⟨by rfl, ?_⟩) (by assumption) ?_
 rotate_left
 ·intro w hSw; go_simp; with_reducible rfl
 refine wpAnyH_take (i := 16) (v := ?_) rfl (by kernel_rfl) (by kernel_rfl) (by kernel_rfl) (fun _ _ _ h => h) (Or.inl ⟨by rfl, ?_⟩) (by assumption) ?_
 rotate_left
 ·intro w hSw; go_split_ands; go_simp; with_reducible rfl
 refine wpAnyH_take (i := 17) (v := ?_) rfl (by kernel_rfl) (by kernel_rfl) (by kernel_rfl) (fun _ _ _ h => h) (Or.inl ⟨by rfl, ?_⟩) (by assumption) ?_
 rotate_left
 ·intro w hSw; go_simp; with_reducible rfl
 refine wpAnyH_take (i := 20) (v := ?_) rfl (by kernel_rfl) (by kernel_rfl) (by kernel_rfl) (fun _ _ _ h => h) (Or.inl ⟨by rfl, ?_⟩) (by assumption) ?_
 rotate_left
 ·intro w hSw; go_simp; with_reducible rfl
 refine wpAnyH_take (i := 21) (v := ?_) rfl (by kernel_rfl) (by kernel_rfl) (by kernel_rfl) (fun _ _ _ h => h) (Or.inl ⟨by rfl, ?_⟩) (by assumption) ?_
 rotate_left
 ·intro w hSw; go_split_ands; go_simp; with_reducible rfl
 refine wpAnyH_take (i := 23) (v := ?_) rfl (by kernel_rfl) (by kernel_rfl) (by kernel_rfl) (fun _ _ _ h => h) (Or.inl ⟨by rfl, ?_⟩) (by assumption) ?_
 rotate_left
 ·intro w hSw; go_simp; with_reducible rfl
 refine wpAnyH_take (i := 24) (v := ?_) rfl (by kernel_rfl) (by kernel_rfl) (by kernel_rfl) (fun _ _ _ h => h) (Or.inl ⟨by rfl, ?_⟩) (by assumption) ?_
 rotate_left
 ·intro w hSw; go_split_ands; go_simp; with_reducible rfl
 refine wpAnyH_take (i := 27) (v := ?_) rfl (by kernel_rfl) (by kernel_rfl) (by kernel_rfl) (fun _ _ _ h => h) (Or.inl ⟨by rfl, ?_⟩) (by assumption) ?_
 rotate_left
 ·intro w hSw; go_simp; with_reducible rfl
 refine wpAnyH_take (i := 28) (v := ?_) rfl (by kernel_rfl) (by kernel_rfl) (by kernel_rfl) (fun _ _ _ h => h) (Or.inl ⟨by rfl, ?_⟩) (by assumption) ?_
 rotate_left
 ·intro w hSw; go_split_ands; go_simp; with_reducible rfl
 refine wpAnyH_take (i := 29) (v := ?_) rfl (by kernel_rfl) (by kernel_rfl) (by kernel_rfl) (fun _ _ _ h => h) (Or.inl ⟨by rfl, ?_⟩) (by assumption) ?_
 rotate_left
 ·intro w hSw; go_simp; with_reducible rfl
 refine wpAnyH_ready (rs := [2]) (by kernel_rfl) (by simp) ?_
 refine AllReadyH.cons rfl (fun K hK => ?_) ?_
 ·go_simp
  refine (HP0.out _).mono ?_
  rintro e x1 ⟨rfl, hb⟩
  have HBx1 : Hid (Below D.heap.size D x1) := hb
  clear hb
  refine hK.out _ _ ?_ (fun hS2 => ?_)
  ·exact HS.out _ HBx1.out
  clear hK K hS
  have hS := hS2
  clear hS2
  refine wpAnyH_ready (rs := [5]) (by kernel_rfl) (by simp) ?_
  refine AllReadyH.cons rfl (fun K hK => ?_) ?_
  ·go_simp
   refine (HP1.out _).mono ?_
   rintro e x2 ⟨rfl, hb⟩
   have HBx2 : Hid (Below D.heap.size D x2) := HBx1.out.trans (hb.mono HBx1.out.size)
   clear hb
   refine hK.out _ _ ?_ (fun hS2 => ?_)
   ·exact HS.out _ HBx2.out
   clear hK K hS
   have hS := hS2
   clear hS2
   refine wpAnyH_take (i := 6) (v := ?_) rfl (by kernel_rfl) (by kernel_rfl) (by kernel_rfl) (fun _ _ _ h => h) (Or.inl ⟨by rfl, ?_⟩) (by assumption) ?_
   rotate_left
   ·intro w hSw; go_simp; with_reducible rfl
   refine wpAnyH_ready (rs := [10]) (by kernel_rfl) (by simp) ?_
   refine AllReadyH.cons rfl (fun K hK => ?_) ?_
   ·go_simp
    refine (HP2.out _).mono ?_
    rintro e x3 ⟨rfl, hb⟩
    have HBx3 : Hid (Below D.heap.size D x3) := HBx2.out.trans (hb.mono HBx2.out.size)
    clear hb
    refine hK.out _ _ ?_ (fun hS2 => ?_)
    ·exact HS.out _ HBx3.out
    clear hK K hS
    have hS := hS2
    clear hS2
    refine wpAnyH_take (i := 11) (v := ?_) rfl (by kernel_rfl) (by kernel_rfl) (by kernel_rfl) (fun _ _ _ h => h) (Or.inl ⟨by rfl, ?_⟩) (by assumption) ?_
    rotate_left
    ·intro w hSw; go_simp; with_reducible rfl
    refine wpAnyH_take (i := 14) (v := ?_) rfl (by kernel_rfl) (by kernel_rfl) (by kernel_rfl) (fun _ _ _ h => h) (Or.inl ⟨by rfl, ?_⟩) (by assumption) ?_
    rotate_left
    ·intro w hSw; go_simp; with_reducible rfl
    refine wpAnyH_ready (rs := [18]) (by kernel_rfl) (by simp) ?_
    refine AllReadyH.cons rfl (fun K hK => ?_) ?_
    ·go_simp
     refine (HP3.out _).mono ?_
     rintro e x4 ⟨rfl, hb⟩
     have HBx4 : Hid (Below D.heap.size D x4) := HBx3.out.trans (hb.mono HBx3.out.size)
     clear hb
     refine hK.out _ _ ?_ (fun hS2 => ?_)
     ·exact HS.out _ HBx4.out
     clear hK K hS
     have hS := hS2
     clear hS2
     refine wpAnyH_take (i := 19) (v := ?_) rfl (by kernel_rfl) (by kernel_rfl) (by kernel_rfl) (fun _ _ _ h => h) (Or.inl ⟨by rfl, ?_⟩) (by assumption) ?_
     rotate_left
     ·intro w hSw; go_simp; with_reducible rfl
     refine wpAnyH_take (i := 22) (v := ?_) rfl (by kernel_rfl) (by kernel_rfl) (by kernel_rfl) (fun _ _ _ h => h) (Or.inl ⟨by rfl, ?_⟩) (by assumption) ?_
     rotate_left
     ·intro w hSw; go_simp; with_reducible rfl
     refine wpAnyH_ready (rs := [25]) (by kernel_rfl) (by simp) ?_
     refine AllReadyH.cons rfl (fun K hK => ?_) ?_
     ·go_simp
      refine (HP4.out _).mono ?_
      rintro e x5 ⟨rfl, hb⟩
      have HBx5 : Hid (Below D.heap.size D x5) := HBx4.out.trans (hb.mono HBx4.out.size)
      clear hb
      refine hK.out _ _ ?_ (fun hS2 => ?_)
      ·exact HS.out _ HBx5.out
      clear hK K hS
      have hS := hS2
      clear hS2
      refine wpAnyH_take (i := 26) (v := ?_) rfl (by kernel_rfl) (by kernel_rfl) (by kernel_rfl) (fun _ _ _ h => h) (Or.inl ⟨by rfl, ?_⟩) (by assumption) ?_
      rotate_left
      ·intro w hSw; go_simp; with_reducible rfl
      refine wpAnyH_ready (rs := [30]) (by kernel_rfl) (by simp) ?_
      refine AllReadyH.cons rfl (fun K hK => ?_) ?_
      ·go_simp
       refine (HP5.out _).mono ?_
       rintro e x6 ⟨rfl, hb⟩
       have HBx6 : Hid (Below D.heap.size D x6) := HBx5.out.trans (hb.mono HBx5.out.size)
       clear hb
       refine hK.out _ _ ?_ (fun hS2 => ?_)
       ·exact HS.out _ HBx6.out
       clear hK K hS
       have hS := hS2
       clear hS2
       refine wpAnyH_take (i := 31) (v := ?_) rfl (by kernel_rfl) (by kernel_rfl) (by kernel_rfl) (fun _ _ _ h => h) (Or.inl ⟨by rfl, ?_⟩) (by assumption) ?_
       rotate_left
       ·intro w hSw; go_simp; with_reducible rfl
       refine wpAnyH_ready (rs := [32]) (by kernel_rfl) (by simp) ?_
       refine AllReadyH.cons rfl (fun K hK => ?_) ?_
       ·go_simp
        refine hK.out _ _ ?_ (fun hS2 => ?_)
        ·exact hS
        clear hK K hS
        have hS := hS2
        clear hS2
        refine wpAnyH_done (by kernel_rfl) ?_ _
        have HB6 : Hid (Below W.heap.size W x6) := HBD.out.trans (HBx6.out.mono HBD.out.size)
        rw [← HGG.out.2.2]
        have hg5 := HGG.out.1
        have hg6 := HGG.out.2.1
        have HZ2 : Hid (True) := trivial
        clear hS k1 k2 k3 k4 k5 k6 k7 c0 c1 c2 c3 c4 c5 c6 c7 c8 c9 n1 n2 n3 n4 n5 n6 n7 n8 HP0 HP1 HP2 HP3 HP4 HP5 HBx1 HBx2 HBx3 HBx4 HBx5
        go_wp2_with fail
        go_loopw [4, 5] (fun s i wr => ∃ k : Nat, s = .string (rqS1 r k) ∧ i = .int .i64 k ∧ k ≤ r.items.length ∧ Hid (Below W.heap.size W wr)) (fun _ i _ => r.items.length - (intOf i).toNat)
        case atStart => exact ⟨0, rfl, rfl, Nat.zero_le _, HB6.out⟩
        case round =>
         obtain ⟨k, rfl, rfl, hk, HBk⟩ := hrel
         obtain ⟨hI, -, hB, hw, hok⟩ := HSL.out
         have d5 := (HCl.out _ HBk.out).2.2.2.2.2.1
         by_cases hlt : k < r.items.length
         ·obtain ⟨E, hE⟩ : ∃ E, wr.drew = E := ⟨_, rfl⟩
          have hBE : Below W.heap.size W E := by rw [← hE]; exact HBk.out.drew
          obtain ⟨x, b1, o1, hx, rfl, hb1, hc1⟩ := (hI.below hBE).at hlt
          have p0 : E.cell? ⟨b1, o1 + k * 2, none⟩ = some (.int .u64 (x.1 : Int)) := hc1 0 (by omega)
          have p1 : E.cell? ⟨b1, o1 + k * 2 + 1, none⟩ = some (.int .u64 x.2) := hc1 1 (by omega)
          have i0 : (0 : Int) ≤ (k : Int) := by omega
          have i1 : (k : Int) < (r.items.length : Int) := by omega
          have hU := hw.items x (List.mem_of_getElem? hx)
          have hTz := rqS1_size hok k hk
          have hQz := putR_size (x.1 : Int)
          have hQy := putR_size x.2
          have hst := rqS1_step r hx
          obtain ⟨Q0, hQ0⟩ : ∃ Q, putR (x.1 : Int) = Q := ⟨_, rfl⟩
          obtain ⟨Q1, hQ1⟩ : ∃ Q, putR x.2 = Q := ⟨_, rfl⟩
          obtain ⟨T, hTT⟩ : ∃ T, rqS1 r k = T := ⟨_, rfl⟩
          have HI0 : Hid (∀ V, CR 57 #[.int .u64 (x.1 : Int)] V (.string Q0)) := fun V => hQ0 ▸ refPut_any _ hU.1 V
          have HI1 : Hid (∀ V, CR 57 #[.int .u64 x.2] V (.string Q1)) := fun V => hQ1 ▸ refPut_any _ hU.2 V
          rw [hQ0, hQ1] at hst
          rw [hQ0] at hQz
          rw [hQ1] at hQy
          rw [hTT] at hst hTz ⊢
          have m1 : ¬ 9223372036854775807 < T.size + Q0.size := by omega
          have m2 : ¬ 9223372036854775807 < T.size + Q0.size + Q1.size := by omega
          have HT1 := Lib.hid hst
          have HS7 : Hid (∀ V, Below E.heap.size E V → V.cell? ⟨w.heap.size, 5, none⟩ = some (.slice (some ⟨b1, o1, none⟩) r.items.length ic) ∧ V.cell? ⟨b1, o1 + k * 2, none⟩ = some (.int .u64 (x.1 : Int)) ∧ V.cell? ⟨b1, o1 + k * 2 + 1, none⟩ = some (.int .u64 x.2)) := fun V hV => by
           refine ⟨(HCl.out _ (hBE.trans (hV.mono hBE.size))).2.2.2.2.2.1, (hV.cell (p := ⟨b1, o1 + k * 2, none⟩) ?_).trans p0, (hV.cell (p := ⟨b1, o1 + k * 2 + 1, none⟩) ?_).trans p1⟩
           ·exact World.block_lt_of_cell? E _ p0
           ·exact World.block_lt_of_cell? E _ p1
          have HBy : Hid (∀ V, Below E.heap.size E V → Below W.heap.size W V) := fun V hV => hBE.trans (hV.mono hBE.size)
          obtain ⟨y0, q0, q1⟩ := HS7.out E (Below.refl _ _)
          have HE := Lib.hid hE
          clear hc1 hx hb1 hI hB hw hok hU hTz hQz hQy hst hQ0 hQ1 hTT hE hBE p0 p1
          go_wp2_with fail
          refine wp_region_held_drew (S := fun w' => w'.cell? ⟨w.heap.size, 5, none⟩ = some (.slice (some ⟨b1, o1, none⟩) r.items.length ic) ∧ w'.cell? ⟨b1, o1 + k * 2, none⟩ = some (.int .u64 (x.1 : Int)) ∧ w'.cell? ⟨b1, o1 + k * 2 + 1, none⟩ = some (.int .u64 x.2)) (by kernel_rfl) (by rw [HE.out]; exact ⟨y0, q0, q1⟩) (fun hS => ?_)
          rw [HE.out] at hS ⊢
          refine wpAnyH_take (i := 0) (v := ?_) rfl (by kernel_rfl) (by kernel_rfl) (by kernel_rfl) (fun _ _ _ h => h) (Or.inl ⟨by rfl, ?_⟩) (by assumption) ?_
          rotate_left
          ·intro w hSw; go_simp; with_reducible rfl
          refine wpAnyH_take (i := 1) (v := ?_) rfl (by kernel_rfl) (by kernel_rfl) (by kernel_rfl) (fun _ _ _ h => h) (Or.inl ⟨by rfl, ?_⟩) (by assumption) ?_
          rotate_left
          ·intro w hSw; go_simp; with_reducible rfl
          refine wpAnyH_take (i := 2) (v := ?_) rfl (by kernel_rfl) (by kernel_rfl) (by kernel_rfl) (fun _ _ _ h => h) (Or.inl ⟨by rfl, ?_⟩) (by assumption) ?_
          rotate_left
          ·intro w hSw; go_split_ands; go_simp; with_reducible rfl
          refine wpAnyH_take (i := 3) (v := ?_) rfl (by kernel_rfl) (by kernel_rfl) (by kernel_rfl) (fun _ _ _ h => h) (Or.inl ⟨by rfl, ?_⟩) (by assumption) ?_
          rotate_left
          ·intro w hSw; go_simp; with_reducible rfl
          refine wpAnyH_take (i := 4) (v := ?_) rfl (by kernel_rfl) (by kernel_rfl) (by kernel_rfl) (fun _ _ _ h => h) (Or.inl ⟨by rfl, ?_⟩) (by assumption) ?_
          rotate_left
          ·intro w hSw; go_simp; with_reducible rfl
          refine wpAnyH_take (i := 5) (v := ?_) rfl (by kernel_rfl) (by kernel_rfl) (by kernel_rfl) (fun _ _ _ h => h) (Or.inl ⟨by rfl, ?_⟩) (by assumption) ?_
          rotate_left
          ·intro w hSw; go_simp; with_reducible rfl
          refine wpAnyH_take (i := 6) (v := ?_) rfl (by kernel_rfl) (by kernel_rfl) (by kernel_rfl) (fun _ _ _ h => h) (Or.inl ⟨by rfl, ?_⟩) (by assumption) ?_
          rotate_left
          ·intro w hSw; go_split_ands; go_simp; with_reducible rfl
          refine wpAnyH_take (i := 9) (v := ?_) rfl (by kernel_rfl) (by kernel_rfl) (by kernel_rfl) (fun _ _ _ h => h) (Or.inl ⟨by rfl, ?_⟩) (by assumption) ?_
          rotate_left
          ·intro w hSw; go_simp; with_reducible rfl
          refine wpAnyH_take (i := 10) (v := ?_) rfl (by kernel_rfl) (by kernel_rfl) (by kernel_rfl) (fun _ _ _ h => h) (Or.inl ⟨by rfl, ?_⟩) (by assumption) ?_
          rotate_left
          ·intro w hSw; go_split_ands; go_simp; with_reducible rfl
          refine wpAnyH_take (i := 11) (v := ?_) rfl (by kernel_rfl) (by kernel_rfl) (by kernel_rfl) (fun _ _ _ h => h) (Or.inl ⟨by rfl, ?_⟩) (by assumption) ?_
          rotate_left
          ·intro w hSw; go_simp; with_reducible rfl
          refine wpAnyH_take (i := 12) (v := ?_) rfl (by kernel_rfl) (by kernel_rfl) (by kernel_rfl) (fun _ _ _ h => h) (Or.inl ⟨by rfl, ?_⟩) (by assumption) ?_
          rotate_left
          ·intro w hSw; go_simp; with_reducible rfl
          refine wpAnyH_take (i := 13) (v := ?_) rfl (by kernel_rfl) (by kernel_rfl) (by kernel_rfl) (fun _ _ _ h => h) (Or.inl ⟨by rfl, ?_⟩) (by assumption) ?_
          rotate_left
          ·intro w hSw; go_simp; with_reducible rfl
          refine wpAnyH_take (i := 14) (v := ?_) rfl (by kernel_rfl) (by kernel_rfl) (by kernel_rfl) (fun _ _ _ h => h) (Or.inl ⟨by rfl, ?_⟩) (by assumption) ?_
          rotate_left
          ·intro w hSw; go_split_ands; go_simp; with_reducible rfl
          refine wpAnyH_ready (rs := [7]) (by kernel_rfl) (by simp) ?_
          refine AllReadyH.cons rfl (fun K hK => ?_) ?_
          ·go_simp
           refine (HI0.out _).mono ?_
           rintro e y1 ⟨rfl, hb⟩
           have HCy1 : Hid (Below E.heap.size E y1) := hb
           clear hb
           refine hK.out _ _ ?_ (fun hS2 => ?_)
           ·exact HS7.out _ HCy1.out
           clear hK K hS
           have hS := hS2
           clear hS2
           refine wpAnyH_take (i := 8) (v := ?_) rfl (by kernel_rfl) (by kernel_rfl) (by kernel_rfl) (fun _ _ _ h => h) (Or.inl ⟨by rfl, ?_⟩) (by assumption) ?_
           rotate_left
           ·intro w hSw; go_simp; with_reducible rfl
           refine wpAnyH_ready (rs := [15]) (by kernel_rfl) (by simp) ?_
           refine AllReadyH.cons rfl (fun K hK => ?_) ?_
           ·go_simp
            refine (HI1.out _).mono ?_
            rintro e y2 ⟨rfl, hb⟩
            have HCy2 : Hid (Below E.heap.size E y2) := HCy1.out.trans (hb.mono HCy1.out.size)
            clear hb
            refine hK.out _ _ ?_ (fun hS2 => ?_)
            ·exact HS7.out _ HCy2.out
            clear hK K hS
            have hS := hS2
            clear hS2
            refine wpAnyH_take (i := 16) (v := ?_) rfl (by kernel_rfl) (by kernel_rfl) (by kernel_rfl) (fun _ _ _ h => h) (Or.inl ⟨by rfl, ?_⟩) (by assumption) ?_
            rotate_left
            ·intro w hSw; go_simp; with_reducible rfl
            refine wpAnyH_ready (rs := [17]) (by kernel_rfl) (by simp) ?_
            refine AllReadyH.cons rfl (fun K hK => ?_) ?_
            ·go_simp
             refine hK.out _ _ ?_ (fun hS2 => ?_)
             ·exact hS
             clear hK K hS
             have hS := hS2
             clear hS2
             refine wpAnyH_done (by kernel_rfl) ?_ _
             go_wp2_with fail
             exact ⟨⟨k + 1, by rw [HT1.out], by go_num, by omega, HBy.out _ HCy2.out⟩, by simp [intOf]; omega⟩
            exact AllReadyH.nil
           exact AllReadyH.nil
          exact AllReadyH.nil
         ·obtain rfl : k = r.items.length := by omega
          obtain ⟨E, hE⟩ : ∃ E, wr.drew = E := ⟨_, rfl⟩
          have HBe : Hid (Below W.heap.size W E) := by rw [Hid, ← hE]; exact HBk.out.drew
          have hTz := rqS1_size hok r.items.length (Nat.le_refl _)
          have q0 := putR_size r.h
          have q1 := putR_size r.tnt
          have q2 := putR_size r.id
          have q3 := putR_size (r.tens.length : Int)
          have HT2 : Hid (rqS1 r r.items.length ++ putR r.h ++ putR r.tnt ++ putR r.id ++ putR (r.tens.length : Int) = rqS2 r) := rfl
          obtain ⟨T, hTT⟩ : ∃ T, rqS1 r r.items.length = T := ⟨_, rfl⟩
          obtain ⟨Q0, hQ0⟩ : ∃ Q, putR r.h = Q := ⟨_, rfl⟩
          obtain ⟨Q1, hQ1⟩ : ∃ Q, putR r.tnt = Q := ⟨_, rfl⟩
          obtain ⟨Q2, hQ2⟩ : ∃ Q, putR r.id = Q := ⟨_, rfl⟩
          obtain ⟨Q3, hQ3⟩ : ∃ Q, putR (r.tens.length : Int) = Q := ⟨_, rfl⟩
          have HQ0 : Hid (∀ V, CR 57 #[.int .u64 r.h] V (.string Q0)) := fun V => hQ0 ▸ refPut_any _ hw.h V
          have HQ1 : Hid (∀ V, CR 57 #[.int .u64 r.tnt] V (.string Q1)) := fun V => hQ1 ▸ refPut_any _ hw.tnt V
          have HQ2 : Hid (∀ V, CR 57 #[.int .u64 r.id] V (.string Q2)) := fun V => hQ2 ▸ refPut_any _ hw.id V
          have HQ3 : Hid (∀ V, CR 56 #[.int .i64 r.tens.length] V (.string Q3)) := fun V => hQ3 ▸ num20_any _ (by omega) (by omega) V
          rw [hTT] at hTz HT2 ⊢
          rw [hQ0] at q0 HT2
          rw [hQ1] at q1 HT2
          rw [hQ2] at q2 HT2
          rw [hQ3] at q3 HT2
          have m1 : ¬ 9223372036854775807 < T.size + Q0.size := by omega
          have m2 : ¬ 9223372036854775807 < T.size + Q0.size + Q1.size := by omega
          have m3 : ¬ 9223372036854775807 < T.size + Q0.size + Q1.size + Q2.size := by omega
          have m4 : ¬ 9223372036854775807 < T.size + Q0.size + Q1.size + Q2.size + Q3.size := by omega
          have HS8 : Hid (∀ V, Below E.heap.size E V → V.cell? ⟨w.heap.size, 6, none⟩ = some (.int .u64 r.h) ∧ V.cell? ⟨w.heap.size, 7, none⟩ = some (.int .u64 r.tnt) ∧ V.cell? ⟨w.heap.size, 8, none⟩ = some (.int .u64 r.id) ∧ V.cell? ⟨w.heap.size, 9, none⟩ = some (.slice ta r.tens.length tc)) := fun V hV => (HCl.out _ (HBe.out.trans (hV.mono HBe.out.size))).2.2.2.2.2.2
          have HE := Lib.hid hE
          clear hI hB hw hok hQ0 hQ1 hQ2 hQ3 hTT hE
          go_wp2_with fail
          refine wp_region_held_drew (S := fun w' => w'.cell? ⟨w.heap.size, 6, none⟩ = some (.int .u64 r.h) ∧ w'.cell? ⟨w.heap.size, 7, none⟩ = some (.int .u64 r.tnt) ∧ w'.cell? ⟨w.heap.size, 8, none⟩ = some (.int .u64 r.id) ∧ w'.cell? ⟨w.heap.size, 9, none⟩ = some (.slice ta r.tens.length tc)) (by kernel_rfl) (by rw [HE.out]; exact HS8.out E (Below.refl _ _)) (fun hS => ?_)
          rw [HE.out] at hS ⊢
          refine wpAnyH_take (i := 0) (v := ?_) rfl (by kernel_rfl) (by kernel_rfl) (by kernel_rfl) (fun _ _ _ h => h) (Or.inl ⟨by rfl, ?_⟩) (by assumption) ?_
          rotate_left
          ·intro w hSw; go_simp; with_reducible rfl
          refine wpAnyH_take (i := 1) (v := ?_) rfl (by kernel_rfl) (by kernel_rfl) (by kernel_rfl) (fun _ _ _ h => h) (Or.inl ⟨by rfl, ?_⟩) (by assumption) ?_
          rotate_left
          ·intro w hSw; go_simp; with_reducible rfl
          refine wpAnyH_take (i := 2) (v := ?_) rfl (by kernel_rfl) (by kernel_rfl) (by kernel_rfl) (fun _ _ _ h => h) (Or.inl ⟨by rfl, ?_⟩) (by assumption) ?_
          rotate_left
          ·intro w hSw; go_split_ands; go_simp; with_reducible rfl
          refine wpAnyH_take (i := 5) (v := ?_) rfl (by kernel_rfl) (by kernel_rfl) (by kernel_rfl) (fun _ _ _ h => h) (Or.inl ⟨by rfl, ?_⟩) (by assumption) ?_
          rotate_left
          ·intro w hSw; go_simp; with_reducible rfl
          refine wpAnyH_take (i := 6) (v := ?_) rfl (by kernel_rfl) (by kernel_rfl) (by kernel_rfl) (fun _ _ _ h => h) (Or.inl ⟨by rfl, ?_⟩) (by assumption) ?_
          rotate_left
          ·intro w hSw; go_split_ands; go_simp; with_reducible rfl
          refine wpAnyH_take (i := 9) (v := ?_) rfl (by kernel_rfl) (by kernel_rfl) (by kernel_rfl) (fun _ _ _ h => h) (Or.inl ⟨by rfl, ?_⟩) (by assumption) ?_
          rotate_left
          ·intro w hSw; go_simp; with_reducible rfl
          refine wpAnyH_take (i := 10) (v := ?_) rfl (by kernel_rfl) (by kernel_rfl) (by kernel_rfl) (fun _ _ _ h => h) (Or.inl ⟨by rfl, ?_⟩) (by assumption) ?_
          rotate_left
          ·intro w hSw; go_split_ands; go_simp; with_reducible rfl
          refine wpAnyH_take (i := 13) (v := ?_) rfl (by kernel_rfl) (by kernel_rfl) (by kernel_rfl) (fun _ _ _ h => h) (Or.inl ⟨by rfl, ?_⟩) (by assumption) ?_
          rotate_left
          ·intro w hSw; go_simp; with_reducible rfl
          refine wpAnyH_take (i := 14) (v := ?_) rfl (by kernel_rfl) (by kernel_rfl) (by kernel_rfl) (fun _ _ _ h => h) (Or.inl ⟨by rfl, ?_⟩) (by assumption) ?_
          rotate_left
          ·intro w hSw; go_split_ands; go_simp; with_reducible rfl
          refine wpAnyH_take (i := 15) (v := ?_) rfl (by kernel_rfl) (by kernel_rfl) (by kernel_rfl) (fun _ _ _ h => h) (Or.inl ⟨by rfl, ?_⟩) (by assumption) ?_
          rotate_left
          ·intro w hSw; go_simp; with_reducible rfl
          refine wpAnyH_ready (rs := [3]) (by kernel_rfl) (by simp) ?_
          refine AllReadyH.cons rfl (fun K hK => ?_) ?_
          ·go_simp
           refine (HQ0.out _).mono ?_
           rintro e z1 ⟨rfl, hb⟩
           have HEz1 : Hid (Below E.heap.size E z1) := hb
           clear hb
           refine hK.out _ _ ?_ (fun hS2 => ?_)
           ·exact HS8.out _ HEz1.out
           clear hK K hS
           have hS := hS2
           clear hS2
           refine wpAnyH_take (i := 4) (v := ?_) rfl (by kernel_rfl) (by kernel_rfl) (by kernel_rfl) (fun _ _ _ h => h) (Or.inl ⟨by rfl, ?_⟩) (by assumption) ?_
           rotate_left
           ·intro w hSw; go_simp; with_reducible rfl
           refine wpAnyH_ready (rs := [7]) (by kernel_rfl) (by simp) ?_
           refine AllReadyH.cons rfl (fun K hK => ?_) ?_
           ·go_simp
            refine (HQ1.out _).mono ?_
            rintro e z2 ⟨rfl, hb⟩
            have HEz2 : Hid (Below E.heap.size E z2) := HEz1.out.trans (hb.mono HEz1.out.size)
            clear hb
            refine hK.out _ _ ?_ (fun hS2 => ?_)
            ·exact HS8.out _ HEz2.out
            clear hK K hS
            have hS := hS2
            clear hS2
            refine wpAnyH_take (i := 8) (v := ?_) rfl (by kernel_rfl) (by kernel_rfl) (by kernel_rfl) (fun _ _ _ h => h) (Or.inl ⟨by rfl, ?_⟩) (by assumption) ?_
            rotate_left
            ·intro w hSw; go_simp; with_reducible rfl
            refine wpAnyH_ready (rs := [11]) (by kernel_rfl) (by simp) ?_
            refine AllReadyH.cons rfl (fun K hK => ?_) ?_
            ·go_simp
             refine (HQ2.out _).mono ?_
             rintro e z3 ⟨rfl, hb⟩
             have HEz3 : Hid (Below E.heap.size E z3) := HEz2.out.trans (hb.mono HEz2.out.size)
             clear hb
             refine hK.out _ _ ?_ (fun hS2 => ?_)
             ·exact HS8.out _ HEz3.out
             clear hK K hS
             have hS := hS2
             clear hS2
             refine wpAnyH_take (i := 12) (v := ?_) rfl (by kernel_rfl) (by kernel_rfl) (by kernel_rfl) (fun _ _ _ h => h) (Or.inl ⟨by rfl, ?_⟩) (by assumption) ?_
             rotate_left
             ·intro w hSw; go_simp; with_reducible rfl
             refine wpAnyH_ready (rs := [16]) (by kernel_rfl) (by simp) ?_
             refine AllReadyH.cons rfl (fun K hK => ?_) ?_
             ·go_simp
              refine (HQ3.out _).mono ?_
              rintro e z4 ⟨rfl, hb⟩
              have HEz4 : Hid (Below E.heap.size E z4) := HEz3.out.trans (hb.mono HEz3.out.size)
              clear hb
              refine hK.out _ _ ?_ (fun hS2 => ?_)
              ·exact HS8.out _ HEz4.out
              clear hK K hS
              have hS := hS2
              clear hS2
              refine wpAnyH_take (i := 17) (v := ?_) rfl (by kernel_rfl) (by kernel_rfl) (by kernel_rfl) (fun _ _ _ h => h) (Or.inl ⟨by rfl, ?_⟩) (by assumption) ?_
              rotate_left
              ·intro w hSw; go_simp; with_reducible rfl
              refine wpAnyH_ready (rs := [18]) (by kernel_rfl) (by simp) ?_
              refine AllReadyH.cons rfl (fun K hK => ?_) ?_
              ·go_simp
               refine hK.out _ _ ?_ (fun hS2 => ?_)
               ·exact hS
               clear hK K hS
               have hS := hS2
               clear hS2
               refine wpAnyH_done (by kernel_rfl) ?_ _
               have HB8 : Hid (Below W.heap.size W z4) := HBe.out.trans (HEz4.out.mono HBe.out.size)
               have HT0 : Hid (T ++ Q0 ++ Q1 ++ Q2 ++ Q3 = rqS2 r) := HT2.out
               rw [HT0.out]
               have d9 := (HCl.out _ HB8.out).2.2.2.2.2.2.2.2.2
               clear hS m1 m2 m3 m4 HT0 HT2 hTz q0 q1 q2 q3
               have hz := HZ2.out
               go_wp2_with fail
               go_loopw [4, 6] (fun s i wr => ∃ k : Nat, s = .string (rqS3 r k) ∧ i = .int .i64 k ∧ k ≤ r.tens.length ∧ Hid (Below W.heap.size W wr)) (fun _ i _ => r.tens.length - (intOf i).toNat)
               case atStart => exact ⟨0, rfl, rfl, Nat.zero_le _, HB8.out⟩
               case round =>
                obtain ⟨j, rfl, rfl, hj, HBj⟩ := hrel
                obtain ⟨-, hT, hB, hw, hok⟩ := HSL.out
                have d9 := (HCl.out _ HBj.out).2.2.2.2.2.2.2.2.2
                by_cases hlt : j < r.tens.length
                ·obtain ⟨x, b1, o1, hx, rfl, hb1, hc1⟩ := (hT.below HBj.out).at hlt
                 have p0 : wr.cell? ⟨b1, o1 + j * 1 + 0, none⟩ = some (.int .u64 x) := hc1 0 (by omega)
                 simp only [Nat.mul_one, Nat.add_zero] at p0
                 have i0 : (0 : Int) ≤ (j : Int) := by omega
                 have i1 : (j : Int) < (r.tens.length : Int) := by omega
                 have hU := hw.tens x (List.mem_of_getElem? hx)
                 have hTz := rqS3_size hok j hj
                 have hQz := putR_size x
                 have hst := rqS3_step r hx
                 obtain ⟨Q, hQ⟩ : ∃ Q, putR x = Q := ⟨_, rfl⟩
                 obtain ⟨T, hTT⟩ : ∃ T, rqS3 r j = T := ⟨_, rfl⟩
                 have HQ := Lib.hid (refPut_any x hU wr)
                 rw [hQ] at HQ hst hQz
                 rw [hTT] at hst hTz ⊢
                 have m1 : ¬ 9223372036854775807 < T.size + Q.size := by omega
                 have HT3 := Lib.hid hst
                 clear hc1 hx hb1 hT hB hw hok hU hTz hQz hst hQ hTT
                 go_wp2_with fail
                 refine HQ.out.mono ?_
                 rintro e y1 ⟨rfl, hb⟩
                 have HBy : Hid (Below W.heap.size W y1) := HBj.out.trans (hb.mono HBj.out.size)
                 clear hb
                 go_wp2_with fail
                 exact ⟨⟨j + 1, by rw [HT3.out], by go_num, by omega, HBy.out⟩, by simp [intOf]; omega⟩
                ·obtain rfl : j = r.tens.length := by omega
                 have HF : Hid (Below w.heap.size w wr) := hB.trans (HBj.out.mono hB.size)
                 clear hT hB hw hok
                 go_wp2_with fail
                 go_ret2
                 exact ⟨rfl, HF.out⟩
              exact AllReadyH.nil
             exact AllReadyH.nil
            exact AllReadyH.nil
           exact AllReadyH.nil
          exact AllReadyH.nil
       exact AllReadyH.nil
      exact AllReadyH.nil
     exact AllReadyH.nil
    exact AllReadyH.nil
   exact AllReadyH.nil
  exact AllReadyH.nil
 exact AllReadyH.nil
end Go.Proofs.YtpklkhgnjbopnaaGreatDoor
namespace Go.Proofs.YtpklkhgnjbopnaaGreatDoor
open Go Go.RowKit Go.Shelf
set_option maxRecDepth 100000 in
set_option maxHeartbeats 1000000 in
theorem ref20_Req_eq (r : Rq) (ia : Option Addr) (ic : Nat) (ta : Option Addr) (tc : Nat) (ja : Option Addr) (jc : Nat) (ka : Option Addr) (kc : Nat) (w : World) (hw : r.Wf) (hI : SlE encIt 2 w.heap.size w ia r.items.length r.items) (hT : SlE encU 1 w.heap.size w ta r.tens.length r.tens) (hJ : SlE encIt 2 w.heap.size w ja r.items.length r.items) (hK : SlE encU 1 w.heap.size w ka r.tens.length r.tens) (hok : r.ok = true) :
  CR 30 #[.agg (rqV r ia ic ta tc), .agg (rqV r ja jc ka kc)] w (.bool true) := by
 obtain ⟨W, hW, hX, hY, hB, hsz⟩ := boxes2 w (rqV r ia ic ta tc) 56 (rqV r ja jc ka kc) 56
 have HP := Lib.hid (ref20_PutReq_ok r ia ic ta tc W hw (hI.go hB) (hT.go hB) hok)
 have HQ := Lib.hid fun V (hV : Below W.heap.size W V) => ref20_PutReq_ok r ja jc ka kc V hw ((hJ.go hB).go hV) ((hK.go hB).go hV) hok
 unfold rqV at hX hY hW HP HQ ⊢
 obtain ⟨c0, c1, c2, c3, c4, c5, c6, c7, c8, c9⟩ := cl10 hX
 have HY : Hid (∀ V, Below W.heap.size W V → V.heap[w.heap.size + 1]? = some (.cells #[.int .i64 r.op, .int .u64 r.now, .string r.labels, .string r.scope, .int .i64 r.kind, .slice ja r.items.length jc, .int .u64 r.h, .int .u64 r.tnt, .int .u64 r.id, .slice ka r.tens.length kc] 56 (0, 0))) := fun V hV => known hV (Nat.le_refl _) hY
 have HBW := Lib.hid hB
 obtain ⟨S, hS⟩ : ∃ S, rqS3 r r.tens.length = S := ⟨_, rfl⟩
 rw [hS] at HP HQ
 clear hX hY hB hsz hI hT hJ hK hw hok hS
 go_enter Tryz.func30, Tryz.ntmps30
 go_wp2_with fail
 refine HP.out.mono ?_
 rintro e w1 ⟨rfl, hb⟩
 have hY1 := HY.out _ hb
 obtain ⟨d0, d1, d2, d3, d4, d5, d6, d7, d8, d9⟩ := cl10 hY1
 have HQ1 := Lib.hid (HQ.out _ hb)
 have HB1 : Hid (Below w.heap.size w w1) := HBW.out.trans (hb.mono HBW.out.size)
 clear hb hY1 c0 c1 c2 c3 c4 c5 c6 c7 c8 c9
 go_wp2_with fail
 refine HQ1.out.mono ?_
 rintro e w2 ⟨rfl, hb⟩
 have HB2 : Hid (Below w.heap.size w w2) := HB1.out.trans (hb.mono HB1.out.size)
 clear hb
 go_wp2_with fail
 go_ret
 exact ⟨rfl, HB2.out⟩
end Go.Proofs.YtpklkhgnjbopnaaGreatDoor
namespace Go.Proofs.YtpklkhgnjbopnaaGreatDoor
open Go Go.RowKit Go.Shelf
def cutS (n : Nat) (s : ByteArray) : ByteArray := s.extract 0 (min s.size n)
theorem cutS_size (n : Nat) (s : ByteArray) : (cutS n s).size ≤ n := by unfold cutS; rw [ByteArray.size_extract]; omega
theorem cut20_any (s : ByteArray) (w : World) : Calls Tryz.prog 9 #[.string s] w fun e w' => e = .returned (.string (cutS 2010 s)) ∧ w' = w := by
 have hm : (min (s.size : Int) 2010).toNat = min s.size 2010 := by omega
 unfold cutS
 go_enter Tryz.func9, Tryz.ntmps9
 go_wp2_with fail
 go_ret
 exact ⟨rfl, rfl⟩
def fewRq (r : Rq) : Rq := { r with labels := cutS 410 r.labels, scope := cutS 410 r.scope, items := r.items.take 52, tens := r.tens.take 10 }
theorem take_u64s (a : Option Addr) (len cap m : Nat) (w : World) (h : m ≤ cap) : (Instr.slice 54 (.slice a len cap) none (some (.int .i64 (m : Int))) none).run Tryz.prog w = .ok (.slice a m cap) w := by
 have hz := dropA_zero a cap 1
 unfold dropA at hz
 have hs : (sizeOf 22).run Tryz.prog w = .ok 1 w := by kernel_rfl
 have he : Tryz.prog.elem 54 = 22 := by kernel_rfl
 rw [run_slice_h (t := 54) (a := a) (len := len) (cap := cap) (w := w) (ht := by rw [he]; exact und_u64) (kh := .i64) (h := (m : Int)) (by omega) (by omega), he, hs]
 simp only [Result.andThen, sliced, Int.toNat_natCast, Nat.sub_zero, hz]
set_option maxRecDepth 100000 in
set_option maxHeartbeats 2000000 in
theorem Few20_any (r : Rq) (ia : Option Addr) (ic : Nat) (ta : Option Addr) (tc : Nat) (w : World) (hic : r.items.length ≤ ic) (htc : r.tens.length ≤ tc) :
  CR 17 #[.agg (rqV r ia ic ta tc)] w (.agg (rqV (fewRq r) ia ic ta tc)) := by
 obtain ⟨m1, hm1⟩ : ∃ m, min r.labels.size 410 = m := ⟨_, rfl⟩
 obtain ⟨m2, hm2⟩ : ∃ m, min r.scope.size 410 = m := ⟨_, rfl⟩
 obtain ⟨m3, hm3⟩ : ∃ m, min r.items.length 52 = m := ⟨_, rfl⟩
 obtain ⟨m4, hm4⟩ : ∃ m, min r.tens.length 10 = m := ⟨_, rfl⟩
 have e1 : (min (r.labels.size : Int) 410).toNat = m1 := by omega
 have e2 : (min (r.scope.size : Int) 410).toNat = m2 := by omega
 have e3 : min (r.items.length : Int) 52 = (m3 : Int) := by omega
 have e4 : min (r.tens.length : Int) 10 = (m4 : Int) := by omega
 have t3 := fun W => take_items ia r.items.length ic m3 W (by omega)
 have t4 := fun W => take_u64s ta r.tens.length tc m4 W (by omega)
 have hR : rqV (fewRq r) ia ic ta tc = #[.int .i64 r.op, .int .u64 r.now, .string (r.labels.extract 0 m1), .string (r.scope.extract 0 m2), .int .i64 r.kind, .slice ia m3 ic, .int .u64 r.h, .int .u64 r.tnt, .int .u64 r.id, .slice ta m4 tc] := by
  unfold rqV fewRq cutS
  dsimp only
  rw [hm1, hm2, List.length_take, List.length_take, Nat.min_comm 52, Nat.min_comm 10, hm3, hm4]
 rw [hR]
 obtain ⟨L, hL⟩ : ∃ L, r.labels.extract 0 m1 = L := ⟨_, rfl⟩
 obtain ⟨S, hS⟩ : ∃ S, r.scope.extract 0 m2 = S := ⟨_, rfl⟩
 rw [hL, hS]
 obtain ⟨W, hW, hX0, hX1, hB, hsz⟩ := boxes2 w (rqV r ia ic ta tc) 56 #[.int .i64 0, .int .u64 0, .string ⟨#[]⟩, .string ⟨#[]⟩, .int .i64 0, .slice none 0 0, .int .u64 0, .int .u64 0, .int .u64 0, .slice none 0 0] 56
 unfold rqV at hX0 hW ⊢
 obtain ⟨c0, c1, c2, c3, c4, c5, c6, c7, c8, c9⟩ := cl10 hX0
 have f2 : W.frozen? ⟨w.heap.size, 2, none⟩ = false := cFz hX0 2
 have K0 : Below w.heap.size w W ∧ W.heap[w.heap.size + 1]? = some (.cells #[.int .i64 0, .int .u64 0, .string ⟨#[]⟩, .string ⟨#[]⟩, .int .i64 0, .slice none 0 0, .int .u64 0, .int .u64 0, .int .u64 0, .slice none 0 0] 56 (0, 0)) := ⟨hB, hX1⟩
 obtain ⟨Y0, hY0e⟩ : ∃ V, W.setCell ⟨w.heap.size, 2, none⟩ (.string L) = V := ⟨_, rfl⟩
 have hY0 : Y0.heap[w.heap.size]? = some (.cells #[.int .i64 r.op, .int .u64 r.now, .string L, .string r.scope, .int .i64 r.kind, .slice ia r.items.length ic, .int .u64 r.h, .int .u64 r.tnt, .int .u64 r.id, .slice ta r.tens.length tc] 56 (0, 0)) := by rw [← hY0e]; exact hSk hX0 _
 have K1 : Below w.heap.size w Y0 ∧ Y0.heap[w.heap.size + 1]? = some (.cells #[.int .i64 0, .int .u64 0, .string ⟨#[]⟩, .string ⟨#[]⟩, .int .i64 0, .slice none 0 0, .int .u64 0, .int .u64 0, .int .u64 0, .slice none 0 0] 56 (0, 0)) := by rw [← hY0e]; exact ⟨K0.1.setCell (p := ⟨w.heap.size, 2, none⟩) (Nat.le_refl _) _, (Below.heap_setCell _ _ _ _ (by show w.heap.size + 1 ≠ w.heap.size; omega)).trans K0.2⟩
 have y0_3 : Y0.cell? ⟨w.heap.size, 3, none⟩ = some (.string r.scope) := cCc hY0 3
 have g0 : Y0.frozen? ⟨w.heap.size, 3, none⟩ = false := cFz hY0 3
 obtain ⟨Y1, hY1e⟩ : ∃ V, Y0.setCell ⟨w.heap.size, 3, none⟩ (.string S) = V := ⟨_, rfl⟩
 have hY1 : Y1.heap[w.heap.size]? = some (.cells #[.int .i64 r.op, .int .u64 r.now, .string L, .string S, .int .i64 r.kind, .slice ia r.items.length ic, .int .u64 r.h, .int .u64 r.tnt, .int .u64 r.id, .slice ta r.tens.length tc] 56 (0, 0)) := by rw [← hY1e]; exact hSk hY0 _
 have K2 : Below w.heap.size w Y1 ∧ Y1.heap[w.heap.size + 1]? = some (.cells #[.int .i64 0, .int .u64 0, .string ⟨#[]⟩, .string ⟨#[]⟩, .int .i64 0, .slice none 0 0, .int .u64 0, .int .u64 0, .int .u64 0, .slice none 0 0] 56 (0, 0)) := by rw [← hY1e]; exact ⟨K1.1.setCell (p := ⟨w.heap.size, 3, none⟩) (Nat.le_refl _) _, (Below.heap_setCell _ _ _ _ (by show w.heap.size + 1 ≠ w.heap.size; omega)).trans K1.2⟩
 have y1_5 : Y1.cell? ⟨w.heap.size, 5, none⟩ = some (.slice ia r.items.length ic) := cCc hY1 5
 have g1 : Y1.frozen? ⟨w.heap.size, 5, none⟩ = false := cFz hY1 5
 obtain ⟨Y2, hY2e⟩ : ∃ V, Y1.setCell ⟨w.heap.size, 5, none⟩ (.slice ia m3 ic) = V := ⟨_, rfl⟩
 have hY2 : Y2.heap[w.heap.size]? = some (.cells #[.int .i64 r.op, .int .u64 r.now, .string L, .string S, .int .i64 r.kind, .slice ia m3 ic, .int .u64 r.h, .int .u64 r.tnt, .int .u64 r.id, .slice ta r.tens.length tc] 56 (0, 0)) := by rw [← hY2e]; exact hSk hY1 _
 have K3 : Below w.heap.size w Y2 ∧ Y2.heap[w.heap.size + 1]? = some (.cells #[.int .i64 0, .int .u64 0, .string ⟨#[]⟩, .string ⟨#[]⟩, .int .i64 0, .slice none 0 0, .int .u64 0, .int .u64 0, .int .u64 0, .slice none 0 0] 56 (0, 0)) := by rw [← hY2e]; exact ⟨K2.1.setCell (p := ⟨w.heap.size, 5, none⟩) (Nat.le_refl _) _, (Below.heap_setCell _ _ _ _ (by show w.heap.size + 1 ≠ w.heap.size; omega)).trans K2.2⟩
 have y2_9 : Y2.cell? ⟨w.heap.size, 9, none⟩ = some (.slice ta r.tens.length tc) := cCc hY2 9
 have g2 : Y2.frozen? ⟨w.heap.size, 9, none⟩ = false := cFz hY2 9
 obtain ⟨Y3, hY3e⟩ : ∃ V, Y2.setCell ⟨w.heap.size, 9, none⟩ (.slice ta m4 tc) = V := ⟨_, rfl⟩
 have hY3 : Y3.heap[w.heap.size]? = some (.cells #[.int .i64 r.op, .int .u64 r.now, .string L, .string S, .int .i64 r.kind, .slice ia m3 ic, .int .u64 r.h, .int .u64 r.tnt, .int .u64 r.id, .slice ta m4 tc] 56 (0, 0)) := by rw [← hY3e]; exact hSk hY2 _
 have K4 : Below w.heap.size w Y3 ∧ Y3.heap[w.heap.size + 1]? = some (.cells #[.int .i64 0, .int .u64 0, .string ⟨#[]⟩, .string ⟨#[]⟩, .int .i64 0, .slice none 0 0, .int .u64 0, .int .u64 0, .int .u64 0, .slice none 0 0] 56 (0, 0)) := by rw [← hY3e]; exact ⟨K3.1.setCell (p := ⟨w.heap.size, 9, none⟩) (Nat.le_refl _) _, (Below.heap_setCell _ _ _ _ (by show w.heap.size + 1 ≠ w.heap.size; omega)).trans K3.2⟩
 obtain ⟨y3_0, y3_1, y3_2, y3_3, y3_4, y3_5, y3_6, y3_7, y3_8, y3_9⟩ := cl10 hY3
 have hRX := K4.2
 obtain ⟨rf0, rf1, rf2, rf3, rf4, rf5, rf6, rf7, rf8, rf9⟩ := cz10 hRX
 obtain ⟨rc0, rc1, rc2, rc3, rc4, rc5, rc6, rc7, rc8, rc9⟩ := cl10 hRX
 obtain ⟨U, hU, hUX, hUB, -⟩ := stor10 (.int .i64 r.op) (.int .u64 r.now) (.string L) (.string S) (.int .i64 r.kind) (.slice ia m3 ic) (.int .u64 r.h) (.int .u64 r.tnt) (.int .u64 r.id) (.slice ta m4 tc) hRX K4.1 (Nat.le_succ _)
 obtain ⟨u0, u1, u2, u3, u4, u5, u6, u7, u8, u9⟩ := cl10 hUX
 have HF := Lib.hid hUB
 clear hX0 hX1 hB hsz K0 K1 K2 K3 K4 hY0 hY1 hY2 hY3 hRX hUX hUB hm1 hm2 hm3 hm4 hR hic htc
 go_enter Tryz.func17, Tryz.ntmps17
 go_wp2_with fail
 exact bodyPost_ret (v := .agg #[.int .i64 r.op, .int .u64 r.now, .string L, .string S, .int .i64 r.kind, .slice ia m3 ic, .int .u64 r.h, .int .u64 r.tnt, .int .u64 r.id, .slice ta m4 tc]) (by simp [results, Tryz.results17, go_sem, u0, u1, u2, u3, u4, u5, u6, u7, u8, u9]) rfl ⟨rfl, HF.out⟩
end Go.Proofs.YtpklkhgnjbopnaaGreatDoor
namespace Go.Proofs.YtpklkhgnjbopnaaGreatDoor
open Go Go.RowKit Go.Shelf
attribute [local go_sem] Oper.semAt_some
theorem frames_any (s : ByteArray) (w : World) : Calls Tryz.prog 71 #[.string s] w fun e w' => e = .returned (.func (.func 98) #[] #[.pointer (some ⟨w.heap.size, 0, none⟩)]) ∧ w' = w.alloc (.cells #[.string s] 9) := by
 go_enter Tryz.func71, Tryz.ntmps71
 go_wp2
 go_ret
 exact ⟨rfl, rfl⟩
structure Told where
 body : ByteArray
 left : ByteArray
 err : Value
def Told.enc (x : Told) : Array Value := #[.agg #[.string x.body, .string x.left], x.err]
def NextOf (t : ByteArray) (x : Told) (W : World) : Prop := match rdF t.data.toList with
 | .got b r => x.body = ⟨b.toArray⟩ ∧ x.left = ⟨r.toArray⟩ ∧ x.err = .nilIface
 | .err no => x.body = ⟨#[]⟩ ∧ x.left = t ∧ Fr.FaultAt W x.err no
def lastOf (s : ByteArray) (pre : List Told) : ByteArray := match pre.getLast? with
 | none => s
 | some x => x.left
theorem lastOf_snoc (s : ByteArray) (pre : List Told) (x : Told) : lastOf s (pre ++ [x]) = x.left := by simp [lastOf]
def NxE (s : ByteArray) (pre : List Told) (x : Told) (W : World) : Prop := NextOf (lastOf s pre) x W
def FinE (xs : List Told) : Prop := ∃ pre x, xs = pre ++ [x] ∧ x.err ≠ .nilIface
theorem below_grown {W W' : World} (h : Below W.heap.size W W') : W.grownBy W' none := ⟨h.os, h.tape, h.output, h.size, fun k hk _ => h.block k hk⟩
def Keep0 (n b : Nat) : World → World → Prop := Kept (fun k => k < n ∨ k = b)
def sizeAt (b : Nat) (W : World) : Nat := match W.cell? ⟨b, 0, none⟩ with
 | some (.string t) => t.size
 | _ => 0
theorem sizeAt_of {b : Nat} {W : World} {t : ByteArray} (h : Boxed W b 9 (.string t)) : sizeAt b W = t.size := by unfold sizeAt; rw [h.cell]
set_option maxRecDepth 100000 in
set_option maxHeartbeats 2000000 in
theorem each_stops (b : Nat) (s : ByteArray) (fm ff : Addr) (w0 w : World) (hE : GF fm ff w0) (hB : Below w0.heap.size w0 w) (hb0 : w0.heap.size ≤ b) (hb : Boxed w b 9 (.string s)) (hz : s.size < 4294967281) :
  SeqStopsE Tryz.prog 98 #[.pointer (some ⟨b, 0, none⟩)] Told.enc (Keep0 w0.heap.size b) b (NxE s) FinE (fun _ => True) w := by
 intro l J Jx W hW hJ hJx hY h0
 have hb1 : Boxed W b 9 (.string s) := (hW.block _ hb.lt).trans hb
 have hB1 : Below w0.heap.size w0 W := hB.trans (hW.mono hB.size)
 have HJ := Lib.hid hJ
 have HY := Lib.hid hY
 clear hb hB hW hJ hJx hY
 refine callsIn_of_wp Tryz.func98 rfl trivial ?_ rfl
 simp only [Tryz.ntmps98, List.size_toArray, List.length_cons, List.length_nil, Nat.reduceAdd, Nat.reduceSub, Array.replicate_succ, Array.replicate_zero, List.push_toArray, List.append_toArray, List.nil_append, List.cons_append]
 gi_wp2
 gi_loopw [] (fun wr => ∃ (cur : ByteArray) (pre : List Told), Hid (Boxed wr b 9 (.string cur)) ∧ Hid (J pre wr) ∧ Hid (cur = lastOf s pre) ∧ Hid (Below w0.heap.size w0 wr) ∧ Hid (W.heap.size ≤ wr.heap.size) ∧ cur.size < 4294967281) (fun wr => sizeAt b wr)
 case atStart => exact ⟨s, [], hb1, h0, rfl, hB1, Nat.le_refl _, hz⟩
 case round =>
  obtain ⟨cur, pre, hbc, hJp, hcur, hBr, hsz, hcz⟩ := hrel
  have c0 := hbc.out.cell
  have HR := Lib.hid (frRead_any cur fm ff wr hcz (hE.below hBr.out))
  gi_wp2_with fail
  refine ⟨trivial, (callsIn_wide.2 HR.out).mono ?_⟩
  rintro e w1 ⟨hb, hp⟩
  have hJ1 : J pre w1 := HJ.out _ _ _ none hJp.out (below_grown hb) (fun _ h => by cases h) hsz.out
  have hs1 : W.heap.size ≤ w1.heap.size := Nat.le_trans hsz.out hb.size
  have hbx : Boxed w1 b 9 (.string cur) := (hb.block _ hbc.out.lt).trans hbc.out
  have hB1' : Below w0.heap.size w0 w1 := hBr.out.trans (hb.mono hBr.out.size)
  have hcl := hcur.out
  have hlen : cur.data.toList.length = cur.size := Array.length_toList
  obtain ⟨o, ho⟩ : ∃ o, rdF cur.data.toList = o := ⟨_, rfl⟩
  rw [ho] at hp
  clear HR c0 hb hJp hsz hBr
  cases o with
  | got bd r =>
   obtain rfl : e = _ := hp
   have hx : NxE s pre ⟨⟨bd.toArray⟩, ⟨r.toArray⟩, .nilIface⟩ w1 := by unfold NxE NextOf; rw [← hcl, ho]; exact ⟨rfl, rfl, rfl⟩
   have hy := HY.out pre _ w1 hJ1 hx hs1
   unfold Told.enc at hy
   dsimp only at hy
   obtain ⟨fn, tmps, assign, body, hy, hR⟩ := hy
   have hr := rdF_len ho
   have hLs : lastOf s (pre ++ [⟨⟨bd.toArray⟩, ⟨r.toArray⟩, .nilIface⟩]) = ⟨r.toArray⟩ := lastOf_snoc s pre _
   have HLs := Lib.hid hLs
   have HX := Lib.hid (And.intro hbx (And.intro hB1' (And.intro hs1 (And.intro hlen hr))))
   clear hx hJ1 hs1 hbx hB1' hcl hlen hr ho hLs
   gi_wp2_with fail
   refine hR.mono ?_
   rintro e W3 (⟨rfl, hJ3, hk3, hz3⟩ | ⟨rfl, hJx3, hz3⟩)
   ·obtain ⟨hbx, hB1', hs1, hlen, hr⟩ := HX.out
    have hb3 : Boxed W3 b 9 (.string cur) := hk3.known (.inr rfl) hbx
    have hB3 : Below w0.heap.size w0 W3 := hB1'.trans (hk3.below (fun k hk => .inl hk) hB1'.size)
    have d0 := hb3.cell
    have d1 := hb3.frozen
    have HJ3 := Lib.hid hJ3
    have HB3 := Lib.hid hB3
    have HZ3 : Hid (W.heap.size ≤ W3.heap.size) := Nat.le_trans hs1 hz3
    have HM : Hid (r.length < cur.size) := by rw [Hid]; omega
    have HBX := Lib.hid hb3
    clear hy hR hk3 hz3 hJ3 hB3 hb3 HX hbx hB1' hs1 hlen hr
    gi_wp2_with fail
    refine ⟨⟨⟨r.toArray⟩, _, HBX.out.set _, HJ.out _ _ _ (some b) HJ3.out (grownBy_setCell' _ _ _) (fun r e => by cases e; rfl) HZ3.out, HLs.out.symm, HB3.out.setCell (p := ⟨b, 0, none⟩) hb0 _, ?_, ?_⟩, ?_⟩
    ·rw [Hid, World.size_setCell]; exact HZ3.out
    ·have := HM.out; show r.toArray.size < _; rw [List.size_toArray]; omega
    ·rw [sizeAt_of (HBX.out.set _), sizeAt_of hbc.out]; show r.toArray.size < _; rw [List.size_toArray]; exact HM.out
   ·clear hy hR
    gi_wp2_with fail
    refine bodyPost_ret (results_none rfl _ _ _) rfl ?_
    exact ⟨⟨_, rfl⟩, .inr ⟨_, trivial, hJx3⟩⟩
  | err no =>
   obtain ⟨v, rfl, hf⟩ := hp
   have hx : NxE s pre ⟨⟨#[]⟩, cur, v⟩ w1 := by unfold NxE NextOf; rw [← hcl, ho]; exact ⟨rfl, rfl, hf⟩
   have hy := HY.out pre _ w1 hJ1 hx hs1
   unfold Told.enc at hy
   dsimp only at hy
   obtain ⟨fn, tmps, assign, body, hy, hR⟩ := hy
   obtain ⟨fb, rfl, -⟩ := hf
   clear hx hJ1 hs1 hbx hB1' hcl hlen ho
   gi_wp2_with fail
   refine hR.mono ?_
   rintro e W3 (⟨rfl, hJ3, hk3, hz3⟩ | ⟨rfl, hJx3, hz3⟩)
   ·clear hy hR hk3 hz3
    gi_wp2_with fail
    refine bodyPost_ret (results_none rfl _ _ _) rfl ?_
    exact ⟨⟨_, rfl⟩, .inl ⟨_, ⟨_, _, rfl, fun h => by cases h⟩, hJ3⟩⟩
   ·clear hy hR
    gi_wp2_with fail
    refine bodyPost_ret (results_none rfl _ _ _) rfl ?_
    exact ⟨⟨_, rfl⟩, .inr ⟨_, trivial, hJx3⟩⟩
end Go.Proofs.YtpklkhgnjbopnaaGreatDoor
