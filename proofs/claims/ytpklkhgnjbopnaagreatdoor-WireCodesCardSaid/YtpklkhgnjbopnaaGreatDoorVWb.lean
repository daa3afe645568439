/- Package wire: PutReply. -/
import Derived.Test.YtpklkhgnjbopnaaGreatDoorVWa
import Derived.Test.YtpklkhgnjbopnaaGreatDoorVSD
namespace Go.Proofs.YtpklkhgnjbopnaaGreatDoor
open Go Go.RowKit Go.Shelf
def ryV (y : Ry) (na : Option Addr) (nc : Nat) (ea : Option Addr) (ec : Nat) : Array Value := #[.int .i64 y.e, .int .u64 y.n, .slice na y.nots.length nc, .slice ea y.ents.length ec]
def entP (x : Ent) : List UInt8 := numsB [x.seq, x.tm] ++ (putT x.text ++ numsB [x.sum])
theorem entP_len (l : List Ent) : (l.flatMap entP).length ≤ 436 * l.length := by
 induction l with
 | nil => exact Nat.zero_le _
 | cons x l ih =>
  have h1 := (numsB_len [x.seq, x.tm]).2
  have h2 := putT_len x.text
  have h3 := (numsB_len [x.sum]).2
  have h4 : (entP x).length = (numsB [x.seq, x.tm]).length + ((putT x.text).length + (numsB [x.sum]).length) := by unfold entP; rw [List.length_append, List.length_append]
  have e1 : [x.seq, x.tm].length = 2 := rfl
  have e2 : [x.sum].length = 1 := rfl
  rw [List.flatMap_cons, List.length_append, List.length_cons]
  omega
theorem Ry.okD {y : Ry} (h : y.ok = true) : (0 ≤ y.e ∧ y.e ≤ 4611686018427387904) ∧ y.nots.length ≤ 100 ∧ y.ents.length ≤ 100 ∧ (∀ n ∈ y.nots, smallB n = true) ∧ ∀ x ∈ y.ents, x.text.size ≤ 400 := by
 simp only [Ry.ok, Bool.and_eq_true, decide_eq_true_eq, List.all_eq_true] at h
 obtain ⟨⟨⟨⟨h1, h2⟩, h3⟩, h4⟩, h5⟩ := h
 simp only [smallB, Bool.and_eq_true, decide_eq_true_eq] at h1
 exact ⟨h1, h2, h3, h4, h5⟩
theorem Ry.notOk {y : Ry} (h : ¬ ((0 ≤ y.e ∧ y.e ≤ 4611686018427387904) ∧ y.nots.length ≤ 100 ∧ y.ents.length ≤ 100 ∧ (∀ n ∈ y.nots, smallB n = true) ∧ ∀ x ∈ y.ents, x.text.size ≤ 400)) : y.ok = false := by
 cases e : y.ok with
 | false => rfl
 | true => exact absurd (Ry.okD e) h
set_option maxRecDepth 100000 in
set_option maxHeartbeats 4000000 in
theorem PutReply_bad (e n : Int) (na : Option Addr) (nl nc : Nat) (ea : Option Addr) (el ec : Nat) (w : World) (h : e < 0 ∨ 4611686018427387904 < e ∨ 100 < nl ∨ 100 < el) :
  CR 21 #[.agg #[.int .i64 e, .int .u64 n, .slice na nl nc, .slice ea el ec]] w (.tuple #[.string ⟨#[]⟩, .int .i64 200]) := by
 obtain ⟨W0, hW0, hX0, hB0, hs0⟩ := boxes1 w #[.int .i64 e, .int .u64 n, .slice na nl nc, .slice ea el ec] 60
 obtain ⟨c0, c1, c2, c3⟩ := cl4 hX0
 clear hX0
 obtain h | ⟨h1, h⟩ | ⟨h1, h2, h⟩ | ⟨h1, h2, h3, h⟩ : e < 0 ∨ (¬ e < 0 ∧ 4611686018427387904 < e) ∨ (¬ e < 0 ∧ ¬ 4611686018427387904 < e ∧ (100 : Int) < nl) ∨ (¬ e < 0 ∧ ¬ 4611686018427387904 < e ∧ ¬ (100 : Int) < nl ∧ (100 : Int) < el) := by omega
 all_goals
  go_enter Tryz.func21, Tryz.ntmps21
  go_wp2_with fail
  go_ret2
  exact ⟨rfl, hB0⟩
theorem putreply_fin (y : Ry) (e0 : 0 ≤ y.e) (e1 : y.e ≤ 4611686018427387904) (n1 : y.nots.length ≤ 100) (t1 : y.ents.length ≤ 100) (hn : ∀ n ∈ y.nots, smallB n = true) :
  y.ok = !(y.ents.any fun x => decide (400 < x.text.size)) ∧ ((y.ents.any fun x => decide (400 < x.text.size)) = false → [] ++ numsB [y.e, y.n, (y.nots.length : Int)] ++ numsB y.nots ++ numsB [(y.ents.length : Int)] ++ y.ents.flatMap entP = y.B) := by
 have hs : smallB y.e = true := by simp [smallB, e0, e1]
 have hna : y.nots.all smallB = true := List.all_eq_true.2 hn
 refine ⟨?_, fun h => ?_⟩
 ·unfold Ry.ok
  rw [hs, decide_eq_true n1, decide_eq_true t1, hna, Bool.true_and, Bool.true_and, Bool.true_and, Bool.true_and]
  clear e0 e1 n1 t1 hn hs hna
  induction y.ents with
  | nil => rfl
  | cons x l ih =>
   rw [List.all_cons, List.any_cons, ih, Bool.not_or]
   congr 1
   by_cases h : x.text.size ≤ 400
   ·rw [decide_eq_true h, decide_eq_false (by omega)]; rfl
   ·rw [decide_eq_false h, decide_eq_true (by omega)]; rfl
 ·have e2 : ∀ a b : Int, numsB [a, b] = numsB [a] ++ numsB [b] := fun a b => numsB_append [a] [b]
  have e3 : ∀ a b c : Int, numsB [a, b, c] = numsB [a] ++ (numsB [b] ++ numsB [c]) := fun a b c => (numsB_append [a] [b, c]).trans (by rw [e2 b c])
  have e4 : y.ents.flatMap entP = y.ents.flatMap entB := by
   clear e0 e1 n1 t1 hn hs hna
   generalize y.ents = l at h ⊢
   induction l with
   | nil => rfl
   | cons x l ih =>
    rw [List.any_cons, Bool.or_eq_false_iff] at h
    rw [List.flatMap_cons, List.flatMap_cons, ih h.2]
    congr 1
    unfold entP entB putT
    rw [if_neg (by simpa using h.1), e2, List.append_assoc]
  unfold Ry.B
  rw [e4, e3]
  simp only [List.nil_append, List.append_assoc]
set_option maxRecDepth 100000 in
set_option maxHeartbeats 4000000 in
theorem PutReply_in (e n : Int) (nots : List Int) (ents : List Ent) (nl el : Nat) (na : Option Addr) (nc : Nat) (ea : Option Addr) (ec : Nat) (w : World) (e0 : 0 ≤ e) (e1 : e ≤ 4611686018427387904) (n1 : nl ≤ 100) (t1 : el ≤ 100)
  (hn : U64 n) (he : ∀ x ∈ ents, (U64 x.seq ∧ U64 x.tm ∧ U64 x.sum) ∧ x.text.size < 4294967281) (hI : SlE encI 1 w.heap.size w na nl nots) (hE : SlE Ent.enc 4 w.heap.size w ea el ents) :
  CR 21 #[.agg #[.int .i64 e, .int .u64 n, .slice na nl nc, .slice ea el ec]] w (.tuple #[.string (if Ry.ok ⟨e, n, nots, ents⟩ then ⟨(Ry.B ⟨e, n, nots, ents⟩).toArray⟩ else ⟨#[]⟩), .int .i64 (if Ry.ok ⟨e, n, nots, ents⟩ then 0 else 200)]) := by
 obtain ⟨RS, hRS⟩ : ∃ RS : ByteArray, (if Ry.ok ⟨e, n, nots, ents⟩ then (⟨(Ry.B ⟨e, n, nots, ents⟩).toArray⟩ : ByteArray) else ⟨#[]⟩) = RS := ⟨_, rfl⟩
 obtain ⟨RE, hRE⟩ : ∃ RE : Int, (if Ry.ok ⟨e, n, nots, ents⟩ then (0 : Int) else 200) = RE := ⟨_, rfl⟩
 rw [hRS, hRE]
 have HRS := Lib.hid hRS
 have HRE := Lib.hid hRE
 have HFin := Lib.hid (fun h1 h2 h3 => putreply_fin ⟨e, n, nots, ents⟩ e0 e1 h1 h2 h3)
 have HBad : Hid ((∃ m ∈ nots, smallB m = false) → (⟨#[]⟩ : ByteArray) = RS ∧ (200 : Int) = RE) := fun ⟨m, hm, hb⟩ => by
  have h : Ry.ok ⟨e, n, nots, ents⟩ = false := Ry.notOk fun h => by have := h.2.2.2.1 m hm; rw [hb] at this; cases this
  rw [h] at hRS hRE
  exact ⟨hRS, hRE⟩
 clear hRS hRE
 obtain ⟨W0, hW0, hX0, hB0, hs0⟩ := boxes1 w #[.int .i64 e, .int .u64 n, .slice na nl nc, .slice ea el ec] 60
 obtain ⟨c0, c1, c2, c3⟩ := cl4 hX0
 obtain ⟨W1, hW1, hX1, hB1, hs1⟩ := boxes1 W0 #[.pointer none, .slice none 0 0, .bool false] 119
 rw [hs0] at hX1 hB1 hs1
 have hX10 := known hB1 (by omega) hX0
 obtain ⟨d0, d1, d2, d3⟩ := cl4 hX10
 have HZ : Hid (W1.heap.size = w.heap.size + 1 + 1) := hs1
 have P1 : Hid (PQ (w.heap.size + 1) (w.heap.size + 1) [] false W1 W1) := ⟨.inl ⟨Nat.le_refl _, _, hX1, World.ownsRowF_nil _ _ _ _, (by simp [Value.ownBlock])⟩, WK.refl _ _ _⟩
 have HR : Hid (∀ W, WK (w.heap.size + 1) (w.heap.size + 1) W1 W → W.heap[w.heap.size]? = some (.cells #[.int .i64 e, .int .u64 n, .slice na nl nc, .slice ea el ec] 60 (0, 0))) := fun W hk => (hk.1.block _ (by omega)).trans hX10
 have HBw : Hid (∀ W, WK (w.heap.size + 1) (w.heap.size + 1) W1 W → Below w.heap.size w W) := fun W hk => (hB0.trans (hB1.mono (by omega))).trans (hk.1.mono (by omega))
 have HI := Lib.hid hI
 have HE := Lib.hid hE
 have HEn := Lib.hid he
 have HIL := Lib.hid hI.1
 have HEL := Lib.hid hE.1
 clear hX0 hX1 hX10 hs1 hB1 hI hE he
 have hB1' : Hid (w.heap.size + 1 ≤ W1.heap.size) := by rw [Hid, HZ.out]; omega
 go_enter Tryz.func21, Tryz.ntmps21
 go_wp2_with fail
 refine (nums3 e n (nl : Int) P1.out ⟨e0, by omega⟩ hn ⟨by omega, by omega⟩ (Nat.zero_le _) hB1'.out).mono ?_
 rintro e' w2 ⟨rfl, hP2⟩
 have e2 : w2.cell? ⟨w.heap.size, 2, none⟩ = some (.slice na nl nc) := cCc (HR.out w2 hP2.wk) 2
 obtain ⟨b2, hb2⟩ : ∃ b2, ([] ++ numsB [e, n, (nl : Int)]) = b2 := ⟨_, rfl⟩
 have L2 : Hid (b2.length ≤ 27) := by rw [Hid, ← hb2]; exact (numsB_len [e, n, (nl : Int)]).2
 rw [hb2] at hP2
 have P2 := Lib.hid hP2
 have HE2 := Lib.hid hb2
 clear hP2 c0 c1 c2 c3 d0 d1 d2 d3 P1 hb2
 go_wp2_with fail
 go_loopw [44] (fun i wr => ∃ (k : Nat), i = .int .i64 k ∧ k ≤ nl ∧ Hid (PQ (w.heap.size + 1) (w.heap.size + 1) (b2 ++ numsB (nots.take k)) false W1 wr) ∧ Hid (∀ m ∈ nots.take k, smallB m = true)) (fun i _ => nl - (intOf i).toNat)
 case atStart => exact ⟨0, rfl, Nat.zero_le _, by rw [Hid, List.take_zero, show numsB [] = [] from rfl, List.append_nil]; exact P2.out, (fun m h => by simp at h)⟩
 case round =>
  obtain ⟨k, rfl, hk, HP, HS⟩ := hrel
  by_cases hlt : k < nl
  ·obtain ⟨m, hm⟩ : ∃ m, nots[k]? = some m := ⟨_, List.getElem?_eq_getElem (by rw [← HIL.out]; exact hlt)⟩
   obtain ⟨b1, o1, rfl, hbb, hc⟩ := HI.out.2 k m hm
   have hBw := HBw.out wr HP.out.wk
   have c0 : wr.cell? ⟨b1, o1 + k * 1, none⟩ = some (.int .i64 m) := (hBw.cell (p := ⟨b1, o1 + k * 1, none⟩) hbb).trans (hc 0 (by omega))
   rw [Nat.mul_one] at c0
   have HM := Lib.hid hm
   cases hsm : smallB m with
   | false =>
    have HRB := Lib.hid (HBad.out ⟨m, List.mem_of_getElem? hm, hsm⟩)
    have HB9 := Lib.hid hBw
    have hor : m < 0 ∨ (¬ m < 0 ∧ 4611686018427387904 < m) := by
     unfold smallB at hsm
     simp only [Bool.and_eq_false_iff, decide_eq_false_iff_not] at hsm
     omega
    clear hc hm hBw hsm
    rcases hor with h1 | ⟨h1, h2⟩
    ·go_wp2_with fail
     go_ret2
     rw [← HRB.out.1, ← HRB.out.2]
     exact ⟨rfl, HB9.out⟩
    ·go_wp2_with fail
     go_ret2
     rw [← HRB.out.1, ← HRB.out.2]
     exact ⟨rfl, HB9.out⟩
   | true =>
    obtain ⟨hu, hu2⟩ := small_u64 hsm
    have h0 := hu.1
    have HSn : Hid (∀ x ∈ nots.take (k + 1), smallB x = true) := fun x hx => by
     rw [take_snoc' HM.out] at hx
     rcases List.mem_append.1 hx with hx | hx
     ·exact HS.out x hx
     ·rw [List.mem_singleton.1 hx]; exact hsm
    have HN := Lib.hid (nums1 m HP.out hu (by
     have h1 := L2.out
     have h2 := (numsB_len (nots.take k)).2
     rw [List.length_take] at h2
     rw [List.length_append]
     omega) hB1'.out)
    clear hBw hc hm hsm hu
    go_wp2_with fail
    refine HN.out.mono ?_
    rintro e' w6 ⟨rfl, hP6⟩
    have FI : Hid (PQ (w.heap.size + 1) (w.heap.size + 1) (b2 ++ numsB (nots.take (k + 1))) false W1 w6) := by
     rw [Hid, take_snoc' HM.out, numsB_append, ← List.append_assoc]
     exact hP6
    clear hP6 HN
    go_wp2_with fail
    go_roundw
    case rel => exact ⟨k + 1, by go_num, by omega, FI, HSn⟩
    case measure => simp [intOf]; omega
  ·obtain rfl : k = nl := by omega
   have P3 : Hid (PQ (w.heap.size + 1) (w.heap.size + 1) (b2 ++ numsB nots) false W1 wr) := by
    have h := HP.out
    rw [List.take_of_length_le (by rw [← HIL.out]; exact Nat.le_refl _)] at h
    exact h
   have HSm : Hid (∀ m ∈ nots, smallB m = true) := by
    have h := HS.out
    rw [List.take_of_length_le (by rw [← HIL.out]; exact Nat.le_refl _)] at h
    exact h
   have e3 : wr.cell? ⟨w.heap.size, 3, none⟩ = some (.slice ea el ec) := cCc (HR.out wr P3.out.wk) 3
   have L3 : Hid ((b2 ++ numsB nots).length ≤ 930) := by
    have h1 := L2.out
    have h2 := (numsB_len nots).2
    rw [← HIL.out] at h2
    rw [Hid, List.length_append]
    omega
   have HN := Lib.hid (nums1 (el : Int) P3.out ⟨by omega, by omega⟩ (Nat.le_trans L3.out (by omega)) hB1'.out)
   clear HP HS P2 e2
   go_wp2_with fail
   refine HN.out.mono ?_
   rintro e' w5 ⟨rfl, hP5⟩
   have e4 : w5.cell? ⟨w.heap.size, 3, none⟩ = some (.slice ea el ec) := cCc (HR.out w5 hP5.wk) 3
   obtain ⟨b5, hb5⟩ : ∃ b5, b2 ++ numsB nots ++ numsB [(el : Int)] = b5 := ⟨_, rfl⟩
   have L5 : Hid (b5.length ≤ 940) := by
    have h1 := L3.out
    have h2 := (numsB_len [(el : Int)]).2
    rw [Hid, ← hb5, List.length_append]
    have h3 : [(el : Int)].length = 1 := rfl
    omega
   rw [hb5] at hP5
   have P5 := Lib.hid hP5
   have HE5 := Lib.hid hb5
   clear hP5 hb5 HN e3
   go_wp2_with fail
   go_loopw [70] (fun i wr => ∃ (k : Nat), i = .int .i64 k ∧ k ≤ el ∧ Hid (PQ (w.heap.size + 1) (w.heap.size + 1) (b5 ++ (ents.take k).flatMap entP) ((ents.take k).any fun x => decide (400 < x.text.size)) W1 wr)) (fun i _ => el - (intOf i).toNat)
   case atStart => exact ⟨0, rfl, Nat.zero_le _, by rw [Hid, List.take_zero]; simp; exact P5.out⟩
   case round =>
    obtain ⟨k, rfl, hk, HP⟩ := hrel
    by_cases hlt : k < el
    ·obtain ⟨x, hx⟩ : ∃ x, ents[k]? = some x := ⟨_, List.getElem?_eq_getElem (by rw [← HEL.out]; exact hlt)⟩
     obtain ⟨b1, o1, rfl, hbb, hc⟩ := HE.out.2 k x hx
     have hBw := HBw.out wr HP.out.wk
     have c0 : wr.cell? ⟨b1, o1 + k * 4, none⟩ = some (.int .u64 x.seq) := (hBw.cell (p := ⟨b1, o1 + k * 4, none⟩) hbb).trans (hc 0 (by omega))
     have c1 : wr.cell? ⟨b1, o1 + k * 4 + 1, none⟩ = some (.int .u64 x.tm) := (hBw.cell (p := ⟨b1, o1 + k * 4 + 1, none⟩) hbb).trans (hc 1 (by omega))
     have c2 : wr.cell? ⟨b1, o1 + k * 4 + 2, none⟩ = some (.string x.text) := (hBw.cell (p := ⟨b1, o1 + k * 4 + 2, none⟩) hbb).trans (hc 2 (by omega))
     have c3 : wr.cell? ⟨b1, o1 + k * 4 + 3, none⟩ = some (.int .u64 x.sum) := (hBw.cell (p := ⟨b1, o1 + k * 4 + 3, none⟩) hbb).trans (hc 3 (by omega))
     obtain ⟨W6, hW6, hX6, hB6, hs6⟩ := boxes1 wr #[.int .u64 x.seq, .int .u64 x.tm, .string x.text, .int .u64 x.sum] 116
     obtain ⟨d0, d1, d2, d3⟩ := cl4 hX6
     have HX := Lib.hid hx
     have hix := HEn.out x (List.mem_of_getElem? hx)
     have hwz := HP.out.wk.1.size
     have hbW : Hid (w.heap.size + 1 ≤ W6.heap.size) := by have := hB1'.out; rw [Hid]; omega
     have Q6 : PQ (w.heap.size + 1) (w.heap.size + 1) (b5 ++ (ents.take k).flatMap entP) ((ents.take k).any fun x => decide (400 < x.text.size)) W6 W6 := ⟨HP.out.wx.go hB6, WK.refl _ _ _⟩
     have HWk : Hid (∀ W, WK (w.heap.size + 1) (w.heap.size + 1) W6 W → WK (w.heap.size + 1) (w.heap.size + 1) W1 W) := fun W hk => HP.out.wk.trans ((WK.of_below hB6 (by have := hB1'.out; omega)).trans hk)
     have HC : Hid (∀ W, WK (w.heap.size + 1) (w.heap.size + 1) W6 W → W.heap[wr.heap.size]? = some (.cells #[.int .u64 x.seq, .int .u64 x.tm, .string x.text, .int .u64 x.sum] 116 (0, 0))) := fun W hk => hk.2 _ _ hX6 (by have := HP.out.wx.lt; simp; omega) (fun c' fz e => by cases e)
     have LK : Hid ((b5 ++ (ents.take k).flatMap entP).length ≤ 45000) := by
      have h1 := L5.out
      have h2 := entP_len (ents.take k)
      rw [List.length_take] at h2
      rw [Hid, List.length_append]
      omega
     have HN := Lib.hid (nums2 x.seq x.tm Q6 hix.1.1 hix.1.2.1 (Nat.le_trans LK.out (by omega)) hbW.out)
     have HTx := Lib.hid hix.2
     have HSu := Lib.hid hix.1.2.2
     clear hBw hc hx hix hX6 hB6 hs6 hwz Q6
     go_wp2_with fail
     refine HN.out.mono ?_
     rintro e' w7 ⟨rfl, hP7⟩
     have g2 : w7.cell? ⟨wr.heap.size, 2, none⟩ = some (.string x.text) := cCc (HC.out w7 hP7.wk) 2
     have HN7 := Lib.hid (texts1 x.text hP7 HTx.out (by have h1 := (numsB_len [x.seq, x.tm]).2; have h2 := LK.out; have h3 : [x.seq, x.tm].length = 2 := rfl; rw [List.length_append]; omega) hbW.out)
     clear hP7 HN
     go_wp2_with fail
     refine HN7.out.mono ?_
     rintro e' w8 ⟨rfl, hP8⟩
     have g3 : w8.cell? ⟨wr.heap.size, 3, none⟩ = some (.int .u64 x.sum) := cCc (HC.out w8 hP8.wk) 3
     have HN8 := Lib.hid (nums1 x.sum hP8 HSu.out (by have h1 := (numsB_len [x.seq, x.tm]).2; have h2 := LK.out; have h3 : [x.seq, x.tm].length = 2 := rfl; have h4 := putT_len x.text; rw [List.length_append, List.length_append]; omega) hbW.out)
     clear hP8 HN7
     go_wp2_with fail
     refine HN8.out.mono ?_
     rintro e' w9 ⟨rfl, hP9⟩
     have FI : Hid (PQ (w.heap.size + 1) (w.heap.size + 1) (b5 ++ (ents.take (k + 1)).flatMap entP) ((ents.take (k + 1)).any fun x => decide (400 < x.text.size)) W1 w9) := by
      have h1 := hP9.wx
      have e1 : b5 ++ (ents.take (k + 1)).flatMap entP = b5 ++ (ents.take k).flatMap entP ++ numsB [x.seq, x.tm] ++ putT x.text ++ numsB [x.sum] := by
       rw [take_snoc' HX.out, List.flatMap_append]
       simp [entP]
      have e2 : ((ents.take (k + 1)).any fun x => decide (400 < x.text.size)) = (((ents.take k).any fun x => decide (400 < x.text.size)) || decide (400 < x.text.size)) := by rw [take_snoc' HX.out, List.any_append]; simp
      rw [Hid, e1, e2]
      exact ⟨h1, HWk.out w9 hP9.wk⟩
     clear hP9 HN8
     go_wp2_with fail
     go_roundw
     case rel => exact ⟨k + 1, by go_num, by omega, FI⟩
     case measure => simp [intOf]; omega
    ·obtain rfl : k = el := by omega
     have P6 : PQ (w.heap.size + 1) (w.heap.size + 1) (b5 ++ ents.flatMap entP) (ents.any fun x => decide (400 < x.text.size)) W1 wr := by
      have h := HP.out
      rw [List.take_of_length_le (by rw [← HEL.out]; exact Nat.le_refl _)] at h
      exact h
     have HWh := (whole_x (w.heap.size + 1) (w.heap.size + 1) _ _ wr P6.wx (fun h => by
      have h1 := (numsB_len [(k : Int)]).1
      have h2 := congrArg List.length h
      rw [List.length_append, ← HE5.out, List.length_append] at h2
      have h3 : [(k : Int)].length = 1 := rfl
      have h4 : ([] : List UInt8).length = 0 := rfl
      omega))
     have HB8 : Hid (Below w.heap.size w wr) := HBw.out wr P6.wk
     have HEq : (if (ents.any fun x => decide (400 < x.text.size)) then (⟨#[]⟩ : ByteArray) else ⟨(b5 ++ ents.flatMap entP).toArray⟩) = RS ∧ (if (ents.any fun x => decide (400 < x.text.size)) then (200 : Int) else 0) = RE := by
      obtain ⟨h1, h2⟩ := HFin.out (by rw [← HIL.out]; exact n1) (by rw [← HEL.out]; exact t1) HSm.out
      rw [← HRS.out, ← HRE.out, h1]
      cases hb : (ents.any fun x => decide (400 < x.text.size)) with
      | true => exact ⟨rfl, rfl⟩
      | false =>
       rw [← h2 hb, ← HE5.out, ← HE2.out, HIL.out, HEL.out]
       exact ⟨rfl, rfl⟩
     rw [HEq.1, HEq.2] at HWh
     have HWh := Lib.hid HWh
     clear HP P5 P6 HEq
     go_wp2_with fail
     refine HWh.out.mono ?_
     rintro e' w9 ⟨rfl, hb9⟩
     have HB9 : Hid (Below w.heap.size w w9) := HB8.out.trans (hb9.mono (by omega))
     clear hb9
     go_wp2_with fail
     go_ret2
     exact ⟨rfl, HB9.out⟩
theorem PutReply_any (y : Ry) (na : Option Addr) (nc : Nat) (ea : Option Addr) (ec : Nat) (w : World) (hn : U64 y.n) (he : ∀ x ∈ y.ents, (U64 x.seq ∧ U64 x.tm ∧ U64 x.sum) ∧ x.text.size < 4294967281) (hI : SlE encI 1 w.heap.size w na y.nots.length y.nots) (hE : SlE Ent.enc 4 w.heap.size w ea y.ents.length y.ents) :
  CR 21 #[.agg (ryV y na nc ea ec)] w (.tuple #[.string (if y.ok then ⟨y.B.toArray⟩ else ⟨#[]⟩), .int .i64 (if y.ok then 0 else 200)]) := by
 by_cases h : y.e < 0 ∨ 4611686018427387904 < y.e ∨ 100 < y.nots.length ∨ 100 < y.ents.length
 ·rw [Ry.notOk (fun h2 => by omega)]
  exact PutReply_bad y.e y.n na _ nc ea _ ec w h
 ·exact PutReply_in y.e y.n y.nots y.ents y.nots.length y.ents.length na nc ea ec w (by omega) (by omega) (by omega) (by omega) hn he hI hE
end Go.Proofs.YtpklkhgnjbopnaaGreatDoor
