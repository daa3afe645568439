/- Package code: Encode, Size: printed by wip/tools/gen_y5.py. -/
import Derived.Test.YtjpnbkdhmjgdgaaDoorY4
namespace Go.Proofs.YtjpnbkdhmjgdgaaDoor
open Go Go.RowKit

def encBytes (x : Sk) : List UInt8 := numsB [x.kind, x.level] ++
  (if x.kind == 1 then (if x.level == 0 then numsB ((x.e.length : Int) :: diffs 0 x.e) else x.hr.data.toList) else if x.kind == 2 then numsB x.cl else numsB ((x.gl.length : Int) :: diffsB 0 x.gl))
def encS (x : Sk) : ByteArray := if skOk x then ⟨(encBytes x).toArray⟩ else ⟨#[]⟩
def encE (x : Sk) : Int := if skOk x then 0 else 100
structure Sk.num (x : Sk) : Prop where
  e : U64s x.e
  c : U64s x.cl
  g : ∀ z ∈ x.gl, I64 z.1 ∧ U64 z.2
structure Sk.few (x : Sk) : Prop where
  e : x.e.length ≤ 1000
  c : x.cl.length ≤ 1000
  g : x.gl.length ≤ 1000
  r : x.hr.size ≤ 1000
theorem rise_of_ex : ∀ (l : List Int) (st : Option Int) (p : Int), (foldO exStep st l).isSome = true → (∀ m, st = some m → p = m) → (st = none → ∀ n ∈ l, p ≤ n) → Rise p l
  | [], _, _, _, _, _ => trivial
  | n :: r, st, p, h, h1, h2 => by
    rw [foldO_cons] at h
    cases hx : exStep st n with
    | none => rw [hx] at h; cases h
    | some y =>
      rw [hx] at h
      unfold exStep at hx
      cases st with
      | none =>
        simp at hx
        refine ⟨h2 rfl n List.mem_cons_self, rise_of_ex r y n h (fun m hm => ?_) (fun hm => ?_)⟩
        · rw [← hx] at hm; exact Option.some.inj hm
        · rw [← hx] at hm; cases hm
      | some m =>
        have hp := h1 m rfl
        by_cases hc : n ≤ m
        · simp [hc] at hx
        · simp [hc] at hx
          refine ⟨by omega, rise_of_ex r y n h (fun m hm => ?_) (fun hm => ?_)⟩
          · rw [← hx] at hm; exact Option.some.inj hm
          · rw [← hx] at hm; cases hm
theorem rise_of_hist (f : Int) : ∀ (l : List (Int × Int)) (p : Int), (foldO (histStep f) p l).isSome = true → ∀ q, q ≤ p + 1 → RiseB q l
  | [], _, _, _, _ => trivial
  | n :: r, p, h, q, hq => by
    rw [foldO_cons] at h
    cases hx : histStep f p n with
    | none => rw [hx] at h; cases h
    | some y =>
      rw [hx] at h
      unfold histStep at hx
      split at hx
      · cases hx
      · rename_i hc
        have hy := Option.some.inj hx
        simp only [Bool.or_eq_true, decide_eq_true_eq, not_or] at hc
        exact ⟨by omega, rise_of_hist f r y h n.1 (by omega)⟩
theorem wr_new {W : World} {b : Nat} (h : W.heap[b]? = some (.cells #[.pointer none, .slice none 0 0] 57 (0, 0))) : Wr b b [] W :=
  .inl ⟨Nat.le_refl _, _, h, ⟨rfl, .inl ⟨rfl, rfl⟩⟩, (fun h => by cases h)⟩

theorem ok_parts {x : Sk} (h : skOk x = true) : (1 ≤ x.kind ∧ x.kind ≤ 3) ∧ (0 ≤ x.level ∧ x.level ≤ bottomB x.kind) ∧ bodyRight x = true ∧ skSame x (skCanon x) = true := by
  simp only [skOk, Bool.and_eq_true, decide_eq_true_eq] at h
  exact ⟨h.1.1, h.1.2, h.2.1, h.2.2⟩
theorem ok_level {x : Sk} (h : skOk x = true) : 0 ≤ x.level ∧ x.level ≤ 4 := by
  obtain ⟨-, ⟨h1, h2⟩, -⟩ := ok_parts h
  refine ⟨h1, Int.le_trans h2 ?_⟩
  unfold bottomB
  repeat' split
  all_goals omega
theorem ok_rise {x : Sk} (h : skOk x = true) (hk : x.kind = 1) (hl : x.level = 0) (hu : U64s x.e) : Rise 0 x.e := by
  obtain ⟨-, -, h3, -⟩ := ok_parts h
  simp only [bodyRight, hk, hl] at h3
  simp [exRight] at h3
  exact rise_of_ex x.e none 0 h3.2 (fun m hm => by cases hm) (fun _ n hn => (hu n hn).1)
theorem ok_riseB {x : Sk} (h : skOk x = true) (hk : x.kind = 3) : RiseB 0 x.gl := by
  obtain ⟨-, -, h3, -⟩ := ok_parts h
  simp only [bodyRight, hk] at h3
  simp [hiRight] at h3
  exact rise_of_hist x.gf x.gl (-1) h3.1.2 0 (by omega)

theorem ne_enc {a b : List UInt8} (h : 1 ≤ a.length) : a ++ b ≠ [] := fun h2 => by
  have := congrArg List.length h2
  simp only [List.length_append, List.length_nil] at this
  omega
set_option maxRecDepth 100000 in
set_option maxHeartbeats 4000000 in
theorem Encode_cnt (x : Sk) (s : SS) (w : World) (hx : s.At w.heap.size w x) (hs : s.Short) (hf : x.fit) (hn : x.num) (hw : x.few) (hok : skOk x = true) (hk : x.kind = 2) :
    Calls Tryd.prog 8 #[.agg #[.int .i64 x.kind, .int .i64 x.level, .slice s.ea s.el s.ec, .int .i64 x.hb, .string x.hr, .int .i64 x.cr, .int .i64 x.cc, .slice s.ca s.cl s.cc, .int .i64 x.gf, .slice s.ga s.gl s.gc]] w fun e w' => e = .returned (.tuple #[.string ⟨(encBytes x).toArray⟩, .int .i64 0]) ∧ Below w.heap.size w w' := by
  obtain ⟨W0, hW0, hX0, hB0, hs0⟩ := boxes1 w #[.int .i64 x.kind, .int .i64 x.level, .slice s.ea s.el s.ec, .int .i64 x.hb, .string x.hr, .int .i64 x.cr, .int .i64 x.cc, .slice s.ca s.cl s.cc, .int .i64 x.gf, .slice s.ga s.gl s.gc] 33
  have c0 : W0.cell? ⟨w.heap.size, 0, none⟩ = some (.int .i64 x.kind) := cell_of_cells hX0 0
  have c1 : W0.cell? ⟨w.heap.size, 1, none⟩ = some (.int .i64 x.level) := cell_of_cells hX0 1
  have c2 : W0.cell? ⟨w.heap.size, 2, none⟩ = some (.slice s.ea s.el s.ec) := cell_of_cells hX0 2
  have c3 : W0.cell? ⟨w.heap.size, 3, none⟩ = some (.int .i64 x.hb) := cell_of_cells hX0 3
  have c4 : W0.cell? ⟨w.heap.size, 4, none⟩ = some (.string x.hr) := cell_of_cells hX0 4
  have c5 : W0.cell? ⟨w.heap.size, 5, none⟩ = some (.int .i64 x.cr) := cell_of_cells hX0 5
  have c6 : W0.cell? ⟨w.heap.size, 6, none⟩ = some (.int .i64 x.cc) := cell_of_cells hX0 6
  have c7 : W0.cell? ⟨w.heap.size, 7, none⟩ = some (.slice s.ca s.cl s.cc) := cell_of_cells hX0 7
  have c8 : W0.cell? ⟨w.heap.size, 8, none⟩ = some (.int .i64 x.gf) := cell_of_cells hX0 8
  have c9 : W0.cell? ⟨w.heap.size, 9, none⟩ = some (.slice s.ga s.gl s.gc) := cell_of_cells hX0 9
  have HX : Hid (s.At W0.heap.size W0 x) := hx.go hB0
  have hR := ladder_Right_any x s W0 HX.out hs hf
  rw [hok] at hR
  obtain ⟨hl0, hl1⟩ := ok_level hok
  have HN := Lib.hid hn
  have HW := Lib.hid hw
  have HOK := Lib.hid hok
  have hz0 : w.heap.size < W0.heap.size := by omega
  have HB0 := Lib.hid hB0
  have HEB : Hid (encBytes x = numsB [2, x.level] ++ numsB x.cl) := by rw [Hid, encBytes]; simp [hk]
  generalize encBytes x = EB at HEB ⊢
  obtain ⟨NL, HNL⟩ : ∃ NL, Hid (numsB [2, x.level] = NL) := ⟨_, rfl⟩
  have HNn : Hid (2 ≤ NL.length ∧ NL.length ≤ 18) := by have h2 := numsB_len [2, x.level]; rw [HNL.out] at h2; exact h2
  rw [HNL.out] at HEB
  rw [hk] at c0 hR hW0 ⊢
  clear hx hs hf hn hw hok hX0 hs0
  go_enter Tryd.func8, Tryd.ntmps8
  go_wp2_with (go_at_call 12; refine hR.mono ?_; rintro e w1 ⟨rfl, hb1⟩; obtain ⟨W2, hW2, hX2, hB2, hs2⟩ := boxes1 w1 #[.pointer none, .slice none 0 0] 57; have hb02 := hb1.trans (hB2.mono hb1.size); obtain ⟨hc2, hd2⟩ := bcell hb02; obtain ⟨W3, hW3, hX3, hB3, hs3⟩ := boxes1 W2 #[.int .u64 2, .int .u64 x.level] 46; replace hs2 : w1.heap.size < W2.heap.size := (by omega); replace hs3 : W2.heap.size < W3.heap.size := (by omega))
  have hz1 := hb1.size
  refine (numbers_any w1.heap.size w1.heap.size [] [2, x.level] (some ⟨W2.heap.size, 0, none⟩) 2 2 W3 ((wr_new hX2).go hB3) (sl_two hX3 (by omega)) (fun n hn => by simp only [List.mem_cons, List.not_mem_nil, or_false] at hn; rcases hn with rfl | rfl <;> (unfold U64; omega)) (by simp) (by omega)).mono ?_
  rintro e w4 ⟨rfl, hW4, hk4⟩
  have hb14 : Below w1.heap.size w1 w4 := (hB2.trans (hB3.mono hB2.size)).trans hk4.1
  have hb04 : Below W0.heap.size W0 w4 := hb1.trans (hb14.mono hz1)
  obtain ⟨hc4, hd4⟩ := bcell hb04
  have HX4 : Hid (∀ w', Below w1.heap.size w4 w' → s.At w'.heap.size w' x) := fun w' hb => HX.out.go (hb04.trans (hb.mono hz1))
  have HW4 : Hid (Wr w1.heap.size w1.heap.size NL w4) := by rw [List.nil_append, HNL.out] at hW4; exact hW4
  have hz4 : w1.heap.size ≤ w4.heap.size := hb14.size
  clear hW2 hW3 hX2 hX3 hW4 hk4 hc2 hd2 hW0
  go_wp2_with fail
  have hlc := HX.out.c.1.1
  refine (numbers_any w1.heap.size w1.heap.size _ x.cl s.ca s.cl s.cc w4 HW4.out (fun w' h => (HX4.out w' h.1).c.1) HN.out.c (by have h2 := HNn.out; have h3 := HW.out.c; omega) hz4).mono ?_
  rintro e w6 ⟨rfl, hW6, hk6⟩
  have HW6 := Lib.hid hW6
  have hb46 := hk6.1
  clear hW6 hk6 hlc
  go_wp2_with fail
  refine (String_w w1.heap.size w1.heap.size EB w6 (by rw [HEB.out]; exact HW6.out) (by rw [HEB.out]; exact ne_enc (by have := HNn.out; omega))).mono ?_
  rintro e w7 ⟨rfl, hb7⟩
  go_wp2_with fail
  go_ret2
  exact ⟨rfl, HB0.out.trans ((hb04.trans ((hb46.trans hb7).mono hz1)).mono (by omega))⟩
set_option maxRecDepth 100000 in
set_option maxHeartbeats 4000000 in
theorem Encode_exa (x : Sk) (s : SS) (w : World) (hx : s.At w.heap.size w x) (hs : s.Short) (hf : x.fit) (hn : x.num) (hw : x.few) (hok : skOk x = true) (hk : x.kind = 1) (hl : x.level = 0) :
    Calls Tryd.prog 8 #[.agg #[.int .i64 x.kind, .int .i64 x.level, .slice s.ea s.el s.ec, .int .i64 x.hb, .string x.hr, .int .i64 x.cr, .int .i64 x.cc, .slice s.ca s.cl s.cc, .int .i64 x.gf, .slice s.ga s.gl s.gc]] w fun e w' => e = .returned (.tuple #[.string ⟨(encBytes x).toArray⟩, .int .i64 0]) ∧ Below w.heap.size w w' := by
  obtain ⟨W0, hW0, hX0, hB0, hs0⟩ := boxes1 w #[.int .i64 x.kind, .int .i64 x.level, .slice s.ea s.el s.ec, .int .i64 x.hb, .string x.hr, .int .i64 x.cr, .int .i64 x.cc, .slice s.ca s.cl s.cc, .int .i64 x.gf, .slice s.ga s.gl s.gc] 33
  have c0 : W0.cell? ⟨w.heap.size, 0, none⟩ = some (.int .i64 x.kind) := cell_of_cells hX0 0
  have c1 : W0.cell? ⟨w.heap.size, 1, none⟩ = some (.int .i64 x.level) := cell_of_cells hX0 1
  have c2 : W0.cell? ⟨w.heap.size, 2, none⟩ = some (.slice s.ea s.el s.ec) := cell_of_cells hX0 2
  have c3 : W0.cell? ⟨w.heap.size, 3, none⟩ = some (.int .i64 x.hb) := cell_of_cells hX0 3
  have c4 : W0.cell? ⟨w.heap.size, 4, none⟩ = some (.string x.hr) := cell_of_cells hX0 4
  have c5 : W0.cell? ⟨w.heap.size, 5, none⟩ = some (.int .i64 x.cr) := cell_of_cells hX0 5
  have c6 : W0.cell? ⟨w.heap.size, 6, none⟩ = some (.int .i64 x.cc) := cell_of_cells hX0 6
  have c7 : W0.cell? ⟨w.heap.size, 7, none⟩ = some (.slice s.ca s.cl s.cc) := cell_of_cells hX0 7
  have c8 : W0.cell? ⟨w.heap.size, 8, none⟩ = some (.int .i64 x.gf) := cell_of_cells hX0 8
  have c9 : W0.cell? ⟨w.heap.size, 9, none⟩ = some (.slice s.ga s.gl s.gc) := cell_of_cells hX0 9
  have HX : Hid (s.At W0.heap.size W0 x) := hx.go hB0
  have hR := ladder_Right_any x s W0 HX.out hs hf
  rw [hok] at hR
  obtain ⟨hl0, hl1⟩ := ok_level hok
  have HN := Lib.hid hn
  have HW := Lib.hid hw
  have HOK := Lib.hid hok
  have hz0 : w.heap.size < W0.heap.size := by omega
  have HB0 := Lib.hid hB0
  have hle := HX.out.e.1.1
  have HRi : Hid (Rise 0 x.e) := ok_rise hok hk hl hn.e
  have HEB : Hid (encBytes x = numsB [1, 0] ++ numsB ((s.el : Int) :: diffs 0 x.e)) := by rw [Hid, encBytes]; simp [hk, hl, hle]
  generalize encBytes x = EB at HEB ⊢
  obtain ⟨NL, HNL⟩ : ∃ NL, Hid (numsB [1, 0] = NL) := ⟨_, rfl⟩
  have HNn : Hid (2 ≤ NL.length ∧ NL.length ≤ 18) := by have h2 := numsB_len [1, 0]; rw [HNL.out] at h2; exact h2
  rw [HNL.out] at HEB
  rw [hk] at c0 hR hW0 ⊢
  rw [hl] at c1 hR hW0 ⊢
  have HLE := Lib.hid hle
  clear hle
  clear hx hs hf hn hw hok hX0 hs0
  go_enter Tryd.func8, Tryd.ntmps8
  go_wp2_with (go_at_call 12; refine hR.mono ?_; rintro e w1 ⟨rfl, hb1⟩; obtain ⟨W2, hW2, hX2, hB2, hs2⟩ := boxes1 w1 #[.pointer none, .slice none 0 0] 57; have hb02 := hb1.trans (hB2.mono hb1.size); obtain ⟨hc2, hd2⟩ := bcell hb02; obtain ⟨W3, hW3, hX3, hB3, hs3⟩ := boxes1 W2 #[.int .u64 1, .int .u64 0] 46; replace hs2 : w1.heap.size < W2.heap.size := (by omega); replace hs3 : W2.heap.size < W3.heap.size := (by omega))
  have hz1 := hb1.size
  refine (numbers_any w1.heap.size w1.heap.size [] [1, 0] (some ⟨W2.heap.size, 0, none⟩) 2 2 W3 ((wr_new hX2).go hB3) (sl_two hX3 (by omega)) (fun n hn => by simp only [List.mem_cons, List.not_mem_nil, or_false] at hn; rcases hn with rfl | rfl <;> (unfold U64; omega)) (by simp) (by omega)).mono ?_
  rintro e w4 ⟨rfl, hW4, hk4⟩
  have hb14 : Below w1.heap.size w1 w4 := (hB2.trans (hB3.mono hB2.size)).trans hk4.1
  have hb04 : Below W0.heap.size W0 w4 := hb1.trans (hb14.mono hz1)
  obtain ⟨hc4, hd4⟩ := bcell hb04
  have HX4 : Hid (∀ w', Below w1.heap.size w4 w' → s.At w'.heap.size w' x) := fun w' hb => HX.out.go (hb04.trans (hb.mono hz1))
  have HW4 : Hid (Wr w1.heap.size w1.heap.size NL w4) := by rw [List.nil_append, HNL.out] at hW4; exact hW4
  have hz4 : w1.heap.size ≤ w4.heap.size := hb14.size
  clear hW2 hW3 hX2 hX3 hW4 hk4 hc2 hd2 hW0
  go_wp2_with fail
  refine (exact_any w1.heap.size w1.heap.size _ x.e s.ea s.el s.ec w4 HW4.out (fun w' h => (HX4.out w' h.1).e.1) HN.out.e HRi.out (by have h3 := HW.out.e; have h4 := HLE.out; omega) (by have h2 := HNn.out; omega) hz4).mono ?_
  rintro e w6 ⟨rfl, hW6, hk6⟩
  have HW6 := Lib.hid hW6
  have hb46 := hk6.1
  clear hW6 hk6
  go_wp2_with fail
  refine (String_w w1.heap.size w1.heap.size EB w6 (by rw [HEB.out]; exact HW6.out) (by rw [HEB.out]; exact ne_enc (by have := HNn.out; omega))).mono ?_
  rintro e w7 ⟨rfl, hb7⟩
  go_wp2_with fail
  go_ret2
  exact ⟨rfl, HB0.out.trans ((hb04.trans ((hb46.trans hb7).mono hz1)).mono (by omega))⟩
set_option maxRecDepth 100000 in
set_option maxHeartbeats 4000000 in
theorem Encode_reg (x : Sk) (s : SS) (w : World) (hx : s.At w.heap.size w x) (hs : s.Short) (hf : x.fit) (hn : x.num) (hw : x.few) (hok : skOk x = true) (hk : x.kind = 1) (hl : ¬ x.level = 0) :
    Calls Tryd.prog 8 #[.agg #[.int .i64 x.kind, .int .i64 x.level, .slice s.ea s.el s.ec, .int .i64 x.hb, .string x.hr, .int .i64 x.cr, .int .i64 x.cc, .slice s.ca s.cl s.cc, .int .i64 x.gf, .slice s.ga s.gl s.gc]] w fun e w' => e = .returned (.tuple #[.string ⟨(encBytes x).toArray⟩, .int .i64 0]) ∧ Below w.heap.size w w' := by
  obtain ⟨W0, hW0, hX0, hB0, hs0⟩ := boxes1 w #[.int .i64 x.kind, .int .i64 x.level, .slice s.ea s.el s.ec, .int .i64 x.hb, .string x.hr, .int .i64 x.cr, .int .i64 x.cc, .slice s.ca s.cl s.cc, .int .i64 x.gf, .slice s.ga s.gl s.gc] 33
  have c0 : W0.cell? ⟨w.heap.size, 0, none⟩ = some (.int .i64 x.kind) := cell_of_cells hX0 0
  have c1 : W0.cell? ⟨w.heap.size, 1, none⟩ = some (.int .i64 x.level) := cell_of_cells hX0 1
  have c2 : W0.cell? ⟨w.heap.size, 2, none⟩ = some (.slice s.ea s.el s.ec) := cell_of_cells hX0 2
  have c3 : W0.cell? ⟨w.heap.size, 3, none⟩ = some (.int .i64 x.hb) := cell_of_cells hX0 3
  have c4 : W0.cell? ⟨w.heap.size, 4, none⟩ = some (.string x.hr) := cell_of_cells hX0 4
  have c5 : W0.cell? ⟨w.heap.size, 5, none⟩ = some (.int .i64 x.cr) := cell_of_cells hX0 5
  have c6 : W0.cell? ⟨w.heap.size, 6, none⟩ = some (.int .i64 x.cc) := cell_of_cells hX0 6
  have c7 : W0.cell? ⟨w.heap.size, 7, none⟩ = some (.slice s.ca s.cl s.cc) := cell_of_cells hX0 7
  have c8 : W0.cell? ⟨w.heap.size, 8, none⟩ = some (.int .i64 x.gf) := cell_of_cells hX0 8
  have c9 : W0.cell? ⟨w.heap.size, 9, none⟩ = some (.slice s.ga s.gl s.gc) := cell_of_cells hX0 9
  have HX : Hid (s.At W0.heap.size W0 x) := hx.go hB0
  have hR := ladder_Right_any x s W0 HX.out hs hf
  rw [hok] at hR
  obtain ⟨hl0, hl1⟩ := ok_level hok
  have HN := Lib.hid hn
  have HW := Lib.hid hw
  have HOK := Lib.hid hok
  have hz0 : w.heap.size < W0.heap.size := by omega
  have HB0 := Lib.hid hB0
  have hl9 : (x.level == 0) = false := by simp [hl]
  have HEB : Hid (encBytes x = numsB [1, x.level] ++ x.hr.data.toList) := by rw [Hid, encBytes]; simp [hk, hl]
  generalize encBytes x = EB at HEB ⊢
  obtain ⟨NL, HNL⟩ : ∃ NL, Hid (numsB [1, x.level] = NL) := ⟨_, rfl⟩
  have HNn : Hid (2 ≤ NL.length ∧ NL.length ≤ 18) := by have h2 := numsB_len [1, x.level]; rw [HNL.out] at h2; exact h2
  rw [HNL.out] at HEB
  rw [hk] at c0 hR hW0 ⊢
  clear hx hs hf hn hw hok hX0 hs0
  go_enter Tryd.func8, Tryd.ntmps8
  go_wp2_with (go_at_call 12; refine hR.mono ?_; rintro e w1 ⟨rfl, hb1⟩; obtain ⟨W2, hW2, hX2, hB2, hs2⟩ := boxes1 w1 #[.pointer none, .slice none 0 0] 57; have hb02 := hb1.trans (hB2.mono hb1.size); obtain ⟨hc2, hd2⟩ := bcell hb02; obtain ⟨W3, hW3, hX3, hB3, hs3⟩ := boxes1 W2 #[.int .u64 1, .int .u64 x.level] 46; replace hs2 : w1.heap.size < W2.heap.size := (by omega); replace hs3 : W2.heap.size < W3.heap.size := (by omega))
  have hz1 := hb1.size
  refine (numbers_any w1.heap.size w1.heap.size [] [1, x.level] (some ⟨W2.heap.size, 0, none⟩) 2 2 W3 ((wr_new hX2).go hB3) (sl_two hX3 (by omega)) (fun n hn => by simp only [List.mem_cons, List.not_mem_nil, or_false] at hn; rcases hn with rfl | rfl <;> (unfold U64; omega)) (by simp) (by omega)).mono ?_
  rintro e w4 ⟨rfl, hW4, hk4⟩
  have hb14 : Below w1.heap.size w1 w4 := (hB2.trans (hB3.mono hB2.size)).trans hk4.1
  have hb04 : Below W0.heap.size W0 w4 := hb1.trans (hb14.mono hz1)
  obtain ⟨hc4, hd4⟩ := bcell hb04
  have HX4 : Hid (∀ w', Below w1.heap.size w4 w' → s.At w'.heap.size w' x) := fun w' hb => HX.out.go (hb04.trans (hb.mono hz1))
  have HW4 : Hid (Wr w1.heap.size w1.heap.size NL w4) := by rw [List.nil_append, HNL.out] at hW4; exact hW4
  have hz4 : w1.heap.size ≤ w4.heap.size := hb14.size
  clear hW2 hW3 hX2 hX3 hW4 hk4 hc2 hd2 hW0
  go_wp2_with fail
  have e4 : w4.drew.cell? ⟨w.heap.size, 4, none⟩ = some (.string x.hr) := (hc4 _ _ hz0).trans c4
  refine wp_region_any (by kernel_rfl) ?_
  change wpAny _ _ _ _ _ _ _ (World.drew _)
  refine wpAny_take (i := 0) (v := ?_) rfl (by kernel_rfl) (by kernel_rfl) (by kernel_rfl) (fun _ _ _ h => h) (Or.inl ⟨by rfl, ?_⟩) ?_
  rotate_left
  · intro w; go_simp; with_reducible rfl
  refine wpAny_take (i := 1) (v := ?_) rfl (by kernel_rfl) (by kernel_rfl) (by kernel_rfl) (fun _ _ _ h => h) (Or.inl ⟨by rfl, ?_⟩) ?_
  rotate_left
  · intro w; go_simp; with_reducible rfl
  refine wpAny_take (i := 2) (v := ?_) rfl (by kernel_rfl) (by kernel_rfl) (by kernel_rfl) (fun _ _ _ h => h) (Or.inl ⟨by rfl, ?_⟩) ?_
  rotate_left
  · intro w; go_simp; with_reducible rfl
  refine wpAny_take (i := 3) (v := ?_) rfl (by kernel_rfl) (by kernel_rfl) (by kernel_rfl) (fun _ _ _ h => h) (Or.inl ⟨by rfl, ?_⟩) ?_
  rotate_left
  · intro w; go_simp; with_reducible rfl
  refine wpAny_take (i := 4) (v := ?_) rfl (by kernel_rfl) (by kernel_rfl) (by kernel_rfl) (fun _ _ _ h => h) (Or.inl ⟨by rfl, ?_⟩) ?_
  rotate_left
  · intro w; go_simp; with_reducible rfl
  refine wpAny_ready (rs := [5]) (by kernel_rfl) (by simp) ?_
  refine AllReady.cons rfl (fun K hK => ?_) ?_
  · go_simp
    refine hK _ _ ?_
    clear hK K
    refine wpAny_ready (rs := [6]) (by kernel_rfl) (by simp) ?_
    refine AllReady.cons rfl (fun K hK => ?_) ?_
    · go_simp
      refine (WriteString_any_w w1.heap.size w1.heap.size _ x.hr w4.drew (HW4.out.go ((Below.refl _ _).drew)) (by rw [Lib.byteCells_length]; have h2 := HNn.out; have h3 := HW.out.r; omega) hz4).mono ?_
      rintro e w6 ⟨rfl, hA6, hb46', hO6⟩
      have hb46 : Below w1.heap.size w4 w6 := ((Below.refl _ _).drew).trans hb46'
      have HW6 : Hid (Wr w1.heap.size w1.heap.size (NL ++ x.hr.data.toList) w6) := by rw [Hid, Wr, byteCells_append]; exact .inr hA6
      clear hA6 hO6
      refine hK _ _ ?_
      clear hK K
      refine wpAny_done (by kernel_rfl) ?_ _
      go_wp2_with fail
      refine (String_w w1.heap.size w1.heap.size EB w6 (by rw [HEB.out]; exact HW6.out) (by rw [HEB.out]; exact ne_enc (by have := HNn.out; omega))).mono ?_
      rintro e w7 ⟨rfl, hb7⟩
      go_wp2_with fail
      go_ret2
      exact ⟨rfl, HB0.out.trans ((hb04.trans ((hb46.trans hb7).mono hz1)).mono (by omega))⟩
    exact AllReady.nil
  exact AllReady.nil
set_option maxRecDepth 100000 in
set_option maxHeartbeats 4000000 in
theorem Encode_bkt (x : Sk) (s : SS) (w : World) (hx : s.At w.heap.size w x) (hs : s.Short) (hf : x.fit) (hn : x.num) (hw : x.few) (hok : skOk x = true) (hk : x.kind = 3) :
    Calls Tryd.prog 8 #[.agg #[.int .i64 x.kind, .int .i64 x.level, .slice s.ea s.el s.ec, .int .i64 x.hb, .string x.hr, .int .i64 x.cr, .int .i64 x.cc, .slice s.ca s.cl s.cc, .int .i64 x.gf, .slice s.ga s.gl s.gc]] w fun e w' => e = .returned (.tuple #[.string ⟨(encBytes x).toArray⟩, .int .i64 0]) ∧ Below w.heap.size w w' := by
  obtain ⟨W0, hW0, hX0, hB0, hs0⟩ := boxes1 w #[.int .i64 x.kind, .int .i64 x.level, .slice s.ea s.el s.ec, .int .i64 x.hb, .string x.hr, .int .i64 x.cr, .int .i64 x.cc, .slice s.ca s.cl s.cc, .int .i64 x.gf, .slice s.ga s.gl s.gc] 33
  have c0 : W0.cell? ⟨w.heap.size, 0, none⟩ = some (.int .i64 x.kind) := cell_of_cells hX0 0
  have c1 : W0.cell? ⟨w.heap.size, 1, none⟩ = some (.int .i64 x.level) := cell_of_cells hX0 1
  have c2 : W0.cell? ⟨w.heap.size, 2, none⟩ = some (.slice s.ea s.el s.ec) := cell_of_cells hX0 2
  have c3 : W0.cell? ⟨w.heap.size, 3, none⟩ = some (.int .i64 x.hb) := cell_of_cells hX0 3
  have c4 : W0.cell? ⟨w.heap.size, 4, none⟩ = some (.string x.hr) := cell_of_cells hX0 4
  have c5 : W0.cell? ⟨w.heap.size, 5, none⟩ = some (.int .i64 x.cr) := cell_of_cells hX0 5
  have c6 : W0.cell? ⟨w.heap.size, 6, none⟩ = some (.int .i64 x.cc) := cell_of_cells hX0 6
  have c7 : W0.cell? ⟨w.heap.size, 7, none⟩ = some (.slice s.ca s.cl s.cc) := cell_of_cells hX0 7
  have c8 : W0.cell? ⟨w.heap.size, 8, none⟩ = some (.int .i64 x.gf) := cell_of_cells hX0 8
  have c9 : W0.cell? ⟨w.heap.size, 9, none⟩ = some (.slice s.ga s.gl s.gc) := cell_of_cells hX0 9
  have HX : Hid (s.At W0.heap.size W0 x) := hx.go hB0
  have hR := ladder_Right_any x s W0 HX.out hs hf
  rw [hok] at hR
  obtain ⟨hl0, hl1⟩ := ok_level hok
  have HN := Lib.hid hn
  have HW := Lib.hid hw
  have HOK := Lib.hid hok
  have hz0 : w.heap.size < W0.heap.size := by omega
  have HB0 := Lib.hid hB0
  have hle := HX.out.g.1.1
  have HRi : Hid (RiseB 0 x.gl) := ok_riseB hok hk
  have HEB : Hid (encBytes x = numsB [3, x.level] ++ numsB ((s.gl : Int) :: diffsB 0 x.gl)) := by rw [Hid, encBytes]; simp [hk, hle]
  generalize encBytes x = EB at HEB ⊢
  obtain ⟨NL, HNL⟩ : ∃ NL, Hid (numsB [3, x.level] = NL) := ⟨_, rfl⟩
  have HNn : Hid (2 ≤ NL.length ∧ NL.length ≤ 18) := by have h2 := numsB_len [3, x.level]; rw [HNL.out] at h2; exact h2
  rw [HNL.out] at HEB
  rw [hk] at c0 hR hW0 ⊢
  have HLE := Lib.hid hle
  clear hle
  clear hx hs hf hn hw hok hX0 hs0
  go_enter Tryd.func8, Tryd.ntmps8
  go_wp2_with (go_at_call 12; refine hR.mono ?_; rintro e w1 ⟨rfl, hb1⟩; obtain ⟨W2, hW2, hX2, hB2, hs2⟩ := boxes1 w1 #[.pointer none, .slice none 0 0] 57; have hb02 := hb1.trans (hB2.mono hb1.size); obtain ⟨hc2, hd2⟩ := bcell hb02; obtain ⟨W3, hW3, hX3, hB3, hs3⟩ := boxes1 W2 #[.int .u64 3, .int .u64 x.level] 46; replace hs2 : w1.heap.size < W2.heap.size := (by omega); replace hs3 : W2.heap.size < W3.heap.size := (by omega))
  have hz1 := hb1.size
  refine (numbers_any w1.heap.size w1.heap.size [] [3, x.level] (some ⟨W2.heap.size, 0, none⟩) 2 2 W3 ((wr_new hX2).go hB3) (sl_two hX3 (by omega)) (fun n hn => by simp only [List.mem_cons, List.not_mem_nil, or_false] at hn; rcases hn with rfl | rfl <;> (unfold U64; omega)) (by simp) (by omega)).mono ?_
  rintro e w4 ⟨rfl, hW4, hk4⟩
  have hb14 : Below w1.heap.size w1 w4 := (hB2.trans (hB3.mono hB2.size)).trans hk4.1
  have hb04 : Below W0.heap.size W0 w4 := hb1.trans (hb14.mono hz1)
  obtain ⟨hc4, hd4⟩ := bcell hb04
  have HX4 : Hid (∀ w', Below w1.heap.size w4 w' → s.At w'.heap.size w' x) := fun w' hb => HX.out.go (hb04.trans (hb.mono hz1))
  have HW4 : Hid (Wr w1.heap.size w1.heap.size NL w4) := by rw [List.nil_append, HNL.out] at hW4; exact hW4
  have hz4 : w1.heap.size ≤ w4.heap.size := hb14.size
  clear hW2 hW3 hX2 hX3 hW4 hk4 hc2 hd2 hW0
  go_wp2_with fail
  refine (bins_any w1.heap.size w1.heap.size _ x.gl x.gf s.ga s.gl s.gc w4 HW4.out (fun w' h => (HX4.out w' h.1).g.1) HN.out.g HRi.out (by have h3 := HW.out.g; have h4 := HLE.out; omega) (by have h2 := HNn.out; omega) hz4).mono ?_
  rintro e w6 ⟨rfl, hW6, hk6⟩
  have HW6 := Lib.hid hW6
  have hb46 := hk6.1
  clear hW6 hk6
  go_wp2_with fail
  refine (String_w w1.heap.size w1.heap.size EB w6 (by rw [HEB.out]; exact HW6.out) (by rw [HEB.out]; exact ne_enc (by have := HNn.out; omega))).mono ?_
  rintro e w7 ⟨rfl, hb7⟩
  go_wp2_with fail
  go_ret2
  exact ⟨rfl, HB0.out.trans ((hb04.trans ((hb46.trans hb7).mono hz1)).mono (by omega))⟩
set_option maxRecDepth 100000 in
set_option maxHeartbeats 1000000 in
theorem Encode_wrong (x : Sk) (s : SS) (w : World) (hx : s.At w.heap.size w x) (hs : s.Short) (hf : x.fit) (hok : skOk x = false) :
    Calls Tryd.prog 8 #[.agg #[.int .i64 x.kind, .int .i64 x.level, .slice s.ea s.el s.ec, .int .i64 x.hb, .string x.hr, .int .i64 x.cr, .int .i64 x.cc, .slice s.ca s.cl s.cc, .int .i64 x.gf, .slice s.ga s.gl s.gc]] w fun e w' => e = .returned (.tuple #[.string ⟨#[]⟩, .int .i64 100]) ∧ Below w.heap.size w w' := by
  obtain ⟨W0, hW0, hX0, hB0, hs0⟩ := boxes1 w #[.int .i64 x.kind, .int .i64 x.level, .slice s.ea s.el s.ec, .int .i64 x.hb, .string x.hr, .int .i64 x.cr, .int .i64 x.cc, .slice s.ca s.cl s.cc, .int .i64 x.gf, .slice s.ga s.gl s.gc] 33
  have c0 : W0.cell? ⟨w.heap.size, 0, none⟩ = some (.int .i64 x.kind) := cell_of_cells hX0 0
  have c1 : W0.cell? ⟨w.heap.size, 1, none⟩ = some (.int .i64 x.level) := cell_of_cells hX0 1
  have c2 : W0.cell? ⟨w.heap.size, 2, none⟩ = some (.slice s.ea s.el s.ec) := cell_of_cells hX0 2
  have c3 : W0.cell? ⟨w.heap.size, 3, none⟩ = some (.int .i64 x.hb) := cell_of_cells hX0 3
  have c4 : W0.cell? ⟨w.heap.size, 4, none⟩ = some (.string x.hr) := cell_of_cells hX0 4
  have c5 : W0.cell? ⟨w.heap.size, 5, none⟩ = some (.int .i64 x.cr) := cell_of_cells hX0 5
  have c6 : W0.cell? ⟨w.heap.size, 6, none⟩ = some (.int .i64 x.cc) := cell_of_cells hX0 6
  have c7 : W0.cell? ⟨w.heap.size, 7, none⟩ = some (.slice s.ca s.cl s.cc) := cell_of_cells hX0 7
  have c8 : W0.cell? ⟨w.heap.size, 8, none⟩ = some (.int .i64 x.gf) := cell_of_cells hX0 8
  have c9 : W0.cell? ⟨w.heap.size, 9, none⟩ = some (.slice s.ga s.gl s.gc) := cell_of_cells hX0 9
  have hR := ladder_Right_any x s W0 (hx.go hB0) hs hf
  rw [hok] at hR
  have hz0 : w.heap.size < W0.heap.size := by omega
  clear hx hs hf hok hX0 hs0
  go_enter Tryd.func8, Tryd.ntmps8
  go_wp2_with (go_at_call 12; refine hR.mono ?_; rintro e w1 ⟨rfl, hb1⟩)
  go_ret2
  exact ⟨rfl, hB0.trans (hb1.mono (by omega))⟩
theorem Encode_any (x : Sk) (s : SS) (w : World) (hx : s.At w.heap.size w x) (hs : s.Short) (hf : x.fit) (hn : x.num) (hw : x.few) :
    Calls Tryd.prog 8 #[.agg #[.int .i64 x.kind, .int .i64 x.level, .slice s.ea s.el s.ec, .int .i64 x.hb, .string x.hr, .int .i64 x.cr, .int .i64 x.cc, .slice s.ca s.cl s.cc, .int .i64 x.gf, .slice s.ga s.gl s.gc]] w fun e w' => e = .returned (.tuple #[.string (encS x), .int .i64 (encE x)]) ∧ Below w.heap.size w w' := by
  cases hok : skOk x with
  | false => rw [encS, encE, hok]; exact Encode_wrong x s w hx hs hf hok
  | true =>
    rw [encS, encE, hok, if_pos rfl, if_pos rfl]
    obtain ⟨⟨k1, k2⟩, -⟩ := ok_parts hok
    by_cases h2 : x.kind = 2
    · exact Encode_cnt x s w hx hs hf hn hw hok h2
    · by_cases h3 : x.kind = 3
      · exact Encode_bkt x s w hx hs hf hn hw hok h3
      · have h1 : x.kind = 1 := by omega
        by_cases hl : x.level = 0
        · exact Encode_exa x s w hx hs hf hn hw hok h1 hl
        · exact Encode_reg x s w hx hs hf hn hw hok h1 hl
set_option maxRecDepth 100000 in
set_option maxHeartbeats 1000000 in
theorem Size_any (x : Sk) (s : SS) (w : World) (hx : s.At w.heap.size w x) (hs : s.Short) (hf : x.fit) (hn : x.num) (hw : x.few) :
    Calls Tryd.prog 13 #[.agg #[.int .i64 x.kind, .int .i64 x.level, .slice s.ea s.el s.ec, .int .i64 x.hb, .string x.hr, .int .i64 x.cr, .int .i64 x.cc, .slice s.ca s.cl s.cc, .int .i64 x.gf, .slice s.ga s.gl s.gc]] w fun e w' => e = .returned (.int .i64 (encS x).size) ∧ Below w.heap.size w w' := by
  obtain ⟨W0, hW0, hX0, hB0, hs0⟩ := boxes1 w #[.int .i64 x.kind, .int .i64 x.level, .slice s.ea s.el s.ec, .int .i64 x.hb, .string x.hr, .int .i64 x.cr, .int .i64 x.cc, .slice s.ca s.cl s.cc, .int .i64 x.gf, .slice s.ga s.gl s.gc] 33
  have c0 : W0.cell? ⟨w.heap.size, 0, none⟩ = some (.int .i64 x.kind) := cell_of_cells hX0 0
  have c1 : W0.cell? ⟨w.heap.size, 1, none⟩ = some (.int .i64 x.level) := cell_of_cells hX0 1
  have c2 : W0.cell? ⟨w.heap.size, 2, none⟩ = some (.slice s.ea s.el s.ec) := cell_of_cells hX0 2
  have c3 : W0.cell? ⟨w.heap.size, 3, none⟩ = some (.int .i64 x.hb) := cell_of_cells hX0 3
  have c4 : W0.cell? ⟨w.heap.size, 4, none⟩ = some (.string x.hr) := cell_of_cells hX0 4
  have c5 : W0.cell? ⟨w.heap.size, 5, none⟩ = some (.int .i64 x.cr) := cell_of_cells hX0 5
  have c6 : W0.cell? ⟨w.heap.size, 6, none⟩ = some (.int .i64 x.cc) := cell_of_cells hX0 6
  have c7 : W0.cell? ⟨w.heap.size, 7, none⟩ = some (.slice s.ca s.cl s.cc) := cell_of_cells hX0 7
  have c8 : W0.cell? ⟨w.heap.size, 8, none⟩ = some (.int .i64 x.gf) := cell_of_cells hX0 8
  have c9 : W0.cell? ⟨w.heap.size, 9, none⟩ = some (.slice s.ga s.gl s.gc) := cell_of_cells hX0 9
  have hE := Encode_any x s W0 (hx.go hB0) hs hf hn hw
  have hz0 : w.heap.size < W0.heap.size := by omega
  clear hx hs hf hn hw hX0 hs0
  go_enter Tryd.func13, Tryd.ntmps13
  go_wp2_with (go_at_call 8; refine hE.mono ?_; rintro e w1 ⟨rfl, hb1⟩)
  go_ret
  exact ⟨rfl, hB0.trans (hb1.mono (by omega))⟩
end Go.Proofs.YtjpnbkdhmjgdgaaDoor
