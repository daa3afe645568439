/- The reference of layer 6: put, Of, Add, Merge, Count, at lists that are right. The reference of layer 6: Add, Merge, Count, at right lists. Printed by gen_db.py. -/
import Derived.Test.YtcbbenncdainfaaGreatDoorYRKw
namespace Go.Proofs.YtcbbenncdainfaaGreatDoor
open Go Go.RowKit Go.Shelf
theorem take_u64 (a : Option Addr) (len cap m : Nat) (w : World) (h : m ≤ cap) : (Instr.slice 22 (.slice a len cap) none (some (.int .i64 (m : Int))) none).run Tryz.prog w = .ok (.slice a m cap) w := by
 have hz := dropA_zero a cap 1
 unfold dropA at hz
 have hs : (sizeOf 43).run Tryz.prog w = .ok 1 w := by kernel_rfl
 have he : Tryz.prog.elem 22 = 43 := by kernel_rfl
 rw [run_slice_h (t := 22) (a := a) (len := len) (cap := cap) (w := w) (ht := by rw [he]; exact und_u64) (kh := .i64) (h := (m : Int)) (by omega) (by omega), he, hs]
 simp only [Result.andThen, sliced, Int.toNat_natCast, Nat.sub_zero, hz]
def NumsPost (m : List Int) (w : World) (e : Ending) (w' : World) : Prop := ∃ a cap, e = .returned (.slice a m.length cap) ∧ SlC encU 1 w'.heap.size w' a m.length cap m ∧ Below w.heap.size w w'
theorem insR_less {x n : Int} {r : List Int} (h : x < n) : insR (x :: r) n = x :: insR r n := by simp [insR, h]
theorem insR_at {x n : Int} {r : List Int} (h : ¬ x < n) (h2 : x ≠ n) : insR (x :: r) n = n :: x :: r := by simp [insR, h, h2]
attribute [-go_sem] Builtin.append_ run_slice_any run_slice_h run_slice_l
set_option maxRecDepth 100000 in
set_option maxHeartbeats 4000000 in
theorem ref06_put_any (n : Int) (l : List Int) (a : Option Addr) (len cap : Nat) (w : World) (hL : SlC encU 1 w.heap.size w a len cap l) (hlen : len ≤ 1000) :
  Calls Tryz.prog 90 #[.slice a len cap, .int .u64 n] w (NumsPost (insR l n) w) := by
 have hll := hL.1.1
 have HL := Lib.hid hL
 have HLL := Lib.hid hll
 have hcap : len ≤ cap := hL.2.1
 clear hL hll
 obtain ⟨R, hR⟩ : ∃ R, insR l n = R := ⟨_, rfl⟩
 have HR := Lib.hid hR
 rw [hR]
 clear hR
 go_enter Tryz.func90, Tryz.ntmps90
 go_wp2_with fail
 go_loopw [5] (fun i wr => ∃ k : Nat, i = .int .i64 k ∧ k ≤ len ∧ Hid (R = l.take k ++ insR (l.drop k) n) ∧ Below w.heap.size w wr) (fun i _ => len - (intOf i).toNat)
 case atStart => exact ⟨0, rfl, Nat.zero_le _, by rw [Hid, List.take_zero, List.drop_zero, List.nil_append, HR.out], Below.refl _ _⟩
 case round =>
  obtain ⟨k, rfl, hk, HK, hB⟩ := hrel
  have HB := Lib.hid hB
  have HLr := Lib.hid (HL.out.go hB)
  have htk := fun W => take_u64 a len cap k W (by omega)
  have hfr := fun W => from_u64 a len cap k W hk
  have i0 : (0 : Int) ≤ (k : Int) := by omega
  have HLn := Lib.hid hlen
  by_cases hlt : k < len
  ·obtain ⟨x, hx⟩ : ∃ x, l[k]? = some x := ⟨_, List.getElem?_eq_getElem (by rw [← HLL.out]; exact hlt)⟩
   obtain ⟨b, off, rfl, hbb, hc⟩ := HLr.out.1.2 k x hx
   have c0 : wr.cell? ⟨b, off + k, none⟩ = some (.int .u64 x) := by
    have h1 := hc 0 (by omega)
    simp only [Nat.mul_one, Nat.add_zero] at h1
    exact h1
   have i1 : (k : Int) < (len : Int) := by omega
   have HD := Lib.hid (drop_cons' hx)
   have HX := Lib.hid hx
   clear hc hx hB
   by_cases hxn : x < n
   ·have HS : Hid (R = l.take (k + 1) ++ insR (l.drop (k + 1)) n) := by
     rw [Hid, HK.out, HD.out, insR_less hxn, take_snoc' HX.out, List.append_assoc]
     rfl
    go_wp2_with fail
    go_roundw
    case rel => exact ⟨k + 1, by go_num, by omega, HS.out, HB.out⟩
    case measure => simp [intOf]; omega
   ·by_cases hxe : x = n
    ·have HE : Hid (R = l) := by
      rw [Hid, HK.out, HD.out, hxe]
      conv => rhs; rw [← List.take_append_drop k l, HD.out, hxe]
      simp [insR]
     subst hxe
     go_wp2_with fail
     go_ret
     rw [HE.out]
     unfold NumsPost
     rw [← HLL.out]
     exact ⟨_, cap, rfl, HLr.out, HB.out⟩
    ·have HE : Hid (R = l.take k ++ n :: l.drop k) := by rw [Hid, HK.out, HD.out, insR_at hxn hxe]
     have t1 : (x == n) = false := by rw [beq_eq_false_iff_ne]; exact hxe
     obtain ⟨v1, w1, hap1, hO1, hB1, hz1, -, -⟩ := append_elems Tryz.prog (cap := cap) 22 und_u64 info_u64 rfl (by decide) (World.ownsRow_nil wr wr.heap.size 43 1) (Below.refl wr.heap.size wr) (Nat.le_refl _) (Nat.le_refl _) (fun _ => rfl) (HLr.out.take k hk).1 one_u64 (by omega) (by omega) (by decide)
     rw [List.nil_append, Nat.zero_add] at hO1
     obtain ⟨g2, c2, w2, hap2, hO2, hB2, hz2, -, -⟩ := append_one Tryz.prog 22 und_u64 info_u64 rfl (by decide) (W := w1) hO1 hB1 (Nat.le_refl _) hz1 [.int .u64 n] rfl (by simp [Value.oneCell']) (by omega) (by decide)
     obtain ⟨v3, w3, hap3, hO3, hB3, hz3, -, -⟩ := append_elems Tryz.prog (cap := cap - k) 22 und_u64 info_u64 rfl (by decide) hO2 hB2 (Nat.le_refl _) (Nat.le_of_lt (Nat.lt_of_le_of_lt hz1 hz2)) (fun _ => rfl) (((HLr.out.below hB2).mono hB2.size).drop k hk).1 one_u64 (by omega) (by omega) (by decide)
     have HO3 : Hid (w3.ownsRow wr.heap.size 43 1 v3 (k + 1 + (len - k)) (((l.take k).flatMap encU ++ [n].flatMap encU) ++ (l.drop k).flatMap encU)) := hO3
     have HB3 := Lib.hid hB3
     clear hO1 hO2 hO3 hB1 hB2 hB3
     go_wp2_with fail
     go_ret
     have hO : w3.ownsRow wr.heap.size 43 1 v3 (l.take k ++ n :: l.drop k).length ((l.take k ++ n :: l.drop k).flatMap encU) := by
      have h1 := HO3.out
      rw [← List.flatMap_append, ← List.flatMap_append, List.append_assoc, List.singleton_append] at h1
      have h2 : (l.take k ++ n :: l.drop k).length = k + 1 + (len - k) := by
       have := HLL.out
       rw [List.length_append, List.length_take, List.length_cons, List.length_drop]
       omega
      rw [h2]
      exact h1
     obtain ⟨a', cap', hv, hS, hbl⟩ := slC_of_owns (enc := encU) (fun _ => rfl) hO
     rw [HE.out]
     exact ⟨a', cap', by rw [← hv]; rfl, hS, HB.out.trans (HB3.out.mono HB.out.size)⟩
  ·obtain rfl : k = len := by omega
   have HE : Hid (R = l.take k ++ n :: l.drop k) := by
    rw [Hid, HK.out, List.drop_of_length_le (by rw [← HLL.out]; exact Nat.le_refl _)]
    rfl
   clear hB
   obtain ⟨v1, w1, hap1, hO1, hB1, hz1, -, -⟩ := append_elems Tryz.prog (cap := cap) 22 und_u64 info_u64 rfl (by decide) (World.ownsRow_nil wr wr.heap.size 43 1) (Below.refl wr.heap.size wr) (Nat.le_refl _) (Nat.le_refl _) (fun _ => rfl) (HLr.out.take k hk).1 one_u64 (by omega) (by omega) (by decide)
   rw [List.nil_append, Nat.zero_add] at hO1
   obtain ⟨g2, c2, w2, hap2, hO2, hB2, hz2, -, -⟩ := append_one Tryz.prog 22 und_u64 info_u64 rfl (by decide) (W := w1) hO1 hB1 (Nat.le_refl _) hz1 [.int .u64 n] rfl (by simp [Value.oneCell']) (by omega) (by decide)
   obtain ⟨v3, w3, hap3, hO3, hB3, hz3, -, -⟩ := append_elems Tryz.prog (cap := cap - k) 22 und_u64 info_u64 rfl (by decide) hO2 hB2 (Nat.le_refl _) (Nat.le_of_lt (Nat.lt_of_le_of_lt hz1 hz2)) (fun _ => rfl) (((HLr.out.below hB2).mono hB2.size).drop k hk).1 one_u64 (by omega) (by omega) (by decide)
   have HO3 : Hid (w3.ownsRow wr.heap.size 43 1 v3 (k + 1 + (k - k)) (((l.take k).flatMap encU ++ [n].flatMap encU) ++ (l.drop k).flatMap encU)) := hO3
   have HB3 := Lib.hid hB3
   clear hO1 hO2 hO3 hB1 hB2 hB3
   simp only [Nat.sub_self] at hap3 hfr
   go_wp2_with fail
   go_ret
   have hO : w3.ownsRow wr.heap.size 43 1 v3 (l.take k ++ n :: l.drop k).length ((l.take k ++ n :: l.drop k).flatMap encU) := by
    have h1 := HO3.out
    rw [← List.flatMap_append, ← List.flatMap_append, List.append_assoc, List.singleton_append] at h1
    have h2 : (l.take k ++ n :: l.drop k).length = k + 1 + (k - k) := by
     have := HLL.out
     rw [List.length_append, List.length_take, List.length_cons, List.length_drop]
     omega
    rw [h2]
    exact h1
   obtain ⟨a', cap', hv, hS, hbl⟩ := slC_of_owns (enc := encU) (fun _ => rfl) hO
   rw [HE.out]
   exact ⟨a', cap', by rw [← hv]; rfl, hS, HB.out.trans (HB3.out.mono HB.out.size)⟩
def insAll (l : List Int) : List Int := l.foldl insR []
theorem insAll_snoc (l : List Int) (x : Int) : insAll (l ++ [x]) = insR (insAll l) x := by unfold insAll; rw [List.foldl_append]; rfl
theorem insAll_len (l : List Int) : (insAll l).length ≤ l.length := by
 unfold insAll
 have h : ∀ (l m : List Int), (l.foldl insR m).length ≤ m.length + l.length := by
  intro l
  induction l with
  | nil => intro m; simp
  | cons x l ih =>
   intro m
   have h1 := ih (insR m x)
   have h2 := (insR_len m x).1
   simp only [List.foldl_cons, List.length_cons]
   omega
 simpa using h l []
def ExPost06 (m : List Int) (w : World) (e : Ending) (w' : World) : Prop := ((64 < m.length ∧ e = .returned (.tuple #[.agg #[.slice none 0 0], .int .i64 60])) ∨ (¬ 64 < m.length ∧ ∃ a cap, e = .returned (.tuple #[.agg #[.slice a m.length cap], .int .i64 0]) ∧ SlC encU 1 w'.heap.size w' a m.length cap m)) ∧ Below w.heap.size w w'
set_option maxRecDepth 100000 in
set_option maxHeartbeats 4000000 in
theorem ref06_Of_any (l : List Int) (a : Option Addr) (len cap : Nat) (w : World) (hL : SlC encU 1 w.heap.size w a len cap l) (hlen : len ≤ 900) :
  Calls Tryz.prog 67 #[.slice a len cap] w (ExPost06 (insAll l) w) := by
 have hll := hL.1.1
 obtain ⟨W0, hW0, hXr, hB0, hs0⟩ := boxes1 w #[.slice none 0 0] 24
 have HL := Lib.hid (hL.go hB0)
 have HLL := Lib.hid hll
 have HXr := Lib.hid hXr
 have HB0 := Lib.hid hB0
 obtain ⟨R, hR⟩ : ∃ R, insAll l = R := ⟨_, rfl⟩
 have HR := Lib.hid hR
 rw [hR]
 clear hR hL hll hXr hB0
 go_enter Tryz.func67, Tryz.ntmps67
 go_wp2_with fail
 go_loopw [4, 5] (fun o i wr => ∃ (k : Nat) (oa : Option Addr) (ol oc : Nat), i = .int .i64 k ∧ k ≤ len ∧ o = .slice oa ol oc ∧ ol ≤ k ∧ Hid (ol = (insAll (l.take k)).length) ∧ Hid (SlC encU 1 wr.heap.size wr oa ol oc (insAll (l.take k))) ∧ Below W0.heap.size W0 wr) (fun _ i _ => len - (intOf i).toNat)
 case atStart => exact ⟨0, none, 0, 0, rfl, Nat.zero_le _, rfl, Nat.le_refl _, rfl, SlC.nil, Below.refl _ _⟩
 case round =>
  obtain ⟨k, oa, ol, oc, rfl, hk, rfl, hol, HOl, HO, hB⟩ := hrel
  have HB := Lib.hid hB
  have i0 : (0 : Int) ≤ (k : Int) := by omega
  by_cases hlt : k < len
  ·obtain ⟨x, hx⟩ : ∃ x, l[k]? = some x := ⟨_, List.getElem?_eq_getElem (by rw [← HLL.out]; exact hlt)⟩
   obtain ⟨b, off, rfl, hbb, hc⟩ := (HL.out.go hB).1.2 k x hx
   have c0 : wr.cell? ⟨b, off + k, none⟩ = some (.int .u64 x) := by
    have h1 := hc 0 (by omega)
    simp only [Nat.mul_one, Nat.add_zero] at h1
    exact h1
   have i1 : (k : Int) < (len : Int) := by omega
   have HP := Lib.hid (ref06_put_any x (insAll (l.take k)) oa ol oc wr HO.out (by omega))
   have HS : Hid (insAll (l.take (k + 1)) = insR (insAll (l.take k)) x) := by rw [Hid, take_snoc' hx, insAll_snoc]
   have HLe : Hid ((insAll (l.take (k + 1))).length ≤ k + 1) := by have := insAll_len (l.take (k + 1)); rw [List.length_take] at this; rw [Hid]; omega
   clear hc hx hB
   go_wp2_with fail
   refine HP.out.mono ?_
   rintro e w2 ⟨pa, pc, rfl, hS2, hb2⟩
   have hl2 : (insR (insAll (l.take k)) x).length ≤ k + 1 := by rw [← HS.out]; exact HLe.out
   obtain ⟨n2, hn2⟩ : ∃ n2, (insR (insAll (l.take k)) x).length = n2 := ⟨_, rfl⟩
   have HN2 : Hid (n2 = (insAll (l.take (k + 1))).length) := by rw [Hid, HS.out]; exact hn2.symm
   have HS2 : Hid (SlC encU 1 w2.heap.size w2 pa n2 pc (insAll (l.take (k + 1)))) := by rw [Hid, HS.out, ← hn2]; exact hS2
   rw [hn2] at hl2 ⊢
   clear hS2 hn2 HP
   go_wp2_with fail
   go_roundw
   case rel => exact ⟨k + 1, pa, n2, pc, by go_num, by omega, rfl, hl2, HN2.out, HS2.out, HB.out.trans (hb2.mono HB.out.size)⟩
   case measure => simp [intOf]; omega
  ·obtain rfl : k = len := by omega
   have HF : Hid (insAll (l.take k) = R) := by rw [Hid, List.take_of_length_le (by rw [HLL.out]; exact Nat.le_refl _)]; exact HR.out
   rw [HF.out] at HO HOl
   have hX := known hB (Nat.le_refl _) HXr.out
   have r0 := cCc hX 0
   have f0 := cFz hX 0
   simp at r0
   have hz : w.heap.size < W0.heap.size := by omega
   by_cases h64 : 64 < ol
   ·have e1 : W0.heap.size = W0.heap.size := rfl
    have d0 : wr.setCell ⟨w.heap.size, 0, none⟩ (.slice none 0 0) = wr := set_same hX rfl
    have HL64 : Hid (64 < R.length) := by rw [Hid, ← HOl.out]; exact h64
    clear hX hB e1
    go_wp2_with fail
    refine bodyPost_ret (v := .tuple #[.agg #[.slice none 0 0], .int .i64 60]) (by simp [results, Tryz.f67, go_sem, r0]) rfl ⟨.inl ⟨HL64.out, rfl⟩, HB0.out.trans (HB.out.mono HB0.out.size)⟩
   ·obtain ⟨V, hV⟩ : ∃ V, wr.setCell ⟨w.heap.size, 0, none⟩ (.slice oa ol oc) = V := ⟨_, rfl⟩
    have hXV : V.heap[w.heap.size]? = some (.cells #[.slice oa ol oc] 24 (0, 0)) := by rw [← hV]; exact hSk hX _
    have o0 := cCc hXV 0
    simp at o0
    have HL64 : Hid (¬ 64 < R.length) := by rw [Hid, ← HOl.out]; exact h64
    have hOV : OnlyAt w.heap.size wr V := by rw [← hV]; exact (OnlyAt.refl _ _).set _ _
    have HSV : Hid (SlC encU 1 V.heap.size V oa ol oc R) := slC_apart (i0 := 0) (by decide) (fun x => ⟨x, rfl⟩) hX (fun i u h => by rcases i with _ | i <;> simp at h) hOV HO.out
    have HBV : Hid (Below w.heap.size w V) := by rw [Hid, ← hV]; exact (HB0.out.trans (HB.out.mono HB0.out.size)).setCell (p := ⟨w.heap.size, 0, none⟩) (Nat.le_refl _) _
    clear hX hB hXV hOV
    go_wp2_with fail
    refine bodyPost_ret (v := .tuple #[.agg #[.slice oa ol oc], .int .i64 0]) (by simp [results, Tryz.f67, go_sem, o0]) rfl ⟨.inr ⟨HL64.out, oa, oc, ?_, ?_⟩, HBV.out⟩
    ·rw [HOl.out]
    ·rw [← HOl.out]; exact HSV.out
end Go.Proofs.YtcbbenncdainfaaGreatDoor
namespace Go.Proofs.YtcbbenncdainfaaGreatDoor
open Go Go.RowKit Go.Shelf
theorem insAll_mem (l : List Int) (y : Int) : y ∈ insAll l ↔ y ∈ l := by
 unfold insAll
 have h : ∀ (l m : List Int), y ∈ l.foldl insR m ↔ y ∈ m ∨ y ∈ l := by
  intro l
  induction l with
  | nil => intro m; simp
  | cons x l ih =>
   intro m
   rw [List.foldl_cons, ih, insR_mem, List.mem_cons]
   constructor
   ·rintro ((h | h) | h)
    ·exact .inr (.inl h)
    ·exact .inl h
    ·exact .inr (.inr h)
   ·rintro (h | h | h)
    ·exact .inl (.inr h)
    ·exact .inl (.inl h)
    ·exact .inr h
 simpa using h l []
theorem insAll_up (l : List Int) : Up (insAll l) := by
 unfold insAll
 have h : ∀ (l m : List Int), Up m → Up (l.foldl insR m) := by
  intro l
  induction l with
  | nil => intro m h; exact h
  | cons x l ih => intro m h; exact ih _ (insR_up m x h)
 exact h l [] List.Pairwise.nil
theorem insAll_gather {l m : List Int} (hu : Up l) (hl : l.length ≤ 64) : match exGather l m with
  | some q => insAll (l ++ m) = q ∧ ¬ 64 < (insAll (l ++ m)).length
  | none => 64 < (insAll (l ++ m)).length := by
 cases h : exGather l m with
 | some q =>
  obtain ⟨q1, q2, q3⟩ := gather_some m l q hu hl h
  have e : insAll (l ++ m) = q := up_ext _ _ (insAll_up _) q1 (fun y => by rw [insAll_mem, q3, List.mem_append])
  exact ⟨e, by rw [e]; omega⟩
 | none => exact gather_none m l hu h _ (insAll_up _) (fun y hy => by rw [insAll_mem, List.mem_append]; exact hy)
def GatherPost06 (r : Option (List Int)) (w : World) (e : Ending) (w' : World) : Prop := (match r with
  | some q => ∃ a cap, e = .returned (.tuple #[.agg #[.slice a q.length cap], .int .i64 0]) ∧ SlC encU 1 w'.heap.size w' a q.length cap q
  | none => e = .returned (.tuple #[.agg #[.slice none 0 0], .int .i64 60])) ∧ Below w.heap.size w w'
theorem gather06 {l m : List Int} (hu : Up l) (hl : l.length ≤ 64) {w w' : World} {e : Ending} (h : ExPost06 (insAll (l ++ m)) w e w') : GatherPost06 (exGather l m) w e w' := by
 obtain ⟨h1, h3⟩ := h
 have hg := insAll_gather (m := m) hu hl
 refine ⟨?_, h3⟩
 cases hq : exGather l m with
 | some q =>
  rw [hq] at hg
  obtain ⟨g1, g2⟩ := hg
  rcases h1 with ⟨h1, -⟩ | ⟨-, a, cap, h1, h2⟩
  ·exact absurd h1 g2
  ·rw [g1] at h1 h2
   exact ⟨a, cap, h1, h2⟩
 | none =>
  rw [hq] at hg
  rcases h1 with ⟨-, h1⟩ | ⟨h1, -⟩
  ·exact h1
  ·exact absurd hg h1
attribute [-go_sem] Builtin.append_
theorem gather_store {q : Option (List Int)} {w w4 w5 : World} {e : Ending} {rb : Nat} (h : GatherPost06 q w4 e w5) (hX : w5.heap[rb]? = some (.cells #[.slice none 0 0] 24 (0, 0))) (hB : Below w.heap.size w w5) (hn : w.heap.size ≤ rb) :
  ∃ qa ql qc ev V, e = .returned (.tuple #[.agg #[.slice qa ql qc], .int .i64 ev]) ∧ w5.setCell ⟨rb, 0, none⟩ (.slice qa ql qc) = V ∧ V.cell? ⟨rb, 0, none⟩ = some (.slice qa ql qc) ∧ GatherPost06 q w (.returned (.tuple #[.agg #[.slice qa ql qc], .int .i64 ev])) V := by
 obtain ⟨h1, -⟩ := h
 have hBV : ∀ v, Below w.heap.size w (w5.setCell ⟨rb, 0, none⟩ v) := fun v => hB.setCell (p := ⟨rb, 0, none⟩) hn v
 cases q with
 | none => exact ⟨none, 0, 0, 60, _, h1, rfl, cCc (hSk hX _) 0, rfl, hBV _⟩
 | some q =>
  obtain ⟨qa, qc, h2, h3⟩ := h1
  refine ⟨qa, q.length, qc, 0, _, h2, rfl, cCc (hSk hX _) 0, ⟨qa, qc, rfl, ?_⟩, hBV _⟩
  exact slC_apart (i0 := 0) (by decide) (fun x => ⟨x, rfl⟩) hX (fun i u h => by rcases i with _ | i <;> simp at h) ((OnlyAt.refl _ _).set _ _) h3
set_option maxRecDepth 100000 in
set_option maxHeartbeats 1000000 in
theorem ref06_Add_any (n : Int) (l : List Int) (p : Option Addr) (len cap : Nat) (w : World) (hL : SlC encU 1 w.heap.size w p len cap l) (hR : exRight l = true) (hU : U64s l) :
  Calls Tryz.prog 48 #[.agg #[.slice p len cap], .int .u64 n] w (GatherPost06 (exGather l [n]) w) := by
 obtain ⟨hup, h64⟩ := exRight_up l hR
 have HPo : Hid (∀ w e w', ExPost06 (insAll (l ++ [n])) w e w' → GatherPost06 (exGather l [n]) w e w') := fun w e w' h => gather06 hup h64 h
 have hll := hL.1.1
 obtain ⟨W0, hW0, hX0, hXr, hB0, hs0⟩ := boxes2 w #[.slice p len cap] 24 #[.slice none 0 0] 24
 have hRt := ref06_Right_any p len cap l W0 (hL.go hB0).1 (by unfold maxLen; omega) hU
 rw [hR] at hRt
 have HL := Lib.hid (hL.go hB0)
 have HLL := Lib.hid hll
 have HX0 := Lib.hid hX0
 have HXr := Lib.hid hXr
 have HB0 := Lib.hid hB0
 have h64' : len ≤ 64 := by omega
 have c0 : W0.cell? ⟨w.heap.size, 0, none⟩ = some (.slice p len cap) := cCc hX0 0
 clear hX0 hXr hB0 hL hll hR hU hup h64
 go_enter Tryz.func48, Tryz.ntmps48
 go_wp2_with fail
 refine hRt.mono ?_
 rintro e w1 ⟨rfl, hb1⟩
 have hX1 := known hb1 (Nat.le_refl _) HX0.out
 have d0 : w1.cell? ⟨w.heap.size, 0, none⟩ = some (.slice p len cap) := cCc hX1 0
 have HL1 := Lib.hid (HL.out.go hb1)
 obtain ⟨v2, w2, hap2, hO2, hB2, hz2, -, -⟩ := append_elems Tryz.prog (cap := cap) 22 und_u64 info_u64 rfl (by decide) (World.ownsRow_nil w1 w1.heap.size 43 1) (Below.refl w1.heap.size w1) (Nat.le_refl _) (Nat.le_refl _) (fun _ => rfl) HL1.out.1 one_u64 (by omega) (by omega) (by decide)
 rw [List.nil_append, Nat.zero_add] at hO2
 obtain ⟨g3, c3, w3, hap3, hO3, hB3, hz3, -, -⟩ := append_one Tryz.prog 22 und_u64 info_u64 rfl (by decide) (W := w2) hO2 hB2 (Nat.le_refl _) hz2 [.int .u64 n] rfl (by simp [Value.oneCell']) (by omega) (by decide)
 have hO : w3.ownsRow w1.heap.size 43 1 (.slice (some ⟨g3, 0, none⟩) (len + 1) c3) (l ++ [n]).length ((l ++ [n]).flatMap encU) := by
  rw [List.length_append, List.flatMap_append, ← HLL.out]
  exact hO3
 obtain ⟨a', cap', hv, hS, -⟩ := slC_of_owns (enc := encU) (fun _ => rfl) hO
 injection hv with hv1 hv2 hv3
 subst hv1 hv3
 have hOf := ref06_Of_any (l ++ [n]) _ _ _ w3 hS (by have := HLL.out; rw [List.length_append]; simp; omega)
 rw [List.length_append, List.length_singleton, ← HLL.out] at hOf
 have HOf := Lib.hid hOf
 have hb01 := hb1.trans (hB3.mono hb1.size)
 have HXr3 := Lib.hid (known hb01 (Nat.le_refl _) HXr.out)
 have HB03 : Hid (Below w.heap.size w w3) := HB0.out.trans (hb01.mono HB0.out.size)
 clear hX1 hO2 hB2 hO3 hB3 hO hS hOf hb01 hRt c0 hv2 hb1
 go_wp2_with fail
 refine HOf.out.mono ?_
 intro e w4 h4
 have hb4 := h4.2
 have hX4 := known hb4 (Nat.le_refl _) HXr3.out
 have f0 := cFz hX4 0
 have r0 : w4.cell? ⟨w.heap.size + 1, 0, none⟩ = some (.slice none 0 0) := cCc hX4 0
 obtain ⟨qa, ql, qc, ev, V, rfl, hV, o0, hP⟩ := gather_store (w := w) (HPo.out _ _ _ h4) hX4 (HB03.out.trans (hb4.mono HB03.out.size)) (Nat.le_succ _)
 have HPV := Lib.hid hP
 clear hX4 hb4 hP h4
 go_wp2_with fail
 exact bodyPost_ret (v := .tuple #[.agg #[.slice qa ql qc], .int .i64 ev]) (by simp [results, Tryz.f48, go_sem, o0]) rfl HPV.out
set_option maxRecDepth 100000 in
set_option maxHeartbeats 2000000 in
theorem ref06_Count_any (l : List Int) (p : Option Addr) (len cap : Nat) (w : World) (hL : SlC encU 1 w.heap.size w p len cap l) (hR : exRight l = true) (hU : U64s l) :
  Calls Tryz.prog 58 #[.agg #[.slice p len cap]] w fun e w' => e = .returned (.int .u64 l.length) ∧ Below w.heap.size w w' := by
 obtain ⟨-, h64⟩ := exRight_up l hR
 have hll := hL.1.1
 obtain ⟨W0, hW0, hX0, hB0, hs0⟩ := boxes1 w #[.slice p len cap] 24
 have hRt := ref06_Right_any p len cap l W0 (hL.go hB0).1 (by unfold maxLen; omega) hU
 rw [hR] at hRt
 have HX0 := Lib.hid hX0
 have HB0 := Lib.hid hB0
 have HLL := Lib.hid hll
 have h64' : len ≤ 64 := by omega
 have c0 : W0.cell? ⟨w.heap.size, 0, none⟩ = some (.slice p len cap) := cCc hX0 0
 clear hX0 hB0 hL hll hR hU h64
 go_enter Tryz.func58, Tryz.ntmps58
 go_wp2_with fail
 refine hRt.mono ?_
 rintro e w1 ⟨rfl, hb1⟩
 have hX1 := known hb1 (Nat.le_refl _) HX0.out
 have d0 : w1.cell? ⟨w.heap.size, 0, none⟩ = some (.slice p len cap) := cCc hX1 0
 have HB1 := Lib.hid hb1
 have hu : IntKind.u64.wrap (len : Int) = (len : Int) := u64_small _ (by omega) (by omega)
 clear hX1 hb1 hRt
 go_wp2_with fail
 go_ret
 exact ⟨by rw [← HLL.out]; rfl, HB0.out.trans (HB1.out.mono HB0.out.size)⟩
end Go.Proofs.YtcbbenncdainfaaGreatDoor
