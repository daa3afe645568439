/- The reference of layer 6: put, Of, Add, Merge, Count, at lists that are right. The reference of layer 6: Add, Merge, Count, at right lists. Printed by gen_db.py. The reference of layer 10: Add, at any sketch. Printed by gen_dm.py. Laws of layer 10: shown. -/
import Derived.Test.YtcbbenncdainfaaGreatDoorZDL
namespace Go.Proofs.YtcbbenncdainfaaGreatDoor
open Go Go.RowKit Go.Shelf
theorem take_u64 (a : Option Addr) (len cap m : Nat) (w : World) (h : m ≤ cap) : (Instr.slice 22 (.slice a len cap) none (some (.int .i64 (m : Int))) none).run Tryz.prog w = .ok (.slice a m cap) w := by
 have hz := dropA_zero a cap 1
 unfold dropA at hz
 have hs : (sizeOf 43).run Tryz.prog w = .ok 1 w := by kernel_rfl
 have he : Tryz.prog.elem 22 = 43 := by kernel_rfl
 rw [run_slice_h (t := 22) (a := a) (len := len) (cap := cap) (w := w) (ht := by rw [he]; exact und_u64) (kh := .i64) (h := (m : Int)) (by omega) (by omega), he, hs]
 simp only [Result.andThen, sliced, Int.toNat_natCast, Nat.sub_zero, hz]
def NumsPost (m : List Int) (w : World) (e : Ending) (w' : World) : Prop := ∃ a cap, e = .returned (.slice a m.length cap) ∧ SlC encU 1 w'.heap.size w' a m.length cap m ∧ Below w.heap.size w w'
theorem insR_less {x n : Int} {r : List Int} (h : x < n) : insR (x :: r) n = x :: insR r n := by simp [insR, h]
theorem insR_at {x n : Int} {r : List Int} (h : ¬ x < n) (h2 : x ≠ n) : insR (x :: r) n = n :: x :: r := by simp [insR, h, h2]
attribute [-go_sem] Builtin.append_ run_slice_any run_slice_h run_slice_l
set_option maxRecDepth 100000 in
set_option maxHeartbeats 4000000 in
theorem ref06_put_any (n : Int) (l : List Int) (a : Option Addr) (len cap : Nat) (w : World) (hL : SlC encU 1 w.heap.size w a len cap l) (hlen : len ≤ 1000) :
  Calls Tryz.prog 90 #[.slice a len cap, .int .u64 n] w (NumsPost (insR l n) w) := by
 have hll := hL.1.1
 have HL := Lib.hid hL
 have HLL := Lib.hid hll
 have hcap : len ≤ cap := hL.2.1
 clear hL hll
 obtain ⟨R, hR⟩ : ∃ R, insR l n = R := ⟨_, rfl⟩
 have HR := Lib.hid hR
 rw [hR]
 clear hR
 go_enter Tryz.func90, Tryz.ntmps90
 go_wp2_with fail
 go_loopw [5] (fun i wr => ∃ k : Nat, i = .int .i64 k ∧ k ≤ len ∧ Hid (R = l.take k ++ insR (l.drop k) n) ∧ Below w.heap.size w wr) (fun i _ => len - (intOf i).toNat)
 case atStart => exact ⟨0, rfl, Nat.zero_le _, by rw [Hid, List.take_zero, List.drop_zero, List.nil_append, HR.out], Below.refl _ _⟩
 case round =>
  obtain ⟨k, rfl, hk, HK, hB⟩ := hrel
  have HB := Lib.hid hB
  have HLr := Lib.hid (HL.out.go hB)
  have htk := fun W => take_u64 a len cap k W (by omega)
  have hfr := fun W => from_u64 a len cap k W hk
  have i0 : (0 : Int) ≤ (k : Int) := by omega
  have HLn := Lib.hid hlen
  by_cases hlt : k < len
  ·obtain ⟨x, hx⟩ : ∃ x, l[k]? = some x := ⟨_, List.getElem?_eq_getElem (by rw [← HLL.out]; exact hlt)⟩
   obtain ⟨b, off, rfl, hbb, hc⟩ := HLr.out.1.2 k x hx
   have c0 : wr.cell? ⟨b, off + k, none⟩ = some (.int .u64 x) := by
    have h1 := hc 0 (by omega)
    simp only [Nat.mul_one, Nat.add_zero] at h1
    exact h1
   have i1 : (k : Int) < (len : Int) := by omega
   have HD := Lib.hid (drop_cons' hx)
   have HX := Lib.hid hx
   clear hc hx hB
   by_cases hxn : x < n
   ·have HS : Hid (R = l.take (k + 1) ++ insR (l.drop (k + 1)) n) := by
     rw [Hid, HK.out, HD.out, insR_less hxn, take_snoc' HX.out, List.append_assoc]
     rfl
    go_wp2_with fail
    go_roundw
    case rel => exact ⟨k + 1, by go_num, by omega, HS.out, HB.out⟩
    case measure => simp [intOf]; omega
   ·by_cases hxe : x = n
    ·have HE : Hid (R = l) := by
      rw [Hid, HK.out, HD.out, hxe]
      conv => rhs; rw [← List.take_append_drop k l, HD.out, hxe]
      simp [insR]
     subst hxe
     go_wp2_with fail
     go_ret
     rw [HE.out]
     unfold NumsPost
     rw [← HLL.out]
     exact ⟨_, cap, rfl, HLr.out, HB.out⟩
    ·have HE : Hid (R = l.take k ++ n :: l.drop k) := by rw [Hid, HK.out, HD.out, insR_at hxn hxe]
     have t1 : (x == n) = false := by rw [beq_eq_false_iff_ne]; exact hxe
     obtain ⟨v1, w1, hap1, hO1, hB1, hz1, -, -⟩ := append_elems Tryz.prog (cap := cap) 22 und_u64 info_u64 rfl (by decide) (World.ownsRow_nil wr wr.heap.size 43 1) (Below.refl wr.heap.size wr) (Nat.le_refl _) (Nat.le_refl _) (fun _ => rfl) (HLr.out.take k hk).1 one_u64 (by omega) (by omega) (by decide)
     rw [List.nil_append, Nat.zero_add] at hO1
     obtain ⟨g2, c2, w2, hap2, hO2, hB2, hz2, -, -⟩ := append_one Tryz.prog 22 und_u64 info_u64 rfl (by decide) (W := w1) hO1 hB1 (Nat.le_refl _) hz1 [.int .u64 n] rfl (by simp [Value.oneCell']) (by omega) (by decide)
     obtain ⟨v3, w3, hap3, hO3, hB3, hz3, -, -⟩ := append_elems Tryz.prog (cap := cap - k) 22 und_u64 info_u64 rfl (by decide) hO2 hB2 (Nat.le_refl _) (Nat.le_of_lt (Nat.lt_of_le_of_lt hz1 hz2)) (fun _ => rfl) (((HLr.out.below hB2).mono hB2.size).drop k hk).1 one_u64 (by omega) (by omega) (by decide)
     have HO3 : Hid (w3.ownsRow wr.heap.size 43 1 v3 (k + 1 + (len - k)) (((l.take k).flatMap encU ++ [n].flatMap encU) ++ (l.drop k).flatMap encU)) := hO3
     have HB3 := Lib.hid hB3
     clear hO1 hO2 hO3 hB1 hB2 hB3
     go_wp2_with fail
     go_ret
     have hO : w3.ownsRow wr.heap.size 43 1 v3 (l.take k ++ n :: l.drop k).length ((l.take k ++ n :: l.drop k).flatMap encU) := by
      have h1 := HO3.out
      rw [← List.flatMap_append, ← List.flatMap_append, List.append_assoc, List.singleton_append] at h1
      have h2 : (l.take k ++ n :: l.drop k).length = k + 1 + (len - k) := by
       have := HLL.out
       rw [List.length_append, List.length_take, List.length_cons, List.length_drop]
       omega
      rw [h2]
      exact h1
     obtain ⟨a', cap', hv, hS, hbl⟩ := slC_of_owns (enc := encU) (fun _ => rfl) hO
     rw [HE.out]
     exact ⟨a', cap', by rw [← hv]; rfl, hS, HB.out.trans (HB3.out.mono HB.out.size)⟩
  ·obtain rfl : k = len := by omega
   have HE : Hid (R = l.take k ++ n :: l.drop k) := by
    rw [Hid, HK.out, List.drop_of_length_le (by rw [← HLL.out]; exact Nat.le_refl _)]
    rfl
   clear hB
   obtain ⟨v1, w1, hap1, hO1, hB1, hz1, -, -⟩ := append_elems Tryz.prog (cap := cap) 22 und_u64 info_u64 rfl (by decide) (World.ownsRow_nil wr wr.heap.size 43 1) (Below.refl wr.heap.size wr) (Nat.le_refl _) (Nat.le_refl _) (fun _ => rfl) (HLr.out.take k hk).1 one_u64 (by omega) (by omega) (by decide)
   rw [List.nil_append, Nat.zero_add] at hO1
   obtain ⟨g2, c2, w2, hap2, hO2, hB2, hz2, -, -⟩ := append_one Tryz.prog 22 und_u64 info_u64 rfl (by decide) (W := w1) hO1 hB1 (Nat.le_refl _) hz1 [.int .u64 n] rfl (by simp [Value.oneCell']) (by omega) (by decide)
   obtain ⟨v3, w3, hap3, hO3, hB3, hz3, -, -⟩ := append_elems Tryz.prog (cap := cap - k) 22 und_u64 info_u64 rfl (by decide) hO2 hB2 (Nat.le_refl _) (Nat.le_of_lt (Nat.lt_of_le_of_lt hz1 hz2)) (fun _ => rfl) (((HLr.out.below hB2).mono hB2.size).drop k hk).1 one_u64 (by omega) (by omega) (by decide)
   have HO3 : Hid (w3.ownsRow wr.heap.size 43 1 v3 (k + 1 + (k - k)) (((l.take k).flatMap encU ++ [n].flatMap encU) ++ (l.drop k).flatMap encU)) := hO3
   have HB3 := Lib.hid hB3
   clear hO1 hO2 hO3 hB1 hB2 hB3
   simp only [Nat.sub_self] at hap3 hfr
   go_wp2_with fail
   go_ret
   have hO : w3.ownsRow wr.heap.size 43 1 v3 (l.take k ++ n :: l.drop k).length ((l.take k ++ n :: l.drop k).flatMap encU) := by
    have h1 := HO3.out
    rw [← List.flatMap_append, ← List.flatMap_append, List.append_assoc, List.singleton_append] at h1
    have h2 : (l.take k ++ n :: l.drop k).length = k + 1 + (k - k) := by
     have := HLL.out
     rw [List.length_append, List.length_take, List.length_cons, List.length_drop]
     omega
    rw [h2]
    exact h1
   obtain ⟨a', cap', hv, hS, hbl⟩ := slC_of_owns (enc := encU) (fun _ => rfl) hO
   rw [HE.out]
   exact ⟨a', cap', by rw [← hv]; rfl, hS, HB.out.trans (HB3.out.mono HB.out.size)⟩
def insAll (l : List Int) : List Int := l.foldl insR []
theorem insAll_snoc (l : List Int) (x : Int) : insAll (l ++ [x]) = insR (insAll l) x := by unfold insAll; rw [List.foldl_append]; rfl
theorem insAll_len (l : List Int) : (insAll l).length ≤ l.length := by
 unfold insAll
 have h : ∀ (l m : List Int), (l.foldl insR m).length ≤ m.length + l.length := by
  intro l
  induction l with
  | nil => intro m; simp
  | cons x l ih =>
   intro m
   have h1 := ih (insR m x)
   have h2 := (insR_len m x).1
   simp only [List.foldl_cons, List.length_cons]
   omega
 simpa using h l []
def ExPost06 (m : List Int) (w : World) (e : Ending) (w' : World) : Prop := ((64 < m.length ∧ e = .returned (.tuple #[.agg #[.slice none 0 0], .int .i64 60])) ∨ (¬ 64 < m.length ∧ ∃ a cap, e = .returned (.tuple #[.agg #[.slice a m.length cap], .int .i64 0]) ∧ SlC encU 1 w'.heap.size w' a m.length cap m)) ∧ Below w.heap.size w w'
set_option maxRecDepth 100000 in
set_option maxHeartbeats 4000000 in
theorem ref06_Of_any (l : List Int) (a : Option Addr) (len cap : Nat) (w : World) (hL : SlC encU 1 w.heap.size w a len cap l) (hlen : len ≤ 900) :
  Calls Tryz.prog 67 #[.slice a len cap] w (ExPost06 (insAll l) w) := by
 have hll := hL.1.1
 obtain ⟨W0, hW0, hXr, hB0, hs0⟩ := boxes1 w #[.slice none 0 0] 24
 have HL := Lib.hid (hL.go hB0)
 have HLL := Lib.hid hll
 have HXr := Lib.hid hXr
 have HB0 := Lib.hid hB0
 obtain ⟨R, hR⟩ : ∃ R, insAll l = R := ⟨_, rfl⟩
 have HR := Lib.hid hR
 rw [hR]
 clear hR hL hll hXr hB0
 go_enter Tryz.func67, Tryz.ntmps67
 go_wp2_with fail
 go_loopw [4, 5] (fun o i wr => ∃ (k : Nat) (oa : Option Addr) (ol oc : Nat), i = .int .i64 k ∧ k ≤ len ∧ o = .slice oa ol oc ∧ ol ≤ k ∧ Hid (ol = (insAll (l.take k)).length) ∧ Hid (SlC encU 1 wr.heap.size wr oa ol oc (insAll (l.take k))) ∧ Below W0.heap.size W0 wr) (fun _ i _ => len - (intOf i).toNat)
 case atStart => exact ⟨0, none, 0, 0, rfl, Nat.zero_le _, rfl, Nat.le_refl _, rfl, SlC.nil, Below.refl _ _⟩
 case round =>
  obtain ⟨k, oa, ol, oc, rfl, hk, rfl, hol, HOl, HO, hB⟩ := hrel
  have HB := Lib.hid hB
  have i0 : (0 : Int) ≤ (k : Int) := by omega
  by_cases hlt : k < len
  ·obtain ⟨x, hx⟩ : ∃ x, l[k]? = some x := ⟨_, List.getElem?_eq_getElem (by rw [← HLL.out]; exact hlt)⟩
   obtain ⟨b, off, rfl, hbb, hc⟩ := (HL.out.go hB).1.2 k x hx
   have c0 : wr.cell? ⟨b, off + k, none⟩ = some (.int .u64 x) := by
    have h1 := hc 0 (by omega)
    simp only [Nat.mul_one, Nat.add_zero] at h1
    exact h1
   have i1 : (k : Int) < (len : Int) := by omega
   have HP := Lib.hid (ref06_put_any x (insAll (l.take k)) oa ol oc wr HO.out (by omega))
   have HS : Hid (insAll (l.take (k + 1)) = insR (insAll (l.take k)) x) := by rw [Hid, take_snoc' hx, insAll_snoc]
   have HLe : Hid ((insAll (l.take (k + 1))).length ≤ k + 1) := by have := insAll_len (l.take (k + 1)); rw [List.length_take] at this; rw [Hid]; omega
   clear hc hx hB
   go_wp2_with fail
   refine HP.out.mono ?_
   rintro e w2 ⟨pa, pc, rfl, hS2, hb2⟩
   have hl2 : (insR (insAll (l.take k)) x).length ≤ k + 1 := by rw [← HS.out]; exact HLe.out
   obtain ⟨n2, hn2⟩ : ∃ n2, (insR (insAll (l.take k)) x).length = n2 := ⟨_, rfl⟩
   have HN2 : Hid (n2 = (insAll (l.take (k + 1))).length) := by rw [Hid, HS.out]; exact hn2.symm
   have HS2 : Hid (SlC encU 1 w2.heap.size w2 pa n2 pc (insAll (l.take (k + 1)))) := by rw [Hid, HS.out, ← hn2]; exact hS2
   rw [hn2] at hl2 ⊢
   clear hS2 hn2 HP
   go_wp2_with fail
   go_roundw
   case rel => exact ⟨k + 1, pa, n2, pc, by go_num, by omega, rfl, hl2, HN2.out, HS2.out, HB.out.trans (hb2.mono HB.out.size)⟩
   case measure => simp [intOf]; omega
  ·obtain rfl : k = len := by omega
   have HF : Hid (insAll (l.take k) = R) := by rw [Hid, List.take_of_length_le (by rw [HLL.out]; exact Nat.le_refl _)]; exact HR.out
   rw [HF.out] at HO HOl
   have hX := known hB (Nat.le_refl _) HXr.out
   have r0 := cCc hX 0
   have f0 := cFz hX 0
   simp at r0
   have hz : w.heap.size < W0.heap.size := by omega
   by_cases h64 : 64 < ol
   ·have e1 : W0.heap.size = W0.heap.size := rfl
    have d0 : wr.setCell ⟨w.heap.size, 0, none⟩ (.slice none 0 0) = wr := set_same hX rfl
    have HL64 : Hid (64 < R.length) := by rw [Hid, ← HOl.out]; exact h64
    clear hX hB e1
    go_wp2_with fail
    refine bodyPost_ret (v := .tuple #[.agg #[.slice none 0 0], .int .i64 60]) (by simp [results, Tryz.f67, go_sem, r0]) rfl ⟨.inl ⟨HL64.out, rfl⟩, HB0.out.trans (HB.out.mono HB0.out.size)⟩
   ·obtain ⟨V, hV⟩ : ∃ V, wr.setCell ⟨w.heap.size, 0, none⟩ (.slice oa ol oc) = V := ⟨_, rfl⟩
    have hXV : V.heap[w.heap.size]? = some (.cells #[.slice oa ol oc] 24 (0, 0)) := by rw [← hV]; exact hSk hX _
    have o0 := cCc hXV 0
    simp at o0
    have HL64 : Hid (¬ 64 < R.length) := by rw [Hid, ← HOl.out]; exact h64
    have hOV : OnlyAt w.heap.size wr V := by rw [← hV]; exact (OnlyAt.refl _ _).set _ _
    have HSV : Hid (SlC encU 1 V.heap.size V oa ol oc R) := slC_apart (i0 := 0) (by decide) (fun x => ⟨x, rfl⟩) hX (fun i u h => by rcases i with _ | i <;> simp at h) hOV HO.out
    have HBV : Hid (Below w.heap.size w V) := by rw [Hid, ← hV]; exact (HB0.out.trans (HB.out.mono HB0.out.size)).setCell (p := ⟨w.heap.size, 0, none⟩) (Nat.le_refl _) _
    clear hX hB hXV hOV
    go_wp2_with fail
    refine bodyPost_ret (v := .tuple #[.agg #[.slice oa ol oc], .int .i64 0]) (by simp [results, Tryz.f67, go_sem, o0]) rfl ⟨.inr ⟨HL64.out, oa, oc, ?_, ?_⟩, HBV.out⟩
    ·rw [HOl.out]
    ·rw [← HOl.out]; exact HSV.out
end Go.Proofs.YtcbbenncdainfaaGreatDoor
namespace Go.Proofs.YtcbbenncdainfaaGreatDoor
open Go Go.RowKit Go.Shelf
theorem insAll_mem (l : List Int) (y : Int) : y ∈ insAll l ↔ y ∈ l := by
 unfold insAll
 have h : ∀ (l m : List Int), y ∈ l.foldl insR m ↔ y ∈ m ∨ y ∈ l := by
  intro l
  induction l with
  | nil => intro m; simp
  | cons x l ih =>
   intro m
   rw [List.foldl_cons, ih, insR_mem, List.mem_cons]
   constructor
   ·rintro ((h | h) | h)
    ·exact .inr (.inl h)
    ·exact .inl h
    ·exact .inr (.inr h)
   ·rintro (h | h | h)
    ·exact .inl (.inr h)
    ·exact .inl (.inl h)
    ·exact .inr h
 simpa using h l []
theorem insAll_up (l : List Int) : Up (insAll l) := by
 unfold insAll
 have h : ∀ (l m : List Int), Up m → Up (l.foldl insR m) := by
  intro l
  induction l with
  | nil => intro m h; exact h
  | cons x l ih => intro m h; exact ih _ (insR_up m x h)
 exact h l [] List.Pairwise.nil
theorem insAll_gather {l m : List Int} (hu : Up l) (hl : l.length ≤ 64) : match exGather l m with
  | some q => insAll (l ++ m) = q ∧ ¬ 64 < (insAll (l ++ m)).length
  | none => 64 < (insAll (l ++ m)).length := by
 cases h : exGather l m with
 | some q =>
  obtain ⟨q1, q2, q3⟩ := gather_some m l q hu hl h
  have e : insAll (l ++ m) = q := up_ext _ _ (insAll_up _) q1 (fun y => by rw [insAll_mem, q3, List.mem_append])
  exact ⟨e, by rw [e]; omega⟩
 | none => exact gather_none m l hu h _ (insAll_up _) (fun y hy => by rw [insAll_mem, List.mem_append]; exact hy)
def GatherPost06 (r : Option (List Int)) (w : World) (e : Ending) (w' : World) : Prop := (match r with
  | some q => ∃ a cap, e = .returned (.tuple #[.agg #[.slice a q.length cap], .int .i64 0]) ∧ SlC encU 1 w'.heap.size w' a q.length cap q
  | none => e = .returned (.tuple #[.agg #[.slice none 0 0], .int .i64 60])) ∧ Below w.heap.size w w'
theorem gather06 {l m : List Int} (hu : Up l) (hl : l.length ≤ 64) {w w' : World} {e : Ending} (h : ExPost06 (insAll (l ++ m)) w e w') : GatherPost06 (exGather l m) w e w' := by
 obtain ⟨h1, h3⟩ := h
 have hg := insAll_gather (m := m) hu hl
 refine ⟨?_, h3⟩
 cases hq : exGather l m with
 | some q =>
  rw [hq] at hg
  obtain ⟨g1, g2⟩ := hg
  rcases h1 with ⟨h1, -⟩ | ⟨-, a, cap, h1, h2⟩
  ·exact absurd h1 g2
  ·rw [g1] at h1 h2
   exact ⟨a, cap, h1, h2⟩
 | none =>
  rw [hq] at hg
  rcases h1 with ⟨-, h1⟩ | ⟨h1, -⟩
  ·exact h1
  ·exact absurd hg h1
attribute [-go_sem] Builtin.append_
theorem gather_store {q : Option (List Int)} {w w4 w5 : World} {e : Ending} {rb : Nat} (h : GatherPost06 q w4 e w5) (hX : w5.heap[rb]? = some (.cells #[.slice none 0 0] 24 (0, 0))) (hB : Below w.heap.size w w5) (hn : w.heap.size ≤ rb) :
  ∃ qa ql qc ev V, e = .returned (.tuple #[.agg #[.slice qa ql qc], .int .i64 ev]) ∧ w5.setCell ⟨rb, 0, none⟩ (.slice qa ql qc) = V ∧ V.cell? ⟨rb, 0, none⟩ = some (.slice qa ql qc) ∧ GatherPost06 q w (.returned (.tuple #[.agg #[.slice qa ql qc], .int .i64 ev])) V := by
 obtain ⟨h1, -⟩ := h
 have hBV : ∀ v, Below w.heap.size w (w5.setCell ⟨rb, 0, none⟩ v) := fun v => hB.setCell (p := ⟨rb, 0, none⟩) hn v
 cases q with
 | none => exact ⟨none, 0, 0, 60, _, h1, rfl, cCc (hSk hX _) 0, rfl, hBV _⟩
 | some q =>
  obtain ⟨qa, qc, h2, h3⟩ := h1
  refine ⟨qa, q.length, qc, 0, _, h2, rfl, cCc (hSk hX _) 0, ⟨qa, qc, rfl, ?_⟩, hBV _⟩
  exact slC_apart (i0 := 0) (by decide) (fun x => ⟨x, rfl⟩) hX (fun i u h => by rcases i with _ | i <;> simp at h) ((OnlyAt.refl _ _).set _ _) h3
set_option maxRecDepth 100000 in
set_option maxHeartbeats 4000000 in
theorem ref06_Merge_any (l m : List Int) (p : Option Addr) (len cap : Nat) (q : Option Addr) (len2 cap2 : Nat) (w : World) (hL : SlC encU 1 w.heap.size w p len cap l) (hM : SlC encU 1 w.heap.size w q len2 cap2 m) (hR : exRight l = true) (hR2 : exRight m = true) (hU : U64s l) (hU2 : U64s m) :
  Calls Tryz.prog 34 #[.agg #[.slice p len cap], .agg #[.slice q len2 cap2]] w (GatherPost06 (exGather l m) w) := by
 obtain ⟨hup, h64⟩ := exRight_up l hR
 obtain ⟨-, h64m⟩ := exRight_up m hR2
 have HPo : Hid (∀ w e w', ExPost06 (insAll (l ++ m)) w e w' → GatherPost06 (exGather l m) w e w') := fun w e w' h => gather06 hup h64 h
 have hll := hL.1.1
 have hml := hM.1.1
 obtain ⟨W0, hW0, hX0, hY0, hXr, hB0, hs0⟩ := boxes3 w #[.slice p len cap] 24 #[.slice q len2 cap2] 24 #[.slice none 0 0] 24
 have hRt := ref06_Right_any p len cap l W0 (hL.go hB0).1 (by unfold maxLen; omega) hU
 rw [hR] at hRt
 have HRt2 : Hid (∀ W, Below W0.heap.size W0 W → Calls Tryz.prog 54 #[.agg #[.slice q len2 cap2]] W fun e w' => e = .returned (.bool true) ∧ Below W.heap.size W w') := fun W hb => by
  have h := ref06_Right_any q len2 cap2 m W ((hM.go hB0).go hb).1 (by unfold maxLen; omega) hU2
  rw [hR2] at h
  exact h
 have HL := Lib.hid (hL.go hB0)
 have HM := Lib.hid (hM.go hB0)
 have HLL := Lib.hid hll
 have HML := Lib.hid hml
 have HX0 := Lib.hid hX0
 have HY0 := Lib.hid hY0
 have HXr := Lib.hid hXr
 have HB0 := Lib.hid hB0
 have HZ0 : Hid (W0.heap.size = w.heap.size + 3) := hs0
 have h64' : len ≤ 64 := by omega
 have h64n : len2 ≤ 64 := by omega
 have c0 : W0.cell? ⟨w.heap.size, 0, none⟩ = some (.slice p len cap) := cCc hX0 0
 clear hX0 hY0 hXr hB0 hL hM hll hml hR hR2 hU hU2 hup h64 h64m hs0
 go_enter Tryz.func34, Tryz.ntmps34
 go_wp2_with fail
 refine hRt.mono ?_
 rintro e w1 ⟨rfl, hb1⟩
 have hY1 := known hb1 (Nat.le_refl _) HY0.out
 have y0 : w1.cell? ⟨w.heap.size + 1, 0, none⟩ = some (.slice q len2 cap2) := cCc hY1 0
 have hRt2 := HRt2.out w1 hb1
 have HB1 := Lib.hid hb1
 clear hY1 hb1 c0
 go_wp2_with fail
 refine hRt2.mono ?_
 rintro e w2 ⟨rfl, hb2⟩
 have hb02 := (HB1.out.trans (hb2.mono HB1.out.size)).drew
 have hX2 := known hb02 (Nat.le_refl _) HX0.out
 have hY2 := known hb02 (Nat.le_refl _) HY0.out
 have d0 : w2.cell? ⟨w.heap.size, 0, none⟩ = some (.slice p len cap) := cCc hX2 0
 have z0 : w2.cell? ⟨w.heap.size + 1, 0, none⟩ = some (.slice q len2 cap2) := cCc hY2 0
 obtain ⟨v3, w3, hap3, hO3, hB3, hz3, -, -⟩ := append_elems Tryz.prog (cap := cap) 22 und_u64 info_u64 rfl (by decide) (World.ownsRow_nil w2.drew w2.drew.heap.size 43 1) (Below.refl w2.drew.heap.size w2.drew) (Nat.le_refl _) (Nat.le_refl _) (fun _ => rfl) (HL.out.go hb02).1 one_u64 (by omega) (by omega) (by decide)
 rw [List.nil_append, Nat.zero_add] at hO3
 have z3 : w3.cell? ⟨w.heap.size + 1, 0, none⟩ = some (.slice q len2 cap2) := cCc (known hB3 (Nat.le_refl _) hY2) 0
 obtain ⟨v4, w4, hap4, hO4, hB4, hz4, -, -⟩ := append_elems Tryz.prog (cap := cap2) 22 und_u64 info_u64 rfl (by decide) hO3 hB3 (Nat.le_refl _) hz3 (fun _ => rfl) (((HM.out.go hb02).below hB3).mono hz3).1 one_u64 (by omega) (by omega) (by decide)
 have hO : w4.ownsRow w2.drew.heap.size 43 1 v4 (l ++ m).length ((l ++ m).flatMap encU) := by
  rw [List.length_append, List.flatMap_append, ← HLL.out, ← HML.out]
  exact hO4
 obtain ⟨a', cap', hv, hS, -⟩ := slC_of_owns (enc := encU) (fun _ => rfl) hO
 subst hv
 have hOf := ref06_Of_any (l ++ m) _ _ _ w4 hS (by have := HLL.out; have := HML.out; rw [List.length_append]; omega)
 rw [List.length_append, ← HLL.out, ← HML.out] at hOf hap4
 have HOf := Lib.hid hOf
 have hb04 := hb02.trans (hB4.mono hb02.size)
 have HXr4 := Lib.hid (known hb04 (Nat.le_refl _) HXr.out)
 have HB04 : Hid (Below w.heap.size w w4) := HB0.out.trans (hb04.mono HB0.out.size)
 clear hX2 hY2 hO3 hB3 hO4 hB4 hO hS hOf hb04 hb02 hRt hRt2 y0 hb2
 go_wp2_with fail
 refine wp_region_any (by kernel_rfl) ?_
 change wpAny _ _ _ _ _ _ _ (World.drew _)
 refine tk 0 (v := ?_) rfl ?_ ?_
 rotate_left
 ·intro w; go_simp; with_reducible rfl
 refine tk 1 (v := ?_) rfl ?_ ?_
 rotate_left
 ·intro w; go_simp; with_reducible rfl
 refine tk 4 (v := ?_) rfl ?_ ?_
 rotate_left
 ·intro w; go_simp; with_reducible rfl
 refine wpAny_ready (rs := [2, 5]) (by kernel_rfl) (by simp) ?_
 refine AllReady.cons rfl (fun K hK => ?_) ?_
 ·go_simp
  refine hK _ _ ?_
  clear hK K
  refine wpAny_ready (rs := [3, 5]) (by kernel_rfl) (by simp) ?_
  refine AllReady.cons rfl (fun K hK => ?_) ?_
  ·go_simp
   refine hK _ _ ?_
   clear hK K
   refine wpAny_ready (rs := [5]) (by kernel_rfl) (by simp) ?_
   refine AllReady.cons rfl (fun K hK => ?_) ?_
   ·go_simp
    refine hK _ _ ?_
    clear hK K
    refine wpAny_ready (rs := [6]) (by kernel_rfl) (by simp) ?_
    refine AllReady.cons rfl (fun K hK => ?_) ?_
    ·go_simp
     refine hK _ _ ?_
     clear hK K
     refine wpAny_ready (rs := [7]) (by kernel_rfl) (by simp) ?_
     refine AllReady.cons rfl (fun K hK => ?_) ?_
     ·go_simp
      refine HOf.out.mono ?_
      intro e w5 h5
      have hb5 := h5.2
      have hX5 := known hb5 (Nat.le_refl _) HXr4.out
      have f0 : w5.frozen? ⟨w.heap.size + 2, 0, none⟩ = false := cFz hX5 0
      have r0 : w5.cell? ⟨w.heap.size + 2, 0, none⟩ = some (.slice none 0 0) := cCc hX5 0
      obtain ⟨qa, ql, qc, ev, V, rfl, hV, o0, hP⟩ := gather_store (w := w) (HPo.out _ _ _ h5) hX5 (HB04.out.trans (hb5.mono HB04.out.size)) (by omega)
      have HPV := Lib.hid hP
      clear hX5 hb5 hP h5
      refine hK _ _ ?_
      clear hK K
      refine tk 8 (v := ?_) rfl ?_ ?_
      rotate_left
      ·intro w; go_simp; with_reducible rfl
      refine tk 9 (v := ?_) rfl ?_ ?_
      rotate_left
      ·intro w; go_simp; with_reducible rfl
      refine wpAny_ready (rs := [10]) (by kernel_rfl) (by simp) ?_
      refine AllReady.cons rfl (fun K hK => ?_) ?_
      ·go_simp
       refine hK _ _ ?_
       clear hK K
       refine wpAny_ready (rs := [11]) (by kernel_rfl) (by simp) ?_
       refine AllReady.cons rfl (fun K hK => ?_) ?_
       ·go_simp
        refine hK _ _ ?_
        clear hK K
        refine wpAny_done (by kernel_rfl) ?_ _
        go_wp2_with fail
        exact bodyPost_ret (v := .tuple #[.agg #[.slice qa ql qc], .int .i64 ev]) (by simp [results, Tryz.f34, go_sem, o0]) rfl HPV.out
       exact AllReady.nil
      exact AllReady.nil
     exact AllReady.nil
    exact AllReady.nil
   exact AllReady.nil
  refine AllReady.cons rfl (fun K hK => ?_) ?_
  ·go_simp
   refine hK _ _ ?_
   clear hK K
   refine wpAny_ready (rs := [3]) (by kernel_rfl) (by simp) ?_
   refine AllReady.cons rfl (fun K hK => ?_) ?_
   ·go_simp
    refine hK _ _ ?_
    clear hK K
    refine wpAny_ready (rs := [6]) (by kernel_rfl) (by simp) ?_
    refine AllReady.cons rfl (fun K hK => ?_) ?_
    ·go_simp
     refine hK _ _ ?_
     clear hK K
     refine wpAny_ready (rs := [7]) (by kernel_rfl) (by simp) ?_
     refine AllReady.cons rfl (fun K hK => ?_) ?_
     ·go_simp
      refine HOf.out.mono ?_
      intro e w5 h5
      have hb5 := h5.2
      have hX5 := known hb5 (Nat.le_refl _) HXr4.out
      have f0 : w5.frozen? ⟨w.heap.size + 2, 0, none⟩ = false := cFz hX5 0
      have r0 : w5.cell? ⟨w.heap.size + 2, 0, none⟩ = some (.slice none 0 0) := cCc hX5 0
      obtain ⟨qa, ql, qc, ev, V, rfl, hV, o0, hP⟩ := gather_store (w := w) (HPo.out _ _ _ h5) hX5 (HB04.out.trans (hb5.mono HB04.out.size)) (by omega)
      have HPV := Lib.hid hP
      clear hX5 hb5 hP h5
      refine hK _ _ ?_
      clear hK K
      refine tk 8 (v := ?_) rfl ?_ ?_
      rotate_left
      ·intro w; go_simp; with_reducible rfl
      refine tk 9 (v := ?_) rfl ?_ ?_
      rotate_left
      ·intro w; go_simp; with_reducible rfl
      refine wpAny_ready (rs := [10]) (by kernel_rfl) (by simp) ?_
      refine AllReady.cons rfl (fun K hK => ?_) ?_
      ·go_simp
       refine hK _ _ ?_
       clear hK K
       refine wpAny_ready (rs := [11]) (by kernel_rfl) (by simp) ?_
       refine AllReady.cons rfl (fun K hK => ?_) ?_
       ·go_simp
        refine hK _ _ ?_
        clear hK K
        refine wpAny_done (by kernel_rfl) ?_ _
        go_wp2_with fail
        exact bodyPost_ret (v := .tuple #[.agg #[.slice qa ql qc], .int .i64 ev]) (by simp [results, Tryz.f34, go_sem, o0]) rfl HPV.out
       exact AllReady.nil
      exact AllReady.nil
     exact AllReady.nil
    exact AllReady.nil
   exact AllReady.nil
  exact AllReady.nil
 refine AllReady.cons rfl (fun K hK => ?_) ?_
 ·go_simp
  refine hK _ _ ?_
  clear hK K
  refine wpAny_ready (rs := [2]) (by kernel_rfl) (by simp) ?_
  refine AllReady.cons rfl (fun K hK => ?_) ?_
  ·go_simp
   refine hK _ _ ?_
   clear hK K
   refine wpAny_ready (rs := [3]) (by kernel_rfl) (by simp) ?_
   refine AllReady.cons rfl (fun K hK => ?_) ?_
   ·go_simp
    refine hK _ _ ?_
    clear hK K
    refine wpAny_ready (rs := [6]) (by kernel_rfl) (by simp) ?_
    refine AllReady.cons rfl (fun K hK => ?_) ?_
    ·go_simp
     refine hK _ _ ?_
     clear hK K
     refine wpAny_ready (rs := [7]) (by kernel_rfl) (by simp) ?_
     refine AllReady.cons rfl (fun K hK => ?_) ?_
     ·go_simp
      refine HOf.out.mono ?_
      intro e w5 h5
      have hb5 := h5.2
      have hX5 := known hb5 (Nat.le_refl _) HXr4.out
      have f0 : w5.frozen? ⟨w.heap.size + 2, 0, none⟩ = false := cFz hX5 0
      have r0 : w5.cell? ⟨w.heap.size + 2, 0, none⟩ = some (.slice none 0 0) := cCc hX5 0
      obtain ⟨qa, ql, qc, ev, V, rfl, hV, o0, hP⟩ := gather_store (w := w) (HPo.out _ _ _ h5) hX5 (HB04.out.trans (hb5.mono HB04.out.size)) (by omega)
      have HPV := Lib.hid hP
      clear hX5 hb5 hP h5
      refine hK _ _ ?_
      clear hK K
      refine tk 8 (v := ?_) rfl ?_ ?_
      rotate_left
      ·intro w; go_simp; with_reducible rfl
      refine tk 9 (v := ?_) rfl ?_ ?_
      rotate_left
      ·intro w; go_simp; with_reducible rfl
      refine wpAny_ready (rs := [10]) (by kernel_rfl) (by simp) ?_
      refine AllReady.cons rfl (fun K hK => ?_) ?_
      ·go_simp
       refine hK _ _ ?_
       clear hK K
       refine wpAny_ready (rs := [11]) (by kernel_rfl) (by simp) ?_
       refine AllReady.cons rfl (fun K hK => ?_) ?_
       ·go_simp
        refine hK _ _ ?_
        clear hK K
        refine wpAny_done (by kernel_rfl) ?_ _
        go_wp2_with fail
        exact bodyPost_ret (v := .tuple #[.agg #[.slice qa ql qc], .int .i64 ev]) (by simp [results, Tryz.f34, go_sem, o0]) rfl HPV.out
       exact AllReady.nil
      exact AllReady.nil
     exact AllReady.nil
    exact AllReady.nil
   exact AllReady.nil
  exact AllReady.nil
 exact AllReady.nil
end Go.Proofs.YtcbbenncdainfaaGreatDoor
namespace Go.Proofs.YtcbbenncdainfaaGreatDoor
open Go Go.RowKit Go.Shelf
theorem ok_lims {k L : Nat} {B : Bd} (hB : B.Ok k L) : U64s (skOf k L B).e ∧ I64 (skOf k L B).cc ∧ Bins (skOf k L B).gl := by
 have h0 : I64 0 := by unfold I64; omega
 have he : U64s [] := fun _ h => by cases h
 have hg : Bins [] := fun _ h => by cases h
 cases B with
 | num l => exact ⟨hB.2.2.2.2, h0, hg⟩
 | reg b r => exact ⟨he, h0, hg⟩
 | cnt c l =>
  obtain ⟨-, h2, h3, -, -⟩ := hB
  refine ⟨he, ?_, hg⟩
  show I64 (c : Int)
  have : c ≤ 32 := by
   have := Nat.le_mul_of_pos_right c (Nat.two_pow_pos L)
   omega
  unfold I64
  omega
 | bkt f l =>
  obtain ⟨-, h2, h3, h4, h5, h6, h7⟩ := hB
  exact ⟨he, h0, (BkR.mk (by omega) h4 h5 h6 h7 : BkR f l).b⟩
theorem ref10_Right_ok {k L : Nat} {B : Bd} (hB : B.Ok k L) {x : Sk} (hx : x = skOf k L B) {s : SS} {w : World} (hA : s.At w.heap.size w x) :
  Calls Tryz.prog 20 #[.agg #[.int .i64 x.kind, .int .i64 x.level, .slice s.ea s.el s.ec, .int .i64 x.hb, .string x.hr, .int .i64 x.cr, .int .i64 x.cc, .slice s.ca s.cl s.cc, .int .i64 x.gf, .slice s.ga s.gl s.gc]] w fun e w' => e = .returned (.bool true) ∧ Below w.heap.size w w' := by
 subst hx
 obtain ⟨h1, h2, h3⟩ := ok_lims hB
 have := ref10_Right_any _ s w hA h1 h2 h3
 rw [skOf_ok hB] at this
 exact this
end Go.Proofs.YtcbbenncdainfaaGreatDoor
namespace Go.Proofs.YtcbbenncdainfaaGreatDoor
open Go Go.RowKit Go.Shelf
theorem cost_new (k : Nat) (hk : k = 1 ∨ k = 2 ∨ k = 3) : (bdCost (bdNew k) : Int) + 16 = if k = 2 then 528 else 16 := by
 rcases hk with rfl | rfl | rfl
 ·rfl
 ·show ((8 * (cmNone 32).length : Nat) : Int) + 16 = 528
  simp [cmNone]
 ·rfl
set_option maxRecDepth 100000 in
set_option maxHeartbeats 2000000 in
theorem shown10_any (w : World) : Calls Tryz.prog 5 #[] w fun e w' => e = .returned (.bool true) ∧ Below w.heap.size w w' := by
 have HN1 := Lib.hid (fun W => New_any 1 (by omega) W)
 have HN2 := Lib.hid (fun W => New_any 2 (by omega) W)
 have HN3 := Lib.hid (fun W => New_any 3 (by omega) W)
 have HN4 := Lib.hid (fun W => New_no 4 rfl rfl rfl W)
 have HC1 : Hid (∀ v W, SkB W v 1 0 (bdNew 1) → Calls Tryz.prog 23 #[v] W fun e w' => e = .returned (.int .i64 16) ∧ Below W.heap.size W w') := fun v W h => by
  have h1 := Cost_sk (bdNew_ok 1 (by omega)) h
  rw [cost_new 1 (by omega)] at h1
  exact h1
 have HC2 : Hid (∀ v W, SkB W v 2 0 (bdNew 2) → Calls Tryz.prog 23 #[v] W fun e w' => e = .returned (.int .i64 528) ∧ Below W.heap.size W w') := fun v W h => by
  have h1 := Cost_sk (bdNew_ok 2 (by omega)) h
  rw [cost_new 2 (by omega)] at h1
  exact h1
 have HC3 : Hid (∀ v W, SkB W v 3 0 (bdNew 3) → Calls Tryz.prog 23 #[v] W fun e w' => e = .returned (.int .i64 16) ∧ Below W.heap.size W w') := fun v W h => by
  have h1 := Cost_sk (bdNew_ok 3 (by omega)) h
  rw [cost_new 3 (by omega)] at h1
  exact h1
 go_enter Tryz.func5, Tryz.ntmps5
 go_wp2_with fail
 refine (HN1.out _).mono ?_
 rintro e w1 ⟨x1, rfl, ⟨y1, s1, hy1, rfl, hA1⟩, hb1⟩
 obtain ⟨W1, hW1, hX1, hB1, hs1⟩ := boxes1 w1 #[.int .i64 y1.kind, .int .i64 y1.level, .slice s1.ea s1.el s1.ec, .int .i64 y1.hb, .string y1.hr, .int .i64 y1.cr, .int .i64 y1.cc, .slice s1.ca s1.cl s1.cc, .int .i64 y1.gf, .slice s1.ga s1.gl s1.gc] 33
 have hK1 : SkB W1 (.agg #[.int .i64 y1.kind, .int .i64 y1.level, .slice s1.ea s1.el s1.ec, .int .i64 y1.hb, .string y1.hr, .int .i64 y1.cr, .int .i64 y1.cc, .slice s1.ca s1.cl s1.cc, .int .i64 y1.gf, .slice s1.ga s1.gl s1.gc]) 1 0 (bdNew 1) := ⟨y1, s1, hy1, rfl, hA1.go hB1⟩
 have HB1 : Hid (Below w.heap.size w W1) := hb1.trans (hB1.mono hb1.size)
 have HX1 := Lib.hid hX1
 have HK1 := Lib.hid hK1
 clear hX1 hB1 hs1 hK1 hb1 hy1 hA1
 go_wp2_with fail
 refine (HN2.out _).mono ?_
 rintro e w2 ⟨x2, rfl, ⟨y2, s2, hy2, rfl, hA2⟩, hb2⟩
 obtain ⟨W2, hW2, hX2, hB2, hs2⟩ := boxes1 w2 #[.int .i64 y2.kind, .int .i64 y2.level, .slice s2.ea s2.el s2.ec, .int .i64 y2.hb, .string y2.hr, .int .i64 y2.cr, .int .i64 y2.cc, .slice s2.ca s2.cl s2.cc, .int .i64 y2.gf, .slice s2.ga s2.gl s2.gc] 33
 have hK2 : SkB W2 (.agg #[.int .i64 y2.kind, .int .i64 y2.level, .slice s2.ea s2.el s2.ec, .int .i64 y2.hb, .string y2.hr, .int .i64 y2.cr, .int .i64 y2.cc, .slice s2.ca s2.cl s2.cc, .int .i64 y2.gf, .slice s2.ga s2.gl s2.gc]) 2 0 (bdNew 2) := ⟨y2, s2, hy2, rfl, hA2.go hB2⟩
 have HB2 : Hid (Below W1.heap.size W1 W2) := hb2.trans (hB2.mono hb2.size)
 have HX2 := Lib.hid hX2
 have HK2 := Lib.hid hK2
 clear hX2 hB2 hs2 hK2 hb2 hy2 hA2
 go_wp2_with fail
 refine (HN3.out _).mono ?_
 rintro e w3 ⟨x3, rfl, ⟨y3, s3, hy3, rfl, hA3⟩, hb3⟩
 obtain ⟨W3, hW3, hX3, hB3, hs3⟩ := boxes1 w3 #[.int .i64 y3.kind, .int .i64 y3.level, .slice s3.ea s3.el s3.ec, .int .i64 y3.hb, .string y3.hr, .int .i64 y3.cr, .int .i64 y3.cc, .slice s3.ca s3.cl s3.cc, .int .i64 y3.gf, .slice s3.ga s3.gl s3.gc] 33
 have hK3 : SkB W3 (.agg #[.int .i64 y3.kind, .int .i64 y3.level, .slice s3.ea s3.el s3.ec, .int .i64 y3.hb, .string y3.hr, .int .i64 y3.cr, .int .i64 y3.cc, .slice s3.ca s3.cl s3.cc, .int .i64 y3.gf, .slice s3.ga s3.gl s3.gc]) 3 0 (bdNew 3) := ⟨y3, s3, hy3, rfl, hA3.go hB3⟩
 have HB3 : Hid (Below W2.heap.size W2 W3) := hb3.trans (hB3.mono hb3.size)
 have HX3 := Lib.hid hX3
 have HK3 := Lib.hid hK3
 clear hX3 hB3 hs3 hK3 hb3 hy3 hA3
 go_wp2_with fail
 refine (HN4.out _).mono ?_
 rintro e w4 ⟨rfl, hb4⟩
 obtain ⟨W4, hW4, hX4, hB4, hs4⟩ := boxes1 w4 #[.int .i64 0, .int .i64 0, .slice none 0 0, .int .i64 0, .string ⟨#[]⟩, .int .i64 0, .int .i64 0, .slice none 0 0, .int .i64 0, .slice none 0 0] 33
 have hb34 : Below W3.heap.size W3 W4 := hb4.trans (hB4.mono hb4.size)
 have hb24 : Below W2.heap.size W2 W4 := HB3.out.trans (hb34.mono HB3.out.size)
 have hb14 : Below W1.heap.size W1 W4 := HB2.out.trans (hb24.mono HB2.out.size)
 have hX14 := known hb14 (Nat.le_refl _) HX1.out
 have HC1 := Lib.hid (HC1.out _ W4 (HK1.out.go hb14))
 have Hb14 := Lib.hid hb14
 have Hb24 := Lib.hid hb24
 have Hb34 := Lib.hid hb34
 obtain ⟨a0, a1, a2, a3, a4, a5, a6, a7, a8, a9⟩ := cl10 hX14
 obtain ⟨f0, f1, f2, f3, f4, f5, f6, f7, f8, f9⟩ := cz10 hX4
 have z0 : W4.setCell ⟨w4.heap.size, 0, none⟩ (.int .i64 0) = W4 := set_same hX4 rfl
 have z1 : W4.setCell ⟨w4.heap.size, 1, none⟩ (.int .i64 0) = W4 := set_same hX4 rfl
 have z2 : W4.setCell ⟨w4.heap.size, 2, none⟩ (.slice none 0 0) = W4 := set_same hX4 rfl
 have z3 : W4.setCell ⟨w4.heap.size, 3, none⟩ (.int .i64 0) = W4 := set_same hX4 rfl
 have z4 : W4.setCell ⟨w4.heap.size, 4, none⟩ (.string ⟨#[]⟩) = W4 := set_same hX4 rfl
 have z5 : W4.setCell ⟨w4.heap.size, 5, none⟩ (.int .i64 0) = W4 := set_same hX4 rfl
 have z6 : W4.setCell ⟨w4.heap.size, 6, none⟩ (.int .i64 0) = W4 := set_same hX4 rfl
 have z7 : W4.setCell ⟨w4.heap.size, 7, none⟩ (.slice none 0 0) = W4 := set_same hX4 rfl
 have z8 : W4.setCell ⟨w4.heap.size, 8, none⟩ (.int .i64 0) = W4 := set_same hX4 rfl
 have z9 : W4.setCell ⟨w4.heap.size, 9, none⟩ (.slice none 0 0) = W4 := set_same hX4 rfl
 obtain ⟨b0, b1, b2, b3, b4, b5, b6, b7, b8, b9⟩ := cl10 hX4
 clear hX4 hB4 hs4 hb4 hb14 hb24 hb34 hX14
 go_wp2_with fail
 refine HC1.out.mono ?_
 rintro e w5 ⟨rfl, hb5⟩
 have hX25 := known (Hb24.out.trans (hb5.mono Hb24.out.size)) (Nat.le_refl _) HX2.out
 have HC2 := Lib.hid (HC2.out _ w5 (HK2.out.go (Hb24.out.trans (hb5.mono Hb24.out.size))))
 have Hb5 := Lib.hid hb5
 obtain ⟨c0, c1, c2, c3, c4, c5, c6, c7, c8, c9⟩ := cl10 hX25
 clear hX25 hb5
 go_wp2_with fail
 refine HC2.out.mono ?_
 rintro e w6 ⟨rfl, hb6⟩
 have hb46 := Hb5.out.trans (hb6.mono Hb5.out.size)
 have hX36 := known (Hb34.out.trans (hb46.mono Hb34.out.size)) (Nat.le_refl _) HX3.out
 have HC3 := Lib.hid (HC3.out _ w6 (HK3.out.go (Hb34.out.trans (hb46.mono Hb34.out.size))))
 have Hb46 := Lib.hid hb46
 obtain ⟨d0, d1, d2, d3, d4, d5, d6, d7, d8, d9⟩ := cl10 hX36
 clear hX36 hb6 hb46
 go_wp2_with fail
 refine HC3.out.mono ?_
 rintro e w7 ⟨rfl, hb7⟩
 go_wp2_with fail
 go_ret
 exact ⟨rfl, HB1.out.trans ((Hb14.out.trans ((Hb46.out.trans (hb7.mono Hb46.out.size)).mono Hb14.out.size)).mono HB1.out.size)⟩
end Go.Proofs.YtcbbenncdainfaaGreatDoor
