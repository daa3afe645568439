/- Plain lemmas and words of my own, of no program: the runes of a string, owned memory, lists in slices. Slices by their elements: whatever address an empty one has. Of no program. An address moved on, as a slice expression moves it. Of no program. What rows have in common: the program's closed facts, sketches and numbers opened, errors.errorType. Printed by gen_rz.py. Frames and messages as plain data. No program in sight. Package wire: GetReply. Printed by gen_wd.py. Package wire: Hello. Printed by gen_wi.py. Package wire: the wire in memory; New, Open, close. Printed by gen_wq.py. Package collector: find, Key, New, as far as wires ask: whose numbers there are. Package collector: what one is in memory; find. Package collector: New, whatever the configs. Printed by gen_whb.py. Package token: a sum's bytes, Mint. -/
import Derived.Test.YtpklkhgnjbopnaaGreatDoorZWsh
namespace Go.Proofs.YtpklkhgnjbopnaaGreatDoor
open Go Go.RowKit
def runesGo (s : ByteArray) : Nat → Nat → List (Nat × Int)
 | 0, _ => []
 | f + 1, pos => if pos < s.size then (pos, ((Utf8.decode s pos).1 : Int)) :: runesGo s f (pos + (Utf8.decode s pos).2) else []
def rl (s : ByteArray) (pos : Nat) : List (Nat × Int) := runesGo s (s.size - pos) pos
end Go.Proofs.YtpklkhgnjbopnaaGreatDoor
namespace Go.Proofs.YtpklkhgnjbopnaaGreatDoor
open Go Go.RowKit Go.ChangeShapes Go.WideShapes Go.Deep
section
variable {H : Type} {enc : TypeId × Value → H} {P : Program} {w : World} {base : Nat} {held : Bool}
theorem slC_of_trod {α : Type} {t e : TypeId} {k : Nat} {encA : α → List Value} (hk : 0 < k) (ht : P.underlying t = some (.slice e)) (hc : P.cellsOf e = k)
  (hel : ∀ n cs x, DataW.trod enc P w base (fun _ => true) held n e cs = some x → ∃ y, cs = encA y) {fuel : Nat} {a : Option Addr} {len cap : Nat} {x : DataW H × List MemPlace}
  (h : DataW.trod enc P w base (fun _ => true) held fuel t [.slice a len cap] = some x) :
  ∃ l : List α, SlC encA k w.heap.size w a len cap l := by
 rcases open_slice ht h with ⟨h0, _⟩ | ⟨a', len', cap', m, n, D, Pl, hcs, -, hl, hmx, hm, -, hi⟩
 ·simp only [List.cons.injEq, and_true, Value.slice.injEq] at h0
  obtain ⟨rfl, rfl, rfl⟩ := h0
  exact ⟨[], SlC.nil⟩
 ·simp only [List.cons.injEq, and_true, Value.slice.injEq] at hcs
  obtain ⟨rfl, rfl, rfl⟩ := hcs
  rw [if_pos rfl] at hm
  subst hm
  have hall : ∀ i, i < m → ∃ y, a'.spot = none ∧ a'.block < w.heap.size ∧ ∀ j, j < k → w.cell? ⟨a'.block, a'.off + i * k + j, none⟩ = (encA y)[j]? := fun i him => by
   obtain ⟨cs', h1, h2⟩ := hi i him
   obtain ⟨y, rfl⟩ := hel _ _ _ h2
   rw [hc] at h1
   obtain ⟨_, hlen, hat⟩ := World.cells?_some h1
   have hsp : a'.spot = none ∧ a'.block < w.heap.size := by
    obtain ⟨cs0, h10, h20⟩ := hi 0 (by omega)
    rw [hc, Nat.zero_mul] at h10
    obtain ⟨_, hlen0, hat0⟩ := World.cells?_some h10
    have e0 := hat0 0 hk
    have ea : (a'.add 0).add 0 = a' := by simp [Addr.add]
    rw [ea, List.getElem?_eq_getElem (by omega)] at e0
    refine ⟨?_, World.block_lt_of_cell? w _ e0⟩
    unfold World.cell? at e0
    cases hs : a'.spot with
    | none => rfl
    | some z =>
     rw [hs] at e0
     split at e0 <;> simp at e0
   refine ⟨y, hsp.1, hsp.2, fun j hj => ?_⟩
   have := hat j hj
   rw [add_none hsp.1, add_none rfl] at this
   exact this
  have hex : ∃ l : List α, l.length = len ∧ ∀ i y, l[i]? = some y → a'.spot = none ∧ a'.block < w.heap.size ∧ ∀ j, j < k → w.cell? ⟨a'.block, a'.off + i * k + j, none⟩ = (encA y)[j]? := by
   have hall' : ∀ i, i < len → ∃ y, a'.spot = none ∧ a'.block < w.heap.size ∧ ∀ j, j < k → w.cell? ⟨a'.block, a'.off + i * k + j, none⟩ = (encA y)[j]? := fun i hi => hall i (by omega)
   clear hi hl h hall
   induction len with
   | zero => exact ⟨[], rfl, fun i y h => by simp at h⟩
   | succ n ih =>
    obtain ⟨l, h1, h2⟩ := ih (fun i hi => hall' i (by omega))
    obtain ⟨y, hy⟩ := hall' n (by omega)
    refine ⟨l ++ [y], by simp [h1], fun i z hz => ?_⟩
    by_cases hil : i < l.length
    ·rw [List.getElem?_append_left hil] at hz
     exact h2 i z hz
    ·have hi2 := (List.getElem?_eq_some_iff.1 hz).1
     have : i = n := by simp at hi2; omega
     subst this
     rw [List.getElem?_append_right (by omega), h1] at hz
     simp at hz
     subst hz
     exact hy
  obtain ⟨l, hll, hcell⟩ := hex
  refine ⟨l, ⟨hll.symm, fun j y hy => ?_⟩, hl, hmx, fun h => by (cases h), fun y hy hpos => ?_⟩
  ·obtain ⟨h1, h2, h3⟩ := hcell j y hy
   exact ⟨a'.block, a'.off, by congr 1; cases a'; simp_all, h2, h3⟩
  ·cases hy
   obtain ⟨_, h1, h2, _⟩ := hall 0 hpos
   exact ⟨h1, h2⟩
end
end Go.Proofs.YtpklkhgnjbopnaaGreatDoor
namespace Go.Proofs.YtpklkhgnjbopnaaGreatDoor
open Go Go.RowKit Go.Shelf
theorem dropA_zero (a : Option Addr) (cap k : Nat) : dropA a cap 0 k = a := by
 unfold dropA
 split
 ·rfl
 ·cases a <;> simp [Addr.add]
end Go.Proofs.YtpklkhgnjbopnaaGreatDoor
namespace Go.Proofs.YtpklkhgnjbopnaaGreatDoor
open Go Go.ChangeShapes Go.WideShapes Go.ChangeAt Go.RowKit Go.Lib Go.Deep Go.Shelf
section
variable {H : Type} {enc : TypeId × Value → H} {w : World} {base : Nat} {held : Bool}
theorem slC_open {P : Program} {α : Type} {t e : TypeId} {k : Nat} {encA : α → List Value} {Q : α → Prop} (hk : 0 < k) (ht : P.underlying t = some (.slice e)) (hc : P.cellsOf e = k)
  (hel : ∀ n cs x, DataW.trod enc P w base (fun _ => true) held n e cs = some x → ∃ y, cs = encA y ∧ Q y) {fuel : Nat} {v : Value} {x : DataW H × List MemPlace}
  (h : DataW.trod enc P w base (fun _ => true) held fuel t [v] = some x) : ∃ a len cap l, v = .slice a len cap ∧ SlC encA k w.heap.size w a len cap l ∧ ∀ y ∈ l, Q y := by
 obtain ⟨a, len, cap, rfl⟩ : ∃ a len cap, v = .slice a len cap := by
  rcases open_slice ht h with ⟨h0, _⟩ | ⟨a', len', cap', m, n, D, Pl, hcs, -⟩
  ·simp only [List.cons.injEq, and_true] at h0; exact ⟨_, _, _, h0⟩
  ·simp only [List.cons.injEq, and_true] at hcs; exact ⟨_, _, _, hcs⟩
 obtain ⟨l, hl⟩ := slC_of_trod (encA := fun y : { y // Q y } => encA y.1) hk ht hc (fun n cs x hx => by obtain ⟨y, h1, h2⟩ := hel n cs x hx; exact ⟨⟨y, h2⟩, h1⟩) h
 refine ⟨a, len, cap, l.map (·.1), rfl, hl.map, fun y hy => ?_⟩
 obtain ⟨z, _, rfl⟩ := List.mem_map.1 hy
 exact z.2
end
end Go.Proofs.YtpklkhgnjbopnaaGreatDoor
namespace Go.Proofs.YtpklkhgnjbopnaaGreatDoor
open Go Go.RowKit
def helB (now : Int) (tok : ByteArray) : List UInt8 := 1 :: (numsB [now] ++ textB tok)
theorem msgOf_hel {now : Int} {tok : ByteArray} (h : U64 now) (ht : tok.size ≤ 400) : msgOf (helB now tok) = .hello now tok := by
 unfold helB msgOf
 have e : rdHel (numsB [now] ++ textB tok) = ((now, tok), some []) := by
  unfold rdHel
  rw [reads_num.put _ _ h]
  dsimp only
  have e := reads_text.put tok [] ht
  rw [List.append_nil] at e
  rw [e]
 dsimp only
 rw [if_pos rfl, e, if_pos rfl]
end Go.Proofs.YtpklkhgnjbopnaaGreatDoor
namespace Go.Proofs.YtpklkhgnjbopnaaGreatDoor
open Go Go.RowKit Go.Shelf
theorem wrap_i64_nonneg {a : Int} (h0 : 0 ≤ a) (h1 : a < 9223372036854775808) : IntKind.i64.wrap a = a := by
 have : ¬ (a < -9223372036854775808 ∨ 9223372036854775807 < a) := by omega
 simp only [IntKind.wrap, IntKind.signed, IntKind.bits]
 simp
 omega
attribute [-go_sem] Builtin.append_
end Go.Proofs.YtpklkhgnjbopnaaGreatDoor
namespace Go.Proofs.YtpklkhgnjbopnaaGreatDoor
open Go Go.RowKit Go.Shelf
theorem helB_len (now : Int) {tok : ByteArray} (h : tok.size ≤ 400) : 0 < (helB now tok).length ∧ (helB now tok).length ≤ 2000 := by
 have e1 := (numsB_one_len now).2
 have e2 := textB_len tok
 unfold helB
 simp only [List.length_cons, List.length_append]
 omega
set_option maxRecDepth 100000 in
set_option maxHeartbeats 1000000 in
theorem Hello_ok (now : Int) (tok : ByteArray) (hn : U64 now) (h : tok.size ≤ 400) (w : World) :
  CR 15 #[.int .u64 now, .string tok] w (.tuple #[.string ⟨(mkF (helB now tok)).toArray⟩, .int .i64 0]) := by
 have hP := PutText_any tok w (by omega)
 rw [if_neg (by omega)] at hP
 unfold putT at hP
 rw [if_neg (by omega)] at hP
 obtain ⟨p, hp⟩ : ∃ p, strOfNums (putNums now) = p := ⟨_, rfl⟩
 have hpd : p.data.toList = numsB [now] := by rw [← hp, strOf_list, numsB_one]
 have hpz : p.size = (numsB [now]).length := by rw [← hpd]; exact Array.length_toList.symm
 have hpl := (numsB_one_len now).2
 have htl := textB_len tok
 have HN : Hid (∀ W, Calls Tryz.prog 50 #[.int .u64 now] W fun e w' => e = .returned (.string p) ∧ Below W.heap.size W w') := fun W => by rw [← hp]; exact field_Put_any now W hn
 have hd : ((⟨#[1]⟩ : ByteArray) ++ p ++ ⟨(textB tok).toArray⟩).data.toList = helB now tok := by rw [ByteArray.data_append, ByteArray.data_append]; simp [helB, hpd]
 have hz : ((⟨#[1]⟩ : ByteArray) ++ p ++ ⟨(textB tok).toArray⟩).size = (helB now tok).length := by rw [← hd]; exact Array.length_toList.symm
 have hL := helB_len now h
 have HM : Hid (∀ W, CR 49 #[.string ((⟨#[1]⟩ : ByteArray) ++ p ++ ⟨(textB tok).toArray⟩)] W (.tuple #[.string ⟨(mkF (helB now tok)).toArray⟩, .int .i64 0])) := fun W => by
  have := made_ok ((⟨#[1]⟩ : ByteArray) ++ p ++ ⟨(textB tok).toArray⟩) (by omega) (by omega) W
  rw [hd] at this
  exact this
 have hc1 : ¬ 9223372036854775807 < 1 + p.size := by omega
 have hc2 : ¬ 9223372036854775807 < 1 + p.size + (textB tok).length := by omega
 have HP := Lib.hid hP
 clear hP hpd hpz hpl htl hd hz hL hp
 go_enter Tryz.func15, Tryz.ntmps15
 go_wp2_with fail
 refine HP.out.mono ?_
 rintro e w1 ⟨rfl, hb⟩
 obtain ⟨D, hD⟩ : ∃ D, w1.drew = D := ⟨_, rfl⟩
 have HB : Hid (Below w.heap.size w D) := by rw [Hid, ← hD]; exact hb.drew
 obtain ⟨D1, hD1, hX1, hB1, -⟩ := boxes1 D #[.int .u8 1] 5
 have hcv : (convert 84 9 (.slice (some ⟨D.heap.size, 0, none⟩) 1 1)).run Tryz.prog (D.alloc (.cells #[.int .u8 1] 5)) = .ok (.string ⟨#[1]⟩) (D.alloc (.cells #[.int .u8 1] 5)) := conv_new D [1] 1
 rw [hD1] at hcv
 have HX1 := Lib.hid hX1
 have HB1 : Hid (Below w.heap.size w D1) := HB.out.trans (hB1.mono HB.out.size)
 have HD := Lib.hid hD
 clear hb HP hX1 hB1 hD
 go_wp2_with fail
 refine wp_region_any (by kernel_rfl) ?_
 change wpAny _ _ _ _ _ _ _ (World.drew _)
 rw [HD.out]
 refine tk 2 (v := ?_) rfl ?_ ?_
 rotate_left
 ·intro w; go_simp; with_reducible rfl
 refine tk 5 (v := ?_) rfl ?_ ?_
 rotate_left
 ·intro w; go_simp; with_reducible rfl
 refine wpAny_ready (rs := [0, 3]) (by kernel_rfl) (by simp) ?_
 refine AllReady.cons rfl (fun K hK => ?_) ?_
 ·go_simp
  refine hK _ _ ?_
  clear hK K
  refine wpAny_ready (rs := [1, 3]) (by kernel_rfl) (by simp) ?_
  refine AllReady.cons rfl (fun K hK => ?_) ?_
  ·go_simp
   refine hK _ _ ?_
   clear hK K
   refine wpAny_ready (rs := [3]) (by kernel_rfl) (by simp) ?_
   refine AllReady.cons rfl (fun K hK => ?_) ?_
   ·go_simp
    refine (HN.out _).mono ?_
    rintro e x1 ⟨rfl, hb⟩
    have HBx : Hid (Below w.heap.size w x1) := HB1.out.trans (hb.mono HB1.out.size)
    clear hb
    refine hK _ _ ?_
    clear hK K
    refine wpAny_ready (rs := [4]) (by kernel_rfl) (by simp) ?_
    refine AllReady.cons rfl (fun K hK => ?_) ?_
    ·go_simp
     refine hK _ _ ?_
     clear hK K
     refine wpAny_ready (rs := [6]) (by kernel_rfl) (by simp) ?_
     refine AllReady.cons rfl (fun K hK => ?_) ?_
     ·go_simp
      refine hK _ _ ?_
      clear hK K
      refine wpAny_ready (rs := [7]) (by kernel_rfl) (by simp) ?_
      refine AllReady.cons rfl (fun K hK => ?_) ?_
      ·go_simp
       refine (HM.out _).mono ?_
       rintro e z ⟨rfl, hb⟩
       have HBz : Hid (Below w.heap.size w z) := HBx.out.trans (hb.mono HBx.out.size)
       clear hb
       refine hK _ _ ?_
       clear hK K
       refine tk 8 (v := ?_) rfl ?_ ?_
       rotate_left
       ·intro w; go_simp; with_reducible rfl
       refine tk 9 (v := ?_) rfl ?_ ?_
       rotate_left
       ·intro w; go_simp; with_reducible rfl
       refine wpAny_ready (rs := [10]) (by kernel_rfl) (by simp) ?_
       refine AllReady.cons rfl (fun K hK => ?_) ?_
       ·go_simp
        refine hK _ _ ?_
        clear hK K
        refine wpAny_ready (rs := [11]) (by kernel_rfl) (by simp) ?_
        refine AllReady.cons rfl (fun K hK => ?_) ?_
        ·go_simp
         refine hK _ _ ?_
         clear hK K
         refine wpAny_done (by kernel_rfl) ?_ _
         go_wp2_with fail
         go_ret2
         exact ⟨rfl, HBz.out⟩
        exact AllReady.nil
       exact AllReady.nil
      exact AllReady.nil
     exact AllReady.nil
    exact AllReady.nil
   exact AllReady.nil
  refine AllReady.cons rfl (fun K hK => ?_) ?_
  ·go_simp
   refine (HN.out _).mono ?_
   rintro e x1 ⟨rfl, hb⟩
   have HBx : Hid (Below w.heap.size w x1) := HB1.out.trans (hb.mono HB1.out.size)
   have hcw : (convert 84 9 (.slice (some ⟨D.heap.size, 0, none⟩) 1 1)).run Tryz.prog x1 = .ok (.string ⟨#[1]⟩) x1 := conv_at [1] (fun i hi => by have hi : i < 1 := hi; obtain rfl : i = 0 := (by omega); exact cCc (known hb (Nat.le_refl _) HX1.out) 0)
   clear hb
   refine hK _ _ ?_
   clear hK K
   refine wpAny_ready (rs := [1]) (by kernel_rfl) (by simp) ?_
   refine AllReady.cons rfl (fun K hK => ?_) ?_
   ·go_simp
    refine hK _ _ ?_
    clear hK K
    refine wpAny_ready (rs := [4]) (by kernel_rfl) (by simp) ?_
    refine AllReady.cons rfl (fun K hK => ?_) ?_
    ·go_simp
     refine hK _ _ ?_
     clear hK K
     refine wpAny_ready (rs := [6]) (by kernel_rfl) (by simp) ?_
     refine AllReady.cons rfl (fun K hK => ?_) ?_
     ·go_simp
      refine hK _ _ ?_
      clear hK K
      refine wpAny_ready (rs := [7]) (by kernel_rfl) (by simp) ?_
      refine AllReady.cons rfl (fun K hK => ?_) ?_
      ·go_simp
       refine (HM.out _).mono ?_
       rintro e z ⟨rfl, hb⟩
       have HBz : Hid (Below w.heap.size w z) := HBx.out.trans (hb.mono HBx.out.size)
       clear hb
       refine hK _ _ ?_
       clear hK K
       refine tk 8 (v := ?_) rfl ?_ ?_
       rotate_left
       ·intro w; go_simp; with_reducible rfl
       refine tk 9 (v := ?_) rfl ?_ ?_
       rotate_left
       ·intro w; go_simp; with_reducible rfl
       refine wpAny_ready (rs := [10]) (by kernel_rfl) (by simp) ?_
       refine AllReady.cons rfl (fun K hK => ?_) ?_
       ·go_simp
        refine hK _ _ ?_
        clear hK K
        refine wpAny_ready (rs := [11]) (by kernel_rfl) (by simp) ?_
        refine AllReady.cons rfl (fun K hK => ?_) ?_
        ·go_simp
         refine hK _ _ ?_
         clear hK K
         refine wpAny_done (by kernel_rfl) ?_ _
         go_wp2_with fail
         go_ret2
         exact ⟨rfl, HBz.out⟩
        exact AllReady.nil
       exact AllReady.nil
      exact AllReady.nil
     exact AllReady.nil
    exact AllReady.nil
   exact AllReady.nil
  exact AllReady.nil
 refine AllReady.cons rfl (fun K hK => ?_) ?_
 ·go_simp
  refine (HN.out _).mono ?_
  rintro e x0 ⟨rfl, hb⟩
  have HB0 : Hid (Below w.heap.size w x0) := HB.out.trans (hb.mono HB.out.size)
  obtain ⟨x1, hx1, -, hBx, -⟩ := boxes1 x0 #[.int .u8 1] 5
  have hcw : (convert 84 9 (.slice (some ⟨x0.heap.size, 0, none⟩) 1 1)).run Tryz.prog (x0.alloc (.cells #[.int .u8 1] 5)) = .ok (.string ⟨#[1]⟩) (x0.alloc (.cells #[.int .u8 1] 5)) := conv_new x0 [1] 1
  rw [hx1] at hcw
  have HBx : Hid (Below w.heap.size w x1) := HB0.out.trans (hBx.mono HB0.out.size)
  clear hb hBx
  refine hK _ _ ?_
  clear hK K
  refine wpAny_ready (rs := [0]) (by kernel_rfl) (by simp) ?_
  refine AllReady.cons rfl (fun K hK => ?_) ?_
  ·go_simp
   refine hK _ _ ?_
   clear hK K
   refine wpAny_ready (rs := [1]) (by kernel_rfl) (by simp) ?_
   refine AllReady.cons rfl (fun K hK => ?_) ?_
   ·go_simp
    refine hK _ _ ?_
    clear hK K
    refine wpAny_ready (rs := [4]) (by kernel_rfl) (by simp) ?_
    refine AllReady.cons rfl (fun K hK => ?_) ?_
    ·go_simp
     refine hK _ _ ?_
     clear hK K
     refine wpAny_ready (rs := [6]) (by kernel_rfl) (by simp) ?_
     refine AllReady.cons rfl (fun K hK => ?_) ?_
     ·go_simp
      refine hK _ _ ?_
      clear hK K
      refine wpAny_ready (rs := [7]) (by kernel_rfl) (by simp) ?_
      refine AllReady.cons rfl (fun K hK => ?_) ?_
      ·go_simp
       refine (HM.out _).mono ?_
       rintro e z ⟨rfl, hb⟩
       have HBz : Hid (Below w.heap.size w z) := HBx.out.trans (hb.mono HBx.out.size)
       clear hb
       refine hK _ _ ?_
       clear hK K
       refine tk 8 (v := ?_) rfl ?_ ?_
       rotate_left
       ·intro w; go_simp; with_reducible rfl
       refine tk 9 (v := ?_) rfl ?_ ?_
       rotate_left
       ·intro w; go_simp; with_reducible rfl
       refine wpAny_ready (rs := [10]) (by kernel_rfl) (by simp) ?_
       refine AllReady.cons rfl (fun K hK => ?_) ?_
       ·go_simp
        refine hK _ _ ?_
        clear hK K
        refine wpAny_ready (rs := [11]) (by kernel_rfl) (by simp) ?_
        refine AllReady.cons rfl (fun K hK => ?_) ?_
        ·go_simp
         refine hK _ _ ?_
         clear hK K
         refine wpAny_done (by kernel_rfl) ?_ _
         go_wp2_with fail
         go_ret2
         exact ⟨rfl, HBz.out⟩
        exact AllReady.nil
       exact AllReady.nil
      exact AllReady.nil
     exact AllReady.nil
    exact AllReady.nil
   exact AllReady.nil
  exact AllReady.nil
 exact AllReady.nil
end Go.Proofs.YtpklkhgnjbopnaaGreatDoor
namespace Go.Proofs.YtpklkhgnjbopnaaGreatDoor
open Go Go.RowKit Go.Shelf
theorem WireAt.at2 {W : World} {b : Nat} {c : Value} {l m n : Ln} (h : WireAt W b c l m n) : W.cell? ⟨b, 13, none⟩ = some (.int .u64 n.tnt) ∧ W.cell? ⟨b, 14, none⟩ = some (.int .i64 n.role) ∧ W.cell? ⟨b, 15, none⟩ = some (.int .u64 n.till) ∧ W.cell? ⟨b, 16, none⟩ = some (.bool n.known) ∧ W.cell? ⟨b, 17, none⟩ = some (.bool n.closed) ∧ W.cell? ⟨b, 18, none⟩ = some (.string n.left) :=
 ⟨cCc h 13, cCc h 14, cCc h 15, cCc h 16, cCc h 17, cCc h 18⟩
theorem open2 (b : Nat) (c : Value) (l m n : Ln) (w : World) (h : WireAt w b c l m n) : CR 12 #[.pointer (some ⟨b, 0, none⟩), .int .i64 2] w (.bool (!n.closed)) := by
 obtain ⟨-, -, -, -, c4, -⟩ := h.at2
 have HN := Lib.hid fun V => wnone_some ⟨b, 0, none⟩ V
 have HI := Lib.hid fun V => isConn_any 2 V
 clear h
 go_enter Tryz.func12, Tryz.ntmps12
 go_wp2_with fail
 refine (HN.out _).mono ?_
 rintro e w1 ⟨rfl, rfl⟩
 go_wp2_with fail
 refine (HI.out _).mono ?_
 rintro e w2 ⟨rfl, rfl⟩
 go_wp2_with fail
 go_ret
 exact ⟨rfl, Below.refl _ _⟩
end Go.Proofs.YtpklkhgnjbopnaaGreatDoor
namespace Go.Proofs.YtpklkhgnjbopnaaGreatDoor
open Go Go.RowKit Go.Shelf
theorem tnNew_bad (id bud life A B : Int) (w : World) (hb : bud < 0 ∨ 1000000 < bud) :
  CR 44 #[.agg #[.int .u64 id, .int .i64 bud, .int .u64 life], .agg #[.int .u64 A, .int .u64 B]] w (.tuple #[.pointer none, .int .i64 180]) := by
 obtain ⟨W0, hW0, hX0, hX1, hB0, hs0⟩ := boxes2 w #[.int .u64 id, .int .i64 bud, .int .u64 life] 41 #[.int .u64 A, .int .u64 B] 24
 obtain ⟨c0, c1, c2⟩ := cl3 hX0
 clear hX0 hX1
 by_cases h0 : bud < 0
 ·clear hb
  go_enter Tryz.func44, Tryz.ntmps44
  go_wp2_with fail
  go_ret2
  exact ⟨rfl, hB0⟩
 ·have h1 : 1000000 < bud := by omega
  clear hb
  go_enter Tryz.func44, Tryz.ntmps44
  go_wp2_with fail
  go_ret2
  exact ⟨rfl, hB0⟩
end Go.Proofs.YtpklkhgnjbopnaaGreatDoor
namespace Go.Proofs.YtpklkhgnjbopnaaGreatDoor
open Go Go.RowKit Go.Shelf
theorem index_any (l : List Int) (a : Option Addr) (len cap : Nat) (n : Int) (w : World) (hL : SlE encU 1 w.heap.size w a len l) (hm : len ≤ 100000) :
  Calls Tryz.prog 80 #[.slice a len cap, .int .u64 n] w fun e w' => w' = w ∧ ((n ∉ l ∧ e = .returned (.int .i64 (-1))) ∨ (n ∈ l ∧ ∃ j : Nat, j < len ∧ e = .returned (.int .i64 j))) := by
 have hll := hL.1
 go_enter Tryz.func80, Tryz.ntmps80
 go_wp2_with fail
 go_loopw [8] (fun i wr => wr = w ∧ ∃ (k : Nat), i = .int .i64 k ∧ k ≤ len ∧ ∀ j, j < k → l[j]? ≠ some n) (fun i _ => len - (intOf i).toNat)
 case atStart => exact ⟨rfl, 0, rfl, Nat.zero_le _, fun j hj => by omega⟩
 case round =>
  obtain ⟨rfl, k, rfl, hk, hno⟩ := hrel
  by_cases hlt : k < len
  ·obtain ⟨x, b1, o1, hx, ea1, hb1, hc1⟩ := hL.at hlt
   subst ea1
   have p0 : wr.cell? ⟨b1, o1 + k * 1 + 0, none⟩ = some (.int .u64 x) := hc1 0 (by omega)
   simp only [Nat.mul_one, Nat.add_zero] at p0
   have i0 : (0 : Int) ≤ (k : Int) := by omega
   have i1 : (k : Int) < (len : Int) := by omega
   by_cases hxn : n = x
   ·subst hxn
    have hin : n ∈ l := List.mem_of_getElem? hx
    clear hc1 hx hL hno
    go_wp2_with fail
    go_ret
    exact ⟨rfl, .inr ⟨hin, k, hlt, rfl⟩⟩
   ·have hne : ∀ j, j < k + 1 → l[j]? ≠ some n := fun j hj => by
     rcases Nat.lt_or_eq_of_le (Nat.le_of_lt_succ hj) with h | rfl
     ·exact hno j h
     ·rw [hx]; intro h; exact hxn (Option.some.inj h).symm
    clear hc1 hx hL hno
    go_wp2_with fail
    go_roundw
    case rel => exact ⟨trivial, k + 1, by go_num, by omega, hne⟩
    case measure => simp [intOf]; omega
  ·obtain rfl : k = len := by omega
   have hin : n ∉ l := fun h => by
    obtain ⟨j, hj⟩ := List.mem_iff_getElem?.1 h
    exact hno j (by have := (List.getElem?_eq_some_iff.1 hj).1; omega) hj
   clear hL hno
   go_wp2_with fail
   go_ret
   exact ⟨rfl, .inl ⟨hin, rfl⟩⟩
def encTn (p : Addr) : List Value := [.pointer (some p)]
def CollAt (c : Nat) (A B : Int) (ids : List Int) (n₀ : Nat) (w : World) : Prop :=
 ∃ ia ic ta tc ps, w.heap[c]? = some (.cells #[.int .u64 A, .int .u64 B, .slice ia ids.length ic, .slice ta ids.length tc] 104 (0, 0)) ∧ c < n₀ ∧ ids.length ≤ 8 ∧
  SlE encU 1 n₀ w ia ids.length ids ∧ SlE encTn 1 n₀ w ta ids.length ps
theorem CollAt.below {c n : Nat} {A B : Int} {ids : List Int} {w V : World} (h : CollAt c A B ids n w) (hb : Below n w V) : CollAt c A B ids n V := by
 obtain ⟨ia, ic, ta, tc, ps, h0, hc, hl, h1, h2⟩ := h
 exact ⟨ia, ic, ta, tc, ps, (hb.block _ hc).trans h0, hc, hl, h1.below hb, h2.below hb⟩
theorem CollAt.mono {c n m : Nat} {A B : Int} {ids : List Int} {w : World} (h : CollAt c A B ids n w) (hn : n ≤ m) : CollAt c A B ids m w := by
 obtain ⟨ia, ic, ta, tc, ps, h0, hc, hl, h1, h2⟩ := h
 exact ⟨ia, ic, ta, tc, ps, h0, Nat.lt_of_lt_of_le hc hn, hl, h1.mono hn, h2.mono hn⟩
theorem find_any (c : Nat) (A B n : Int) (ids : List Int) (w : World) (h : CollAt c A B ids w.heap.size w) :
  Calls Tryz.prog 43 #[.pointer (some ⟨c, 0, none⟩), .int .u64 n] w fun e w' => w' = w ∧ ((n ∉ ids ∧ e = .returned (.pointer none)) ∨ (n ∈ ids ∧ ∃ p, e = .returned (.pointer (some p)))) := by
 obtain ⟨ia, ic, ta, tc, ps, h0, hc, hl, h1, h2⟩ := h
 have HI := Lib.hid (index_any ids ia ids.length ic n w h1 (by omega))
 have c2 : w.cell? ⟨c, 2, none⟩ = some (.slice ia ids.length ic) := cCc h0 2
 have c3 : w.cell? ⟨c, 3, none⟩ = some (.slice ta ids.length tc) := cCc h0 3
 go_enter Tryz.func43, Tryz.ntmps43
 go_wp2_with fail
 refine HI.out.mono ?_
 rintro e w1 ⟨hw, ⟨hin, rfl⟩ | ⟨hin, j, hj, rfl⟩⟩
 ·have hw := hw.symm
  subst hw
  clear h0 h1 h2
  go_wp2_with fail
  go_ret
  exact ⟨rfl, .inl ⟨hin, rfl⟩⟩
 ·have hw := hw.symm
  subst hw
  obtain ⟨x, b1, o1, hx, ea1, hb1, hc1⟩ := h2.at hj
  subst ea1
  have p0 : w.cell? ⟨b1, o1 + j * 1 + 0, none⟩ = some (.pointer (some x)) := hc1 0 (by omega)
  simp only [Nat.mul_one, Nat.add_zero] at p0
  have i0 : (0 : Int) ≤ (j : Int) := by omega
  have i1 : (j : Int) < (ids.length : Int) := by omega
  have i2 : ¬ (j : Int) < 0 := by omega
  clear h0 h1 h2 hc1 hx
  go_wp2_with fail
  go_ret
  exact ⟨rfl, .inr ⟨hin, _, rfl⟩⟩
end Go.Proofs.YtpklkhgnjbopnaaGreatDoor
namespace Go.Proofs.YtpklkhgnjbopnaaGreatDoor
open Go Go.RowKit Go.Shelf
structure Cfg where
 id : Int
 bud : Int
 life : Int
def encC (x : Cfg) : List Value := [.int .u64 x.id, .int .i64 x.bud, .int .u64 x.life]
theorem tnNew_any (id bud life A B : Int) (w : World) :
  Calls Tryz.prog 44 #[.agg #[.int .u64 id, .int .i64 bud, .int .u64 life], .agg #[.int .u64 A, .int .u64 B]] w fun e w' => ∃ p er, e = .returned (.tuple #[.pointer p, .int .i64 er]) ∧ ((er = 0 ∧ ∃ b, p = some ⟨b, 0, none⟩) ∨ (er ≠ 0 ∧ p = none)) ∧ Below w.heap.size w w' := by
 by_cases hb : bud < 0 ∨ 1000000 < bud
 ·refine (tnNew_bad id bud life A B w hb).mono fun e w' h => ?_
  obtain ⟨rfl, h2⟩ := h
  exact ⟨_, _, rfl, .inr ⟨by decide, rfl⟩, h2⟩
 ·refine (tnNew_ok id bud life A B w (by omega) (by omega)).mono fun e w' h => ?_
  obtain ⟨b, rfl, h2⟩ := h
  exact ⟨_, _, rfl, .inl ⟨rfl, b, rfl⟩, h2⟩
def NewIn (w : World) (A B : Int) (ids : List Int) (V : World) : Prop :=
 (∃ ia ic ta tc ps, V.heap[w.heap.size]? = some (.cells #[.int .u64 A, .int .u64 B] 24 (0, 0)) ∧ V.heap[w.heap.size + 1]? = some (.cells #[.int .u64 A, .int .u64 B, .slice ia ids.length ic, .slice ta ids.length tc] 104 (0, 0)) ∧
  ps.length = ids.length ∧ GrowE encU V (w.heap.size + 2) 22 1 (.slice ia ids.length ic) ids ∧ GrowE encTn V (w.heap.size + 2) 105 1 (.slice ta ids.length tc) ps) ∧ Below w.heap.size w V ∧ w.heap.size + 2 ≤ V.heap.size
theorem GrowE.go {α : Type} {enc : α → List Value} {X Y : World} {base size : Nat} {t : TypeId} {v : Value} {l : List α} (h : GrowE enc X base t size v l) (hb : Below X.heap.size X Y) : GrowE enc Y base t size v l :=
 h.keep (q := fun _ => True) (Kept.of hb) (fun _ _ => trivial)
theorem NewIn.go {w V Y : World} {A B : Int} {ids : List Int} (h : NewIn w A B ids V) (hb : Below V.heap.size V Y) : NewIn w A B ids Y := by
 obtain ⟨⟨ia, ic, ta, tc, ps, h0, h1, hp, h2, h3⟩, hB, hs⟩ := h
 exact ⟨⟨ia, ic, ta, tc, ps, known hb (Nat.le_refl _) h0, known hb (Nat.le_refl _) h1, hp, h2.go hb, h3.go hb⟩, hB.trans (hb.mono hB.size), Nat.le_trans hs hb.size⟩
theorem NewIn.coll {w V : World} {A B : Int} {ids : List Int} (h : NewIn w A B ids V) (h8 : ids.length ≤ 8) : CollAt (w.heap.size + 1) A B ids V.heap.size V := by
 obtain ⟨⟨ia, ic, ta, tc, ps, h0, h1, hp, h2, h3⟩, hB, hs⟩ := h
 obtain ⟨a1, c1, e1, s1⟩ := h2.sl (fun _ => rfl)
 obtain ⟨a2, c2, e2, s2⟩ := h3.sl (fun _ => rfl)
 cases e1
 injection e2 with e2 _ _
 subst e2
 rw [hp] at s2
 exact ⟨_, _, _, _, ps, h1, by omega, h8, s1, s2⟩
theorem grow_block {α : Type} {enc : α → List Value} {V : World} {base size : Nat} {t : TypeId} {v : Value} {l : List α} (h : GrowE enc V base t size v l) {k : Nat} (hk : v.ownBlock = some k) : base ≤ k ∧ ∃ cur, V.heap[k]? = some (.cells cur t (0, 0)) := by
 rcases h.2 with ⟨rfl, -⟩ | ⟨g, cap, cur, rfl, hb, hc, -⟩
 ·cases hk
 ·cases hk; exact ⟨hb, cur, hc⟩
theorem grow_apart {α : Type} {enc : α → List Value} {V V' : World} {base size : Nat} {t : TypeId} {v : Value} {l : List α} (h : GrowE enc V base t size v l) (hk : ∀ k, v.ownBlock = some k → V'.heap[k]? = V.heap[k]?) : GrowE enc V' base t size v l :=
 ⟨h.1, by
  rcases h.2 with h2 | ⟨g, cap, cur, rfl, h3, h4, h5⟩
  ·exact .inl h2
  ·exact .inr ⟨g, cap, cur, rfl, h3, (hk g rfl).trans h4, h5⟩⟩
set_option maxHeartbeats 2000000 in
theorem NewIn.push {w D : World} {A B : Int} {ids : List Int} (h : NewIn w A B ids D) (bud life id : Int) (tb : Addr) (b : Nat) (hb : D.heap[b]? = some (.cells #[.int .u64 id, .int .i64 bud, .int .u64 life] 41 (0, 0))) (hl : ids.length < 100000) :
  ∃ ia ic ta tc g4 cap4 w4 g6 cap6 w6 V5, D.cell? ⟨w.heap.size + 1, 2, none⟩ = some (.slice ia ids.length ic) ∧ (D.alloc (.cells #[.int .u64 id] 22)).cell? ⟨w.heap.size + 1, 2, none⟩ = some (.slice ia ids.length ic) ∧
   D.cell? ⟨b, 0, none⟩ = some (.int .u64 id) ∧ (D.alloc (.cells #[.int .u64 id] 22)).cell? ⟨b, 0, none⟩ = some (.int .u64 id) ∧
   (Builtin.append_ #[54, 54] 54 #[.slice ia ids.length ic, .slice (some ⟨D.heap.size, 0, none⟩) 1 1]).run Tryz.prog (D.alloc (.cells #[.int .u64 id] 22)) = .ok (.slice (some ⟨g4, 0, none⟩) (ids.length + 1) cap4) w4 ∧
   w4.cell? ⟨b, 0, none⟩ = some (.int .u64 id) ∧ w4.cell? ⟨w.heap.size + 1, 2, none⟩ = some (.slice ia ids.length ic) ∧ w4.frozen? ⟨w.heap.size + 1, 2, none⟩ = false ∧
   w4.setCell ⟨w.heap.size + 1, 2, none⟩ (.slice (some ⟨g4, 0, none⟩) (ids.length + 1) cap4) = V5 ∧
   (w4.setCell ⟨w.heap.size + 1, 2, none⟩ (.slice (some ⟨g4, 0, none⟩) (ids.length + 1) cap4)).cell? ⟨b, 0, none⟩ = some (.int .u64 id) ∧ V5.cell? ⟨w.heap.size + 1, 3, none⟩ = some (.slice ta ids.length tc) ∧
   (Builtin.append_ #[102, 102] 102 #[.slice ta ids.length tc, .slice (some ⟨V5.heap.size, 0, none⟩) 1 1]).run Tryz.prog (V5.alloc (.cells #[.pointer (some tb)] 105)) = .ok (.slice (some ⟨g6, 0, none⟩) (ids.length + 1) cap6) w6 ∧
   w6.cell? ⟨w.heap.size + 1, 3, none⟩ = some (.slice ta ids.length tc) ∧ w6.frozen? ⟨w.heap.size + 1, 3, none⟩ = false ∧
   NewIn w A B (ids ++ [id]) (w6.setCell ⟨w.heap.size + 1, 3, none⟩ (.slice (some ⟨g6, 0, none⟩) (ids.length + 1) cap6)) := by
 obtain ⟨⟨ia, ic, ta, tc, ps, h0, h1, hp, h2, h3⟩, hB, hs⟩ := h
 have hbl := (Array.getElem?_eq_some_iff.1 hb).1
 have h1l := (Array.getElem?_eq_some_iff.1 h1).1
 have hbw : b ≠ w.heap.size + 1 := fun e => by
  rw [e, h1] at hb; cases hb
 obtain ⟨g4, cap4, w4, hap, hG4, hB4, hz4, hl4, ho4⟩ := append_one Tryz.prog 54 und_u64 info_u64 rfl (by decide) h2 (Below.refl w.heap.size D) (by omega) hs [.int .u64 id] rfl (by simp [Value.oneCell']) (by omega) (by decide)
 have k1 : w4.heap[w.heap.size + 1]? = some (.cells #[.int .u64 A, .int .u64 B, .slice ia ids.length ic, .slice ta ids.length tc] 104 (0, 0)) := (hl4 _ (by omega)).trans h1
 have k0 : w4.heap[w.heap.size]? = _ := (hl4 _ (by omega)).trans h0
 have hb4 : w4.heap[b]? = some (.cells #[.int .u64 id, .int .i64 bud, .int .u64 life] 41 (0, 0)) := (ho4 b hbl (fun e => by
  obtain ⟨-, cur, hc⟩ := grow_block h2 e.symm
  rw [hb] at hc; cases hc)).trans hb
 have hT4 : GrowE encTn w4 (w.heap.size + 2) 105 1 (.slice ta ids.length tc) ps := grow_apart h3 (fun k hk => by
  obtain ⟨-, cur, hc⟩ := grow_block h3 hk
  refine ho4 k (Array.getElem?_eq_some_iff.1 hc).1 (fun e => ?_)
  obtain ⟨-, cur2, hc2⟩ := grow_block h2 e.symm
  rw [hc] at hc2; cases hc2)
 have hI4 : GrowE encU w4 (w.heap.size + 2) 22 1 (.slice (some ⟨g4, 0, none⟩) (ids.length + 1) cap4) (ids ++ [id]) := by
  unfold GrowE
  rw [List.length_append, List.flatMap_append]
  simpa [encU] using hG4
 obtain ⟨V5, hV5⟩ : ∃ V5, w4.setCell ⟨w.heap.size + 1, 2, none⟩ (.slice (some ⟨g4, 0, none⟩) (ids.length + 1) cap4) = V5 := ⟨_, rfl⟩
 have hf5 : ∀ k, k ≠ w.heap.size + 1 → V5.heap[k]? = w4.heap[k]? := fun k hk => by rw [← hV5]; exact Below.heap_setCell _ _ _ _ (by show k ≠ w.heap.size + 1; exact hk)
 have z5 : V5.heap.size = w4.heap.size := by rw [← hV5, World.size_setCell]
 have m1 : V5.heap[w.heap.size + 1]? = some (.cells #[.int .u64 A, .int .u64 B, .slice (some ⟨g4, 0, none⟩) (ids.length + 1) cap4, .slice ta ids.length tc] 104 (0, 0)) := by rw [← hV5]; exact hSk k1 _
 have m0 : V5.heap[w.heap.size]? = _ := (hf5 _ (by omega)).trans k0
 have mb := (hf5 b hbw).trans hb4
 have hT5 : GrowE encTn V5 (w.heap.size + 2) 105 1 (.slice ta ids.length tc) ps := grow_apart hT4 (fun k hk => hf5 k (by have := (grow_block hT4 hk).1; omega))
 have hI5 : GrowE encU V5 (w.heap.size + 2) 22 1 (.slice (some ⟨g4, 0, none⟩) (ids.length + 1) cap4) (ids ++ [id]) := grow_apart hI4 (fun k hk => hf5 k (by have := (grow_block hI4 hk).1; omega))
 have hB5 : Below w.heap.size D V5 := by rw [← hV5]; exact hB4.setCell (p := ⟨w.heap.size + 1, 2, none⟩) (Nat.le_succ _) _
 have hT5' : V5.ownsRow (w.heap.size + 2) 105 1 (.slice ta ids.length tc) ids.length (ps.flatMap encTn) := by
  have := hT5
  unfold GrowE at this
  rwa [hp] at this
 obtain ⟨g6, cap6, w6, hap6, hG6, hB6, hz6, hl6, ho6⟩ := append_one Tryz.prog 102 und_tens info_tens rfl (by decide) hT5' (Below.refl w.heap.size V5) (by omega) (by omega) [.pointer (some tb)] rfl (by simp [Value.oneCell']) (by omega) (by decide)
 have n1 := (hl6 _ (by omega)).trans m1
 have n0 := (hl6 _ (by omega)).trans m0
 have hI6 : GrowE encU w6 (w.heap.size + 2) 22 1 (.slice (some ⟨g4, 0, none⟩) (ids.length + 1) cap4) (ids ++ [id]) := grow_apart hI5 (fun k hk => by
  obtain ⟨-, cur, hc⟩ := grow_block hI5 hk
  refine ho6 k (Array.getElem?_eq_some_iff.1 hc).1 (fun e => ?_)
  obtain ⟨-, cur2, hc2⟩ := grow_block hT5 e.symm
  rw [hc] at hc2; cases hc2)
 have hT6 : GrowE encTn w6 (w.heap.size + 2) 105 1 (.slice (some ⟨g6, 0, none⟩) (ids.length + 1) cap6) (ps ++ [tb]) := by
  unfold GrowE
  rw [List.length_append, List.flatMap_append, hp]
  simpa [encTn] using hG6
 have hf7 : ∀ k, k ≠ w.heap.size + 1 → (w6.setCell ⟨w.heap.size + 1, 3, none⟩ (.slice (some ⟨g6, 0, none⟩) (ids.length + 1) cap6)).heap[k]? = w6.heap[k]? := fun k hk => Below.heap_setCell _ _ _ _ (by show k ≠ w.heap.size + 1; exact hk)
 refine ⟨ia, ic, ta, tc, g4, cap4, w4, g6, cap6, w6, V5, cCc h1 2, cCc ((Below.heap_alloc _ _ _ h1l).trans h1) 2, cCc hb 0, cCc ((Below.heap_alloc _ _ _ hbl).trans hb) 0, hap, cCc hb4 0, cCc k1 2, cFz k1 2, hV5, by rw [hV5]; exact cCc mb 0, cCc m1 3, hap6, cCc n1 3, cFz n1 3, ?_⟩
 refine ⟨⟨some ⟨g4, 0, none⟩, cap4, some ⟨g6, 0, none⟩, cap6, ps ++ [tb], (hf7 _ (by omega)).trans n0, ?_, by simp [hp], ?_, ?_⟩, (hB.trans (hB5.trans hB6)).setCell (p := ⟨w.heap.size + 1, 3, none⟩) (Nat.le_succ _) _, by rw [World.size_setCell]; omega⟩
 ·have := hSk n1 (i := 3) (.slice (some ⟨g6, 0, none⟩) (ids.length + 1) cap6)
  rw [List.length_append]
  exact this
 ·rw [List.length_append]; exact grow_apart hI6 (fun k hk => hf7 k (by have := (grow_block hI6 hk).1; omega))
 ·rw [List.length_append]; exact grow_apart hT6 (fun k hk => hf7 k (by have := (grow_block hT6 hk).1; omega))
def NewPost (A B : Int) (l : List Cfg) (w : World) (e : Ending) (w' : World) : Prop :=
 (e = .returned (.tuple #[.pointer none, .int .i64 180]) ∨ ∃ c, e = .returned (.tuple #[.pointer (some ⟨c, 0, none⟩), .int .i64 0]) ∧ CollAt c A B (l.map Cfg.id) w'.heap.size w') ∧ Below w.heap.size w w'
attribute [-go_sem] Builtin.append_
set_option maxRecDepth 100000 in
set_option maxHeartbeats 4000000 in
theorem collNew_any (A B : Int) (l : List Cfg) (a : Option Addr) (len cap : Nat) (w : World) (hL : SlE encC 3 w.heap.size w a len l) (hid : ∀ x ∈ l, U64 x.id) (hlen : len ≤ 100000) :
  Calls Tryz.prog 13 #[.agg #[.int .u64 A, .int .u64 B], .slice a len cap] w (NewPost A B l w) := by
 have HLL := Lib.hid hL.1
 obtain ⟨W, hW, hX0, hX1, hB, hs⟩ := boxes2 w #[.int .u64 A, .int .u64 B] 24 #[.int .u64 A, .int .u64 B, .slice none 0 0, .slice none 0 0] 104
 have HIN : Hid (NewIn w A B ((l.take 0).map Cfg.id) W) := ⟨⟨none, 0, none, 0, [], hX0, hX1, rfl, .nil _ _ _ _ _, .nil _ _ _ _ _⟩, hB, by omega⟩
 have HBW := Lib.hid hB
 have HLN := Lib.hid hL
 have HID := Lib.hid hid
 clear hX0 hX1 hB hs hL hid
 by_cases h1 : len < 1
 ·obtain rfl : len = 0 := by omega
  clear hW HIN HBW
  obtain ⟨W1, hW1, hY0, hBY, -⟩ := boxes1 w #[.int .u64 A, .int .u64 B] 24
  obtain ⟨q0, q1⟩ := cl2 hY0
  have HBY := Lib.hid hBY
  clear hY0 hBY
  go_enter Tryz.func13, Tryz.ntmps13
  go_wp2_with fail
  go_ret2
  exact ⟨.inl rfl, HBY.out⟩
 by_cases h8 : 8 < len
 ·clear hW HIN HBW
  obtain ⟨W1, hW1, hY0, hBY, -⟩ := boxes1 w #[.int .u64 A, .int .u64 B] 24
  obtain ⟨q0, q1⟩ := cl2 hY0
  have HBY := Lib.hid hBY
  clear hY0 hBY
  have g1 : decide ((len : Int) < 1) = false := decide_eq_false (by omega)
  have g2 : decide ((8 : Int) < (len : Int)) = true := decide_eq_true (by omega)
  go_enter Tryz.func13, Tryz.ntmps13
  go_wp2_with fail
  go_ret2
  exact ⟨.inl rfl, HBY.out⟩
 have g1 : decide ((len : Int) < 1) = false := decide_eq_false (by omega)
 have g2 : decide ((8 : Int) < (len : Int)) = false := decide_eq_false (by omega)
 go_enter Tryz.func13, Tryz.ntmps13
 go_wp2_with fail
 go_loopw [24] (fun i wr => ∃ k : Nat, i = .int .i64 k ∧ k ≤ len ∧ Hid (NewIn w A B ((l.take k).map Cfg.id) wr)) (fun i _ => len - (intOf i).toNat)
 case atStart => exact ⟨0, rfl, Nat.zero_le _, HIN⟩
 case round =>
  obtain ⟨k, rfl, hk, HN0⟩ := hrel
  by_cases hlt : k < len
  ·obtain ⟨x, b1, o1, hx, ea1, hb1, hc1⟩ := (HLN.out.below HN0.out.2.1).at hlt
   subst ea1
   have p0 : wr.cell? ⟨b1, o1 + k * 3, none⟩ = some (.int .u64 x.id) := hc1 0 (by omega)
   have p1 : wr.cell? ⟨b1, o1 + k * 3 + 1, none⟩ = some (.int .i64 x.bud) := hc1 1 (by omega)
   have p2 : wr.cell? ⟨b1, o1 + k * 3 + 2, none⟩ = some (.int .u64 x.life) := hc1 2 (by omega)
   have i0 : (0 : Int) ≤ (k : Int) := by omega
   have i1 : (k : Int) < (len : Int) := by omega
   have hux : U64 x.id := HID.out x (List.mem_of_getElem? hx)
   have HTK : Hid ((l.take (k + 1)).map Cfg.id = (l.take k).map Cfg.id ++ [x.id]) := by
    rw [Hid, List.take_add_one, hx]; simp
   obtain ⟨ids, hids⟩ : ∃ ids, (l.take k).map Cfg.id = ids := ⟨_, rfl⟩
   have HLEN : Hid (ids.length = k) := by rw [Hid, ← hids]; have := HLL.out; simp; omega
   rw [hids] at HN0 HTK
   clear hids hc1 hx
   obtain ⟨V, hV, hXV, hBV, hsV⟩ := boxes1 wr #[.int .u64 x.id, .int .i64 x.bud, .int .u64 x.life] 41
   have HNV := Lib.hid (HN0.out.go hBV)
   obtain ⟨m0, m1, m2⟩ := cl3 hXV
   have HFd := Lib.hid (find_any (w.heap.size + 1) A B x.id ids V (HNV.out.coll (by rw [HLEN.out]; omega)))
   have HK := Lib.hid fun V => Key_any A B x.id V hux
   have HN := Lib.hid fun X Y V => tnNew_any x.id x.bud x.life X Y V
   obtain ⟨D, hD⟩ : ∃ D, V.drew = D := ⟨_, rfl⟩
   have HND : Hid (NewIn w A B ids D) := by rw [← hD]; exact HNV.out.go (Below.refl _ _).drew
   have hXD : D.heap[wr.heap.size]? = some (.cells #[.int .u64 x.id, .int .i64 x.bud, .int .u64 x.life] 41 (0, 0)) := by rw [← hD]; exact hXV
   have HF : Hid (∀ Y, Below D.heap.size D Y → Y.cell? ⟨wr.heap.size, 0, none⟩ = some (.int .u64 x.id) ∧ Y.cell? ⟨wr.heap.size, 1, none⟩ = some (.int .i64 x.bud) ∧ Y.cell? ⟨wr.heap.size, 2, none⟩ = some (.int .u64 x.life) ∧ Y.cell? ⟨w.heap.size, 0, none⟩ = some (.int .u64 A) ∧ Y.cell? ⟨w.heap.size, 1, none⟩ = some (.int .u64 B)) := fun Y hY => by
    have y1 := known hY (Nat.le_refl _) hXD
    obtain ⟨⟨_, _, _, _, _, y2, _⟩, _⟩ := HND.out.go hY
    exact ⟨cCc y1 0, cCc y1 1, cCc y1 2, cCc y2 0, cCc y2 1⟩
   have HG : Hid (∀ Y, Below D.heap.size D Y → Y.drew.heap[wr.heap.size]? = some (.cells #[.int .u64 x.id, .int .i64 x.bud, .int .u64 x.life] 41 (0, 0)) ∧ NewIn w A B ids Y.drew ∧ Below w.heap.size w Y.drew) := fun Y hY => by
    have y1 := known hY (Nat.le_refl _) hXD
    have y2 := HND.out.go hY.drew
    exact ⟨y1, y2, y2.2.1⟩
   obtain ⟨d0, d1, d2, d3, d4⟩ := HF.out D (Below.refl _ _)
   have HD := Lib.hid hD
   clear hXV hBV hsV hD hXD hux
   go_wp2_with fail
   refine HFd.out.mono ?_
   rintro e w1 ⟨hw, ⟨hin, rfl⟩ | ⟨hin, fp, rfl⟩⟩
   rotate_left
   ·have hw := hw.symm
    subst hw
    go_wp2_with fail
    go_ret2
    exact ⟨.inl rfl, HNV.out.2.1⟩
   have hw := hw.symm
   subst hw
   go_wp2_with fail
   refine wp_region_held_drew (S := fun w' => w'.cell? ⟨wr.heap.size, 0, none⟩ = some (.int .u64 x.id) ∧ w'.cell? ⟨wr.heap.size, 1, none⟩ = some (.int .i64 x.bud) ∧ w'.cell? ⟨wr.heap.size, 2, none⟩ = some (.int .u64 x.life) ∧ w'.cell? ⟨w.heap.size, 0, none⟩ = some (.int .u64 A) ∧ w'.cell? ⟨w.heap.size, 1, none⟩ = some (.int .u64 B)) (by kernel_rfl) (by rw [HD.out]; exact ⟨d0, d1, d2, d3, d4⟩) (fun hS => ?_)
   rw [HD.out] at hS ⊢
   refine wpAnyH_take (i := 0) (v := ?_) rfl (by kernel_rfl) (by kernel_rfl) (by kernel_rfl) (fun _ _ _ h => h) (Or.inl ⟨by rfl, ?_⟩) (by assumption) ?_
   rotate_left
   ·intro w hSw; go_split_ands; go_simp; with_reducible rfl
   refine wpAnyH_take (i := 1) (v := ?_) rfl (by kernel_rfl) (by kernel_rfl) (by kernel_rfl) (fun _ _ _ h => h) (Or.inl ⟨by rfl, ?_⟩) (by assumption) ?_
   rotate_left
   ·intro w hSw; go_split_ands; go_simp; with_reducible rfl
   refine wpAnyH_take (i := 2) (v := ?_) rfl (by kernel_rfl) (by kernel_rfl) (by kernel_rfl) (fun _ _ _ h => h) (Or.inl ⟨by rfl, ?_⟩) (by assumption) ?_
   rotate_left
   ·intro w hSw; go_simp; with_reducible rfl
   refine wpAnyH_take (i := 3) (v := ?_) rfl (by kernel_rfl) (by kernel_rfl) (by kernel_rfl) (fun _ _ _ h => h) (Or.inl ⟨by rfl, ?_⟩) (by assumption) ?_
   rotate_left
   ·intro w hSw; go_split_ands; go_simp; with_reducible rfl
   refine wpAnyH_ready (rs := [4]) (by kernel_rfl) (by simp) ?_
   refine AllReadyH.cons rfl (fun K hK => ?_) ?_
   ·go_simp
    refine (HK.out _).mono ?_
    rintro e x1 ⟨rfl, hb⟩
    have HX1 := Lib.hid hb
    clear hb
    refine hK.out _ _ ?_ (fun hS => ?_)
    ·exact HF.out _ HX1.out
    clear hK K
    refine wpAnyH_ready (rs := [5]) (by kernel_rfl) (by simp) ?_
    refine AllReadyH.cons rfl (fun K hK => ?_) ?_
    ·go_simp
     refine (HN.out _ _ _).mono ?_
     rintro e x2 ⟨tp, er, rfl, hte, hb⟩
     have HX2 : Hid (Below D.heap.size D x2) := HX1.out.trans (hb.mono HX1.out.size)
     have HTE := Lib.hid hte
     clear hb hte
     refine hK.out _ _ ?_ (fun hS => ?_)
     ·exact HF.out _ HX2.out
     clear hK K
     refine wpAnyH_take (i := 6) (v := ?_) rfl (by kernel_rfl) (by kernel_rfl) (by kernel_rfl) (fun _ _ _ h => h) (Or.inl ⟨by rfl, ?_⟩) (by assumption) ?_
     rotate_left
     ·intro w hSw; go_simp; with_reducible rfl
     refine wpAnyH_take (i := 7) (v := ?_) rfl (by kernel_rfl) (by kernel_rfl) (by kernel_rfl) (fun _ _ _ h => h) (Or.inl ⟨by rfl, ?_⟩) (by assumption) ?_
     rotate_left
     ·intro w hSw; go_simp; with_reducible rfl
     refine wpAnyH_take (i := 8) (v := ?_) rfl (by kernel_rfl) (by kernel_rfl) (by kernel_rfl) (fun _ _ _ h => h) (Or.inl ⟨by rfl, ?_⟩) (by assumption) ?_
     rotate_left
     ·intro w hSw; go_simp; with_reducible rfl
     refine wpAnyH_ready (rs := [9]) (by kernel_rfl) (by simp) ?_
     refine AllReadyH.cons rfl (fun K hK => ?_) ?_
     ·go_simp
      refine hK.out _ _ ?_ (fun hS => ?_)
      ·exact hS
      clear hK K
      refine wpAnyH_ready (rs := [10]) (by kernel_rfl) (by simp) ?_
      refine AllReadyH.cons rfl (fun K hK => ?_) ?_
      ·go_simp
       refine hK.out _ _ ?_ (fun hS => ?_)
       ·exact hS
       clear hK K
       refine wpAnyH_done (by kernel_rfl) ?_ _
       clear hS d0 d1 d2 d3 d4
       rcases HTE.out with ⟨rfl, tb, rfl⟩ | ⟨her, rfl⟩
       rotate_left
       ·have her2 : (er == 0) = false := by simp [her]
        have her3 : (er != 0) = true := by simp [her]
        have HR : Hid (Below w.heap.size w x2) := HND.out.2.1.trans (HX2.out.mono HND.out.2.1.size)
        go_wp2_with fail
        go_ret2
        exact ⟨.inl rfl, HR.out⟩
       obtain ⟨y0, yN, yB⟩ := HG.out x2 HX2.out
       obtain ⟨D2, hD2⟩ : ∃ D2, x2.drew = D2 := ⟨_, rfl⟩
       rw [hD2] at y0 yN yB
       have HD2 := Lib.hid hD2
       clear hD2
       obtain ⟨ia, ic, ta, tc, g4, cap4, w4, g6, cap6, w6, V5, c2, c2', i0, j0, hap, j4, c4, f4, hV5, j5, c5, hap6, c6, f6, hE⟩ := yN.push x.bud x.life x.id ⟨tb, 0, none⟩ wr.heap.size y0 (by rw [HLEN.out]; omega)
       rw [HLEN.out] at c2 c2' hap c4 c5 hap6 c6 hV5 j5 hE
       have HE := Lib.hid hE
       have HV5 := Lib.hid hV5
       clear y0 yN yB hE hV5
       go_wp2_with fail
       refine wp_region_held_drew (S := fun w' => w'.cell? ⟨wr.heap.size, 0, none⟩ = some (.int .u64 x.id)) (by kernel_rfl) (by rw [HD2.out]; exact i0) (fun hS => ?_)
       rw [HD2.out] at hS ⊢
       refine wpAnyH_take (i := 0) (v := ?_) rfl (by kernel_rfl) (by kernel_rfl) (by kernel_rfl) (fun _ _ _ h => h) (Or.inl ⟨by rfl, ?_⟩) (by assumption) ?_
       rotate_left
       ·intro w hSw; go_simp; with_reducible rfl
       refine wpAnyH_take (i := 1) (v := ?_) rfl (by kernel_rfl) (by kernel_rfl) (by kernel_rfl) (fun _ _ _ h => h) (Or.inl ⟨by rfl, ?_⟩) (by assumption) ?_
       rotate_left
       ·intro w hSw; go_simp; with_reducible rfl
       refine wpAnyH_take (i := 2) (v := ?_) rfl (by kernel_rfl) (by kernel_rfl) (by kernel_rfl) (fun _ _ _ h => h) (Or.inl ⟨by rfl, ?_⟩) (by assumption) ?_
       rotate_left
       ·intro w hSw; go_simp; with_reducible rfl
       refine wpAnyH_take (i := 3) (v := ?_) rfl (by kernel_rfl) (by kernel_rfl) (by kernel_rfl) (fun _ _ _ h => h) (Or.inl ⟨by rfl, ?_⟩) (by assumption) ?_
       rotate_left
       ·intro w hSw; go_simp; with_reducible rfl
       refine wpAnyH_take (i := 5) (v := ?_) rfl (by kernel_rfl) (by kernel_rfl) (by kernel_rfl) (fun _ _ _ h => h) (Or.inl ⟨by rfl, ?_⟩) (by assumption) ?_
       rotate_left
       ·intro w hSw; go_simp; with_reducible rfl
       refine wpAnyH_take (i := 6) (v := ?_) rfl (by kernel_rfl) (by kernel_rfl) (by kernel_rfl) (fun _ _ _ h => h) (Or.inl ⟨by rfl, ?_⟩) (by assumption) ?_
       rotate_left
       ·intro w hSw; go_split_ands; go_simp; with_reducible rfl
       refine wpAnyH_ready (rs := [4, 7]) (by kernel_rfl) (by simp) ?_
       refine AllReadyH.cons rfl (fun K hK => ?_) ?_
       ·go_simp
        refine hK.out _ _ ?_ (fun hS => ?_)
        ·exact hS
        clear hK K
        refine wpAnyH_ready (rs := [7]) (by kernel_rfl) (by simp) ?_
        refine AllReadyH.cons rfl (fun K hK => ?_) ?_
        ·go_simp
         refine hK.out _ _ ?_ (fun hS => ?_)
         ·exact j0
         clear hK K
         refine wpAnyH_ready (rs := [8]) (by kernel_rfl) (by simp) ?_
         refine AllReadyH.cons rfl (fun K hK => ?_) ?_
         ·go_simp
          refine hK.out _ _ ?_ (fun hS => ?_)
          ·exact j4
          clear hK K
          refine wpAnyH_take (i := 9) (v := ?_) rfl (by kernel_rfl) (by kernel_rfl) (by kernel_rfl) (fun _ _ _ h => h) (Or.inl ⟨by rfl, ?_⟩) (by assumption) ?_
          rotate_left
          ·intro w hSw; go_simp; with_reducible rfl
          refine wpAnyH_take (i := 10) (v := ?_) rfl (by kernel_rfl) (by kernel_rfl) (by kernel_rfl) (fun _ _ _ h => h) (Or.inl ⟨by rfl, ?_⟩) (by assumption) ?_
          rotate_left
          ·intro w hSw; go_simp; with_reducible rfl
          refine wpAnyH_ready (rs := [11]) (by kernel_rfl) (by simp) ?_
          refine AllReadyH.cons rfl (fun K hK => ?_) ?_
          ·go_simp
           refine hK.out _ _ ?_ (fun hS => ?_)
           ·exact j5
           clear hK K
           refine wpAnyH_done (by kernel_rfl) ?_ _
           rw [HV5.out]
           go_wp2_with (at_builtin; refine wp_append_eq rfl _ _ _ rfl rfl rfl hap6 ?_)
           go_roundw
           case rel => exact ⟨k + 1, by go_num, by omega, by rw [HTK.out]; exact HE⟩
           case measure => simp [intOf]; omega
          exact AllReadyH.nil
         exact AllReadyH.nil
        exact AllReadyH.nil
       refine AllReadyH.cons rfl (fun K hK => ?_) ?_
       ·go_simp
        refine hK.out _ _ ?_ (fun hS => ?_)
        ·exact j0
        clear hK K
        refine wpAnyH_ready (rs := [4]) (by kernel_rfl) (by simp) ?_
        refine AllReadyH.cons rfl (fun K hK => ?_) ?_
        ·go_simp
         refine hK.out _ _ ?_ (fun hS => ?_)
         ·exact hS
         clear hK K
         refine wpAnyH_ready (rs := [8]) (by kernel_rfl) (by simp) ?_
         refine AllReadyH.cons rfl (fun K hK => ?_) ?_
         ·go_simp
          refine hK.out _ _ ?_ (fun hS => ?_)
          ·exact j4
          clear hK K
          refine wpAnyH_take (i := 9) (v := ?_) rfl (by kernel_rfl) (by kernel_rfl) (by kernel_rfl) (fun _ _ _ h => h) (Or.inl ⟨by rfl, ?_⟩) (by assumption) ?_
          rotate_left
          ·intro w hSw; go_simp; with_reducible rfl
          refine wpAnyH_take (i := 10) (v := ?_) rfl (by kernel_rfl) (by kernel_rfl) (by kernel_rfl) (fun _ _ _ h => h) (Or.inl ⟨by rfl, ?_⟩) (by assumption) ?_
          rotate_left
          ·intro w hSw; go_simp; with_reducible rfl
          refine wpAnyH_ready (rs := [11]) (by kernel_rfl) (by simp) ?_
          refine AllReadyH.cons rfl (fun K hK => ?_) ?_
          ·go_simp
           refine hK.out _ _ ?_ (fun hS => ?_)
           ·exact j5
           clear hK K
           refine wpAnyH_done (by kernel_rfl) ?_ _
           rw [HV5.out]
           go_wp2_with (at_builtin; refine wp_append_eq rfl _ _ _ rfl rfl rfl hap6 ?_)
           go_roundw
           case rel => exact ⟨k + 1, by go_num, by omega, by rw [HTK.out]; exact HE⟩
           case measure => simp [intOf]; omega
          exact AllReadyH.nil
         exact AllReadyH.nil
        exact AllReadyH.nil
       exact AllReadyH.nil
      exact AllReadyH.nil
     exact AllReadyH.nil
    exact AllReadyH.nil
   exact AllReadyH.nil
  ·obtain rfl : k = len := by omega
   have HR := Lib.hid (HN0.out.coll (by have := HLL.out; simp; omega))
   go_wp2_with fail
   go_ret2
   refine ⟨.inr ⟨_, rfl, ?_⟩, HN0.out.2.1⟩
   have h := HR.out
   rwa [HLL.out, List.take_length] at h
end Go.Proofs.YtpklkhgnjbopnaaGreatDoor
namespace Go.Proofs.YtpklkhgnjbopnaaGreatDoor
open Go Go.RowKit Go.Shelf
def tokenS : ByteArray := ⟨#[116, 111, 107, 101, 110]⟩
theorem isRole_any (n : Int) (w : World) : Calls Tryz.prog 83 #[.int .i64 n] w fun e w' => w' = w ∧ e = .returned (.bool (decide (1 ≤ n) && decide (n ≤ 3))) := by
 by_cases h1 : n < 1
 ·have d : decide (1 ≤ n) = false := decide_eq_false (by omega)
  rw [d]
  go_enter Tryz.func83, Tryz.ntmps83
  go_wp2_with fail
  go_ret
  exact ⟨rfl, rfl⟩
 ·have d : decide (1 ≤ n) = true := decide_eq_true (by omega)
  rw [d]
  go_enter Tryz.func83, Tryz.ntmps83
  go_wp2_with fail
  go_ret
  exact ⟨rfl, rfl⟩
def tokB (n : Int) (i : Nat) : Int := n / 2 ^ (8 * (7 - i)) % 256
def tokC (n : Int) (k : Nat) : Array Value := ((List.range 8).map fun i => Value.int .u8 (if i < k then tokB n i else 0)).toArray
def tokSum (A B : Int) (s : ByteArray) : ByteArray := strOfNums ((List.range 8).map (tokB (sipS (childK A B tokenS).1 (childK A B tokenS).2 s)))
theorem tokC_set (n : Int) (k : Nat) (hk : k < 8) : (tokC n k).setIfInBounds k (.int .u8 (tokB n k)) = tokC n (k + 1) := by
 obtain rfl | rfl | rfl | rfl | rfl | rfl | rfl | rfl : k = 0 ∨ k = 1 ∨ k = 2 ∨ k = 3 ∨ k = 4 ∨ k = 5 ∨ k = 6 ∨ k = 7 := by omega
 all_goals rfl
theorem tokC_at (n : Int) (i : Nat) (hi : i < 8) : (tokC n 8)[i]? = some (.int .u8 (tokB n i)) := by
 obtain rfl | rfl | rfl | rfl | rfl | rfl | rfl | rfl : i = 0 ∨ i = 1 ∨ i = 2 ∨ i = 3 ∨ i = 4 ∨ i = 5 ∨ i = 6 ∨ i = 7 := by omega
 all_goals rfl
theorem tokC_size (n : Int) (k : Nat) : (tokC n k).size = 8 := by simp [tokC]
set_option maxRecDepth 100000 in
set_option maxHeartbeats 2000000 in
theorem sumOf_any (A B : Int) (s : ByteArray) (w : World) (hs : s.size < 4294967281) : CR 85 #[.agg #[.int .u64 A, .int .u64 B], .string s] w (.string (tokSum A B s)) := by
 unfold tokSum
 have HC := Lib.hid fun V => Child_any A B tokenS V (by decide)
 obtain ⟨⟨S0, S1⟩, hS⟩ : ∃ S, childK A B tokenS = S := ⟨_, rfl⟩
 rw [hS] at HC ⊢
 dsimp only at HC ⊢
 unfold tokenS at HC
 have HM := Lib.hid fun V => sip_Sum_any S0 S1 s V hs
 obtain ⟨n, hn⟩ : ∃ n, sipS S0 S1 s = n := ⟨_, rfl⟩
 rw [hn] at HM ⊢
 obtain ⟨W, hW, hX, hB, -⟩ := boxes1 w #[.int .u64 A, .int .u64 B] 24
 obtain ⟨k0, k1⟩ := cl2 hX
 have HB := Lib.hid hB
 clear hX hB
 go_enter Tryz.func85, Tryz.ntmps85
 go_wp2_with fail
 refine (HC.out _).mono ?_
 rintro e w1 ⟨rfl, hb⟩
 have HB1 : Hid (Below w.heap.size w w1) := HB.out.trans (hb.mono HB.out.size)
 clear hb
 go_wp2_with fail
 refine (HM.out _).mono ?_
 rintro e w2 ⟨rfl, hb⟩
 have HB2 : Hid (Below w.heap.size w w2) := HB1.out.trans (hb.mono HB1.out.size)
 clear hb
 obtain ⟨V, hV, hVX, hBV, hzV⟩ := boxes1 w2 #[.int .u8 0, .int .u8 0, .int .u8 0, .int .u8 0, .int .u8 0, .int .u8 0, .int .u8 0, .int .u8 0] 208
 have HV : Hid (V.heap[w2.heap.size]? = some (.cells (tokC n 0) 208 (0, 0)) ∧ Below w.heap.size w V) := ⟨hVX, HB2.out.trans (hBV.mono HB2.out.size)⟩
 clear hVX hBV hzV
 go_wp2_with fail
 go_loopw [12] (fun i wr => ∃ k : Nat, i = .int .i64 k ∧ k ≤ 8 ∧ Hid (wr.heap[w2.heap.size]? = some (.cells (tokC n k) 208 (0, 0)) ∧ Below w.heap.size w wr)) (fun i _ => 8 - (intOf i).toNat)
 case atStart => exact ⟨0, rfl, by omega, HV⟩
 case round =>
  obtain ⟨k, rfl, hk, HI⟩ := hrel
  by_cases hlt : k < 8
  ·have i0 : (0 : Int) ≤ (k : Int) := by omega
   have i1 : (k : Int) < 8 := by omega
   obtain ⟨x, hx⟩ : ∃ x, (tokC n k)[k]? = some x := ⟨_, Array.getElem?_eq_getElem (by rw [tokC_size]; exact hlt)⟩
   have c0 : wr.cell? ⟨w2.heap.size, k, none⟩ = some x := by rw [← hx]; exact cCc HI.out.1 k
   have f0 : wr.frozen? ⟨w2.heap.size, k, none⟩ = false := cFz HI.out.1 k
   clear hx
   have HJ : Hid (Below w.heap.size w w2) := HB2
   have HS : Hid ((wr.setCell ⟨w2.heap.size, k, none⟩ (.int .u8 (n / 2 ^ (8 * (7 - k)) % 256))).heap[w2.heap.size]? = some (.cells (tokC n (k + 1)) 208 (0, 0)) ∧ Below w.heap.size w (wr.setCell ⟨w2.heap.size, k, none⟩ (.int .u8 (n / 2 ^ (8 * (7 - k)) % 256)))) := by
    refine ⟨?_, HI.out.2.setCell (p := ⟨w2.heap.size, k, none⟩) HJ.out.size _⟩
    rw [← tokC_set n k hlt]
    exact hSk HI.out.1 _
   go_wp2_with fail
   exact ⟨⟨k + 1, by go_num, by omega, HS⟩, by simp [intOf]; omega⟩
  ·obtain rfl : k = 8 := by omega
   have hcv : (convert 84 9 (.slice (some ⟨w2.heap.size, 0, none⟩) 8 8)).run Tryz.prog wr = .ok (.string (strOfNums ((List.range 8).map (tokB n)))) wr := by
    refine conv_at ((List.range 8).map (tokB n)) (fun i hi => ?_)
    have h8 : i < 8 := by simpa using hi
    refine (cCc HI.out.1 i).trans ?_
    rw [tokC_at n i h8, List.getD_eq_getElem?_getD, List.getElem?_map, List.getElem?_range h8]
    rfl
   go_wp2_with fail
   go_ret
   exact ⟨rfl, HI.out.2⟩
theorem tokSum_size (A B : Int) (s : ByteArray) : (tokSum A B s).size = 8 := by unfold tokSum; rw [strOfNums_size]; simp
theorem str_snoc (xs : List UInt8) (ys : List Int) : (⟨xs.toArray⟩ : ByteArray) ++ strOfNums ys = ⟨(xs ++ ys.map fun k => UInt8.ofNat k.toNat).toArray⟩ := by
 apply ByteArray.ext
 apply Array.toList_inj.1
 rw [ByteArray.data_append, Array.toList_append, strOf_list]
set_option maxRecDepth 100000 in
set_option maxHeartbeats 2000000 in
theorem joinedT_any (l : List Int) (a : Option Addr) (len cap : Nat) (w : World) (hL : SlE encU 1 w.heap.size w a len l) (hu : U64s l) (hlen : len ≤ 1000) : CR 84 #[.slice a len cap] w (.string ⟨(numsB l).toArray⟩) := by
 have HLL := Lib.hid hL.1
 have HL := Lib.hid hL
 have HU := Lib.hid hu
 clear hL hu
 go_enter Tryz.func84, Tryz.ntmps84
 go_wp2_with fail
 go_loopw [3, 8] (fun t i wr => ∃ k : Nat, i = .int .i64 k ∧ t = .string ⟨(numsB (l.take k)).toArray⟩ ∧ k ≤ len ∧ Hid (Below w.heap.size w wr)) (fun _ i _ => len - (intOf i).toNat)
 case atStart => exact ⟨0, rfl, rfl, by omega, Below.refl _ _⟩
 case round =>
  obtain ⟨k, rfl, rfl, hk, HB⟩ := hrel
  by_cases hlt : k < len
  ·obtain ⟨x, b1, o1, hx, ea1, hb1, hc1⟩ := (HL.out.below HB.out).at hlt
   subst ea1
   have p0 : wr.cell? ⟨b1, o1 + k * 1 + 0, none⟩ = some (.int .u64 x) := hc1 0 (by omega)
   simp only [Nat.mul_one, Nat.add_zero] at p0
   have i0 : (0 : Int) ≤ (k : Int) := by omega
   have i1 : (k : Int) < (len : Int) := by omega
   have hux : U64 x := HU.out x (List.mem_of_getElem? hx)
   obtain ⟨p, hp⟩ : ∃ p, strOfNums (putNums x) = p := ⟨_, rfl⟩
   have HP : Hid (∀ W, CR 50 #[.int .u64 x] W (.string p)) := fun W => by rw [← hp]; exact field_Put_any x W hux
   obtain ⟨q, hq⟩ : ∃ q : ByteArray, ⟨(numsB (l.take k)).toArray⟩ = q := ⟨_, rfl⟩
   have HQ : Hid (q ++ p = ⟨(numsB (l.take (k + 1))).toArray⟩) := by
    rw [Hid, ← hp, ← hq, str_snoc, List.take_add_one, hx, Option.toList_some, numsB_append, numsB_one]
   have hsz : ¬ 9223372036854775807 < q.size + p.size := by
    have e1 : q.size = (numsB (l.take k)).length := by rw [← hq]; exact str_size _
    have e2 := (numsB_len (l.take k)).2
    have e3 : p.size ≤ 9 := by rw [← hp, strOfNums_size]; have := numsB_one_len x; rw [numsB_one, List.length_map] at this; exact this.2
    rw [List.length_take] at e2
    omega
   rw [hq]
   clear hp hq hx hc1 hux
   go_wp2_with fail
   refine (HP.out _).mono ?_
   rintro e w1 ⟨rfl, hb⟩
   have HB1 : Hid (Below w.heap.size w w1) := HB.out.trans (hb.mono HB.out.size)
   clear hb
   go_wp2_with fail
   go_roundw
   case rel => exact ⟨k + 1, by go_num, by rw [HQ.out], by omega, HB1⟩
   case measure => simp [intOf]; omega
  ·obtain rfl : k = len := by omega
   have HE : Hid ((⟨(numsB (l.take k)).toArray⟩ : ByteArray) = ⟨(numsB l).toArray⟩) := by rw [Hid, HLL.out, List.take_length]
   rw [HE.out]
   go_wp2_with fail
   go_ret
   exact ⟨rfl, HB.out⟩
def bodyB (tn rl un : Int) : ByteArray := ⟨(numsB [tn, rl, un]).toArray⟩
def mintT (A B tn rl un : Int) : ByteArray := bodyB tn rl un ++ tokSum A B (bodyB tn rl un)
theorem bodyB_size (tn rl un : Int) : (bodyB tn rl un).size ≤ 27 := by
 have := (numsB_len [tn, rl, un]).2
 rw [bodyB, str_size]; simpa using this
set_option maxRecDepth 100000 in
set_option maxHeartbeats 2000000 in
theorem Mint_bad (A B tn rl un : Int) (w : World) (hr : ¬ (1 ≤ rl ∧ rl ≤ 3)) : CR 47 #[.agg #[.int .u64 A, .int .u64 B], .agg #[.int .u64 tn, .int .i64 rl, .int .u64 un]] w (.tuple #[.string ⟨#[]⟩, .int .i64 170]) := by
 obtain ⟨W, hW, hX, hY, hB, -⟩ := boxes2 w #[.int .u64 A, .int .u64 B] 24 #[.int .u64 tn, .int .i64 rl, .int .u64 un] 34
 obtain ⟨k0, k1⟩ := cl2 hX
 obtain ⟨c0, c1, c2⟩ := cl3 hY
 have HR := Lib.hid (isRole_any rl W)
 have hd : (decide (1 ≤ rl) && decide (rl ≤ 3)) = false := by
  rw [Bool.and_eq_false_iff, decide_eq_false_iff_not, decide_eq_false_iff_not]; omega
 rw [hd] at HR
 have HB := Lib.hid hB
 clear hX hY hB hr hd
 go_enter Tryz.func47, Tryz.ntmps47
 go_wp2_with fail
 refine HR.out.mono ?_
 rintro e w1 ⟨hw, rfl⟩
 have hw := hw.symm
 subst hw
 go_wp2_with fail
 go_ret2
 exact ⟨rfl, HB.out⟩
set_option maxRecDepth 100000 in
set_option maxHeartbeats 2000000 in
theorem Mint_ok (A B tn rl un : Int) (w : World) (h1 : 1 ≤ rl) (h3 : rl ≤ 3) (ht : U64 tn) (hun : U64 un) : CR 47 #[.agg #[.int .u64 A, .int .u64 B], .agg #[.int .u64 tn, .int .i64 rl, .int .u64 un]] w (.tuple #[.string (mintT A B tn rl un), .int .i64 0]) := by
 obtain ⟨W, hW, hX, hY, hB, -⟩ := boxes2 w #[.int .u64 A, .int .u64 B] 24 #[.int .u64 tn, .int .i64 rl, .int .u64 un] 34
 obtain ⟨k0, k1⟩ := cl2 hX
 obtain ⟨c0, c1, c2⟩ := cl3 hY
 obtain ⟨V, hV, hVX, hBV, hzV⟩ := boxes1 W #[.int .u64 tn, .int .u64 rl, .int .u64 un] 22
 have HJ := Lib.hid (joinedT_any [tn, rl, un] (some ⟨W.heap.size, 0, none⟩) 3 3 V (SlE.of_at (l := [tn, rl, un]) (cap := 3) (fun _ => rfl) (slAt_new hVX)) (by
  intro x hx
  simp only [List.mem_cons, List.not_mem_nil, or_false] at hx
  rcases hx with rfl | rfl | rfl
  ·exact ht
  ·exact ⟨by omega, by omega⟩
  ·exact hun) (by decide))
 have HR := Lib.hid (isRole_any rl W)
 have hd : (decide (1 ≤ rl) && decide (rl ≤ 3)) = true := by
  rw [Bool.and_eq_true, decide_eq_true_eq, decide_eq_true_eq]; omega
 rw [hd] at HR
 have HS := Lib.hid fun U => sumOf_any A B (bodyB tn rl un) U (by have := bodyB_size tn rl un; omega)
 have hz : ¬ 9223372036854775807 < (bodyB tn rl un).size + (tokSum A B (bodyB tn rl un)).size := by have := bodyB_size tn rl un; rw [tokSum_size]; omega
 unfold mintT
 obtain ⟨q, hq⟩ : ∃ q, bodyB tn rl un = q := ⟨_, rfl⟩
 have hq' : (⟨(numsB [tn, rl, un]).toArray⟩ : ByteArray) = q := hq
 rw [hq'] at HJ
 rw [hq] at HS hz ⊢
 obtain ⟨p, hp⟩ : ∃ p, tokSum A B q = p := ⟨_, rfl⟩
 rw [hp] at HS hz ⊢
 have HK : Hid (∀ U, Below V.heap.size V U → U.cell? ⟨w.heap.size, 0, none⟩ = some (.int .u64 A) ∧ U.cell? ⟨w.heap.size, 1, none⟩ = some (.int .u64 B)) := fun U hU => by
  have y := known hU (Nat.le_refl _) (known hBV (Nat.le_refl _) hX)
  exact ⟨cCc y 0, cCc y 1⟩
 have HB : Hid (Below w.heap.size w V) := hB.trans (hBV.mono hB.size)
 have g0 : 0 ≤ rl := by omega
 have g1 : rl ≤ 18446744073709551615 := by omega
 clear hX hY hB hd hVX hBV hzV hq hq' hp ht hun
 go_enter Tryz.func47, Tryz.ntmps47
 go_wp2_with fail
 refine HR.out.mono ?_
 rintro e w1 ⟨hw, rfl⟩
 have hw := hw.symm
 subst hw
 go_wp2_with fail
 refine HJ.out.mono ?_
 rintro e w2 ⟨rfl, hb⟩
 have HB2 : Hid (Below w.heap.size w w2) := HB.out.trans (hb.mono HB.out.size)
 obtain ⟨j0, j1⟩ := HK.out w2 hb
 clear hb
 go_wp2_with fail
 refine (HS.out _).mono ?_
 rintro e w3 ⟨rfl, hb⟩
 have HB3 : Hid (Below w.heap.size w w3) := HB2.out.trans (hb.mono HB2.out.size)
 clear hb
 go_wp2_with fail
 go_ret2
 exact ⟨rfl, HB3.out⟩
end Go.Proofs.YtpklkhgnjbopnaaGreatDoor
