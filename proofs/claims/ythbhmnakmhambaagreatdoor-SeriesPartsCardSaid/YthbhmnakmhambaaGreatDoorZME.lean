/- series.Meant; what a scope means, in plain data. Sketches at work as plain data: two merged. No program in sight. Laws of layer 10: items; New, whatever the kind. Package hll: Merge. Package hist: Merge. -/
import Derived.Test.YthbhmnakmhambaaGreatDoorZS7
namespace Go.Proofs.YthbhmnakmhambaaGreatDoor
open Go Go.RowKit Go.Shelf
theorem Means_E (s : StrK) (a : Option Addr) (len cap : Nat) (l : List Lab) (w : World) (h : SlE Lab.enc 2 w.heap.size w a len l) (ho : LabsOk l) (hr : labRight l = true) (hG : GW w) (hm : len < 4294967281) :
  Calls Tryz.prog 56 #[.string s.1, .slice a len cap] w fun e w' => e = .returned (.tuple #[.bool (meansS s l).1, .int .i64 (meansS s l).2]) ∧ Below w.heap.size w w' := by
 have hl := h.1
 have h0 : 0 < len := by
  rcases Nat.eq_zero_or_pos len with h0 | h0
  ·subst h0
   obtain rfl : l = [] := List.eq_nil_of_length_eq_zero hl.symm
   cases hr
  ·exact h0
 have hat := h.to_at (cap := cap) labEnc_len h0
 obtain ⟨ls, rfl⟩ := labK_of l ho
 rw [List.length_map] at hl
 subst hl
 exact Means_any s a cap ls w hat hG hm
def meantGo (s : StrK) : Nat → List Ser → List Nat
 | _, [] => []
 | k, x :: r => if (meansS s x.l).1 then k :: meantGo s (k + 1) r else meantGo s (k + 1) r
def meantOk (L : List Ser) (s : StrK) : Bool := tabRight L && scRight s
def meantE (L : List Ser) (s : StrK) : Int := if tabRight L then (if scRight s then 0 else 50) else 120
def meantR (L : List Ser) (s : StrK) : List Nat := if meantOk L s then meantGo s 0 L else []
theorem meantGo_snoc (s : StrK) (x : Ser) : ∀ (l : List Ser) (k : Nat), meantGo s k (l ++ [x]) = meantGo s k l ++ (if (meansS s x.l).1 then [k + l.length] else [])
 | [], k => by simp [meantGo]
 | y :: l, k => by
  simp only [List.cons_append, meantGo, meantGo_snoc s x l, List.length_cons]
  have e : k + 1 + l.length = k + (l.length + 1) := by omega
  split <;> simp [e]
theorem means_zero {s : StrK} {l : List Lab} (h1 : scRight s = true) (h2 : labRight l = true) : (meansS s l).2 = 0 := by
 unfold scRight at h1
 unfold meansS
 cases hs : readS s with
 | none => rw [hs] at h1; cases h1
 | some ts => simp [h2]
def MeantPost (L : List Ser) (s : StrK) (w : World) (e : Ending) (w' : World) : Prop :=
 ∃ a cap, e = .returned (.tuple #[.slice a (meantR L s).length cap, .int .i64 (meantE L s)]) ∧ SlC encP 1 w'.heap.size w' a (meantR L s).length cap (meantR L s) ∧ Below w.heap.size w w'
attribute [-go_sem] Builtin.append_
set_option maxRecDepth 100000 in
set_option maxHeartbeats 4000000 in
theorem Meant_any (s : StrK) (l : List (Ser × SerP)) (a : Option Addr) (len cap : Nat) (w : World) (hT : Tab w.heap.size w a len cap l) (hF : TabFit l) (hG : GW w) :
  Calls Tryz.prog 46 #[.slice a len cap, .string s.1] w (MeantPost (l.map (·.1)) s w) := by
 have hR := series_Right_any l a len cap w hT hF hG
 have hlen := hT.row.1.1
 subst hlen
 have HT := Lib.hid hT
 have HF := Lib.hid hF
 have HG := Lib.hid hG
 have hm : l.length ≤ maxLen := Nat.le_trans hT.row.2.1 hT.row.2.2.1
 unfold maxLen at hm
 clear hT hF hG
 cases hr : tabRight (l.map (·.1)) with
 | false =>
  rw [hr] at hR
  have H9 : Hid (meantE (l.map (·.1)) s = 120 ∧ meantR (l.map (·.1)) s = []) := ⟨by rw [meantE, hr]; rfl, by rw [meantR, meantOk, hr]; rfl⟩
  clear hr
  go_enter Tryz.func46, Tryz.ntmps46
  go_wp2_with (go_at_call 10; refine hR.mono ?_; rintro e w1 ⟨rfl, hb1⟩)
  go_ret2
  exact ⟨none, 0, by rw [H9.out.1, H9.out.2]; rfl, by rw [H9.out.2]; exact SlC.nil, hb1⟩
 | true =>
  rw [hr] at hR
  have HSc : Hid (∀ w', Below w.heap.size w w' → Calls Tryz.prog 44 #[.string s.1] w' fun e w'' => e = .returned (.bool (scRight s)) ∧ Below w'.heap.size w' w'') := fun w' hb => scRight_any s w' (HG.out.below hb)
  cases hs : scRight s with
  | false =>
   rw [hs] at HSc
   have H9 : Hid (meantE (l.map (·.1)) s = 50 ∧ meantR (l.map (·.1)) s = []) := ⟨by rw [meantE, hr, hs]; rfl, by rw [meantR, meantOk, hr, hs]; rfl⟩
   clear hr hs
   go_enter Tryz.func46, Tryz.ntmps46
   go_wp2_with (first
    | (go_at_call 10; refine hR.mono ?_; rintro e w1 ⟨rfl, hb1⟩)
    | (go_at_call 44; refine (HSc.out _ hb1).mono ?_; rintro e w2 ⟨rfl, hb2⟩))
   go_ret2
   exact ⟨none, 0, by rw [H9.out.1, H9.out.2]; rfl, by rw [H9.out.2]; exact SlC.nil, hb1.trans (hb2.mono hb1.size)⟩
  | true =>
   rw [hs] at HSc
   have H9 : Hid (meantE (l.map (·.1)) s = 0 ∧ meantR (l.map (·.1)) s = meantGo s 0 (l.map (·.1))) := ⟨by rw [meantE, hr, hs]; rfl, by rw [meantR, meantOk, hr, hs]; rfl⟩
   have HLR : Hid (∀ x ∈ l.map (·.1), labRight x.l = true) := fun x hx => by
    have := ((tabRight_iff _).1 hr).2.1 x hx
    simp only [serRight, Bool.and_eq_true] at this
    exact this.1
   have h20 : l.length ≤ 20 := by have := ((tabRight_iff _).1 hr).1; rwa [List.length_map] at this
   have HSR := Lib.hid hs
   clear hr hs
   go_enter Tryz.func46, Tryz.ntmps46
   go_wp2_with (first
    | (go_at_call 10; refine hR.mono ?_; rintro e w1 ⟨rfl, hb1⟩)
    | (go_at_call 44; refine (HSc.out _ hb1).mono ?_; rintro e w2 ⟨rfl, hb2⟩))
   clear hR
   have hb02 := hb1.trans (hb2.mono hb1.size)
   go_loopw [6, 19] (fun v i wr => ∃ (k : Nat) (pl : List Nat), i = .int .i64 k ∧ k ≤ l.length ∧ Hid (pl = meantGo s 0 ((l.map (·.1)).take k)) ∧ Hid (pl.length ≤ k) ∧ wr.ownsRow w.heap.size 3 1 v pl.length (pl.flatMap encP) ∧ Below w.heap.size w wr) (fun _ i _ => l.length - (intOf i).toNat)
   case atStart => exact ⟨0, [], rfl, Nat.zero_le _, rfl, Nat.le_refl _, World.ownsRow_nil _ _ _ _, hb02⟩
   case round =>
    obtain ⟨k, pl, rfl, hk, HPl, HLe, hown, hB⟩ := hrel
    have hsz := hB.size
    obtain ⟨va, vc, rfl⟩ := owns_formL hown
    have HOw := Lib.hid hown
    have hpl : pl.length < 4294967 := by have := HLe.out; omega
    obtain ⟨np, HNp⟩ : ∃ np, Hid (pl.length = np) := ⟨_, rfl⟩
    rw [HNp.out] at hpl ⊢
    clear hown
    by_cases hlt : k < l.length
    ·obtain ⟨⟨x, p⟩, hx⟩ : ∃ x, l[k]? = some x := ⟨_, List.getElem?_eq_getElem hlt⟩
     obtain ⟨b, off, rfl, hbb, hc⟩ := (HT.out.below hB).row.1.2 k (x, p) hx
     have c0 : wr.cell? ⟨b, off + k * 12, none⟩ = some (.slice p.la p.ll p.lc) := hc 0 (by omega)
     have c1 : wr.cell? ⟨b, off + k * 12 + 1, none⟩ = some (.int .i64 x.sk.kind) := hc 1 (by omega)
     have c2 : wr.cell? ⟨b, off + k * 12 + 2, none⟩ = some (.int .i64 x.sk.level) := hc 2 (by omega)
     have c3 : wr.cell? ⟨b, off + k * 12 + 3, none⟩ = some (.slice p.ss.ea p.ss.el p.ss.ec) := hc 3 (by omega)
     have c4 : wr.cell? ⟨b, off + k * 12 + 4, none⟩ = some (.int .i64 x.sk.hb) := hc 4 (by omega)
     have c5 : wr.cell? ⟨b, off + k * 12 + 5, none⟩ = some (.string x.sk.hr) := hc 5 (by omega)
     have c6 : wr.cell? ⟨b, off + k * 12 + 6, none⟩ = some (.int .i64 x.sk.cr) := hc 6 (by omega)
     have c7 : wr.cell? ⟨b, off + k * 12 + 7, none⟩ = some (.int .i64 x.sk.cc) := hc 7 (by omega)
     have c8 : wr.cell? ⟨b, off + k * 12 + 8, none⟩ = some (.slice p.ss.ca p.ss.cl p.ss.cc) := hc 8 (by omega)
     have c9 : wr.cell? ⟨b, off + k * 12 + 9, none⟩ = some (.int .i64 x.sk.gf) := hc 9 (by omega)
     have c10 : wr.cell? ⟨b, off + k * 12 + 10, none⟩ = some (.slice p.ss.ga p.ss.gl p.ss.gc) := hc 10 (by omega)
     have c11 : wr.cell? ⟨b, off + k * 12 + 11, none⟩ = some (.int .u64 x.seen) := hc 11 (by omega)
     have HX : Hid ((l.map (·.1))[k]? = some x) := by rw [Hid, List.getElem?_map, hx]; rfl
     have HP : Hid (p.At wr.heap.size wr x) := ((HT.out.at_ _ (List.mem_of_getElem? hx)).below hB).mono hsz
     have HFx := Lib.hid (HF.out _ (List.mem_of_getElem? hx))
     obtain ⟨W1, hW1, hX1, hB1, hs1⟩ := boxes1 wr #[.slice p.la p.ll p.lc, .int .i64 x.sk.kind, .int .i64 x.sk.level, .slice p.ss.ea p.ss.el p.ss.ec, .int .i64 x.sk.hb, .string x.sk.hr, .int .i64 x.sk.cr, .int .i64 x.sk.cc, .slice p.ss.ca p.ss.cl p.ss.cc, .int .i64 x.sk.gf, .slice p.ss.ga p.ss.gl p.ss.gc, .int .u64 x.seen] 43
     obtain ⟨r0, r1, r2, r3, r4, r5, r6, r7, r8, r9, r10, r11⟩ := cl12 hX1
     have HP1 : Hid (p.At W1.heap.size W1 x) := HP.out.go hB1
     have HG1 : Hid (GW W1) := HG.out.below (hB.trans (hB1.mono hsz))
     have hz1 : wr.heap.size < W1.heap.size := by omega
     have hlr : labRight x.l = true := HLR.out x (List.mem_of_getElem? HX.out)
     have hMe := Means_E s p.la p.ll p.lc x.l W1 HP1.out.l.1 HFx.out.lab hlr HG1.out HFx.out.ll
     rw [means_zero HSR.out hlr] at hMe
     have HPn : Hid (meantGo s 0 ((l.map (·.1)).take (k + 1)) = pl ++ (if (meansS s x.l).1 then [k] else [])) := by
      rw [Hid, take_snoc' HX.out, meantGo_snoc, ← HPl.out, List.length_take, List.length_map, Nat.min_eq_left hk, Nat.zero_add]
     clear hc hx hs1 hlr
     cases hmb : (meansS s x.l).1 with
     | false =>
      rw [hmb] at hMe HPn
      clear hmb
      go_wp2_with (go_at_call 56; refine hMe.mono ?_; rintro e w4 ⟨rfl, hb4⟩)
      have hb14 := hB1.trans (hb4.mono (by omega))
      go_roundw
      case rel => exact ⟨k + 1, pl, by go_num, by omega, by rw [Hid, HPn.out]; simp, by have := HLe.out; rw [Hid]; omega, by rw [← HNp.out]; exact owns_go HOw.out hb14, hB.trans (hb14.mono hsz)⟩
      case measure => simp [intOf]; omega
     | true =>
      rw [hmb] at hMe HPn
      clear hmb
      go_wp2_with (go_at_call 56; refine hMe.mono ?_; rintro e w4 ⟨rfl, hb4⟩; have hb14 := hB1.trans (hb4.mono (by omega)); have hBw4 := hB.trans (hb14.mono hsz); obtain ⟨g5, cap5, w5, hap5, hown5, hB5, hz5, -⟩ := append_one Tryz.prog 71 und_ints info_int rfl (by decide) (W := w4) (owns_go HOw.out hb14) hBw4 (Nat.le_refl _) (by have := hBw4.size; omega) [.int .i64 (k : Int)] rfl (by simp [Value.oneCell']) (by rw [HNp.out]; omega) (by decide); rw [HNp.out] at hap5 hown5; have HO5 := Lib.hid hown5; clear hown5)
      go_roundw
      case rel => exact ⟨k + 1, pl ++ [k], by go_num, by omega, by rw [Hid, HPn.out]; simp, by have := HLe.out; rw [Hid, List.length_append]; simp; omega, by rw [List.length_append, HNp.out, List.flatMap_append]; exact HO5.out, hB5⟩
      case measure => simp [intOf]; omega
    ·obtain rfl : k = l.length := by omega
     have hfin : pl = meantR (l.map (·.1)) s := by rw [H9.out.2, HPl.out, List.take_of_length_le (by rw [List.length_map]; exact Nat.le_refl _)]
     have FI : Hid (MeantPost (l.map (·.1)) s w (.returned (.tuple #[.slice va np vc, .int .i64 0])) wr) := by
      obtain ⟨a', c', e1, h1, -⟩ := slC_of_owns (enc := encP) (fun _ => rfl) HOw.out
      rw [HNp.out] at e1
      refine ⟨a', c', ?_, ?_, hB⟩
      ·rw [← hfin, HNp.out, H9.out.1, e1]
      ·rw [← hfin]; exact h1
     clear hfin
     go_wp2_with fail
     go_ret2
     exact FI.out
end Go.Proofs.YthbhmnakmhambaaGreatDoor
namespace Go.Proofs.YthbhmnakmhambaaGreatDoor
open Go Go.RowKit Go.Shelf
theorem meant_in (s : StrK) : ∀ (l : List Ser) (k : Nat), (∀ i ∈ meantGo s k l, k ≤ i ∧ i < k + l.length) ∧ (meantGo s k l).Pairwise (· < ·)
 | [], k => ⟨(fun i h => by cases h), List.Pairwise.nil⟩
 | x :: r, k => by
  obtain ⟨h1, h2⟩ := meant_in s r (k + 1)
  have h1' : ∀ i ∈ meantGo s (k + 1) r, k ≤ i ∧ i < k + (r.length + 1) := fun i hi => by have := h1 i hi; omega
  simp only [meantGo, List.length_cons]
  split
  ·refine ⟨fun i hi => ?_, List.pairwise_cons.2 ⟨fun i hi => by have := h1 i hi; omega, h2⟩⟩
   rcases List.mem_cons.1 hi with rfl | hi
   ·omega
   ·exact h1' i hi
  ·exact ⟨h1', h2⟩
end Go.Proofs.YthbhmnakmhambaaGreatDoor
namespace Go.Proofs.YthbhmnakmhambaaGreatDoor
open Go Go.RowKit
def hlMax (r s : List Nat) : List Nat := (List.range r.length).map fun i => max (r.getD i 0) (s.getD i 0)
def cmMrg (l m : List Int) : List Int := (List.range l.length).map fun i => satI (l.getD i 0) (m.getD i 0)
def Bd.merge : Bd → Bd → Option Bd
 | .num l, .num m => (exGather l m).map .num
 | .reg b r, .reg _ s => some (.reg b (hlMax r s))
 | .cnt c l, .cnt _ m => some (.cnt c (cmMrg l m))
 | .bkt f l, .bkt _ m => some (.bkt f (hiDone (hiPuts l m)))
 | _, _ => none
def wkMerge (s t : Nat × Bd) : Nat × Bd :=
 match (wkTo s (max s.1 t.1)).2.merge (wkTo t (max s.1 t.1)).2 with
 | some B => (max s.1 t.1, B)
 | none => (max s.1 t.1 + 1, ((wkTo s (max s.1 t.1)).2.low.merge (wkTo t (max s.1 t.1)).2.low).getD (wkTo s (max s.1 t.1)).2.low)
theorem gather_some : ∀ (r l m : List Int), Up l → l.length ≤ 64 → exGather l r = some m → Up m ∧ m.length ≤ 64 ∧ ∀ y, y ∈ m ↔ y ∈ l ∨ y ∈ r
 | [], l, m, hu, hl, h => by
  obtain rfl : l = m := by simpa [exGather] using h
  exact ⟨hu, hl, fun y => by simp⟩
 | n :: r, l, m, hu, hl, h => by
  rw [exGather] at h
  split at h
  ·cases h
  ·rename_i hc
   rw [exIns_eq l n hu] at h hc
   obtain ⟨h1, h2, h3⟩ := gather_some r _ m (insR_up l n hu) (by omega) h
   refine ⟨h1, h2, fun y => ?_⟩
   rw [h3, insR_mem, List.mem_cons]
   constructor
   ·rintro ((e | e) | e)
    ·exact .inr (.inl e)
    ·exact .inl e
    ·exact .inr (.inr e)
   ·rintro (e | e | e)
    ·exact .inl (.inr e)
    ·exact .inl (.inl e)
    ·exact .inr e
theorem hlMax_len (r s : List Nat) : (hlMax r s).length = r.length := by simp [hlMax]
theorem hlMax_at (r s : List Nat) (i : Nat) (hi : i < r.length) : (hlMax r s).getD i 0 = max (r.getD i 0) (s.getD i 0) := by
 unfold hlMax
 rw [List.getD_eq_getElem?_getD, List.getElem?_map, List.getElem?_range hi]
 rfl
theorem getD_mem0 (l : List Nat) (i : Nat) (h : l.length ≤ i) : l.getD i 0 = 0 := by rw [List.getD_eq_getElem?_getD, List.getElem?_eq_none h]; rfl
theorem cmMrg_len (l m : List Int) : (cmMrg l m).length = l.length := by simp [cmMrg]
theorem cmMrg_at (l m : List Int) (i : Nat) (hi : i < l.length) : (cmMrg l m).getD i 0 = satI (l.getD i 0) (m.getD i 0) := by
 unfold cmMrg
 rw [List.getD_eq_getElem?_getD, List.getElem?_map, List.getElem?_range hi]
 rfl
theorem cmMrg_u64 (l m : List Int) (hl : U64s l) (hm : U64s m) : U64s (cmMrg l m) := by
 intro x hx
 obtain ⟨i, -, rfl⟩ := List.mem_map.1 hx
 exact satI_u64 _ _ (getD_u64 l hl i) (getD_u64 m hm i)
theorem same_cols {c d L : Nat} (h : c * 2 ^ L = 32) (h' : d * 2 ^ L = 32) : c = d := Nat.eq_of_mul_eq_mul_right (Nat.two_pow_pos L) (h.trans h'.symm)
theorem merge_ok {k L : Nat} {x y z : Bd} (hx : x.Ok k L) (hy : y.Ok k L) (hz : x.merge y = some z) : z.Ok k L := by
 cases x with
 | num l =>
  cases y with
  | num m =>
   obtain ⟨a1, a2, a3, a4, a5⟩ := hx
   obtain ⟨b1, b2, b3, b4, b5⟩ := hy
   obtain ⟨q, hq, rfl⟩ := Option.map_eq_some_iff.1 hz
   obtain ⟨c1, c2, c3⟩ := gather_some m l q a3 a4 hq
   exact ⟨a1, a2, c1, c2, fun n hn => ((c3 n).1 hn).elim (a5 n) (b5 n)⟩
  | reg b r => cases hz
  | cnt c l => cases hz
  | bkt f l => cases hz
 | reg b r =>
  cases y with
  | num m => cases hz
  | reg b' s =>
   obtain ⟨a1, a2, a3, a4, a5, a6⟩ := hx
   obtain ⟨b1, b2, b3, b4, b5, b6⟩ := hy
   obtain rfl : _ = z := Option.some.inj hz
   refine ⟨a1, a2, a3, a4, by rw [hlMax_len, a5], fun i => ?_⟩
   by_cases hi : i < r.length
   ·rw [hlMax_at _ _ _ hi]
    have := a6 i
    have := b6 i
    obtain rfl : b = b' := by omega
    omega
   ·rw [getD_mem0 _ _ (by rw [hlMax_len]; omega)]; omega
  | cnt c l => cases hz
  | bkt f l => cases hz
 | cnt c l =>
  cases y with
  | num m => cases hz
  | reg b r => cases hz
  | cnt c' m =>
   obtain ⟨a1, a2, a3, a4, a5⟩ := hx
   obtain ⟨b1, b2, b3, b4, b5⟩ := hy
   obtain rfl : _ = z := Option.some.inj hz
   exact ⟨a1, a2, a3, by rw [cmMrg_len, a4], cmMrg_u64 l m a5 b5⟩
  | bkt f l => cases hz
 | bkt f l =>
  cases y with
  | num m => cases hz
  | reg b r => cases hz
  | cnt c m => cases hz
  | bkt f' m =>
   obtain ⟨a1, a2, a3, a4, a5, a6, a7⟩ := hx
   obtain ⟨b1, b2, b3, b4, b5, b6, b7⟩ := hy
   obtain rfl : f = f' := by omega
   obtain rfl : _ = z := Option.some.inj hz
   refine ⟨a1, a2, a3, hiDone_up (hiPuts_up m l a4), hiDone_pos, hiDone_u64 (hiPuts_u64 m l a6 b6), fun x hx => ?_⟩
   rcases hiPuts_mem m l x (List.mem_filter.1 hx).1 with h | ⟨y, hy, e⟩ | ⟨y, hy, e⟩
   ·exact a7 x h
   ·rw [e]; exact a7 y hy
   ·rw [e]; exact b7 y hy
end Go.Proofs.YthbhmnakmhambaaGreatDoor
namespace Go.Proofs.YthbhmnakmhambaaGreatDoor
open Go Go.RowKit Go.Shelf
theorem at_apart {W V : World} {y : Sk} {s : SS} (h : s.At W.heap.size W y) {b : Nat} {cs : Array Value} {t : TypeId} (hX : W.heap[b]? = some (.cells cs t (0, 0))) (hc : ∀ (i : Nat) (u : Int), cs[i]? ≠ some (Value.int .u64 u)) (hV : OnlyAt b W V) : s.At V.heap.size V y :=
 ⟨slC_apart (i0 := 0) (by decide) (fun x => ⟨x, rfl⟩) hX hc hV h.e, slC_apart (i0 := 0) (by decide) (fun x => ⟨x, rfl⟩) hX hc hV h.c, slC_apart (i0 := 1) (by decide) (fun x => ⟨x.2, rfl⟩) hX hc hV h.g⟩
end Go.Proofs.YthbhmnakmhambaaGreatDoor
namespace Go.Proofs.YthbhmnakmhambaaGreatDoor
open Go Go.RowKit Go.Shelf
attribute [local go_sem] Oper.semAt_some
set_option maxRecDepth 100000 in
set_option maxHeartbeats 1000000 in
theorem ranks_kl1 {α : Type} (f : α → Nat × UInt8) (l Bs : Nat) (s : ByteArray) (hreach : s.size < 4294967281) (ls : List α) (hls : ls.map f = octs s) (J Jx : List α → World → Prop)
  (hY : ∀ pre x W, J pre W → pre.length < ls.length → YieldAt Fence.wide 7 Tryz.prog l #[.int .i64 (f x).1, .int .u8 (f x).2.toNat] W fun e W' =>
   (e = .returned (.bool true) ∧ J (pre ++ [x]) W' ∧ KL [Bs] W W') ∨ (e = .returned (.bool false) ∧ Jx (pre ++ [x]) W'))
  (W : World) (hBs : W.heap[Bs]? = some (.cells #[.string s] 9 (0, 0))) (h0 : J [] W) :
  CallsIn Fence.wide 8 Tryz.prog 165 #[.func (.yield l) #[] #[], .pointer (some ⟨Bs, 0, none⟩)] W fun e W' => (∃ v, e = .returned v) ∧
   ((∃ ys, ys = ls ∧ J ys W') ∨ (∃ pre, pre <+: ls ∧ Jx pre W')) := by
 have hol : ls.length = s.size := by rw [← octs_len s, ← hls, List.length_map]
 refine callsIn_of_wp Tryz.func165 rfl trivial ?_ rfl
 simp only [Tryz.ntmps165, List.size_toArray, List.length_cons, List.length_nil, Nat.reduceAdd, Nat.reduceSub, Array.replicate_succ, Array.replicate_zero, List.push_toArray, List.append_toArray, List.nil_append, List.cons_append]
 have HO := Lib.hid hol
 have HBs := Lib.hid hBs
 have HLS := Lib.hid hls
 have b0 : W.cell? ⟨Bs, 0, none⟩ = some (.string s) := cCc hBs 0
 clear hol hBs hls
 gi_wp2
 gi_loopw [3, 6] (fun _ i wr => ∃ k : Nat, k ≤ s.size ∧ i = .int .i64 k ∧ J (ls.take k) wr ∧ KL [Bs] W wr) (fun _ i _ => s.size - (intOf i).toNat)
 case atStart => exact ⟨0, Nat.zero_le _, rfl, h0, KL.refl _ _⟩
 case round =>
  obtain ⟨k, hk, rfl, hJs, hnx⟩ := hrel
  by_cases hlt : k < s.size
  ·have hx := octs_at s k hlt
   rw [← HLS.out, List.getElem?_map] at hx
   obtain ⟨y, hy0, hfy⟩ := Option.map_eq_some_iff.1 hx
   obtain ⟨fn, tmps, assign, body, hy, hR⟩ := hY _ y _ hJs (by rw [List.length_take, HO.out]; omega)
   rw [hfy] at hy
   dsimp only at hy
   have HX := Lib.hid hy0
   have hc := hnx Bs (List.mem_singleton.2 rfl) _ HBs.out
   have c0 : wr.cell? ⟨Bs, 0, none⟩ = some (.string s) := cCc hc 0
   clear hx hc hy0 hfy
   gi_wp2
   refine hR.mono ?_
   rintro e W3 (⟨rfl, hJ3, hk3⟩ | ⟨rfl, hJx3⟩)
   ·gi_wp2
    go_roundw
    case rel => exact ⟨k + 1, by omega, by simp, by rw [take_snoc' HX.out]; exact hJ3, hnx.trans hk3⟩
    case measure => simp [intOf]; omega
   ·gi_wp2
    refine bodyPost_ret (results_none rfl _ _ _) rfl ?_
    exact ⟨⟨_, rfl⟩, .inr ⟨_, by have h := List.take_prefix (k + 1) ls; rwa [take_snoc' HX.out] at h, hJx3⟩⟩
  ·obtain rfl : k = s.size := by omega
   gi_wp2
   go_end0
   exact ⟨⟨_, rfl⟩, .inl ⟨_, List.take_of_length_le (by rw [HO.out]; omega), hJs⟩⟩
theorem ranks_kl {α : Type} (f : α → Nat × UInt8) (Bs : Nat) (s : ByteArray) (hreach : s.size < 4294967281) (ls : List α) (hls : ls.map f = octs s) (w : World) (hc : w.heap[Bs]? = some (.cells #[.string s] 9 (0, 0))) :
  SeqStopsK Fence.wide 8 Tryz.prog 165 #[.pointer (some ⟨Bs, 0, none⟩)] (fun x : α => #[.int .i64 (f x).1, .int .u8 (f x).2.toNat]) (KL [Bs]) (fun ys => ys = ls) (fun pre => pre <+: ls) ls.length w := fun l J Jx W hW _ _ hY h0 =>
 ranks_kl1 f l Bs s hreach ls hls J Jx hY W (known hW (Nat.le_refl _) hc) h0
def put2 (s1 s2 : Nat) (x y : Value) (t : Array Value) : Array Value := (t.setIfInBounds s1 x).setIfInBounds s2 y
theorem wp_range_all2 {α : Type} {P : Program} {g : Operand} {ps : Array Tmp} {assign body : Code} {Q : Exit → Act → World → Prop} {a : Act} {w : World} (L : List Nat) (s1 s2 : Nat) (v1 v2 : α → Value)
  {gf : Nat} {lb : Array Value} (hg : a.eval g = .func (.func gf) #[] lb) (eg : ∀ args w, (callFunc gf args).run P w = .ok (.enter gf args) w)
  {encs : α → Array Value} {xs : List α} {N : Nat} {w0 : World} (hseq : SeqStopsK Fence.wide 8 P gf lb encs (KL L) (fun ys => ys = xs) (fun pre => pre <+: xs) N w0)
  (hL : ∀ b ∈ L, b < w.heap.size) (hb0 : Below w0.heap.size w0 w) (hps : ∀ x, (encs x).size = ps.size)
  (I : List α → World → Prop) (hI : OwnFrom w.heap.size I) (h0 : I [] w)
  (hassign : ∀ (l : Nat) (pre : List α) (x : α) (W : World) (K : Act → World → Prop), I pre W → (I pre W → K { tmps := put2 s1 s2 (v1 x) (v2 x) ((ps.zip (encs x)).foldl (fun t (p, v) => t.setIfInBounds p v) a.tmps), defers := [] } W) →
   assign.wpIn (Fence.wide.inRound l) 7 P (Exit.then K (fun _ _ _ => False)) { tmps := (ps.zip (encs x)).foldl (fun t (p, v) => t.setIfInBounds p v) a.tmps, defers := [] } W)
  (hbody : ∀ (l : Nat) (pre : List α) (x : α) (W : World), I pre W → pre.length < N → body.wpIn (Fence.wide.inRound l) 7 P (ownPostG w.heap.size (KL L) I (fun _ _ _ => False) (pre ++ [x]) W) { tmps := put2 s1 s2 (v1 x) (v2 x) ((ps.zip (encs x)).foldl (fun t (p, v) => t.setIfInBounds p v) a.tmps), defers := [] } W)
  (hdone : ∀ (D : Nat) (W : World), w.heap.size ≤ D → I xs W → W.heap[D]? = some (.deferred (some [])) → Q .normal { a with defers := { target := .collected D, args := #[] } :: a.defers } W) :
  (Code.rangeFunc g ps assign body).wp P Q a w := by
 generalize hT : (fun x => put2 s1 s2 (v1 x) (v2 x) ((ps.zip (encs x)).foldl (fun t (p, v) => t.setIfInBounds p v) a.tmps)) = T
 have e : ∀ x, put2 s1 s2 (v1 x) (v2 x) ((ps.zip (encs x)).foldl (fun t (p, v) => t.setIfInBounds p v) a.tmps) = T x := fun x => congrFun hT x
 simp only [e] at hassign hbody
 exact wp_range_all L T hg eg hseq hL hb0 hps I hI h0 hassign hbody hdone
def tellAll (r : List Nat) (l : List (Nat × UInt8)) : List Nat := l.foldl (fun r p => hlTell r p.1 p.2.toNat) r
theorem tellAll_len : ∀ (l : List (Nat × UInt8)) (r : List Nat), (tellAll r l).length = r.length
 | [], _ => rfl
 | p :: l, r => by show (tellAll (hlTell r p.1 p.2.toNat) l).length = _; rw [tellAll_len l, hlTell_len]
theorem tells_at (f : Nat → UInt8) (r : List Nat) (j : Nat) : ∀ n, (tellAll r ((List.range n).map fun i => (i, f i))).getD j 0 = if j < n ∧ j < r.length then max (r.getD j 0) (f j).toNat else r.getD j 0
 | 0 => by rw [if_neg (by omega)]; rfl
 | n + 1 => by
  have e : tellAll r ((List.range (n + 1)).map fun i => (i, f i)) = hlTell (tellAll r ((List.range n).map fun i => (i, f i))) n (f n).toNat := by
   unfold tellAll
   rw [List.range_succ, List.map_append, List.foldl_append]
   rfl
  rw [e, tell_at, tellAll_len, tells_at f r j n]
  by_cases h : n = j
  ·subst h
   by_cases h2 : n < r.length
   ·rw [if_pos ⟨rfl, h2⟩, if_neg (by omega), if_pos ⟨by omega, h2⟩]
   ·rw [if_neg (by omega), if_neg (by omega), if_neg (by omega)]
  ·rw [if_neg (fun e => h e.1)]
   by_cases h2 : j < n ∧ j < r.length
   ·rw [if_pos h2, if_pos (by omega)]
   ·rw [if_neg h2, if_neg (by omega)]
theorem tells_max (r r2 : List Nat) (hl : r.length = r2.length) (h : ∀ x ∈ r2, x < 256) : tellAll r (octs (hlStr r2)) = hlMax r r2 := by
 refine getD_ext _ _ (by rw [tellAll_len, hlMax_len]) fun i hi => ?_
 rw [tellAll_len] at hi
 have hn := hlStr_nums r2 h
 unfold octs
 rw [tells_at, hlMax_at _ _ _ hi, if_pos ⟨by rw [hlStr_size]; omega, hi⟩]
 have : ((hlStr r2).data.toList.getD i 0).toNat = r2.getD i 0 := by
  conv => rhs; rw [← hn]
  rw [List.getD_eq_getElem?_getD, List.getD_eq_getElem?_getD, List.getElem?_map]
  cases (hlStr r2).data.toList[i]? <;> rfl
 rw [this]
def XI (N g : Nat) (r : List Nat) (w : World) (pre : List { p : Nat × UInt8 // p.1 < N }) (W : World) : Prop := RegsAt W g (tellAll r (pre.map (·.1))) ∧ w.grownBy W (some g)
theorem xi_own (N g : Nat) (r : List Nat) (w : World) (C : Nat) (hC : w.heap.size ≤ C) : OwnFrom C (XI N g r w) := fun pre X Y row hs hg hr => by
 obtain ⟨h1, h3⟩ := hs
 have hne : ∀ k o, X.heap[k]? = some o → o.isCells = true → some k ≠ row := fun k o hk hc e => by
  obtain ⟨-, o', ho', hc'⟩ := hr k e.symm
  rw [hk] at ho'
  cases ho'
  rw [hc] at hc'
  cases hc'
 obtain ⟨cs, fz, hc, -⟩ := id h1
 exact ⟨h1.grown hg (hne _ _ hc rfl), h3.andThen hg (fun j e => .inl (Nat.le_trans hC (hr j e).1))⟩
set_option maxRecDepth 100000 in
set_option maxHeartbeats 2000000 in
theorem hMerge_any (b : Nat) (r r2 : List Nat) (w : World) (h1 : 3 ≤ b) (h2 : b ≤ 8) (hl : r.length = 2 ^ b) (hr : ∀ i, r.getD i 0 ≤ 65 - b) (hl2 : r2.length = 2 ^ b) (hr2 : ∀ i, r2.getD i 0 ≤ 65 - b) :
  Calls Tryz.prog 222 #[.agg #[.int .i64 b, .string (hlStr r)], .agg #[.int .i64 b, .string (hlStr r2)]] w fun e w' => e = .returned (.tuple #[.agg #[.int .i64 b, .string (hlStr (hlMax r r2))], .int .i64 0]) ∧ Below w.heap.size w w' := by
 have hR : Hid (∀ w1, Calls Tryz.prog 138 #[.agg #[.int .i64 b, .string (hlStr r2)]] w1 fun e w' => e = .returned (.bool true) ∧ Below w1.heap.size w1 w') := fun w1 => (hll_Right_any b (hlStr r2) w1).mono fun e w' h => ⟨by rw [h.1, hlRight_str b r2 h1 h2 hl2 hr2], h.2⟩
 have HBG := Lib.hid (fun w => hbegin_any b r w h1 h2 hl hr)
 have HT : Hid (∀ (s : ByteArray) (g cap : Nat) (W : World) (rr : List Nat) (p q : Nat), RegsAt W g rr → rr.length = 2 ^ b → p < 2 ^ b → Calls Tryz.prog 205 #[.agg #[.int .i64 b, .string s, .slice (some ⟨g, 0, none⟩) (2 ^ b) cap, .func (.func 202) #[] #[]], .int .i64 p, .int .u8 q] W fun e w' => e = .returned (.tuple #[]) ∧ RegsAt w' g (hlTell rr p q) ∧ W.grownBy w' (some g)) := fun s g cap W rr p q h hlen hp => tell_any _ s g (2 ^ b) cap p q rr W h (by omega) hlen
 have HD : Hid (∀ (s : ByteArray) (g cap : Nat) (W : World), RegsAt W g (hlMax r r2) → Calls Tryz.prog 199 #[.agg #[.int .i64 b, .string s, .slice (some ⟨g, 0, none⟩) (2 ^ b) cap, .func (.func 202) #[] #[]]] W fun e w' => e = .returned (.agg #[.int .i64 b, .string (hlStr (hlMax r r2))]) ∧ Below W.heap.size W w') := fun s g cap W h => hdone_any _ s g (2 ^ b) cap _ _ W h (by rw [hlMax_len, hl])
 have HTM := Lib.hid (tells_max r r2 (by omega) (fun x hx => by have := le_getD hr2 x hx; omega))
 have hO : ∀ p ∈ octs (hlStr r2), p.1 < 2 ^ b := fun p hp => by
  obtain ⟨i, hi, rfl⟩ := List.mem_map.1 hp
  rw [List.mem_range, hlStr_size, hl2] at hi
  exact hi
 have HZ : Hid ((hlStr r2).size < 4294967281) := by
  have : 2 ^ b ≤ 2 ^ 8 := Nat.pow_le_pow_right (by omega) h2
  show _ < _
  rw [hlStr_size]
  omega
 have HL : Hid (∀ l, (tellAll r l).length = 2 ^ b) := fun l => by rw [tellAll_len, hl]
 obtain ⟨ls, hls⟩ : ∃ ls : List { p : Nat × UInt8 // p.1 < 2 ^ b }, ls.map (·.1) = octs (hlStr r2) := ⟨(octs (hlStr r2)).attachWith _ hO, List.attachWith_map_subtype_val _⟩
 have HLS := Lib.hid hls
 clear hls hO
 generalize hlStr r2 = s2 at hR HTM HLS HZ ⊢
 generalize hlStr r = s at HBG ⊢
 generalize hlStr (hlMax r r2) = s3 at HD ⊢
 obtain ⟨W0, hW0, hXx, hXy, hXr, hB0, hs0⟩ := boxes3 w #[.int .i64 b, .string s] 32 #[.int .i64 b, .string s2] 32 #[.int .i64 0, .string ⟨#[]⟩] 32
 have HXx := Lib.hid hXx
 have HXy := Lib.hid hXy
 have HXr := Lib.hid hXr
 have HB0 := Lib.hid hB0
 obtain ⟨z0, z1⟩ := cl2 hXx
 clear hXx hXy hXr hB0 hl hr hl2 hr2 h1 h2
 refine calls_marks Tryz.func222 rfl ?_
 simp only [Tryz.ntmps222, List.size_toArray, List.length_cons, List.length_nil, Nat.reduceAdd, Nat.reduceSub, Array.replicate_succ, Array.replicate_zero, List.push_toArray, List.append_toArray, List.nil_append, List.cons_append]
 go_wp2_with fail
 refine (HBG.out _).mono ?_
 rintro e w2 ⟨g, cap, rfl, hrg, hg2, hb2⟩
 obtain ⟨W2, hW2, hX2, hB2, hs2⟩ := boxes1 w2 #[.int .i64 b, .string s, .slice (some ⟨g, 0, none⟩) (2 ^ b) cap, .nilFunc] 303
 have hst := st_fn (off := 3) hX2 rfl (.func 202)
 obtain ⟨W3, hW3⟩ : ∃ W3, W2.setCell ⟨w2.heap.size, 3, none⟩ (.func (.func 202) #[] #[]) = W3 := ⟨_, rfl⟩
 have hX3 : W3.heap[w2.heap.size]? = some (.cells #[.int .i64 b, .string s, .slice (some ⟨g, 0, none⟩) (2 ^ b) cap, .func (.func 202) #[] #[]] 303 (0, 0)) := by rw [← hW3]; exact hSk hX2 _
 have hB23 : Below w2.heap.size w2 W3 := by rw [← hW3]; exact hB2.setCell (p := ⟨w2.heap.size, 3, none⟩) (Nat.le_refl _) _
 have hs3 : W3.heap.size = w2.heap.size + 1 := by rw [← hW3, size_set, hs2]
 have hY3 := known (hb2.trans (hB23.mono hb2.size)) (Nat.le_refl _) HXy.out
 have hXx3 := known (hb2.trans (hB23.mono hb2.size)) (Nat.le_refl _) HXx.out
 have hr3 := hrg.go hB23
 obtain ⟨c0, c1, c2, c3⟩ := cl4 hX3
 obtain ⟨y0, y1⟩ := cl2 hY3
 obtain ⟨x0, x1⟩ := cl2 hXx3
 have HX3 := Lib.hid hX3
 have HR3 := Lib.hid hr3
 have HB23 := Lib.hid hB23
 have HG2 : Hid (w.heap.size + 3 ≤ g ∧ g < w2.heap.size) := ⟨by omega, hrg.lt⟩
 have HB2 := Lib.hid hb2
 clear hX2 hX3 hB2 hB23 hY3 hXx3 hr3 hrg hg2 hb2
 go_wp2_with fail
 refine (hR.out _).mono ?_
 rintro e w4 ⟨rfl, hb4⟩
 have hb34 : Below W0.heap.size W0 w4 := HB2.out.trans ((HB23.out.trans (hb4.mono HB23.out.size)).mono HB2.out.size)
 have hY4 := known hb34 (Nat.le_refl _) HXy.out
 have hXx4 := known hb34 (Nat.le_refl _) HXx.out
 have hXr4 := known hb34 (Nat.le_refl _) HXr.out
 have hW4 := known hb4 (Nat.le_refl _) HX3.out
 have hr4 := HR3.out.go hb4
 obtain ⟨d0, d1⟩ := cl2 hY4
 obtain ⟨k0, k1⟩ := cl2 hXx4
 obtain ⟨W5, hW5, hX5, hB5, hs5⟩ := boxes1 w4 #[.string s2] 9
 have HW5 := Lib.hid hW5
 have HXr4 := Lib.hid hXr4
 have HW4 := Lib.hid hW4
 have HR4 := Lib.hid hr4
 have HB4 := Lib.hid hb34
 have hz4 : w2.heap.size < w4.heap.size := by have := hb4.size; omega
 clear hY4 hXx4 hXr4 hW4 hr4 hb34 hW5 hb4 c0 c1 c2 c3 y0 y1 x0 x1 z0 z1
 go_wp2_with (go_at_call 154; refine (ranks_any _ _).mono ?_; rintro e w' ⟨rfl, rfl⟩; rw [HW5.out])
 have hn : w.heap.size + 3 ≤ w2.heap.size := by have := HB2.out.size; omega
 refine wp_range_all2 [w4.heap.size] 8 9 (fun x : { p : Nat × UInt8 // p.1 < 2 ^ b } => .int .i64 x.1.1) (fun x => .int .u8 x.1.2.toNat) (gf := 165) (lb := #[.pointer (some ⟨w4.heap.size, 0, none⟩)]) rfl (enters_of Tryz.func165 (by kernel_rfl) rfl)
  (ranks_kl (fun x : { p : Nat × UInt8 // p.1 < 2 ^ b } => x.1) w4.heap.size s2 HZ.out ls HLS.out W5 hX5) (by intro k hk; simp at hk; omega) (Below.refl _ _) (fun _ => rfl) (XI (2 ^ b) g r W5) (xi_own (2 ^ b) g r W5 _ (Nat.le_refl _)) ⟨HR4.out.go hB5, World.grownBy.refl _ _⟩ ?assign ?body ?fin
 case assign =>
  rintro l pre x W K hI hK
  simp only [put2, List.zip_toArray, List.zip_cons_cons, List.zip_nil_right, List.size_toArray, List.foldl_toArray', List.foldl_cons, List.foldl_nil, List.setIfInBounds_toArray, List.set_cons_succ, List.set_cons_zero] at hK ⊢
  gi_wp2
  exact hI
 case body =>
  rintro lo pre x W ⟨hR, hG⟩ hlt
  simp only [put2, List.zip_toArray, List.zip_cons_cons, List.zip_nil_right, List.size_toArray, List.foldl_toArray', List.foldl_cons, List.foldl_nil, List.setIfInBounds_toArray, List.set_cons_succ, List.set_cons_zero]
  have hx0 := x.2
  have HS : Hid (hlTell (tellAll r (pre.map (·.1))) x.1.1 x.1.2.toNat = tellAll r ((pre ++ [x]).map (·.1))) := by
   unfold Hid tellAll
   rw [List.map_append, List.foldl_append]
   rfl
  have hT := HT.out s g cap W _ x.1.1 x.1.2.toNat hR (HL.out _) hx0
  have hX : W.heap[w2.heap.size]? = some (.cells #[.int .i64 b, .string s, .slice (some ⟨g, 0, none⟩) (2 ^ b) cap, .func (.func 202) #[] #[]] 303 (0, 0)) :=
   (hG.block _ (by omega) (fun e => by cases e; have := HG2.out.2; omega)).trans (known hB5 (Nat.le_refl _) HW4.out)
  obtain ⟨c0, c1, c2, c3⟩ := cl4 hX
  have HG := Lib.hid hG
  have hg4 := HG2.out.2
  clear hG hX hR d0 d1 k0 k1
  gi_wp2_with fail
  refine ⟨trivial, (CallsIn.inRound lo (callsIn_wide.2 hT)).mono ?_⟩
  rintro e W7 ⟨rfl, hR7, hG7⟩
  gi_wp2_with fail
  exact ⟨KeepsFrom.of_grownBy hG7 (fun j e => by cases e; omega), KL.grown hG7 (fun k hk => by simp at hk; subst hk; intro e; cases e; omega), by rw [← HS.out]; exact hR7, HG.out.trans hG7⟩
 case fin =>
  rintro D W hD ⟨hR, hG⟩ hK
  rw [HLS.out, HTM.out] at hR
  have hDn := HD.out s g cap W hR
  have hX : W.heap[w2.heap.size]? = some (.cells #[.int .i64 b, .string s, .slice (some ⟨g, 0, none⟩) (2 ^ b) cap, .func (.func 202) #[] #[]] 303 (0, 0)) :=
   (hG.block _ (by omega) (fun e => by cases e; have := HG2.out.2; omega)).trans (known hB5 (Nat.le_refl _) HW4.out)
  have hRr : W.heap[w.heap.size + 2]? = some (.cells #[.int .i64 0, .string ⟨#[]⟩] 32 (0, 0)) :=
   (hG.block _ (by omega) (fun e => by cases e; have := HG2.out.1; omega)).trans (known hB5 (Nat.le_refl _) HXr4.out)
  have hBW5 : Below w.heap.size w W5 := HB0.out.trans ((HB4.out.trans (hB5.mono HB4.out.size)).mono HB0.out.size)
  have hBW : Below w.heap.size w W := hBW5.grown hG hBW5.size (fun j e => by cases e; have := HG2.out.1; omega)
  obtain ⟨c0, c1, c2, c3⟩ := cl4 hX
  have HDn := Lib.hid hDn
  clear hDn hX hR hG hBW5 d0 d1 k0 k1
  go_wp2_with fail
  refine HDn.out.mono ?_
  rintro e w6 ⟨rfl, hb6⟩
  have hR6 := known hb6 (Nat.le_refl _) hRr
  have hK6 := known hb6 (Nat.le_refl _) hK
  obtain ⟨q0, q1⟩ := cl2 hR6
  obtain ⟨f0, f1⟩ := cz2 hR6
  obtain ⟨V, hV⟩ : ∃ V, (w6.setCell ⟨w.heap.size + 1 + 1, 0, none⟩ (.int .i64 b)).setCell ⟨w.heap.size + 1 + 1, 1, none⟩ (.string s3) = V := ⟨_, rfl⟩
  have hXV : V.heap[w.heap.size + 1 + 1]? = some (.cells #[.int .i64 b, .string s3] 32 (0, 0)) := by rw [← hV]; exact set_cells2 hR6
  have hKV : V.heap[D]? = some (.deferred (some [])) := by
   rw [← hV]
   exact (heap_set_other (p := ⟨w.heap.size + 1 + 1, 1, none⟩) (by show w.heap.size + 1 + 1 ≠ D; omega) _).trans ((heap_set_other (p := ⟨w.heap.size + 1 + 1, 0, none⟩) (by show w.heap.size + 1 + 1 ≠ D; omega) _).trans hK6)
  have hBV : Below w.heap.size w V := by
   rw [← hV]
   exact ((hBW.trans (hb6.mono hBW.size)).setCell (p := ⟨w.heap.size + 1 + 1, 0, none⟩) (by show _ ≤ _ + 1 + 1; omega) _).setCell (p := ⟨w.heap.size + 1 + 1, 1, none⟩) (by show _ ≤ _ + 1 + 1; omega) _
  have hXP : (V.putObj D (.deferred none)).heap[w.heap.size + 1 + 1]? = some (.cells #[.int .i64 b, .string s3] 32 (0, 0)) := (World.putObj_heap_other (by omega)).trans hXV
  have x0 : (V.putObj D (.deferred none)).cell? ⟨w.heap.size + 1 + 1, 0, none⟩ = some (.int .i64 b) := cCc hXP 0
  have x1 : (V.putObj D (.deferred none)).cell? ⟨w.heap.size + 1 + 1, 1, none⟩ = some (.string s3) := cCc hXP 1
  have HE : Hid (V.heap[D]? = some (.deferred (some [])) ∧ Below w.heap.size w V) := ⟨hKV, hBV⟩
  clear hR6 hK6 hXV hKV hBV hXP hRr hBW hb6 hK
  go_wp2_with fail
  refine marks_ret1 (v := .tuple #[.agg #[.int .i64 b, .string s3], .int .i64 0]) HE.out.1 ?_ ?_
  ·simp [results, Tryz.f222, go_sem, x0, x1]
  ·exact ⟨rfl, bPutD HE.out.2 (by omega) HE.out.1⟩
end Go.Proofs.YthbhmnakmhambaaGreatDoor
namespace Go.Proofs.YthbhmnakmhambaaGreatDoor
open Go Go.RowKit Go.Shelf Go.Maps
theorem hist_out2 {w w6 w7 : World} {b rb : Nat} {a : Option Addr} {len cap : Nat} {l : List (Int × Int)} (f : Int) (hrb : w.heap.size ≤ rb) (hbn : rb < b) (hR6 : w6.heap[rb]? = some (.cells #[.int .i64 0, .slice none 0 0] 37 (0, 0))) (hB6 : Below w.heap.size w w6) (hS7 : SlC encB 2 w7.heap.size w7 a len cap l) (ha7 : ∀ x, a = some x → w6.heap.size ≤ x.block) (hg7 : w6.grownBy w7 (some b)) :
  w7.heap[rb]? = some (.cells #[.int .i64 0, .slice none 0 0] 37 (0, 0)) ∧ ∃ V, (w7.setCell ⟨rb, 0, none⟩ (.int .i64 f)).setCell ⟨rb, 1, none⟩ (.slice a len cap) = V ∧ V.heap[rb]? = some (.cells #[.int .i64 f, .slice a len cap] 37 (0, 0)) ∧ SlC encB 2 V.heap.size V a len cap l ∧ Below w.heap.size w V := by
 have hl := (Array.getElem?_eq_some_iff.1 hR6).1
 have hR7 := (hg7.block _ hl (fun e => by cases e; omega)).trans hR6
 refine ⟨hR7, _, rfl, set_cells2 hR7, ?_, ?_⟩
 ·have hsz : ((w7.setCell ⟨rb, 0, none⟩ (.int .i64 f)).setCell ⟨rb, 1, none⟩ (.slice a len cap)).heap.size = w7.heap.size := by simp
  rw [hsz]
  refine slC_block hS7 fun x hx => ?_
  have := ha7 x hx
  exact (Below.heap_setCell _ _ _ _ (fun e => by simp at e; omega)).trans (Below.heap_setCell _ _ _ _ (fun e => by simp at e; omega))
 ·have hB7 : Below w.heap.size w w7 := hB6.grown hg7 hB6.size (fun k e => by cases e; omega)
  exact (hB7.setCell (p := ⟨rb, 0, none⟩) hrb _).setCell (p := ⟨rb, 1, none⟩) hrb _
theorem puts_last (l m : List (Int × Int)) (x : Int × Int) : hiPuts l (m ++ [x]) = binPut (hiPuts l m) x.1 x.2 := by
 unfold hiPuts
 rw [List.foldl_append]
 rfl
set_option maxRecDepth 100000 in
set_option maxHeartbeats 2000000 in
theorem hiMerge_any (f : Nat) (l m : List (Int × Int)) (a : Option Addr) (len cap : Nat) (a2 : Option Addr) (len2 cap2 : Nat) (w : World) (hf : f ≤ 3) (hL : SlE encB 2 w.heap.size w a len l) (hr : hiRight f l = true) (hu : BinUp l) (hbu : BinsU l) (hlen : len ≤ 1000) (hp : ∀ b ∈ l, I64 b.1)
  (hM : SlE encB 2 w.heap.size w a2 len2 m) (hr2 : hiRight f m = true) (hmu : BinsU m) (hlen2 : len2 ≤ 1000) (hp2 : ∀ b ∈ m, I64 b.1) :
  Calls Tryz.prog 244 #[.agg #[.int .i64 f, .slice a len cap], .agg #[.int .i64 f, .slice a2 len2 cap2]] w fun e w' => ∃ a' len' cap', e = .returned (.tuple #[.agg #[.int .i64 f, .slice a' len' cap'], .int .i64 0]) ∧ SlC encB 2 w'.heap.size w' a' len' cap' (hiDone (hiPuts l m)) ∧ Below w.heap.size w w' := by
 obtain ⟨W0, hW0, hXp, hXy, hX0, hB0, hs0⟩ := boxes3 w #[.int .i64 f, .slice a len cap] 37 #[.int .i64 f, .slice a2 len2 cap2] 37 #[.int .i64 0, .slice none 0 0] 37
 obtain ⟨z0, z1⟩ := cl2 hXp
 have hBg := hbegin9_any f l a len cap W0 hf ((hL.below hB0).mono hB0.size) hr hu hbu hlen hp (by unfold maxLen; omega)
 have HR : Hid (∀ W, Below W0.heap.size W0 W → Calls Tryz.prog 140 #[.agg #[.int .i64 f, .slice a2 len2 cap2]] W fun e w' => e = .returned (.bool true) ∧ Below W.heap.size W w') := fun W hB => (hist_Right_any f m a2 len2 cap2 W (((hM.below hB0).mono hB0.size).go hB) (by unfold maxLen; omega) (fun b hb => (hp2 b hb).2)).mono fun e w' h => ⟨by rw [h.1, hr2], h.2⟩
 have HX0 := Lib.hid hX0
 have HXY := Lib.hid hXy
 have HXP := Lib.hid hXp
 have HB0 := Lib.hid hB0
 have HM := Lib.hid hM
 have HC : Hid (BinUp l ∧ BinsU l ∧ (∀ b ∈ l, I64 b.1) ∧ BinsU m ∧ (∀ b ∈ m, I64 b.1) ∧ l.length ≤ 1000 ∧ len2 ≤ 1000 ∧ len2 = m.length) := ⟨hu, hbu, hp, hmu, hp2, by have := hL.1; omega, hlen2, hM.1⟩
 have hlen9 := hlen2
 clear hL hr hu hbu hp hX0 hXy hXp hB0 hM hr2 hmu hp2 hlen hf
 go_enter Tryz.func244, Tryz.ntmps244
 go_wp2_with fail
 refine hBg.mono ?_
 rintro e w1 ⟨b, rfl, hm1, hb1, hB1⟩
 obtain ⟨W2, hW2, hX2, hB2, hs2⟩ := boxes1 w1 #[.map (some b), .int .i64 f] 344
 have hm2 : MapIs W2 b l.length l := hm1.kept (below_gb hB2 none) (by simp)
 have hb1l := hm1.lt
 have hb12 : Below W0.heap.size W0 W2 := hB1.trans (hB2.mono hB1.size)
 have hY2 := known hb12 (Nat.le_refl _) HXY.out
 have HRt := Lib.hid (HR.out W2 hb12)
 obtain ⟨y0, y1⟩ := cl2 hY2
 have hs1 : W0.heap.size ≤ w1.heap.size := hB1.size
 have HB12 := Lib.hid hb12
 have HX2 := Lib.hid hX2
 have HM2 := Lib.hid hm2
 clear hY2 hB1 hB2 hm1 hm2 hX2 hb12
 go_wp2_with fail
 refine HRt.out.mono ?_
 rintro e w3 ⟨rfl, hb3⟩
 have hb13 : Below W0.heap.size W0 w3 := HB12.out.trans (hb3.mono HB12.out.size)
 have hP3 := known hb13 (Nat.le_refl _) HXP.out
 have hY3 := known hb13 (Nat.le_refl _) HXY.out
 have hR3 := known hb13 (Nat.le_refl _) HX0.out
 have hX3 := known hb3 (Nat.le_refl _) HX2.out
 have hm3 : MapIs w3 b l.length l := HM2.out.kept (below_gb hb3 none) (by simp)
 have hb3s := hb3.size
 have hB03 : Below w.heap.size w w3 := HB0.out.trans (hb13.mono HB0.out.size)
 obtain ⟨p0, p1⟩ := cl2 hP3
 obtain ⟨q0, q1⟩ := cl2 hY3
 have HR3 := Lib.hid hR3
 have HX3 := Lib.hid hX3
 have HB03 := Lib.hid hB03
 clear hb13 hP3 hY3 hR3 hX3 hb3 hB03
 go_wp2_with fail
 go_loopw [9, 39] (fun _ i wr => ∃ k : Nat, k ≤ len2 ∧ i = .int .i64 k ∧ MapIs wr b (l.length + k) (hiPuts l (m.take k)) ∧ w3.grownBy wr (some b)) (fun _ i _ => len2 - (intOf i).toNat)
 case atStart => exact ⟨0, Nat.zero_le _, rfl, hm3, World.grownBy.refl _ _⟩
 case round =>
  obtain ⟨k, hk, rfl, hMp, hG⟩ := hrel
  have hXw := (hG.block _ (Array.getElem?_eq_some_iff.1 HX3.out).1 (fun e => by cases e; omega)).trans HX3.out
  have hXr := (hG.block _ (Array.getElem?_eq_some_iff.1 HR3.out).1 (fun e => by cases e; omega)).trans HR3.out
  have hBw : Below w.heap.size w wr := HB03.out.grown hG HB03.out.size (fun j e => by cases e; omega)
  by_cases hlt : k < len2
  ·obtain ⟨x, b1, o1, hx, ea, hb1, p0, p1⟩ := bin_cells (HM.out.below hBw) hlt
   subst ea
   have HX := Lib.hid hx
   have hxi : I64 x.1 := HC.out.2.2.2.2.1 x (List.mem_of_getElem? hx)
   have hxu : U64 x.2 := HC.out.2.2.2.1 x (List.mem_of_getElem? hx)
   obtain ⟨x1, x2⟩ := x
   dsimp only at p0 p1 hxi hxu
   obtain ⟨W4, hW4, hX4, hB4, hs4⟩ := boxes1 wr #[.int .i64 x1, .int .u64 x2] 137
   have hM4 : MapIs W4 b (l.length + k) (hiPuts l (m.take k)) := hMp.kept (below_gb hB4 none) (by simp)
   have hXw4 := known hB4 (Nat.le_refl _) hXw
   have hP := put_any b (l.length + k) f x1 x2 (hiPuts l (m.take k)) W4 hM4 hxi hxu (by have := HC.out.2.2.2.2.2.1; omega) (hiPuts_up _ _ HC.out.1) (hiPuts_u64 _ _ HC.out.2.1 (fun c hc => HC.out.2.2.2.1 c (List.mem_of_mem_take hc)))
   obtain ⟨u0, u1⟩ := cl2 hX4
   obtain ⟨v0, v1⟩ := cl2 hXw4
   have HG := Lib.hid (hG.trans (below_gb hB4 (some b)))
   have HP := Lib.hid hP
   clear hx hXw hXr hX4 hXw4 hM4 hMp hB4 hG hP
   go_wp2_with fail
   refine HP.out.mono ?_
   rintro e w6 ⟨rfl, hM6, hG6⟩
   go_wp2_with fail
   go_roundw
   case rel => exact ⟨k + 1, by omega, by simp, by rw [take_snoc' HX.out, puts_last]; exact hM6, HG.out.trans hG6⟩
   case measure => simp [intOf]; omega
  ·obtain rfl : k = len2 := by omega
   rw [List.take_of_length_le (by rw [HC.out.2.2.2.2.2.2.2]; exact Nat.le_refl _)] at hMp
   have hD := hdone9_any b (l.length + k) f (hiPuts l m) wr hMp (hiPuts_up _ _ HC.out.1) (hiPuts_u64 _ _ HC.out.2.1 HC.out.2.2.2.1) (fun c hc => by
     rcases hiPuts_mem m l c hc with h | ⟨y, hy, e⟩ | ⟨y, hy, e⟩
     ·exact HC.out.2.2.1 c h
     ·rw [e]; exact HC.out.2.2.1 y hy
     ·rw [e]; exact HC.out.2.2.2.2.1 y hy) (by have := hiPuts_len m l; have := HC.out.2.2.2.2.2.1; have := HC.out.2.2.2.2.2.2.2; omega) (by have := HC.out.2.2.2.2.2.1; omega)
   obtain ⟨u0, u1⟩ := cl2 hXw
   have HD := Lib.hid hD
   have HXr := Lib.hid hXr
   have HBw := Lib.hid hBw
   clear hXw hXr hMp hG hBw hD
   go_wp2_with fail
   refine HD.out.mono ?_
   rintro e w7 ⟨a', len', cap', rfl, hS7, ha7, hg7⟩
   obtain ⟨hR7, V, hV, hXV, hSV, hBV⟩ := hist_out2 (rb := w.heap.size + 1 + 1) f (by omega) (by omega) HXr.out HBw.out hS7 ha7 hg7
   obtain ⟨o0, o1⟩ := cl2 hR7
   obtain ⟨g0, g1⟩ := cz2 hR7
   obtain ⟨j0, j1⟩ := cl2 hXV
   have HE : Hid (SlC encB 2 V.heap.size V a' len' cap' (hiDone (hiPuts l m)) ∧ Below w.heap.size w V) := ⟨hSV, hBV⟩
   clear hR7 hXV hSV hBV hS7 ha7 hg7
   go_wp2_with fail
   exact bodyPost_ret (v := .tuple #[.agg #[.int .i64 f, .slice a' len' cap'], .int .i64 0]) (by simp [results, Tryz.f244, go_sem, j0, j1]) rfl ⟨a', len', cap', rfl, HE.out.1, HE.out.2⟩
end Go.Proofs.YthbhmnakmhambaaGreatDoor
