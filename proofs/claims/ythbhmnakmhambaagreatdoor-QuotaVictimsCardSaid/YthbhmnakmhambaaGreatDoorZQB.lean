/- Quota in plain data: a table's victim, what is fitted. No program in sight. quota.Victim. quota.copied: a table that shares nothing. -/
import Derived.Test.YthbhmnakmhambaaGreatDoorZRD
import Derived.Test.YthbhmnakmhambaaGreatDoorZT8
namespace Go.Proofs.YthbhmnakmhambaaGreatDoor
open Go Go.RowKit Go.Shelf
theorem low_kind {x : Ser} (h : x.good) : (lowSer x).sk.kind = x.sk.kind ∧ (lowSer x).sk.level = x.sk.level + 1 := by
 obtain ⟨k, L, B, e, hB⟩ := h.sk
 unfold lowSer
 dsimp only
 rw [e, skLow_sk hB, (skOf_kind _ _ _).1, (skOf_kind _ _ _).2, (skOf_kind _ _ _).1, (skOf_kind _ _ _).2]
 exact ⟨rfl, by omega⟩
theorem vicTo_succ {l : List Ser} {k : Nat} {x : Ser} (h : l[k]? = some x) : vicTo l (k + 1) = vicStep k x (vicTo l k) := by
 show (match l[k]? with | some x => vicStep k x (vicTo l k) | none => vicTo l k) = _
 rw [h]
structure VicAt (l : List Ser) (k : Nat) (s : Nat × Int × Bool) : Prop where
 none : s.2.2 = false → s.1 = 0 ∧ s.2.1 = 0 ∧ ∀ i x, i < k → l[i]? = some x → mayLow x = false
 some : s.2.2 = true → s.1 < k ∧ (∃ x, l[s.1]? = some x ∧ mayLow x = true ∧ serCost x = s.2.1) ∧ ∀ i x, i < k → l[i]? = some x → mayLow x = true → serCost x ≤ s.2.1 ∧ (serCost x = s.2.1 → s.1 ≤ i)
theorem vicTo_at (l : List Ser) : ∀ k, k ≤ l.length → VicAt l k (vicTo l k)
 | 0, _ => ⟨fun _ => ⟨rfl, rfl, fun i x h => by omega⟩, fun h => by cases h⟩
 | k + 1, hk => by
  have ih := vicTo_at l k (by omega)
  obtain ⟨x, hx⟩ : ∃ x, l[k]? = some x := ⟨_, List.getElem?_eq_getElem (by omega)⟩
  rw [vicTo_succ hx]
  generalize vicTo l k = s at ih
  obtain ⟨at_, g, f⟩ := s
  unfold vicStep
  cases hm : mayLow x with
  | false =>
   rw [Bool.false_and, if_neg (by simp)]
   refine ⟨fun h => ?_, fun h => ?_⟩
   ·obtain ⟨h1, h2, h3⟩ := ih.none h
    refine ⟨h1, h2, fun i y hi hy => ?_⟩
    by_cases hik : i = k
    ·subst hik; rw [hx] at hy; cases hy; exact hm
    ·exact h3 i y (by omega) hy
   ·obtain ⟨h1, h2, h3⟩ := ih.some h
    refine ⟨by omega, h2, fun i y hi hy hmy => ?_⟩
    by_cases hik : i = k
    ·subst hik; rw [hx] at hy; cases hy; rw [hm] at hmy; cases hmy
    ·exact h3 i y (by omega) hy hmy
  | true =>
   rw [Bool.true_and]
   dsimp only
   cases f with
   | false =>
    rw [if_pos (by rfl)]
    obtain ⟨h1, h2, h3⟩ := ih.none rfl
    refine ⟨fun h => (by cases h), fun _ => ⟨Nat.lt_succ_self k, ⟨x, hx, hm, rfl⟩, fun i y hi hy hmy => ?_⟩⟩
    by_cases hik : i = k
    ·subst hik; rw [hx] at hy; cases hy; exact ⟨Int.le_refl _, fun _ => Nat.le_refl _⟩
    ·rw [h3 i y (by omega) hy] at hmy; cases hmy
   | true =>
    obtain ⟨h1, h2, h3⟩ := ih.some rfl
    dsimp only at h1 h2 h3
    by_cases hg : g < serCost x
    ·rw [if_pos (by simp [hg])]
     refine ⟨fun h => (by cases h), fun _ => ⟨Nat.lt_succ_self k, ⟨x, hx, hm, rfl⟩, fun i y hi hy hmy => ?_⟩⟩
     by_cases hik : i = k
     ·subst hik; rw [hx] at hy; cases hy; exact ⟨Int.le_refl _, fun _ => Nat.le_refl _⟩
     ·have := (h3 i y (by omega) hy hmy).1
      show serCost y ≤ serCost x ∧ (serCost y = serCost x → k ≤ i)
      exact ⟨by omega, fun e => by omega⟩
    ·rw [if_neg (by simp [hg])]
     refine ⟨fun h => (by cases h), fun _ => ⟨by show at_ < k + 1; omega, h2, fun i y hi hy hmy => ?_⟩⟩
     by_cases hik : i = k
     ·subst hik; rw [hx] at hy; cases hy; exact ⟨by show serCost x ≤ g; omega, fun _ => by show at_ ≤ i; omega⟩
     ·exact h3 i y (by omega) hy hmy
theorem vic_at (l : List Ser) : VicAt l l.length (vic l) := vicTo_at l _ (Nat.le_refl _)
theorem victim_none {l : List Ser} (h : victim l = none) : (vic l).2.2 = false ∧ ∀ x ∈ l, mayLow x = false := by
 unfold victim at h
 split at h
 ·cases h
 ·rename_i hf
  have hf' : (vic l).2.2 = false := by simpa using hf
  refine ⟨hf', fun x hx => ?_⟩
  obtain ⟨i, hi⟩ := List.mem_iff_getElem?.1 hx
  exact ((vic_at l).none hf').2.2 i x (List.getElem?_eq_some_iff.1 hi).1 hi
theorem victim_some {l : List Ser} {v : Nat} (h : victim l = some v) : (vic l).2.2 = true ∧ (vic l).1 = v ∧ v < l.length ∧ ∃ x, l[v]? = some x ∧ mayLow x = true := by
 unfold victim at h
 split at h
 ·rename_i hf
  injection h with h
  subst h
  obtain ⟨h1, ⟨x, h2, h3, -⟩, -⟩ := (vic_at l).some hf
  exact ⟨hf, rfl, h1, x, h2, h3⟩
 ·cases h
theorem lowAt_len (l : List Ser) (i : Nat) : (lowAt l i).length = l.length := by
 have := congrArg List.length (lowAt_labs l i)
 simpa using this
theorem mu_set : ∀ (l : List Ser) (i : Nat) (x y : Ser), l[i]? = some x → slack y + 1 = slack x → mu (l.set i y) + 1 = mu l
 | [], i, x, y, h, _ => by simp at h
 | z :: r, 0, x, y, h, hs => by
  simp only [List.getElem?_cons_zero, Option.some.injEq] at h
  subst h
  show slack y + mu r + 1 = slack z + mu r
  omega
 | z :: r, i + 1, x, y, h, hs => by
  have := mu_set r i x y (by simpa using h) hs
  show slack z + mu (r.set i y) + 1 = slack z + mu r
  omega
theorem mu_low {l : List Ser} (h : QT l) {i : Nat} {x : Ser} (hx : l[i]? = some x) (hm : mayLow x = true) : mu (lowAt l i) + 1 = mu l := by
 rw [lowAt_eq hx]
 refine mu_set l i x _ hx ?_
 obtain ⟨h1, h2⟩ := low_kind (h.good x (List.mem_of_getElem? hx))
 unfold slack
 rw [h1, h2]
 unfold mayLow at hm
 rw [decide_eq_true_eq] at hm
 omega
theorem fit_done {b : Int} {l : List Ser} (h : costL l ≤ b) : fit b l = some (l, []) := by
 show (if costL l ≤ b then _ else _) = _
 rw [if_pos h]
theorem fit_stuck {b : Int} {l : List Ser} (h : b < costL l) (hv : victim l = none) : fit b l = none := by
 show (if costL l ≤ b then _ else _) = _
 rw [if_neg (by omega), hv]
theorem fit_step {b : Int} {l : List Ser} (hl : QT l) (h : b < costL l) {v : Nat} (hv : victim l = some v) : fit b l = (fit b (lowAt l v)).map fun r => (r.1, v :: r.2) := by
 show (if costL l ≤ b then _ else _) = _
 rw [if_neg (by omega), hv]
 obtain ⟨-, -, -, x, hx, hm⟩ := victim_some hv
 have := mu_low hl hx hm
 show (fitF b (mu l) (lowAt l v)).map _ = _
 rw [← this]
 rfl
theorem fit_ind (b : Int) (P : List Ser → Option (List Ser × List Nat) → Prop) (done : ∀ l, QT l → costL l ≤ b → P l (some (l, []))) (stuck : ∀ l, QT l → b < costL l → victim l = none → P l none)
  (step : ∀ l v x, QT l → b < costL l → victim l = some v → l[v]? = some x → mayLow x = true → P (lowAt l v) (fit b (lowAt l v)) → P l ((fit b (lowAt l v)).map fun r => (r.1, v :: r.2))) : ∀ l, QT l → P l (fit b l) := by
 have key : ∀ n l, mu l = n → QT l → P l (fit b l) := by
  intro n
  induction n with
  | zero =>
   intro l hn hl
   by_cases h : costL l ≤ b
   ·rw [fit_done h]; exact done l hl h
   ·cases hv : victim l with
    | none => rw [fit_stuck (by omega) hv]; exact stuck l hl (by omega) hv
    | some v =>
     obtain ⟨-, -, -, x, hx, hm⟩ := victim_some hv
     have := mu_low hl hx hm
     omega
  | succ n ih =>
   intro l hn hl
   by_cases h : costL l ≤ b
   ·rw [fit_done h]; exact done l hl h
   ·cases hv : victim l with
    | none => rw [fit_stuck (by omega) hv]; exact stuck l hl (by omega) hv
    | some v =>
     obtain ⟨-, -, -, x, hx, hm⟩ := victim_some hv
     have h1 := mu_low hl hx hm
     rw [fit_step hl (by omega) hv]
     exact step l v x hl (by omega) hv hx hm (ih _ (by omega) (hl.low hx hm))
 exact fun l hl => key _ l rfl hl
structure Fitted (b : Int) (l a : List Ser) (ps : List Nat) : Prop where
 qt : QT a
 cost : costL a ≤ b
 labs : a.map (·.l) = l.map (·.l)
 levels : ∀ (i : Nat) (x y : Ser), l[i]? = some x → a[i]? = some y → x.sk.level ≤ y.sk.level ∧ y.seen = x.seen
 none : ps = [] ↔ costL l ≤ b
 same : ps = [] → a = l
theorem fit_says (b : Int) : ∀ l, QT l → ∀ a ps, fit b l = some (a, ps) → Fitted b l a ps := by
 refine fit_ind b (fun l r => ∀ a ps, r = some (a, ps) → Fitted b l a ps) (fun l hl h a ps e => ?_) (fun l _ _ _ a ps e => by cases e) (fun l v x hl h hv hx hm ih a ps e => ?_)
 ·cases e
  exact ⟨hl, h, rfl, fun i x y h1 h2 => by rw [h1] at h2; cases h2; exact ⟨Int.le_refl _, rfl⟩, by simp [h], fun _ => rfl⟩
 ·rw [Option.map_eq_some_iff] at e
  obtain ⟨⟨a', ps'⟩, h1, h2⟩ := e
  cases h2
  obtain ⟨g1, g2, g3, g4, g5, -⟩ := ih a' ps' h1
  refine ⟨g1, g2, g3.trans (lowAt_labs l v), fun i y z hy hz => ?_, by simp; omega, fun h => by cases h⟩
  obtain ⟨u, hu⟩ : ∃ u, (lowAt l v)[i]? = some u := ⟨_, List.getElem?_eq_getElem (by rw [lowAt_len]; exact (List.getElem?_eq_some_iff.1 hy).1)⟩
  obtain ⟨k1, k2⟩ := g4 i u z hu hz
  have : y.sk.level ≤ u.sk.level ∧ u.seen = y.seen := by
   rw [lowAt_eq hx, List.getElem?_set] at hu
   by_cases hiv : v = i
   ·subst hiv
    rw [if_pos rfl, if_pos (List.getElem?_eq_some_iff.1 hx).1] at hu
    cases hu
    rw [hx] at hy
    cases hy
    have := (low_kind (hl.good x (List.mem_of_getElem? hx))).2
    exact ⟨by omega, rfl⟩
   ·rw [if_neg hiv, hy] at hu
    cases hu
    exact ⟨Int.le_refl _, rfl⟩
  exact ⟨by omega, k2.trans this.2⟩
end Go.Proofs.YthbhmnakmhambaaGreatDoor
namespace Go.Proofs.YthbhmnakmhambaaGreatDoor
open Go Go.RowKit Go.Shelf
theorem slice_mid (a : Option Addr) (len cap k : Nat) (w : World) (h : k < cap) : (Instr.slice 22 (.slice a len cap) (some (.int .i64 (k : Int))) (some (.int .i64 ((k : Int) + 1))) none).run Tryz.prog w = .ok (.slice (dropA a cap k 12) 1 (cap - k)) w := by
 have hs : (sizeOf 43).run Tryz.prog w = .ok 12 w := by kernel_rfl
 have he : Tryz.prog.elem 22 = 43 := by kernel_rfl
 rw [run_slice_lh (t := 22) (a := a) (len := len) (cap := cap) (w := w) (ht := by rw [he]; exact und_table) (kl := .i64) (kh := .i64) (l := (k : Int)) (h := (k : Int) + 1) (by omega) (by omega) (by omega), he, hs]
 have e1 : ((k : Int) + 1).toNat = k + 1 := by omega
 simp only [Result.andThen, sliced, Int.toNat_natCast, dropA, e1]
 rw [show k + 1 - k = 1 by omega]
theorem Tab.mid {n₀ : Nat} {w : World} {a : Option Addr} {len cap : Nat} {l : List (Ser × SerP)} (h : Tab n₀ w a len cap l) {k : Nat} {e : Ser × SerP} (he : l[k]? = some e) : Tab n₀ w (dropA a cap k 12) 1 (cap - k) [e] := by
 have hk := (List.getElem?_eq_some_iff.1 he).1
 have hlen := h.row.1.1
 have h1 := (h.drop k (by omega)).take 1 (by omega)
 have h2 : (l.drop k).take 1 = [e] := by rw [drop_cons' he]; rfl
 rw [h2] at h1
 exact h1
theorem tabCost_one {x : Ser} (h : serRight x = true) : tabCost [x] = serCost x := by
 unfold tabCost
 have : tabRight [x] = true := by simp [tabRight, tabGo, h]
 rw [this, if_pos rfl]
 show serCost x + 0 = serCost x
 omega
def vicP (l : List Ser) : Int := if tabRight l then ((vic l).1 : Int) else 0
def vicB (l : List Ser) : Bool := tabRight l && (vic l).2.2
set_option maxRecDepth 100000 in
set_option maxHeartbeats 4000000 in
theorem Victim_any (l : List (Ser × SerP)) (a : Option Addr) (len cap : Nat) (w : World) (hT : Tab w.heap.size w a len cap l) (hF : TabFit l) (hG : GW w) :
  Calls Tryz.prog 9 #[.slice a len cap] w fun e w' => e = .returned (.tuple #[.int .i64 (vicP (l.map (·.1))), .bool (vicB (l.map (·.1)))]) ∧ Below w.heap.size w w' := by
 have hR := series_Right_any l a len cap w hT hF hG
 have hlen := hT.row.1.1
 subst hlen
 have HT := Lib.hid hT
 have HF := Lib.hid hF
 have HG := Lib.hid hG
 have hm : l.length ≤ maxLen := Nat.le_trans hT.row.2.1 hT.row.2.2.1
 have hcap : l.length ≤ cap := hT.row.2.1
 unfold maxLen at hm
 clear hT hF hG
 cases hr : tabRight (l.map (·.1)) with
 | false =>
  rw [hr] at hR
  have HR : Hid (vicP (l.map (·.1)) = 0 ∧ vicB (l.map (·.1)) = false) := by rw [Hid, vicP, vicB, hr]; exact ⟨rfl, rfl⟩
  generalize vicP (l.map (·.1)) = cR at HR ⊢
  generalize vicB (l.map (·.1)) = bR at HR ⊢
  clear hr
  go_enter Tryz.func9, Tryz.ntmps9
  go_wp2_with (go_at_call 10; refine hR.mono ?_; rintro e w1 ⟨rfl, hb1⟩)
  go_ret2
  exact ⟨by rw [HR.out.1, HR.out.2]; rfl, hb1⟩
 | true =>
  rw [hr] at hR
  have HS := Lib.hid ((tabRight_iff _).1 hr).2.1
  have h20 : l.length ≤ 20 := by have := ((tabRight_iff _).1 hr).1; rwa [List.length_map] at this
  have HR : Hid (vicP (l.map (·.1)) = ((vic (l.map (·.1))).1 : Int) ∧ vicB (l.map (·.1)) = (vic (l.map (·.1))).2.2) := by rw [Hid, vicP, vicB, hr]; exact ⟨rfl, rfl⟩
  generalize vicP (l.map (·.1)) = cR at HR ⊢
  generalize vicB (l.map (·.1)) = bR at HR ⊢
  clear hr
  go_enter Tryz.func9, Tryz.ntmps9
  go_wp2_with (go_at_call 10; refine hR.mono ?_; rintro e w1 ⟨rfl, hb1⟩)
  clear hR
  go_loopw [4, 5, 6, 15] (fun v c f i wr => ∃ (k p : Nat) (s : Int) (b : Bool), i = .int .i64 k ∧ v = .int .i64 p ∧ c = .int .i64 s ∧ f = .bool b ∧ k ≤ l.length ∧ Below w.heap.size w wr ∧ Hid ((p, s, b) = vicTo (l.map (·.1)) k) ∧ p ≤ k) (fun _ _ _ i _ => l.length - (intOf i).toNat)
  case atStart => exact ⟨0, 0, 0, false, rfl, rfl, rfl, rfl, Nat.zero_le _, hb1, rfl, Nat.le_refl _⟩
  case round =>
   obtain ⟨k, q, s, b, rfl, rfl, rfl, rfl, hk, hB, HV, hq⟩ := hrel
   have hsz := hB.size
   by_cases hlt : k < l.length
   ·obtain ⟨⟨x, p⟩, hx⟩ : ∃ x, l[k]? = some x := ⟨_, List.getElem?_eq_getElem hlt⟩
    have HMd : Hid (∀ W, Below w.heap.size w W → Tab W.heap.size W (dropA a cap k 12) 1 (cap - k) [(x, p)]) := fun W hW => ((HT.out.below hW).mono hW.size).mid hx
    have HF1 : Hid (TabFit [(x, p)]) := fun e he => by rw [List.mem_singleton] at he; subst he; exact HF.out _ (List.mem_of_getElem? hx)
    have hsl := fun W => slice_mid a l.length cap k W (by omega)
    obtain ⟨bb, off, rfl, hbb, hc⟩ := (HT.out.below hB).row.1.2 k (x, p) hx
    have c0 : wr.cell? ⟨bb, off + k * 12, none⟩ = some (.slice p.la p.ll p.lc) := hc 0 (by omega)
    have c1 : wr.cell? ⟨bb, off + k * 12 + 1, none⟩ = some (.int .i64 x.sk.kind) := hc 1 (by omega)
    have c2 : wr.cell? ⟨bb, off + k * 12 + 2, none⟩ = some (.int .i64 x.sk.level) := hc 2 (by omega)
    have c3 : wr.cell? ⟨bb, off + k * 12 + 3, none⟩ = some (.slice p.ss.ea p.ss.el p.ss.ec) := hc 3 (by omega)
    have c4 : wr.cell? ⟨bb, off + k * 12 + 4, none⟩ = some (.int .i64 x.sk.hb) := hc 4 (by omega)
    have c5 : wr.cell? ⟨bb, off + k * 12 + 5, none⟩ = some (.string x.sk.hr) := hc 5 (by omega)
    have c6 : wr.cell? ⟨bb, off + k * 12 + 6, none⟩ = some (.int .i64 x.sk.cr) := hc 6 (by omega)
    have c7 : wr.cell? ⟨bb, off + k * 12 + 7, none⟩ = some (.int .i64 x.sk.cc) := hc 7 (by omega)
    have c8 : wr.cell? ⟨bb, off + k * 12 + 8, none⟩ = some (.slice p.ss.ca p.ss.cl p.ss.cc) := hc 8 (by omega)
    have c9 : wr.cell? ⟨bb, off + k * 12 + 9, none⟩ = some (.int .i64 x.sk.gf) := hc 9 (by omega)
    have c10 : wr.cell? ⟨bb, off + k * 12 + 10, none⟩ = some (.slice p.ss.ga p.ss.gl p.ss.gc) := hc 10 (by omega)
    have c11 : wr.cell? ⟨bb, off + k * 12 + 11, none⟩ = some (.int .u64 x.seen) := hc 11 (by omega)
    have HX : Hid ((l.map (·.1))[k]? = some x) := by rw [Hid, List.getElem?_map, hx]; rfl
    have HSx : Hid (tabCost [x] = serCost x) := tabCost_one (HS.out x (List.mem_of_getElem? HX.out))
    have HSm : Hid (0 ≤ serCost x ∧ serCost x ≤ 220000000000) := serCost_small (HT.out.at_ _ (List.mem_of_getElem? hx)) (HF.out _ (List.mem_of_getElem? hx))
    obtain ⟨W1, hW1, hX1, hB1, hzz⟩ := boxes1 wr #[.slice p.la p.ll p.lc, .int .i64 x.sk.kind, .int .i64 x.sk.level, .slice p.ss.ea p.ss.el p.ss.ec, .int .i64 x.sk.hb, .string x.sk.hr, .int .i64 x.sk.cr, .int .i64 x.sk.cc, .slice p.ss.ca p.ss.cl p.ss.cc, .int .i64 x.sk.gf, .slice p.ss.ga p.ss.gl p.ss.gc, .int .u64 x.seen] 43
    obtain ⟨r0, r1, r2, r3, r4, r5, r6, r7, r8, r9, r10, r11⟩ := cl12 hX1
    have hBW : Below w.heap.size w W1 := hB.trans (hB1.mono hsz)
    have HBT : Hid (∀ w, Calls Tryz.prog 11 #[.int .i64 x.sk.kind] w fun e w' => e = .returned (.int .i64 (bottomB x.sk.kind)) ∧ w' = w) := fun w => (Bottom_any x.sk.kind w).mono fun e w' ⟨h1, h2⟩ => ⟨h1, h2.symm⟩
    have HVs := Lib.hid (vicTo_succ HX.out)
    have hbt : -1 ≤ bottomB x.sk.kind ∧ bottomB x.sk.kind ≤ 4 := by unfold bottomB; repeat' split; all_goals omega
    have HM : Hid (mayLow x = decide (x.sk.level < bottomB x.sk.kind)) := rfl
    generalize bottomB x.sk.kind = bt at HBT HM hbt
    clear hc hx
    by_cases hm : x.sk.level < bt
    case neg =>
     have H9 : Hid ((q, s, b) = vicTo (l.map (·.1)) (k + 1)) := by rw [Hid, HVs.out, ← HV.out, vicStep, HM.out, decide_eq_false hm]; rfl
     go_wp2_with fail
     go_quiet ((go_at_call 11; exact Calls.quiet_of_same (HBT.out _)))
     go_wp2_with fail
     all_goals go_roundw
     case rel => exact ⟨k + 1, q, s, b, by go_num, rfl, rfl, rfl, by omega, hBW.trans ((drewN_below nq).mono hBW.size), H9.out, by omega⟩
     case measure => simp [intOf]; omega
    case pos =>
     have HCo : Hid (∀ W, Below w.heap.size w W → Calls Tryz.prog 12 #[.slice (dropA (some ⟨bb, off, none⟩) cap k 12) 1 (cap - k)] W fun e w' => e = .returned (.int .i64 (serCost x)) ∧ Below W.heap.size W w') := fun W hW => by
      have := series_Cost_any _ _ _ _ W (HMd.out W hW) HF1.out (HG.out.below hW)
      rw [show ([(x, p)] : List (Ser × SerP)).map (·.1) = [x] from rfl, HSx.out] at this
      exact this
     have H9 : Hid (vicTo (l.map (·.1)) (k + 1) = if (!b || decide (s < serCost x)) = true then (k, serCost x, true) else (q, s, b)) := by
      rw [Hid, HVs.out, ← HV.out, vicStep, HM.out, decide_eq_true hm]
      rfl
     obtain ⟨hc0, hc1⟩ := HSm.out
     generalize serCost x = sc at HCo H9 hc0 hc1
     clear HSm HSx HMd
     go_wp2_with fail
     go_quiet ((go_at_call 11; exact Calls.quiet_of_same (HBT.out _)))
     have hsl2 := hsl (W1.drewN nq)
     have hBq := hBW.trans ((drewN_below nq).mono hBW.size)
     cases b with
     | false =>
      have H8 : Hid ((k, sc, true) = vicTo (l.map (·.1)) (k + 1)) := by rw [Hid, H9.out]; rfl
      go_wp2_with (go_at_call 12; refine (HCo.out _ hBq).mono ?_; rintro e w3 ⟨rfl, hb3⟩)
      all_goals go_roundw
      case rel => exact ⟨k + 1, k, sc, true, by go_num, rfl, rfl, rfl, by omega, hBq.trans (hb3.mono hBq.size), H8.out, by omega⟩
      case measure => simp [intOf]; omega
     | true =>
      by_cases hg : s < sc
      ·have H8 : Hid ((k, sc, true) = vicTo (l.map (·.1)) (k + 1)) := by rw [Hid, H9.out, decide_eq_true hg]; rfl
       go_wp2_with (go_at_call 12; refine (HCo.out _ hBq).mono ?_; rintro e w3 ⟨rfl, hb3⟩)
       all_goals go_roundw
       case rel => exact ⟨k + 1, k, sc, true, by go_num, rfl, rfl, rfl, by omega, hBq.trans (hb3.mono hBq.size), H8.out, by omega⟩
       case measure => simp [intOf]; omega
      ·have H8 : Hid ((q, s, true) = vicTo (l.map (·.1)) (k + 1)) := by rw [Hid, H9.out, decide_eq_false hg]; rfl
       go_wp2_with (go_at_call 12; refine (HCo.out _ hBq).mono ?_; rintro e w3 ⟨rfl, hb3⟩)
       all_goals go_roundw
       case rel => exact ⟨k + 1, q, s, true, by go_num, rfl, rfl, rfl, by omega, hBq.trans (hb3.mono hBq.size), H8.out, by omega⟩
       case measure => simp [intOf]; omega
   ·obtain rfl : k = l.length := by omega
    have H9 : Hid (cR = (q : Int) ∧ bR = b) := by
     have e : vic (l.map (·.1)) = (q, s, b) := by rw [HV.out, vic, List.length_map]
     rw [Hid, HR.out.1, HR.out.2, e]
     exact ⟨rfl, rfl⟩
    go_wp2_with fail
    go_ret2
    exact ⟨by rw [H9.out.1, H9.out.2]; rfl, hB⟩
end Go.Proofs.YthbhmnakmhambaaGreatDoor
namespace Go.Proofs.YthbhmnakmhambaaGreatDoor
open Go Go.RowKit Go.Shelf
section
variable {w : World} {base e size n c g : Nat} {xs : List Value}
theorem own_cell (h : w.ownsRow base e size (.slice (some ⟨g, 0, none⟩) n c) n xs) {j : Nat} {u : Value} (hj : xs[j]? = some u) : w.cell? ⟨g, j, none⟩ = some u := by
 have h1 := h.cells (g := g) rfl j u hj
 have ea : (⟨g, 0, none⟩ : Addr).add j = ⟨g, j, none⟩ := by unfold Addr.add; split <;> simp_all
 rw [ea] at h1
 exact h1
theorem own_blk (h : w.ownsRow base e size (.slice (some ⟨g, 0, none⟩) n c) n xs) : base ≤ g ∧ ∃ cur, w.heap[g]? = some (.cells cur e (0, 0)) ∧ n ≤ c ∧ c ≤ maxLen ∧ cur.size = c * size ∧ cur.toList.take (n * size) = xs := by
 rcases h.2 with ⟨h1, _⟩ | ⟨g', cap, cur, h1, h2, h3, h4, h5, h6, h7⟩
 ·cases h1
 ·injection h1 with e1 e2 e3
  injection e1 with e1
  injection e1 with e1
  subst e1
  subst e3
  exact ⟨h2, cur, h3, h4, h5, h6, h7⟩
theorem own_frozen (h : w.ownsRow base e size (.slice (some ⟨g, 0, none⟩) n c) n xs) (j : Nat) : w.frozen? ⟨g, j, none⟩ = false := by
 obtain ⟨-, cur, h1, -⟩ := own_blk h
 exact cFz h1 j
theorem own_lt (h : w.ownsRow base e size (.slice (some ⟨g, 0, none⟩) n c) n xs) : g < w.heap.size := by
 obtain ⟨-, cur, h1, -⟩ := own_blk h
 exact (Array.getElem?_eq_some_iff.1 h1).1
theorem own_set (h : w.ownsRow base e size (.slice (some ⟨g, 0, none⟩) n c) n xs) (i : Nat) (v : Value) : (w.setCell ⟨g, i, none⟩ v).ownsRow base e size (.slice (some ⟨g, 0, none⟩) n c) n (xs.set i v) := by
 obtain ⟨h0, cur, h1, h2, h3, h4, h5⟩ := own_blk h
 refine ⟨by rw [List.length_set]; exact h.1, .inr ⟨g, c, cur.setIfInBounds i v, rfl, h0, hSk h1 v, h2, h3, by rw [Array.size_setIfInBounds]; exact h4, ?_⟩⟩
 rw [Array.toList_setIfInBounds, List.take_set, h5]
end
theorem flat_set {m : List (Ser × SerP)} {k i : Nat} {e e' : Ser × SerP} {v : Value} (he : m[k]? = some e) (hi : i < 12) (hv : serEnc e' = (serEnc e).set i v) : (m.set k e').flatMap serEnc = (m.flatMap serEnc).set (k * 12 + i) v := by
 induction m generalizing k with
 | nil => simp at he
 | cons y r ih =>
  cases k with
  | zero =>
   simp only [List.getElem?_cons_zero, Option.some.injEq] at he
   subst he
   rw [List.set_cons_zero, List.flatMap_cons, List.flatMap_cons, hv, Nat.zero_mul, Nat.zero_add, List.set_append_left _ _ (by rw [serEnc_len]; exact hi)]
  | succ k =>
   rw [List.getElem?_cons_succ] at he
   rw [List.set_cons_succ, List.flatMap_cons, List.flatMap_cons, ih he, List.set_append_right _ _ (by rw [serEnc_len]; omega), serEnc_len]
   congr 2
   omega
theorem flat_at {m : List (Ser × SerP)} {k i : Nat} {e : Ser × SerP} (he : m[k]? = some e) (hi : i < 12) : (m.flatMap serEnc)[k * 12 + i]? = (serEnc e)[i]? := flat_cell serEnc 12 serEnc_len m k i e he hi
theorem eqlnil_tab (a : Option Addr) (n c : Nat) (w : World) : (binOp .eql 22 (.slice a n c) (.slice none 0 0)).run Tryz.prog w = .ok (.bool a.isNone) w := Lib.run_eql_slice_nil w _ _ a n c 0 0 und_table
set_option maxHeartbeats 1000000 in
theorem clone_tab (a : Option Addr) (len cap : Nat) (l : List (Ser × SerP)) (w : World) (hL : SlE serEnc 12 w.heap.size w a len l) (hll : len < 2147483648) :
  Calls Tryz.prog 99 #[.slice a len cap] w fun e w' => ∃ v, e = .returned v ∧ w'.ownsRow w.heap.size 43 12 v l.length (l.flatMap serEnc) ∧ Below w.heap.size w w' := by
 have he := eqlnil_tab a len cap
 have hlen := hL.1
 cases a with
 | none =>
  have hl0 : l = [] := by
   cases l with
   | nil => rfl
   | cons y ys => obtain ⟨b, off, e, _⟩ := hL.2 0 y rfl; cases e
  subst hl0
  obtain rfl : len = 0 := hlen
  clear hL
  go_enter Tryz.func99, Tryz.ntmps99
  go_wp2_with fail
  go_ret
  exact ⟨_, rfl, World.ownsRow_nil _ _ _ _, Below.refl _ _⟩
 | some a =>
  have hB1 : Below w.heap.size w (w.alloc (.cells #[] 43)) := (Below.refl _ w).alloc (Nat.le_refl _) _
  have hown : (w.alloc (.cells #[] 43)).ownsRow w.heap.size 43 12 (.slice (some ⟨w.heap.size, 0, none⟩) 0 0) 0 [] := ⟨rfl, .inr ⟨w.heap.size, 0, #[], rfl, Nat.le_refl _, World.alloc_heap_new _ _, Nat.le_refl _, by unfold maxLen; omega, rfl, rfl⟩⟩
  have hL1 := hL.go hB1
  obtain ⟨v4, w4, hap4, hown4, hB4, hz4, -, -⟩ := append_elems Tryz.prog (cap := cap) 22 und_table info_series rfl (by decide) hown hB1 (Nat.le_refl _) (by simp) serEnc_len hL1 serEnc_one (by omega) hll (by decide)
  rw [Nat.zero_add, List.nil_append, hlen] at hown4
  have HO := Lib.hid hown4
  clear hL hL1 hown hown4 hlen
  go_enter Tryz.func99, Tryz.ntmps99
  go_wp2_with (at_builtin; refine wp_append_eq rfl _ _ _ rfl rfl rfl hap4 ?_)
  go_ret
  exact ⟨_, rfl, HO.out, hB4⟩
theorem own_store {W : World} {base n c g k i : Nat} {m : List (Ser × SerP)} {e : Ser × SerP} (e' : Ser × SerP) (v : Value) (hO : W.ownsRow base 43 12 (.slice (some ⟨g, 0, none⟩) n c) n (m.flatMap serEnc)) (he : m[k]? = some e) (hi : i < 12) (hv : serEnc e' = (serEnc e).set i v) :
  ∃ V, W.setCell ⟨g, k * 12 + i, none⟩ v = V ∧ V.ownsRow base 43 12 (.slice (some ⟨g, 0, none⟩) n c) n ((m.set k e').flatMap serEnc) ∧ Apart g W V ∧ (∀ n w0, n ≤ g → Below n w0 W → Below n w0 V) ∧ V.heap.size ≤ W.heap.size ∧ W.heap.size ≤ V.heap.size ∧ (m.set k e')[k]? = some e' := by
 refine ⟨_, rfl, ?_, Apart.set _ v, fun _ _ hn hb => hb.setCell (p := ⟨g, k * 12 + i, none⟩) hn v, Nat.le_of_eq (World.size_setCell ..), Nat.le_of_eq (World.size_setCell ..).symm, ?_⟩
 ·rw [flat_set he hi hv]
  exact own_set hO _ v
 ·rw [List.getElem?_set, if_pos rfl, if_pos (List.getElem?_eq_some_iff.1 he).1]
structure CopyAt (w : World) (l : List (Ser × SerP)) (v : Value) (k : Nat) (W : World) (m : List (Ser × SerP)) : Prop where
 own : W.ownsRow w.heap.size 43 12 v l.length (m.flatMap serEnc)
 keep : m.map (·.1) = l.map (·.1)
 new : ∀ j e, j < k → m[j]? = some e → e.2.At W.heap.size W e.1 ∧ e.2.Off (fun b => w.heap.size ≤ b ∧ some b ≠ v.ownBlock)
 old : ∀ j, k ≤ j → m[j]? = l[j]?
 below : Below w.heap.size w W
theorem CopyAt.len {w W : World} {l m : List (Ser × SerP)} {v : Value} {k : Nat} (h : CopyAt w l v k W m) : m.length = l.length := by
 have := congrArg List.length h.keep
 simpa using this
theorem CopyAt.grow {w W : World} {l m : List (Ser × SerP)} {v : Value} {k : Nat} (h : CopyAt w l v k W m) (hk : l.length ≤ k) : GrowS w.heap.size (w.heap.size ≤ ·) W v m := by
 have hl := h.len
 refine ⟨by rw [hl]; exact h.own, fun e he => ?_, fun e he => ?_⟩
 ·obtain ⟨i, hi⟩ := List.mem_iff_getElem?.1 he
  exact (h.new i e (by have := (List.getElem?_eq_some_iff.1 hi).1; omega) hi).1
 ·obtain ⟨i, hi⟩ := List.mem_iff_getElem?.1 he
  exact (h.new i e (by have := (List.getElem?_eq_some_iff.1 hi).1; omega) hi).2
theorem CopyAt.step {w W V : World} {l m : List (Ser × SerP)} {g c k : Nat} {x : Ser} {p p' : SerP} (h : CopyAt w l (.slice (some ⟨g, 0, none⟩) l.length c) k W m) (hx : l[k]? = some (x, p)) (hV : V.ownsRow w.heap.size 43 12 (.slice (some ⟨g, 0, none⟩) l.length c) l.length ((m.set k (x, p')).flatMap serEnc))
  (hA : Apart g W V) (hp : p'.At V.heap.size V x) (ho : p'.Off (fun b => w.heap.size ≤ b ∧ b ≠ g)) (hB : Below w.heap.size w V) : CopyAt w l (.slice (some ⟨g, 0, none⟩) l.length c) (k + 1) V (m.set k (x, p')) := by
 have hkl := (List.getElem?_eq_some_iff.1 hx).1
 have hmk : m[k]? = some (x, p) := (h.old k (Nat.le_refl _)).trans hx
 refine ⟨hV, ?_, fun j e hj he => ?_, fun j hj => ?_, hB⟩
 ·rw [List.map_set, ← h.keep]
  apply List.ext_getElem?
  intro j
  rw [List.getElem?_set]
  by_cases hkj : k = j
  ·subst hkj
   rw [if_pos rfl, if_pos (by rw [List.length_map, h.len]; exact hkl), List.getElem?_map, hmk]
   rfl
  ·rw [if_neg hkj]
 ·rw [List.getElem?_set] at he
  by_cases hkj : k = j
  ·subst hkj
   rw [if_pos rfl, if_pos (by rw [h.len]; exact hkl)] at he
   cases he
   exact ⟨hp, ho.imp fun b hb => ⟨hb.1, fun e => hb.2 (by injection e)⟩⟩
  ·rw [if_neg hkj] at he
   obtain ⟨h1, h2⟩ := h.new j e (by omega) he
   exact ⟨(h1.frame (h2.imp (r := (· ≠ g)) fun b hb e => hb.2 (by rw [e]; rfl)) hA.2).mono hA.1, h2⟩
 ·rw [List.getElem?_set, if_neg (by omega)]
  exact h.old j (by omega)
set_option maxRecDepth 100000 in
set_option maxHeartbeats 4000000 in
theorem copied_any (l : List (Ser × SerP)) (a : Option Addr) (len cap : Nat) (w : World) (hT : Tab w.heap.size w a len cap l) (hA : AddFit l) (hn : l.length < 2147483648) :
  Calls Tryz.prog 66 #[.slice a len cap] w fun e w' => ∃ v m, e = .returned v ∧ GrowS w.heap.size (w.heap.size ≤ ·) w' v m ∧ m.map (·.1) = l.map (·.1) ∧ Below w.heap.size w w' := by
 have hlen := hT.row.1.1
 subst hlen
 have HT := Lib.hid hT
 have HA := Lib.hid hA
 have HC := Lib.hid (clone_tab a l.length cap l w hT.row.1 (by omega))
 clear hT hA
 go_enter Tryz.func66, Tryz.ntmps66
 go_wp2_with (go_at_call 99; refine HC.out.mono ?_; rintro e w1 ⟨v, rfl, hown, hb1⟩; obtain ⟨va, vc, rfl⟩ := owns_formL hown)
 have HO1 := Lib.hid hown
 clear hown
 go_loopw [10] (fun i wr => ∃ (k : Nat) (m : List (Ser × SerP)), i = .int .i64 k ∧ k ≤ l.length ∧ Hid (CopyAt w l (.slice va l.length vc) k wr m)) (fun i _ => l.length - (intOf i).toNat)
 case atStart => exact ⟨0, l, rfl, Nat.zero_le _, HO1.out, rfl, (fun j e h => by omega), (fun _ _ => rfl), hb1⟩
 case round =>
  obtain ⟨k, m, rfl, hk, HM⟩ := hrel
  by_cases hlt : k < l.length
  ·obtain ⟨⟨x, p⟩, hx⟩ : ∃ x, l[k]? = some x := ⟨_, List.getElem?_eq_getElem hlt⟩
   obtain ⟨g, rfl⟩ : ∃ g, va = some ⟨g, 0, none⟩ := by
    rcases HM.out.own.2 with ⟨h1, h2⟩ | ⟨g, cap, cur, h1, _⟩
    ·omega
    ·injection h1 with h1
     exact ⟨g, h1⟩
   have hmk : m[k]? = some (x, p) := (HM.out.old k (Nat.le_refl _)).trans hx
   have HO := Lib.hid HM.out.own
   have HB := Lib.hid HM.out.below
   have hg1 := (own_blk HO.out).1
   have hgr := own_lt HO.out
   have hsz := HB.out.size
   have HP : Hid (p.At wr.heap.size wr x) := ((HT.out.at_ _ (List.mem_of_getElem? hx)).below HB.out).mono hsz
   have HPo : Hid (p.Off (· < w.heap.size)) := (HT.out.at_ _ (List.mem_of_getElem? hx)).off
   have HN5 : Hid (p.Off (· ≠ g)) := HPo.out.imp (fun b hb => by omega)
   have HAx := Lib.hid (HA.out _ (List.mem_of_getElem? hx))
   have HX := Lib.hid hx
   have HMK := Lib.hid hmk
   have c0 : wr.cell? ⟨g, k * 12, none⟩ = some (.slice p.la p.ll p.lc) := own_cell HO.out (flat_at (i := 0) hmk (by decide))
   clear hx hmk
   go_wp2_with fail
   refine (clone_lab p.la p.ll p.lc x.l _ HP.out.l.1 HAx.out.1).mono ?_
   rintro e w2 ⟨la', lc', rfl, hl2, hlo2, hb2⟩
   have hZ2 := hb2.size
   have HO2 : Hid (w2.ownsRow w.heap.size 43 12 (.slice (some ⟨g, 0, none⟩) l.length vc) l.length (m.flatMap serEnc)) := owns_go HO.out hb2
   have f2 : w2.frozen? ⟨g, k * 12, none⟩ = false := own_frozen HO2.out _
   obtain ⟨V2, hV2, hO2, hAp2, hBV2, hs2, ht2, hm2⟩ := own_store (i := 0) (x, (⟨la', p.ll, lc', p.ss⟩ : SerP)) (.slice la' p.ll lc') HO2.out HMK.out (by decide) rfl
   replace hV2 : w2.setCell ⟨g, k * 12, none⟩ (.slice la' p.ll lc') = V2 := hV2
   have d2 : w2.cell? ⟨g, k * 12, none⟩ = some (.slice p.la p.ll p.lc) := own_cell HO2.out (flat_at (i := 0) HMK.out (by decide))
   have hB2 : Below w.heap.size w V2 := hBV2 _ _ hg1 (HB.out.trans (hb2.mono hsz))
   have HPe : Hid (SlC encU 1 V2.heap.size V2 p.ss.ea p.ss.el p.ss.ec x.sk.e) := ((HP.out.go hb2).s.e).apart (HN5.out.e) hAp2
   have HPc : Hid (SlC encU 1 V2.heap.size V2 p.ss.ca p.ss.cl p.ss.cc x.sk.cl) := ((HP.out.go hb2).s.c).apart (HN5.out.c) hAp2
   have HPg : Hid (SlC encB 2 V2.heap.size V2 p.ss.ga p.ss.gl p.ss.gc x.sk.gl) := ((HP.out.go hb2).s.g).apart (HN5.out.g) hAp2
   have HL2 : Hid (SlC Lab.enc 2 V2.heap.size V2 la' p.ll lc' x.l) := hl2.apart (fun z hz _ => by have := hlo2 z hz; omega) hAp2
   have HO2 := Lib.hid hO2
   have HM2 := Lib.hid hm2
   have HAp2 := Lib.hid ((Apart.of_below (B := g) hb2).trans hAp2)
   have c3 : V2.cell? ⟨g, k * 12 + 3, none⟩ = some (.slice p.ss.ea p.ss.el p.ss.ec) := own_cell hO2 (flat_at (i := 3) hm2 (by decide))
   have hgr2 := own_lt hO2
   clear hl2 hO2 hm2 hAp2 c0
   go_wp2_with fail
   refine (clone_u64 p.ss.ea p.ss.el p.ss.ec x.sk.e V2 HPe.out.1 HAx.out.2.1).mono ?_
   rintro e w3 ⟨ea', ec', rfl, hl3, hlo3, hb3⟩
   have hZ3 := hb3.size
   have HO3 := Lib.hid (owns_go HO2.out hb3)
   have f3 : w3.frozen? ⟨g, k * 12 + 3, none⟩ = false := own_frozen HO3.out _
   obtain ⟨V3, hV3, hO3, hAp3, hBV3, hs3, ht3, hm3⟩ := own_store (i := 3) (x, (⟨la', p.ll, lc', { p.ss with ea := ea', ec := ec' }⟩ : SerP)) (.slice ea' p.ss.el ec') HO3.out HM2.out (by decide) rfl
   have d3 : w3.cell? ⟨g, k * 12 + 3, none⟩ = some (.slice p.ss.ea p.ss.el p.ss.ec) := own_cell HO3.out (flat_at (i := 3) HM2.out (by decide))
   have hB3 : Below w.heap.size w V3 := hBV3 _ _ hg1 (hB2.trans (hb3.mono hB2.size))
   have HPc3 : Hid (SlC encU 1 V3.heap.size V3 p.ss.ca p.ss.cl p.ss.cc x.sk.cl) := (HPc.out.go hb3).apart (HN5.out.c) hAp3
   have HPg3 : Hid (SlC encB 2 V3.heap.size V3 p.ss.ga p.ss.gl p.ss.gc x.sk.gl) := (HPg.out.go hb3).apart (HN5.out.g) hAp3
   have HL3 : Hid (SlC Lab.enc 2 V3.heap.size V3 la' p.ll lc' x.l) := (HL2.out.go hb3).apart (fun z hz _ => by have := hlo2 z hz; omega) hAp3
   have HE3 : Hid (SlC encU 1 V3.heap.size V3 ea' p.ss.el ec' x.sk.e) := hl3.apart (fun z hz _ => by have := hlo3 z hz; omega) hAp3
   have HO3 := Lib.hid hO3
   have HM3 := Lib.hid hm3
   have HAp3 := Lib.hid ((HAp2.out.trans (Apart.of_below (B := g) hb3)).trans hAp3)
   have c8 : V3.cell? ⟨g, k * 12 + 8, none⟩ = some (.slice p.ss.ca p.ss.cl p.ss.cc) := own_cell hO3 (flat_at (i := 8) hm3 (by decide))
   have hgr3 := own_lt hO3
   clear hl3 hO3 hm3 hAp3 c3 hV2 f2 HO2 d2
   go_wp2_with fail
   refine (clone_u64 p.ss.ca p.ss.cl p.ss.cc x.sk.cl V3 HPc3.out.1 HAx.out.2.2.1).mono ?_
   rintro e w4 ⟨ca', cc', rfl, hl4, hlo4, hb4⟩
   have hZ4 := hb4.size
   have HO4 := Lib.hid (owns_go HO3.out hb4)
   have f4 : w4.frozen? ⟨g, k * 12 + 8, none⟩ = false := own_frozen HO4.out _
   obtain ⟨V4, hV4, hO4, hAp4, hBV4, hs4, ht4, hm4⟩ := own_store (i := 8) (x, (⟨la', p.ll, lc', { p.ss with ea := ea', ec := ec', ca := ca', cc := cc' }⟩ : SerP)) (.slice ca' p.ss.cl cc') HO4.out HM3.out (by decide) rfl
   replace hV4 : w4.setCell ⟨g, k * 12 + 1 + 5 + 2, none⟩ (.slice ca' p.ss.cl cc') = V4 := hV4
   replace f4 : w4.frozen? ⟨g, k * 12 + 1 + 5 + 2, none⟩ = false := f4
   have d4 : w4.cell? ⟨g, k * 12 + 1 + 5 + 2, none⟩ = some (.slice p.ss.ca p.ss.cl p.ss.cc) := own_cell HO4.out (flat_at (i := 8) HM3.out (by decide))
   have hB4 : Below w.heap.size w V4 := hBV4 _ _ hg1 (hB3.trans (hb4.mono hB3.size))
   have HPg4 : Hid (SlC encB 2 V4.heap.size V4 p.ss.ga p.ss.gl p.ss.gc x.sk.gl) := (HPg3.out.go hb4).apart (HN5.out.g) hAp4
   have HL4 : Hid (SlC Lab.enc 2 V4.heap.size V4 la' p.ll lc' x.l) := (HL3.out.go hb4).apart (fun z hz _ => by have := hlo2 z hz; omega) hAp4
   have HE4 : Hid (SlC encU 1 V4.heap.size V4 ea' p.ss.el ec' x.sk.e) := (HE3.out.go hb4).apart (fun z hz _ => by have := hlo3 z hz; omega) hAp4
   have HC4 : Hid (SlC encU 1 V4.heap.size V4 ca' p.ss.cl cc' x.sk.cl) := hl4.apart (fun z hz _ => by have := hlo4 z hz; omega) hAp4
   have HO4 := Lib.hid hO4
   have HM4 := Lib.hid hm4
   have HAp4 := Lib.hid ((HAp3.out.trans (Apart.of_below (B := g) hb4)).trans hAp4)
   have c10 : V4.cell? ⟨g, k * 12 + 10, none⟩ = some (.slice p.ss.ga p.ss.gl p.ss.gc) := own_cell hO4 (flat_at (i := 10) hm4 (by decide))
   have hgr4 := own_lt hO4
   clear hl4 hO4 hm4 hAp4 c8 hV3 f3 HO3 d3
   go_wp2_with fail
   refine (clone_bin p.ss.ga p.ss.gl p.ss.gc x.sk.gl V4 HPg4.out.1 HAx.out.2.2.2).mono ?_
   rintro e w5 ⟨ga', gc', rfl, hl5, hlo5, hb5⟩
   have hZ5 := hb5.size
   have HO5 := Lib.hid (owns_go HO4.out hb5)
   have f5 : w5.frozen? ⟨g, k * 12 + 10, none⟩ = false := own_frozen HO5.out _
   obtain ⟨V5, hV5, hO5, hAp5, hBV5, hs5, ht5, hm5⟩ := own_store (i := 10) (x, (⟨la', p.ll, lc', ⟨ea', p.ss.el, ec', ca', p.ss.cl, cc', ga', p.ss.gl, gc'⟩⟩ : SerP)) (.slice ga' p.ss.gl gc') HO5.out HM4.out (by decide) rfl
   replace hV5 : w5.setCell ⟨g, k * 12 + 1 + 8 + 1, none⟩ (.slice ga' p.ss.gl gc') = V5 := hV5
   replace f5 : w5.frozen? ⟨g, k * 12 + 1 + 8 + 1, none⟩ = false := f5
   have d5 : w5.cell? ⟨g, k * 12 + 1 + 8 + 1, none⟩ = some (.slice p.ss.ga p.ss.gl p.ss.gc) := own_cell HO5.out (flat_at (i := 10) HM4.out (by decide))
   have hB5 : Below w.heap.size w V5 := hBV5 _ _ hg1 (hB4.trans (hb5.mono hB4.size))
   have HL5 := (HL4.out.go hb5).apart (fun z hz _ => by have := hlo2 z hz; omega) hAp5
   have HE5 := (HE4.out.go hb5).apart (fun z hz _ => by have := hlo3 z hz; omega) hAp5
   have HC5 := (HC4.out.go hb5).apart (fun z hz _ => by have := hlo4 z hz; omega) hAp5
   have HG5 := hl5.apart (fun z hz _ => by have := hlo5 z hz; omega) hAp5
   have hAp := (HAp4.out.trans (Apart.of_below (B := g) hb5)).trans hAp5
   simp only [List.set_set] at hO5
   have FI : Hid (CopyAt w l (.slice (some ⟨g, 0, none⟩) l.length vc) (k + 1) V5 (m.set k (x, ⟨la', p.ll, lc', ⟨ea', p.ss.el, ec', ca', p.ss.cl, cc', ga', p.ss.gl, gc'⟩⟩))) :=
    HM.out.step HX.out hO5 hAp ⟨HL5, HE5, HC5, HG5⟩ ⟨fun z h1 _ => by have := hlo2 z h1; omega, fun z h1 _ => by have := hlo3 z h1; omega, fun z h1 _ => by have := hlo4 z h1; omega, fun z h1 _ => by have := hlo5 z h1; omega⟩ hB5
   clear hl5 hO5 hm5 hAp5 hAp HL5 HE5 HC5 HG5 c10 hV4 f4 d4 HO4
   go_wp2_with fail
   go_roundw
   case rel => exact ⟨k + 1, _, by go_num, by omega, FI.out⟩
   case measure => simp [intOf]; omega
  ·have H9 := Lib.hid (HM.out.grow (by omega))
   have H8 := Lib.hid HM.out.keep
   have HB := Lib.hid HM.out.below
   go_wp2_with fail
   go_ret
   exact ⟨_, rfl, m, H9.out, H8.out, HB.out⟩
end Go.Proofs.YthbhmnakmhambaaGreatDoor
