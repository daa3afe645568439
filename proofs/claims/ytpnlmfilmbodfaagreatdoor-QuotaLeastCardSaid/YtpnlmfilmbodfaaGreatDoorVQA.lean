/- Quota in plain data: a table's victim, what is fitted. No program in sight. quota.Victim. -/
import Derived.Test.YtpnlmfilmbodfaaGreatDoorVP1
import Derived.Test.YtpnlmfilmbodfaaGreatDoorVLI
import Derived.Test.YtpnlmfilmbodfaaGreatDoorVH0
namespace Go.Proofs.YtpnlmfilmbodfaaGreatDoor
open Go Go.RowKit Go.Shelf
def bdOf (x : Sk) : Bd := if x.kind == 1 then (if x.level == 0 then .num x.e else .reg x.hb.toNat (strRegs x.hr)) else if x.kind == 2 then .cnt x.cc.toNat x.cl else .bkt x.gf.toNat x.gl
theorem regs_str (r : List Nat) (h : ∀ i, r.getD i 0 ≤ 255) : strRegs (hlStr r) = r := by
  unfold strRegs hlStr
  rw [strOfNums_data, List.map_map, List.map_map]
  conv => rhs; rw [← List.map_id r]
  refine List.map_congr_left (fun x hx => ?_)
  obtain ⟨i, hi⟩ := List.mem_iff_getElem?.1 hx
  have h1 := h i
  rw [List.getD_eq_getElem?_getD, hi, Option.getD_some] at h1
  show (UInt8.ofNat ((x : Int)).toNat).toNat = x
  rw [Int.toNat_natCast]
  simp
  omega
theorem bdOf_sk {k L : Nat} {B : Bd} (h : B.Ok k L) : bdOf (skOf k L B) = B := by
  cases B with
  | num l => obtain ⟨rfl, rfl, -⟩ := h; rfl
  | reg b r =>
    obtain ⟨rfl, h1, -, h3, -, h5⟩ := h
    have h0 : (((L : Nat) : Int) == 0) = false := by simp; omega
    show (if (((1 : Nat) : Int) == 1) then (if ((L : Int) == 0) then _ else Bd.reg ((b : Int)).toNat (strRegs (hlStr r))) else _) = _
    rw [h0, Int.toNat_natCast, regs_str r (fun i => by have := h5 i; omega)]
    rfl
  | cnt c l => obtain ⟨rfl, -⟩ := h; rfl
  | bkt f l => obtain ⟨rfl, -⟩ := h; rfl
def skLow (x : Sk) : Sk := skOf x.kind.toNat (x.level.toNat + 1) (bdOf x).low
def SkGood (x : Sk) : Prop := ∃ k L B, x = skOf k L B ∧ Bd.Ok k L B
theorem skLow_sk {k L : Nat} {B : Bd} (h : B.Ok k L) : skLow (skOf k L B) = skOf k (L + 1) B.low := by
  unfold skLow
  rw [bdOf_sk h, (skOf_kind k L B).1, (skOf_kind k L B).2, Int.toNat_natCast, Int.toNat_natCast]
theorem SkGood.of {x : Sk} (h : skOk x = true) (he : U64s x.e) (hc : U64s x.cl) (hg : BinsU x.gl) : SkGood x := sk_bd x h he hc hg
theorem SkGood.ok {x : Sk} (h : SkGood x) : skOk x = true := by obtain ⟨k, L, B, rfl, h⟩ := h; exact skOf_ok h
def mayLow (x : Ser) : Bool := decide (x.sk.level < bottomB x.sk.kind)
def lowSer (x : Ser) : Ser := ⟨x.l, skLow x.sk, x.seen⟩
theorem mayLow_sk {k L : Nat} {B : Bd} (h : B.Ok k L) (l : List Lab) (n : Int) : mayLow ⟨l, skOf k L B, n⟩ = decide (L < botN k) := by
  unfold mayLow
  rw [(skOf_kind k L B).1, (skOf_kind k L B).2, (bot_eq h).1]
  by_cases hl : L < botN k
  · rw [decide_eq_true hl]; simp; omega
  · rw [decide_eq_false hl]; simp; omega
structure Ser.good (x : Ser) : Prop where
  fine : x.fine
  sk : SkGood x.sk
theorem good_len {k L : Nat} {B : Bd} (h : B.Ok k L) (hg : ∀ f l, B = .bkt f l → l.length ≤ 300) : (skOf k L B).e.length ≤ 70 ∧ (skOf k L B).cl.length ≤ 200 ∧ (skOf k L B).gl.length ≤ 300 ∧ (skOf k L B).hr.size ≤ 260 := by
  cases B with
  | num l => obtain ⟨-, -, -, h4, -⟩ := h; exact ⟨by show l.length ≤ 70; omega, Nat.zero_le _, Nat.zero_le _, Nat.zero_le _⟩
  | reg b r =>
    obtain ⟨-, h1, -, h3, h4, -⟩ := h
    have : 2 ^ b ≤ 2 ^ 8 := Nat.pow_le_pow_right (by omega) (by omega)
    exact ⟨Nat.zero_le _, Nat.zero_le _, Nat.zero_le _, by show (hlStr r).size ≤ 260; rw [hlStr_size]; omega⟩
  | cnt c l =>
    obtain ⟨-, h2, h3, h4, -⟩ := h
    have := cols_of h3 h2
    exact ⟨Nat.zero_le _, by show l.length ≤ 200; omega, Nat.zero_le _, Nat.zero_le _⟩
  | bkt f l => exact ⟨Nat.zero_le _, Nat.zero_le _, hg f l rfl, Nat.zero_le _⟩
theorem bd_low_bins {B : Bd} (hg : ∀ f l, B = .bkt f l → l.length ≤ 300) : ∀ f l, B.low = .bkt f l → l.length ≤ 300 := by
  intro f l h
  cases B with
  | bkt f' l' =>
    simp only [Bd.low, Bd.bkt.injEq] at h
    obtain ⟨-, rfl⟩ := h
    exact Nat.le_trans (hiLow_len l') (hg f' l' rfl)
  | num l' => cases h
  | reg b r => cases h
  | cnt c l' => cases h
theorem good_bins {x : Ser} (h : x.fine) {k L : Nat} {B : Bd} (e : x.sk = skOf k L B) : ∀ f l, B = .bkt f l → l.length ≤ 300 := by
  rintro f l rfl
  have := h.g
  rw [e] at this
  exact this
theorem Ser.good.with {x : Ser} (h : x.good) {k L : Nat} {B : Bd} (hB : B.Ok k L) (hg : ∀ f l, B = .bkt f l → l.length ≤ 300) : Ser.good ⟨x.l, skOf k L B, x.seen⟩ := by
  obtain ⟨h1, h2, h3, h4⟩ := good_len hB hg
  exact ⟨⟨h.fine.lab, h.fine.ll, h1, h2, h3, skOf_fit hB, h4, h.fine.seen⟩, ⟨k, L, B, rfl, hB⟩⟩
theorem Ser.good.low {x : Ser} (h : x.good) (hm : mayLow x = true) : (lowSer x).good := by
  obtain ⟨k, L, B, e, hB⟩ := h.sk
  have hx : x = ⟨x.l, skOf k L B, x.seen⟩ := by rw [← e]
  have hlt : L < botN k := by rw [hx, mayLow_sk hB] at hm; simpa using hm
  unfold lowSer
  rw [e, skLow_sk hB]
  exact h.with (bd_low_ok hB hlt) (bd_low_bins (good_bins h.fine e))
theorem low_kind {x : Ser} (h : x.good) : (lowSer x).sk.kind = x.sk.kind ∧ (lowSer x).sk.level = x.sk.level + 1 := by
  obtain ⟨k, L, B, e, hB⟩ := h.sk
  unfold lowSer
  dsimp only
  rw [e, skLow_sk hB, (skOf_kind _ _ _).1, (skOf_kind _ _ _).2, (skOf_kind _ _ _).1, (skOf_kind _ _ _).2]
  exact ⟨rfl, by omega⟩
def vicStep (i : Nat) (x : Ser) (s : Nat × Int × Bool) : Nat × Int × Bool := if mayLow x && (!s.2.2 || decide (s.2.1 < serCost x)) then (i, serCost x, true) else s
def vicTo (l : List Ser) : Nat → Nat × Int × Bool
  | 0 => (0, 0, false)
  | k + 1 => match l[k]? with
    | some x => vicStep k x (vicTo l k)
    | none => vicTo l k
def vic (l : List Ser) : Nat × Int × Bool := vicTo l l.length
theorem vicTo_succ {l : List Ser} {k : Nat} {x : Ser} (h : l[k]? = some x) : vicTo l (k + 1) = vicStep k x (vicTo l k) := by
  show (match l[k]? with | some x => vicStep k x (vicTo l k) | none => vicTo l k) = _
  rw [h]
structure VicAt (l : List Ser) (k : Nat) (s : Nat × Int × Bool) : Prop where
  none : s.2.2 = false → s.1 = 0 ∧ s.2.1 = 0 ∧ ∀ i x, i < k → l[i]? = some x → mayLow x = false
  some : s.2.2 = true → s.1 < k ∧ (∃ x, l[s.1]? = some x ∧ mayLow x = true ∧ serCost x = s.2.1) ∧ ∀ i x, i < k → l[i]? = some x → mayLow x = true → serCost x ≤ s.2.1 ∧ (serCost x = s.2.1 → s.1 ≤ i)
theorem vicTo_at (l : List Ser) : ∀ k, k ≤ l.length → VicAt l k (vicTo l k)
  | 0, _ => ⟨fun _ => ⟨rfl, rfl, fun i x h => by omega⟩, fun h => by cases h⟩
  | k + 1, hk => by
    have ih := vicTo_at l k (by omega)
    obtain ⟨x, hx⟩ : ∃ x, l[k]? = some x := ⟨_, List.getElem?_eq_getElem (by omega)⟩
    rw [vicTo_succ hx]
    generalize vicTo l k = s at ih
    obtain ⟨at_, g, f⟩ := s
    unfold vicStep
    cases hm : mayLow x with
    | false =>
      rw [Bool.false_and, if_neg (by simp)]
      refine ⟨fun h => ?_, fun h => ?_⟩
      · obtain ⟨h1, h2, h3⟩ := ih.none h
        refine ⟨h1, h2, fun i y hi hy => ?_⟩
        by_cases hik : i = k
        · subst hik; rw [hx] at hy; cases hy; exact hm
        · exact h3 i y (by omega) hy
      · obtain ⟨h1, h2, h3⟩ := ih.some h
        refine ⟨by omega, h2, fun i y hi hy hmy => ?_⟩
        by_cases hik : i = k
        · subst hik; rw [hx] at hy; cases hy; rw [hm] at hmy; cases hmy
        · exact h3 i y (by omega) hy hmy
    | true =>
      rw [Bool.true_and]
      dsimp only
      cases f with
      | false =>
        rw [if_pos (by rfl)]
        obtain ⟨h1, h2, h3⟩ := ih.none rfl
        refine ⟨fun h => (by cases h), fun _ => ⟨Nat.lt_succ_self k, ⟨x, hx, hm, rfl⟩, fun i y hi hy hmy => ?_⟩⟩
        by_cases hik : i = k
        · subst hik; rw [hx] at hy; cases hy; exact ⟨Int.le_refl _, fun _ => Nat.le_refl _⟩
        · rw [h3 i y (by omega) hy] at hmy; cases hmy
      | true =>
        obtain ⟨h1, h2, h3⟩ := ih.some rfl
        dsimp only at h1 h2 h3
        by_cases hg : g < serCost x
        · rw [if_pos (by simp [hg])]
          refine ⟨fun h => (by cases h), fun _ => ⟨Nat.lt_succ_self k, ⟨x, hx, hm, rfl⟩, fun i y hi hy hmy => ?_⟩⟩
          by_cases hik : i = k
          · subst hik; rw [hx] at hy; cases hy; exact ⟨Int.le_refl _, fun _ => Nat.le_refl _⟩
          · have := (h3 i y (by omega) hy hmy).1
            show serCost y ≤ serCost x ∧ (serCost y = serCost x → k ≤ i)
            exact ⟨by omega, fun e => by omega⟩
        · rw [if_neg (by simp [hg])]
          refine ⟨fun h => (by cases h), fun _ => ⟨by show at_ < k + 1; omega, h2, fun i y hi hy hmy => ?_⟩⟩
          by_cases hik : i = k
          · subst hik; rw [hx] at hy; cases hy; exact ⟨by show serCost x ≤ g; omega, fun _ => by show at_ ≤ i; omega⟩
          · exact h3 i y (by omega) hy hmy
theorem vic_at (l : List Ser) : VicAt l l.length (vic l) := vicTo_at l _ (Nat.le_refl _)
def victim (l : List Ser) : Option Nat := if (vic l).2.2 then some (vic l).1 else none
theorem victim_none {l : List Ser} (h : victim l = none) : (vic l).2.2 = false ∧ ∀ x ∈ l, mayLow x = false := by
  unfold victim at h
  split at h
  · cases h
  · rename_i hf
    have hf' : (vic l).2.2 = false := by simpa using hf
    refine ⟨hf', fun x hx => ?_⟩
    obtain ⟨i, hi⟩ := List.mem_iff_getElem?.1 hx
    exact ((vic_at l).none hf').2.2 i x (List.getElem?_eq_some_iff.1 hi).1 hi
theorem victim_some {l : List Ser} {v : Nat} (h : victim l = some v) : (vic l).2.2 = true ∧ (vic l).1 = v ∧ v < l.length ∧ ∃ x, l[v]? = some x ∧ mayLow x = true := by
  unfold victim at h
  split at h
  · rename_i hf
    injection h with h
    subst h
    obtain ⟨h1, ⟨x, h2, h3, -⟩, -⟩ := (vic_at l).some hf
    exact ⟨hf, rfl, h1, x, h2, h3⟩
  · cases h
def lowAt (l : List Ser) (i : Nat) : List Ser := match l[i]? with
  | some x => l.set i (lowSer x)
  | none => l
theorem lowAt_eq {l : List Ser} {i : Nat} {x : Ser} (h : l[i]? = some x) : lowAt l i = l.set i (lowSer x) := by unfold lowAt; rw [h]
structure QT (l : List Ser) : Prop where
  right : tabRight l = true
  good : ∀ x ∈ l, x.good
theorem set_mem {l : List Ser} {i : Nat} {y z : Ser} (h : z ∈ l.set i y) : z ∈ l ∨ z = y := by
  rcases List.mem_or_eq_of_mem_set h with h | h
  · exact .inl h
  · exact .inr h
theorem sorted_labs {l m : List Ser} (h : l.map (·.l) = m.map (·.l)) (hs : Sorted l) : Sorted m := by
  unfold Sorted at *
  have h1 : (l.map (·.l)).Pairwise (fun a b => labLess a b = true) := List.pairwise_map.2 hs
  rw [h] at h1
  exact List.pairwise_map.1 h1
theorem right_labs {l m : List Ser} (h : l.map (·.l) = m.map (·.l)) (hr : tabRight l = true) (hm : ∀ x ∈ m, skOk x.sk = true) : tabRight m = true := by
  obtain ⟨h1, h2, h3⟩ := (tabRight_iff l).1 hr
  have hlen : m.length = l.length := by have := congrArg List.length h; simpa using this.symm
  refine (tabRight_iff m).2 ⟨by omega, fun x hx => ?_, sorted_labs h h3⟩
  obtain ⟨i, hi⟩ := List.mem_iff_getElem?.1 hx
  have h4 : (m.map (·.l))[i]? = some x.l := by rw [List.getElem?_map, hi]; rfl
  rw [← h, List.getElem?_map, Option.map_eq_some_iff] at h4
  obtain ⟨y, hy, e⟩ := h4
  have h5 := h2 y (List.mem_of_getElem? hy)
  simp only [serRight, Bool.and_eq_true] at h5 ⊢
  exact ⟨by rw [← e]; exact h5.1, hm x hx⟩
theorem lowAt_labs (l : List Ser) (i : Nat) : (lowAt l i).map (·.l) = l.map (·.l) := by
  unfold lowAt
  cases h : l[i]? with
  | none => rfl
  | some x =>
    show (l.set i (lowSer x)).map (·.l) = _
    rw [List.map_set]
    apply List.ext_getElem?
    intro j
    rw [List.getElem?_set]
    by_cases hij : i = j
    · subst hij
      have hi := (List.getElem?_eq_some_iff.1 h).1
      rw [if_pos rfl, if_pos (by simpa using hi), List.getElem?_map, h]
      rfl
    · rw [if_neg hij]
theorem lowAt_len (l : List Ser) (i : Nat) : (lowAt l i).length = l.length := by
  have := congrArg List.length (lowAt_labs l i)
  simpa using this
theorem QT.low {l : List Ser} (h : QT l) {i : Nat} {x : Ser} (hx : l[i]? = some x) (hm : mayLow x = true) : QT (lowAt l i) := by
  have hg : ∀ y ∈ lowAt l i, y.good := fun y hy => by
    rw [lowAt_eq hx] at hy
    rcases set_mem hy with h1 | rfl
    · exact h.good y h1
    · exact (h.good x (List.mem_of_getElem? hx)).low hm
  exact ⟨right_labs (lowAt_labs l i).symm h.right (fun y hy => (hg y hy).sk.ok), hg⟩
theorem QT.len {l : List Ser} (h : QT l) : l.length ≤ 20 := ((tabRight_iff l).1 h.right).1
def slack (x : Ser) : Nat := (bottomB x.sk.kind - x.sk.level).toNat
def mu : List Ser → Nat
  | [] => 0
  | x :: r => slack x + mu r
theorem mu_set : ∀ (l : List Ser) (i : Nat) (x y : Ser), l[i]? = some x → slack y + 1 = slack x → mu (l.set i y) + 1 = mu l
  | [], i, x, y, h, _ => by simp at h
  | z :: r, 0, x, y, h, hs => by
    simp only [List.getElem?_cons_zero, Option.some.injEq] at h
    subst h
    show slack y + mu r + 1 = slack z + mu r
    omega
  | z :: r, i + 1, x, y, h, hs => by
    have := mu_set r i x y (by simpa using h) hs
    show slack z + mu (r.set i y) + 1 = slack z + mu r
    omega
theorem mu_low {l : List Ser} (h : QT l) {i : Nat} {x : Ser} (hx : l[i]? = some x) (hm : mayLow x = true) : mu (lowAt l i) + 1 = mu l := by
  rw [lowAt_eq hx]
  refine mu_set l i x _ hx ?_
  obtain ⟨h1, h2⟩ := low_kind (h.good x (List.mem_of_getElem? hx))
  unfold slack
  rw [h1, h2]
  unfold mayLow at hm
  rw [decide_eq_true_eq] at hm
  omega
def fitF (b : Int) : Nat → List Ser → Option (List Ser × List Nat)
  | 0, _ => none
  | n + 1, l => if costL l ≤ b then some (l, []) else match victim l with
    | none => none
    | some v => (fitF b n (lowAt l v)).map fun r => (r.1, v :: r.2)
def fit (b : Int) (l : List Ser) : Option (List Ser × List Nat) := fitF b (mu l + 1) l
theorem fit_done {b : Int} {l : List Ser} (h : costL l ≤ b) : fit b l = some (l, []) := by
  show (if costL l ≤ b then _ else _) = _
  rw [if_pos h]
theorem fit_stuck {b : Int} {l : List Ser} (h : b < costL l) (hv : victim l = none) : fit b l = none := by
  show (if costL l ≤ b then _ else _) = _
  rw [if_neg (by omega), hv]
theorem fit_step {b : Int} {l : List Ser} (hl : QT l) (h : b < costL l) {v : Nat} (hv : victim l = some v) : fit b l = (fit b (lowAt l v)).map fun r => (r.1, v :: r.2) := by
  show (if costL l ≤ b then _ else _) = _
  rw [if_neg (by omega), hv]
  obtain ⟨-, -, -, x, hx, hm⟩ := victim_some hv
  have := mu_low hl hx hm
  show (fitF b (mu l) (lowAt l v)).map _ = _
  rw [← this]
  rfl
theorem fit_ind (b : Int) (P : List Ser → Option (List Ser × List Nat) → Prop) (done : ∀ l, QT l → costL l ≤ b → P l (some (l, []))) (stuck : ∀ l, QT l → b < costL l → victim l = none → P l none)
    (step : ∀ l v x, QT l → b < costL l → victim l = some v → l[v]? = some x → mayLow x = true → P (lowAt l v) (fit b (lowAt l v)) → P l ((fit b (lowAt l v)).map fun r => (r.1, v :: r.2))) : ∀ l, QT l → P l (fit b l) := by
  have key : ∀ n l, mu l = n → QT l → P l (fit b l) := by
    intro n
    induction n with
    | zero =>
      intro l hn hl
      by_cases h : costL l ≤ b
      · rw [fit_done h]; exact done l hl h
      · cases hv : victim l with
        | none => rw [fit_stuck (by omega) hv]; exact stuck l hl (by omega) hv
        | some v =>
          obtain ⟨-, -, -, x, hx, hm⟩ := victim_some hv
          have := mu_low hl hx hm
          omega
    | succ n ih =>
      intro l hn hl
      by_cases h : costL l ≤ b
      · rw [fit_done h]; exact done l hl h
      · cases hv : victim l with
        | none => rw [fit_stuck (by omega) hv]; exact stuck l hl (by omega) hv
        | some v =>
          obtain ⟨-, -, -, x, hx, hm⟩ := victim_some hv
          have h1 := mu_low hl hx hm
          rw [fit_step hl (by omega) hv]
          exact step l v x hl (by omega) hv hx hm (ih _ (by omega) (hl.low hx hm))
  exact fun l hl => key _ l rfl hl
structure Fitted (b : Int) (l a : List Ser) (ps : List Nat) : Prop where
  qt : QT a
  cost : costL a ≤ b
  labs : a.map (·.l) = l.map (·.l)
  levels : ∀ (i : Nat) (x y : Ser), l[i]? = some x → a[i]? = some y → x.sk.level ≤ y.sk.level ∧ y.seen = x.seen
  none : ps = [] ↔ costL l ≤ b
  same : ps = [] → a = l
theorem fit_says (b : Int) : ∀ l, QT l → ∀ a ps, fit b l = some (a, ps) → Fitted b l a ps := by
  refine fit_ind b (fun l r => ∀ a ps, r = some (a, ps) → Fitted b l a ps) (fun l hl h a ps e => ?_) (fun l _ _ _ a ps e => by cases e) (fun l v x hl h hv hx hm ih a ps e => ?_)
  · cases e
    exact ⟨hl, h, rfl, fun i x y h1 h2 => by rw [h1] at h2; cases h2; exact ⟨Int.le_refl _, rfl⟩, by simp [h], fun _ => rfl⟩
  · rw [Option.map_eq_some_iff] at e
    obtain ⟨⟨a', ps'⟩, h1, h2⟩ := e
    cases h2
    obtain ⟨g1, g2, g3, g4, g5, -⟩ := ih a' ps' h1
    refine ⟨g1, g2, g3.trans (lowAt_labs l v), fun i y z hy hz => ?_, by simp; omega, fun h => by cases h⟩
    obtain ⟨u, hu⟩ : ∃ u, (lowAt l v)[i]? = some u := ⟨_, List.getElem?_eq_getElem (by rw [lowAt_len]; exact (List.getElem?_eq_some_iff.1 hy).1)⟩
    obtain ⟨k1, k2⟩ := g4 i u z hu hz
    have : y.sk.level ≤ u.sk.level ∧ u.seen = y.seen := by
      rw [lowAt_eq hx, List.getElem?_set] at hu
      by_cases hiv : v = i
      · subst hiv
        rw [if_pos rfl, if_pos (List.getElem?_eq_some_iff.1 hx).1] at hu
        cases hu
        rw [hx] at hy
        cases hy
        have := (low_kind (hl.good x (List.mem_of_getElem? hx))).2
        exact ⟨by omega, rfl⟩
      · rw [if_neg hiv, hy] at hu
        cases hu
        exact ⟨Int.le_refl _, rfl⟩
    exact ⟨by omega, k2.trans this.2⟩
theorem fit_more (lo hi : Int) (hle : lo ≤ hi) : ∀ l, QT l → ∀ a ps, fit lo l = some (a, ps) → ∃ a' ps', fit hi l = some (a', ps') ∧ ps'.length ≤ ps.length ∧ ps.take ps'.length = ps' := by
  refine fit_ind lo (fun l r => ∀ a ps, r = some (a, ps) → ∃ a' ps', fit hi l = some (a', ps') ∧ ps'.length ≤ ps.length ∧ ps.take ps'.length = ps') (fun l hl h a ps e => ?_) (fun l _ _ _ a ps e => by cases e) (fun l v x hl h hv hx hm ih a ps e => ?_)
  · cases e
    exact ⟨l, [], fit_done (by omega), Nat.le_refl _, rfl⟩
  · rw [Option.map_eq_some_iff] at e
    obtain ⟨⟨a1, ps1⟩, h1, h2⟩ := e
    cases h2
    by_cases hc : costL l ≤ hi
    · exact ⟨l, [], fit_done hc, Nat.zero_le _, rfl⟩
    · obtain ⟨a', ps', h3, h4, h5⟩ := ih a1 ps1 h1
      refine ⟨a', v :: ps', by rw [fit_step hl (by omega) hv, h3]; rfl, by simp; omega, by simp [h5]⟩
theorem fit_twice (lo hi : Int) (hle : lo ≤ hi) : ∀ l, QT l → ((∀ a ps, fit hi l = some (a, ps) → fit lo l = (fit lo a).map fun r => (r.1, ps ++ r.2)) ∧ (fit hi l = none → fit lo l = none)) := by
  refine fit_ind hi (fun l r => ((∀ a ps, r = some (a, ps) → fit lo l = (fit lo a).map fun r => (r.1, ps ++ r.2)) ∧ (r = none → fit lo l = none))) (fun l hl h => ⟨fun a ps e => ?_, fun e => by cases e⟩) (fun l _ h hv => ⟨fun a ps e => (by cases e), fun _ => fit_stuck (by omega) hv⟩) (fun l v x hl h hv hx hm ih => ⟨fun a ps e => ?_, fun e => ?_⟩)
  · cases e
    cases fit lo l <;> rfl
  · rw [Option.map_eq_some_iff] at e
    obtain ⟨⟨a1, ps1⟩, h1, h2⟩ := e
    cases h2
    rw [fit_step hl (by omega) hv, ih.1 a1 ps1 h1]
    cases fit lo a1 <;> rfl
  · rw [fit_step hl (by omega) hv, ih.2 (by simpa using e)]
    rfl
end Go.Proofs.YtpnlmfilmbodfaaGreatDoor
namespace Go.Proofs.YtpnlmfilmbodfaaGreatDoor
open Go Go.RowKit Go.Shelf
theorem slice_mid (a : Option Addr) (len cap k : Nat) (w : World) (h : k < cap) : (Instr.slice 57 (.slice a len cap) (some (.int .i64 (k : Int))) (some (.int .i64 ((k : Int) + 1))) none).run Tryz.prog w = .ok (.slice (dropA a cap k 12) 1 (cap - k)) w := by
  have hs : (sizeOf 64).run Tryz.prog w = .ok 12 w := by kernel_rfl
  have he : Tryz.prog.elem 57 = 64 := by kernel_rfl
  rw [run_slice_lh (t := 57) (a := a) (len := len) (cap := cap) (w := w) (ht := by rw [he]; exact und_table) (kl := .i64) (kh := .i64) (l := (k : Int)) (h := (k : Int) + 1) (by omega) (by omega) (by omega), he, hs]
  have e1 : ((k : Int) + 1).toNat = k + 1 := by omega
  simp only [Result.andThen, sliced, Int.toNat_natCast, dropA, e1]
  rw [show k + 1 - k = 1 by omega]
theorem Tab.mid {n₀ : Nat} {w : World} {a : Option Addr} {len cap : Nat} {l : List (Ser × SerP)} (h : Tab n₀ w a len cap l) {k : Nat} {e : Ser × SerP} (he : l[k]? = some e) : Tab n₀ w (dropA a cap k 12) 1 (cap - k) [e] := by
  have hk := (List.getElem?_eq_some_iff.1 he).1
  have hlen := h.row.1.1
  have h1 := (h.drop k (by omega)).take 1 (by omega)
  have h2 : (l.drop k).take 1 = [e] := by rw [drop_cons' he]; rfl
  rw [h2] at h1
  exact h1
theorem tabCost_one {x : Ser} (h : serRight x = true) : tabCost [x] = serCost x := by
  unfold tabCost
  have : tabRight [x] = true := by simp [tabRight, tabGo, h]
  rw [this, if_pos rfl]
  show serCost x + 0 = serCost x
  omega
def vicP (l : List Ser) : Int := if tabRight l then ((vic l).1 : Int) else 0
def vicB (l : List Ser) : Bool := tabRight l && (vic l).2.2
set_option maxRecDepth 100000 in
set_option maxHeartbeats 4000000 in
theorem Victim_any (l : List (Ser × SerP)) (a : Option Addr) (len cap : Nat) (w : World) (hT : Tab w.heap.size w a len cap l) (hF : TabFit l) (hG : GW w) :
    Calls Tryz.prog 42 #[.slice a len cap] w fun e w' => e = .returned (.tuple #[.int .i64 (vicP (l.map (·.1))), .bool (vicB (l.map (·.1)))]) ∧ Below w.heap.size w w' := by
  have hR := series_Right_any l a len cap w hT hF hG
  have hlen := hT.row.1.1
  subst hlen
  have HT := Lib.hid hT
  have HF := Lib.hid hF
  have HG := Lib.hid hG
  have hm : l.length ≤ maxLen := Nat.le_trans hT.row.2.1 hT.row.2.2.1
  have hcap : l.length ≤ cap := hT.row.2.1
  unfold maxLen at hm
  clear hT hF hG
  cases hr : tabRight (l.map (·.1)) with
  | false =>
    rw [hr] at hR
    have HR : Hid (vicP (l.map (·.1)) = 0 ∧ vicB (l.map (·.1)) = false) := by rw [Hid, vicP, vicB, hr]; exact ⟨rfl, rfl⟩
    generalize vicP (l.map (·.1)) = cR at HR ⊢
    generalize vicB (l.map (·.1)) = bR at HR ⊢
    clear hr
    go_enter Tryz.func42, Tryz.ntmps42
    go_wp2_with (go_at_call 43; refine hR.mono ?_; rintro e w1 ⟨rfl, hb1⟩)
    go_ret2
    exact ⟨by rw [HR.out.1, HR.out.2]; rfl, hb1⟩
  | true =>
    rw [hr] at hR
    have HS := Lib.hid ((tabRight_iff _).1 hr).2.1
    have h20 : l.length ≤ 20 := by have := ((tabRight_iff _).1 hr).1; rwa [List.length_map] at this
    have HR : Hid (vicP (l.map (·.1)) = ((vic (l.map (·.1))).1 : Int) ∧ vicB (l.map (·.1)) = (vic (l.map (·.1))).2.2) := by rw [Hid, vicP, vicB, hr]; exact ⟨rfl, rfl⟩
    generalize vicP (l.map (·.1)) = cR at HR ⊢
    generalize vicB (l.map (·.1)) = bR at HR ⊢
    clear hr
    go_enter Tryz.func42, Tryz.ntmps42
    go_wp2_with (go_at_call 43; refine hR.mono ?_; rintro e w1 ⟨rfl, hb1⟩)
    clear hR
    go_loopw [4, 5, 6, 15] (fun v c f i wr => ∃ (k p : Nat) (s : Int) (b : Bool), i = .int .i64 k ∧ v = .int .i64 p ∧ c = .int .i64 s ∧ f = .bool b ∧ k ≤ l.length ∧ Below w.heap.size w wr ∧ Hid ((p, s, b) = vicTo (l.map (·.1)) k) ∧ p ≤ k) (fun _ _ _ i _ => l.length - (intOf i).toNat)
    case atStart => exact ⟨0, 0, 0, false, rfl, rfl, rfl, rfl, Nat.zero_le _, hb1, rfl, Nat.le_refl _⟩
    case round =>
      obtain ⟨k, q, s, b, rfl, rfl, rfl, rfl, hk, hB, HV, hq⟩ := hrel
      have hsz := hB.size
      by_cases hlt : k < l.length
      · obtain ⟨⟨x, p⟩, hx⟩ : ∃ x, l[k]? = some x := ⟨_, List.getElem?_eq_getElem hlt⟩
        have HMd : Hid (∀ W, Below w.heap.size w W → Tab W.heap.size W (dropA a cap k 12) 1 (cap - k) [(x, p)]) := fun W hW => ((HT.out.below hW).mono hW.size).mid hx
        have HF1 : Hid (TabFit [(x, p)]) := fun e he => by rw [List.mem_singleton] at he; subst he; exact HF.out _ (List.mem_of_getElem? hx)
        have hsl := fun W => slice_mid a l.length cap k W (by omega)
        obtain ⟨bb, off, rfl, hbb, hc⟩ := (HT.out.below hB).row.1.2 k (x, p) hx
        have c0 : wr.cell? ⟨bb, off + k * 12, none⟩ = some (.slice p.la p.ll p.lc) := hc 0 (by omega)
        have c1 : wr.cell? ⟨bb, off + k * 12 + 1, none⟩ = some (.int .i64 x.sk.kind) := hc 1 (by omega)
        have c2 : wr.cell? ⟨bb, off + k * 12 + 2, none⟩ = some (.int .i64 x.sk.level) := hc 2 (by omega)
        have c3 : wr.cell? ⟨bb, off + k * 12 + 3, none⟩ = some (.slice p.ss.ea p.ss.el p.ss.ec) := hc 3 (by omega)
        have c4 : wr.cell? ⟨bb, off + k * 12 + 4, none⟩ = some (.int .i64 x.sk.hb) := hc 4 (by omega)
        have c5 : wr.cell? ⟨bb, off + k * 12 + 5, none⟩ = some (.string x.sk.hr) := hc 5 (by omega)
        have c6 : wr.cell? ⟨bb, off + k * 12 + 6, none⟩ = some (.int .i64 x.sk.cr) := hc 6 (by omega)
        have c7 : wr.cell? ⟨bb, off + k * 12 + 7, none⟩ = some (.int .i64 x.sk.cc) := hc 7 (by omega)
        have c8 : wr.cell? ⟨bb, off + k * 12 + 8, none⟩ = some (.slice p.ss.ca p.ss.cl p.ss.cc) := hc 8 (by omega)
        have c9 : wr.cell? ⟨bb, off + k * 12 + 9, none⟩ = some (.int .i64 x.sk.gf) := hc 9 (by omega)
        have c10 : wr.cell? ⟨bb, off + k * 12 + 10, none⟩ = some (.slice p.ss.ga p.ss.gl p.ss.gc) := hc 10 (by omega)
        have c11 : wr.cell? ⟨bb, off + k * 12 + 11, none⟩ = some (.int .u64 x.seen) := hc 11 (by omega)
        have HX : Hid ((l.map (·.1))[k]? = some x) := by rw [Hid, List.getElem?_map, hx]; rfl
        have HSx : Hid (tabCost [x] = serCost x) := tabCost_one (HS.out x (List.mem_of_getElem? HX.out))
        have HSm : Hid (0 ≤ serCost x ∧ serCost x ≤ 220000000000) := serCost_small (HT.out.at_ _ (List.mem_of_getElem? hx)) (HF.out _ (List.mem_of_getElem? hx))
        obtain ⟨W1, hW1, hX1, hB1, hzz⟩ := boxes1 wr #[.slice p.la p.ll p.lc, .int .i64 x.sk.kind, .int .i64 x.sk.level, .slice p.ss.ea p.ss.el p.ss.ec, .int .i64 x.sk.hb, .string x.sk.hr, .int .i64 x.sk.cr, .int .i64 x.sk.cc, .slice p.ss.ca p.ss.cl p.ss.cc, .int .i64 x.sk.gf, .slice p.ss.ga p.ss.gl p.ss.gc, .int .u64 x.seen] 64
        have r0 : W1.cell? ⟨wr.heap.size, 0, none⟩ = some (.slice p.la p.ll p.lc) := cCc hX1 0
        have r1 : W1.cell? ⟨wr.heap.size, 1, none⟩ = some (.int .i64 x.sk.kind) := cCc hX1 1
        have r2 : W1.cell? ⟨wr.heap.size, 2, none⟩ = some (.int .i64 x.sk.level) := cCc hX1 2
        have r3 : W1.cell? ⟨wr.heap.size, 3, none⟩ = some (.slice p.ss.ea p.ss.el p.ss.ec) := cCc hX1 3
        have r4 : W1.cell? ⟨wr.heap.size, 4, none⟩ = some (.int .i64 x.sk.hb) := cCc hX1 4
        have r5 : W1.cell? ⟨wr.heap.size, 5, none⟩ = some (.string x.sk.hr) := cCc hX1 5
        have r6 : W1.cell? ⟨wr.heap.size, 6, none⟩ = some (.int .i64 x.sk.cr) := cCc hX1 6
        have r7 : W1.cell? ⟨wr.heap.size, 7, none⟩ = some (.int .i64 x.sk.cc) := cCc hX1 7
        have r8 : W1.cell? ⟨wr.heap.size, 8, none⟩ = some (.slice p.ss.ca p.ss.cl p.ss.cc) := cCc hX1 8
        have r9 : W1.cell? ⟨wr.heap.size, 9, none⟩ = some (.int .i64 x.sk.gf) := cCc hX1 9
        have r10 : W1.cell? ⟨wr.heap.size, 10, none⟩ = some (.slice p.ss.ga p.ss.gl p.ss.gc) := cCc hX1 10
        have r11 : W1.cell? ⟨wr.heap.size, 11, none⟩ = some (.int .u64 x.seen) := cCc hX1 11
        have hBW : Below w.heap.size w W1 := hB.trans (hB1.mono hsz)
        have HBT : Hid (∀ w, Calls Tryz.prog 31 #[.int .i64 x.sk.kind] w fun e w' => e = .returned (.int .i64 (bottomB x.sk.kind)) ∧ w' = w) := fun w => (Bottom_any x.sk.kind w).mono fun e w' ⟨h1, h2⟩ => ⟨h1, h2.symm⟩
        have HVs := Lib.hid (vicTo_succ HX.out)
        have hbt : -1 ≤ bottomB x.sk.kind ∧ bottomB x.sk.kind ≤ 4 := by unfold bottomB; repeat' split; all_goals omega
        have HM : Hid (mayLow x = decide (x.sk.level < bottomB x.sk.kind)) := rfl
        generalize bottomB x.sk.kind = bt at HBT HM hbt
        clear hc hx
        by_cases hm : x.sk.level < bt
        case neg =>
          have H9 : Hid ((q, s, b) = vicTo (l.map (·.1)) (k + 1)) := by rw [Hid, HVs.out, ← HV.out, vicStep, HM.out, decide_eq_false hm]; rfl
          go_wp2_with fail
          go_quiet ((go_at_call 31; exact Calls.quiet_of_same (HBT.out _)))
          go_wp2_with fail
          all_goals go_roundw
          case rel => exact ⟨k + 1, q, s, b, by go_num, rfl, rfl, rfl, by omega, hBW.trans ((drewN_below nq).mono hBW.size), H9.out, by omega⟩
          case measure => simp [intOf]; omega
        case pos =>
          have HCo : Hid (∀ W, Below w.heap.size w W → Calls Tryz.prog 44 #[.slice (dropA (some ⟨bb, off, none⟩) cap k 12) 1 (cap - k)] W fun e w' => e = .returned (.int .i64 (serCost x)) ∧ Below W.heap.size W w') := fun W hW => by
            have := series_Cost_any _ _ _ _ W (HMd.out W hW) HF1.out (HG.out.below hW)
            rw [show ([(x, p)] : List (Ser × SerP)).map (·.1) = [x] from rfl, HSx.out] at this
            exact this
          have H9 : Hid (vicTo (l.map (·.1)) (k + 1) = if (!b || decide (s < serCost x)) = true then (k, serCost x, true) else (q, s, b)) := by
            rw [Hid, HVs.out, ← HV.out, vicStep, HM.out, decide_eq_true hm]
            rfl
          obtain ⟨hc0, hc1⟩ := HSm.out
          generalize serCost x = sc at HCo H9 hc0 hc1
          clear HSm HSx HMd
          go_wp2_with fail
          go_quiet ((go_at_call 31; exact Calls.quiet_of_same (HBT.out _)))
          have hsl2 := hsl (W1.drewN nq)
          have hBq := hBW.trans ((drewN_below nq).mono hBW.size)
          cases b with
          | false =>
            have H8 : Hid ((k, sc, true) = vicTo (l.map (·.1)) (k + 1)) := by rw [Hid, H9.out]; rfl
            go_wp2_with (go_at_call 44; refine (HCo.out _ hBq).mono ?_; rintro e w3 ⟨rfl, hb3⟩)
            all_goals go_roundw
            case rel => exact ⟨k + 1, k, sc, true, by go_num, rfl, rfl, rfl, by omega, hBq.trans (hb3.mono hBq.size), H8.out, by omega⟩
            case measure => simp [intOf]; omega
          | true =>
            by_cases hg : s < sc
            · have H8 : Hid ((k, sc, true) = vicTo (l.map (·.1)) (k + 1)) := by rw [Hid, H9.out, decide_eq_true hg]; rfl
              go_wp2_with (go_at_call 44; refine (HCo.out _ hBq).mono ?_; rintro e w3 ⟨rfl, hb3⟩)
              all_goals go_roundw
              case rel => exact ⟨k + 1, k, sc, true, by go_num, rfl, rfl, rfl, by omega, hBq.trans (hb3.mono hBq.size), H8.out, by omega⟩
              case measure => simp [intOf]; omega
            · have H8 : Hid ((q, s, true) = vicTo (l.map (·.1)) (k + 1)) := by rw [Hid, H9.out, decide_eq_false hg]; rfl
              go_wp2_with (go_at_call 44; refine (HCo.out _ hBq).mono ?_; rintro e w3 ⟨rfl, hb3⟩)
              all_goals go_roundw
              case rel => exact ⟨k + 1, q, s, true, by go_num, rfl, rfl, rfl, by omega, hBq.trans (hb3.mono hBq.size), H8.out, by omega⟩
              case measure => simp [intOf]; omega
      · obtain rfl : k = l.length := by omega
        have H9 : Hid (cR = (q : Int) ∧ bR = b) := by
          have e : vic (l.map (·.1)) = (q, s, b) := by rw [HV.out, vic, List.length_map]
          rw [Hid, HR.out.1, HR.out.2, e]
          exact ⟨rfl, rfl⟩
        go_wp2_with fail
        go_ret2
        exact ⟨by rw [H9.out.1, H9.out.2]; rfl, hB⟩
end Go.Proofs.YtpnlmfilmbodfaaGreatDoor
