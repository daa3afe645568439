/- Sketches at work as plain data: a number added, one level lower. No program in sight. Sketches at work as plain data: two merged. No program in sight. -/
import Derived.Test.YtpnlmfilmbodfaaGreatDoorVG0
import Derived.Test.YtpnlmfilmbodfaaGreatDoorVXA
namespace Go.Proofs.YtpnlmfilmbodfaaGreatDoor
open Go Go.RowKit
inductive Bd where
  | num (l : List Int)
  | reg (b : Nat) (r : List Nat)
  | cnt (c : Nat) (l : List Int)
  | bkt (f : Nat) (l : List (Int × Int))
def Bd.add : Bd → Nat → Int → Option Bd
  | .num l, h, _ => (exGather l [(h : Int)]).map .num
  | .reg b r, h, _ => some (.reg b (hlAdd b r h))
  | .cnt c l, h, n => some (.cnt c (cmAdd c l h n))
  | .bkt f l, h, n => some (.bkt f (hiAdd f l h n))
def Bd.low : Bd → Bd
  | .num l => .reg 7 (hlSum 7 (hlNone 7) (l.map Int.toNat))
  | .reg b r => .reg (b - 1) (hlLow b r)
  | .cnt c l => .cnt (c / 2) (cmLow c l)
  | .bkt f l => .bkt (f - 1) (hiLow l)
def Bd.Ok (kind level : Nat) : Bd → Prop
  | .num l => kind = 1 ∧ level = 0 ∧ Up l ∧ l.length ≤ 64 ∧ U64s l
  | .reg b r => kind = 1 ∧ 1 ≤ level ∧ level ≤ 4 ∧ b + level = 8 ∧ r.length = 2 ^ b ∧ ∀ i, r.getD i 0 ≤ 65 - b
  | .cnt c l => kind = 2 ∧ level ≤ 3 ∧ c * 2 ^ level = 32 ∧ l.length = c + c ∧ U64s l
  | .bkt f l => kind = 3 ∧ level ≤ 3 ∧ f + level = 3 ∧ BinUp l ∧ (∀ b ∈ l, b.2 ≠ 0) ∧ BinsU l ∧ ∀ b ∈ l, boundsB f b.1 = true
def botN (kind : Nat) : Nat := if kind = 1 then 4 else 3
def Item.ok (i : Nat × Int) : Prop := i.1 < 2 ^ 64 ∧ U64 i.2
theorem isFine_nat (f : Nat) (hf : f ≤ 3) : isFineB (f : Int) = true := by simp [isFineB]; omega
theorem half_small : ∀ f ∈ [1, 2, 3], ∀ p ∈ List.range 26, boundsB ((f : Nat) : Int) ((p : Nat) : Int) = true → boundsB ((f : Nat) - 1 : Int) (hiHalf ((p : Nat) : Int)) = true := by decide +kernel
theorem bounds_half (f : Nat) (h1 : 1 ≤ f) (h3 : f ≤ 3) (p : Int) (h : boundsB f p = true) : boundsB ((f - 1 : Nat) : Int) (hiHalf p) = true := by
  have hp0 : 0 ≤ p := by
    unfold boundsB at h
    split at h
    · rename_i hc
      simp only [Bool.and_eq_true, decide_eq_true_eq] at hc
      exact hc.2
    · cases h
  have hf1 : ((f - 1 : Nat) : Int) = (f : Int) - 1 := by omega
  by_cases hs : p < 26
  · have := half_small f (by simp; omega) p.toNat (by simp; omega)
    rw [Int.toNat_of_nonneg hp0] at this
    rw [hf1]
    exact this h
  rw [boundsB_at _ _ (by omega) (isFine_nat f h3)] at h
  have hh : hiHalf p = 1 + (p - 1) / 2 := by unfold hiHalf; rw [if_neg (by omega)]
  rw [hh, boundsB_at _ _ (by omega) (isFine_nat _ (by omega))]
  rcases (by omega : f = 1 ∨ f = 2 ∨ f = 3) with rfl | rfl | rfl
  · simp only [show (((1 : Nat) : Int)).toNat = 1 from rfl, show (((1 - 1 : Nat) : Int)).toNat = 0 from rfl] at h ⊢
    by_cases hc : 64 ≤ (p - 1) / 2 ^ 1
    · rw [if_pos hc] at h; cases h
    · rw [if_neg (by omega), if_pos (by omega)]
  · simp only [show (((2 : Nat) : Int)).toNat = 2 from rfl, show (((2 - 1 : Nat) : Int)).toNat = 1 from rfl] at h ⊢
    by_cases hc : 64 ≤ (p - 1) / 2 ^ 2
    · rw [if_pos hc] at h; cases h
    · rw [if_neg (by omega), if_pos (by omega)]
  · simp only [show (((3 : Nat) : Int)).toNat = 3 from rfl, show (((3 - 1 : Nat) : Int)).toNat = 2 from rfl] at h ⊢
    by_cases hc : 64 ≤ (p - 1) / 2 ^ 3
    · rw [if_pos hc] at h; cases h
    · rw [if_neg (by omega), if_pos (by omega)]
theorem cnt_cases {c level : Nat} (h3 : level ≤ 3) (h : c * 2 ^ level = 32) : (level = 0 ∧ c = 32) ∨ (level = 1 ∧ c = 16) ∨ (level = 2 ∧ c = 8) ∨ (level = 3 ∧ c = 4) := by
  rcases (by omega : level = 0 ∨ level = 1 ∨ level = 2 ∨ level = 3) with rfl | rfl | rfl | rfl <;> simp only [Nat.reducePow] at h <;> omega
theorem hlSum_le (b : Nat) (hb : b ≤ 8) : ∀ (l r : List Nat), (∀ i, r.getD i 0 ≤ 65 - b) → ∀ i, (hlSum b r l).getD i 0 ≤ 65 - b
  | [], _, h => h
  | x :: l, r, h => hlSum_le b hb l _ (hlTell_le r _ _ _ h (hlRank_le b x hb))
theorem hlNone_le (b m : Nat) : ∀ i, (hlNone b).getD i 0 ≤ m := fun i => by
  unfold hlNone
  rw [List.getD_eq_getElem?_getD, List.getElem?_replicate]
  split <;> simp
theorem hlLow_le (b : Nat) (h1 : 4 ≤ b) (h2 : b ≤ 8) (r : List Nat) (h : ∀ i, r.getD i 0 ≤ 65 - b) : ∀ i, (hlLow b r).getD i 0 ≤ 65 - (b - 1) := fun i => by
  by_cases hi : i < 2 ^ (b - 1)
  · rw [low_at _ _ _ hi]
    have g1 := h (2 * i)
    have g2 := oneR_le (r.getD (2 * i + 1) 0)
    have g3 : upR (r.getD (2 * i) 0) ≤ r.getD (2 * i) 0 + 1 := by unfold upR; split <;> omega
    omega
  · rw [List.getD_eq_getElem?_getD, List.getElem?_eq_none (by rw [hlLow_len]; omega)]
    simp
theorem hiPuts_mem : ∀ (l a : List (Int × Int)) (x : Int × Int), x ∈ hiPuts a l → x ∈ a ∨ (∃ y ∈ a, x.1 = y.1) ∨ ∃ y ∈ l, x.1 = y.1
  | [], _, _, h => .inl h
  | b :: l, a, x, h => by
    rcases hiPuts_mem l (binPut a b.1 b.2) x h with h | ⟨y, hy, e⟩ | ⟨y, hy, e⟩
    · rcases binPut_mem _ _ _ x h with e | h
      · exact .inr (.inr ⟨b, List.mem_cons_self, e⟩)
      · exact .inl h
    · rcases binPut_mem _ _ _ y hy with e2 | h
      · exact .inr (.inr ⟨b, List.mem_cons_self, e.trans e2⟩)
      · exact .inr (.inl ⟨y, h, e⟩)
    · exact .inr (.inr ⟨y, List.mem_cons_of_mem _ hy, e⟩)
theorem bd_low_ok {k L : Nat} {b : Bd} (hb : b.Ok k L) (hL : L < botN k) : b.low.Ok k (L + 1) := by
  cases b with
  | num l =>
    obtain ⟨h1, h2, h3, h4, h5⟩ := hb
    subst h1
    subst h2
    exact ⟨rfl, by omega, by omega, by omega, by rw [hlSum_len]; simp [hlNone], hlSum_le 7 (by omega) _ _ (hlNone_le 7 _)⟩
  | reg b r =>
    obtain ⟨h1, h2, h3, h4, h5, h6⟩ := hb
    subst h1
    have hL4 : L < 4 := hL
    exact ⟨rfl, by omega, by omega, by omega, by rw [hlLow_len], hlLow_le b (by omega) (by omega) r h6⟩
  | cnt c l =>
    obtain ⟨h1, h2, h3, h4, h5⟩ := hb
    subst h1
    have hL3 : L < 3 := hL
    refine ⟨rfl, by omega, ?_, by rw [cmLow_len], cmLow_u64 c l h5⟩
    rcases cnt_cases h2 h3 with ⟨rfl, rfl⟩ | ⟨rfl, rfl⟩ | ⟨rfl, rfl⟩ | ⟨rfl, rfl⟩ <;> first | rfl | omega
  | bkt f l =>
    obtain ⟨h1, h2, h3, h4, h5, h6, h7⟩ := hb
    subst h1
    have hL3 : L < 3 := hL
    obtain ⟨g1, g2⟩ := half_bins h5 h6
    refine ⟨rfl, by omega, by omega, ?_, hiDone_pos, hiDone_u64 (hiPuts_u64 _ [] (fun b hb => by cases hb) g2), ?_⟩
    · exact hiDone_up (hiPuts_up _ [] List.Pairwise.nil)
    · intro x hx
      rcases hiPuts_mem _ _ x (List.mem_filter.1 hx).1 with h | ⟨y, hy, e⟩ | ⟨y, hy, e⟩
      · cases h
      · cases hy
      · obtain ⟨z, hz, rfl⟩ := List.mem_map.1 hy
        rw [e]
        exact bounds_half f (by omega) (by omega) z.1 (h7 z hz)
def bdNew (k : Nat) : Bd := if k = 1 then .num [] else if k = 2 then .cnt 32 (cmNone 32) else .bkt 3 []
theorem bdNew_ok (k : Nat) (h : k = 1 ∨ k = 2 ∨ k = 3) : (bdNew k).Ok k 0 := by
  rcases h with rfl | rfl | rfl
  · exact ⟨rfl, rfl, List.Pairwise.nil, by simp, fun n hn => by cases hn⟩
  · refine ⟨rfl, by omega, rfl, by simp [cmNone], fun n hn => ?_⟩
    rw [List.eq_of_mem_replicate hn]; exact u64_0
  · exact ⟨rfl, by omega, rfl, List.Pairwise.nil, (fun b hb => by cases hb), (fun b hb => by cases hb), fun b hb => by cases hb⟩
end Go.Proofs.YtpnlmfilmbodfaaGreatDoor
namespace Go.Proofs.YtpnlmfilmbodfaaGreatDoor
open Go Go.RowKit
def Bd.wide : Bd → Prop
  | .num _ => False
  | _ => True
end Go.Proofs.YtpnlmfilmbodfaaGreatDoor
