/- What is decoded was encoded: plain law. -/
import Derived.Test.YtpnlmfilmbodfaaGreatDoorZY8
namespace Go.Proofs.YtpnlmfilmbodfaaGreatDoor
open Go Go.RowKit
theorem cntG_inv {lim : Int} {l : List UInt8} {n : Int} {r : List UInt8} (h : cntG lim l = .got n r) : 0 ≤ n ∧ n ≤ lim ∧ l = numsB [n] ++ r := by
  unfold cntG at h
  cases hg : getN l with
  | more => rw [hg] at h; cases h
  | bad => rw [hg] at h; cases h
  | got m r1 =>
    rw [hg] at h
    simp only at h
    obtain ⟨⟨h1, h2⟩, h3⟩ := getN_got hg
    split at h
    · cases h
    · injection h with h4 h5
      subst h4; subst h5
      exact ⟨h1, by omega, getN_inv hg⟩
theorem dec_got {α : Type} {f : List α → Sk} {g : ListR α} {x : Sk} {r : List UInt8} (h : g.dec f = .got x r) : ∃ e, g = .got e r ∧ x = f e := by
  cases g with
  | got e r1 => simp only [ListR.dec, DecR.got.injEq] at h; exact ⟨e, by rw [h.2], h.1.symm⟩
  | more => cases h
  | bad => cases h
set_option maxRecDepth 100000 in
theorem bodyDec_inv {kind level : Int} {l : List UInt8} {x : Sk} {r : List UInt8} (h : bodyDec kind level l = .got x r) (hk : 1 ≤ kind ∧ kind ≤ 3) (hl0 : 0 ≤ level) (hl1 : level ≤ 4) :
    x.kind = kind ∧ x.level = level ∧ x.num ∧ x.few ∧ (skOk x = true → numsB [kind, level] ++ l = encBytes x ++ r) := by
  unfold bodyDec at h
  by_cases c1 : kind = 1
  · subst c1
    rw [if_pos rfl] at h
    by_cases c2 : level = 0
    · subst c2
      rw [if_pos rfl] at h
      unfold exDec at h
      cases hc : cntG 64 l with
      | more => rw [hc] at h; cases h
      | bad => rw [hc] at h; cases h
      | got n r1 =>
        rw [hc] at h
        simp only at h
        obtain ⟨e, he, rfl⟩ := dec_got h
        obtain ⟨n0, n1, hl⟩ := cntG_inv hc
        obtain ⟨_, rfl, hlen, hu, hr⟩ := exG_inv _ _ _ _ _ _ he ⟨by omega, by omega⟩
        refine ⟨rfl, rfl, ⟨hu, (fun _ h => by cases h), (fun _ h => by cases h)⟩, ⟨by show e.length ≤ 1000; omega, Nat.zero_le _, Nat.zero_le _, Nat.zero_le _⟩, fun hok => ?_⟩
        have h1 := hr (ok_rise hok rfl rfl hu)
        have h2 : (e.length : Int) = n := by omega
        rw [hl, h1]
        show _ = (numsB [1, 0] ++ numsB ((e.length : Int) :: diffs 0 e)) ++ r
        rw [h2, show numsB (n :: diffs 0 e) = numsB [n] ++ numsB (diffs 0 e) from numsB_cons _ _]
        simp only [List.append_assoc]
    · rw [if_neg c2] at h
      unfold hlDec at h
      split at h
      · cases h
      rename_i hsz
      injection h with h1 h2
      subst h1; subst h2
      have hq : (2 : Nat) ^ (8 - level).toNat ≤ 2 ^ 8 := Nat.pow_le_pow_right (by omega) (by omega)
      refine ⟨rfl, rfl, ⟨(fun _ h => by cases h), (fun _ h => by cases h), (fun _ h => by cases h)⟩, ⟨Nat.zero_le _, Nat.zero_le _, Nat.zero_le _, ?_⟩, fun hok => ?_⟩
      · show (⟨(l.take (2 ^ (8 - level).toNat)).toArray⟩ : ByteArray).size ≤ 1000
        rw [show (⟨(l.take (2 ^ (8 - level).toNat)).toArray⟩ : ByteArray).size = (l.take (2 ^ (8 - level).toNat)).length from List.size_toArray, List.length_take]
        omega
      · have e1 : (level == 0) = false := by simp [c2]
        unfold encBytes skReg
        simp only [e1, show ((1 : Int) == 1) = true from rfl, if_true, Bool.false_eq_true, if_false, List.append_assoc]
        rw [List.take_append_drop]
  · rw [if_neg c1] at h
    have e1 : (kind == 1) = false := by simp [c1]
    by_cases c2 : kind = 2
    · subst c2
      rw [if_pos rfl] at h
      unfold cnDec at h
      obtain ⟨e, he, rfl⟩ := dec_got h
      obtain ⟨_, rfl, hlen, hu, hr⟩ := cnG_inv _ _ _ _ _ he
      have hq : 32 / 2 ^ level.toNat ≤ 32 := Nat.div_le_self _ _
      refine ⟨rfl, rfl, ⟨(fun _ h => by cases h), hu, (fun _ h => by cases h)⟩, ⟨Nat.zero_le _, by show e.length ≤ 1000; omega, Nat.zero_le _, Nat.zero_le _⟩, fun hok => ?_⟩
      rw [hr]
      show _ = (numsB [2, level] ++ numsB e) ++ r
      simp only [List.append_assoc]
    · rw [if_neg c2] at h
      have c3 : kind = 3 := by omega
      subst c3
      unfold biDec at h
      cases hc : cntG 1000 l with
      | more => rw [hc] at h; cases h
      | bad => rw [hc] at h; cases h
      | got n r1 =>
        rw [hc] at h
        simp only at h
        obtain ⟨e, he, rfl⟩ := dec_got h
        obtain ⟨n0, n1, hl⟩ := cntG_inv hc
        obtain ⟨_, rfl, hlen, hu, hr⟩ := biG_inv _ _ _ _ _ _ he ⟨by omega, by omega⟩
        refine ⟨rfl, rfl, ⟨(fun _ h => by cases h), (fun _ h => by cases h), hu⟩, ⟨Nat.zero_le _, Nat.zero_le _, by show e.length ≤ 1000; omega, Nat.zero_le _⟩, fun hok => ?_⟩
        have h1 := hr (by omega) (ok_riseB hok rfl)
        have h2 : (e.length : Int) = n := by omega
        rw [hl, h1]
        show _ = (numsB [3, level] ++ numsB ((e.length : Int) :: diffsB 0 e)) ++ r
        rw [h2, show numsB (n :: diffsB 0 e) = numsB [n] ++ numsB (diffsB 0 e) from numsB_cons _ _]
        simp only [List.append_assoc]
theorem skDec_inv {l : List UInt8} {x : Sk} {r : List UInt8} (h : skDec l = .got x r) : x.num ∧ x.few ∧ (skOk x = true → l = encBytes x ++ r) := by
  unfold skDec at h
  cases hg : getN l with
  | more => rw [hg] at h; cases h
  | bad => rw [hg] at h; cases h
  | got kind r1 =>
    rw [hg] at h
    simp only at h
    split at h
    · cases h
    rename_i hk
    cases hc : cntG (bottomB kind) r1 with
    | more => rw [hc] at h; cases h
    | bad => rw [hc] at h; cases h
    | got level r2 =>
      rw [hc] at h
      simp only at h
      obtain ⟨n0, n1, hl⟩ := cntG_inv hc
      have h4 := bottom_u64 kind
      obtain ⟨-, -, h1, h2, h3⟩ := bodyDec_inv h (by omega) n0 (by omega)
      refine ⟨h1, h2, fun hok => ?_⟩
      rw [← h3 hok, getN_inv hg, hl, show numsB [kind, level] = numsB [kind] ++ numsB [level] from numsB_cons _ _, List.append_assoc]
end Go.Proofs.YtpnlmfilmbodfaaGreatDoor
