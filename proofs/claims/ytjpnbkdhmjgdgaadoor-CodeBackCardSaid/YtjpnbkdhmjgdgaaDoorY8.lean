/- What bytes decode to, and back: plain laws, no program in sight. -/
import Derived.Test.YtjpnbkdhmjgdgaaDoorY7
import Derived.Test.YtjpnbkdhmjgdgaaDoorY5
namespace Go.Proofs.YtjpnbkdhmjgdgaaDoor
open Go Go.RowKit

inductive ListR (α : Type) where
  | got (l : List α) (r : List UInt8)
  | more
  | bad
def toI (n : Int) : Int := if n < 9223372036854775808 then n else n - 18446744073709551616
def exG : Nat → Int → List Int → List UInt8 → ListR Int
  | 0, _, acc, l => .got acc l
  | k + 1, last, acc, l => match getN l with
    | .got n r => exG k ((last + n) % 18446744073709551616) (acc ++ [(last + n) % 18446744073709551616]) r
    | .more => .more
    | .bad => .bad
def cnG : Nat → List Int → List UInt8 → ListR Int
  | 0, acc, l => .got acc l
  | k + 1, acc, l => match getN l with
    | .got n r => cnG k (acc ++ [n]) r
    | .more => .more
    | .bad => .bad
def biG : Nat → Int → List (Int × Int) → List UInt8 → ListR (Int × Int)
  | 0, _, acc, l => .got acc l
  | k + 1, at_, acc, l => match getN l with
    | .more => .more
    | .bad => .bad
    | .got m r => match getN r with
      | .more => .more
      | .bad => .bad
      | .got n r2 => biG k ((at_ + m) % 18446744073709551616) (acc ++ [(toI ((at_ + m) % 18446744073709551616), n)]) r2
def cntG (limit : Int) (l : List UInt8) : NumR := match getN l with
  | .got n r => if limit < n then .bad else .got n r
  | .more => .more
  | .bad => .bad
inductive DecR where
  | got (x : Sk) (r : List UInt8)
  | more
  | code
def ListR.dec {α : Type} (f : List α → Sk) : ListR α → DecR
  | .got l r => .got (f l) r
  | .more => .more
  | .bad => .code
def exDec (level : Int) (l : List UInt8) : DecR := match cntG 64 l with
  | .got n r => (exG n.toNat 0 [] r).dec (skNum 1 level)
  | .more => .more
  | .bad => .code
def hlDec (level : Int) (l : List UInt8) : DecR :=
  if (l.length : Int) < 2 ^ (8 - level).toNat then .more else .got (skReg 1 level (8 - level) ⟨(l.take (2 ^ (8 - level).toNat)).toArray⟩) (l.drop (2 ^ (8 - level).toNat))
def cnDec (level : Int) (l : List UInt8) : DecR := (cnG (2 * (32 / 2 ^ level.toNat)) [] l).dec (skCnt 2 level 2 (32 / 2 ^ level.toNat))
def biDec (level : Int) (l : List UInt8) : DecR := match cntG 1000 l with
  | .got n r => (biG n.toNat 0 [] r).dec (skBkt 3 level (3 - level))
  | .more => .more
  | .bad => .code
def bodyDec (kind level : Int) (l : List UInt8) : DecR :=
  if kind = 1 then (if level = 0 then exDec level l else hlDec level l) else if kind = 2 then cnDec level l else biDec level l
def skDec (l : List UInt8) : DecR := match getN l with
  | .more => .more
  | .bad => .code
  | .got kind r => if kind < 1 ∨ 3 < kind then .code else match cntG (bottomB kind) r with
    | .more => .more
    | .bad => .code
    | .got level r2 => bodyDec kind level r2
def decB (l : List UInt8) : DecR := match skDec l with
  | .got x r => if skOk x then .got x r else .code
  | .more => .more
  | .code => .code

/-! ### what was encoded is decoded -/
theorem numsB_cons (n : Int) (l : List Int) : numsB (n :: l) = numsB [n] ++ numsB l := by rw [← numsB_append]; rfl
theorem getN_nums (n : Int) (l : List Int) (h : U64 n) (r : List UInt8) : getN (numsB (n :: l) ++ r) = .got n (numsB l ++ r) := by
  rw [numsB_cons, List.append_assoc]; exact getN_put n h _
theorem exG_enc : ∀ (e : List Int) (last : Int) (acc : List Int) (r : List UInt8), U64 last → U64s e → Rise last e → exG e.length last acc (numsB (diffs last e) ++ r) = .got (acc ++ e) r
  | [], last, acc, r, _, _, _ => by simp [exG, diffs, numsB]
  | n :: e, last, acc, r, hl, hu, hr => by
    have hn := hu n List.mem_cons_self
    obtain ⟨h1, h2⟩ := hr
    obtain ⟨l0, l1⟩ := hl
    obtain ⟨n0, n1⟩ := hn
    simp only [diffs, List.length_cons, exG]
    rw [getN_nums _ _ ⟨by omega, by omega⟩]
    simp only
    rw [show (last + (n - last)) % 18446744073709551616 = n by omega, exG_enc e n _ r ⟨n0, n1⟩ (fun z hz => hu z (List.mem_cons_of_mem _ hz)) h2, List.append_assoc]
    rfl
theorem cnG_enc : ∀ (e : List Int) (acc : List Int) (r : List UInt8), U64s e → cnG e.length acc (numsB e ++ r) = .got (acc ++ e) r
  | [], acc, r, _ => by simp [cnG, numsB]
  | n :: e, acc, r, hu => by
    simp only [List.length_cons, cnG]
    rw [getN_nums _ _ (hu n List.mem_cons_self)]
    simp only
    rw [cnG_enc e _ r (fun z hz => hu z (List.mem_cons_of_mem _ hz)), List.append_assoc]
    rfl
theorem biG_enc : ∀ (e : List (Int × Int)) (last : Int) (acc : List (Int × Int)) (r : List UInt8), 0 ≤ last → last ≤ 9223372036854775807 → (∀ z ∈ e, I64 z.1 ∧ U64 z.2) → RiseB last e → biG e.length last acc (numsB (diffsB last e) ++ r) = .got (acc ++ e) r
  | [], last, acc, r, _, _, _, _ => by simp [biG, diffsB, numsB]
  | n :: e, last, acc, r, hl, hl1, hu, hr => by
    obtain ⟨⟨n0, n1⟩, hm⟩ := hu n List.mem_cons_self
    obtain ⟨h1, h2⟩ := hr
    simp only [diffsB, List.length_cons, biG]
    rw [getN_nums _ _ ⟨by omega, by omega⟩]
    simp only
    rw [getN_nums _ _ hm]
    simp only
    rw [show (last + (n.1 - last)) % 18446744073709551616 = n.1 by omega, show toI n.1 = n.1 by (unfold toI; rw [if_pos (by omega)]), biG_enc e n.1 _ r (by omega) n1 (fun z hz => hu z (List.mem_cons_of_mem _ hz)) h2, List.append_assoc]
    rfl
theorem skSame_eq {x y : Sk} (h : skSame x y = true) : x = y := by
  simp only [skSame, Bool.and_eq_true, beq_iff_eq] at h
  obtain ⟨⟨⟨⟨⟨h1, h2⟩, h3, h4⟩, h5⟩, ⟨h6, h7⟩, h8⟩, h9, h10⟩ := h
  have h4' : x.hr = y.hr := by
    rw [Lib.toList_data, Lib.toList_data] at h4
    cases hx : x.hr with | mk a => cases hy : y.hr with | mk b =>
    rw [hx, hy] at h4
    rw [show a = b from Array.toList_inj.1 h4]
  cases x; cases y
  simp_all
theorem bottom_u64 (k : Int) : bottomB k ≤ 4 := by
  unfold bottomB
  repeat' split
  all_goals omega
set_option maxRecDepth 100000 in
theorem dec_enc (x : Sk) (hok : skOk x = true) (hn : x.num) (hg : x.gl.length ≤ 1000) (r : List UInt8) : decB (encBytes x ++ r) = .got x r := by
  obtain ⟨⟨k1, k2⟩, ⟨v1, v2⟩, hb, hs⟩ := ok_parts hok
  have v3 := bottom_u64 x.kind
  have hx := skSame_eq hs
  have hsk : skDec (encBytes x ++ r) = .got x r := by
    unfold skDec encBytes
    rw [List.append_assoc, getN_nums _ _ ⟨by omega, by omega⟩]
    simp only
    rw [if_neg (by omega)]
    unfold cntG
    rw [show numsB [x.level] = numsB (x.level :: []) from rfl, getN_nums _ _ ⟨by omega, by omega⟩]
    simp only
    rw [if_neg (by omega)]
    simp only [show numsB [] = [] from rfl, List.nil_append]
    unfold bodyDec
    by_cases c1 : x.kind = 1
    · rw [if_pos c1]
      simp only [show (x.kind == 1) = true by simp [c1], if_true]
      by_cases c2 : x.level = 0
      · rw [if_pos c2]
        simp only [show (x.level == 0) = true by simp [c2], if_true]
        unfold exDec cntG
        have hb' := hb
        simp only [bodyRight, c1, c2] at hb'
        simp [exRight] at hb'
        rw [getN_nums _ _ ⟨by omega, by omega⟩]
        simp only
        rw [if_neg (by omega)]
        simp only
        rw [show ((x.e.length : Int)).toNat = x.e.length by omega, exG_enc x.e 0 [] r ⟨by omega, by omega⟩ hn.e (ok_rise hok c1 c2 hn.e)]
        simp only [ListR.dec, List.nil_append]
        congr 1
        unfold skCanon at hx
        simp only [show (x.kind == 1) = true by simp [c1], show (x.level == 0) = true by simp [c2], if_true] at hx
        exact hx.symm
      · rw [if_neg c2]
        simp only [show (x.level == 0) = false by simp [c2], Bool.false_eq_true, if_false]
        have hb' := hb
        simp only [bodyRight, show (x.kind == 1) = true by simp [c1], show (x.level == 0) = false by simp [c2], Bool.false_eq_true, if_true, if_false, Bool.and_eq_true, hlRight, beq_iff_eq] at hb'
        obtain ⟨⟨⟨-, hz⟩, -⟩, h8⟩ := hb'
        rw [h8] at hz
        have hz' : x.hr.data.toList.length = 2 ^ (8 - x.level).toNat := by
          have : x.hr.data.toList.length = x.hr.size := Array.length_toList
          rw [this]; exact_mod_cast hz
        unfold hlDec
        rw [if_neg (by rw [List.length_append, hz']; have h9 : (0 : Int) ≤ (r.length : Int) := by omega
                       push_cast; omega)]
        rw [← hz', List.take_left, List.drop_left, Array.toArray_toList]
        congr 1
        unfold skCanon at hx
        simp only [show (x.kind == 1) = true by simp [c1], show (x.level == 0) = false by simp [c2], Bool.false_eq_true, if_true, if_false] at hx
        rw [← h8]
        exact hx.symm
    · rw [if_neg c1]
      simp only [show (x.kind == 1) = false by simp [c1], Bool.false_eq_true, if_false]
      by_cases c2 : x.kind = 2
      · rw [if_pos c2]
        simp only [show (x.kind == 2) = true by simp [c2], if_true]
        have hb' := hb
        simp only [bodyRight, show (x.kind == 1) = false by simp [c1], show (x.kind == 2) = true by simp [c2], Bool.false_eq_true, if_true, if_false, Bool.and_eq_true, cmRight, beq_iff_eq] at hb'
        obtain ⟨⟨⟨-, hz⟩, h8⟩, h9⟩ := hb'
        have hz' : x.cl.length = 2 * (32 / 2 ^ x.level.toNat) := by rw [h8, h9] at hz; exact_mod_cast hz
        unfold cnDec
        rw [← hz', cnG_enc x.cl [] r hn.c]
        simp only [ListR.dec, List.nil_append]
        congr 1
        unfold skCanon at hx
        simp only [show (x.kind == 1) = false by simp [c1], show (x.kind == 2) = true by simp [c2], Bool.false_eq_true, if_true, if_false] at hx
        rw [← h9, h8] at *
        exact hx.symm
      · rw [if_neg c2]
        simp only [show (x.kind == 2) = false by simp [c2], Bool.false_eq_true, if_false]
        have c3 : x.kind = 3 := by omega
        have hb' := hb
        simp only [bodyRight, show (x.kind == 1) = false by simp [c1], show (x.kind == 2) = false by simp [c2], Bool.false_eq_true, if_false, Bool.and_eq_true, beq_iff_eq] at hb'
        obtain ⟨-, h8⟩ := hb'
        unfold biDec cntG
        rw [getN_nums _ _ ⟨by omega, by omega⟩]
        simp only
        rw [if_neg (by omega)]
        simp only
        rw [show ((x.gl.length : Int)).toNat = x.gl.length by omega, biG_enc x.gl 0 [] r (by omega) (by omega) hn.g (ok_riseB hok c3)]
        simp only [ListR.dec, List.nil_append]
        congr 1
        unfold skCanon at hx
        simp only [show (x.kind == 1) = false by simp [c1], show (x.kind == 2) = false by simp [c2], Bool.false_eq_true, if_false] at hx
        rw [← h8]
        exact hx.symm
  unfold decB
  rw [hsk]
  simp only [hok, if_true]
/-- No sketch's bytes begin another one's. -/
theorem enc_apart (x y : Sk) (hx : skOk x = true) (hy : skOk y = true) (nx : x.num) (ny : y.num) (gx : x.gl.length ≤ 1000) (gy : y.gl.length ≤ 1000) (t : List UInt8) (h : encBytes y = encBytes x ++ t) : x = y := by
  have h1 := dec_enc x hx nx gx t
  have h2 := dec_enc y hy ny gy []
  rw [List.append_nil, h, h1] at h2
  injection h2

/-! ### what is decoded was encoded -/
theorem exG_inv : ∀ (k : Nat) (last : Int) (acc : List Int) (l : List UInt8) (e : List Int) (r : List UInt8), exG k last acc l = .got e r → U64 last →
    ∃ e', e = acc ++ e' ∧ e'.length = k ∧ U64s e' ∧ (Rise last e' → l = numsB (diffs last e') ++ r)
  | 0, last, acc, l, e, r, h, _ => by
    simp only [exG, ListR.got.injEq] at h
    exact ⟨[], by rw [h.1, List.append_nil], rfl, (fun _ h => by cases h), fun _ => by rw [h.2]; rfl⟩
  | k + 1, last, acc, l, e, r, h, hl => by
    simp only [exG] at h
    cases hg : getN l with
    | more => rw [hg] at h; cases h
    | bad => rw [hg] at h; cases h
    | got n r1 =>
      rw [hg] at h
      simp only at h
      have hl2 := getN_inv hg
      obtain ⟨hn, -⟩ := getN_got hg
      obtain ⟨v, hv⟩ : ∃ v, (last + n) % 18446744073709551616 = v := ⟨_, rfl⟩
      rw [hv] at h
      obtain ⟨l0, l1⟩ := hl
      obtain ⟨n0, n1⟩ := hn
      have hvu : U64 v := ⟨by omega, by omega⟩
      obtain ⟨e', he, hk, hu, hr⟩ := exG_inv k v _ r1 e r h hvu
      refine ⟨v :: e', by rw [he, List.append_assoc]; rfl, by rw [List.length_cons, hk], ?_, ?_⟩
      · intro z hz
        rcases List.mem_cons.1 hz with rfl | hz
        · exact hvu
        · exact hu z hz
      · rintro ⟨h1, h2⟩
        have hnv : n = v - last := by omega
        simp only [diffs]
        rw [numsB_cons, List.append_assoc, ← hr h2, hl2, hnv]
theorem cnG_inv : ∀ (k : Nat) (acc : List Int) (l : List UInt8) (e : List Int) (r : List UInt8), cnG k acc l = .got e r →
    ∃ e', e = acc ++ e' ∧ e'.length = k ∧ U64s e' ∧ l = numsB e' ++ r
  | 0, acc, l, e, r, h => by
    simp only [cnG, ListR.got.injEq] at h
    exact ⟨[], by rw [h.1, List.append_nil], rfl, (fun _ h => by cases h), by rw [h.2]; rfl⟩
  | k + 1, acc, l, e, r, h => by
    simp only [cnG] at h
    cases hg : getN l with
    | more => rw [hg] at h; cases h
    | bad => rw [hg] at h; cases h
    | got n r1 =>
      rw [hg] at h
      simp only at h
      have hl2 := getN_inv hg
      obtain ⟨hn, -⟩ := getN_got hg
      obtain ⟨e', he, hk, hu, hr⟩ := cnG_inv k _ r1 e r h
      refine ⟨n :: e', by rw [he, List.append_assoc]; rfl, by rw [List.length_cons, hk], ?_, ?_⟩
      · intro z hz
        rcases List.mem_cons.1 hz with rfl | hz
        · exact hn
        · exact hu z hz
      · rw [numsB_cons, List.append_assoc, ← hr, hl2]
theorem biG_inv : ∀ (k : Nat) (last : Int) (acc : List (Int × Int)) (l : List UInt8) (e : List (Int × Int)) (r : List UInt8), biG k last acc l = .got e r → U64 last →
    ∃ e', e = acc ++ e' ∧ e'.length = k ∧ (∀ z ∈ e', I64 z.1 ∧ U64 z.2) ∧ (last ≤ 9223372036854775807 → RiseB last e' → l = numsB (diffsB last e') ++ r)
  | 0, last, acc, l, e, r, h, _ => by
    simp only [biG, ListR.got.injEq] at h
    exact ⟨[], by rw [h.1, List.append_nil], rfl, (fun _ h => by cases h), fun _ _ => by rw [h.2]; rfl⟩
  | k + 1, last, acc, l, e, r, h, hl => by
    simp only [biG] at h
    cases hg : getN l with
    | more => rw [hg] at h; cases h
    | bad => rw [hg] at h; cases h
    | got m r1 =>
      rw [hg] at h
      simp only at h
      cases hg2 : getN r1 with
      | more => rw [hg2] at h; cases h
      | bad => rw [hg2] at h; cases h
      | got n r2 =>
        rw [hg2] at h
        simp only at h
        have hl2 := getN_inv hg
        have hl3 := getN_inv hg2
        obtain ⟨hm, -⟩ := getN_got hg
        obtain ⟨hn, -⟩ := getN_got hg2
        obtain ⟨v, hv⟩ : ∃ v, (last + m) % 18446744073709551616 = v := ⟨_, rfl⟩
        rw [hv] at h
        obtain ⟨l0, l1⟩ := hl
        obtain ⟨m0, m1⟩ := hm
        have hvu : U64 v := ⟨by omega, by omega⟩
        obtain ⟨e', he, hk, hu, hr⟩ := biG_inv k v _ r2 e r h hvu
        refine ⟨(toI v, n) :: e', by rw [he, List.append_assoc]; rfl, by rw [List.length_cons, hk], ?_, ?_⟩
        · intro z hz
          rcases List.mem_cons.1 hz with rfl | hz
          · refine ⟨?_, hn⟩
            show I64 (toI v)
            unfold toI I64
            split <;> omega
          · exact hu z hz
        · rintro hl9 ⟨h1, h2⟩
          have hv9 : v < 9223372036854775808 := by
            simp only [toI] at h1
            split at h1 <;> omega
          have ht : toI v = v := by unfold toI; rw [if_pos hv9]
          dsimp only at h1 h2
          rw [ht] at h1 h2 ⊢
          have hnv : m = v - last := by omega
          simp only [diffsB]
          rw [numsB_cons, numsB_cons n, List.append_assoc, List.append_assoc, ← hr (by omega) h2, ← hl3, hl2, hnv]
end Go.Proofs.YtjpnbkdhmjgdgaaDoor
