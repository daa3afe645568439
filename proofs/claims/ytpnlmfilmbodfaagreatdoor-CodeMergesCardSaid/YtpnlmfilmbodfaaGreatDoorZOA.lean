/- A right sketch is that of a body at work. No program in sight. -/
import Derived.Test.YtpnlmfilmbodfaaGreatDoorZLF
namespace Go.Proofs.YtpnlmfilmbodfaaGreatDoor
open Go Go.RowKit Go.Shelf
theorem sk_eq {x y : Sk} (h : skSame x y = true) : x = y := by
  simp only [skSame, Bool.and_eq_true, beq_iff_eq] at h
  obtain ⟨⟨⟨⟨⟨h1, h2⟩, h3, h4⟩, h5⟩, ⟨h6, h7⟩, h8⟩, h9, h10⟩ := h
  have h4' : x.hr = y.hr := by
    rw [Lib.toList_data, Lib.toList_data] at h4
    cases hx : x.hr with | mk a => cases hy : y.hr with | mk b =>
    rw [hx, hy] at h4
    rw [show a = b from Array.toList_inj.1 h4]
  cases x; cases y
  simp only at *
  subst h1 h2 h3 h4' h5 h6 h7 h8 h9 h10
  rfl
def strRegs (s : ByteArray) : List Nat := s.data.toList.map (·.toNat)
theorem strRegs_str (s : ByteArray) : hlStr (strRegs s) = s := by
  unfold hlStr strRegs
  have h : (strOfNums ((s.data.toList.map (·.toNat)).map fun (n : Nat) => (n : Int))).data.toList = s.data.toList := by
    rw [strOfNums_data, List.map_map, List.map_map]
    conv => rhs; rw [← List.map_id s.data.toList]
    refine List.map_congr_left (fun x _ => ?_)
    simp
  generalize strOfNums ((s.data.toList.map (·.toNat)).map fun (n : Nat) => (n : Int)) = z at h
  cases z with | mk a => cases s with | mk b =>
  have h2 : a.toList = b.toList := h
  rw [Array.toList_inj.1 h2]
theorem strRegs_len (s : ByteArray) : (strRegs s).length = s.size := by unfold strRegs; rw [List.length_map]; exact Array.length_toList
theorem strRegs_le (b : Nat) (s : ByteArray) (h : regsOk b s = true) : ∀ i, (strRegs s).getD i 0 ≤ 65 - b := fun i => by
  rw [List.getD_eq_getElem?_getD]
  cases hi : (strRegs s)[i]? with
  | none => exact Nat.zero_le _
  | some r =>
    have hm := List.mem_of_getElem? hi
    unfold strRegs at hm
    obtain ⟨c, hc, rfl⟩ := List.mem_map.1 hm
    unfold regsOk at h
    have h2 := List.all_eq_true.1 h c hc
    have h3 : ¬ (65 - (b : Int) < (c.toNat : Int)) := by simpa using h2
    show c.toNat ≤ 65 - b
    omega
theorem hist_says (f : Int) : ∀ (l : List (Int × Int)) (last : Int), (foldO (histStep f) last l).isSome = true → BinUp l ∧ (∀ b ∈ l, last < b.1) ∧ (∀ b ∈ l, b.2 ≠ 0) ∧ ∀ b ∈ l, boundsB f b.1 = true
  | [], _, _ => ⟨List.Pairwise.nil, (fun _ h => by cases h), (fun _ h => by cases h), fun _ h => by cases h⟩
  | b :: t, last, h => by
    rw [foldO_cons] at h
    cases hs : histStep f last b with
    | none => rw [hs] at h; cases h
    | some z =>
      rw [hs] at h
      have hs2 : z = b.1 ∧ b.2 ≠ 0 ∧ boundsB f b.1 = true ∧ last < b.1 := by
        unfold histStep at hs
        split at hs
        · cases hs
        · rename_i hc
          simp only [Bool.or_eq_true, beq_iff_eq, Bool.not_eq_true', decide_eq_true_eq, not_or, Bool.not_eq_false] at hc
          exact ⟨(Option.some.inj hs).symm, hc.1.1, hc.1.2, by omega⟩
      obtain ⟨rfl, h2, h3, h4⟩ := hs2
      obtain ⟨i1, i2, i3, i4⟩ := hist_says f t b.1 h
      refine ⟨List.pairwise_cons.2 ⟨i2, i1⟩, fun c hc => ?_, fun c hc => ?_, fun c hc => ?_⟩
      · rcases List.mem_cons.1 hc with rfl | hc
        · exact h4
        · have := i2 c hc; omega
      · rcases List.mem_cons.1 hc with rfl | hc
        · exact h2
        · exact i3 c hc
      · rcases List.mem_cons.1 hc with rfl | hc
        · exact h3
        · exact i4 c hc
theorem sk_bd (x : Sk) (h : skOk x = true) (he : U64s x.e) (hc : U64s x.cl) (hg : BinsU x.gl) : ∃ (k L : Nat) (B : Bd), x = skOf k L B ∧ B.Ok k L := by
  simp only [skOk, Bool.and_eq_true, decide_eq_true_eq] at h
  obtain ⟨⟨⟨k1, k3⟩, l0, l1⟩, hb, hsm⟩ := h
  have hx := sk_eq hsm
  obtain ⟨L, hL⟩ : ∃ L : Nat, x.level = L := ⟨x.level.toNat, by omega⟩
  rcases (by omega : x.kind = 1 ∨ x.kind = 2 ∨ x.kind = 3) with hk | hk | hk
  · have hbt : bottomB x.kind = 4 := by rw [hk]; rfl
    rw [hbt, hL] at l1
    by_cases h0 : L = 0
    · subst h0
      have h1 : skCanon x = skNum 1 0 x.e := by unfold skCanon; rw [hk, hL]; rfl
      have h2 : exRight x.e = true := by unfold bodyRight at hb; rw [hk, hL] at hb; exact hb
      obtain ⟨u1, u2⟩ := exRight_up x.e h2
      exact ⟨1, 0, .num x.e, by rw [h1] at hx; exact hx, rfl, rfl, u1, u2, he⟩
    · have hn0 : ((L : Int) == 0) = false := by simp; omega
      have h1 : skCanon x = skReg 1 L x.hb x.hr := by
        unfold skCanon
        rw [hk, hL]
        show (if ((1 : Int) == 1) then if ((L : Int) == 0) then _ else _ else _) = _
        rw [hn0]
        rfl
      have h2 : (hlRight x.hb x.hr && (x.hb == 8 - (L : Int))) = true := by
        unfold bodyRight at hb
        rw [hk, hL] at hb
        have hb2 : (if ((L : Int) == 0) then exRight x.e else hlRight x.hb x.hr && (x.hb == 8 - (L : Int))) = true := hb
        rw [hn0] at hb2
        exact hb2
      rw [Bool.and_eq_true, beq_iff_eq] at h2
      obtain ⟨h3, h4⟩ := h2
      unfold hlRight at h3
      rw [Bool.and_eq_true, Bool.and_eq_true, beq_iff_eq] at h3
      obtain ⟨⟨h5, h6⟩, h7⟩ := h3
      obtain ⟨b, hbb⟩ : ∃ b : Nat, x.hb = b := ⟨x.hb.toNat, by omega⟩
      rw [hbb] at h4 h6 h7 h1
      have hsz : x.hr.size = 2 ^ b := by
        rw [Int.toNat_natCast] at h6
        have : ((2 : Int) ^ b) = ((2 ^ b : Nat) : Int) := by simp
        omega
      refine ⟨1, L, .reg b (strRegs x.hr), ?_, rfl, by omega, by omega, by omega, by rw [strRegs_len]; exact hsz, strRegs_le b x.hr h7⟩
      show x = skReg 1 L b (hlStr (strRegs x.hr))
      rw [strRegs_str]
      exact hx.trans h1
  · have hbt : bottomB x.kind = 3 := by rw [hk]; rfl
    rw [hbt, hL] at l1
    have h1 : skCanon x = skCnt 2 L x.cr x.cc x.cl := by unfold skCanon; rw [hk, hL]; rfl
    have h2 : (cmRight x.cr x.cc x.cl && (x.cr == 2) && (x.cc == 32 / 2 ^ L)) = true := by
      unfold bodyRight at hb
      rw [hk, hL, Int.toNat_natCast] at hb
      exact hb
    rw [Bool.and_eq_true, Bool.and_eq_true, beq_iff_eq, beq_iff_eq] at h2
    obtain ⟨⟨h3, h4⟩, h5⟩ := h2
    unfold cmRight at h3
    rw [Bool.and_eq_true, beq_iff_eq] at h3
    have h6 := h3.2
    obtain ⟨c, hcc⟩ : ∃ c : Nat, x.cc = c := ⟨32 / 2 ^ L, by rw [h5]; simp⟩
    have hc32 : c * 2 ^ L = 32 := by
      have hc2 : (c : Int) = ((32 / 2 ^ L : Nat) : Int) := by rw [← hcc, h5]; simp
      have hc3 : c = 32 / 2 ^ L := by omega
      rw [hc3]
      rcases (by omega : L = 0 ∨ L = 1 ∨ L = 2 ∨ L = 3) with rfl | rfl | rfl | rfl <;> rfl
    rw [h4, hcc] at h6 h1
    refine ⟨2, L, .cnt c x.cl, ?_, rfl, by omega, hc32, by omega, hc⟩
    exact hx.trans h1
  · have hbt : bottomB x.kind = 3 := by rw [hk]; rfl
    rw [hbt, hL] at l1
    have h1 : skCanon x = skBkt 3 L x.gf x.gl := by unfold skCanon; rw [hk, hL]; rfl
    have h2 : (hiRight x.gf x.gl && (x.gf == 3 - (L : Int))) = true := by
      unfold bodyRight at hb
      rw [hk, hL] at hb
      exact hb
    rw [Bool.and_eq_true, beq_iff_eq] at h2
    obtain ⟨h3, h4⟩ := h2
    unfold hiRight at h3
    rw [Bool.and_eq_true] at h3
    obtain ⟨u1, u2, u3, u4⟩ := hist_says x.gf x.gl (-1) h3.2
    obtain ⟨f, hf⟩ : ∃ f : Nat, x.gf = f := ⟨x.gf.toNat, by omega⟩
    rw [hf] at u4 h4 h1
    refine ⟨3, L, .bkt f x.gl, hx.trans h1, rfl, by omega, by omega, u1, u3, hg, u4⟩
end Go.Proofs.YtpnlmfilmbodfaaGreatDoor
