/- Package field: number, Get. -/
import Derived.Test.YtpnlmfilmbodfaaGreatDoorZY9
import Derived.Test.YtpnlmfilmbodfaaGreatDoorZF7
import Derived.BigRegion
namespace Go.Proofs.YtpnlmfilmbodfaaGreatDoor
open Go Go.RowKit Go.Shelf
attribute [local go_sem] Oper.semAt_some
def beW : Int → List UInt8 → Int
  | n, [] => n
  | n, b :: r => beW ((n * 256 + b.toNat) % 18446744073709551616) r
theorem beW_snoc : ∀ (l : List UInt8) (n : Int) (b : UInt8), beW n (l ++ [b]) = (beW n l * 256 + b.toNat) % 18446744073709551616
  | [], n, b => rfl
  | c :: l, n, b => by simp only [List.cons_append, beW]; exact beW_snoc l _ b
theorem beW_u64 : ∀ (l : List UInt8) (n : Int), U64 n → U64 (beW n l)
  | [], n, h => h
  | c :: l, n, h => by simp only [beW]; exact beW_u64 l _ ⟨by omega, by omega⟩
theorem beW_gen : ∀ (l : List UInt8) (n : Int), 0 ≤ n → (n + 1) * 256 ^ l.length ≤ 18446744073709551616 → beW n l = beGo n l
  | [], n, _, _ => rfl
  | b :: r, n, h, h2 => by
    have hb := UInt8.toNat_lt b
    have h3 : (0 : Int) < 256 ^ r.length := Int.pow_pos (by omega)
    rw [List.length_cons, Int.pow_succ, Int.mul_comm (256 ^ r.length), ← Int.mul_assoc] at h2
    have h4 : (n * 256 + b.toNat + 1) * 256 ^ r.length ≤ (n + 1) * 256 * 256 ^ r.length := Int.mul_le_mul_of_nonneg_right (by omega) (by omega)
    have h5 : (n * 256 + b.toNat + 1) * 1 ≤ (n * 256 + b.toNat + 1) * 256 ^ r.length := Int.mul_le_mul_of_nonneg_left (by omega) (by omega)
    simp only [beW, beGo]
    rw [Int.emod_eq_of_lt (by omega) (by omega)]
    exact beW_gen r _ (by omega) (by omega)
theorem beW_go (l : List UInt8) (h : l.length ≤ 8) : beW 0 l = beGo 0 l := by
  refine beW_gen l 0 (by omega) ?_
  have h3 : (256 : Nat) ^ l.length ≤ 256 ^ 8 := Nat.pow_le_pow_right (by omega) h
  have h4 := Int.ofNat_le.2 h3
  rw [Int.natCast_pow, Int.natCast_pow] at h4
  rw [Int.zero_add, Int.one_mul]
  exact Int.le_trans h4 (by decide)
theorem shl_or (n : Int) (b : Nat) (h : U64 n) (hb : b < 256) : bits .or .u64 ((n * 256) % 18446744073709551616) (b : Int) = (n * 256 + b) % 18446744073709551616 := by
  obtain ⟨h0, h1⟩ := h
  obtain ⟨m, rfl⟩ := Int.eq_ofNat_of_zero_le h0
  have e : ((m : Int) * 256) % 18446744073709551616 = ((m * 256 % 18446744073709551616 : Nat) : Int) := by omega
  rw [e, bits_or_u64_nat _ _ (by omega) (by omega)]
  have e2 : m * 256 % 18446744073709551616 = (m % 72057594037927936) <<< 8 := by rw [Nat.shiftLeft_eq]; omega
  rw [e2, ← Nat.shiftLeft_add_eq_or_of_lt (by omega : b < 2 ^ 8), Nat.shiftLeft_eq]
  omega
theorem extract_tail (s : ByteArray) : (s.extract 1 s.size).data.toList = s.data.toList.drop 1 := by
  rw [ByteArray.data_extract, Array.toList_extract, List.extract_eq_take_drop, List.take_of_length_le (by rw [List.length_drop, Array.length_toList]; exact Nat.le_refl _)]
theorem getN_str (s t : ByteArray) (f : UInt8) (hlt : 0 < s.size) (hf : s[0]'hlt = f) (ht : s.extract 1 s.size = t) : getN s.data.toList = (if t.size < behindN f.toNat then .more else
    if (putNums (rawN f.toNat (t.data.toList.take (behindN f.toNat)))).length = 1 + behindN f.toNat then .got (rawN f.toNat (t.data.toList.take (behindN f.toNat))) (t.data.toList.drop (behindN f.toNat)) else .bad) := by
  have h1 : s.data.toList = f :: t.data.toList := by
    rw [← ht, extract_tail]
    have h2 : 0 < s.data.toList.length := by rw [Array.length_toList]; exact hlt
    have h3 : s.data.toList[0]'h2 = f := by rw [← hf]; rfl
    generalize s.data.toList = q at h2 h3 ⊢
    subst h3
    cases q with
    | nil => exact absurd h2 (by simp)
    | cons a r => rfl
  rw [h1, getN]
  have h4 : t.data.toList.length = t.size := Array.length_toList
  rw [h4]
theorem wp_range_brk2 {α : Type} {P : Program} {g : Operand} {ps : Array Tmp} {assign body : Code} {Q : Exit → Act → World → Prop} {a : Act} {w : World} {id : Nat} (Bs s1 s2 : Nat) (v1 v2 : α → Value)
    {gf : Nat} {lb : Array Value} (hg : a.eval g = .func (.func gf) #[] lb) (eg : ∀ args w, (callFunc gf args).run P w = .ok (.enter gf args) w)
    {encs : α → Array Value} {xs : List α} {N : Nat} {w0 : World} (hseq : SeqStopsK Fence.wide 8 P gf lb encs (KB Bs) (fun ys => ys = xs) (fun pre => pre <+: xs) N w0)
    (hBs : Bs < w.heap.size) (hb0 : Below w0.heap.size w0 w) (hps : ∀ x, (encs x).size = ps.size)
    (I Ib : List α → World → Prop) (hI : OwnFrom w.heap.size I) (hIb : OwnFrom w.heap.size Ib) (h0 : I [] w)
    (hassign : ∀ (l : Nat) (pre : List α) (x : α) (W : World) (K : Act → World → Prop), I pre W → (I pre W → K { tmps := (((ps.zip (encs x)).foldl (fun t (p, v) => t.setIfInBounds p v) a.tmps).setIfInBounds s1 (v1 x)).setIfInBounds s2 (v2 x), defers := [] } W) →
      assign.wpIn (Fence.wide.inRound l) 7 P (Exit.then K (fun _ _ _ => False)) { tmps := (ps.zip (encs x)).foldl (fun t (p, v) => t.setIfInBounds p v) a.tmps, defers := [] } W)
    (hbody : ∀ (l : Nat) (pre : List α) (x : α) (W : World), I pre W → pre.length < N → body.wpIn (Fence.wide.inRound l) 7 P (ownPostG w.heap.size (KB Bs) I (fun c pre W => c = .exit id ∧ Ib pre W) (pre ++ [x]) W) { tmps := (((ps.zip (encs x)).foldl (fun t (p, v) => t.setIfInBounds p v) a.tmps).setIfInBounds s1 (v1 x)).setIfInBounds s2 (v2 x), defers := [] } W)
    (hfin : ∀ (D : Nat) (W : World), w.heap.size ≤ D → (I xs W ∨ ∃ pre, pre <+: xs ∧ Ib pre W) → W.heap[D]? = some (.deferred (some [])) → Q .normal { a with defers := { target := .collected D, args := #[] } :: a.defers } W) :
    (Code.rangeFunc g ps assign body).wp P (Exit.inBlock id Q) a w :=
  wp_range_kb Bs _ hg eg hseq hBs hb0 hps I (fun c pre W => c = .exit id ∧ Ib pre W) hI (fun _ => (ownFrom_pure _ _).and hIb) h0 hassign hbody (fun D W hD hi hK => hfin D W hD (.inl hi) hK)
    (fun D c pre W hD hp hi hK => by obtain ⟨rfl, hi⟩ := hi; exact wp_exit (by show (if id = id then Q .normal _ _ else Q (.exit id) _ _); rw [if_pos rfl]; exact hfin D W hD (.inr ⟨pre, hp, hi⟩) hK))
theorem octs_snd (s : ByteArray) : (octs s).map (·.2) = s.data.toList := by
  apply List.ext_getElem?
  intro i
  by_cases hi : i < s.size
  · simp [octs, hi]
  · simp [octs, hi]
theorem octs_done (t : ByteArray) (k : Nat) (hk : k ≤ t.size) (h : ∀ p ∈ octs t, p.1 ≠ k) : (octs t).map (·.2) = t.data.toList.take k := by
  have h1 : ¬ k < t.size := fun hlt => h _ (List.mem_of_getElem? (octs_at t k hlt)) rfl
  rw [octs_snd, List.take_of_length_le (by rw [Array.length_toList]; show t.size ≤ k; omega)]
theorem octs_stop (t : ByteArray) (k : Nat) (pr : List (Nat × UInt8)) (x : Nat × UInt8) (h : pr ++ [x] <+: octs t) (hx : x.1 = k) : pr.map (·.2) = t.data.toList.take k := by
  have h1 : (octs t)[pr.length]? = some x := by
    obtain ⟨r, hr⟩ := h
    rw [← hr, List.append_assoc]; simp
  have h2 : pr.length < t.size := by have := (List.getElem?_eq_some_iff.1 h1).1; rwa [octs_len] at this
  rw [octs_at t _ h2] at h1
  have h3 : pr.length = k := by rw [← hx, ← Option.some.inj h1]
  obtain ⟨r, hr⟩ := h
  have h4 : pr = (octs t).take k := by rw [← hr, ← h3, List.append_assoc, List.take_left]
  rw [h4, List.map_take, octs_snd]
structure NumIn (b k D : Nat) (s : ByteArray) (n : Int) (fm ff cm cc : Addr) (w W : World) : Prop where
  size : W.heap[w.heap.size]? = some (.cells #[.int .i64 (k : Int)] 3 (0, 0))
  num : W.heap[w.heap.size + 1]? = some (.cells #[.int .u64 n] 43 (0, 0))
  str : W.heap[b]? = some (.cells #[.string s] 308 (0, 0))
  ge : GE fm ff cm cc W
  dfr : W.heap[D]? = some (.deferred (some []))
  below : Below w.heap.size w W
theorem NumIn.go {b k D : Nat} {s : ByteArray} {n : Int} {fm ff cm cc : Addr} {w W W' : World} (h : NumIn b k D s n fm ff cm cc w W) (hb : Below W.heap.size W W') : NumIn b k D s n fm ff cm cc w W' :=
  ⟨known hb (Nat.le_refl _) h.size, known hb (Nat.le_refl _) h.num, known hb (Nat.le_refl _) h.str, h.ge.below hb, known hb (Nat.le_refl _) h.dfr, h.below.trans (hb.mono h.below.size)⟩
theorem NumIn.store {b k D : Nat} {s : ByteArray} {n : Int} {fm ff cm cc : Addr} {w W : World} (h : NumIn b k D s n fm ff cm cc w W) (hE : GE fm ff cm cc w) (hbl : b < w.heap.size) (m : Int) : NumIn b k D s m fm ff cm cc w (W.setCell ⟨w.heap.size + 1, 0, none⟩ (.int .u64 m)) := by
  have hb := h.below.setCell (p := ⟨w.heap.size + 1, 0, none⟩) (Nat.le_succ _) (.int .u64 m)
  have hD : D ≠ w.heap.size + 1 := fun e => by have h1 := h.dfr; rw [e, h.num] at h1; cases h1
  exact ⟨(Below.heap_setCell _ _ _ _ (by show w.heap.size ≠ w.heap.size + 1; omega)).trans h.size, one_setCell h.num, (Below.heap_setCell _ _ _ _ (by show b ≠ w.heap.size + 1; omega)).trans h.str, hE.below hb, (Below.heap_setCell _ _ _ _ (by show D ≠ w.heap.size + 1; exact hD)).trans h.dfr, hb⟩
theorem Below.set_both {n b : Nat} {w V : World} (h : Below n w V) (v : Value) : Below n (w.setCell ⟨b, 0, none⟩ v) (V.setCell ⟨b, 0, none⟩ v) := by
  refine ⟨h.os, h.tape, h.output, by simpa using h.size, fun k hk => ?_⟩
  have h1 := h.block k hk
  simp only [World.setCell, Array.getElem?_modify, h1]
theorem extract_drop (s t : ByteArray) (k : Nat) (ht : s.extract 1 s.size = t) : s.extract (1 + k) s.size = ⟨(t.data.toList.drop k).toArray⟩ := by
  have h2 : (s.extract (1 + k) s.size).data.toList = t.data.toList.drop k := by
    rw [← ht, extract_tail, List.drop_drop, ByteArray.data_extract, Array.toList_extract, List.extract_eq_take_drop, List.take_of_length_le (by rw [List.length_drop, Array.length_toList]; exact Nat.le_refl _)]
  rw [← h2, Array.toArray_toList]
theorem strOfNums_size (l : List Int) : (strOfNums l).size = l.length := by
  unfold strOfNums
  show (l.map _).toArray.size = _
  rw [List.size_toArray, List.length_map]
set_option maxRecDepth 100000 in
set_option maxHeartbeats 4000000 in
theorem number_any (b : Nat) (s : ByteArray) (fm ff cm cc : Addr) (w : World) (hX : w.heap[b]? = some (.cells #[.string s] 308 (0, 0))) (hl : s.size < 4294967281) (hE : GE fm ff cm cc w) :
    Calls Tryz.prog 219 #[.pointer (some ⟨b, 0, none⟩)] w fun e w' => match getN s.data.toList with
      | .got n r => e = .returned (.tuple #[.int .u64 n, .nilIface]) ∧ Below w.heap.size (w.setCell ⟨b, 0, none⟩ (.string ⟨r.toArray⟩)) w'
      | .more => e = .returned (.tuple #[.int .u64 0, errV fm]) ∧ Below w.heap.size w w'
      | .bad => e = .returned (.tuple #[.int .u64 0, errV ff]) ∧ Below w.heap.size w w' := by
  have c0 : w.cell? ⟨b, 0, none⟩ = some (.string s) := cCc hX 0
  have f0 : w.frozen? ⟨b, 0, none⟩ = false := cFz hX 0
  have g0 := hE.efm
  have g1 := hE.eff
  have HE := Lib.hid hE
  have HX := Lib.hid hX
  clear hE hX
  refine calls_marks Tryz.func219 rfl ?_
  simp only [Tryz.ntmps219, List.size_toArray, List.length_cons, List.length_nil, Nat.reduceAdd, Nat.reduceSub, Array.replicate_succ, Array.replicate_zero, List.push_toArray, List.append_toArray, List.nil_append, List.cons_append]
  by_cases hs0 : s.size = 0
  · have h1 : s.toList.isEmpty = true := by rw [toList_isEmpty, hs0]; rfl
    have h2 : getN s.data.toList = .more := by
      have : s.data.toList = [] := List.eq_nil_of_length_eq_zero (by rw [Array.length_toList]; exact hs0)
      rw [this]; rfl
    rw [h2]
    go_wp2_with fail
    go_step3
    go_wp2_with fail
    go_quiet (fail)
    go_wp2_with fail
    rw [Exit.noGoto_ret]
    refine marks_ret0 (v := .tuple #[.int .u64 0, errV fm]) ?_ rfl ⟨rfl, bDr (Below.refl _ _) _⟩
    simp [results, Tryz.f219, go_sem]
  · have h1 : s.toList.isEmpty = false := by rw [toList_isEmpty]; simp [hs0]
    have hlt : 0 < s.size := by omega
    obtain ⟨f, hf⟩ : ∃ f : UInt8, s[0]'hlt = f := ⟨_, rfl⟩
    obtain ⟨t, ht⟩ : ∃ t : ByteArray, s.extract 1 s.size = t := ⟨_, rfl⟩
    have hG := getN_str s t f hlt hf ht
    have htz : t.size = s.size - 1 := by rw [← ht]; simp
    have hf8 := UInt8.toNat_lt f
    have hb := behind_any f.toNat w hf8
    have hk8 : behindN f.toNat ≤ 8 := by unfold behindN; repeat' split
                                         all_goals omega
    obtain ⟨k, hk⟩ : ∃ k, behindN f.toNat = k := ⟨_, rfl⟩
    rw [hk] at hb hk8 hG
    have HG := Lib.hid hG
    have HK := Lib.hid hk
    obtain ⟨W1, hW1, hX1, hB1, hs1⟩ := boxes1 w #[.int .i64 (k : Int)] 3
    have c1 : W1.cell? ⟨w.heap.size, 0, none⟩ = some (.int .i64 k) := cCc hX1 0
    have c0' : W1.cell? ⟨b, 0, none⟩ = some (.string s) := cCc (known hB1 (Nat.le_refl _) HX.out) 0
    have g0' : W1.cell? ⟨3, 0, none⟩ = some (errV fm) := (HE.out.below hB1).efm
    clear hk hG
    go_wp2_with fail
    go_step3
    go_wp2_with (go_at_call 240; refine hb.mono ?_; rintro e w1 ⟨rfl, h9⟩; obtain rfl : w = w1 := h9.symm)
    go_quiet (fail)
    by_cases hsz : (s.size : Int) - 1 < k
    · have hG : getN s.data.toList = .more := by rw [HG.out, if_pos (by omega)]
      have HG2 := Lib.hid hG
      clear hG
      go_wp2_with fail
      go_quiet (fail)
      go_wp2_with fail
      rw [Exit.noGoto_ret]
      refine marks_ret0 (v := .tuple #[.int .u64 0, errV fm]) ?_ rfl (by rw [HG2.out]; exact ⟨rfl, bDr (bDr hB1 _) _⟩)
      simp [results, Tryz.f219, go_sem]
    · obtain ⟨W2, hW2, hX2, hB2, hs2⟩ := boxes1 (W1.drewN nq) #[.int .u64 0] 43
      have hz1 : (W1.drewN nq).heap.size = w.heap.size + 1 := hs1
      rw [hz1] at hX2 hB2 hs2
      have hX21 : W2.heap[w.heap.size]? = some (.cells #[.int .i64 (k : Int)] 3 (0, 0)) := (hB2.block _ (by omega)).trans hX1
      have hX20 : W2.heap[b]? = some (.cells #[.string s] 308 (0, 0)) := (hB2.mono (Nat.le_succ _)).block b (by have := (Array.getElem?_eq_some_iff.1 HX.out).1; omega) |>.trans (show W1.heap[b]? = _ from known hB1 (Nat.le_refl _) HX.out)
      have e0 : W2.cell? ⟨w.heap.size + 1, 0, none⟩ = some (.int .u64 0) := cCc hX2 0
      have e1 : W2.frozen? ⟨w.heap.size + 1, 0, none⟩ = false := cFz hX2 0
      obtain ⟨V2, hV2, hY2, hYk⟩ : ∃ V, W2.setCell ⟨w.heap.size + 1, 0, none⟩ (.int .u64 0) = V ∧ Boxed V (w.heap.size + 1) 43 (.int .u64 0) ∧ ∀ j, j ≠ w.heap.size + 1 → V.heap[j]? = W2.heap[j]? :=
        ⟨_, rfl, (show Boxed W2 (w.heap.size + 1) 43 (.int .u64 0) from hX2).set _, fun j hj => Below.heap_setCell _ _ _ _ hj⟩
      have hV2z : V2.heap.size = w.heap.size + 2 := by rw [← hV2]; simp; omega
      have hblt : b < w.heap.size := (Array.getElem?_eq_some_iff.1 HX.out).1
      have hY1 : V2.heap[w.heap.size]? = some (.cells #[.int .i64 (k : Int)] 3 (0, 0)) := (hYk _ (by omega)).trans hX21
      have hY0 : V2.heap[b]? = some (.cells #[.string s] 308 (0, 0)) := (hYk _ (by omega)).trans hX20
      have d0 : V2.cell? ⟨b, 0, none⟩ = some (.string s) := cCc hY0 0
      obtain ⟨W3, hW3, hX3, hB3, hs3⟩ := boxes1 V2 #[.string t] 9
      have HW3 := Lib.hid hW3
      clear hW3
      go_wp2_with fail
      apply wp_label
      go_wp2_with (go_at_call 241; refine (octets_any _ _).mono ?_; rintro e w2 ⟨rfl, rfl⟩; rw [HW3.out])
      rw [hV2z] at hX3 hB3 hs3
      have hX31 : W3.heap[w.heap.size]? = some (.cells #[.int .i64 (k : Int)] 3 (0, 0)) := (hB3.block _ (by omega)).trans hY1
      have hX30 : W3.heap[b]? = some (.cells #[.string s] 308 (0, 0)) := (hB3.block _ (by omega)).trans hY0
      have hX32 : Boxed W3 (w.heap.size + 1) 43 (.int .u64 0) := (hB3.block _ (by omega)).trans hY2
      have hBw : Below w.heap.size w W3 := ((hB1.trans (bDr (Below.refl _ _) nq)).trans ((hB2.mono (by omega)).trans (Below.trans (by rw [← hV2]; exact (Below.refl _ W2).setCell (p := ⟨w.heap.size + 1, 0, none⟩) (Nat.le_succ _) _) (hB3.mono (by omega)))))
      have hseq := octets_seq (w.heap.size + 2) t (by omega) W3 hX3
      clear hX1 hX2 hX21 hX20 hY0 hY1 hY2 hYk d0 e0 e1 c1 c0' g0' hW1 hW2 hV2 HW3 hB3 hB2 hB1 hX3
      refine wp_range_brk2 (w.heap.size + 2) 7 8 (fun x : Nat × UInt8 => .int .i64 x.1) (fun x : Nat × UInt8 => .int .u8 x.2.toNat) (gf := 249) (lb := #[.pointer (some ⟨w.heap.size + 2, 0, none⟩)]) rfl (enters_of Tryz.func249 (by kernel_rfl) rfl)
        hseq (by omega) (Below.refl _ _) (fun _ => rfl)
        (fun pre W => W.heap[w.heap.size]? = some (.cells #[.int .i64 (k : Int)] 3 (0, 0)) ∧ Boxed W (w.heap.size + 1) 43 (.int .u64 (beW 0 (pre.map (·.2)))) ∧ (∀ p ∈ pre, p.1 ≠ k) ∧ Below w.heap.size w W)
        (fun pre W => W.heap[w.heap.size]? = some (.cells #[.int .i64 (k : Int)] 3 (0, 0)) ∧ (∃ pr x, pre = pr ++ [x] ∧ x.1 = k ∧ Boxed W (w.heap.size + 1) 43 (.int .u64 (beW 0 (pr.map (·.2))))) ∧ Below w.heap.size w W)
        ((ownCells _ _ (fun _ => #[.int .i64 (k : Int)]) _).and ((ownBox _ _ _ (fun pre : List (Nat × UInt8) => .int .u64 (beW 0 (pre.map (·.2))))).and ((ownFrom_pure _ _).and (ownFrom_below (Nat.le_refl _) hBw.size))))
        ((ownCells _ _ (fun _ => #[.int .i64 (k : Int)]) _).and (OwnFrom.and (fun s X Y row hs hg hr => by obtain ⟨pr, x, h1, h2, h3⟩ := hs; exact ⟨pr, x, h1, h2, ownBox _ _ _ (fun _ => .int .u64 (beW 0 (pr.map (·.2)))) s X Y row h3 hg hr⟩) (ownFrom_below (Nat.le_refl _) hBw.size)))
        ⟨hX31, hX32, (fun _ h => by cases h), hBw⟩ ?assign ?body ?fin
      case assign =>
        rintro l pre x W K hI hK
        simp only [List.zip_toArray, List.zip_cons_cons, List.zip_nil_right, List.size_toArray, List.foldl_toArray', List.foldl_cons, List.foldl_nil, List.setIfInBounds_toArray, List.set_cons_succ, List.set_cons_zero] at hK ⊢
        gi_wp2
        exact hI
      case body =>
        rintro l pre x W ⟨hx1, hx2, hne, hB⟩ hlt
        simp only [List.zip_toArray, List.zip_cons_cons, List.zip_nil_right, List.size_toArray, List.foldl_toArray', List.foldl_cons, List.foldl_nil, List.setIfInBounds_toArray, List.set_cons_succ, List.set_cons_zero]
        have c0 : W.cell? ⟨w.heap.size, 0, none⟩ = some (.int .i64 k) := cCc hx1 0
        have c1 := hx2.cell
        have c2 := hx2.frozen
        obtain ⟨n, hn⟩ : ∃ n, beW 0 (pre.map (·.2)) = n := ⟨_, rfl⟩
        have hun : U64 n := by rw [← hn]; exact beW_u64 _ 0 ⟨by omega, by omega⟩
        rw [hn] at c1
        have HN := Lib.hid hn
        have HNE := Lib.hid hne
        have HX1 := Lib.hid hx1
        have HX2 := Lib.hid hx2
        have HSO := Lib.hid (shl_or n x.2.toNat hun (UInt8.toNat_lt _))
        have hx8 := UInt8.toNat_lt x.2
        obtain ⟨hn0, hn1⟩ := hun
        clear hn hne hx1 hx2
        by_cases hxk : (x.1 : Int) = k
        · gi_wp2_with fail
          exact ⟨KeepsFrom.refl _ _, rfl, HX1.out, ⟨pre, x, rfl, by omega, HX2.out⟩, hB⟩
        · gi_wp2_with fail
          refine ⟨(KeepsOthers.setCell _ _ _).from _, fun o ho => (Below.heap_setCell _ _ _ _ (by show w.heap.size + 2 ≠ w.heap.size + 1; omega)).trans ho, (Below.heap_setCell _ _ _ _ (by show w.heap.size ≠ w.heap.size + 1; omega)).trans HX1.out, ?_, ?_, hB.setCell (p := ⟨w.heap.size + 1, 0, none⟩) (Nat.le_succ _) _⟩
          · rw [IntKind.wrap_u64, HSO.out, List.map_append, List.map_singleton, beW_snoc, HN.out]
            exact HX2.out.set _
          · intro p hp
            rcases List.mem_append.1 hp with hp | hp
            · exact HNE.out p hp
            · rw [List.mem_singleton.1 hp]; omega
      case fin =>
        intro D W hD hI hK
        obtain ⟨ts, hts⟩ : ∃ ts, t.data.toList.take k = ts := ⟨_, rfl⟩
        have htl : ts.length = k := by rw [← hts, List.length_take, Array.length_toList]; show min k t.size = k; omega
        have hI2 : NumIn b k D s (beGo 0 ts) fm ff cm cc w W := by
          have hv : beW 0 ts = beGo 0 ts := beW_go ts (by omega)
          rcases hI with ⟨h1, h2, h3, h4⟩ | ⟨pre, hp, h1, ⟨pr, x, rfl, hx, h2⟩, h4⟩
          · rw [octs_done t k (by omega) h3, hts, hv] at h2
            exact ⟨h1, h2, known h4 (Nat.le_refl _) HX.out, HE.out.below h4, hK, h4⟩
          · rw [octs_stop t k pr x hp hx, hts, hv] at h2
            exact ⟨h1, h2, known h4 (Nat.le_refl _) HX.out, HE.out.below h4, hK, h4⟩
        have hDs : w.heap.size ≤ D := Nat.le_trans hBw.size hD
        have HDs := Lib.hid hDs
        clear hI hK hX31 hX30 hX32 hBw hs1 hs2 hz1 hs3 hV2z hseq
        have HG3 := Lib.hid (HG.out.trans (if_neg (by omega)))
        rw [hts] at HG3
        have hbg := beGo_le ts 0 (by omega)
        rw [htl] at hbg
        obtain ⟨v, hv⟩ : ∃ v, beGo 0 ts = v := ⟨_, rfl⟩
        rw [hv] at hI2 hbg
        have HU := Lib.hid (rawN_u64 f ts (by rw [htl, HK.out]))
        have HI := Lib.hid hI2
        have c0 : W.cell? ⟨w.heap.size + 1, 0, none⟩ = some (.int .u64 v) := cCc hI2.num 0
        have c1 : W.frozen? ⟨w.heap.size + 1, 0, none⟩ = false := cFz hI2.num 0
        clear hI2 HG
        obtain ⟨nn, hnn⟩ : ∃ nn, rawN f.toNat ts = nn := ⟨_, rfl⟩
        rw [hnn] at HG3 HU
        have HNN := Lib.hid hnn
        by_cases f0 : f.toNat ≤ 240
        · have e9 : (f.toNat : Int) = nn := by rw [← hnn]; unfold rawN; rw [if_pos f0]
          have hI0 : Hid (NumIn b k D s nn fm ff cm cc w (W.setCell ⟨w.heap.size + 1, 0, none⟩ (.int .u64 nn))) := HI.out.store HE.out hblt _
          obtain ⟨Wx, hWx⟩ : ∃ Wx, W.setCell ⟨w.heap.size + 1, 0, none⟩ (.int .u64 nn) = Wx := ⟨_, rfl⟩
          rw [hWx] at hI0
          clear hnn
          go_wp2_with fail
          let Inv : World → Prop := NumIn b k D s nn fm ff cm cc w
          have hgo : ∀ W W', Inv W → Below W.heap.size W W' → Inv W' := fun W W' h hb => NumIn.go h hb
          have q0 : ∀ X : WIn Inv, X.world.cell? ⟨w.heap.size, 0, none⟩ = some (.int .i64 (k : Int)) := fun X => cCc (NumIn.size X.ok) 0
          have q1 : ∀ X : WIn Inv, X.world.cell? ⟨w.heap.size + 1, 0, none⟩ = some (.int .u64 nn) := fun X => cCc (NumIn.num X.ok) 0
          have q2 : ∀ X : WIn Inv, X.world.cell? ⟨b, 0, none⟩ = some (.string s) := fun X => cCc (NumIn.str X.ok) 0
          have q3 : ∀ X : WIn Inv, X.world.frozen? ⟨b, 0, none⟩ = false := fun X => cFz (NumIn.str X.ok) 0
          have q4 : ∀ X : WIn Inv, X.world.cell? ⟨4, 0, none⟩ = some (errV ff) := fun X => (NumIn.ge X.ok).eff
          have HQ : Hid (∀ X : WIn Inv, NumIn b k D s nn fm ff cm cc w X.world) := fun X => X.ok
          have K1 : Hid (∀ X : WIn Inv, Calls Tryz.prog 149 #[.int .u64 nn] X.world fun e w' => e = .returned (.string (strOfNums (putNums nn))) ∧ ∃ Y : WIn Inv, w' = Y.world) := fun X => calls_class_below hgo (field_Put_any nn X.world HU.out)
          obtain ⟨ps, hps⟩ : ∃ ps, strOfNums (putNums nn) = ps := ⟨_, rfl⟩
          have hpz : ps.size = (putNums nn).length := by rw [← hps, strOfNums_size]
          rw [hps] at K1
          obtain ⟨m, hm⟩ : ∃ m, (putNums nn).length = m := ⟨_, rfl⟩
          rw [hm] at hpz HG3
          have hI1 : Hid (Inv Wx.drew) := hI0.out.go (Below.refl _ _).drew
          have hne : Nonempty (WIn Inv) := ⟨⟨_, hI1.out⟩⟩
          clear hps hm hgo HI c0 c1
          clear_value Inv
          refine wp_region_class Inv (by kernel_rfl) (by kernel_rfl) hI1.out ?_
          repeat (first | go_big_quiet_step ((go_at_call 149; with_reducible exact K1.out _)) | quiet_step ((go_at_call 149; with_reducible exact K1.out _)))
          refine wpQuiet_nil ?_
          rintro _ ⟨X, rfl⟩
          have HX9 := Lib.hid (HQ.out X)
          obtain ⟨V, hV⟩ : ∃ V, X.world = V := ⟨_, rfl⟩
          have r0 : V.cell? ⟨w.heap.size, 0, none⟩ = some (.int .i64 (k : Int)) := by rw [← hV]; exact q0 X
          have r2 : V.cell? ⟨b, 0, none⟩ = some (.string s) := by rw [← hV]; exact q2 X
          have r3 : V.frozen? ⟨b, 0, none⟩ = false := by rw [← hV]; exact q3 X
          have r1 : V.cell? ⟨w.heap.size + 1, 0, none⟩ = some (.int .u64 nn) := by rw [← hV]; exact q1 X
          have r4 : V.cell? ⟨4, 0, none⟩ = some (errV ff) := by rw [← hV]; exact q4 X
          rw [hV] at HX9 ⊢
          clear q0 q1 q2 q3 q4 HQ K1 hI0 hI1 hne hWx hV X
          by_cases hm9 : m = 1 + k
          · have HG9 := Lib.hid (HG3.out.trans (if_pos hm9))
            have hz9 : ((m : Int) != 1 + k) = false := by rw [hm9]; simp
            clear hpz hm9
            go_wp2_with fail
            have b2 : V.cell? ⟨w.heap.size + 1, 0, none⟩ = some (.int .u64 nn) := cCc HX9.out.num 0
            clear r1 r4
            go_region
            have HSL := Lib.hid (extract_drop s t k ht)
            go_wp2_with fail
            rw [Exit.noGoto_ret, HSL.out]
            have hK9 : (V.setCell ⟨b, 0, none⟩ (.string ⟨(t.data.toList.drop k).toArray⟩)).drew.heap[D]? = some (.deferred (some [])) := (Below.heap_setCell _ _ _ _ (by show D ≠ b; omega)).trans HX9.out.dfr
            refine marks_ret1 (v := .tuple #[.int .u64 nn, .nilIface]) hK9 ?_ (by rw [HG9.out]; exact ⟨rfl, bPutD ((Below.set_both HX9.out.below _).drew) HDs.out hK9⟩)
            simp [results, Tryz.f219, go_sem]
          · have HG9 := Lib.hid (HG3.out.trans (if_neg hm9))
            have hz9 : ((m : Int) != 1 + k) = true := by rw [bne_iff_ne]; omega
            clear hpz hm9
            go_wp2_with fail
            go_quiet (fail)
            go_wp2_with fail
            rw [Exit.noGoto_ret]
            have hK9 : (V.drewN nq).heap[D]? = some (.deferred (some [])) := HX9.out.dfr
            refine marks_ret1 (v := .tuple #[.int .u64 0, errV ff]) hK9 ?_ (by rw [HG9.out]; exact ⟨rfl, bPutD (bDr HX9.out.below _) HDs.out hK9⟩)
            simp [results, Tryz.f219, go_sem]
        by_cases f1 : f.toNat ≤ 248
        · have hk1 : k = 1 := by rw [← HK.out]; unfold behindN; rw [if_neg f0, if_pos f1]
          have e9 : v + (240 + 256 * ((f.toNat : Int) - 241)) = nn := by rw [← hnn]; unfold rawN; rw [if_neg f0, if_pos f1, hv]
          have hv0 : 0 ≤ v := hbg.1
          have hv1 : v ≤ 255 := by have := hbg.2; rw [hk1] at this; omega
          have hI0 : Hid (NumIn b k D s nn fm ff cm cc w (W.setCell ⟨w.heap.size + 1, 0, none⟩ (.int .u64 nn))) := HI.out.store HE.out hblt _
          obtain ⟨Wx, hWx⟩ : ∃ Wx, W.setCell ⟨w.heap.size + 1, 0, none⟩ (.int .u64 nn) = Wx := ⟨_, rfl⟩
          rw [hWx] at hI0
          clear hnn hbg hk1
          go_wp2_with fail
          let Inv : World → Prop := NumIn b k D s nn fm ff cm cc w
          have hgo : ∀ W W', Inv W → Below W.heap.size W W' → Inv W' := fun W W' h hb => NumIn.go h hb
          have q0 : ∀ X : WIn Inv, X.world.cell? ⟨w.heap.size, 0, none⟩ = some (.int .i64 (k : Int)) := fun X => cCc (NumIn.size X.ok) 0
          have q1 : ∀ X : WIn Inv, X.world.cell? ⟨w.heap.size + 1, 0, none⟩ = some (.int .u64 nn) := fun X => cCc (NumIn.num X.ok) 0
          have q2 : ∀ X : WIn Inv, X.world.cell? ⟨b, 0, none⟩ = some (.string s) := fun X => cCc (NumIn.str X.ok) 0
          have q3 : ∀ X : WIn Inv, X.world.frozen? ⟨b, 0, none⟩ = false := fun X => cFz (NumIn.str X.ok) 0
          have q4 : ∀ X : WIn Inv, X.world.cell? ⟨4, 0, none⟩ = some (errV ff) := fun X => (NumIn.ge X.ok).eff
          have HQ : Hid (∀ X : WIn Inv, NumIn b k D s nn fm ff cm cc w X.world) := fun X => X.ok
          have K1 : Hid (∀ X : WIn Inv, Calls Tryz.prog 149 #[.int .u64 nn] X.world fun e w' => e = .returned (.string (strOfNums (putNums nn))) ∧ ∃ Y : WIn Inv, w' = Y.world) := fun X => calls_class_below hgo (field_Put_any nn X.world HU.out)
          obtain ⟨ps, hps⟩ : ∃ ps, strOfNums (putNums nn) = ps := ⟨_, rfl⟩
          have hpz : ps.size = (putNums nn).length := by rw [← hps, strOfNums_size]
          rw [hps] at K1
          obtain ⟨m, hm⟩ : ∃ m, (putNums nn).length = m := ⟨_, rfl⟩
          rw [hm] at hpz HG3
          have hI1 : Hid (Inv Wx.drew) := hI0.out.go (Below.refl _ _).drew
          have hne : Nonempty (WIn Inv) := ⟨⟨_, hI1.out⟩⟩
          clear hps hm hgo HI c0 c1
          clear_value Inv
          refine wp_region_class Inv (by kernel_rfl) (by kernel_rfl) hI1.out ?_
          repeat (first | go_big_quiet_step ((go_at_call 149; with_reducible exact K1.out _)) | quiet_step ((go_at_call 149; with_reducible exact K1.out _)))
          refine wpQuiet_nil ?_
          rintro _ ⟨X, rfl⟩
          have HX9 := Lib.hid (HQ.out X)
          obtain ⟨V, hV⟩ : ∃ V, X.world = V := ⟨_, rfl⟩
          have r0 : V.cell? ⟨w.heap.size, 0, none⟩ = some (.int .i64 (k : Int)) := by rw [← hV]; exact q0 X
          have r2 : V.cell? ⟨b, 0, none⟩ = some (.string s) := by rw [← hV]; exact q2 X
          have r3 : V.frozen? ⟨b, 0, none⟩ = false := by rw [← hV]; exact q3 X
          have r1 : V.cell? ⟨w.heap.size + 1, 0, none⟩ = some (.int .u64 nn) := by rw [← hV]; exact q1 X
          have r4 : V.cell? ⟨4, 0, none⟩ = some (errV ff) := by rw [← hV]; exact q4 X
          rw [hV] at HX9 ⊢
          clear q0 q1 q2 q3 q4 HQ K1 hI0 hI1 hne hWx hV X
          by_cases hm9 : m = 1 + k
          · have HG9 := Lib.hid (HG3.out.trans (if_pos hm9))
            have hz9 : ((m : Int) != 1 + k) = false := by rw [hm9]; simp
            clear hpz hm9
            go_wp2_with fail
            have b2 : V.cell? ⟨w.heap.size + 1, 0, none⟩ = some (.int .u64 nn) := cCc HX9.out.num 0
            clear r1 r4
            go_region
            have HSL := Lib.hid (extract_drop s t k ht)
            go_wp2_with fail
            rw [Exit.noGoto_ret, HSL.out]
            have hK9 : (V.setCell ⟨b, 0, none⟩ (.string ⟨(t.data.toList.drop k).toArray⟩)).drew.heap[D]? = some (.deferred (some [])) := (Below.heap_setCell _ _ _ _ (by show D ≠ b; omega)).trans HX9.out.dfr
            refine marks_ret1 (v := .tuple #[.int .u64 nn, .nilIface]) hK9 ?_ (by rw [HG9.out]; exact ⟨rfl, bPutD ((Below.set_both HX9.out.below _).drew) HDs.out hK9⟩)
            simp [results, Tryz.f219, go_sem]
          · have HG9 := Lib.hid (HG3.out.trans (if_neg hm9))
            have hz9 : ((m : Int) != 1 + k) = true := by rw [bne_iff_ne]; omega
            clear hpz hm9
            go_wp2_with fail
            go_quiet (fail)
            go_wp2_with fail
            rw [Exit.noGoto_ret]
            have hK9 : (V.drewN nq).heap[D]? = some (.deferred (some [])) := HX9.out.dfr
            refine marks_ret1 (v := .tuple #[.int .u64 0, errV ff]) hK9 ?_ (by rw [HG9.out]; exact ⟨rfl, bPutD (bDr HX9.out.below _) HDs.out hK9⟩)
            simp [results, Tryz.f219, go_sem]
        by_cases f2 : f.toNat = 249
        · have hk1 : k = 2 := by rw [← HK.out]; unfold behindN; rw [if_neg f0, if_neg f1, if_pos f2]
          have e9 : v + 2288 = nn := by rw [← hnn]; unfold rawN; rw [if_neg f0, if_neg f1, if_pos f2, hv]
          have hv0 : 0 ≤ v := hbg.1
          have hv1 : v ≤ 65535 := by have := hbg.2; rw [hk1] at this; omega
          have hq1 : decide ((f.toNat : Int) ≤ 240) = false := by simp; omega
          have hq2 : decide ((f.toNat : Int) ≤ 248) = false := by simp; omega
          have hq3 : ((f.toNat : Int) == 249) = true := by simp; omega
          have hI0 : Hid (NumIn b k D s nn fm ff cm cc w (W.setCell ⟨w.heap.size + 1, 0, none⟩ (.int .u64 nn))) := HI.out.store HE.out hblt _
          obtain ⟨Wx, hWx⟩ : ∃ Wx, W.setCell ⟨w.heap.size + 1, 0, none⟩ (.int .u64 nn) = Wx := ⟨_, rfl⟩
          rw [hWx] at hI0
          clear hnn hbg hk1
          go_wp2_with fail
          let Inv : World → Prop := NumIn b k D s nn fm ff cm cc w
          have hgo : ∀ W W', Inv W → Below W.heap.size W W' → Inv W' := fun W W' h hb => NumIn.go h hb
          have q0 : ∀ X : WIn Inv, X.world.cell? ⟨w.heap.size, 0, none⟩ = some (.int .i64 (k : Int)) := fun X => cCc (NumIn.size X.ok) 0
          have q1 : ∀ X : WIn Inv, X.world.cell? ⟨w.heap.size + 1, 0, none⟩ = some (.int .u64 nn) := fun X => cCc (NumIn.num X.ok) 0
          have q2 : ∀ X : WIn Inv, X.world.cell? ⟨b, 0, none⟩ = some (.string s) := fun X => cCc (NumIn.str X.ok) 0
          have q3 : ∀ X : WIn Inv, X.world.frozen? ⟨b, 0, none⟩ = false := fun X => cFz (NumIn.str X.ok) 0
          have q4 : ∀ X : WIn Inv, X.world.cell? ⟨4, 0, none⟩ = some (errV ff) := fun X => (NumIn.ge X.ok).eff
          have HQ : Hid (∀ X : WIn Inv, NumIn b k D s nn fm ff cm cc w X.world) := fun X => X.ok
          have K1 : Hid (∀ X : WIn Inv, Calls Tryz.prog 149 #[.int .u64 nn] X.world fun e w' => e = .returned (.string (strOfNums (putNums nn))) ∧ ∃ Y : WIn Inv, w' = Y.world) := fun X => calls_class_below hgo (field_Put_any nn X.world HU.out)
          obtain ⟨ps, hps⟩ : ∃ ps, strOfNums (putNums nn) = ps := ⟨_, rfl⟩
          have hpz : ps.size = (putNums nn).length := by rw [← hps, strOfNums_size]
          rw [hps] at K1
          obtain ⟨m, hm⟩ : ∃ m, (putNums nn).length = m := ⟨_, rfl⟩
          rw [hm] at hpz HG3
          have hI1 : Hid (Inv Wx.drew) := hI0.out.go (Below.refl _ _).drew
          have hne : Nonempty (WIn Inv) := ⟨⟨_, hI1.out⟩⟩
          clear hps hm hgo HI c0 c1
          clear_value Inv
          refine wp_region_class Inv (by kernel_rfl) (by kernel_rfl) hI1.out ?_
          repeat (first | go_big_quiet_step ((go_at_call 149; with_reducible exact K1.out _)) | quiet_step ((go_at_call 149; with_reducible exact K1.out _)))
          refine wpQuiet_nil ?_
          rintro _ ⟨X, rfl⟩
          have HX9 := Lib.hid (HQ.out X)
          obtain ⟨V, hV⟩ : ∃ V, X.world = V := ⟨_, rfl⟩
          have r0 : V.cell? ⟨w.heap.size, 0, none⟩ = some (.int .i64 (k : Int)) := by rw [← hV]; exact q0 X
          have r2 : V.cell? ⟨b, 0, none⟩ = some (.string s) := by rw [← hV]; exact q2 X
          have r3 : V.frozen? ⟨b, 0, none⟩ = false := by rw [← hV]; exact q3 X
          have r1 : V.cell? ⟨w.heap.size + 1, 0, none⟩ = some (.int .u64 nn) := by rw [← hV]; exact q1 X
          have r4 : V.cell? ⟨4, 0, none⟩ = some (errV ff) := by rw [← hV]; exact q4 X
          rw [hV] at HX9 ⊢
          clear q0 q1 q2 q3 q4 HQ K1 hI0 hI1 hne hWx hV X
          by_cases hm9 : m = 1 + k
          · have HG9 := Lib.hid (HG3.out.trans (if_pos hm9))
            have hz9 : ((m : Int) != 1 + k) = false := by rw [hm9]; simp
            clear hpz hm9
            go_wp2_with fail
            have b2 : V.cell? ⟨w.heap.size + 1, 0, none⟩ = some (.int .u64 nn) := cCc HX9.out.num 0
            clear r1 r4
            go_region
            have HSL := Lib.hid (extract_drop s t k ht)
            go_wp2_with fail
            rw [Exit.noGoto_ret, HSL.out]
            have hK9 : (V.setCell ⟨b, 0, none⟩ (.string ⟨(t.data.toList.drop k).toArray⟩)).drew.heap[D]? = some (.deferred (some [])) := (Below.heap_setCell _ _ _ _ (by show D ≠ b; omega)).trans HX9.out.dfr
            refine marks_ret1 (v := .tuple #[.int .u64 nn, .nilIface]) hK9 ?_ (by rw [HG9.out]; exact ⟨rfl, bPutD ((Below.set_both HX9.out.below _).drew) HDs.out hK9⟩)
            simp [results, Tryz.f219, go_sem]
          · have HG9 := Lib.hid (HG3.out.trans (if_neg hm9))
            have hz9 : ((m : Int) != 1 + k) = true := by rw [bne_iff_ne]; omega
            clear hpz hm9
            go_wp2_with fail
            go_quiet (fail)
            go_wp2_with fail
            rw [Exit.noGoto_ret]
            have hK9 : (V.drewN nq).heap[D]? = some (.deferred (some [])) := HX9.out.dfr
            refine marks_ret1 (v := .tuple #[.int .u64 0, errV ff]) hK9 ?_ (by rw [HG9.out]; exact ⟨rfl, bPutD (bDr HX9.out.below _) HDs.out hK9⟩)
            simp [results, Tryz.f219, go_sem]
        · have e9 : v = nn := by rw [← hnn]; unfold rawN; rw [if_neg f0, if_neg f1, if_neg f2, hv]
          have hq1 : decide ((f.toNat : Int) ≤ 240) = false := by simp; omega
          have hq2 : decide ((f.toNat : Int) ≤ 248) = false := by simp; omega
          have hq3 : ((f.toNat : Int) == 249) = false := by simp; omega
          rw [e9] at HI
          obtain ⟨Wx, hWx⟩ : ∃ Wx, W = Wx := ⟨_, rfl⟩
          have hI0 := HI
          rw [hWx] at hI0
          clear hnn hbg
          go_wp2_with fail
          let Inv : World → Prop := NumIn b k D s nn fm ff cm cc w
          have hgo : ∀ W W', Inv W → Below W.heap.size W W' → Inv W' := fun W W' h hb => NumIn.go h hb
          have q0 : ∀ X : WIn Inv, X.world.cell? ⟨w.heap.size, 0, none⟩ = some (.int .i64 (k : Int)) := fun X => cCc (NumIn.size X.ok) 0
          have q1 : ∀ X : WIn Inv, X.world.cell? ⟨w.heap.size + 1, 0, none⟩ = some (.int .u64 nn) := fun X => cCc (NumIn.num X.ok) 0
          have q2 : ∀ X : WIn Inv, X.world.cell? ⟨b, 0, none⟩ = some (.string s) := fun X => cCc (NumIn.str X.ok) 0
          have q3 : ∀ X : WIn Inv, X.world.frozen? ⟨b, 0, none⟩ = false := fun X => cFz (NumIn.str X.ok) 0
          have q4 : ∀ X : WIn Inv, X.world.cell? ⟨4, 0, none⟩ = some (errV ff) := fun X => (NumIn.ge X.ok).eff
          have HQ : Hid (∀ X : WIn Inv, NumIn b k D s nn fm ff cm cc w X.world) := fun X => X.ok
          have K1 : Hid (∀ X : WIn Inv, Calls Tryz.prog 149 #[.int .u64 nn] X.world fun e w' => e = .returned (.string (strOfNums (putNums nn))) ∧ ∃ Y : WIn Inv, w' = Y.world) := fun X => calls_class_below hgo (field_Put_any nn X.world HU.out)
          obtain ⟨ps, hps⟩ : ∃ ps, strOfNums (putNums nn) = ps := ⟨_, rfl⟩
          have hpz : ps.size = (putNums nn).length := by rw [← hps, strOfNums_size]
          rw [hps] at K1
          obtain ⟨m, hm⟩ : ∃ m, (putNums nn).length = m := ⟨_, rfl⟩
          rw [hm] at hpz HG3
          have hI1 : Hid (Inv Wx.drew) := hI0.out.go (Below.refl _ _).drew
          have hne : Nonempty (WIn Inv) := ⟨⟨_, hI1.out⟩⟩
          clear hps hm hgo HI c0 c1
          clear_value Inv
          refine wp_region_class Inv (by kernel_rfl) (by kernel_rfl) hI1.out ?_
          repeat (first | go_big_quiet_step ((go_at_call 149; with_reducible exact K1.out _)) | quiet_step ((go_at_call 149; with_reducible exact K1.out _)))
          refine wpQuiet_nil ?_
          rintro _ ⟨X, rfl⟩
          have HX9 := Lib.hid (HQ.out X)
          obtain ⟨V, hV⟩ : ∃ V, X.world = V := ⟨_, rfl⟩
          have r0 : V.cell? ⟨w.heap.size, 0, none⟩ = some (.int .i64 (k : Int)) := by rw [← hV]; exact q0 X
          have r2 : V.cell? ⟨b, 0, none⟩ = some (.string s) := by rw [← hV]; exact q2 X
          have r3 : V.frozen? ⟨b, 0, none⟩ = false := by rw [← hV]; exact q3 X
          have r1 : V.cell? ⟨w.heap.size + 1, 0, none⟩ = some (.int .u64 nn) := by rw [← hV]; exact q1 X
          have r4 : V.cell? ⟨4, 0, none⟩ = some (errV ff) := by rw [← hV]; exact q4 X
          rw [hV] at HX9 ⊢
          clear q0 q1 q2 q3 q4 HQ K1 hI0 hI1 hne hWx hV X
          by_cases hm9 : m = 1 + k
          · have HG9 := Lib.hid (HG3.out.trans (if_pos hm9))
            have hz9 : ((m : Int) != 1 + k) = false := by rw [hm9]; simp
            clear hpz hm9
            go_wp2_with fail
            have b2 : V.cell? ⟨w.heap.size + 1, 0, none⟩ = some (.int .u64 nn) := cCc HX9.out.num 0
            clear r1 r4
            go_region
            have HSL := Lib.hid (extract_drop s t k ht)
            go_wp2_with fail
            rw [Exit.noGoto_ret, HSL.out]
            have hK9 : (V.setCell ⟨b, 0, none⟩ (.string ⟨(t.data.toList.drop k).toArray⟩)).drew.heap[D]? = some (.deferred (some [])) := (Below.heap_setCell _ _ _ _ (by show D ≠ b; omega)).trans HX9.out.dfr
            refine marks_ret1 (v := .tuple #[.int .u64 nn, .nilIface]) hK9 ?_ (by rw [HG9.out]; exact ⟨rfl, bPutD ((Below.set_both HX9.out.below _).drew) HDs.out hK9⟩)
            simp [results, Tryz.f219, go_sem]
          · have HG9 := Lib.hid (HG3.out.trans (if_neg hm9))
            have hz9 : ((m : Int) != 1 + k) = true := by rw [bne_iff_ne]; omega
            clear hpz hm9
            go_wp2_with fail
            go_quiet (fail)
            go_wp2_with fail
            rw [Exit.noGoto_ret]
            have hK9 : (V.drewN nq).heap[D]? = some (.deferred (some [])) := HX9.out.dfr
            refine marks_ret1 (v := .tuple #[.int .u64 0, errV ff]) hK9 ?_ (by rw [HG9.out]; exact ⟨rfl, bPutD (bDr HX9.out.below _) HDs.out hK9⟩)
            simp [results, Tryz.f219, go_sem]
end Go.Proofs.YtpnlmfilmbodfaaGreatDoor
