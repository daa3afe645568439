/- Sketches at work as plain data: in whatever order they are merged. No sketch of items is meant: any right bodies. What a scope means, in plain data: the sketches that are merged; in parts. -/
import Derived.Test.YthbhmnakmhambaaGreatDoorZJ1
import Derived.Test.YthbhmnakmhambaaGreatDoorZJ3S1
namespace Go.Proofs.YthbhmnakmhambaaGreatDoor
open Go Go.RowKit
theorem same_form {k L : Nat} {x y : Bd} (hx : x.Ok k L) (hy : y.Ok k L) :
  (∃ l m, x = .num l ∧ y = .num m) ∨ (∃ b r s, x = .reg b r ∧ y = .reg b s) ∨ (∃ c l m, x = .cnt c l ∧ y = .cnt c m) ∨ (∃ f l m, x = .bkt f l ∧ y = .bkt f m) := by
 cases x with
 | num l =>
  cases y with
  | num m => exact .inl ⟨l, m, rfl, rfl⟩
  | reg b r => exact absurd hy.2.1 (by have := hx.2.1; omega)
  | cnt c m => exact absurd hy.1 (by have := hx.1; omega)
  | bkt f m => exact absurd hy.1 (by have := hx.1; omega)
 | reg b r =>
  cases y with
  | num m => exact absurd hx.2.1 (by have := hy.2.1; omega)
  | reg b' s =>
   obtain rfl : b = b' := by have := hx.2.2.2.1; have := hy.2.2.2.1; omega
   exact .inr (.inl ⟨b, r, s, rfl, rfl⟩)
  | cnt c m => exact absurd hy.1 (by have := hx.1; omega)
  | bkt f m => exact absurd hy.1 (by have := hx.1; omega)
 | cnt c l =>
  cases y with
  | num m => exact absurd hy.1 (by have := hx.1; omega)
  | reg b' s => exact absurd hy.1 (by have := hx.1; omega)
  | cnt c' m =>
   obtain rfl : c = c' := same_cols hx.2.2.1 hy.2.2.1
   exact .inr (.inr (.inl ⟨c, l, m, rfl, rfl⟩))
  | bkt f m => exact absurd hy.1 (by have := hx.1; omega)
 | bkt f l =>
  cases y with
  | num m => exact absurd hy.1 (by have := hx.1; omega)
  | reg b' s => exact absurd hy.1 (by have := hx.1; omega)
  | cnt c m => exact absurd hy.1 (by have := hx.1; omega)
  | bkt f' m =>
   obtain rfl : f = f' := by have := hx.2.2.1; have := hy.2.2.1; omega
   exact .inr (.inr (.inr ⟨f, l, m, rfl, rfl⟩))
theorem hlMax_assoc (r s t : List Nat) (h1 : r.length = s.length) (h2 : s.length = t.length) : hlMax (hlMax r s) t = hlMax r (hlMax s t) := by
 refine getD_ext _ _ (by simp only [hlMax_len]) (fun i hi => ?_)
 simp only [hlMax_len] at hi
 rw [hlMax_at _ _ _ (by rw [hlMax_len]; exact hi), hlMax_at _ _ _ hi, hlMax_at _ _ _ hi, hlMax_at _ _ _ (by omega)]
 omega
theorem upR_max2 (x y : Nat) : upR (max x y) = max (upR x) (upR y) := by
 unfold upR
 split <;> split <;> split <;> omega
theorem oneR_max2 (x y : Nat) : oneR (max x y) = max (oneR x) (oneR y) := by
 unfold oneR
 split <;> split <;> split <;> omega
theorem hlLow_max (b : Nat) (r s : List Nat) (hb : 1 ≤ b) (h1 : r.length = 2 ^ b) (h2 : s.length = 2 ^ b) : hlLow b (hlMax r s) = hlMax (hlLow b r) (hlLow b s) := by
 have e : 2 ^ b = 2 * 2 ^ (b - 1) := by rw [← Nat.pow_succ']; congr 1; omega
 refine getD_ext _ _ (by simp only [hlMax_len, hlLow_len]) (fun i hi => ?_)
 rw [hlLow_len] at hi
 rw [low_at _ _ _ hi, hlMax_at (hlLow b r) _ _ (by rw [hlLow_len]; exact hi), low_at _ _ _ hi, low_at _ _ _ hi, hlMax_at _ _ _ (by omega), hlMax_at _ _ _ (by omega), upR_max2, oneR_max2]
 omega
theorem hlMax_sum (b : Nat) : ∀ (m r s : List Nat), r.length = s.length → hlMax r (hlSum b s m) = hlSum b (hlMax r s) m
 | [], _, _, _ => rfl
 | x :: m, r, s, h => by
  show hlMax r (hlSum b (hlAdd b s x) m) = hlSum b (hlAdd b (hlMax r s) x) m
  rw [hlMax_sum b m r (hlAdd b s x) (by rw [hlAdd_len]; exact h)]
  unfold hlAdd
  rw [hlMax_tell _ _ _ _ h]
theorem cmMrg_assoc (l m q : List Int) (h1 : l.length = m.length) (h2 : m.length = q.length) (ul : U64s l) (um : U64s m) (uq : U64s q) : cmMrg (cmMrg l m) q = cmMrg l (cmMrg m q) := by
 refine getD_extI _ _ (by simp only [cmMrg_len]) (fun i hi => ?_)
 simp only [cmMrg_len] at hi
 rw [cmMrg_at _ _ _ (by rw [cmMrg_len]; exact hi), cmMrg_at _ _ _ hi, cmMrg_at _ _ _ hi, cmMrg_at _ _ _ (by omega)]
 exact (satI_a _ _ _ (getD_u64 l ul i) (getD_u64 m um i) (getD_u64 q uq i)).symm
theorem satI_4 (a b c d : Int) (ha : U64 a) (hb : U64 b) (hc : U64 c) (hd : U64 d) : satI (satI a b) (satI c d) = satI (satI a c) (satI b d) := by
 rw [satI_a (satI a b) c d (satI_u64 _ _ ha hb) hc hd, satI_a (satI a c) b d (satI_u64 _ _ ha hc) hb hd, satI_r a c b ha hc hb]
theorem cmLow_mrg (c : Nat) (hc : c = 8 ∨ c = 16 ∨ c = 32) (l m : List Int) (h1 : l.length = c + c) (h2 : m.length = c + c) (ul : U64s l) (um : U64s m) : cmLow c (cmMrg l m) = cmMrg (cmLow c l) (cmLow c m) := by
 refine getD_extI _ _ (by simp only [cmMrg_len, cmLow_len]) (fun i hi => ?_)
 rw [cmLow_len] at hi
 rw [cmLow_at _ _ _ hi, cmMrg_at (cmLow c l) _ _ (by rw [cmLow_len]; exact hi), cmLow_at _ _ _ hi, cmLow_at _ _ _ hi]
 have hlt : i / (c / 2) * c + i % (c / 2) + c / 2 < l.length := by
  rw [h1]
  rcases hc with rfl | rfl | rfl
  ·show i / 4 * 8 + i % 4 + 4 < 16; omega
  ·show i / 8 * 16 + i % 8 + 8 < 32; omega
  ·show i / 16 * 32 + i % 16 + 16 < 64; omega
 rw [cmMrg_at _ _ _ (by omega), cmMrg_at _ _ _ hlt]
 exact satI_4 _ _ _ _ (getD_u64 l ul _) (getD_u64 m um _) (getD_u64 l ul _) (getD_u64 m um _)
theorem hiPuts_assoc : ∀ (q m l : List (Int × Int)), BinUp l → BinsU l → BinsU m → BinsU q → hiPuts l (hiPuts m q) = hiPuts (hiPuts l m) q
 | [], _, _, _, _, _, _ => rfl
 | (p, n) :: q, m, l, hu, ul, um, uq => by
  have hn : U64 n := uq (p, n) List.mem_cons_self
  have hq : BinsU q := fun c hc => uq c (List.mem_cons_of_mem _ hc)
  show hiPuts l (hiPuts (binPut m p n) q) = hiPuts (binPut (hiPuts l m) p n) q
  rw [hiPuts_assoc q (binPut m p n) l hu ul (binPut_u64 m p n um hn) hq, hiPuts_put2 l m p n hu ul um hn]
theorem hiPuts_half : ∀ (m l a : List (Int × Int)), BinUp a → BinsU a → BinsU l → BinsU m →
  hiPuts a ((hiPuts l m).map fun b => (hiHalf b.1, b.2)) = hiPuts (hiPuts a (l.map fun b => (hiHalf b.1, b.2))) (m.map fun b => (hiHalf b.1, b.2))
 | [], _, _, _, _, _, _ => rfl
 | (p, n) :: m, l, a, hu, ua, ul, um => by
  have hn : U64 n := um (p, n) List.mem_cons_self
  have hm : BinsU m := fun c hc => um c (List.mem_cons_of_mem _ hc)
  show hiPuts a ((hiPuts (binPut l p n) m).map fun b => (hiHalf b.1, b.2)) = hiPuts (binPut (hiPuts a (l.map fun b => (hiHalf b.1, b.2))) (hiHalf p) n) (m.map fun b => (hiHalf b.1, b.2))
  rw [hiPuts_half m (binPut l p n) a hu ua (binPut_u64 l p n ul hn) hm, hiPuts_ins l a hiHalf p n hu ua ul hn]
theorem halfs_u64 {l : List (Int × Int)} (h : BinsU l) : BinsU (l.map fun b => (hiHalf b.1, b.2)) := fun b hb => by
 obtain ⟨c, hc, rfl⟩ := List.mem_map.1 hb
 exact h c hc
theorem binUp_nil : BinUp ([] : List (Int × Int)) := List.Pairwise.nil
theorem binsU_nil : BinsU ([] : List (Int × Int)) := fun b hb => by cases hb
theorem hiLow_puts {l m : List (Int × Int)} (hl : ∀ b ∈ l, b.2 ≠ 0) (ul : BinsU l) (hm : ∀ b ∈ m, b.2 ≠ 0) (um : BinsU m) : hiLow (hiPuts l m) = hiPuts (hiLow l) (hiLow m) := by
 rw [hiLow_eq (hiPuts_pos m l hl ul hm um) (hiPuts_u64 m l ul um), hiLow_eq hl ul, hiLow_eq hm um, hiPuts_half m l [] binUp_nil binsU_nil ul um,
  hiPuts_assoc _ [] _ (hiPuts_up _ _ binUp_nil) (hiPuts_u64 _ _ binsU_nil (halfs_u64 ul)) binsU_nil (halfs_u64 um)]
 rfl
theorem merge_assoc {k L : Nat} {x y z a c : Bd} (hx : x.Ok k L) (hy : y.Ok k L) (hz : z.Ok k L) (h1 : x.merge y = some a) (h2 : a.merge z = some c) : ∃ b, y.merge z = some b ∧ x.merge b = some c := by
 rcases same_form hx hy with ⟨l, m, rfl, rfl⟩ | ⟨b, r, s, rfl, rfl⟩ | ⟨C, l, m, rfl, rfl⟩ | ⟨f, l, m, rfl, rfl⟩
 ·rcases same_form hx hz with ⟨l', q, e, rfl⟩ | ⟨b, r, s, e, -⟩ | ⟨C, l, m, e, -⟩ | ⟨f, l, m, e, -⟩
  ·obtain ⟨-, -, u1, n1, -⟩ := hx
   obtain ⟨-, -, u2, n2, -⟩ := hy
   obtain ⟨-, -, u3, n3, -⟩ := hz
   obtain ⟨a', ha, rfl⟩ := Option.map_eq_some_iff.1 h1
   obtain ⟨c', hc, rfl⟩ := Option.map_eq_some_iff.1 h2
   obtain ⟨a1, a2, a3⟩ := gather_some m l a' u1 n1 ha
   obtain ⟨c1, c2, c3⟩ := gather_some q a' c' a1 a2 hc
   cases hb : exGather m q with
   | none =>
    have := gather_none q m u2 hb c' c1 (fun y hy => (c3 y).2 (hy.elim (fun h => .inl ((a3 y).2 (.inr h))) .inr))
    omega
   | some b =>
    obtain ⟨b1, b2, b3⟩ := gather_some q m b u2 n2 hb
    refine ⟨.num b, by show (exGather m q).map Bd.num = _; rw [hb]; rfl, ?_⟩
    show (exGather l b).map Bd.num = _
    cases hd : exGather l b with
    | none =>
     have := gather_none b l u1 hd c' c1 (fun y hy => (c3 y).2 (hy.elim (fun h => .inl ((a3 y).2 (.inl h))) (fun h => ((b3 y).1 h).elim (fun h => .inl ((a3 y).2 (.inr h))) .inr)))
     omega
    | some d =>
     obtain ⟨d1, d2, d3⟩ := gather_some b l d u1 n1 hd
     rw [up_ext d c' d1 c1 (fun y => by rw [d3, b3, c3, a3, or_assoc])]
     rfl
  ·cases e
  ·cases e
  ·cases e
 ·rcases same_form hx hz with ⟨l', q, e, -⟩ | ⟨b', r', t, e, rfl⟩ | ⟨C, l, m, e, -⟩ | ⟨f, l, m, e, -⟩
  ·cases e
  ·cases e
   obtain ⟨-, -, -, -, n1, -⟩ := hx
   obtain ⟨-, -, -, -, n2, -⟩ := hy
   obtain ⟨-, -, -, -, n3, -⟩ := hz
   obtain rfl := Option.some.inj h1
   obtain rfl := Option.some.inj h2
   exact ⟨_, rfl, by show some (Bd.reg b (hlMax r (hlMax s t))) = _; rw [hlMax_assoc r s t (by omega) (by omega)]⟩
  ·cases e
  ·cases e
 ·rcases same_form hx hz with ⟨l', q, e, -⟩ | ⟨b, r, s, e, -⟩ | ⟨C', l', q, e, rfl⟩ | ⟨f, l, m, e, -⟩
  ·cases e
  ·cases e
  ·cases e
   obtain ⟨-, -, -, n1, u1⟩ := hx
   obtain ⟨-, -, -, n2, u2⟩ := hy
   obtain ⟨-, -, -, n3, u3⟩ := hz
   obtain rfl := Option.some.inj h1
   obtain rfl := Option.some.inj h2
   exact ⟨_, rfl, by show some (Bd.cnt C (cmMrg l (cmMrg m q))) = _; rw [cmMrg_assoc l m q (by omega) (by omega) u1 u2 u3]⟩
  ·cases e
 ·rcases same_form hx hz with ⟨l', q, e, -⟩ | ⟨b, r, s, e, -⟩ | ⟨C, l, m, e, -⟩ | ⟨f', l', q, e, rfl⟩
  ·cases e
  ·cases e
  ·cases e
  ·cases e
   obtain ⟨-, -, -, n1, p1, u1, -⟩ := hx
   obtain ⟨-, -, -, n2, p2, u2, -⟩ := hy
   obtain ⟨-, -, -, n3, p3, u3, -⟩ := hz
   obtain rfl := Option.some.inj h1
   obtain rfl := Option.some.inj h2
   refine ⟨_, rfl, ?_⟩
   show some (Bd.bkt f (hiDone (hiPuts l (hiDone (hiPuts m q))))) = some (Bd.bkt f (hiDone (hiPuts (hiDone (hiPuts l m)) q)))
   rw [hiMrg_pos p2 u2 p3 u3, hiMrg_pos p1 u1 p2 u2, hiPuts_assoc q m l n1 u1 u2 u3]
theorem merge_bind {k L : Nat} {x y z : Bd} (hx : x.Ok k L) (hy : y.Ok k L) (hz : z.Ok k L) : (x.merge y).bind (fun a => a.merge z) = (y.merge z).bind (fun b => x.merge b) := by
 cases h1 : x.merge y with
 | some a =>
  show a.merge z = _
  cases h2 : a.merge z with
  | some c =>
   obtain ⟨b, e1, e2⟩ := merge_assoc hx hy hz h1 h2
   rw [e1]
   exact e2.symm
  | none =>
   cases h3 : y.merge z with
   | none => rfl
   | some b =>
    show none = x.merge b
    cases h4 : x.merge b with
    | none => rfl
    | some c =>
     have ob := merge_ok hy hz h3
     obtain ⟨b', e1, e2⟩ := merge_assoc hz hy hx (by rw [merge_comm hz hy]; exact h3) (by rw [merge_comm ob hx]; exact h4)
     rw [merge_comm hy hx, h1] at e1
     cases e1
     rw [merge_comm hz (merge_ok hx hy h1), h2] at e2
     cases e2
 | none =>
  show none = _
  cases h3 : y.merge z with
  | none => rfl
  | some b =>
   show none = x.merge b
   cases h4 : x.merge b with
   | none => rfl
   | some c =>
    have ob := merge_ok hy hz h3
    obtain ⟨b', e1, e2⟩ := merge_assoc hz hy hx (by rw [merge_comm hz hy]; exact h3) (by rw [merge_comm ob hx]; exact h4)
    rw [merge_comm hy hx, h1] at e1
    cases e1
theorem merge_rc {k L : Nat} {x y z : Bd} (hx : x.Ok k L) (hy : y.Ok k L) (hz : z.Ok k L) : (x.merge y).bind (fun a => a.merge z) = (x.merge z).bind (fun a => a.merge y) := by
 rw [merge_bind hx hy hz, merge_bind hx hz hy, merge_comm hy hz]
theorem merge_low {k L : Nat} {x y z : Bd} (hx : x.Ok k L) (hy : y.Ok k L) (hL : L < botN k) (h : x.merge y = some z) : x.low.merge y.low = some z.low := by
 rcases same_form hx hy with ⟨l, m, rfl, rfl⟩ | ⟨b, r, s, rfl, rfl⟩ | ⟨C, l, m, rfl, rfl⟩ | ⟨f, l, m, rfl, rfl⟩
 ·obtain ⟨-, -, u1, n1, -⟩ := hx
  obtain ⟨z', hz, rfl⟩ := Option.map_eq_some_iff.1 h
  show some (Bd.reg 7 (hlMax (hlSum 7 (hlNone 7) (l.map Int.toNat)) (hlSum 7 (hlNone 7) (m.map Int.toNat)))) = some (Bd.reg 7 (hlSum 7 (hlNone 7) (z'.map Int.toNat)))
  rw [hlSum_gather 7 m l z' (hlNone 7) u1 hz, hlMax_sum 7 _ _ _ (by rw [hlSum_len]), hlMax_none]
 ·obtain ⟨rfl, h1, h2, h3, h4, -⟩ := hx
  obtain ⟨-, -, -, -, h5, -⟩ := hy
  obtain rfl := Option.some.inj h
  have hb4 : (4 : Nat) = botN 1 := rfl
  show some (Bd.reg (b - 1) (hlMax (hlLow b r) (hlLow b s))) = some (Bd.reg (b - 1) (hlLow b (hlMax r s)))
  rw [hlLow_max b r s (by omega) h4 h5]
 ·obtain ⟨rfl, h1, h2, h3, h4⟩ := hx
  obtain ⟨-, -, -, h5, h6⟩ := hy
  obtain rfl := Option.some.inj h
  have hb3 : botN 2 = 3 := rfl
  have hc : C = 8 ∨ C = 16 ∨ C = 32 := by
   rcases cnt_cases h1 h2 with ⟨-, e⟩ | ⟨-, e⟩ | ⟨-, e⟩ | ⟨e, -⟩
   ·exact .inr (.inr e)
   ·exact .inr (.inl e)
   ·exact .inl e
   ·omega
  show some (Bd.cnt (C / 2) (cmMrg (cmLow C l) (cmLow C m))) = some (Bd.cnt (C / 2) (cmLow C (cmMrg l m)))
  rw [cmLow_mrg C hc l m h3 h5 h4 h6]
 ·obtain ⟨-, -, -, n1, p1, u1, -⟩ := hx
  obtain ⟨-, -, -, n2, p2, u2, -⟩ := hy
  obtain rfl := Option.some.inj h
  show some (Bd.bkt (f - 1) (hiDone (hiPuts (hiLow l) (hiLow m)))) = some (Bd.bkt (f - 1) (hiLow (hiDone (hiPuts l m))))
  rw [hiMrg_pos p1 u1 p2 u2, hiLow_puts p1 u1 p2 u2]
  congr 2
  refine hiDone_self (hiPuts_pos _ _ hiDone_pos (hiDone_u64 (hiPuts_u64 _ _ binsU_nil (halfs_u64 u1))) hiDone_pos (hiDone_u64 (hiPuts_u64 _ _ binsU_nil (halfs_u64 u2))))
theorem merge_wide {k L : Nat} {x y : Bd} (hx : x.Ok k L) (hy : y.Ok k L) (hw : x.wide) : ∃ z, x.merge y = some z := by
 rcases same_form hx hy with ⟨l, m, rfl, rfl⟩ | ⟨b, r, s, rfl, rfl⟩ | ⟨C, l, m, rfl, rfl⟩ | ⟨f, l, m, rfl, rfl⟩
 ·exact hw.elim
 ·exact ⟨_, rfl⟩
 ·exact ⟨_, rfl⟩
 ·exact ⟨_, rfl⟩
theorem merge_not {k L : Nat} {x y : Bd} (hx : x.Ok k L) (hy : y.Ok k L) (h : x.merge y = none) : k = 1 ∧ L = 0 := by
 rcases same_form hx hy with ⟨l, m, rfl, rfl⟩ | ⟨b, r, s, rfl, rfl⟩ | ⟨C, l, m, rfl, rfl⟩ | ⟨f, l, m, rfl, rfl⟩
 ·exact ⟨hx.1, hx.2.1⟩
 ·cases h
 ·cases h
 ·cases h
theorem wkTo_at {k : Nat} {s : Nat × Bd} {u : Nat} (hs : s.2.Ok k s.1) (h1 : s.1 ≤ u) (h2 : u ≤ botN k) : ∃ X, wkTo s u = (u, X) ∧ X.Ok k u := by
 obtain ⟨a, b⟩ := wkTo_ok u h2 _ s rfl hs
 have e : (wkTo s u).1 = u := b.trans (by omega)
 rw [e] at a
 exact ⟨_, Prod.ext e rfl, a⟩
theorem wkMerge_not {s t : Nat × Bd} {u : Nat} {x y z : Bd} (hu : max s.1 t.1 = u) (hs : wkTo s u = (u, x)) (ht : wkTo t u = (u, y)) (hm : x.merge y = none) (hz : x.low.merge y.low = some z) : wkMerge s t = (u + 1, z) := by
 unfold wkMerge
 rw [hu, hs, ht]
 simp only [hm, hz, Option.getD_some]
theorem merge_down {k : Nat} : ∀ (n u v : Nat) (x y z : Bd), v - u = n → u ≤ v → v ≤ botN k → x.Ok k u → y.Ok k u → x.merge y = some z → (wkTo (u, x) v).2.merge (wkTo (u, y) v).2 = some (wkTo (u, z) v).2
 | 0, u, v, x, y, z, hn, h1, h2, hx, hy, h => by
  obtain rfl : u = v := by omega
  rw [wkTo_self (s := (u, x)) (Nat.le_refl _), wkTo_self (s := (u, y)) (Nat.le_refl _), wkTo_self (s := (u, z)) (Nat.le_refl _)]
  exact h
 | n + 1, u, v, x, y, z, hn, h1, h2, hx, hy, h => by
  have hu : u < botN k := by omega
  rw [wkTo_low (s := (u, x)) (by show u < v; omega), wkTo_low (s := (u, y)) (by show u < v; omega), wkTo_low (s := (u, z)) (by show u < v; omega)]
  exact merge_down n (u + 1) v x.low y.low z.low (by omega) (by omega) h2 (bd_low_ok hx hu) (bd_low_ok hy hu) (merge_low hx hy hu h)
theorem wk3 {k L : Nat} {s t u : Nat × Bd} {X Y Z : Bd} (hs : s.2.Ok k s.1) (ht : t.2.Ok k t.1) (hu : u.2.Ok k u.1) (hL : max (max s.1 t.1) u.1 = L) (eX : wkTo s L = (L, X)) (eY : wkTo t L = (L, Y)) (eZ : wkTo u L = (L, Z)) (oX : X.Ok k L) (oY : Y.Ok k L) (oZ : Z.Ok k L) :
  (∀ c, (X.merge Y).bind (fun a => a.merge Z) = some c → wkMerge (wkMerge s t) u = (L, c)) ∧ ((X.merge Y).bind (fun a => a.merge Z) = none → L < botN k ∧ ∃ c, (X.low.merge Y.low).bind (fun a => a.merge Z.low) = some c ∧ wkMerge (wkMerge s t) u = (L + 1, c)) := by
 have hLb : L ≤ botN k := ok_bot oX
 obtain ⟨m, hm⟩ : ∃ m, max s.1 t.1 = m := ⟨_, rfl⟩
 have hmL : m ≤ L := by omega
 obtain ⟨Xm, eXm, oXm⟩ := wkTo_at (u := m) hs (by omega) (by omega)
 obtain ⟨Ym, eYm, oYm⟩ := wkTo_at (u := m) ht (by omega) (by omega)
 have xx : wkTo (m, Xm) L = (L, X) := by rw [← eXm, wkTo_to m L hmL _ s rfl]; exact eX
 have yy : wkTo (m, Ym) L = (L, Y) := by rw [← eYm, wkTo_to m L hmL _ t rfl]; exact eY
 cases hM : Xm.merge Ym with
 | some Bm =>
  have eM := merge_at hm eXm eYm hM
  have oB := merge_ok oXm oYm hM
  obtain ⟨B, eB, oBL⟩ := wkTo_at (s := (m, Bm)) (u := L) oB hmL hLb
  have hd := merge_down _ m L Xm Ym Bm rfl hmL hLb oXm oYm hM
  rw [xx, yy, eB] at hd
  have hd' : X.merge Y = some B := hd
  rw [eM, hd']
  refine ⟨fun c hc => merge_at (s := (m, Bm)) (by show max m u.1 = L; omega) eB eZ hc, fun hn => ?_⟩
  obtain ⟨hlt, c, hc⟩ := merge_low_some oBL oZ hn
  refine ⟨hlt, c, ?_, wkMerge_not (s := (m, Bm)) (by show max m u.1 = L; omega) eB eZ hn hc⟩
  rw [merge_low oX oY hlt hd']
  exact hc
 | none =>
  obtain ⟨rfl, rfl⟩ := merge_not oXm oYm hM
  obtain ⟨-, C, hC⟩ := merge_low_some oXm oYm hM
  have hb4 : botN 1 = 4 := rfl
  have eM := wkMerge_not hm eXm eYm hM hC
  have oXl := bd_low_ok oXm (by omega)
  have oYl := bd_low_ok oYm (by omega)
  have oC := merge_ok oXl oYl hC
  rw [eM]
  by_cases h0 : u.1 = 0
  ·obtain rfl : L = 0 := by omega
   obtain rfl : Xm = X := by rw [wkTo_self (s := (0, Xm)) (Nat.le_refl _)] at xx; exact (Prod.mk.inj xx).2
   obtain rfl : Ym = Y := by rw [wkTo_self (s := (0, Ym)) (Nat.le_refl _)] at yy; exact (Prod.mk.inj yy).2
   rw [hM]
   refine ⟨fun c hc => (by cases hc), fun _ => ⟨by omega, ?_⟩⟩
   have hZl := bd_low_ok oZ (by omega : 0 < botN 1)
   obtain ⟨c, hc⟩ := merge_wide oC hZl (ok_wide oC (.inr (Nat.le_refl _)))
   refine ⟨c, by rw [hC]; exact hc, merge_at (s := (0 + 1, C)) (u := 0 + 1) (by show max (0 + 1) u.1 = 0 + 1; omega) (wkTo_self (Nat.le_refl _)) ?_ hc⟩
   have e2 : wkTo u 1 = wkTo (wkLow u) 1 := wkTo_low (by omega)
   rw [wkTo_self (s := u) (by omega)] at eZ
   rw [e2, eZ]
   exact wkTo_self (Nat.le_refl _)
  ·obtain ⟨B, eB, oBL⟩ := wkTo_at (s := (0 + 1, C)) (u := L) oC (by show 0 + 1 ≤ L; omega) hLb
   have hd := merge_down _ (0 + 1) L Xm.low Ym.low C rfl (by omega) hLb oXl oYl hC
   have xx2 : wkTo (0 + 1, Xm.low) L = (L, X) := by rw [← xx]; exact (wkTo_low (s := (0, Xm)) (by show 0 < L; omega)).symm
   have yy2 : wkTo (0 + 1, Ym.low) L = (L, Y) := by rw [← yy]; exact (wkTo_low (s := (0, Ym)) (by show 0 < L; omega)).symm
   rw [xx2, yy2, eB] at hd
   have hd' : X.merge Y = some B := hd
   obtain ⟨c, hc⟩ := merge_wide oBL oZ (ok_wide oBL (.inr (by omega)))
   rw [hd']
   refine ⟨fun c' hc' => ?_, fun hn => ?_⟩
   ·exact merge_at (s := (0 + 1, C)) (by show max (0 + 1) u.1 = L; omega) eB eZ hc'
   ·have hn' : B.merge Z = none := hn
    rw [hc] at hn'
    cases hn'
theorem wkMerge_rc {k : Nat} {s t u : Nat × Bd} (hs : s.2.Ok k s.1) (ht : t.2.Ok k t.1) (hu : u.2.Ok k u.1) : wkMerge (wkMerge s t) u = wkMerge (wkMerge s u) t := by
 obtain ⟨L, hL⟩ : ∃ L, max (max s.1 t.1) u.1 = L := ⟨_, rfl⟩
 have hLb : L ≤ botN k := by have := ok_bot hs; have := ok_bot ht; have := ok_bot hu; omega
 obtain ⟨X, eX, oX⟩ := wkTo_at (u := L) hs (by omega) hLb
 obtain ⟨Y, eY, oY⟩ := wkTo_at (u := L) ht (by omega) hLb
 obtain ⟨Z, eZ, oZ⟩ := wkTo_at (u := L) hu (by omega) hLb
 obtain ⟨p1, p2⟩ := wk3 hs ht hu hL eX eY eZ oX oY oZ
 obtain ⟨q1, q2⟩ := wk3 hs hu ht (by omega) eX eZ eY oX oZ oY
 have hrc := merge_rc oX oY oZ
 cases h : (X.merge Y).bind (fun a => a.merge Z) with
 | some c => rw [p1 c h, q1 c (by rw [← hrc]; exact h)]
 | none =>
  obtain ⟨hlt, c, e1, e2⟩ := p2 h
  obtain ⟨-, c', e3, e4⟩ := q2 (by rw [← hrc]; exact h)
  rw [merge_rc (bd_low_ok oX hlt) (bd_low_ok oY hlt) (bd_low_ok oZ hlt), e3] at e1
  cases e1
  rw [e2, e4]
theorem wkMerge_new {k : Nat} (hk : k = 1 ∨ k = 2 ∨ k = 3) {s : Nat × Bd} (hs : s.2.Ok k s.1) : wkMerge (0, bdNew k) s = s := by
 obtain ⟨L, X⟩ := s
 have hLb : L ≤ botN k := ok_bot hs
 have hb := base_ok k L hk hLb
 have hm : (bdBase k L).merge X = some X := by
  rw [merge_comm hb hs]
  by_cases hw : k ≠ 1 ∨ 1 ≤ L
  ·exact merge_base hs hw
  ·obtain ⟨rfl, rfl⟩ : k = 1 ∧ L = 0 := by omega
   rcases same_form hb hs with ⟨l, m, e, rfl⟩ | ⟨b, r, s, e, -⟩ | ⟨C, l, m, e, -⟩ | ⟨f, l, m, e, -⟩
   ·rfl
   ·cases e
   ·cases e
   ·cases e
 exact merge_at (s := (0, bdNew k)) (t := (L, X)) (by show max 0 L = L; omega) (to_base k L hk hLb) (wkTo_self (Nat.le_refl _)) hm
theorem foldMerge_rc {k : Nat} : ∀ (S : List (Nat × Bd)) (s t : Nat × Bd), s.2.Ok k s.1 → t.2.Ok k t.1 → (∀ u ∈ S, u.2.Ok k u.1) → wkMerge (S.foldl wkMerge s) t = S.foldl wkMerge (wkMerge s t)
 | [], _, _, _, _, _ => rfl
 | u :: S, s, t, hs, ht, hS => by
  have hu := hS u List.mem_cons_self
  show wkMerge (S.foldl wkMerge (wkMerge s u)) t = S.foldl wkMerge (wkMerge (wkMerge s t) u)
  rw [foldMerge_rc S (wkMerge s u) t (wkMerge_ok hs hu) ht (fun v hv => hS v (List.mem_cons_of_mem _ hv)), wkMerge_rc hs hu ht]
theorem wkAll_parts {k : Nat} (hk : k = 1 ∨ k = 2 ∨ k = 3) {A B : List (Nat × Bd)} (hA : ∀ t ∈ A, t.2.Ok k t.1) (hB : ∀ t ∈ B, t.2.Ok k t.1) : wkMerge (wkAll k B) (wkAll k A) = wkAll k (A ++ B) := by
 have oA := wkAll_ok hk hA
 have h := foldMerge_rc B (0, bdNew k) (wkAll k A) (bdNew_ok k hk) oA hB
 rw [wkMerge_new hk oA] at h
 show wkMerge (B.foldl wkMerge (0, bdNew k)) (wkAll k A) = (A ++ B).foldl wkMerge (0, bdNew k)
 rw [h, List.foldl_append]
 rfl
end Go.Proofs.YthbhmnakmhambaaGreatDoor
namespace Go.Proofs.YthbhmnakmhambaaGreatDoor
open Go Go.RowKit
theorem pick_at (s : StrK) (kind : Int) : ∀ (L P : List Ser), pickAt (P ++ L) kind (meantGo s P.length L) = pick (fun x => (meansS s x.l).1) kind L
 | [], P => rfl
 | x :: r, P => by
  have ih := pick_at s kind r (P ++ [x])
  rw [List.append_assoc, List.length_append] at ih
  replace ih : pickAt (P ++ x :: r) kind (meantGo s (P.length + 1) r) = pick (fun x => (meansS s x.l).1) kind r := ih
  have hx : (P ++ x :: r)[P.length]? = some x := by simp
  show pickAt (P ++ x :: r) kind (if (meansS s x.l).1 then P.length :: meantGo s (P.length + 1) r else meantGo s (P.length + 1) r) = _
  unfold pick at ih ⊢
  rw [List.filter_cons]
  cases (meansS s x.l).1 with
  | false => exact ih
  | true =>
   rw [if_pos rfl, if_pos rfl, List.flatMap_cons, ← ih, ← pickAt_at hx kind, ← pickAt_app]
   rfl
theorem pick_meant (s : StrK) (kind : Int) (L : List Ser) : pickAt L kind (meantGo s 0 L) = pick (fun x => (meansS s x.l).1) kind L := pick_at s kind L []
theorem pick_ok {L : List Ser} (h : ∀ x ∈ L, SkGood x.sk) {k : Nat} (f : Ser → Bool) : ∀ t ∈ pick f (k : Int) L, t.2.Ok k t.1 := by
 intro t ht
 unfold pick at ht
 obtain ⟨x, hx, hi⟩ := List.mem_flatMap.1 ht
 exact pickOne_ok (h x (List.mem_filter.1 hx).1) t hi
theorem tab_take {L : List Ser} (h : tabRight L = true) (n : Nat) : tabRight (L.take n) = true := by
 rw [tabRight_iff] at h ⊢
 exact ⟨by rw [List.length_take]; omega, fun x hx => h.2.1 x (List.mem_of_mem_take hx), h.2.2.sublist (List.take_sublist n L)⟩
theorem tab_drop {L : List Ser} (h : tabRight L = true) (n : Nat) : tabRight (L.drop n) = true := by
 rw [tabRight_iff] at h ⊢
 exact ⟨by rw [List.length_drop]; omega, fun x hx => h.2.1 x (List.mem_of_mem_drop hx), h.2.2.sublist (List.drop_sublist n L)⟩
theorem parts_plain {L : List Ser} (h : ∀ x ∈ L, SkGood x.sk) {k : Nat} (hk : k = 1 ∨ k = 2 ∨ k = 3) (f : Ser → Bool) (n : Nat) :
  wkMerge (wkAll k (pick f k (L.drop n))) (wkAll k (pick f k (L.take n))) = wkAll k (pick f k L) := by
 rw [wkAll_parts hk (pick_ok (fun x hx => h x (List.mem_of_mem_take hx)) f) (pick_ok (fun x hx => h x (List.mem_of_mem_drop hx)) f), ← pick_app, List.take_append_drop]
theorem meantE_ok {L : List Ser} {s : StrK} (h1 : tabRight L = true) (h2 : scRight s = true) : meantE L s = 0 := by unfold meantE; rw [h1, h2]; rfl
theorem meantE_or (L : List Ser) (s : StrK) : meantE L s = 0 ∨ meantE L s = 50 ∨ meantE L s = 120 := by
 unfold meantE
 split
 ·split
  ·exact .inl rfl
  ·exact .inr (.inl rfl)
 ·exact .inr (.inr rfl)
theorem pick_R {L : List Ser} {s : StrK} (h1 : tabRight L = true) (h2 : scRight s = true) (kind : Int) : pickAt L kind (meantR L s) = pick (fun x => (meansS s x.l).1) kind L := by rw [meantR_ok h1 h2, pick_meant]
end Go.Proofs.YthbhmnakmhambaaGreatDoor
