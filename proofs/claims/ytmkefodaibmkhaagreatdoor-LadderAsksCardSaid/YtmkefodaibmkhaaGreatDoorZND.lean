/- Package hist: sums (how many values are in the bins up to each), saturated. Package hist: Rank (how many values are in the buckets up to that of a number). -/
import Derived.Test.YtmkefodaibmkhaaGreatDoorZNB
import Derived.Test.YtmkefodaibmkhaaGreatDoorZME
namespace Go.Proofs.YtmkefodaibmkhaaGreatDoor
open Go Go.RowKit Go.Shelf
attribute [local go_sem] Oper.semAt_some

/-- Bins, each with the sum up to it. -/
def hsSums : Int → List (Int × Int) → List ((Int × Int) × Int)
  | _, [] => []
  | s, b :: l => (b, satI s b.2) :: hsSums (satI s b.2) l
/-- The sum of the first ones. -/
def hsTo (s : Int) (l : List (Int × Int)) : Int := l.foldl (fun t b => satI t b.2) s
theorem hsTo_u64 : ∀ (l : List (Int × Int)) (s : Int), BinsU l → U64 s → U64 (hsTo s l)
  | [], _, _, hs => hs
  | b :: l, _, h, hs => hsTo_u64 l _ (fun x hx => h x (List.mem_cons_of_mem _ hx)) (satI_u64 _ _ hs (h b (List.mem_cons_self ..)))
theorem hsTo_snoc (s : Int) (l : List (Int × Int)) (b : Int × Int) : hsTo s (l ++ [b]) = satI (hsTo s l) b.2 := by unfold hsTo; rw [List.foldl_append]; rfl
theorem hsSums_len : ∀ (l : List (Int × Int)) (s : Int), (hsSums s l).length = l.length
  | [], _ => rfl
  | _ :: l, _ => by simp only [hsSums, List.length_cons, hsSums_len l]
theorem hsSums_at : ∀ (l : List (Int × Int)) (s : Int) (k : Nat) (b : Int × Int), l[k]? = some b → (hsSums s l)[k]? = some (b, hsTo s (l.take (k + 1)))
  | [], _, k, b, h => by simp at h
  | x :: l, _, 0, b, h => by simp at h; subst h; rfl
  | x :: l, s, k + 1, b, h => by
    have h1 : l[k]? = some b := by simpa using h
    have h2 := hsSums_at l (satI s x.2) k b h1
    simp only [hsSums, List.getElem?_cons_succ, List.take_succ_cons]
    rw [h2]
    rfl
theorem sums_any (a : Option Addr) (len cap : Nat) (w : World) : Calls Tryz.prog 238 #[.slice a len cap] w fun e w' => e = .returned (.func (.func 243) #[] #[.pointer (some ⟨w.heap.size, 0, none⟩)]) ∧ w' = w.alloc (.cells #[.slice a len cap] 32) := by
  go_enter Tryz.func238, Tryz.ntmps238
  go_wp2
  go_ret
  exact ⟨rfl, rfl⟩
set_option maxRecDepth 100000 in
set_option maxHeartbeats 1000000 in
theorem sums1 (l Bs n₀ : Nat) (a : Option Addr) (cap : Nat) (ls : List (Int × Int)) (hreach : ls.length < 4294967281) (hu : BinsU ls) (J Jx : List ((Int × Int) × Int) → World → Prop)
    (hY : ∀ pre x W, J pre W → pre.length < ls.length → YieldAt Fence.wide 7 Tryz.prog l #[.agg #[.int .i64 x.1.1, .int .u64 x.1.2], .int .u64 x.2] W fun e W' =>
      (e = .returned (.bool true) ∧ J (pre ++ [x]) W' ∧ Below n₀ W W') ∨ (e = .returned (.bool false) ∧ Jx (pre ++ [x]) W'))
    (W : World) (hn₀ : n₀ ≤ W.heap.size) (hJ : AbidesFrom W.heap.size J) (hBs : W.cell? ⟨Bs, 0, none⟩ = some (.slice a ls.length cap)) (hc : SlE encB 2 n₀ W a ls.length ls) (h0 : J [] W) :
    CallsIn Fence.wide 8 Tryz.prog 243 #[.func (.yield l) #[] #[], .pointer (some ⟨Bs, 0, none⟩)] W fun e W' => (∃ v, e = .returned v) ∧
      ((∃ ys, ys = hsSums 0 ls ∧ J ys W') ∨ (∃ pre, pre <+: hsSums 0 ls ∧ Jx pre W')) := by
  refine callsIn_of_wp Tryz.func243 rfl trivial ?_ rfl
  simp only [Tryz.ntmps243, List.size_toArray, List.length_cons, List.length_nil, Nat.reduceAdd, Nat.reduceSub, Array.replicate_succ, Array.replicate_zero, List.push_toArray, List.append_toArray, List.nil_append, List.cons_append]
  have HU := Lib.hid hu
  gi_wp2
  gi_loopw [3, 8] (fun su i wr => ∃ k : Nat, k ≤ ls.length ∧ i = .int .i64 k ∧ su = .int .u64 (hsTo 0 (ls.take k)) ∧ J ((hsSums 0 ls).take k) wr ∧ Below n₀ W wr) (fun _ i _ => ls.length - (intOf i).toNat)
  case atStart => exact ⟨0, Nat.zero_le _, rfl, rfl, h0, Below.refl _ _⟩
  case round =>
    obtain ⟨k, hk, rfl, rfl, hJs, hnx⟩ := hrel
    by_cases hlt : k < ls.length
    · obtain ⟨x, b1, o1, hx, ea, hb1, p0, p1⟩ := bin_cells (SlE.below hnx hc) hlt
      subst ea
      have hzn := hnx.size
      obtain ⟨W2, hW2, hX2, hB2, hs2⟩ := boxes1 wr #[.int .i64 x.1, .int .u64 x.2] 145
      obtain ⟨s0, hs0⟩ : ∃ s0, hsTo 0 (ls.take k) = s0 := ⟨_, rfl⟩
      have hs0u : U64 s0 := by rw [← hs0]; exact hsTo_u64 _ _ (fun y hy => HU.out y (List.mem_of_mem_take hy)) (by unfold U64; omega)
      have hxu : U64 x.2 := HU.out x (List.mem_of_getElem? hx)
      have hnext : hsTo 0 (ls.take (k + 1)) = satI s0 x.2 := by rw [List.take_add_one, hx, ← hs0]; exact hsTo_snoc _ _ _
      have hat := hsSums_at ls 0 k x hx
      rw [hnext] at hat
      obtain ⟨W3, hW3, hX3, hB3, hs3⟩ := boxes1 W2 #[.int .u64 s0, .int .u64 x.2] 50
      have hG3 : wr.grownBy W3 none := by rw [← hW3, ← hW2]; exact (World.grownBy_alloc _ _ _).trans (World.grownBy_alloc _ _ _)
      have hJ3 := hJ _ _ _ none hJs hG3 (fun r e => by cases e)
      have hBn : Below n₀ W W3 := hnx.trans ((hB2.trans (hB3.mono (by omega))).mono (by omega))
      have hT := htogether_any W2.heap.size s0 x.2 W3 (cell_of_cells hX3 0) (cell_of_cells hX3 1) hs0u hxu
      obtain ⟨fn, tmps, assign, body, hy, hR⟩ := hY _ (x, satI s0 x.2) W3 hJ3 (by rw [List.length_take, hsSums_len]; omega)
      have hX23 := known hB3 (Nat.le_refl _) hX2
      have q0 : W3.cell? ⟨wr.heap.size, 0, none⟩ = some (.int .i64 x.1) := cell_of_cells hX23 0
      have q1 : W3.cell? ⟨wr.heap.size, 1, none⟩ = some (.int .u64 x.2) := cell_of_cells hX23 1
      have r1 : W2.cell? ⟨wr.heap.size, 1, none⟩ = some (.int .u64 x.2) := cell_of_cells hX2 1
      rw [hs2] at hT
      have HA := Lib.hid (And.intro hat hBn)
      have HNX := Lib.hid hnext
      rw [hs0]
      clear hx hX2 hX3 hX23 hG3 hJ3 hat hBn hnext hJs hnx hB2 hB3
      gi_wp2_with fail
      refine ⟨trivial, (callsIn_wide.2 hT).mono ?_⟩
      rintro e w' ⟨rfl, rfl⟩
      gi_wp2_with fail
      refine hR.mono ?_
      rintro e W4 (⟨rfl, hJ4, hk4⟩ | ⟨rfl, hJx4⟩)
      · gi_wp2
        go_roundw
        case rel => exact ⟨k + 1, by omega, by simp, by rw [HNX.out], by rw [List.take_add_one, HA.out.1]; exact hJ4, HA.out.2.trans hk4⟩
        case measure => simp [intOf]; omega
      · gi_wp2
        refine bodyPost_ret (results_none rfl _ _ _) rfl ?_
        exact ⟨⟨_, rfl⟩, .inr ⟨_, by have h := List.take_prefix (k + 1) (hsSums 0 ls); rwa [List.take_add_one, HA.out.1] at h, hJx4⟩⟩
    · obtain rfl : k = ls.length := by omega
      gi_wp2
      go_end0
      exact ⟨⟨_, rfl⟩, .inl ⟨_, by rw [← hsSums_len ls 0, List.take_length], hJs⟩⟩
theorem sums_seq (Bs n₀ : Nat) (a : Option Addr) (len cap : Nat) (ls : List (Int × Int)) (hreach : len < 4294967281) (hu : BinsU ls) (w : World) (hBs : Bs < w.heap.size) (hn₀ : n₀ ≤ w.heap.size)
    (hc : w.cell? ⟨Bs, 0, none⟩ = some (.slice a len cap)) (hI : SlE encB 2 n₀ w a len ls) :
    SeqStopsK Fence.wide 8 Tryz.prog 243 #[.pointer (some ⟨Bs, 0, none⟩)] (fun x : (Int × Int) × Int => #[.agg #[.int .i64 x.1.1, .int .u64 x.1.2], .int .u64 x.2]) (Below n₀) (fun ys => ys = hsSums 0 ls) (fun pre => pre <+: hsSums 0 ls) ls.length w := fun l J Jx W hW hJ _ hY h0 => by
  have hc' := (hW.cell (p := ⟨Bs, 0, none⟩) hBs).trans hc
  have hI' : SlE encB 2 n₀ W a len ls := hI.below (hW.mono hn₀)
  have hll := hI'.1
  rw [hll] at hc' hI'
  exact sums1 l Bs n₀ a cap ls (by omega) hu J Jx hY W (Nat.le_trans hn₀ hW.size) hJ hc' hI' h0
/-- A range whose rounds lay a box first, left by a label or not. -/
theorem wp_range_boxT {α : Type} {P : Program} {g : Operand} {ps : Array Tmp} {assign body : Code} {Q : Exit → Act → World → Prop} {a : Act} {w : World} {id : Nat} (t : TypeId) (cs : α → Array Value) (T : α → Nat → Array Value)
    {gf : Nat} {lb : Array Value} (hg : a.eval g = .func (.func gf) #[] lb) (eg : ∀ args w, (callFunc gf args).run P w = .ok (.enter gf args) w)
    {encs : α → Array Value} {n₀ : Nat} {xs : List α} {N : Nat} {w0 : World} (hseq : SeqStopsK Fence.wide 8 P gf lb encs (Below n₀) (fun ys => ys = xs) (fun pre => pre <+: xs) N w0)
    (hn₀ : n₀ ≤ w.heap.size) (hb0 : Below w0.heap.size w0 w) (hps : ∀ x, (encs x).size = ps.size)
    (I Ib : List α → World → Prop) (hI : OwnFrom w.heap.size I) (hIb : OwnFrom w.heap.size Ib) (h0 : I [] w)
    (hassign : ∀ (l : Nat) (pre : List α) (x : α) (W : World) (K : Act → World → Prop), I pre W → w.heap.size ≤ W.heap.size →
      (I pre (W.alloc (.cells (cs x) t)) → K { tmps := T x W.heap.size, defers := [] } (W.alloc (.cells (cs x) t))) →
      assign.wpIn (Fence.wide.inRound l) 7 P (Exit.then K (fun _ _ _ => False)) { tmps := (ps.zip (encs x)).foldl (fun t (p, v) => t.setIfInBounds p v) a.tmps, defers := [] } W)
    (hbody : ∀ (l : Nat) (pre : List α) (x : α) (W : World) (Bx : Nat), I pre W → w.heap.size ≤ Bx → Bx < W.heap.size → W.heap[Bx]? = some (.cells (cs x) t (0, 0)) → pre.length < N →
      body.wpIn (Fence.wide.inRound l) 7 P (ownPostG w.heap.size (Below n₀) I (fun c pre W => c = .exit id ∧ Ib pre W) (pre ++ [x]) W) { tmps := T x Bx, defers := [] } W)
    (hfin : ∀ (D : Nat) (W : World), w.heap.size ≤ D → (I xs W ∨ ∃ pre, pre <+: xs ∧ Ib pre W) → W.heap[D]? = some (.deferred (some [])) → Q .normal { a with defers := { target := .collected D, args := #[] } :: a.defers } W) :
    (Code.rangeFunc g ps assign body).wp P (Exit.inBlock id Q) a w :=
  wp_range hg eg hseq hn₀ hb0 hps (fun pre W => I pre W ∧ w.heap.size ≤ W.heap.size) (fun c pre W => c = .exit id ∧ Ib pre W) (hI.and (ownFrom_size _ _)) (fun _ => (ownFrom_pure _ _).and hIb) ⟨h0, Nat.le_refl _⟩
    (fun x a' W => ∃ Bx, w.heap.size ≤ Bx ∧ W.heap[Bx]? = some (.cells (cs x) t (0, 0)) ∧ a' = { tmps := T x Bx, defers := [] })
    (fun x a' u X Y row hs hg hr => by
      obtain ⟨Bx, h1, h2, h3⟩ := hs
      exact ⟨Bx, h1, ownCells w.heap.size Bx (fun _ => cs x) t u X Y row h2 hg hr, h3⟩)
    (fun l pre x W K hi hK => hassign l pre x W K hi.1 hi.2 (fun hi' => hK _ _ ((KeepsOthers.alloc _ _).from _) ((Below.refl _ W).alloc (Nat.le_trans hn₀ hi.2) _) ⟨hi', by simp; omega⟩ ⟨W.heap.size, hi.2, World.alloc_heap_new _ _, rfl⟩))
    (fun l pre x a' W hi hax hlt => by
      obtain ⟨Bx, h1, h2, rfl⟩ := hax
      refine wpIn_mono (hbody l pre x W Bx hi.1 h1 (Array.getElem?_eq_some_iff.1 h2).1 h2 hlt) ?_
      rintro e a3 W3 hp
      cases e with
      | normal => exact ⟨hp.1, hp.2.1, hp.2.2, Nat.le_trans hi.2 hp.1.size⟩
      | _ => exact hp)
    (fun D W hD hi hK => by exact hfin D W hD (.inl hi.1) hK)
    (fun D c pre W hD hp hi hK => by obtain ⟨rfl, hi⟩ := hi; exact wp_exit (by show (if id = id then Q .normal _ _ else Q (.exit id) _ _); rw [if_pos rfl]; exact hfin D W hD (.inr ⟨pre, hp, hi⟩) hK))
/-- The rank as the loop finds it. -/
def rkGo (last : Int) : Int → List ((Int × Int) × Int) → Int
  | r, [] => r
  | r, x :: l => if last < x.1.1 then r else rkGo last x.2 l
def rkPre (r : Int) (pre : List ((Int × Int) × Int)) : Int := pre.foldl (fun _ x => x.2) r
theorem rkPre_snoc (r : Int) (pre : List ((Int × Int) × Int)) (x : (Int × Int) × Int) : rkPre r (pre ++ [x]) = x.2 := by unfold rkPre; rw [List.foldl_append]; rfl
theorem rkGo_pre (last : Int) : ∀ (p : List ((Int × Int) × Int)) (r : Int) (q : List ((Int × Int) × Int)), (∀ x ∈ p, x.1.1 ≤ last) → rkGo last r (p ++ q) = rkGo last (rkPre r p) q
  | [], _, _, _ => rfl
  | x :: p, r, q, h => by
    have hx := h x (List.mem_cons_self ..)
    rw [List.cons_append, rkGo, if_neg (by omega)]
    exact rkGo_pre last p x.2 q (fun y hy => h y (List.mem_cons_of_mem _ hy))
def hiRank (f : Nat) (l : List (Int × Int)) (v : Nat) : Int := rkGo (hiBk f v) 0 (hsSums 0 l)
end Go.Proofs.YtmkefodaibmkhaaGreatDoor
namespace Go.Proofs.YtmkefodaibmkhaaGreatDoor
open Go Go.RowKit Go.Shelf
attribute [local go_sem] Oper.semAt_some

theorem wp_range_box2 {α : Type} {P : Program} {g : Operand} {ps : Array Tmp} {assign body : Code} {Q : Exit → Act → World → Prop} {a : Act} {w : World} {id : Nat} (t : TypeId) (cs : α → Array Value) (s1 s2 : Nat) (v2 : α → Value)
    {gf : Nat} {lb : Array Value} (hg : a.eval g = .func (.func gf) #[] lb) (eg : ∀ args w, (callFunc gf args).run P w = .ok (.enter gf args) w)
    {encs : α → Array Value} {n₀ : Nat} {xs : List α} {N : Nat} {w0 : World} (hseq : SeqStopsK Fence.wide 8 P gf lb encs (Below n₀) (fun ys => ys = xs) (fun pre => pre <+: xs) N w0)
    (hn₀ : n₀ ≤ w.heap.size) (hb0 : Below w0.heap.size w0 w) (hps : ∀ x, (encs x).size = ps.size)
    (I Ib : List α → World → Prop) (hI : OwnFrom w.heap.size I) (hIb : OwnFrom w.heap.size Ib) (h0 : I [] w)
    (hassign : ∀ (l : Nat) (pre : List α) (x : α) (W : World) (K : Act → World → Prop), I pre W → w.heap.size ≤ W.heap.size →
      (I pre (W.alloc (.cells (cs x) t)) → K { tmps := put2 s1 s2 (.pointer (some ⟨W.heap.size, 0, none⟩)) (v2 x) ((ps.zip (encs x)).foldl (fun t (p, v) => t.setIfInBounds p v) a.tmps), defers := [] } (W.alloc (.cells (cs x) t))) →
      assign.wpIn (Fence.wide.inRound l) 7 P (Exit.then K (fun _ _ _ => False)) { tmps := (ps.zip (encs x)).foldl (fun t (p, v) => t.setIfInBounds p v) a.tmps, defers := [] } W)
    (hbody : ∀ (l : Nat) (pre : List α) (x : α) (W : World) (Bx : Nat), I pre W → w.heap.size ≤ Bx → Bx < W.heap.size → W.heap[Bx]? = some (.cells (cs x) t (0, 0)) → pre.length < N →
      body.wpIn (Fence.wide.inRound l) 7 P (ownPostG w.heap.size (Below n₀) I (fun c pre W => c = .exit id ∧ Ib pre W) (pre ++ [x]) W) { tmps := put2 s1 s2 (.pointer (some ⟨Bx, 0, none⟩)) (v2 x) ((ps.zip (encs x)).foldl (fun t (p, v) => t.setIfInBounds p v) a.tmps), defers := [] } W)
    (hfin : ∀ (D : Nat) (W : World), w.heap.size ≤ D → (I xs W ∨ ∃ pre, pre <+: xs ∧ Ib pre W) → W.heap[D]? = some (.deferred (some [])) → Q .normal { a with defers := { target := .collected D, args := #[] } :: a.defers } W) :
    (Code.rangeFunc g ps assign body).wp P (Exit.inBlock id Q) a w := by
  obtain ⟨T, hT⟩ : ∃ T : α → Nat → Array Value, ∀ x Bx, T x Bx = put2 s1 s2 (.pointer (some ⟨Bx, 0, none⟩)) (v2 x) ((ps.zip (encs x)).foldl (fun t (p, v) => t.setIfInBounds p v) a.tmps) := ⟨_, fun _ _ => rfl⟩
  simp only [← hT] at hassign hbody
  exact wp_range_boxT t cs T hg eg hseq hn₀ hb0 hps I Ib hI hIb h0 hassign hbody hfin
/-- Between the rounds. -/
def RI (n L : Nat) (last : Int) (w : World) (pre : List ((Int × Int) × Int)) (W : World) : Prop := Boxed W (n + 1) 50 (.int .u64 (rkPre 0 pre)) ∧ Boxed W L 3 (.int .i64 last) ∧ Below n w W ∧ ∀ x ∈ pre, x.1.1 ≤ last
theorem ri_own (n L : Nat) (last : Int) (w : World) (hn : n ≤ w.heap.size) (C : Nat) (hC2 : n ≤ C) : OwnFrom C (RI n L last w) := fun pre X Y row hs hg hr => by
  obtain ⟨h1, h2, h3, h4⟩ := hs
  have hr' : ∀ r, row = some r → ∃ o : Obj, X.heap[r]? = some o ∧ o.isCells = false := fun r e => (hr r e).2
  exact ⟨ownBlk h1 hg hr', ownBlk h2 hg hr', ownFrom_below (β := Unit) (B := C) hn hC2 () X Y row h3 hg hr, h4⟩
def RIb (n L : Nat) (last : Int) (w : World) (pre : List ((Int × Int) × Int)) (W : World) : Prop := ∃ p x, pre = p ++ [x] ∧ last < x.1.1 ∧ RI n L last w p W
theorem rib_own (n L : Nat) (last : Int) (w : World) (hn : n ≤ w.heap.size) (C : Nat) (hC2 : n ≤ C) : OwnFrom C (RIb n L last w) := fun pre X Y row hs hg hr => by
  obtain ⟨p, x, h1, h2, h3⟩ := hs
  exact ⟨p, x, h1, h2, ri_own n L last w hn C hC2 p X Y row h3 hg hr⟩
set_option maxRecDepth 100000 in
set_option maxHeartbeats 2000000 in
theorem hRank_any (f : Nat) (l : List (Int × Int)) (v : Nat) (a : Option Addr) (len cap : Nat) (w : World) (hf : f ≤ 3) (hL : SlE encB 2 w.heap.size w a len l) (hr : hiRight f l = true) (hbu : BinsU l) (hlen : len ≤ 1000) (hp : ∀ b ∈ l, I64 b.1) (hv : v < 2 ^ 64) :
    Calls Tryz.prog 230 #[.agg #[.int .i64 f, .slice a len cap], .int .u64 v] w fun e w' => e = .returned (.int .u64 (hiRank f l v)) ∧ Below w.heap.size w w' := by
  have hR : Hid (∀ w1, Below w.heap.size w w1 → Calls Tryz.prog 129 #[.agg #[.int .i64 f, .slice a len cap]] w1 fun e w' => e = .returned (.bool true) ∧ Below w1.heap.size w1 w') := fun w1 hb => (hist_Right_any f l a len cap w1 ((hL.below hb).mono hb.size) (by unfold maxLen; omega) (fun b hb => (hp b hb).2)).mono fun e w' h => ⟨by rw [h.1, hr], h.2⟩
  have hBk : Hid (∀ w1, Calls Tryz.prog 236 #[.int .i64 f, .int .u64 v] w1 fun e w' => e = .returned (.int .i64 (hiBk f v)) ∧ Below w1.heap.size w1 w') := fun w1 => Bucket_any f v w1 hf hv
  have HL : Hid (SlE encB 2 w.heap.size w a len l ∧ len ≤ 1000 ∧ BinsU l ∧ len = l.length) := ⟨hL, hlen, hbu, hL.1⟩
  have hlast : ∃ last, hiBk f v = last := ⟨_, rfl⟩
  obtain ⟨last, hla⟩ := hlast
  rw [hla] at hBk
  have HLA := Lib.hid hla
  clear hL hlen hbu hp hr hf hv hla
  obtain ⟨W0, hW0, hX0, hY0, hB0, hs0⟩ := boxes2 w #[.int .i64 f, .slice a len cap] 34 #[.int .u64 0] 50
  have z1 : W0.setCell ⟨w.heap.size + 1, 0, none⟩ (.int .u64 0) = W0 := set_same hY0 rfl
  have y0 : W0.cell? ⟨w.heap.size + 1, 0, none⟩ = some (.int .u64 0) := cell_of_cells hY0 0
  have y9 : W0.frozen? ⟨w.heap.size + 1, 0, none⟩ = false := frozen_of_cells hY0 0
  have HX0 := Lib.hid hX0
  have HY0 := Lib.hid hY0
  have HB0 := Lib.hid hB0
  have k0 : W0.cell? ⟨w.heap.size, 0, none⟩ = some (.int .i64 f) := cell_of_cells hX0 0
  have k1 : W0.cell? ⟨w.heap.size, 1, none⟩ = some (.slice a len cap) := cell_of_cells hX0 1
  clear hX0 hB0 hY0
  refine calls_marks Tryz.func230 rfl ?_
  simp only [Tryz.ntmps230, List.size_toArray, List.length_cons, List.length_nil, Nat.reduceAdd, Nat.reduceSub, Array.replicate_succ, Array.replicate_zero, List.push_toArray, List.append_toArray, List.nil_append, List.cons_append]
  go_wp2_with fail
  go_step3
  go_wp2_with fail
  refine (hR.out _ HB0.out).mono ?_
  rintro e w1 ⟨rfl, hb1⟩
  have hX1 := known hb1 (Nat.le_refl _) HX0.out
  have d0 : w1.cell? ⟨w.heap.size, 0, none⟩ = some (.int .i64 f) := cell_of_cells hX1 0
  have d1 : w1.cell? ⟨w.heap.size, 1, none⟩ = some (.slice a len cap) := cell_of_cells hX1 1
  go_wp2_with fail
  refine (hBk.out _).mono ?_
  rintro e w2 ⟨rfl, hb2⟩
  have hX2 := known hb2 (Nat.le_refl _) hX1
  obtain ⟨W3, hW3, hX3, hB3, hs3⟩ := boxes1 w2 #[.int .i64 last] 3
  have hX30 := known hB3 (Nat.le_refl _) hX2
  have e0 : W3.cell? ⟨w.heap.size, 0, none⟩ = some (.int .i64 f) := cell_of_cells hX30 0
  have e1 : W3.cell? ⟨w.heap.size, 1, none⟩ = some (.slice a len cap) := cell_of_cells hX30 1
  go_wp2_with fail
  apply wp_label
  obtain ⟨W5, hW5, hX5, hB5, hs5⟩ := boxes1 W3 #[.slice a len cap] 32
  have HW5 := Lib.hid hW5
  have hz1 : w.heap.size + 2 ≤ w1.heap.size := by have := hb1.size; omega
  have hz2 : w1.heap.size ≤ w2.heap.size := hb2.size
  have hB35 : Below w2.heap.size w2 W5 := hB3.trans (hB5.mono (by omega))
  have hB15 : Below W0.heap.size W0 W5 := hb1.trans ((hb2.trans (hB35.mono hz2)).mono (by omega))
  have hB05 : Below w.heap.size w W5 := HB0.out.trans (hB15.mono HB0.out.size)
  have H0 : Hid (RI w.heap.size w2.heap.size last w [] W5) := ⟨known hB15 (Nat.le_refl _) HY0.out, known hB5 (Nat.le_refl _) hX3, hB05, fun x hx => by cases hx⟩
  have HS := Lib.hid (sums_seq W3.heap.size w.heap.size a len cap l (by have := HL.out.2.1; omega) HL.out.2.2.1 W5 (by omega) (by omega) (cell_of_cells hX5 0) (HL.out.1.below hB05))
  have HZ : Hid (w.heap.size + 2 ≤ w1.heap.size ∧ w1.heap.size ≤ w2.heap.size ∧ W3.heap.size = w2.heap.size + 1 ∧ W5.heap.size = W3.heap.size + 1) := ⟨hz1, hz2, hs3, hs5⟩
  rw [hs3] at HS
  clear hW5 hX5 hB5 hB35 hB15 hB05 hX1 hX2 hX3 hX30 hB3 hb1 hb2 hz1 hz2 hs5
  go_wp2_with (go_at_call 238; refine (sums_any _ _ _ _).mono ?_; rintro e w' ⟨rfl, rfl⟩; rw [HW5.out])
  have hzz := HZ.out
  refine wp_range_box2 145 (fun x : (Int × Int) × Int => #[.int .i64 x.1.1, .int .u64 x.1.2]) 7 8 (fun x => .int .u64 x.2) (gf := 243) (lb := #[.pointer (some ⟨w2.heap.size + 1, 0, none⟩)]) rfl (enters_of Tryz.func243 (by kernel_rfl) rfl)
    HS.out (by omega) (Below.refl _ _) (fun _ => rfl) (RI w.heap.size w2.heap.size last w) (RIb w.heap.size w2.heap.size last w) (ri_own w.heap.size w2.heap.size last w (Nat.le_refl _) _ (by omega)) (rib_own w.heap.size w2.heap.size last w (Nat.le_refl _) _ (by omega)) H0.out ?assign ?body ?fin
  case assign =>
    rintro lo pre x W K hI hz hK
    simp only [put2, List.zip_toArray, List.zip_cons_cons, List.zip_nil_right, List.size_toArray, List.foldl_toArray', List.foldl_cons, List.foldl_nil, List.setIfInBounds_toArray, List.set_cons_succ, List.set_cons_zero] at hK ⊢
    gi_wp2
    refine ⟨?_, ?_, ?_, hI.2.2.2⟩
    · exact (((Below.refl _ W).alloc (Nat.le_refl _) _).block _ hI.1.lt).trans hI.1
    · exact (((Below.refl _ W).alloc (Nat.le_refl _) _).block _ hI.2.1.lt).trans hI.2.1
    · exact hI.2.2.1.alloc (by omega) _
  case body =>
    rintro lo pre x W Bx ⟨hI1, hI2, hI3, hI4⟩ hb1 hb2 hX hlt
    simp only [put2, List.zip_toArray, List.zip_cons_cons, List.zip_nil_right, List.size_toArray, List.foldl_toArray', List.foldl_cons, List.foldl_nil, List.setIfInBounds_toArray, List.set_cons_succ, List.set_cons_zero]
    have q0 := hI1.cell
    have q1 := hI1.frozen
    have q2 := hI2.cell
    have k0 : W.cell? ⟨Bx, 0, none⟩ = some (.int .i64 x.1.1) := cell_of_cells hX 0
    have k1 : W.cell? ⟨Bx, 1, none⟩ = some (.int .u64 x.1.2) := cell_of_cells hX 1
    have HI : Hid (RI w.heap.size w2.heap.size last w pre W) := ⟨hI1, hI2, hI3, hI4⟩
    clear hI1 hI2 hI3 hI4 hX
    by_cases hgt : last < x.1.1
    · gi_wp2_with fail
      exact ⟨KeepsFrom.refl _ _, rfl, pre, x, rfl, hgt, HI.out⟩
    · gi_wp2_with fail
      obtain ⟨hI1, hI2, hI3, hI4⟩ := HI.out
      have hB : Below w.heap.size W (W.setCell ⟨w.heap.size + 1, 0, none⟩ (.int .u64 x.2)) := (Below.refl _ W |>.mono hI3.size).setCell (p := ⟨w.heap.size + 1, 0, none⟩) (by show _ ≤ _ + 1; omega) _
      refine ⟨(KeepsOthers.setCell W _ _).from _, hB, ?_, ?_, hI3.trans hB, ?_⟩
      · rw [rkPre_snoc]
        exact heap_set_known hI1 _
      · exact (heap_set_other (p := ⟨w.heap.size + 1, 0, none⟩) (by show w.heap.size + 1 ≠ w2.heap.size; omega) _).trans hI2
      · intro y hy
        rcases List.mem_append.1 hy with h | h
        · exact hI4 y h
        · obtain rfl : y = x := by simpa using h
          omega
  case fin =>
    rintro D W hD hI hKD
    obtain ⟨hv, hk⟩ : Boxed W (w.heap.size + 1) 50 (.int .u64 (hiRank f l v)) ∧ Below w.heap.size w W := by
      unfold hiRank
      rw [HLA.out]
      rcases hI with hI | ⟨pre, ⟨q, hq⟩, p, x, rfl, hx, hI⟩
      · have h1 := rkGo_pre last (hsSums 0 l) 0 [] hI.2.2.2
        rw [List.append_nil] at h1
        rw [h1]
        exact ⟨hI.1, hI.2.2.1⟩
      · rw [← hq, List.append_assoc, rkGo_pre last p 0 _ hI.2.2.2]
        show Boxed W (w.heap.size + 1) 50 (.int .u64 (if last < x.1.1 then rkPre 0 p else rkGo last x.2 q)) ∧ _
        rw [if_pos hx]
        exact ⟨hI.1, hI.2.2.1⟩
    have q0 := hv.cell
    go_wp2_with fail
    rw [Exit.noGoto_ret]
    exact marks_ret1 (v := .int .u64 (hiRank f l v)) hKD (by simp [results, Tryz.f230, go_sem]) ⟨rfl, bPutD hk (by omega) hKD⟩
end Go.Proofs.YtmkefodaibmkhaaGreatDoor
