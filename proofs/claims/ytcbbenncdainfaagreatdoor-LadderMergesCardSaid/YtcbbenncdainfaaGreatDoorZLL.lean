/- Package ladder: a body's add and lower through the interface. Package ladder: lowered. Package ladder: a sketch as a value and its body at work. Package ladder: stores into a box, kept bodies and sketches; lowered at the bottom; told. The law of a range over an iterator that goes on for ever: the body leaves it by its label. ladder.levels. Package ladder: to. Package ladder: To, Lower, Add on sketches at work. Printed by gen_ll.py. -/
import Derived.Test.YtcbbenncdainfaaGreatDoorZRK
namespace Go.Proofs.YtcbbenncdainfaaGreatDoor
open Go Go.RowKit Go.Shelf
theorem hist_run (f : Nat) : ∀ (l : List (Int × Int)) (last : Int), BinUp l → (∀ b ∈ l, last < b.1) → (∀ b ∈ l, b.2 ≠ 0) → (∀ b ∈ l, boundsB f b.1 = true) → (foldO (histStep f) last l).isSome = true
 | [], last, _, _, _, _ => by simp [foldO_nil]
 | b :: t, last, hu, h1, h2, h3 => by
  obtain ⟨u1, u2⟩ := binUp_tail hu
  have hs : histStep f last b = some b.1 := by
   unfold histStep
   have a1 := h1 b List.mem_cons_self
   have a2 := h2 b List.mem_cons_self
   have a3 := h3 b List.mem_cons_self
   rw [if_neg]
   simp [a2, a3]
   omega
  rw [foldO_cons, hs]
  exact hist_run f t b.1 u1 u2 (fun c hc => h2 c (List.mem_cons_of_mem _ hc)) (fun c hc => h3 c (List.mem_cons_of_mem _ hc))
theorem hiRight_of (f : Nat) (l : List (Int × Int)) (hf : f ≤ 3) (hu : BinUp l) (h2 : ∀ b ∈ l, b.2 ≠ 0) (h3 : ∀ b ∈ l, boundsB f b.1 = true) : hiRight f l = true := by
 unfold hiRight
 rw [isFine_nat f hf, hist_run f l (-1) hu (fun b hb => by have := bounds_le f hf b.1 (h3 b hb); omega) h2 h3]
 rfl
theorem up_fin : ∀ (l : List (Int × Int)) (lo : Int), BinUp l → (∀ b ∈ l, lo < b.1) → (∀ b ∈ l, b.1 ≤ 512) → lo ≤ 512 → (l.length : Int) ≤ 512 - lo
 | [], lo, _, _, _, h => by simp; omega
 | b :: t, lo, hu, h1, h2, h => by
  obtain ⟨u1, u2⟩ := binUp_tail hu
  have a1 := h1 b List.mem_cons_self
  have a2 := h2 b List.mem_cons_self
  have := up_fin t b.1 u1 u2 (fun c hc => h2 c (List.mem_cons_of_mem _ hc)) a2
  simp only [List.length_cons]
  omega
theorem bins_len (f : Nat) (l : List (Int × Int)) (hf : f ≤ 3) (hu : BinUp l) (h3 : ∀ b ∈ l, boundsB f b.1 = true) : l.length ≤ 513 := by
 have := up_fin l (-1) hu (fun b hb => by have := bounds_le f hf b.1 (h3 b hb); omega) (fun b hb => (bounds_le f hf b.1 (h3 b hb)).2) (by omega)
 omega
theorem bins_i64 (f : Nat) (l : List (Int × Int)) (hf : f ≤ 3) (h3 : ∀ b ∈ l, boundsB f b.1 = true) : ∀ b ∈ l, I64 b.1 := fun b hb => by have := bounds_le f hf b.1 (h3 b hb); unfold I64; omega
theorem cols_of {c level : Nat} (h : c * 2 ^ level = 32) (hl : level ≤ 3) : c = 4 ∨ c = 8 ∨ c = 16 ∨ c = 32 := by
 rcases (by omega : level = 0 ∨ level = 1 ∨ level = 2 ∨ level = 3) with rfl | rfl | rfl | rfl <;> simp at h <;> omega
theorem cols_low {c level : Nat} (h : c * 2 ^ level = 32) (hl : level < 3) : c = 8 ∨ c = 16 ∨ c = 32 := by
 rcases (by omega : level = 0 ∨ level = 1 ∨ level = 2) with rfl | rfl | rfl <;> simp at h <;> omega
theorem m_low_num (x : Value) (w : World) : (method 392 144 (.agg #[x]) "aviary/ladder.lower").run Tryz.prog w = .ok (133, .agg #[x]) w := by kernel_rfl
theorem m_low_reg (x y : Value) (w : World) : (method 392 147 (.agg #[x, y]) "aviary/ladder.lower").run Tryz.prog w = .ok (163, .agg #[x, y]) w := by kernel_rfl
theorem m_low_cnt (x y z : Value) (w : World) : (method 392 148 (.agg #[x, y, z]) "aviary/ladder.lower").run Tryz.prog w = .ok (173, .agg #[x, y, z]) w := by kernel_rfl
theorem m_low_bkt (x y : Value) (w : World) : (method 392 150 (.agg #[x, y]) "aviary/ladder.lower").run Tryz.prog w = .ok (192, .agg #[x, y]) w := by kernel_rfl
theorem lower_at {w : World} {v : Value} {B : Bd} {kind level : Nat} (hb : BdAt w v B) (hok : B.Ok kind level) (hlv : level < botN kind) : ∃ T rv f, v = .iface T rv ∧ (∀ W, (method 392 T rv "aviary/ladder.lower").run Tryz.prog W = .ok (f, rv) W) ∧ (∀ args W, (callFunc f args).run Tryz.prog W = .ok (.enter f args) W) ∧
  ∀ W, BdAt W v B → Calls Tryz.prog f #[rv] W (BodyPost (some B.low) W) := by
 cases B with
 | num l =>
  obtain ⟨a, len, cap, rfl, -⟩ := hb
  obtain ⟨-, -, o3, o4, o5⟩ := hok
  refine ⟨_, _, _, rfl, fun W => m_low_num _ W, enters_of Tryz.func133 (by kernel_rfl) rfl, fun W hW => ?_⟩
  obtain ⟨a', len', cap', e, hS⟩ := hW
  cases e
  exact low_num l a len cap W hS o5 (by omega)
 | reg b r =>
  obtain rfl : v = _ := hb
  obtain ⟨o1, o2, o3, o4, o5, o6⟩ := hok
  subst o1
  have : botN 1 = 4 := rfl
  refine ⟨_, _, _, rfl, fun W => m_low_reg _ _ W, enters_of Tryz.func163 (by kernel_rfl) rfl, fun W hW => ?_⟩
  exact low_reg b r W (by omega) (by omega) o5 o6
 | cnt c l =>
  obtain ⟨a, len, cap, rfl, -⟩ := hb
  obtain ⟨o1, o2, o3, o4, o5⟩ := hok
  subst o1
  have : botN 2 = 3 := rfl
  refine ⟨_, _, _, rfl, fun W => m_low_cnt _ _ _ W, enters_of Tryz.func173 (by kernel_rfl) rfl, fun W hW => ?_⟩
  obtain ⟨a', len', cap', e, hS⟩ := hW
  cases e
  exact low_cnt c l a len cap W (cols_low o3 (by omega)) hS o4 o5
 | bkt f l =>
  obtain ⟨a, len, cap, rfl, -⟩ := hb
  obtain ⟨o1, o2, o3, o4, o5, o6, o7⟩ := hok
  subst o1
  have : botN 3 = 3 := rfl
  refine ⟨_, _, _, rfl, fun W => m_low_bkt _ _ W, enters_of Tryz.func192 (by kernel_rfl) rfl, fun W hW => ?_⟩
  obtain ⟨a', len', cap', e, hS⟩ := hW
  cases e
  have hf : f ≤ 3 := by omega
  exact low_bkt f l a len cap W (by omega) hf hS (hiRight_of f l hf o4 o5 o7) o7 o6 (by have := bins_len f l hf o4 o7; omega)
end Go.Proofs.YtcbbenncdainfaaGreatDoor
namespace Go.Proofs.YtcbbenncdainfaaGreatDoor
open Go Go.RowKit Go.Shelf
theorem bot_eq {B : Bd} {kind level : Nat} (h : B.Ok kind level) : bottomB (kind : Int) = (botN kind : Int) ∧ level ≤ botN kind := by
 cases B with
 | num l => obtain ⟨rfl, rfl, -⟩ := h; exact ⟨rfl, by decide⟩
 | reg b r => obtain ⟨rfl, -, h, -⟩ := h; exact ⟨rfl, h⟩
 | cnt c l => obtain ⟨rfl, h, -⟩ := h; exact ⟨rfl, h⟩
 | bkt f l => obtain ⟨rfl, h, -⟩ := h; exact ⟨rfl, h⟩
theorem bd_iface {W : World} {v : Value} {B : Bd} (h : BdAt W v B) : ∃ T rv, v = .iface T rv := by
 cases B with
 | num l => obtain ⟨a, len, cap, rfl, -⟩ := h; exact ⟨_, _, rfl⟩
 | reg b r => exact ⟨_, _, h⟩
 | cnt c l => obtain ⟨a, len, cap, rfl, -⟩ := h; exact ⟨_, _, rfl⟩
 | bkt f l => obtain ⟨a, len, cap, rfl, -⟩ := h; exact ⟨_, _, rfl⟩
def OnlyAt (b : Nat) (W V : World) : Prop := V.heap.size = W.heap.size ∧ ∀ k, k ≠ b → V.heap[k]? = W.heap[k]?
theorem OnlyAt.refl (b : Nat) (W : World) : OnlyAt b W W := ⟨rfl, fun _ _ => rfl⟩
theorem OnlyAt.set {b : Nat} {W V : World} (h : OnlyAt b W V) (o : Nat) (v : Value) : OnlyAt b W (V.setCell ⟨b, o, none⟩ v) := ⟨(size_set V _ v).trans h.1, fun k hk => (heap_set_other (p := ⟨b, o, none⟩) (fun e => hk e.symm) v).trans (h.2 k hk)⟩
theorem slC_apart {α : Type} {enc : α → List Value} {k i0 : Nat} (hi : i0 < k) (hu : ∀ x, ∃ u, (enc x)[i0]? = some (.int .u64 u)) {W V : World} {b : Nat} {cs : Array Value} {t : TypeId} (hX : W.heap[b]? = some (.cells cs t (0, 0))) (hc : ∀ (i : Nat) (u : Int), cs[i]? ≠ some (Value.int .u64 u)) (hV : OnlyAt b W V)
  {a : Option Addr} {len cap : Nat} {l : List α} (h : SlC enc k W.heap.size W a len cap l) : SlC enc k V.heap.size V a len cap l := by
 rw [hV.1]
 refine ⟨⟨h.1.1, fun j x hx => ?_⟩, h.2⟩
 obtain ⟨g, off, e, hg, hcell⟩ := h.1.2 j x hx
 have hne : g ≠ b := fun e => by
  subst e
  obtain ⟨u, hu⟩ := hu x
  have h1 := hcell i0 hi
  rw [hu, cCc hX] at h1
  exact hc _ u h1
 exact ⟨g, off, e, hg, fun i hi => (World.cell?_of_block (show V.heap[g]? = W.heap[g]? from hV.2 g hne)).trans (hcell i hi)⟩
theorem BdAt.apart {W V : World} {v : Value} {B : Bd} (h : BdAt W v B) {b : Nat} {cs : Array Value} {t : TypeId} (hX : W.heap[b]? = some (.cells cs t (0, 0))) (hc : ∀ (i : Nat) (u : Int), cs[i]? ≠ some (Value.int .u64 u)) (hV : OnlyAt b W V) : BdAt V v B := by
 cases B with
 | num l => obtain ⟨a, len, cap, h1, h2⟩ := h; exact ⟨a, len, cap, h1, slC_apart (i0 := 0) (by decide) (fun x => ⟨x, rfl⟩) hX hc hV h2⟩
 | reg b r => exact h
 | cnt c l => obtain ⟨a, len, cap, h1, h2⟩ := h; exact ⟨a, len, cap, h1, slC_apart (i0 := 0) (by decide) (fun x => ⟨x, rfl⟩) hX hc hV h2⟩
 | bkt f l => obtain ⟨a, len, cap, h1, h2⟩ := h; exact ⟨a, len, cap, h1, slC_apart (i0 := 1) (by decide) (fun x => ⟨x.2, rfl⟩) hX hc hV h2⟩
theorem no_u64 {i : Nat} {x y z : Value} (hx : ∀ u, x ≠ .int .u64 u) (hy : ∀ u, y ≠ .int .u64 u) (hz : ∀ u, z ≠ .int .u64 u) (u : Int) : (#[x, y, z] : Array Value)[i]? ≠ some (.int .u64 u) := by
 intro h
 rcases i with _ | _ | _ | i
 ·exact hx u (by simpa using h)
 ·exact hy u (by simpa using h)
 ·exact hz u (by simpa using h)
 ·simp at h
theorem drewN_below {w : World} (n : Nat) : Below w.heap.size w (w.drewN n) := bDr (Below.refl _ _) n
set_option maxRecDepth 100000 in
set_option maxHeartbeats 2000000 in
theorem lowered_any (v : Value) (B : Bd) (kind level : Nat) (w : World) (hb : BdAt w v B) (hok : B.Ok kind level) (hlv : level < botN kind) :
  Calls Tryz.prog 39 #[.agg #[v, .int .i64 kind, .int .i64 level]] w fun e w' => ∃ v', e = .returned (.tuple #[.agg #[v', .int .i64 kind, .int .i64 ((level : Int) + 1)], .nilIface]) ∧ BdAt w' v' B.low ∧ Below w.heap.size w w' := by
 obtain ⟨T, rv, f, rfl, hm, hcf, hc⟩ := lower_at hb hok hlv
 obtain ⟨W0, hW0, hXp, hXr, hB0, hs0⟩ := boxes2 w #[.iface T rv, .int .i64 kind, .int .i64 level] 60 #[.nilIface, .int .i64 0, .int .i64 0] 60
 have HBT : Hid (∀ w, Calls Tryz.prog 21 #[.int .i64 kind] w fun e w' => e = .returned (.int .i64 (botN kind : Nat)) ∧ w' = w) := fun w => (Bottom_any kind w).mono fun e w' ⟨h1, h2⟩ => ⟨by rw [h1, (bot_eq hok).1], h2.symm⟩
 obtain ⟨c0, c1, c2⟩ := cl3 hXp
 have HXP := Lib.hid hXp
 have HXR := Lib.hid hXr
 have HB0 := Lib.hid hB0
 have HB := Lib.hid (hb.go hB0)
 have HC := Lib.hid hc
 have t1 : decide ((botN kind : Int) ≤ (level : Int)) = false := by simp; omega
 have hb4 : botN kind ≤ 4 := by unfold botN; split <;> omega
 clear hXp hXr hB0 hb hc hok
 go_enter Tryz.func39, Tryz.ntmps39
 go_wp2_with fail
 go_quiet ((go_at_call 21; exact Calls.quiet_of_same (HBT.out _)))
 go_wp2_with fail
 have hB1 := drewN_below (w := W0) nq
 refine (HC.out _ (HB.out.go hB1)).mono ?_
 rintro e w1 ⟨hb1, v', rfl, hv1⟩
 obtain ⟨T', rv', rfl⟩ := bd_iface hv1
 have hX1 := known (hB1.trans hb1) (Nat.le_refl _) HXP.out
 have hR1 := known (hB1.trans hb1) (Nat.le_refl _) HXR.out
 have hB01 : Below w.heap.size w w1 := HB0.out.trans ((hB1.trans hb1).mono HB0.out.size)
 have hw1 : wrap64 ((level : Int) + 1) = (level : Int) + 1 := by unfold wrap64; omega
 have hw2 : IntKind.i64.wrap ((level : Int) + 1) = ((level : Int) + 1) := IntWalk.i64_in _ (by omega)
 obtain ⟨d0, d1, d2⟩ := cl3 hX1
 obtain ⟨r0, r1, r2⟩ := cl3 hR1
 obtain ⟨g0, g1, g2⟩ := cz3 hR1
 have hX6 := set_cells3 (u := .iface T' rv') (v := .int .i64 kind) (q := .int .i64 ((level : Int) + 1)) hR1
 have hB6 := ((hB01.setCell (p := ⟨w.heap.size + 1, 0, none⟩) (Nat.le_succ _) (.iface T' rv')).setCell (p := ⟨w.heap.size + 1, 1, none⟩) (Nat.le_succ _) (.int .i64 kind)).setCell (p := ⟨w.heap.size + 1, 2, none⟩) (Nat.le_succ _) (.int .i64 ((level : Int) + 1))
 have HV : Hid (BdAt w1 (.iface T' rv') B.low) := hv1
 have HR1 := Lib.hid hR1
 clear hX1 hR1 hB01 hv1 hb1 hB1
 go_wp2_with fail
 have hgV : BdAt (((w1.setCell ⟨w.heap.size + 1, 0, none⟩ (.iface T' rv')).setCell ⟨w.heap.size + 1, 1, none⟩ (.int .i64 kind)).setCell ⟨w.heap.size + 1, 2, none⟩ (.int .i64 ((level : Int) + 1))) (.iface T' rv') B.low := BdAt.apart (B := B.low) HV.out HR1.out (fun i u => no_u64 (by simp) (by simp) (by simp) u) ((((OnlyAt.refl _ _).set _ _).set _ _).set _ _)
 generalize ((w1.setCell ⟨w.heap.size + 1, 0, none⟩ (.iface T' rv')).setCell ⟨w.heap.size + 1, 1, none⟩ (.int .i64 kind)).setCell ⟨w.heap.size + 1, 2, none⟩ (.int .i64 ((level : Int) + 1)) = V at hX6 hB6 hgV ⊢
 obtain ⟨k0, k1, k2⟩ := cl3 hX6
 exact bodyPost_ret (v := .tuple #[.agg #[.iface T' rv', .int .i64 kind, .int .i64 ((level : Int) + 1)], .nilIface]) (by simp [results, Tryz.f39, go_sem, k0, k1, k2]) rfl ⟨_, rfl, hgV, hB6⟩
end Go.Proofs.YtcbbenncdainfaaGreatDoor
namespace Go.Proofs.YtcbbenncdainfaaGreatDoor
open Go Go.RowKit Go.Shelf
def skOf (kind level : Nat) : Bd → Sk
 | .num l => skNum kind level l
 | .reg b r => skReg kind level b (hlStr r)
 | .cnt c l => skCnt kind level 2 c l
 | .bkt f l => skBkt kind level f l
theorem sk_same (x : Sk) : skSame x x = true := by simp [skSame]
theorem skOf_kind (k L : Nat) (B : Bd) : (skOf k L B).kind = k ∧ (skOf k L B).level = L := by cases B <;> exact ⟨rfl, rfl⟩
theorem ok_kind {B : Bd} {k L : Nat} (h : B.Ok k L) : k = 1 ∨ k = 2 ∨ k = 3 := by
 cases B with
 | num l => exact .inl h.1
 | reg b r => exact .inl h.1
 | cnt c l => exact .inr (.inl h.1)
 | bkt f l => exact .inr (.inr h.1)
theorem cols_div {c level : Nat} (h : c * 2 ^ level = 32) (hl : level ≤ 3) : ((c : Int) == 32 / 2 ^ level) = true := by
 rw [beq_iff_eq]
 rcases (by omega : level = 0 ∨ level = 1 ∨ level = 2 ∨ level = 3) with rfl | rfl | rfl | rfl <;> simp at h ⊢ <;> omega
theorem skOf_canon {B : Bd} {k L : Nat} (h : B.Ok k L) : skCanon (skOf k L B) = skOf k L B := by
 cases B with
 | num l =>
  obtain ⟨rfl, rfl, -⟩ := h
  rfl
 | reg b r =>
  obtain ⟨rfl, h1, -⟩ := h
  have h0 : (((L : Nat) : Int) == 0) = false := by simp; omega
  show (if ((1 : Nat) : Int) == 1 then if (L : Int) == 0 then _ else _ else _) = _
  rw [h0]
  rfl
 | cnt c l =>
  obtain ⟨rfl, -⟩ := h
  rfl
 | bkt f l =>
  obtain ⟨rfl, -⟩ := h
  rfl
theorem skOf_body {B : Bd} {k L : Nat} (h : B.Ok k L) : bodyRight (skOf k L B) = true := by
 cases B with
 | num l =>
  obtain ⟨rfl, rfl, h3, h4, -⟩ := h
  exact up_right l h3 h4
 | reg b r =>
  obtain ⟨rfl, h1, h2, h3, h4, h5⟩ := h
  have h0 : (((L : Nat) : Int) == 0) = false := by simp; omega
  show (if ((1 : Nat) : Int) == 1 then if (L : Int) == 0 then _ else hlRight (b : Int) (hlStr r) && ((b : Int) == 8 - (L : Int)) else _) = true
  rw [h0, hlRight_str b r (by omega) (by omega) h4 h5]
  simp
  omega
 | cnt c l =>
  obtain ⟨rfl, h2, h3, h4, -⟩ := h
  show (cmRight 2 (c : Int) l && ((2 : Int) == 2) && ((c : Int) == 32 / 2 ^ ((L : Int)).toNat)) = true
  rw [Int.toNat_natCast, cols_div h3 h2]
  unfold cmRight
  rw [shape_any c (cols_of h3 h2)]
  simp
  omega
 | bkt f l =>
  obtain ⟨rfl, h2, h3, h4, h5, -, h7⟩ := h
  show (hiRight (f : Int) l && ((f : Int) == 3 - (L : Int))) = true
  rw [hiRight_of f l (by omega) h4 h5 h7]
  simp
  omega
theorem skOf_ok {B : Bd} {k L : Nat} (h : B.Ok k L) : skOk (skOf k L B) = true := by
 unfold skOk
 rw [skOf_body h, skOf_canon h, sk_same, (skOf_kind k L B).1, (skOf_kind k L B).2, (bot_eq h).1]
 have h1 := (bot_eq h).2
 have h2 := ok_kind h
 simp
 omega
theorem skOf_fit {B : Bd} {k L : Nat} (h : B.Ok k L) : (skOf k L B).fit := by
 cases B with
 | bkt f l =>
  obtain ⟨rfl, h2, h3, h4, h5, -, h7⟩ := h
  exact fun b hb => (bins_i64 f l (by omega) h7 b hb).2
 | num l => exact fun b hb => by cases hb
 | reg b r => exact fun b hb => by cases hb
 | cnt c l => exact fun b hb => by cases hb
def SkB (W : World) (v : Value) (k L : Nat) (B : Bd) : Prop := ∃ (y : Sk) (s : SS), y = skOf k L B ∧ v = .agg #[.int .i64 y.kind, .int .i64 y.level, .slice s.ea s.el s.ec, .int .i64 y.hb, .string y.hr, .int .i64 y.cr, .int .i64 y.cc, .slice s.ca s.cl s.cc, .int .i64 y.gf, .slice s.ga s.gl s.gc] ∧ s.At W.heap.size W y
theorem SkB.go {W W' : World} {v : Value} {k L : Nat} {B : Bd} (h : SkB W v k L B) (hb : Below W.heap.size W W') : SkB W' v k L B := by
 obtain ⟨y, s, h0, h1, h2⟩ := h
 exact ⟨y, s, h0, h1, h2.go hb⟩
theorem at_short {s : SS} {k L : Nat} {B : Bd} {n : Nat} {W : World} (h : B.Ok k L) (hA : s.At n W (skOf k L B)) : s.Short := by
 have e1 : s.el = (skOf k L B).e.length := hA.e.1.1
 have e2 : s.cl = (skOf k L B).cl.length := hA.c.1.1
 have e3 : s.gl = (skOf k L B).gl.length := hA.g.1.1
 unfold SS.Short
 rw [e1, e2, e3]
 cases B with
 | num l =>
  obtain ⟨-, -, -, h4, -⟩ := h
  show l.length < _ ∧ 0 < _ ∧ 0 < _
  omega
 | reg b r => show 0 < _ ∧ 0 < _ ∧ 0 < _; omega
 | cnt c l =>
  obtain ⟨-, h2, h3, h4, -⟩ := h
  have := cols_of h3 h2
  show 0 < _ ∧ l.length < _ ∧ 0 < _
  omega
 | bkt f l =>
  obtain ⟨-, h2, h3, h4, -, -, h7⟩ := h
  have := bins_len f l (by omega) h4 h7
  show 0 < _ ∧ 0 < _ ∧ l.length < _
  omega
theorem skBody_at {s : SS} {k L : Nat} {B : Bd} {W : World} (h : B.Ok k L) (hA : s.At W.heap.size W (skOf k L B)) : BdAt W (skBody (skOf k L B) s) B := by
 cases B with
 | num l =>
  obtain ⟨rfl, rfl, -⟩ := h
  exact ⟨s.ea, s.el, s.ec, rfl, hA.e⟩
 | reg b r =>
  obtain ⟨rfl, h1, -⟩ := h
  have h0 : (((L : Nat) : Int) == 0) = false := by simp; omega
  show (if ((1 : Nat) : Int) == 1 then if (L : Int) == 0 then _ else _ else _) = _
  rw [h0]
  rfl
 | cnt c l =>
  obtain ⟨rfl, -⟩ := h
  exact ⟨s.ca, s.cl, s.cc, rfl, hA.c⟩
 | bkt f l =>
  obtain ⟨rfl, -⟩ := h
  exact ⟨s.ga, s.gl, s.gc, rfl, hA.g⟩
theorem open_sk_any {k L : Nat} {B : Bd} {v : Value} {w : World} (h : B.Ok k L) (hv : SkB w v k L B) :
  Calls Tryz.prog 31 #[v] w fun e w' => ∃ b, e = .returned (.tuple #[.agg #[b, .int .i64 k, .int .i64 L], .nilIface]) ∧ BdAt w' b B ∧ Below w.heap.size w w' := by
 obtain ⟨y, s, rfl, rfl, hA⟩ := hv
 refine (open_any (skOf k L B) s w hA (at_short h hA) (skOf_fit h)).mono ?_
 rintro e w' ⟨h1, h2⟩
 rw [skOf_ok h, (skOf_kind k L B).1, (skOf_kind k L B).2] at h1
 exact ⟨_, h1, skBody_at h (hA.go h2), h2⟩
theorem sketch_sk {k L : Nat} {B : Bd} {v : Value} {w : World} (h : B.Ok k L) (hv : BdAt w v B) :
  Calls Tryz.prog 63 #[.agg #[v, .int .i64 k, .int .i64 L]] w fun e w' => ∃ x, e = .returned x ∧ SkB w' x k L B ∧ Below w.heap.size w w' := by
 cases B with
 | num l =>
  obtain ⟨a, len, cap, rfl, hS⟩ := hv
  refine (sketch_num k L l a len cap w hS.1 (by have := h.2.2.2.1; have := hS.1.1; omega)).mono ?_
  rintro e w' ⟨s, rfl, hs, -, -, -, hb⟩
  exact ⟨_, rfl, ⟨_, s, rfl, rfl, hs⟩, hb⟩
 | reg b r =>
  obtain rfl : v = _ := hv
  refine (sketch_reg k L b (hlStr r) w).mono ?_
  rintro e w' ⟨s, rfl, hs, -, -, -, hb⟩
  exact ⟨_, rfl, ⟨_, s, rfl, rfl, hs⟩, hb⟩
 | cnt c l =>
  obtain ⟨a, len, cap, rfl, hS⟩ := hv
  refine (sketch_cnt k L 2 c l a len cap w hS.1 (by have := cols_of h.2.2.1 h.2.1; have := h.2.2.2.1; have := hS.1.1; omega)).mono ?_
  rintro e w' ⟨s, rfl, hs, -, -, -, hb⟩
  exact ⟨_, rfl, ⟨_, s, rfl, rfl, hs⟩, hb⟩
 | bkt f l =>
  obtain ⟨a, len, cap, rfl, hS⟩ := hv
  refine (sketch_bkt k L f l a len cap w hS.1 (by have := bins_len f l (by have := h.2.2.1; omega) h.2.2.2.1 h.2.2.2.2.2.2; have := hS.1.1; omega)).mono ?_
  rintro e w' ⟨s, rfl, hs, -, -, -, hb⟩
  exact ⟨_, rfl, ⟨_, s, rfl, rfl, hs⟩, hb⟩
end Go.Proofs.YtcbbenncdainfaaGreatDoor
namespace Go.Proofs.YtcbbenncdainfaaGreatDoor
open Go Go.RowKit Go.Shelf
theorem OnlyAt.trans {b : Nat} {W V U : World} (h1 : OnlyAt b W V) (h2 : OnlyAt b V U) : OnlyAt b W U := ⟨h2.1.trans h1.1, fun k hk => (h2.2 k hk).trans (h1.2 k hk)⟩
theorem set_same {W : World} {B i : Nat} {c : Array Value} {t : TypeId} {fz : Nat × Nat} {v : Value} (h : W.heap[B]? = some (.cells c t fz)) (hv : c[i]? = some v) : W.setCell ⟨B, i, none⟩ v = W := by
 have hc : c.setIfInBounds i v = c := by
  obtain ⟨hi, rfl⟩ := Array.getElem?_eq_some_iff.1 hv
  apply Array.ext (by simp)
  intro j h1 h2
  rw [Array.getElem_setIfInBounds]
  split
  ·rename_i e; subst e; rfl
  ·rfl
 have key : (W.setCell ⟨B, i, none⟩ v).heap = W.heap := by
  apply Array.ext (size_set W _ v)
  intro j h1 h2
  have a1 : (W.setCell ⟨B, i, none⟩ v).heap[j]? = W.heap[j]? := by
   by_cases hj : B = j
   ·subst hj
    rw [hSk h, h, hc]
   ·exact heap_set_other (p := ⟨B, i, none⟩) hj v
  rw [Array.getElem?_eq_getElem h1, Array.getElem?_eq_getElem h2] at a1
  exact Option.some.inj a1
 have e : W.setCell ⟨B, i, none⟩ v = { W with heap := (W.setCell ⟨B, i, none⟩ v).heap } := rfl
 rw [e, key]
theorem store3 {W : World} {b : Nat} {x y z : Value} (u v q : Value) {t : TypeId} (h : W.heap[b]? = some (.cells #[x, y, z] t (0, 0))) : ∃ V, ((W.setCell ⟨b, 0, none⟩ u).setCell ⟨b, 1, none⟩ v).setCell ⟨b, 2, none⟩ q = V ∧ V.heap[b]? = some (.cells #[u, v, q] t (0, 0)) ∧ OnlyAt b W V ∧ ∀ n w0, Below n w0 W → n ≤ b → Below n w0 V :=
 ⟨_, rfl, set_cells3 h, (((OnlyAt.refl _ _).set _ _).set _ _).set _ _, fun _ _ hB hn => ((hB.setCell (p := ⟨b, 0, none⟩) hn _).setCell (p := ⟨b, 1, none⟩) hn _).setCell (p := ⟨b, 2, none⟩) hn _⟩
theorem store10 {W : World} {b : Nat} {x0 x1 x2 x3 x4 x5 x6 x7 x8 x9 : Value} (v0 v1 v2 v3 v4 v5 v6 v7 v8 v9 : Value) {t : TypeId} (h : W.heap[b]? = some (.cells #[x0, x1, x2, x3, x4, x5, x6, x7, x8, x9] t (0, 0))) :
  ∃ V, (((((((((W.setCell ⟨b, 0, none⟩ v0).setCell ⟨b, 1, none⟩ v1).setCell ⟨b, 2, none⟩ v2).setCell ⟨b, 3, none⟩ v3).setCell ⟨b, 4, none⟩ v4).setCell ⟨b, 5, none⟩ v5).setCell ⟨b, 6, none⟩ v6).setCell ⟨b, 7, none⟩ v7).setCell ⟨b, 8, none⟩ v8).setCell ⟨b, 9, none⟩ v9 = V ∧
   V.heap[b]? = some (.cells #[v0, v1, v2, v3, v4, v5, v6, v7, v8, v9] t (0, 0)) ∧ OnlyAt b W V ∧ ∀ n w0, Below n w0 W → n ≤ b → Below n w0 V :=
 ⟨_, rfl, set10 h, ((((((((((OnlyAt.refl _ _).set _ _).set _ _).set _ _).set _ _).set _ _).set _ _).set _ _).set _ _).set _ _).set _ _,
  fun _ _ hB hn => (((((((((hB.setCell (p := ⟨b, 0, none⟩) hn _).setCell (p := ⟨b, 1, none⟩) hn _).setCell (p := ⟨b, 2, none⟩) hn _).setCell (p := ⟨b, 3, none⟩) hn _).setCell (p := ⟨b, 4, none⟩) hn _).setCell (p := ⟨b, 5, none⟩) hn _).setCell (p := ⟨b, 6, none⟩) hn _).setCell (p := ⟨b, 7, none⟩) hn _).setCell (p := ⟨b, 8, none⟩) hn _).setCell (p := ⟨b, 9, none⟩) hn _⟩
theorem BdAt.set_work {W V : World} {v : Value} {B : Bd} {b : Nat} {x y z : Value} {t : TypeId} (h : BdAt W v B) (hX : W.heap[b]? = some (.cells #[x, y, z] t (0, 0))) (hx : ∀ u, x ≠ .int .u64 u) (hy : ∀ u, y ≠ .int .u64 u) (hz : ∀ u, z ≠ .int .u64 u) (hV : OnlyAt b W V) : BdAt V v B :=
 h.apart hX (fun _ u => no_u64 hx hy hz u) hV
theorem SkB.apart {W V : World} {v : Value} {k L : Nat} {B : Bd} (h : SkB W v k L B) {b : Nat} {cs : Array Value} {t : TypeId} (hX : W.heap[b]? = some (.cells cs t (0, 0))) (hc : ∀ (i : Nat) (u : Int), cs[i]? ≠ some (Value.int .u64 u)) (hV : OnlyAt b W V) : SkB V v k L B := by
 obtain ⟨y, s, h0, h1, h2⟩ := h
 exact ⟨y, s, h0, h1, slC_apart (i0 := 0) (by decide) (fun x => ⟨x, rfl⟩) hX hc hV h2.e, slC_apart (i0 := 0) (by decide) (fun x => ⟨x, rfl⟩) hX hc hV h2.c, slC_apart (i0 := 1) (by decide) (fun x => ⟨x.2, rfl⟩) hX hc hV h2.g⟩
theorem noU_zero {i : Nat} (u : Int) : (#[.int .i64 0, .int .i64 0, .slice none 0 0, .int .i64 0, .string ⟨#[]⟩, .int .i64 0, .int .i64 0, .slice none 0 0, .int .i64 0, .slice none 0 0] : Array Value)[i]? ≠ some (.int .u64 u) := by
 intro h
 rcases i with _ | _ | _ | _ | _ | _ | _ | _ | _ | _ | i <;> simp at h
set_option maxRecDepth 100000 in
set_option maxHeartbeats 1000000 in
theorem told_nil (v : Value) (B : Bd) (kind level : Nat) (w : World) (hb : BdAt w v B) (hok : B.Ok kind level) :
  Calls Tryz.prog 32 #[.agg #[v, .int .i64 kind, .int .i64 level], .nilIface] w fun e w' => ∃ x, e = .returned (.tuple #[x, .int .i64 0]) ∧ SkB w' x kind level B ∧ Below w.heap.size w w' := by
 obtain ⟨T, rv, rfl⟩ := bd_iface hb
 obtain ⟨W0, hW0, hXp, hXr, hB0, hs0⟩ := boxes2 w #[.iface T rv, .int .i64 kind, .int .i64 level] 60 #[.int .i64 0, .int .i64 0, .slice none 0 0, .int .i64 0, .string ⟨#[]⟩, .int .i64 0, .int .i64 0, .slice none 0 0, .int .i64 0, .slice none 0 0] 33
 obtain ⟨c0, c1, c2⟩ := cl3 hXp
 have HS := Lib.hid (sketch_sk (w := W0) hok (hb.go hB0))
 have HXR := Lib.hid hXr
 have HB0 := Lib.hid hB0
 clear hXp hXr hB0 hb hok
 go_enter Tryz.func32, Tryz.ntmps32
 go_wp2_with fail
 refine HS.out.mono ?_
 rintro e w1 ⟨x, rfl, ⟨y, s, hy, rfl, hA⟩, hb1⟩
 have hR1 := known hb1 (Nat.le_refl _) HXR.out
 have HY := Lib.hid hy
 clear hy
 obtain ⟨r0, r1, r2, r3, r4, r5, r6, r7, r8, r9⟩ := cl10 hR1
 obtain ⟨g0, g1, g2, g3, g4, g5, g6, g7, g8, g9⟩ := cz10 hR1
 obtain ⟨V, hV, hVX, hVO, hVB⟩ := store10 (.int .i64 y.kind) (.int .i64 y.level) (.slice s.ea s.el s.ec) (.int .i64 y.hb) (.string y.hr) (.int .i64 y.cr) (.int .i64 y.cc) (.slice s.ca s.cl s.cc) (.int .i64 y.gf) (.slice s.ga s.gl s.gc) hR1
 have HR1 := Lib.hid hR1
 have HV := Lib.hid (And.intro hVO hVB)
 have HA := Lib.hid hA
 have Hb1 := Lib.hid hb1
 obtain ⟨k0, k1, k2, k3, k4, k5, k6, k7, k8, k9⟩ := cl10 hVX
 clear hR1 hVO hVB hA hb1 hVX
 go_wp2_with fail
 obtain ⟨hVO, hVB⟩ := HV.out
 have hS2 : SkB w1 (.agg #[.int .i64 y.kind, .int .i64 y.level, .slice s.ea s.el s.ec, .int .i64 y.hb, .string y.hr, .int .i64 y.cr, .int .i64 y.cc, .slice s.ca s.cl s.cc, .int .i64 y.gf, .slice s.ga s.gl s.gc]) kind level B := ⟨y, s, HY.out, rfl, HA.out⟩
 exact bodyPost_ret (v := .tuple #[.agg #[.int .i64 y.kind, .int .i64 y.level, .slice s.ea s.el s.ec, .int .i64 y.hb, .string y.hr, .int .i64 y.cr, .int .i64 y.cc, .slice s.ca s.cl s.cc, .int .i64 y.gf, .slice s.ga s.gl s.gc], .int .i64 0]) (by simp [results, Tryz.f32, go_sem, k0, k1, k2, k3, k4, k5, k6, k7, k8, k9]) rfl ⟨_, rfl, hS2.apart HR1.out (fun i u => noU_zero u) hVO, hVB _ _ (HB0.out.trans (Hb1.out.mono HB0.out.size)) (Nat.le_succ _)⟩
end Go.Proofs.YtcbbenncdainfaaGreatDoor
namespace Go.Proofs.YtcbbenncdainfaaGreatDoor
open Go Go.RowKit Go.Shelf
attribute [local go_sem] Oper.semAt_some
def Counts (P : Program) (gf : Nat) (lb : Array Value) (enc : Nat → Value) (L : List Nat) (M : Nat) (w : World) : Prop :=
 ∀ (l : Nat) (J : Nat → World → Prop) (Jx : World → Prop) (W : World), Below w.heap.size w W → (∀ k W1, J k W1 → k < M) →
  (∀ k W1, J k W1 → YieldAt Fence.wide 7 P l #[enc k] W1 fun e W' => (e = .returned (.bool true) ∧ J (k + 1) W' ∧ KL L W1 W') ∨ (e = .returned (.bool false) ∧ Jx W')) →
  J 0 W → CallsIn Fence.wide 8 P gf (#[.func (.yield l) #[] #[]] ++ lb) W fun e W' => (∃ v, e = .returned v) ∧ Jx W'
theorem wp_range_count {P : Program} {g : Operand} {ps : Array Tmp} {assign body : Code} {Q : Exit → Act → World → Prop} {a : Act} {w : World} {id : Nat} (L : List Nat) (T : Nat → Array Value)
  {gf : Nat} {lb : Array Value} (hg : a.eval g = .func (.func gf) #[] lb) (eg : ∀ args w, (callFunc gf args).run P w = .ok (.enter gf args) w)
  {enc : Nat → Value} {M : Nat} (hseq : Counts P gf lb enc L M w) (hL : ∀ b ∈ L, b < w.heap.size) (hps : ps.size = 1)
  (I : Nat → World → Prop) (Ib : World → Prop) (hI : OwnFrom w.heap.size I) (hIb : OwnFrom w.heap.size (fun (_ : Unit) W => Ib W)) (hM : ∀ k W, I k W → k < M) (h0 : I 0 w)
  (hassign : ∀ (l k : Nat) (W : World) (K : Act → World → Prop), I k W → K { tmps := T k, defers := [] } W →
   assign.wpIn (Fence.wide.inRound l) 7 P (Exit.then K (fun _ _ _ => False)) { tmps := (ps.zip #[enc k]).foldl (fun t (p, v) => t.setIfInBounds p v) a.tmps, defers := [] } W)
  (hbody : ∀ (l k : Nat) (W : World), I k W → body.wpIn (Fence.wide.inRound l) 7 P (ownPostG w.heap.size (KL L) (fun (_ : List Unit) => I (k + 1)) (fun c (_ : List Unit) W => c = .exit id ∧ Ib W) [] W) { tmps := T k, defers := [] } W)
  (hfin : ∀ (D : Nat) (W : World), w.heap.size ≤ D → Ib W → W.heap[D]? = some (.deferred (some [])) → Q .normal { a with defers := { target := .collected D, args := #[] } :: a.defers } W) :
  (Code.rangeFunc g ps assign body).wp P (Exit.inBlock id Q) a w := by
 refine (wpIn_wide (n := 9)).1 (wpIn_rangeFunc fun fn hfn => ?_)
 obtain ⟨rc, hrc⟩ : ∃ rc : LoopState → Option Code → Loop, rc = fun st pe => { state := st, pending := pe, fn, tmps := a.tmps, params := ps, assign, body, defers := w.heap.size } := ⟨_, rfl⟩
 obtain ⟨V0, hV0, hd0, hB0, hz0⟩ : ∃ V0, w.alloc (.deferred (some [])) = V0 ∧ V0.heap[w.heap.size]? = some (.deferred (some [])) ∧ Below w.heap.size w V0 ∧ V0.heap.size = w.heap.size + 1 := ⟨_, rfl, World.alloc_heap_new _ _, (Below.refl _ w).alloc (Nat.le_refl _) _, by simp⟩
 obtain ⟨V1, hV1, hl1, hB1, hz1⟩ : ∃ V1, V0.alloc (.loop (rc .ready none)) = V1 ∧ V1.heap[w.heap.size + 1]? = some (.loop (rc .ready none)) ∧ Below V0.heap.size V0 V1 ∧ V1.heap.size = w.heap.size + 2 := ⟨_, rfl, by rw [← hz0]; exact World.alloc_heap_new _ _, (Below.refl _ V0).alloc (Nat.le_refl _) _, by simp [hz0]⟩
 have hd1 : V1.heap[w.heap.size]? = some (.deferred (some [])) := (hB1.block _ (by omega)).trans hd0
 have hi1 : I 0 V1 := by rw [← hV1, ← hV0]; exact hI.alloc _ (hI.alloc _ h0)
 have hb1 : Below w.heap.size w V1 := hB0.trans (hB1.mono (by omega))
 refine ⟨w.heap.size + 1, [{ target := .collected w.heap.size, args := #[] }], V1, { target := .fn (.func gf) lb, args := #[.func (.yield (w.heap.size + 1)) #[] #[]] }, V1, gf, #[.func (.yield (w.heap.size + 1)) #[] #[]] ++ lb, V1, ?_, ?_, fun f' hf' => trivial, ?_, (fun _ => by decide), ?_⟩
 ·rw [← hV1, ← hV0, hrc]; exact run_enterLoop_outer _ _ _ _ _
 ·simp only [resolve, hg]
  simp [go_sem]
 ·simp [invoke, go_sem, eg]
 refine (hseq (w.heap.size + 1) (fun k W => I k W ∧ W.heap[w.heap.size + 1]? = some (.loop (rc .ready none)) ∧ W.heap[w.heap.size]? = some (.deferred (some [])))
  (fun W => Ib W ∧ W.heap[w.heap.size + 1]? = some (.loop (rc .done (some (.exit id)))) ∧ W.heap[w.heap.size]? = some (.deferred (some []))) V1 hb1 (fun k W1 h => hM k W1 h.1) ?_ ⟨hi1, hl1, hd1⟩).mono ?_
 ·rintro k W ⟨hi, hl, hk⟩
  have hlt := (Array.getElem?_eq_some_iff.1 hl).1
  have hy := run_yield (P := P) (args := #[enc k]) hl (by rw [hrc]; exact hps.symm)
  rw [hrc] at hy
  refine ⟨fn, _, assign, body, hy, roundIn_of_wpIn hfn (hassign _ k W _ hi ?_)⟩
  obtain ⟨W2, hW2⟩ : ∃ W2, W.putObj (w.heap.size + 1) (.loop { rc .ready none with state := .busy }) = W2 := ⟨_, rfl⟩
  have hl2 : W2.heap[w.heap.size + 1]? = some (.loop { rc .ready none with state := .busy }) := by rw [← hW2]; exact World.putObj_heap_same hlt
  have hk2 : W2.heap[w.heap.size]? = some (.deferred (some [])) := by rw [← hW2]; exact (World.putObj_heap_other (by omega)).trans hk
  have hi2 : I k W2 := by rw [← hW2]; exact hI.putObj _ hi (by omega) hl rfl
  have hp2 : KL L W W2 := by rw [← hW2]; exact fun b hb o ho => (World.putObj_heap_other (by have := hL b hb; omega)).trans ho
  refine ⟨W2, by rw [← hW2]; exact run_beginRound hl (by rw [hrc]), wpIn_mono (hbody _ k W2 hi2) ?_⟩
  have ends : ∀ (jump : Option Code) (W3 : World), KeepsFrom w.heap.size W2 W3 → (Instr.endRound (w.heap.size + 1) jump).run P W3 = .ok (.bool jump.isNone) (W3.putObj (w.heap.size + 1) (.loop (rc (if jump.isNone then .ready else .done) jump))) ∧
    W3.heap[w.heap.size + 1]? = some (.loop { rc .ready none with state := .busy }) ∧ W3.heap[w.heap.size]? = some (.deferred (some [])) := fun jump W3 h3 => by
   have hl3 := h3.same _ _ (by omega) hl2 rfl
   have h := run_endRound (P := P) jump hl3
   rw [hrc] at h hl3 ⊢
   exact ⟨h, hl3, h3.same _ _ (Nat.le_refl _) hk2 rfl⟩
  rintro e a3 W3 hp
  cases e with
  | normal =>
   obtain ⟨h3, hp3, hi3⟩ := hp
   obtain ⟨hr, hl3, hk3⟩ := ends none W3 h3
   have hz3 := (Array.getElem?_eq_some_iff.1 hl3).1
   exact ⟨_, _, hr, .inl ⟨rfl, ⟨hI.putObj _ hi3 (by omega) hl3 rfl, World.putObj_heap_same hz3, (World.putObj_heap_other (by omega)).trans hk3⟩, (hp2.trans hp3).trans fun b hb o ho => (World.putObj_heap_other (by have := hL b hb; omega)).trans ho⟩⟩
  | exit i =>
   obtain ⟨h3, he, hi3⟩ := hp
   obtain rfl : i = id := by simpa using he
   obtain ⟨hr, hl3, hk3⟩ := ends (some (.exit i)) W3 h3
   have hz3 := (Array.getElem?_eq_some_iff.1 hl3).1
   exact ⟨_, _, hr, .inr ⟨rfl, hIb.putObj (s := ()) _ hi3 (by omega) hl3 rfl, World.putObj_heap_same hz3, (World.putObj_heap_other (by omega)).trans hk3⟩⟩
  | ret => obtain ⟨_, he, _⟩ := hp; cases he
  | goto t => obtain ⟨_, he, _⟩ := hp; cases he
  | panic ch => exact hp.elim
  | outgrown => exact hp.elim
 ·rintro e W2 ⟨⟨v, rfl⟩, hi, hl, hk⟩
  refine ⟨some (.exit id), _, by have h := run_endLoop (P := P) hl (by rw [hrc]; simp); rw [hrc] at h; exact h, ?_⟩
  refine wpIn_wide.2 (wp_exit ?_)
  show (if id = id then Q .normal _ _ else Q (.exit id) _ _)
  rw [if_pos rfl]
  exact hfin _ _ (Nat.le_refl _) (hIb.putObj (s := ()) _ hi (by omega) hl rfl) ((World.putObj_heap_other (by omega)).trans hk)
theorem levels_any (n : Int) (w : World) :
  Calls Tryz.prog 74 #[.int .i64 n] w fun e w' => e = .returned (.func (.func 92) #[] #[.pointer (some ⟨w.heap.size, 0, none⟩)]) ∧ w' = w.alloc (.cells #[.int .i64 n] 3) := by
 go_enter Tryz.func74, Tryz.ntmps74
 go_wp2
 go_ret
 exact ⟨rfl, rfl⟩
set_option maxRecDepth 100000 in
set_option maxHeartbeats 1000000 in
theorem levels_counts (Bs n M : Nat) (w : World) (hB : w.heap[Bs]? = some (.cells #[.int .i64 n] 3 (0, 0))) (hn : n + M ≤ 1000) :
  Counts Tryz.prog 92 #[.pointer (some ⟨Bs, 0, none⟩)] (fun k => .int .i64 ((n : Int) + (k : Int))) [] M w := by
 intro l J Jx W hW hM hY h0
 refine callsIn_of_wp Tryz.func92 rfl trivial ?_ rfl
 simp only [Tryz.ntmps92, List.size_toArray, List.length_cons, List.length_nil, Nat.reduceAdd, Nat.reduceSub, Array.replicate_succ, Array.replicate_zero, List.push_toArray, List.append_toArray, List.nil_append, List.cons_append]
 have c9 : W.cell? ⟨Bs, 0, none⟩ = some (.int .i64 n) := cCc (known hW (Nat.le_refl _) hB) 0
 gi_wp2
 gi_loopw [3] (fun i wr => ∃ k : Nat, i = .int .i64 ((n : Int) + (k : Int)) ∧ J k wr) (fun i _ => M + n - (intOf i).toNat)
 case atStart => exact ⟨0, rfl, h0⟩
 case round =>
  obtain ⟨k, rfl, hJ⟩ := hrel
  have hk := hM k _ hJ
  have hk1 : (n : Int) + (k : Int) + 1 ≤ 1000 := by omega
  obtain ⟨fn, tmps, assign, body, hy, hR⟩ := hY k _ hJ
  gi_wp2
  refine hR.mono ?_
  rintro e W3 (⟨rfl, hJ3, -⟩ | ⟨rfl, hJx⟩)
  ·have hw : IntKind.i64.wrap ((n : Int) + (k : Int) + 1) = (n : Int) + ((k : Int) + 1) := by rw [IntWalk.i64_in _ (by omega)]; omega
   have hw2 : wrap64 ((n : Int) + (k : Int) + 1) = (n : Int) + ((k : Int) + 1) := by unfold wrap64; omega
   gi_wp2
   go_roundw
   case rel => exact ⟨k + 1, by simp, hJ3⟩
   case measure => simp [intOf]; omega
  ·gi_wp2
   go_end0
   exact ⟨⟨_, rfl⟩, hJx⟩
end Go.Proofs.YtcbbenncdainfaaGreatDoor
namespace Go.Proofs.YtcbbenncdainfaaGreatDoor
open Go Go.RowKit Go.Shelf
attribute [local go_sem] Oper.semAt_some
theorem wp_range_count1 {P : Program} {g : Operand} {ps : Array Tmp} {assign body : Code} {Q : Exit → Act → World → Prop} {a : Act} {w : World} {id : Nat} (L : List Nat) (s1 : Nat)
  {gf : Nat} {lb : Array Value} (hg : a.eval g = .func (.func gf) #[] lb) (eg : ∀ args w, (callFunc gf args).run P w = .ok (.enter gf args) w)
  {enc : Nat → Value} {M : Nat} (hseq : Counts P gf lb enc L M w) (hL : ∀ b ∈ L, b < w.heap.size) (hps : ps.size = 1)
  (I : Nat → World → Prop) (Ib : World → Prop) (hI : OwnFrom w.heap.size I) (hIb : OwnFrom w.heap.size (fun (_ : Unit) W => Ib W)) (hM : ∀ k W, I k W → k < M) (h0 : I 0 w)
  (hassign : ∀ (l k : Nat) (W : World) (K : Act → World → Prop), I k W → K { tmps := ((ps.zip #[enc k]).foldl (fun t (p, v) => t.setIfInBounds p v) a.tmps).setIfInBounds s1 (enc k), defers := [] } W →
   assign.wpIn (Fence.wide.inRound l) 7 P (Exit.then K (fun _ _ _ => False)) { tmps := (ps.zip #[enc k]).foldl (fun t (p, v) => t.setIfInBounds p v) a.tmps, defers := [] } W)
  (hbody : ∀ (l k : Nat) (W : World), I k W → body.wpIn (Fence.wide.inRound l) 7 P (ownPostG w.heap.size (KL L) (fun (_ : List Unit) => I (k + 1)) (fun c (_ : List Unit) W => c = .exit id ∧ Ib W) [] W) { tmps := ((ps.zip #[enc k]).foldl (fun t (p, v) => t.setIfInBounds p v) a.tmps).setIfInBounds s1 (enc k), defers := [] } W)
  (hfin : ∀ (D : Nat) (W : World), w.heap.size ≤ D → Ib W → W.heap[D]? = some (.deferred (some [])) → Q .normal { a with defers := { target := .collected D, args := #[] } :: a.defers } W) :
  (Code.rangeFunc g ps assign body).wp P (Exit.inBlock id Q) a w :=
 wp_range_count L (fun k => ((ps.zip #[enc k]).foldl (fun t (p, v) => t.setIfInBounds p v) a.tmps).setIfInBounds s1 (enc k)) hg eg hseq hL hps I Ib hI hIb hM h0 hassign hbody hfin
theorem ownSlC2 {α : Type} {enc : α → List Value} {k C : Nat} (henc : ∀ x, (enc x).length = k) {X Y : World} {row : Option Nat} {a : Option Addr} {len cap : Nat} {l : List α} (hs : SlC enc k X.heap.size X a len cap l) (hg : X.grownBy Y row) (hr : ∀ r, row = some r → C ≤ r ∧ ∃ o : Obj, X.heap[r]? = some o ∧ o.isCells = false) : SlC enc k Y.heap.size Y a len cap l := by
 have h1 : SlC enc k X.heap.size Y a len cap l := ⟨⟨hs.1.1, fun j x hx => by
  obtain ⟨b, off, e, hb, hc⟩ := hs.1.2 j x hx
  refine ⟨b, off, e, hb, fun i hi => ?_⟩
  have h2 := hc i hi
  have h3 : (enc x)[i]? = some ((enc x)[i]'(by rw [henc]; exact hi)) := List.getElem?_eq_getElem _
  rw [h3] at h2 ⊢
  exact cell_own h2 hg (fun r h => (hr r h).2)⟩, hs.2⟩
 exact h1.mono hg.size
theorem ownBd {C : Nat} {X Y : World} {row : Option Nat} {v : Value} {B : Bd} (h : BdAt X v B) (hg : X.grownBy Y row) (hr : ∀ r, row = some r → C ≤ r ∧ ∃ o : Obj, X.heap[r]? = some o ∧ o.isCells = false) : BdAt Y v B := by
 cases B with
 | num l => obtain ⟨a, len, cap, h1, h2⟩ := h; exact ⟨a, len, cap, h1, ownSlC2 (enc := encU) (fun _ => rfl) h2 hg hr⟩
 | reg b r => exact h
 | cnt c l => obtain ⟨a, len, cap, h1, h2⟩ := h; exact ⟨a, len, cap, h1, ownSlC2 (enc := encU) (fun _ => rfl) h2 hg hr⟩
 | bkt f l => obtain ⟨a, len, cap, h1, h2⟩ := h; exact ⟨a, len, cap, h1, ownSlC2 (enc := encB) (fun _ => rfl) h2 hg hr⟩
theorem down_succ : ∀ (k : Nat) (s : Nat × Bd), wkDown (k + 1) s = wkLow (wkDown k s)
 | 0, _ => rfl
 | k + 1, s => down_succ k (wkLow s)
theorem down_lev : ∀ (k : Nat) (s : Nat × Bd), (wkDown k s).1 = s.1 + k
 | 0, _ => rfl
 | k + 1, s => by rw [down_succ]; show (wkDown k s).1 + 1 = _; rw [down_lev k s]; omega
theorem down_ok {k L n : Nat} {B : Bd} (h : B.Ok k L) (hn : L + n ≤ botN k) : (wkDown n (L, B)).2.Ok k (L + n) := by
 have h1 := (wkTo_ok (L + n) hn _ (L, B) rfl h).1
 have e : wkTo (L, B) (L + n) = wkDown n (L, B) := by unfold wkTo; rw [show L + n - (L, B).1 = n by show L + n - L = n; omega]
 rw [e, down_lev] at h1
 exact h1
def Work (W : World) (b : Nat) (v : Value) (kind : Nat) (level : Int) : Prop := W.heap[b]? = some (.cells #[v, .int .i64 kind, .int .i64 level] 60 (0, 0))
def TI (B : Bd) (kind level t : Nat) (ti : Int) (w : World) (k : Nat) (W : World) : Prop :=
 k ≤ t - level ∧ (∃ T rv, Work W w.heap.size (.iface T rv) kind ((level : Int) + (k : Int)) ∧ BdAt W (.iface T rv) (wkDown k (level, B)).2) ∧ Boxed W (w.heap.size + 1) 3 (.int .i64 ti) ∧
 W.heap[w.heap.size + 2]? = some (.cells #[.nilIface, .int .i64 0, .int .i64 0] 60 (0, 0)) ∧ Boxed W (w.heap.size + 3) 62 .nilIface ∧ Below w.heap.size w W
theorem ownBlk {X Y : World} {row : Option Nat} {b : Nat} {cs : Array Value} {t : TypeId} {f : Nat × Nat} (h : X.heap[b]? = some (.cells cs t f)) (hg : X.grownBy Y row) (hr : ∀ r, row = some r → ∃ o : Obj, X.heap[r]? = some o ∧ o.isCells = false) : Y.heap[b]? = some (.cells cs t f) := by
 refine (hg.block b (Array.getElem?_eq_some_iff.1 h).1 (fun e => ?_)).trans h
 obtain ⟨o, ho, h2⟩ := hr b e.symm
 rw [h] at ho
 cases ho
 cases h2
theorem ti_own (B : Bd) (kind level t : Nat) (ti : Int) (w : World) (C : Nat) (hC : w.heap.size ≤ C) : OwnFrom C (TI B kind level t ti w) := fun k X Y row hs hg hr => by
 obtain ⟨h1, ⟨T, rv, h2, h3⟩, h4, h5, h6, h7⟩ := hs
 have hr' : ∀ r, row = some r → ∃ o : Obj, X.heap[r]? = some o ∧ o.isCells = false := fun r e => (hr r e).2
 exact ⟨h1, ⟨T, rv, ownBlk h2 hg hr', ownBd h3 hg hr⟩, ownBlk h4 hg hr', ownBlk h5 hg hr', ownBlk h6 hg hr', ownFrom_below (β := Unit) (B := C) (Nat.le_refl _) hC () X Y row h7 hg hr⟩
set_option maxRecDepth 100000 in
set_option maxHeartbeats 2000000 in
theorem to_anyI (v : Value) (B : Bd) (kind level t : Nat) (ti : Int) (w : World) (hb : BdAt w v B) (hok : B.Ok kind level) (ht : t ≤ botN kind) (hti : ti = t ∨ (ti < 0 ∧ t = 0)) :
  Calls Tryz.prog 40 #[.agg #[v, .int .i64 kind, .int .i64 level], .int .i64 ti] w fun e w' => ∃ v', e = .returned (.tuple #[.agg #[v', .int .i64 kind, .int .i64 ((wkTo (level, B) t).1 : Int)], .nilIface]) ∧ BdAt w' v' (wkTo (level, B) t).2 ∧ Below w.heap.size w w' := by
 obtain ⟨T, rv, rfl⟩ := bd_iface hb
 obtain ⟨W0, hW0, hXp, hXl, hXr, hB0, hs0⟩ := boxes3 w #[.iface T rv, .int .i64 kind, .int .i64 level] 60 #[.int .i64 ti] 3 #[.nilIface, .int .i64 0, .int .i64 0] 60
 have HBT : Hid (∀ w, Calls Tryz.prog 21 #[.int .i64 kind] w fun e w' => e = .returned (.int .i64 (botN kind : Nat)) ∧ w' = w) := fun w => (Bottom_any kind w).mono fun e w' ⟨h1, h2⟩ => ⟨by rw [h1, (bot_eq hok).1], h2.symm⟩
 obtain ⟨c0, c1, c2⟩ := cl3 hXp
 have d0 : W0.cell? ⟨w.heap.size + 1, 0, none⟩ = some (.int .i64 ti) := cCc hXl 0
 have hb4 : botN kind ≤ 4 := by unfold botN; split <;> omega
 have t1 : decide ((botN kind : Int) < ti) = false := by rw [decide_eq_false_iff_not]; omega
 have HXP := Lib.hid hXp
 have HXL := Lib.hid hXl
 have HXR := Lib.hid hXr
 have HB0 := Lib.hid hB0
 have HB := Lib.hid (hb.go hB0)
 have hlv := ok_bot hok
 clear hXp hXl hXr hB0 hb
 refine calls_marks Tryz.func40 rfl ?_
 simp only [Tryz.ntmps40, List.size_toArray, List.length_cons, List.length_nil, Nat.reduceAdd, Nat.reduceSub, Array.replicate_succ, Array.replicate_zero, List.push_toArray, List.append_toArray, List.nil_append, List.cons_append]
 go_wp2_with fail
 go_step3
 go_wp2_with fail
 go_quiet ((go_at_call 21; exact Calls.quiet_of_same (HBT.out _)))
 go_wp2_with fail
 obtain ⟨W3, hW3, hX3, hB3, hs3⟩ := boxes1 (W0.drewN nq) #[.nilIface] 62
 rw [hW3]
 have hz : (W0.drewN nq).heap.size = w.heap.size + 3 := hs0
 rw [hz] at hX3 hs3
 have hB03 : Below W0.heap.size W0 W3 := (drewN_below nq).trans hB3
 have hXP3 := known hB03 (Nat.le_refl _) HXP.out
 have hXL3 := known hB03 (Nat.le_refl _) HXL.out
 have hXR3 := known hB03 (Nat.le_refl _) HXR.out
 obtain ⟨p0, p1, p2⟩ := cl3 hXP3
 obtain ⟨W4, hW4, hX4, hB4, hs4⟩ := boxes1 W3 #[.int .i64 level] 3
 rw [hs3] at hX4 hs4
 have HW4 := Lib.hid hW4
 have HB3 := Lib.hid (hB03.trans (hB4.mono hB03.size))
 have h0 : TI B kind level t ti w 0 W4 := by
  refine ⟨Nat.zero_le _, ⟨T, rv, ?_, HB.out.go HB3.out⟩, known hB4 (Nat.le_refl _) hXL3, known hB4 (Nat.le_refl _) hXR3, known hB4 (Nat.le_refl _) hX3, HB0.out.trans (HB3.out.mono HB0.out.size)⟩
  have h := known hB4 (Nat.le_refl _) hXP3
  show W4.heap[w.heap.size]? = some (.cells #[.iface T rv, .int .i64 kind, .int .i64 ((level : Int) + ((0 : Nat) : Int))] 60 (0, 0))
  rw [show (level : Int) + ((0 : Nat) : Int) = level by omega]
  exact h
 have H0 := Lib.hid h0
 have HX4 := Lib.hid hX4
 have hz4 : w.heap.size + 5 ≤ W4.heap.size := by omega
 have HOK := Lib.hid hok
 clear hW4 hX3 hB3 hB03 hXP3 hXL3 hXR3 hX4 hB4 h0 hok c0 c1 c2 d0
 apply wp_label
 go_wp2_with (go_at_call 74; refine (levels_any _ _).mono ?_; rintro e w' ⟨rfl, rfl⟩; rw [HW4.out])
 refine wp_range_count1 [] 7 (gf := 92) (lb := #[.pointer (some ⟨w.heap.size + 3 + 1, 0, none⟩)]) rfl (enters_of Tryz.func92 (by kernel_rfl) rfl)
  (levels_counts (w.heap.size + 3 + 1) level (t - level + 1) W4 HX4.out (by omega)) (by intro k hk; cases hk) rfl (TI B kind level t ti w) (TI B kind level t ti w (t - level)) (ti_own B kind level t ti w _ (by omega)) (fun _ X Y row h hg hr => ti_own B kind level t ti w _ (by omega) _ X Y row h hg hr) (fun k W h => Nat.lt_succ_of_le h.1) H0.out ?assign ?body ?fin
 case assign =>
  rintro l k W K hI hK
  simp only [List.zip_toArray, List.zip_cons_cons, List.zip_nil_right, List.size_toArray, List.foldl_toArray', List.foldl_cons, List.foldl_nil, List.setIfInBounds_toArray, List.set_cons_succ, List.set_cons_zero] at hK ⊢
  gi_wp2
  exact hK
 case body =>
  rintro lo k W ⟨hk, ⟨T1, rv1, hW1, hb1⟩, hL1, hR1, hE1, hB1⟩
  simp only [List.zip_toArray, List.zip_cons_cons, List.zip_nil_right, List.size_toArray, List.foldl_toArray', List.foldl_cons, List.foldl_nil, List.setIfInBounds_toArray, List.set_cons_succ, List.set_cons_zero]
  have c0 := hL1.cell
  have e0 := hE1.cell
  by_cases hlt : level + k < t
  ·have g1 : decide (ti ≤ (level : Int) + (k : Int)) = false := by rw [decide_eq_false_iff_not]; omega
   have hok1 := down_ok HOK.out (show level + k ≤ botN kind by omega)
   have HLow := lowered_any _ _ kind (level + k) W hb1 hok1 (by omega)
   rw [Int.natCast_add] at HLow
   have hW1' : W.heap[w.heap.size]? = some (.cells #[.iface T1 rv1, .int .i64 kind, .int .i64 ((level : Int) + (k : Int))] 60 (0, 0)) := hW1
   obtain ⟨d0, d1, d2⟩ := cl3 hW1'
   gi_wp2_with fail
   refine ⟨trivial, (CallsIn.inRound lo (callsIn_wide.2 HLow)).mono ?_⟩
   rintro e W5 ⟨v5, rfl, hb5, hB5⟩
   obtain ⟨T5, rv5, rfl⟩ := bd_iface hb5
   have hW5 := known hB5 (Nat.le_refl _) hW1'
   have hE5 : W5.heap[w.heap.size + 3]? = some (.cells #[.nilIface] 62 (0, 0)) := known hB5 (Nat.le_refl _) hE1
   obtain ⟨q0, q1, q2⟩ := cl3 hW5
   obtain ⟨f0, f1, f2⟩ := cz3 hW5
   obtain ⟨V, hV, hVX, hVO, hVB⟩ := store3 (.iface T5 rv5) (.int .i64 kind) (.int .i64 ((level : Int) + (k : Int) + 1)) hW5
   have hEV := (hVO.2 (w.heap.size + 3) (by omega)).trans hE5
   have u0 : V.cell? ⟨w.heap.size + 3, 0, none⟩ = some (.nilIface) := cCc hEV 0
   have v0 : V.frozen? ⟨w.heap.size + 3, 0, none⟩ = false := cFz hEV 0
   have hse : V.setCell ⟨w.heap.size + 3, 0, none⟩ .nilIface = V := set_same hEV rfl
   have hbV : BdAt V (.iface T5 rv5) (wkDown (k + 1) (level, B)).2 := by rw [down_succ]; exact BdAt.set_work hb5 hW5 (by simp) (by simp) (by simp) hVO
   have hKV : KeepsFrom W4.heap.size W V := by
    rw [← hV]
    exact (bKeeps hB5 (Nat.le_refl _)).trans ((((KeepsOthers.setCell _ _ _).from _).trans ((KeepsOthers.setCell _ _ _).from _)).trans ((KeepsOthers.setCell _ _ _).from _))
   have hXV : Work V w.heap.size (.iface T5 rv5) kind ((level : Int) + ((k + 1 : Nat) : Int)) := by
    rw [show (level : Int) + ((k + 1 : Nat) : Int) = (level : Int) + (k : Int) + 1 by omega]
    exact hVX
   have HT : Hid (TI B kind level t ti w (k + 1) V) := ⟨by omega, ⟨T5, rv5, hXV, hbV⟩, (hVO.2 _ (by omega)).trans (known hB5 (Nat.le_refl _) hL1), (hVO.2 _ (by omega)).trans (known hB5 (Nat.le_refl _) hR1), hEV, hVB _ _ (hB1.trans (hB5.mono hB1.size)) (Nat.le_refl _)⟩
   clear hVX hVO hVB hEV hbV hXV hE5 hW5 hb5 hB5
   gi_wp2_with fail
   exact ⟨hKV, (fun b hb => by cases hb), HT.out⟩
  ·have g1 : decide (ti ≤ (level : Int) + (k : Int)) = true := by rw [decide_eq_true_iff]; omega
   obtain rfl : k = t - level := by omega
   have HT : Hid (TI B kind level t ti w (t - level) W) := ⟨hk, ⟨T1, rv1, hW1, hb1⟩, hL1, hR1, hE1, hB1⟩
   clear hW1 hb1 hL1 hR1 hE1 hB1
   gi_wp2_with fail
   exact ⟨KeepsFrom.refl _ _, rfl, HT.out⟩
 case fin =>
  rintro D W hD ⟨hk, ⟨T1, rv1, hW1, hb1⟩, hL1, hR1, hE1, hB1⟩ hK
  have hW1' : W.heap[w.heap.size]? = some (.cells #[.iface T1 rv1, .int .i64 kind, .int .i64 ((level : Int) + ((t - level : Nat) : Int))] 60 (0, 0)) := hW1
  have hlev : (level : Int) + ((t - level : Nat) : Int) = ((wkTo (level, B) t).1 : Int) := by
   unfold wkTo
   rw [down_lev]
   show _ = ((level + (t - level) : Nat) : Int)
   omega
  rw [hlev] at hW1'
  have hbd : BdAt W (.iface T1 rv1) (wkTo (level, B) t).2 := hb1
  obtain ⟨L2, hL2⟩ : ∃ L2, (wkTo (level, B) t).1 = L2 := ⟨_, rfl⟩
  obtain ⟨B2, hB2⟩ : ∃ B2, (wkTo (level, B) t).2 = B2 := ⟨_, rfl⟩
  rw [hL2] at hW1'
  rw [hB2] at hbd
  have HL2 := Lib.hid hL2
  have HB2 := Lib.hid hB2
  clear hL2 hB2 hlev
  have e0 := hE1.cell
  obtain ⟨d0, d1, d2⟩ := cl3 hW1'
  obtain ⟨r0, r1, r2⟩ := cl3 hR1
  obtain ⟨f0, f1, f2⟩ := cz3 hR1
  obtain ⟨V, hV, hVX, hVO, hVB⟩ := store3 (b := w.heap.size + 1 + 1) (.iface T1 rv1) (.int .i64 kind) (.int .i64 L2) hR1
  have hbV : BdAt V.drew (.iface T1 rv1) B2 := (BdAt.set_work hbd hR1 (by simp) (by simp) (by simp) hVO).go (Below.refl _ _).drew
  have hKV : V.drew.heap[D]? = some (.deferred (some [])) := (hVO.2 D (by omega)).trans hK
  have hBV : Below w.heap.size w V.drew := (hVB _ _ hB1 (by omega)).drew
  have hXP : (V.drew.putObj D (.deferred none)).heap[w.heap.size + 1 + 1]? = some (.cells #[.iface T1 rv1, .int .i64 kind, .int .i64 L2] 60 (0, 0)) := (World.putObj_heap_other (by omega)).trans hVX
  have HbV := Lib.hid hbV
  have HBV := Lib.hid hBV
  have HKV := Lib.hid hKV
  have HV := Lib.hid hV
  clear hbV hBV hKV hV hVX hVO hVB
  go_wp2_with fail
  go_region
  rw [HV.out]
  go_wp2_with fail
  rw [Exit.noGoto_ret]
  have x0 : (V.drew.putObj D (.deferred none)).cell? ⟨w.heap.size + 1 + 1, 0, none⟩ = some (.iface T1 rv1) := cCc hXP 0
  have x1 : (V.drew.putObj D (.deferred none)).cell? ⟨w.heap.size + 1 + 1, 1, none⟩ = some (.int .i64 kind) := cCc hXP 1
  have x2 : (V.drew.putObj D (.deferred none)).cell? ⟨w.heap.size + 1 + 1, 2, none⟩ = some (.int .i64 L2) := cCc hXP 2
  refine marks_ret1 (v := .tuple #[.agg #[.iface T1 rv1, .int .i64 kind, .int .i64 L2], .nilIface]) HKV.out ?_ ?_
  ·simp [results, Tryz.f40, go_sem, x0, x1, x2]
  ·rw [HL2.out, HB2.out]
   exact ⟨_, rfl, ownBd (C := 0) HbV.out (grownBy_putObj' _ D _) (fun r e => by cases e; exact ⟨Nat.zero_le _, _, HKV.out, rfl⟩), bPutD HBV.out (by omega) HKV.out⟩
theorem to_any (v : Value) (B : Bd) (kind level t : Nat) (w : World) (hb : BdAt w v B) (hok : B.Ok kind level) (ht : t ≤ botN kind) :
  Calls Tryz.prog 40 #[.agg #[v, .int .i64 kind, .int .i64 level], .int .i64 t] w fun e w' => ∃ v', e = .returned (.tuple #[.agg #[v', .int .i64 kind, .int .i64 ((wkTo (level, B) t).1 : Int)], .nilIface]) ∧ BdAt w' v' (wkTo (level, B) t).2 ∧ Below w.heap.size w w' :=
 to_anyI v B kind level t t w hb hok ht (.inl rfl)
end Go.Proofs.YtcbbenncdainfaaGreatDoor
namespace Go.Proofs.YtcbbenncdainfaaGreatDoor
open Go Go.RowKit Go.Shelf
set_option maxRecDepth 100000 in
set_option maxHeartbeats 2000000 in
theorem To_anyI {k L : Nat} {t : Nat} (ti : Int) {B : Bd} {v : Value} {w : World} (hok : B.Ok k L) (ht : t ≤ botN k) (hti : ti = t ∨ (ti < 0 ∧ t = 0)) (hv : SkB w v k L B) :
  Calls Tryz.prog 11 #[v, .int .i64 ti] w fun e w' => ∃ x, e = .returned (.tuple #[x, .int .i64 0]) ∧ SkB w' x k (wkTo (L, B) t).1 (wkTo (L, B) t).2 ∧ Below w.heap.size w w' := by
 have hok2 : ((wkTo (L, B) t).2).Ok k ((wkTo (L, B) t).1) := (wkTo_ok t ht _ (L, B) rfl hok).1
 obtain ⟨y, s, hy, rfl, hA⟩ := hv
 obtain ⟨W0, hW0, hXp, hXr, hB0, hs0⟩ := boxes2 w #[.int .i64 y.kind, .int .i64 y.level, .slice s.ea s.el s.ec, .int .i64 y.hb, .string y.hr, .int .i64 y.cr, .int .i64 y.cc, .slice s.ca s.cl s.cc, .int .i64 y.gf, .slice s.ga s.gl s.gc] 33 #[.int .i64 0, .int .i64 0, .slice none 0 0, .int .i64 0, .string ⟨#[]⟩, .int .i64 0, .int .i64 0, .slice none 0 0, .int .i64 0, .slice none 0 0] 33
 have HO := Lib.hid (open_sk_any (w := W0) hok ⟨y, s, hy, rfl, hA.go hB0⟩)
 obtain ⟨L2, hL2⟩ : ∃ L2 : Nat, (wkTo (L, B) t).1 = L2 := ⟨_, rfl⟩
 obtain ⟨B2, hB2⟩ : ∃ B2 : Bd, (wkTo (L, B) t).2 = B2 := ⟨_, rfl⟩
 rw [hL2, hB2] at hok2 ⊢
 have HT : Hid (∀ b W, BdAt W b B → Calls Tryz.prog 40 #[.agg #[b, .int .i64 k, .int .i64 L], .int .i64 ti] W fun e w' => ∃ v', e = .returned (.tuple #[.agg #[v', .int .i64 k, .int .i64 L2], .nilIface]) ∧ BdAt w' v' B2 ∧ Below W.heap.size W w') := by
  rw [← hB2, ← hL2]
  exact fun b W h => to_anyI b B k L t ti W h hok ht hti
 have HN : Hid (∀ b W, BdAt W b B2 → Calls Tryz.prog 32 #[.agg #[b, .int .i64 k, .int .i64 L2], .nilIface] W fun e w' => ∃ x, e = .returned (.tuple #[x, .int .i64 0]) ∧ SkB w' x k L2 B2 ∧ Below W.heap.size W w') := fun b W h => told_nil b B2 k L2 W h hok2
 obtain ⟨c0, c1, c2, c3, c4, c5, c6, c7, c8, c9⟩ := cl10 hXp
 have HXR := Lib.hid hXr
 have HB0 := Lib.hid hB0
 clear hXp hXr hB0 hA hy hok hok2 hL2 hB2 ht hti
 go_enter Tryz.func11, Tryz.ntmps11
 go_wp2_with fail
 refine HO.out.mono ?_
 rintro e w1 ⟨b, rfl, hb, hb1⟩
 obtain ⟨T, rv, rfl⟩ := bd_iface hb
 obtain ⟨W2, hW2, hX2, hB2, hs2⟩ := boxes1 w1 #[.iface T rv, .int .i64 k, .int .i64 L] 60
 obtain ⟨d0, d1, d2⟩ := cl3 hX2
 have HT2 := Lib.hid (HT.out _ W2 (hb.go hB2))
 have HX2 := Lib.hid hX2
 have HB2 := Lib.hid hB2
 have HB1 := Lib.hid hb1
 clear hX2 hB2 hb1 hb
 go_wp2_with fail
 refine HT2.out.mono ?_
 rintro e w3 ⟨b3, rfl, hv3, hb3⟩
 obtain ⟨T3, rv3, rfl⟩ := bd_iface hv3
 have hX3 := known hb3 (Nat.le_refl _) HX2.out
 obtain ⟨p0, p1, p2⟩ := cl3 hX3
 obtain ⟨g0, g1, g2⟩ := cz3 hX3
 obtain ⟨V, hV, hVX, hVO, hVB⟩ := store3 (.iface T3 rv3) (.int .i64 k) (.int .i64 L2) hX3
 have HN2 := Lib.hid (HN.out _ V (BdAt.set_work hv3 hX3 (by simp) (by simp) (by simp) hVO))
 have hsz := HB1.out.size
 have HB3 : Hid (Below w.heap.size w V) := hVB _ _ (HB0.out.trans ((HB1.out.trans ((HB2.out.trans (hb3.mono HB2.out.size)).mono HB1.out.size)).mono HB0.out.size)) (by omega)
 have HR3 : Hid (V.heap[w.heap.size + 1]? = some (.cells #[.int .i64 0, .int .i64 0, .slice none 0 0, .int .i64 0, .string ⟨#[]⟩, .int .i64 0, .int .i64 0, .slice none 0 0, .int .i64 0, .slice none 0 0] 33 (0, 0))) := by
  refine (hVO.2 _ (by omega)).trans ?_
  exact known (HB1.out.trans ((HB2.out.trans (hb3.mono HB2.out.size)).mono HB1.out.size)) (Nat.le_refl _) HXR.out
 obtain ⟨q0, q1, q2⟩ := cl3 hVX
 clear hX3 hVX hVO hVB hv3 hb3
 go_wp2_with fail
 refine HN2.out.mono ?_
 rintro e w5 ⟨x, rfl, ⟨y5, s5, hy5, rfl, hA5⟩, hb5⟩
 have hR5 := known hb5 (Nat.le_refl _) HR3.out
 obtain ⟨r0, r1, r2, r3, r4, r5, r6, r7, r8, r9⟩ := cl10 hR5
 obtain ⟨f0, f1, f2, f3, f4, f5, f6, f7, f8, f9⟩ := cz10 hR5
 obtain ⟨U, hU, hUX, hUO, hUB⟩ := store10 (.int .i64 y5.kind) (.int .i64 y5.level) (.slice s5.ea s5.el s5.ec) (.int .i64 y5.hb) (.string y5.hr) (.int .i64 y5.cr) (.int .i64 y5.cc) (.slice s5.ca s5.cl s5.cc) (.int .i64 y5.gf) (.slice s5.ga s5.gl s5.gc) hR5
 obtain ⟨k0, k1, k2, k3, k4, k5, k6, k7, k8, k9⟩ := cl10 hUX
 have HS2 : Hid (SkB U (.agg #[.int .i64 y5.kind, .int .i64 y5.level, .slice s5.ea s5.el s5.ec, .int .i64 y5.hb, .string y5.hr, .int .i64 y5.cr, .int .i64 y5.cc, .slice s5.ca s5.cl s5.cc, .int .i64 y5.gf, .slice s5.ga s5.gl s5.gc]) k L2 B2) := SkB.apart ⟨y5, s5, hy5, rfl, hA5⟩ hR5 (fun i u => noU_zero u) hUO
 have HBU : Hid (Below w.heap.size w U) := hUB _ _ (HB3.out.trans (hb5.mono HB3.out.size)) (by omega)
 clear hR5 hUX hUO hUB hy5 hA5 hb5
 go_wp2_with fail
 exact bodyPost_ret (v := .tuple #[.agg #[.int .i64 y5.kind, .int .i64 y5.level, .slice s5.ea s5.el s5.ec, .int .i64 y5.hb, .string y5.hr, .int .i64 y5.cr, .int .i64 y5.cc, .slice s5.ca s5.cl s5.cc, .int .i64 y5.gf, .slice s5.ga s5.gl s5.gc], .int .i64 0]) (by simp [results, Tryz.f11, go_sem, k0, k1, k2, k3, k4, k5, k6, k7, k8, k9]) rfl ⟨_, rfl, HS2.out, HBU.out⟩
set_option maxRecDepth 100000 in
set_option maxHeartbeats 2000000 in
theorem Lower_any {k L : Nat}  {B : Bd} {v : Value} {w : World} (hok : B.Ok k L) (hlv : L < botN k) (hv : SkB w v k L B) :
  Calls Tryz.prog 9 #[v] w fun e w' => ∃ x, e = .returned (.tuple #[x, .int .i64 0]) ∧ SkB w' x k (L + 1) B.low ∧ Below w.heap.size w w' := by
 have hok2 : (B.low).Ok k ((L + 1)) := bd_low_ok hok hlv
 obtain ⟨y, s, hy, rfl, hA⟩ := hv
 obtain ⟨W0, hW0, hXp, hXr, hB0, hs0⟩ := boxes2 w #[.int .i64 y.kind, .int .i64 y.level, .slice s.ea s.el s.ec, .int .i64 y.hb, .string y.hr, .int .i64 y.cr, .int .i64 y.cc, .slice s.ca s.cl s.cc, .int .i64 y.gf, .slice s.ga s.gl s.gc] 33 #[.int .i64 0, .int .i64 0, .slice none 0 0, .int .i64 0, .string ⟨#[]⟩, .int .i64 0, .int .i64 0, .slice none 0 0, .int .i64 0, .slice none 0 0] 33
 have HO := Lib.hid (open_sk_any (w := W0) hok ⟨y, s, hy, rfl, hA.go hB0⟩)
 obtain ⟨L2, hL2⟩ : ∃ L2 : Nat, L + 1 = L2 := ⟨_, rfl⟩
 obtain ⟨B2, hB2⟩ : ∃ B2 : Bd, B.low = B2 := ⟨_, rfl⟩
 rw [hL2, hB2] at hok2 ⊢
 have HT : Hid (∀ b W, BdAt W b B → Calls Tryz.prog 39 #[.agg #[b, .int .i64 k, .int .i64 L]] W fun e w' => ∃ v', e = .returned (.tuple #[.agg #[v', .int .i64 k, .int .i64 L2], .nilIface]) ∧ BdAt w' v' B2 ∧ Below W.heap.size W w') := by
  rw [← hB2, ← hL2]
  rw [Int.natCast_add]
  exact fun b W h => lowered_any b B k L W h hok hlv
 have HN : Hid (∀ b W, BdAt W b B2 → Calls Tryz.prog 32 #[.agg #[b, .int .i64 k, .int .i64 L2], .nilIface] W fun e w' => ∃ x, e = .returned (.tuple #[x, .int .i64 0]) ∧ SkB w' x k L2 B2 ∧ Below W.heap.size W w') := fun b W h => told_nil b B2 k L2 W h hok2
 obtain ⟨c0, c1, c2, c3, c4, c5, c6, c7, c8, c9⟩ := cl10 hXp
 have HXR := Lib.hid hXr
 have HB0 := Lib.hid hB0
 clear hXp hXr hB0 hA hy hok hok2 hL2 hB2 hlv
 go_enter Tryz.func9, Tryz.ntmps9
 go_wp2_with fail
 refine HO.out.mono ?_
 rintro e w1 ⟨b, rfl, hb, hb1⟩
 obtain ⟨T, rv, rfl⟩ := bd_iface hb
 obtain ⟨W2, hW2, hX2, hB2, hs2⟩ := boxes1 w1 #[.iface T rv, .int .i64 k, .int .i64 L] 60
 obtain ⟨d0, d1, d2⟩ := cl3 hX2
 have HT2 := Lib.hid (HT.out _ W2 (hb.go hB2))
 have HX2 := Lib.hid hX2
 have HB2 := Lib.hid hB2
 have HB1 := Lib.hid hb1
 clear hX2 hB2 hb1 hb
 go_wp2_with fail
 refine HT2.out.mono ?_
 rintro e w3 ⟨b3, rfl, hv3, hb3⟩
 obtain ⟨T3, rv3, rfl⟩ := bd_iface hv3
 have hX3 := known hb3 (Nat.le_refl _) HX2.out
 obtain ⟨p0, p1, p2⟩ := cl3 hX3
 obtain ⟨g0, g1, g2⟩ := cz3 hX3
 obtain ⟨V, hV, hVX, hVO, hVB⟩ := store3 (.iface T3 rv3) (.int .i64 k) (.int .i64 L2) hX3
 have HN2 := Lib.hid (HN.out _ V (BdAt.set_work hv3 hX3 (by simp) (by simp) (by simp) hVO))
 have hsz := HB1.out.size
 have HB3 : Hid (Below w.heap.size w V) := hVB _ _ (HB0.out.trans ((HB1.out.trans ((HB2.out.trans (hb3.mono HB2.out.size)).mono HB1.out.size)).mono HB0.out.size)) (by omega)
 have HR3 : Hid (V.heap[w.heap.size + 1]? = some (.cells #[.int .i64 0, .int .i64 0, .slice none 0 0, .int .i64 0, .string ⟨#[]⟩, .int .i64 0, .int .i64 0, .slice none 0 0, .int .i64 0, .slice none 0 0] 33 (0, 0))) := by
  refine (hVO.2 _ (by omega)).trans ?_
  exact known (HB1.out.trans ((HB2.out.trans (hb3.mono HB2.out.size)).mono HB1.out.size)) (Nat.le_refl _) HXR.out
 obtain ⟨q0, q1, q2⟩ := cl3 hVX
 clear hX3 hVX hVO hVB hv3 hb3
 go_wp2_with fail
 refine HN2.out.mono ?_
 rintro e w5 ⟨x, rfl, ⟨y5, s5, hy5, rfl, hA5⟩, hb5⟩
 have hR5 := known hb5 (Nat.le_refl _) HR3.out
 obtain ⟨r0, r1, r2, r3, r4, r5, r6, r7, r8, r9⟩ := cl10 hR5
 obtain ⟨f0, f1, f2, f3, f4, f5, f6, f7, f8, f9⟩ := cz10 hR5
 obtain ⟨U, hU, hUX, hUO, hUB⟩ := store10 (.int .i64 y5.kind) (.int .i64 y5.level) (.slice s5.ea s5.el s5.ec) (.int .i64 y5.hb) (.string y5.hr) (.int .i64 y5.cr) (.int .i64 y5.cc) (.slice s5.ca s5.cl s5.cc) (.int .i64 y5.gf) (.slice s5.ga s5.gl s5.gc) hR5
 obtain ⟨k0, k1, k2, k3, k4, k5, k6, k7, k8, k9⟩ := cl10 hUX
 have HS2 : Hid (SkB U (.agg #[.int .i64 y5.kind, .int .i64 y5.level, .slice s5.ea s5.el s5.ec, .int .i64 y5.hb, .string y5.hr, .int .i64 y5.cr, .int .i64 y5.cc, .slice s5.ca s5.cl s5.cc, .int .i64 y5.gf, .slice s5.ga s5.gl s5.gc]) k L2 B2) := SkB.apart ⟨y5, s5, hy5, rfl, hA5⟩ hR5 (fun i u => noU_zero u) hUO
 have HBU : Hid (Below w.heap.size w U) := hUB _ _ (HB3.out.trans (hb5.mono HB3.out.size)) (by omega)
 clear hR5 hUX hUO hUB hy5 hA5 hb5
 go_wp2_with fail
 exact bodyPost_ret (v := .tuple #[.agg #[.int .i64 y5.kind, .int .i64 y5.level, .slice s5.ea s5.el s5.ec, .int .i64 y5.hb, .string y5.hr, .int .i64 y5.cr, .int .i64 y5.cc, .slice s5.ca s5.cl s5.cc, .int .i64 y5.gf, .slice s5.ga s5.gl s5.gc], .int .i64 0]) (by simp [results, Tryz.f9, go_sem, k0, k1, k2, k3, k4, k5, k6, k7, k8, k9]) rfl ⟨_, rfl, HS2.out, HBU.out⟩
end Go.Proofs.YtcbbenncdainfaaGreatDoor
