/- Package wire: GetReq. Printed by gen_wc.py. -/
import Derived.Test.YtpklkhgnjbopnaaGreatDoorVWb
namespace Go.Proofs.YtpklkhgnjbopnaaGreatDoor
open Go Go.RowKit Go.Shelf
theorem rNum_u64 (st : Rd) : U64 (rNum st).1 := by
 unfold rNum
 split
 ·exact ⟨by decide, by decide⟩
 ·split
  ·rename_i e; exact (getN_got e).1
  ·exact ⟨by decide, by decide⟩
  ·exact ⟨by decide, by decide⟩
theorem rMost_le {m : Int} (hm : 0 ≤ m) (st : Rd) : 0 ≤ (rMost m st).1 ∧ (rMost m st).1 ≤ m := by
 have h := (rNum_u64 st).1
 unfold rMost
 split
 ·exact ⟨Int.le_refl 0, hm⟩
 ·rename_i h1; exact ⟨h, by omega⟩
def rqZ : Array Value := #[.int .i64 0, .int .u64 0, .string ⟨#[]⟩, .string ⟨#[]⟩, .int .i64 0, .slice none 0 0, .int .u64 0, .int .u64 0, .int .u64 0, .slice none 0 0]
def RqPost (o : Option Rq) (w : World) (e : Ending) (w' : World) : Prop := (match o with
   | some q => ∃ ia ic ta tc, e = .returned (.tuple #[.agg (rqV q ia ic ta tc), .int .i64 0]) ∧ SlE encIt 2 w'.heap.size w' ia q.items.length q.items ∧ SlE encU 1 w'.heap.size w' ta q.tens.length q.tens
   | none => e = .returned (.tuple #[.agg rqZ, .int .i64 200])) ∧ Below w.heap.size w w'
def GrowE {α : Type} (enc : α → List Value) (W : World) (base : Nat) (t : TypeId) (size : Nat) (v : Value) (l : List α) : Prop := W.ownsRow base t size v l.length (l.flatMap enc)
section
variable {α : Type} {enc : α → List Value} {A B W : World} {base size : Nat} {t : TypeId} {v : Value} {l : List α}
theorem GrowE.nil (enc : α → List Value) (W : World) (base : Nat) (t : TypeId) (size : Nat) : GrowE enc W base t size (.slice none 0 0) [] := World.ownsRow_nil _ _ _ _
theorem GrowE.keep {q : Nat → Prop} (h : GrowE enc A base t size v l) (hk : Kept q A B) (hq : ∀ k, base ≤ k → q k) : GrowE enc B base t size v l :=
 ⟨h.1, by
  rcases h.2 with h2 | ⟨g, cap, cur, rfl, h3, h4, h5⟩
  ·exact .inl h2
  ·exact .inr ⟨g, cap, cur, rfl, h3, hk.known (hq _ h3) h4, h5⟩⟩
theorem GrowE.push {z : Value} {bytes : Nat} {w0 : World} {B : Nat} (h : GrowE enc W base t size v l) (ty : TypeId) (ht : Tryz.prog.underlying ty = some (.slice t)) (hinfo : (Tryz.prog.info? t).map (fun i => (i.zero, i.size, i.bytes)) = some (some z, size, bytes)) (hzs : z.cells.size = size) (hsz : 0 < size)
  (x : α) (news : List Value) (hx : news = enc x) (hB : Below B w0 W) (hBb : B ≤ base) (hbase : base ≤ W.heap.size) (h1 : ∀ u ∈ news, u.oneCell' = true) (hn : l.length < 4294967281) (hby : bytes ≤ 4096) (hl : news.length = size := by rfl) :
  ∃ g cap w1, (Builtin.append_ #[ty, ty] ty #[v, .slice (some ⟨W.heap.size, 0, none⟩) 1 1]).run Tryz.prog (W.alloc (.cells news.toArray t)) = .ok (.slice (some ⟨g, 0, none⟩) (l.length + 1) cap) w1 ∧
   GrowE enc w1 base t size (.slice (some ⟨g, 0, none⟩) (l.length + 1) cap) (l ++ [x]) ∧ Below B w0 w1 ∧ W.heap.size < w1.heap.size ∧ (∀ k, k < base → w1.heap[k]? = W.heap[k]?) := by
 obtain ⟨g, cap, w1, e1, e2, e3, e4, e5, -⟩ := append_one Tryz.prog ty ht hinfo hzs hsz (W := W) h hB hBb hbase news hl h1 hn hby
 refine ⟨g, cap, w1, e1, ?_, e3, e4, e5⟩
 unfold GrowE
 rw [List.length_append, List.flatMap_append]
 subst hx
 simpa using e2
theorem GrowE.sl (h : GrowE enc W base t size v l) (hk : ∀ x, (enc x).length = size) : ∃ a c, v = .slice a l.length c ∧ SlE enc size W.heap.size W a l.length l := by
 have h1 := slAt_of_owns h
 have h2 : ∃ a c, v = .slice a l.length c := by
  rcases h.2 with ⟨rfl, h0⟩ | ⟨g, cap, cur, rfl, _⟩
  ·exact ⟨none, 0, by rw [h0]⟩
  ·exact ⟨_, _, rfl⟩
 obtain ⟨a, c, rfl⟩ := h2
 exact ⟨a, c, rfl, .of_at hk h1⟩
end
theorem stor10 {w W : World} {b : Nat} {x0 x1 x2 x3 x4 x5 x6 x7 x8 x9 : Value} (v0 v1 v2 v3 v4 v5 v6 v7 v8 v9 : Value) {t : TypeId} (h : W.heap[b]? = some (.cells #[x0, x1, x2, x3, x4, x5, x6, x7, x8, x9] t (0, 0))) {n : Nat} (hB : Below n w W) (hn : n ≤ b) :
  ∃ V, (((((((((W.setCell ⟨b, 0, none⟩ v0).setCell ⟨b, 1, none⟩ v1).setCell ⟨b, 2, none⟩ v2).setCell ⟨b, 3, none⟩ v3).setCell ⟨b, 4, none⟩ v4).setCell ⟨b, 5, none⟩ v5).setCell ⟨b, 6, none⟩ v6).setCell ⟨b, 7, none⟩ v7).setCell ⟨b, 8, none⟩ v8).setCell ⟨b, 9, none⟩ v9 = V ∧
   V.heap[b]? = some (.cells #[v0, v1, v2, v3, v4, v5, v6, v7, v8, v9] t (0, 0)) ∧ Below n w V ∧ Kept (· ≠ b) W V := by
 refine ⟨_, rfl, ?_⟩
 have hK : ∀ X, Kept (· ≠ b) W X → ∀ i v, Kept (· ≠ b) W (X.setCell ⟨b, i, none⟩ v) := fun X hX i v => hX.set (fun _ h => h rfl) _ _
 have hG : ∀ X, Below n w X → ∀ i v, Below n w (X.setCell ⟨b, i, none⟩ v) := fun X hX i v => hX.setCell (p := ⟨b, i, none⟩) hn _
 refine ⟨?_, hG _ (hG _ (hG _ (hG _ (hG _ (hG _ (hG _ (hG _ (hG _ (hG _ hB _ _) _ _) _ _) _ _) _ _) _ _) _ _) _ _) _ _) _ _, hK _ (hK _ (hK _ (hK _ (hK _ (hK _ (hK _ (hK _ (hK _ (hK _ Kept.refl _ _) _ _) _ _) _ _) _ _) _ _) _ _) _ _) _ _) _ _⟩
 clear hK hG hB
 replace h : (W.setCell ⟨b, 0, none⟩ v0).heap[b]? = some (.cells #[v0, x1, x2, x3, x4, x5, x6, x7, x8, x9] t (0, 0)) := hSk h v0
 generalize W.setCell ⟨b, 0, none⟩ v0 = W at h ⊢
 replace h : (W.setCell ⟨b, 1, none⟩ v1).heap[b]? = some (.cells #[v0, v1, x2, x3, x4, x5, x6, x7, x8, x9] t (0, 0)) := hSk h v1
 generalize W.setCell ⟨b, 1, none⟩ v1 = W at h ⊢
 replace h : (W.setCell ⟨b, 2, none⟩ v2).heap[b]? = some (.cells #[v0, v1, v2, x3, x4, x5, x6, x7, x8, x9] t (0, 0)) := hSk h v2
 generalize W.setCell ⟨b, 2, none⟩ v2 = W at h ⊢
 replace h : (W.setCell ⟨b, 3, none⟩ v3).heap[b]? = some (.cells #[v0, v1, v2, v3, x4, x5, x6, x7, x8, x9] t (0, 0)) := hSk h v3
 generalize W.setCell ⟨b, 3, none⟩ v3 = W at h ⊢
 replace h : (W.setCell ⟨b, 4, none⟩ v4).heap[b]? = some (.cells #[v0, v1, v2, v3, v4, x5, x6, x7, x8, x9] t (0, 0)) := hSk h v4
 generalize W.setCell ⟨b, 4, none⟩ v4 = W at h ⊢
 replace h : (W.setCell ⟨b, 5, none⟩ v5).heap[b]? = some (.cells #[v0, v1, v2, v3, v4, v5, x6, x7, x8, x9] t (0, 0)) := hSk h v5
 generalize W.setCell ⟨b, 5, none⟩ v5 = W at h ⊢
 replace h : (W.setCell ⟨b, 6, none⟩ v6).heap[b]? = some (.cells #[v0, v1, v2, v3, v4, v5, v6, x7, x8, x9] t (0, 0)) := hSk h v6
 generalize W.setCell ⟨b, 6, none⟩ v6 = W at h ⊢
 replace h : (W.setCell ⟨b, 7, none⟩ v7).heap[b]? = some (.cells #[v0, v1, v2, v3, v4, v5, v6, v7, x8, x9] t (0, 0)) := hSk h v7
 generalize W.setCell ⟨b, 7, none⟩ v7 = W at h ⊢
 replace h : (W.setCell ⟨b, 8, none⟩ v8).heap[b]? = some (.cells #[v0, v1, v2, v3, v4, v5, v6, v7, v8, x9] t (0, 0)) := hSk h v8
 generalize W.setCell ⟨b, 8, none⟩ v8 = W at h ⊢
 replace h : (W.setCell ⟨b, 9, none⟩ v9).heap[b]? = some (.cells #[v0, v1, v2, v3, v4, v5, v6, v7, v8, v9] t (0, 0)) := hSk h v9
 generalize W.setCell ⟨b, 9, none⟩ v9 = W at h ⊢
 exact h
section
variable {l : List UInt8} {a0 a1 a4 a5 a6 a7 a8 a9 : Int} {a2 a3 : ByteArray} {s0 s1 s2 s3 s4 s5 s6 s7 s8 s9 st sz : Rd} {its : List (Nat × Int)} {ts : List Int}
theorem rdRq_of (h0 : rMost 255 (some l) = (a0, s0)) (h1 : rNum s0 = (a1, s1)) (h2 : rText s1 = (a2, s2)) (h3 : rText s2 = (a3, s3)) (h4 : rMost 255 s3 = (a4, s4)) (h5 : rMost 50 s4 = (a5, s5))
  (hi : iter (stepL rItem) a5.toNat ([], s5) = (its, st)) (h6 : rNum st = (a6, s6)) (h7 : rNum s6 = (a7, s7)) (h8 : rNum s7 = (a8, s8)) (h9 : rMost 8 s8 = (a9, s9)) (ht : iter (stepL rNum) a9.toNat ([], s9) = (ts, sz)) :
  rdRq l = (⟨a0, a1, a2, a3, a4, its, a6, a7, a8, ts⟩, sz) := by
 unfold rdRq
 simp only [h0, h1, h2, h3, h4, h5, hi, h6, h7, h8, h9, ht]
theorem getRq_some (he : sz = some []) (h0 : rMost 255 (some l) = (a0, s0)) (h1 : rNum s0 = (a1, s1)) (h2 : rText s1 = (a2, s2)) (h3 : rText s2 = (a3, s3)) (h4 : rMost 255 s3 = (a4, s4)) (h5 : rMost 50 s4 = (a5, s5))
  (hi : iter (stepL rItem) a5.toNat ([], s5) = (its, st)) (h6 : rNum st = (a6, s6)) (h7 : rNum s6 = (a7, s7)) (h8 : rNum s7 = (a8, s8)) (h9 : rMost 8 s8 = (a9, s9)) (ht : iter (stepL rNum) a9.toNat ([], s9) = (ts, sz)) :
  getRq l = some ⟨a0, a1, a2, a3, a4, its, a6, a7, a8, ts⟩ := by
 unfold getRq
 rw [rdRq_of h0 h1 h2 h3 h4 h5 hi h6 h7 h8 h9 ht, if_pos he]
theorem getRq_none (he : sz ≠ some []) (h0 : rMost 255 (some l) = (a0, s0)) (h1 : rNum s0 = (a1, s1)) (h2 : rText s1 = (a2, s2)) (h3 : rText s2 = (a3, s3)) (h4 : rMost 255 s3 = (a4, s4)) (h5 : rMost 50 s4 = (a5, s5))
  (hi : iter (stepL rItem) a5.toNat ([], s5) = (its, st)) (h6 : rNum st = (a6, s6)) (h7 : rNum s6 = (a7, s7)) (h8 : rNum s7 = (a8, s8)) (h9 : rMost 8 s8 = (a9, s9)) (ht : iter (stepL rNum) a9.toNat ([], s9) = (ts, sz)) :
  getRq l = none := by
 unfold getRq
 rw [rdRq_of h0 h1 h2 h3 h4 h5 hi h6 h7 h8 h9 ht, if_neg he]
end
theorem info_itw : (Tryz.prog.info? 123).map (fun i => (i.zero, i.size, i.bytes)) = some (some (.agg #[.int .u64 0, .int .u64 0]), 2, 16) := by kernel_rfl
attribute [-go_sem] Builtin.append_
set_option maxRecDepth 100000 in
set_option maxHeartbeats 4000000 in
theorem GetReq_any (s : ByteArray) (fm ff : Addr) (w : World) (hs : s.size < 4294967281) (hE : ∀ W, Below w.heap.size w W → GF fm ff W) :
  Calls Tryz.prog 23 #[.string s] w (RqPost (getRq s.data.toList) w) := by
 obtain ⟨Wr, hWr, hXr, hBr, hsr⟩ := boxes1 w #[.int .i64 0, .int .u64 0, .string ⟨#[]⟩, .string ⟨#[]⟩, .int .i64 0, .slice none 0 0, .int .u64 0, .int .u64 0, .int .u64 0, .slice none 0 0] 56
 obtain ⟨W0, hW0, hX0, hB0, hs0⟩ := boxes1 Wr #[.string s, .bool false] 130
 obtain ⟨W1, hW1, hX1, hB1, hs1⟩ := boxes1 W0 #[.int .i64 0, .int .u64 0, .string ⟨#[]⟩, .string ⟨#[]⟩, .int .i64 0, .slice none 0 0, .int .u64 0, .int .u64 0, .int .u64 0, .slice none 0 0] 56
 have hX10 := known hB1 (Nat.le_refl _) hX0
 have hne : W0.heap.size ≠ Wr.heap.size := by omega
 have hql : Wr.heap.size ≤ W0.heap.size := by omega
 obtain ⟨l, hl⟩ : ∃ l, s.data.toList = l := ⟨_, rfl⟩
 have hll : l.length < 4294967281 := by rw [← hl, Array.length_toList]; exact hs
 have hsl : s = ⟨l.toArray⟩ := by rw [← hl]
 rw [hl]
 have HR0 : Hid (RdAt Wr.heap.size (some l) W1) := ⟨hll, by rw [← hsl]; exact hX10⟩
 have HQ0 : Hid (W1.heap[W0.heap.size]? = some (.cells #[.int .i64 0, .int .u64 0, .string ⟨#[]⟩, .string ⟨#[]⟩, .int .i64 0, .slice none 0 0, .int .u64 0, .int .u64 0, .int .u64 0, .slice none 0 0] 56 (0, 0))) := hX1
 have HB0 : Hid (Below Wr.heap.size Wr W1) := hB0.trans (hB1.mono hB0.size)
 have HE : Hid (∀ W, Below Wr.heap.size Wr W → GF fm ff W) := fun W hb => hE W (hBr.trans (hb.mono hBr.size))
 have HRes : Hid (∀ W, Below Wr.heap.size Wr W → W.heap[w.heap.size]? = some (.cells #[.int .i64 0, .int .u64 0, .string ⟨#[]⟩, .string ⟨#[]⟩, .int .i64 0, .slice none 0 0, .int .u64 0, .int .u64 0, .int .u64 0, .slice none 0 0] 56 (0, 0)) ∧ Below w.heap.size w W) := fun W hb => ⟨known hb (Nat.le_refl _) hXr, hBr.trans (hb.mono hBr.size)⟩
 have HNE := Lib.hid hne
 have HWr : Hid (w.heap.size < Wr.heap.size) := by rw [Hid]; omega
 have HQL := Lib.hid hql
 clear hX0 hX1 hX10 hXr hB0 hB1 hBr hs0 hs1 hsr hE hll hsl hl hs hne hql
 go_enter Tryz.func23, Tryz.ntmps23
 obtain ⟨a0, s0, ha⟩ : ∃ a s, rMost 255 (some l) = (a, s) := ⟨_, _, rfl⟩
 have hc := rdmost_x 255 Wr.heap.size (some l) fm ff W1 ⟨by decide, by decide⟩ HR0.out (HE.out _ HB0.out)
 have hm := rMost_le (m := 255) (by decide) (some l)
 rw [ha] at hc hm
 obtain ⟨ml0, mu0⟩ : 0 ≤ a0 ∧ a0 ≤ 255 := hm
 have HA0 := Lib.hid ha
 have HC := Lib.hid hc
 clear hc ha
 go_wp2_with fail
 refine HC.out.mono ?_
 rintro e w1 ⟨rfl, hr, hk⟩
 clear HC
 have hq : w1.heap[W0.heap.size]? = some (.cells #[.int .i64 0, .int .u64 0, .string ⟨#[]⟩, .string ⟨#[]⟩, .int .i64 0, .slice none 0 0, .int .u64 0, .int .u64 0, .int .u64 0, .slice none 0 0] 56 (0, 0)) := hk.known HNE.out HQ0.out
 have hb : Below Wr.heap.size Wr w1 := HB0.out.trans (hk.below (fun k hk => Nat.ne_of_lt hk) HB0.out.size)
 have c0 : w1.cell? ⟨W0.heap.size, 0, none⟩ = some (.int .i64 0) := cCc hq 0
 have f0 : w1.frozen? ⟨W0.heap.size, 0, none⟩ = false := cFz hq 0
 obtain ⟨V1, hV1, hVX, hVA, hVB, -⟩ := box_set (i := 0) hq (.int .i64 a0)
 have HQ1 : Hid (V1.heap[W0.heap.size]? = some (.cells #[.int .i64 a0, .int .u64 0, .string ⟨#[]⟩, .string ⟨#[]⟩, .int .i64 0, .slice none 0 0, .int .u64 0, .int .u64 0, .int .u64 0, .slice none 0 0] 56 (0, 0))) := hVX
 have HR1 : Hid (RdAt Wr.heap.size s0 V1) := by rw [Hid, ← hV1]; exact hr.keep (Kept.refl.set (q := (· ≠ W0.heap.size)) (fun _ h => h rfl) _ _) (Ne.symm HNE.out)
 have HB1 : Hid (Below Wr.heap.size Wr V1) := hVB _ _ HQL.out hb
 clear hr hk hq hVX hVA hVB hb HQ0 HR0 HB0
 obtain ⟨a1, s1, ha⟩ : ∃ a s, rNum s0 = (a, s) := ⟨_, _, rfl⟩
 have hc := rdnum_x Wr.heap.size s0 fm ff V1 HR1.out (HE.out _ HB1.out)
 rw [ha] at hc
 have HA1 := Lib.hid ha
 have HC := Lib.hid hc
 clear hc ha
 go_wp2_with fail
 refine HC.out.mono ?_
 rintro e w2 ⟨rfl, hr, hk⟩
 clear HC
 have hq : w2.heap[W0.heap.size]? = some (.cells #[.int .i64 a0, .int .u64 0, .string ⟨#[]⟩, .string ⟨#[]⟩, .int .i64 0, .slice none 0 0, .int .u64 0, .int .u64 0, .int .u64 0, .slice none 0 0] 56 (0, 0)) := hk.known HNE.out HQ1.out
 have hb : Below Wr.heap.size Wr w2 := HB1.out.trans (hk.below (fun k hk => Nat.ne_of_lt hk) HB1.out.size)
 have c1 : w2.cell? ⟨W0.heap.size, 1, none⟩ = some (.int .u64 0) := cCc hq 1
 have f1 : w2.frozen? ⟨W0.heap.size, 1, none⟩ = false := cFz hq 1
 obtain ⟨V2, hV2, hVX, hVA, hVB, -⟩ := box_set (i := 1) hq (.int .u64 a1)
 have HQ2 : Hid (V2.heap[W0.heap.size]? = some (.cells #[.int .i64 a0, .int .u64 a1, .string ⟨#[]⟩, .string ⟨#[]⟩, .int .i64 0, .slice none 0 0, .int .u64 0, .int .u64 0, .int .u64 0, .slice none 0 0] 56 (0, 0))) := hVX
 have HR2 : Hid (RdAt Wr.heap.size s1 V2) := by rw [Hid, ← hV2]; exact hr.keep (Kept.refl.set (q := (· ≠ W0.heap.size)) (fun _ h => h rfl) _ _) (Ne.symm HNE.out)
 have HB2 : Hid (Below Wr.heap.size Wr V2) := hVB _ _ HQL.out hb
 clear hr hk hq hVX hVA hVB hb HQ1 HR1 HB1
 obtain ⟨a2, s2, ha⟩ : ∃ a s, rText s1 = (a, s) := ⟨_, _, rfl⟩
 have hc := rdtext_x Wr.heap.size s1 fm ff V2 HR2.out (fun W hb => HE.out W (HB2.out.trans (hb.mono HB2.out.size)))
 rw [ha] at hc
 have HA2 := Lib.hid ha
 have HC := Lib.hid hc
 clear hc ha
 go_wp2_with fail
 refine HC.out.mono ?_
 rintro e w3 ⟨rfl, hr, hk⟩
 clear HC
 have hq : w3.heap[W0.heap.size]? = some (.cells #[.int .i64 a0, .int .u64 a1, .string ⟨#[]⟩, .string ⟨#[]⟩, .int .i64 0, .slice none 0 0, .int .u64 0, .int .u64 0, .int .u64 0, .slice none 0 0] 56 (0, 0)) := hk.known HNE.out HQ2.out
 have hb : Below Wr.heap.size Wr w3 := HB2.out.trans (hk.below (fun k hk => Nat.ne_of_lt hk) HB2.out.size)
 have c2 : w3.cell? ⟨W0.heap.size, 2, none⟩ = some (.string ⟨#[]⟩) := cCc hq 2
 have f2 : w3.frozen? ⟨W0.heap.size, 2, none⟩ = false := cFz hq 2
 obtain ⟨V3, hV3, hVX, hVA, hVB, -⟩ := box_set (i := 2) hq (.string a2)
 have HQ3 : Hid (V3.heap[W0.heap.size]? = some (.cells #[.int .i64 a0, .int .u64 a1, .string a2, .string ⟨#[]⟩, .int .i64 0, .slice none 0 0, .int .u64 0, .int .u64 0, .int .u64 0, .slice none 0 0] 56 (0, 0))) := hVX
 have HR3 : Hid (RdAt Wr.heap.size s2 V3) := by rw [Hid, ← hV3]; exact hr.keep (Kept.refl.set (q := (· ≠ W0.heap.size)) (fun _ h => h rfl) _ _) (Ne.symm HNE.out)
 have HB3 : Hid (Below Wr.heap.size Wr V3) := hVB _ _ HQL.out hb
 clear hr hk hq hVX hVA hVB hb HQ2 HR2 HB2
 obtain ⟨a3, s3, ha⟩ : ∃ a s, rText s2 = (a, s) := ⟨_, _, rfl⟩
 have hc := rdtext_x Wr.heap.size s2 fm ff V3 HR3.out (fun W hb => HE.out W (HB3.out.trans (hb.mono HB3.out.size)))
 rw [ha] at hc
 have HA3 := Lib.hid ha
 have HC := Lib.hid hc
 clear hc ha
 go_wp2_with fail
 refine HC.out.mono ?_
 rintro e w4 ⟨rfl, hr, hk⟩
 clear HC
 have hq : w4.heap[W0.heap.size]? = some (.cells #[.int .i64 a0, .int .u64 a1, .string a2, .string ⟨#[]⟩, .int .i64 0, .slice none 0 0, .int .u64 0, .int .u64 0, .int .u64 0, .slice none 0 0] 56 (0, 0)) := hk.known HNE.out HQ3.out
 have hb : Below Wr.heap.size Wr w4 := HB3.out.trans (hk.below (fun k hk => Nat.ne_of_lt hk) HB3.out.size)
 have c3 : w4.cell? ⟨W0.heap.size, 3, none⟩ = some (.string ⟨#[]⟩) := cCc hq 3
 have f3 : w4.frozen? ⟨W0.heap.size, 3, none⟩ = false := cFz hq 3
 obtain ⟨V4, hV4, hVX, hVA, hVB, -⟩ := box_set (i := 3) hq (.string a3)
 have HQ4 : Hid (V4.heap[W0.heap.size]? = some (.cells #[.int .i64 a0, .int .u64 a1, .string a2, .string a3, .int .i64 0, .slice none 0 0, .int .u64 0, .int .u64 0, .int .u64 0, .slice none 0 0] 56 (0, 0))) := hVX
 have HR4 : Hid (RdAt Wr.heap.size s3 V4) := by rw [Hid, ← hV4]; exact hr.keep (Kept.refl.set (q := (· ≠ W0.heap.size)) (fun _ h => h rfl) _ _) (Ne.symm HNE.out)
 have HB4 : Hid (Below Wr.heap.size Wr V4) := hVB _ _ HQL.out hb
 clear hr hk hq hVX hVA hVB hb HQ3 HR3 HB3
 obtain ⟨a4, s4, ha⟩ : ∃ a s, rMost 255 s3 = (a, s) := ⟨_, _, rfl⟩
 have hc := rdmost_x 255 Wr.heap.size s3 fm ff V4 ⟨by decide, by decide⟩ HR4.out (HE.out _ HB4.out)
 have hm := rMost_le (m := 255) (by decide) s3
 rw [ha] at hc hm
 obtain ⟨ml4, mu4⟩ : 0 ≤ a4 ∧ a4 ≤ 255 := hm
 have HA4 := Lib.hid ha
 have HC := Lib.hid hc
 clear hc ha
 go_wp2_with fail
 refine HC.out.mono ?_
 rintro e w5 ⟨rfl, hr, hk⟩
 clear HC
 have hq : w5.heap[W0.heap.size]? = some (.cells #[.int .i64 a0, .int .u64 a1, .string a2, .string a3, .int .i64 0, .slice none 0 0, .int .u64 0, .int .u64 0, .int .u64 0, .slice none 0 0] 56 (0, 0)) := hk.known HNE.out HQ4.out
 have hb : Below Wr.heap.size Wr w5 := HB4.out.trans (hk.below (fun k hk => Nat.ne_of_lt hk) HB4.out.size)
 have c4 : w5.cell? ⟨W0.heap.size, 4, none⟩ = some (.int .i64 0) := cCc hq 4
 have f4 : w5.frozen? ⟨W0.heap.size, 4, none⟩ = false := cFz hq 4
 obtain ⟨V5, hV5, hVX, hVA, hVB, -⟩ := box_set (i := 4) hq (.int .i64 a4)
 have HQ5 : Hid (V5.heap[W0.heap.size]? = some (.cells #[.int .i64 a0, .int .u64 a1, .string a2, .string a3, .int .i64 a4, .slice none 0 0, .int .u64 0, .int .u64 0, .int .u64 0, .slice none 0 0] 56 (0, 0))) := hVX
 have HR5 : Hid (RdAt Wr.heap.size s4 V5) := by rw [Hid, ← hV5]; exact hr.keep (Kept.refl.set (q := (· ≠ W0.heap.size)) (fun _ h => h rfl) _ _) (Ne.symm HNE.out)
 have HB5 : Hid (Below Wr.heap.size Wr V5) := hVB _ _ HQL.out hb
 clear hr hk hq hVX hVA hVB hb HQ4 HR4 HB4
 obtain ⟨a5, s5, ha⟩ : ∃ a s, rMost 50 s4 = (a, s) := ⟨_, _, rfl⟩
 have hc := rdmost_x 50 Wr.heap.size s4 fm ff V5 ⟨by decide, by decide⟩ HR5.out (HE.out _ HB5.out)
 have hm := rMost_le (m := 50) (by decide) s4
 rw [ha] at hc hm
 obtain ⟨ml5, mu5⟩ : 0 ≤ a5 ∧ a5 ≤ 50 := hm
 have HA5 := Lib.hid ha
 have HC := Lib.hid hc
 clear hc ha
 go_wp2_with fail
 refine HC.out.mono ?_
 rintro e w6 ⟨rfl, hr, hk⟩
 clear HC
 have hq : w6.heap[W0.heap.size]? = some (.cells #[.int .i64 a0, .int .u64 a1, .string a2, .string a3, .int .i64 a4, .slice none 0 0, .int .u64 0, .int .u64 0, .int .u64 0, .slice none 0 0] 56 (0, 0)) := hk.known HNE.out HQ5.out
 have hb : Below Wr.heap.size Wr w6 := HB5.out.trans (hk.below (fun k hk => Nat.ne_of_lt hk) HB5.out.size)
 obtain ⟨nI, hnI⟩ : ∃ nI : Nat, a5 = (nI : Int) := ⟨a5.toNat, by omega⟩
 subst hnI
 have HQ6 : Hid (w6.heap[W0.heap.size]? = some (.cells #[.int .i64 a0, .int .u64 a1, .string a2, .string a3, .int .i64 a4, .slice none 0 0, .int .u64 0, .int .u64 0, .int .u64 0, .slice none 0 0] 56 (0, 0))) := hq
 have HR6 : Hid (RdAt Wr.heap.size s5 w6) := hr
 have HB6 : Hid (Below Wr.heap.size Wr w6) := hb
 have HS6 : Hid (W0.heap.size + 1 ≤ w6.heap.size) := by have := (Array.getElem?_eq_some_iff.1 hq).1; rw [Hid]; omega
 clear hr hk hq hb HQ5 HR5 HB5 ml5
 go_wp2_with fail
 go_loopw [31] (fun i wr => ∃ (k : Nat) (v : Value) (its : List (Nat × Int)) (st : Rd), i = .int .u64 k ∧ k ≤ nI ∧ Hid (iter (stepL rItem) k ([], s5) = (its, st)) ∧ Hid (RdAt Wr.heap.size st wr) ∧ Hid (wr.heap[W0.heap.size]? = some (.cells #[.int .i64 a0, .int .u64 a1, .string a2, .string a3, .int .i64 a4, v, .int .u64 0, .int .u64 0, .int .u64 0, .slice none 0 0] 56 (0, 0))) ∧ Hid (GrowE encIt wr (W0.heap.size + 1) 123 2 v its) ∧ Hid (its.length = k) ∧ Hid (Below Wr.heap.size Wr wr)) (fun i _ => nI - (intOf i).toNat)
 case atStart => exact ⟨0, .slice none 0 0, [], s5, rfl, Nat.zero_le _, rfl, HR6, HQ6, GrowE.nil .., rfl, HB6⟩
 case round =>
  obtain ⟨k, v, its, st, rfl, hk, HIt, HR, HQ, HG, HL, HB⟩ := hrel
  by_cases hlt : k < nI
  ·obtain ⟨a, t1, ha⟩ : ∃ a s, rNum st = (a, s) := ⟨_, _, rfl⟩
   obtain ⟨b, t2, hb⟩ : ∃ a s, rNum t1 = (a, s) := ⟨_, _, rfl⟩
   have hau := rNum_u64 st
   have hbu := rNum_u64 t1
   rw [ha] at hau
   rw [hb] at hbu
   have hc := rdnum_x Wr.heap.size st fm ff wr HR.out (HE.out _ HB.out)
   rw [ha] at hc
   have HC := Lib.hid hc
   have HA := Lib.hid ha
   have HBb := Lib.hid hb
   have HAu := Lib.hid hau
   have HBu := Lib.hid hbu
   clear hc ha hb hau hbu
   go_wp2_with fail
   refine HC.out.mono ?_
   rintro e x1 ⟨rfl, hr, hk1⟩
   have HRx : Hid (RdAt Wr.heap.size t1 x1) := hr
   have HQx : Hid (x1.heap[W0.heap.size]? = some (.cells #[.int .i64 a0, .int .u64 a1, .string a2, .string a3, .int .i64 a4, v, .int .u64 0, .int .u64 0, .int .u64 0, .slice none 0 0] 56 (0, 0))) := hk1.known HNE.out HQ.out
   have HBx : Hid (Below Wr.heap.size Wr x1) := HB.out.trans (hk1.below (fun k hk => Nat.ne_of_lt hk) HB.out.size)
   have HGx : Hid (GrowE encIt x1 (W0.heap.size + 1) 123 2 v its) := HG.out.keep hk1 (fun k hk => by have := HQL.out; show k ≠ Wr.heap.size; omega)
   have hc := rdnum_x Wr.heap.size t1 fm ff x1 HRx.out (HE.out _ HBx.out)
   rw [HBb.out] at hc
   have HC2 := Lib.hid hc
   clear hc hr hk1 HC
   go_wp2_with fail
   refine HC2.out.mono ?_
   rintro e x2 ⟨rfl, hr, hk1⟩
   have HRy : Hid (RdAt Wr.heap.size t2 x2) := hr
   have hqy : x2.heap[W0.heap.size]? = some (.cells #[.int .i64 a0, .int .u64 a1, .string a2, .string a3, .int .i64 a4, v, .int .u64 0, .int .u64 0, .int .u64 0, .slice none 0 0] 56 (0, 0)) := hk1.known HNE.out HQx.out
   have hby : Below Wr.heap.size Wr x2 := HBx.out.trans (hk1.below (fun k hk => Nat.ne_of_lt hk) HBx.out.size)
   have hgy := HGx.out.keep hk1 (fun k hk => by have := HQL.out; show k ≠ Wr.heap.size; omega)
   have c5 : x2.cell? ⟨W0.heap.size, 5, none⟩ = some v := cCc hqy 5
   have hlt2 := (Array.getElem?_eq_some_iff.1 hqy).1
   obtain ⟨g, cap, x3, hap, hG3, hB3, hz3, hbl3⟩ := hgy.push (w0 := Wr) (B := Wr.heap.size) 53 und_items info_itw rfl (by decide) (a.toNat, b) [.int .u64 a, .int .u64 b] (by show [Value.int .u64 a, .int .u64 b] = [.int .u64 ((a.toNat : Nat) : Int), .int .u64 b]; rw [Int.toNat_of_nonneg HAu.out.1]) hby (by have := HQL.out; omega) (by omega) (by simp [Value.oneCell']) (by rw [HL.out]; omega) (by decide)
   rw [HL.out] at hap hG3
   have hq3 : x3.heap[W0.heap.size]? = some (.cells #[.int .i64 a0, .int .u64 a1, .string a2, .string a3, .int .i64 a4, v, .int .u64 0, .int .u64 0, .int .u64 0, .slice none 0 0] 56 (0, 0)) := (hbl3 _ (by omega)).trans hqy
   have c6 : x3.cell? ⟨W0.heap.size, 5, none⟩ = some v := cCc hq3 5
   have f6 : x3.frozen? ⟨W0.heap.size, 5, none⟩ = false := cFz hq3 5
   obtain ⟨V, hV, hVX, hVA, hVB, -⟩ := box_set (i := 5) hq3 (.slice (some ⟨g, 0, none⟩) (k + 1) cap)
   have hkV : Kept (· ≠ W0.heap.size) x3 V := by rw [← hV]; exact Kept.refl.set (fun _ h => h rfl) _ _
   have FI : Hid (iter (stepL rItem) (k + 1) ([], s5) = (its ++ [(a.toNat, b)], t2) ∧ RdAt Wr.heap.size t2 V ∧ V.heap[W0.heap.size]? = some (.cells #[.int .i64 a0, .int .u64 a1, .string a2, .string a3, .int .i64 a4, .slice (some ⟨g, 0, none⟩) (k + 1) cap, .int .u64 0, .int .u64 0, .int .u64 0, .slice none 0 0] 56 (0, 0)) ∧ GrowE encIt V (W0.heap.size + 1) 123 2 (.slice (some ⟨g, 0, none⟩) (k + 1) cap) (its ++ [(a.toNat, b)]) ∧ (its ++ [(a.toNat, b)]).length = k + 1 ∧ Below Wr.heap.size Wr V) := by
    refine ⟨?_, ?_, hVX, hG3.keep hkV (fun k hk => by show k ≠ W0.heap.size; omega), by rw [List.length_append, HL.out]; rfl, hVB _ _ HQL.out hB3⟩
    ·show stepL rItem (iter (stepL rItem) k ([], s5)) = _
     rw [HIt.out]
     unfold stepL rItem
     dsimp only
     rw [HA.out]
     dsimp only
     rw [HBb.out]
    ·refine RdAt.keep (q := (· ≠ W0.heap.size)) ?_ hkV (Ne.symm HNE.out)
     have hrl := HRy.out.lt
     cases t2 with
     | none => obtain ⟨z, h⟩ := HRy.out; exact ⟨z, (hbl3 _ (by have := HQL.out; omega)).trans h⟩
     | some z => exact ⟨HRy.out.1, (hbl3 _ (by have := HQL.out; omega)).trans HRy.out.2⟩
   clear hr hk1 hqy hby hgy hlt2 hG3 hB3 hz3 hbl3 hq3 hVX hVA hVB hkV HC2
   go_wp2_with fail
   go_roundw
   case rel =>
    obtain ⟨h1, h2, h3, h4, h5, h6⟩ := FI.out
    exact ⟨k + 1, _, _, _, by go_num, by omega, h1, h2, h3, h4, h5, h6⟩
   case measure => simp [intOf]; omega
  ·obtain rfl : k = nI := by omega
   have HR6 := HR
   have HQ6 := HQ
   have HB6 := HB
   have HK6 : Hid (Kept (fun k => W0.heap.size + 1 ≤ k) wr wr) := Kept.refl
   obtain ⟨a6, s6, ha⟩ : ∃ a s, rNum st = (a, s) := ⟨_, _, rfl⟩
   have hc := rdnum_x Wr.heap.size st fm ff wr HR6.out (HE.out _ HB6.out)
   rw [ha] at hc
   have HA6 := Lib.hid ha
   have HC := Lib.hid hc
   clear hc ha
   go_wp2_with fail
   refine HC.out.mono ?_
   rintro e w7 ⟨rfl, hr, hk⟩
   clear HC
   have hq : w7.heap[W0.heap.size]? = some (.cells #[.int .i64 a0, .int .u64 a1, .string a2, .string a3, .int .i64 a4, v, .int .u64 0, .int .u64 0, .int .u64 0, .slice none 0 0] 56 (0, 0)) := hk.known HNE.out HQ6.out
   have hb : Below Wr.heap.size Wr w7 := HB6.out.trans (hk.below (fun k hk => Nat.ne_of_lt hk) HB6.out.size)
   have c6 : w7.cell? ⟨W0.heap.size, 6, none⟩ = some (.int .u64 0) := cCc hq 6
   have f6 : w7.frozen? ⟨W0.heap.size, 6, none⟩ = false := cFz hq 6
   obtain ⟨V7, hV7, hVX, hVA, hVB, -⟩ := box_set (i := 6) hq (.int .u64 a6)
   have HQ7 : Hid (V7.heap[W0.heap.size]? = some (.cells #[.int .i64 a0, .int .u64 a1, .string a2, .string a3, .int .i64 a4, v, .int .u64 a6, .int .u64 0, .int .u64 0, .slice none 0 0] 56 (0, 0))) := hVX
   have HR7 : Hid (RdAt Wr.heap.size s6 V7) := by rw [Hid, ← hV7]; exact hr.keep (Kept.refl.set (q := (· ≠ W0.heap.size)) (fun _ h => h rfl) _ _) (Ne.symm HNE.out)
   have HB7 : Hid (Below Wr.heap.size Wr V7) := hVB _ _ HQL.out hb
   have HK7 : Hid (Kept (fun k => W0.heap.size + 1 ≤ k) wr V7) := by rw [Hid, ← hV7]; exact (HK6.out.trans (hk.mono (fun k hk => by have := HQL.out; show k ≠ Wr.heap.size; omega))).set (fun _ h => by have h : W0.heap.size + 1 ≤ W0.heap.size := h; omega) _ _
   clear hr hk hq hVX hVA hVB hb HQ6 HR6 HB6 HK6
   obtain ⟨a7, s7, ha⟩ : ∃ a s, rNum s6 = (a, s) := ⟨_, _, rfl⟩
   have hc := rdnum_x Wr.heap.size s6 fm ff V7 HR7.out (HE.out _ HB7.out)
   rw [ha] at hc
   have HA7 := Lib.hid ha
   have HC := Lib.hid hc
   clear hc ha
   go_wp2_with fail
   refine HC.out.mono ?_
   rintro e w8 ⟨rfl, hr, hk⟩
   clear HC
   have hq : w8.heap[W0.heap.size]? = some (.cells #[.int .i64 a0, .int .u64 a1, .string a2, .string a3, .int .i64 a4, v, .int .u64 a6, .int .u64 0, .int .u64 0, .slice none 0 0] 56 (0, 0)) := hk.known HNE.out HQ7.out
   have hb : Below Wr.heap.size Wr w8 := HB7.out.trans (hk.below (fun k hk => Nat.ne_of_lt hk) HB7.out.size)
   have c7 : w8.cell? ⟨W0.heap.size, 7, none⟩ = some (.int .u64 0) := cCc hq 7
   have f7 : w8.frozen? ⟨W0.heap.size, 7, none⟩ = false := cFz hq 7
   obtain ⟨V8, hV8, hVX, hVA, hVB, -⟩ := box_set (i := 7) hq (.int .u64 a7)
   have HQ8 : Hid (V8.heap[W0.heap.size]? = some (.cells #[.int .i64 a0, .int .u64 a1, .string a2, .string a3, .int .i64 a4, v, .int .u64 a6, .int .u64 a7, .int .u64 0, .slice none 0 0] 56 (0, 0))) := hVX
   have HR8 : Hid (RdAt Wr.heap.size s7 V8) := by rw [Hid, ← hV8]; exact hr.keep (Kept.refl.set (q := (· ≠ W0.heap.size)) (fun _ h => h rfl) _ _) (Ne.symm HNE.out)
   have HB8 : Hid (Below Wr.heap.size Wr V8) := hVB _ _ HQL.out hb
   have HK8 : Hid (Kept (fun k => W0.heap.size + 1 ≤ k) wr V8) := by rw [Hid, ← hV8]; exact (HK7.out.trans (hk.mono (fun k hk => by have := HQL.out; show k ≠ Wr.heap.size; omega))).set (fun _ h => by have h : W0.heap.size + 1 ≤ W0.heap.size := h; omega) _ _
   clear hr hk hq hVX hVA hVB hb HQ7 HR7 HB7 HK7
   obtain ⟨a8, s8, ha⟩ : ∃ a s, rNum s7 = (a, s) := ⟨_, _, rfl⟩
   have hc := rdnum_x Wr.heap.size s7 fm ff V8 HR8.out (HE.out _ HB8.out)
   rw [ha] at hc
   have HA8 := Lib.hid ha
   have HC := Lib.hid hc
   clear hc ha
   go_wp2_with fail
   refine HC.out.mono ?_
   rintro e w9 ⟨rfl, hr, hk⟩
   clear HC
   have hq : w9.heap[W0.heap.size]? = some (.cells #[.int .i64 a0, .int .u64 a1, .string a2, .string a3, .int .i64 a4, v, .int .u64 a6, .int .u64 a7, .int .u64 0, .slice none 0 0] 56 (0, 0)) := hk.known HNE.out HQ8.out
   have hb : Below Wr.heap.size Wr w9 := HB8.out.trans (hk.below (fun k hk => Nat.ne_of_lt hk) HB8.out.size)
   have c8 : w9.cell? ⟨W0.heap.size, 8, none⟩ = some (.int .u64 0) := cCc hq 8
   have f8 : w9.frozen? ⟨W0.heap.size, 8, none⟩ = false := cFz hq 8
   obtain ⟨V9, hV9, hVX, hVA, hVB, -⟩ := box_set (i := 8) hq (.int .u64 a8)
   have HQ9 : Hid (V9.heap[W0.heap.size]? = some (.cells #[.int .i64 a0, .int .u64 a1, .string a2, .string a3, .int .i64 a4, v, .int .u64 a6, .int .u64 a7, .int .u64 a8, .slice none 0 0] 56 (0, 0))) := hVX
   have HR9 : Hid (RdAt Wr.heap.size s8 V9) := by rw [Hid, ← hV9]; exact hr.keep (Kept.refl.set (q := (· ≠ W0.heap.size)) (fun _ h => h rfl) _ _) (Ne.symm HNE.out)
   have HB9 : Hid (Below Wr.heap.size Wr V9) := hVB _ _ HQL.out hb
   have HK9 : Hid (Kept (fun k => W0.heap.size + 1 ≤ k) wr V9) := by rw [Hid, ← hV9]; exact (HK8.out.trans (hk.mono (fun k hk => by have := HQL.out; show k ≠ Wr.heap.size; omega))).set (fun _ h => by have h : W0.heap.size + 1 ≤ W0.heap.size := h; omega) _ _
   clear hr hk hq hVX hVA hVB hb HQ8 HR8 HB8 HK8
   obtain ⟨a9, s9, ha⟩ : ∃ a s, rMost 8 s8 = (a, s) := ⟨_, _, rfl⟩
   have hc := rdmost_x 8 Wr.heap.size s8 fm ff V9 ⟨by decide, by decide⟩ HR9.out (HE.out _ HB9.out)
   have hm := rMost_le (m := 8) (by decide) s8
   rw [ha] at hc hm
   obtain ⟨ml9, mu9⟩ : 0 ≤ a9 ∧ a9 ≤ 8 := hm
   have HA9 := Lib.hid ha
   have HC := Lib.hid hc
   clear hc ha
   go_wp2_with fail
   refine HC.out.mono ?_
   rintro e w10 ⟨rfl, hr, hk⟩
   clear HC
   have hq : w10.heap[W0.heap.size]? = some (.cells #[.int .i64 a0, .int .u64 a1, .string a2, .string a3, .int .i64 a4, v, .int .u64 a6, .int .u64 a7, .int .u64 a8, .slice none 0 0] 56 (0, 0)) := hk.known HNE.out HQ9.out
   have hb : Below Wr.heap.size Wr w10 := HB9.out.trans (hk.below (fun k hk => Nat.ne_of_lt hk) HB9.out.size)
   obtain ⟨nT, hnT⟩ : ∃ nT : Nat, a9 = (nT : Int) := ⟨a9.toNat, by omega⟩
   subst hnT
   have HQa : Hid (w10.heap[W0.heap.size]? = some (.cells #[.int .i64 a0, .int .u64 a1, .string a2, .string a3, .int .i64 a4, v, .int .u64 a6, .int .u64 a7, .int .u64 a8, .slice none 0 0] 56 (0, 0))) := hq
   have HRa : Hid (RdAt Wr.heap.size s9 w10) := hr
   have HBa : Hid (Below Wr.heap.size Wr w10) := hb
   have HGi : Hid (GrowE encIt w10 (W0.heap.size + 1) 123 2 v its) := HG.out.keep (HK9.out.trans (hk.mono (fun k hk => by have := HQL.out; show k ≠ Wr.heap.size; omega))) (fun k hk => hk)
   have HSa : Hid (W0.heap.size + 1 ≤ w10.heap.size) := by have := (Array.getElem?_eq_some_iff.1 hq).1; rw [Hid]; omega
   clear hr hk hq hb HQ9 HR9 HB9 HK9 ml9 HG HR HQ HB
   go_wp2_with fail
   go_loopw [57] (fun i wt => ∃ (j : Nat) (u : Value) (ts : List Int) (st : Rd), i = .int .u64 j ∧ j ≤ nT ∧ Hid (iter (stepL rNum) j ([], s9) = (ts, st)) ∧ Hid (RdAt Wr.heap.size st wt) ∧ Hid (wt.heap[W0.heap.size]? = some (.cells #[.int .i64 a0, .int .u64 a1, .string a2, .string a3, .int .i64 a4, v, .int .u64 a6, .int .u64 a7, .int .u64 a8, u] 56 (0, 0))) ∧ Hid (GrowE encU wt w10.heap.size 22 1 u ts) ∧ Hid (ts.length = j) ∧ Hid (Below Wr.heap.size Wr wt) ∧ Hid (Kept (fun k => k ≠ Wr.heap.size ∧ k ≠ W0.heap.size) w10 wt)) (fun i _ => nT - (intOf i).toNat)
   case atStart => exact ⟨0, .slice none 0 0, [], s9, rfl, Nat.zero_le _, rfl, HRa, HQa, GrowE.nil .., rfl, HBa, Kept.refl⟩
   case round =>
    obtain ⟨j, u, ts, st2, rfl, hj, HIu, HR, HQ, HG, HL, HB, HKp⟩ := hrel
    by_cases hlu : j < nT
    ·obtain ⟨a, t2, ha⟩ : ∃ a s, rNum st2 = (a, s) := ⟨_, _, rfl⟩
     have hau := rNum_u64 st2
     rw [ha] at hau
     obtain ⟨D, hD⟩ : ∃ D, wr.drew = D := ⟨_, rfl⟩
     have hkD : ∀ q : Nat → Prop, Kept q wr D := fun q => by rw [← hD]; exact Kept.refl.drew
     have HRD : Hid (RdAt Wr.heap.size st2 D) := HR.out.keep (hkD fun _ => True) trivial
     have hqD : D.heap[W0.heap.size]? = some (.cells #[.int .i64 a0, .int .u64 a1, .string a2, .string a3, .int .i64 a4, v, .int .u64 a6, .int .u64 a7, .int .u64 a8, u] 56 (0, 0)) := (hkD fun _ => True).known trivial HQ.out
     have HBD : Hid (Below Wr.heap.size Wr D) := by rw [Hid, ← hD]; exact HB.out.drew
     have HGD : Hid (GrowE encU D w10.heap.size 22 1 u ts) := HG.out.keep (hkD fun _ => True) (fun _ _ => trivial)
     have HKD : Hid (Kept (fun k => k ≠ Wr.heap.size ∧ k ≠ W0.heap.size) w10 D) := HKp.out.trans (hkD _)
     have c9 : D.cell? ⟨W0.heap.size, 9, none⟩ = some u := cCc hqD 9
     have HQD := Lib.hid hqD
     have hc := rdnum_x Wr.heap.size st2 fm ff D HRD.out (HE.out _ HBD.out)
     rw [ha] at hc
     have HC := Lib.hid hc
     have HA := Lib.hid ha
     have HAu := Lib.hid hau
     have HD := Lib.hid hD
     clear hc ha hau hkD hqD hD
     go_wp2_with fail
     refine wp_region_any (by kernel_rfl) ?_
     change wpAny _ _ _ _ _ _ _ (World.drew _)
     rw [HD.out]
     refine tk 0 (v := ?_) rfl ?_ ?_
     rotate_left
     ·intro w; go_simp; with_reducible rfl
     refine tk 2 (v := ?_) rfl ?_ ?_
     rotate_left
     ·intro w; go_simp; with_reducible rfl
     refine wpAny_ready (rs := [1, 3]) (by kernel_rfl) (by simp) ?_
     refine AllReady.cons rfl (fun K hK => ?_) ?_
     ·go_simp
      refine hK _ _ ?_
      clear hK K
      refine wpAny_ready (rs := [3]) (by kernel_rfl) (by simp) ?_
      refine AllReady.cons rfl (fun K hK => ?_) ?_
      ·go_simp
       refine HC.out.mono ?_
       rintro e x1 ⟨rfl, hr, hk1⟩
       have HRx : Hid (RdAt Wr.heap.size t2 x1) := hr
       have hqx : x1.heap[W0.heap.size]? = some (.cells #[.int .i64 a0, .int .u64 a1, .string a2, .string a3, .int .i64 a4, v, .int .u64 a6, .int .u64 a7, .int .u64 a8, u] 56 (0, 0)) := hk1.known HNE.out HQD.out
       have hbx : Below Wr.heap.size Wr x1 := HBD.out.trans (hk1.below (fun k hk => Nat.ne_of_lt hk) HBD.out.size)
       have hzx : w10.heap.size ≤ x1.heap.size := Nat.le_trans HKD.out.size hk1.size
       have hgx := HGD.out.keep hk1 (fun k hk => by have := HSa.out; have := HQL.out; show k ≠ Wr.heap.size; omega)
       have d9 : x1.cell? ⟨W0.heap.size, 9, none⟩ = some u := cCc hqx 9
       have e9 : (x1.alloc (.cells #[.int .u64 a] 22)).cell? ⟨W0.heap.size, 9, none⟩ = some u := by
        obtain ⟨Z, hZ, -, hBZ, -⟩ := boxes1 x1 #[.int .u64 a] 22
        rw [hZ]
        exact cCc (known hBZ (by have := (Array.getElem?_eq_some_iff.1 hqx).1; omega) hqx) 9
       obtain ⟨g, cap, x3, hap, hG3, hB3, hz3, hbl3⟩ := hgx.push (w0 := Wr) (B := Wr.heap.size) 54 und_u64 info_u64 rfl (by decide) a [.int .u64 a] rfl hbx (by have := HQL.out; have := HSa.out; omega) hzx (by simp [Value.oneCell']) (by rw [HL.out]; omega) (by decide)
       rw [HL.out] at hap hG3
       have hq3 : x3.heap[W0.heap.size]? = some (.cells #[.int .i64 a0, .int .u64 a1, .string a2, .string a3, .int .i64 a4, v, .int .u64 a6, .int .u64 a7, .int .u64 a8, u] 56 (0, 0)) := (hbl3 _ (by have := HSa.out; omega)).trans hqx
       have c6 : x3.cell? ⟨W0.heap.size, 9, none⟩ = some u := cCc hq3 9
       have f6 : x3.frozen? ⟨W0.heap.size, 9, none⟩ = false := cFz hq3 9
       obtain ⟨V, hV, hVX, hVA, hVB, -⟩ := box_set (i := 9) hq3 (.slice (some ⟨g, 0, none⟩) (j + 1) cap)
       have hkV : Kept (· ≠ W0.heap.size) x3 V := by rw [← hV]; exact Kept.refl.set (fun _ h => h rfl) _ _
       have hkx : Kept (fun k => k ≠ Wr.heap.size ∧ k ≠ W0.heap.size) w10 x3 := ⟨hB3.os.trans HBa.out.os.symm, hB3.tape.trans HBa.out.tape.symm, hB3.output.trans HBa.out.output.symm, by omega, fun k hk hq => (hbl3 k hk).trans ((hk1.block k (Nat.lt_of_lt_of_le hk HKD.out.size) hq.1).trans (HKD.out.block k hk hq))⟩
       have FI : Hid (iter (stepL rNum) (j + 1) ([], s9) = (ts ++ [a], t2) ∧ RdAt Wr.heap.size t2 V ∧ V.heap[W0.heap.size]? = some (.cells #[.int .i64 a0, .int .u64 a1, .string a2, .string a3, .int .i64 a4, v, .int .u64 a6, .int .u64 a7, .int .u64 a8, .slice (some ⟨g, 0, none⟩) (j + 1) cap] 56 (0, 0)) ∧ GrowE encU V w10.heap.size 22 1 (.slice (some ⟨g, 0, none⟩) (j + 1) cap) (ts ++ [a]) ∧ (ts ++ [a]).length = j + 1 ∧ Below Wr.heap.size Wr V ∧ Kept (fun k => k ≠ Wr.heap.size ∧ k ≠ W0.heap.size) w10 V) := by
        refine ⟨?_, ?_, hVX, hG3.keep hkV (fun k hk => by have := HSa.out; show k ≠ W0.heap.size; omega), by rw [List.length_append, HL.out]; rfl, hVB _ _ HQL.out hB3, hkx.trans (hkV.mono fun k hk => hk.2)⟩
        ·show stepL rNum (iter (stepL rNum) j ([], s9)) = _
         rw [HIu.out]
         unfold stepL
         dsimp only
         rw [HA.out]
        ·refine RdAt.keep (q := (· ≠ W0.heap.size)) ?_ hkV (Ne.symm HNE.out)
         have hSQ := HQL.out
         have hSs := HSa.out
         cases t2 with
         | none => obtain ⟨z, h⟩ := HRx.out; exact ⟨z, (hbl3 _ (by omega)).trans h⟩
         | some z => exact ⟨HRx.out.1, (hbl3 _ (by omega)).trans HRx.out.2⟩
       clear hr hk1 hqx hbx hzx hgx hG3 hB3 hz3 hbl3 hq3 hVX hVA hVB hkV hkx
       refine hK _ _ ?_
       clear hK K
       refine wpAny_ready (rs := [4]) (by kernel_rfl) (by simp) ?_
       refine AllReady.cons rfl (fun K hK => ?_) ?_
       ·go_simp
        refine hK _ _ ?_
        clear hK K
        refine wpAny_ready (rs := [5]) (by kernel_rfl) (by simp) ?_
        refine AllReady.cons rfl (fun K hK => ?_) ?_
        ·go_simp
         refine hK _ _ ?_
         clear hK K
         refine tk 6 (v := ?_) rfl ?_ ?_
         rotate_left
         ·intro w; go_simp; with_reducible rfl
         refine wpAny_ready (rs := [7]) (by kernel_rfl) (by simp) ?_
         refine AllReady.cons rfl (fun K hK => ?_) ?_
         ·go_simp
          refine hK _ _ ?_
          clear hK K
          refine wpAny_done (by kernel_rfl) ?_ _
          go_wp2_with fail
          go_roundw
          case rel =>
           obtain ⟨h1, h2, h3, h4, h5, h6, h7⟩ := FI.out
           exact ⟨j + 1, _, _, _, by go_num, by omega, h1, h2, h3, h4, h5, h6, h7⟩
          case measure => simp [intOf]; omega
         exact AllReady.nil
        exact AllReady.nil
       exact AllReady.nil
      exact AllReady.nil
     refine AllReady.cons rfl (fun K hK => ?_) ?_
     ·go_simp
      refine HC.out.mono ?_
      rintro e x1 ⟨rfl, hr, hk1⟩
      have HRx : Hid (RdAt Wr.heap.size t2 x1) := hr
      have hqx : x1.heap[W0.heap.size]? = some (.cells #[.int .i64 a0, .int .u64 a1, .string a2, .string a3, .int .i64 a4, v, .int .u64 a6, .int .u64 a7, .int .u64 a8, u] 56 (0, 0)) := hk1.known HNE.out HQD.out
      have hbx : Below Wr.heap.size Wr x1 := HBD.out.trans (hk1.below (fun k hk => Nat.ne_of_lt hk) HBD.out.size)
      have hzx : w10.heap.size ≤ x1.heap.size := Nat.le_trans HKD.out.size hk1.size
      have hgx := HGD.out.keep hk1 (fun k hk => by have := HSa.out; have := HQL.out; show k ≠ Wr.heap.size; omega)
      have d9 : x1.cell? ⟨W0.heap.size, 9, none⟩ = some u := cCc hqx 9
      have e9 : (x1.alloc (.cells #[.int .u64 a] 22)).cell? ⟨W0.heap.size, 9, none⟩ = some u := by
       obtain ⟨Z, hZ, -, hBZ, -⟩ := boxes1 x1 #[.int .u64 a] 22
       rw [hZ]
       exact cCc (known hBZ (by have := (Array.getElem?_eq_some_iff.1 hqx).1; omega) hqx) 9
      obtain ⟨g, cap, x3, hap, hG3, hB3, hz3, hbl3⟩ := hgx.push (w0 := Wr) (B := Wr.heap.size) 54 und_u64 info_u64 rfl (by decide) a [.int .u64 a] rfl hbx (by have := HQL.out; have := HSa.out; omega) hzx (by simp [Value.oneCell']) (by rw [HL.out]; omega) (by decide)
      rw [HL.out] at hap hG3
      have hq3 : x3.heap[W0.heap.size]? = some (.cells #[.int .i64 a0, .int .u64 a1, .string a2, .string a3, .int .i64 a4, v, .int .u64 a6, .int .u64 a7, .int .u64 a8, u] 56 (0, 0)) := (hbl3 _ (by have := HSa.out; omega)).trans hqx
      have c6 : x3.cell? ⟨W0.heap.size, 9, none⟩ = some u := cCc hq3 9
      have f6 : x3.frozen? ⟨W0.heap.size, 9, none⟩ = false := cFz hq3 9
      obtain ⟨V, hV, hVX, hVA, hVB, -⟩ := box_set (i := 9) hq3 (.slice (some ⟨g, 0, none⟩) (j + 1) cap)
      have hkV : Kept (· ≠ W0.heap.size) x3 V := by rw [← hV]; exact Kept.refl.set (fun _ h => h rfl) _ _
      have hkx : Kept (fun k => k ≠ Wr.heap.size ∧ k ≠ W0.heap.size) w10 x3 := ⟨hB3.os.trans HBa.out.os.symm, hB3.tape.trans HBa.out.tape.symm, hB3.output.trans HBa.out.output.symm, by omega, fun k hk hq => (hbl3 k hk).trans ((hk1.block k (Nat.lt_of_lt_of_le hk HKD.out.size) hq.1).trans (HKD.out.block k hk hq))⟩
      have FI : Hid (iter (stepL rNum) (j + 1) ([], s9) = (ts ++ [a], t2) ∧ RdAt Wr.heap.size t2 V ∧ V.heap[W0.heap.size]? = some (.cells #[.int .i64 a0, .int .u64 a1, .string a2, .string a3, .int .i64 a4, v, .int .u64 a6, .int .u64 a7, .int .u64 a8, .slice (some ⟨g, 0, none⟩) (j + 1) cap] 56 (0, 0)) ∧ GrowE encU V w10.heap.size 22 1 (.slice (some ⟨g, 0, none⟩) (j + 1) cap) (ts ++ [a]) ∧ (ts ++ [a]).length = j + 1 ∧ Below Wr.heap.size Wr V ∧ Kept (fun k => k ≠ Wr.heap.size ∧ k ≠ W0.heap.size) w10 V) := by
       refine ⟨?_, ?_, hVX, hG3.keep hkV (fun k hk => by have := HSa.out; show k ≠ W0.heap.size; omega), by rw [List.length_append, HL.out]; rfl, hVB _ _ HQL.out hB3, hkx.trans (hkV.mono fun k hk => hk.2)⟩
       ·show stepL rNum (iter (stepL rNum) j ([], s9)) = _
        rw [HIu.out]
        unfold stepL
        dsimp only
        rw [HA.out]
       ·refine RdAt.keep (q := (· ≠ W0.heap.size)) ?_ hkV (Ne.symm HNE.out)
        have hSQ := HQL.out
        have hSs := HSa.out
        cases t2 with
        | none => obtain ⟨z, h⟩ := HRx.out; exact ⟨z, (hbl3 _ (by omega)).trans h⟩
        | some z => exact ⟨HRx.out.1, (hbl3 _ (by omega)).trans HRx.out.2⟩
      clear hr hk1 hqx hbx hzx hgx hG3 hB3 hz3 hbl3 hq3 hVX hVA hVB hkV hkx
      refine hK _ _ ?_
      clear hK K
      refine wpAny_ready (rs := [1, 4]) (by kernel_rfl) (by simp) ?_
      refine AllReady.cons rfl (fun K hK => ?_) ?_
      ·go_simp
       refine hK _ _ ?_
       clear hK K
       refine wpAny_ready (rs := [4]) (by kernel_rfl) (by simp) ?_
       refine AllReady.cons rfl (fun K hK => ?_) ?_
       ·go_simp
        refine hK _ _ ?_
        clear hK K
        refine wpAny_ready (rs := [5]) (by kernel_rfl) (by simp) ?_
        refine AllReady.cons rfl (fun K hK => ?_) ?_
        ·go_simp
         refine hK _ _ ?_
         clear hK K
         refine tk 6 (v := ?_) rfl ?_ ?_
         rotate_left
         ·intro w; go_simp; with_reducible rfl
         refine wpAny_ready (rs := [7]) (by kernel_rfl) (by simp) ?_
         refine AllReady.cons rfl (fun K hK => ?_) ?_
         ·go_simp
          refine hK _ _ ?_
          clear hK K
          refine wpAny_done (by kernel_rfl) ?_ _
          go_wp2_with fail
          go_roundw
          case rel =>
           obtain ⟨h1, h2, h3, h4, h5, h6, h7⟩ := FI.out
           exact ⟨j + 1, _, _, _, by go_num, by omega, h1, h2, h3, h4, h5, h6, h7⟩
          case measure => simp [intOf]; omega
         exact AllReady.nil
        exact AllReady.nil
       exact AllReady.nil
      refine AllReady.cons rfl (fun K hK => ?_) ?_
      ·go_simp
       refine hK _ _ ?_
       clear hK K
       refine wpAny_ready (rs := [1]) (by kernel_rfl) (by simp) ?_
       refine AllReady.cons rfl (fun K hK => ?_) ?_
       ·go_simp
        refine hK _ _ ?_
        clear hK K
        refine wpAny_ready (rs := [5]) (by kernel_rfl) (by simp) ?_
        refine AllReady.cons rfl (fun K hK => ?_) ?_
        ·go_simp
         refine hK _ _ ?_
         clear hK K
         refine tk 6 (v := ?_) rfl ?_ ?_
         rotate_left
         ·intro w; go_simp; with_reducible rfl
         refine wpAny_ready (rs := [7]) (by kernel_rfl) (by simp) ?_
         refine AllReady.cons rfl (fun K hK => ?_) ?_
         ·go_simp
          refine hK _ _ ?_
          clear hK K
          refine wpAny_done (by kernel_rfl) ?_ _
          go_wp2_with fail
          go_roundw
          case rel =>
           obtain ⟨h1, h2, h3, h4, h5, h6, h7⟩ := FI.out
           exact ⟨j + 1, _, _, _, by go_num, by omega, h1, h2, h3, h4, h5, h6, h7⟩
          case measure => simp [intOf]; omega
         exact AllReady.nil
        exact AllReady.nil
       exact AllReady.nil
      exact AllReady.nil
     exact AllReady.nil
    ·obtain rfl : j = nT := by omega
     obtain ⟨ok, hok⟩ : ∃ ok, decide (st2 = some []) = ok := ⟨_, rfl⟩
     have hc := rdended_x Wr.heap.size st2 wr HR.out
     rw [hok] at hc
     have HC := Lib.hid hc
     have HOK := Lib.hid hok
     clear hc hok
     go_wp2_with fail
     refine HC.out.mono ?_
     rintro e w11 ⟨rfl, hk, hr⟩
     have HQe : Hid (w11.heap[W0.heap.size]? = some (.cells #[.int .i64 a0, .int .u64 a1, .string a2, .string a3, .int .i64 a4, v, .int .u64 a6, .int .u64 a7, .int .u64 a8, u] 56 (0, 0))) := hk.known HNE.out HQ.out
     have HBe : Hid (Below Wr.heap.size Wr w11) := HB.out.trans (hk.below (fun k hk => Nat.ne_of_lt hk) HB.out.size)
     have HGt : Hid (GrowE encU w11 w10.heap.size 22 1 u ts) := HG.out.keep hk (fun k hk => by have := HSa.out; have := HQL.out; show k ≠ Wr.heap.size; omega)
     have HKe : Hid (Kept (fun k => k ≠ Wr.heap.size ∧ k ≠ W0.heap.size) w10 w11) := HKp.out.trans (hk.mono fun k hk => hk.1)
     clear hr hk HC HQ HB HG HKp
     obtain ⟨hRX, hRB⟩ := HRes.out w11 HBe.out
     obtain ⟨rf0, rf1, rf2, rf3, rf4, rf5, rf6, rf7, rf8, rf9⟩ := cz10 hRX
     obtain ⟨rc0, rc1, rc2, rc3, rc4, rc5, rc6, rc7, rc8, rc9⟩ := cl10 hRX
     cases ok with
     | true =>
      have hQX := HQe.out
      obtain ⟨qc0, qc1, qc2, qc3, qc4, qc5, qc6, qc7, qc8, qc9⟩ := cl10 hQX
      obtain ⟨V, hV, hVX, hVB, hVK⟩ := stor10 (.int .i64 a0) (.int .u64 a1) (.string a2) (.string a3) (.int .i64 a4) (v) (.int .u64 a6) (.int .u64 a7) (.int .u64 a8) (u) hRX hRB (Nat.le_refl _)
      obtain ⟨vc0, vc1, vc2, vc3, vc4, vc5, vc6, vc7, vc8, vc9⟩ := cl10 hVX
      have HF := Lib.hid hVB
      have hGi : GrowE encIt V (W0.heap.size + 1) 123 2 v its := ((HGi.out.keep HKe.out (fun k hk => by have := HQL.out; constructor <;> omega)).keep hVK (fun k hk => by have := HQL.out; have := HWr.out; show k ≠ w.heap.size; omega))
      have hGt : GrowE encU V w10.heap.size 22 1 u ts := HGt.out.keep hVK (fun k hk => by have := HQL.out; have := HWr.out; have := HSa.out; show k ≠ w.heap.size; omega)
      obtain ⟨ia, ic, rfl, hsi⟩ := hGi.sl (fun x => rfl)
      obtain ⟨ta, tc, rfl, hst⟩ := hGt.sl (fun x => rfl)
      have hg : getRq l = some ⟨a0, a1, a2, a3, a4, its, a6, a7, a8, ts⟩ := getRq_some (decide_eq_true_iff.1 HOK.out) HA0.out HA1.out HA2.out HA3.out HA4.out HA5.out (by simpa using HIt.out) HA6.out HA7.out HA8.out HA9.out (by simpa using HIu.out)
      clear hRX hRB hQX hVX hVB hVK hGi hGt
      go_wp2_with fail
      refine bodyPost_ret (v := .tuple #[.agg (rqV ⟨a0, a1, a2, a3, a4, its, a6, a7, a8, ts⟩ ia ic ta tc), .int .i64 0]) (by simp [results, rqV, Tryz.f23, go_sem, vc0, vc1, vc2, vc3, vc4, vc5, vc6, vc7, vc8, vc9]) rfl ?_
      rw [hg]
      exact ⟨⟨_, _, _, _, rfl, hsi, hst⟩, HF.out⟩
     | false =>
      obtain ⟨V, hV, hVX, hVB, hVK⟩ := stor10 (.int .i64 0) (.int .u64 0) (.string ⟨#[]⟩) (.string ⟨#[]⟩) (.int .i64 0) (.slice none 0 0) (.int .u64 0) (.int .u64 0) (.int .u64 0) (.slice none 0 0) hRX hRB (Nat.le_refl _)
      obtain ⟨vc0, vc1, vc2, vc3, vc4, vc5, vc6, vc7, vc8, vc9⟩ := cl10 hVX
      have HF := Lib.hid hVB
      have hg : getRq l = none := getRq_none (decide_eq_false_iff_not.1 HOK.out) HA0.out HA1.out HA2.out HA3.out HA4.out HA5.out (by simpa using HIt.out) HA6.out HA7.out HA8.out HA9.out (by simpa using HIu.out)
      clear hRX hRB hVX hVB hVK
      go_wp2_with fail
      refine bodyPost_ret (v := .tuple #[.agg rqZ, .int .i64 200]) (by simp [results, rqZ, Tryz.f23, go_sem, vc0, vc1, vc2, vc3, vc4, vc5, vc6, vc7, vc8, vc9]) rfl ?_
      rw [hg]
      exact ⟨rfl, HF.out⟩
end Go.Proofs.YtpklkhgnjbopnaaGreatDoor
