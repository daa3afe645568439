/- Package wire: GetReply. Printed by gen_wd.py. References: aviaryref12.Ints, aviaryref16.Entries, aviaryref19.Same, of what is the same. Package frame: number, Check. -/
import Derived.Test.YtpklkhgnjbopnaaGreatDoorVWc
namespace Go.Proofs.YtpklkhgnjbopnaaGreatDoor
open Go Go.RowKit Go.Shelf
def ryZ : Array Value := #[.int .i64 0, .int .u64 0, .slice none 0 0, .slice none 0 0]
def RyPost (o : Option Ry) (w : World) (e : Ending) (w' : World) : Prop := (match o with
   | some q => ∃ na nc ea ec, e = .returned (.tuple #[.agg (ryV q na nc ea ec), .int .i64 0]) ∧ SlE encI 1 w'.heap.size w' na q.nots.length q.nots ∧ SlE Ent.enc 4 w'.heap.size w' ea q.ents.length q.ents
   | none => e = .returned (.tuple #[.agg ryZ, .int .i64 200])) ∧ Below w.heap.size w w'
theorem stor4 {w W : World} {b : Nat} {x0 x1 x2 x3 : Value} (v0 v1 v2 v3 : Value) {t : TypeId} (h : W.heap[b]? = some (.cells #[x0, x1, x2, x3] t (0, 0))) {n : Nat} (hB : Below n w W) (hn : n ≤ b) :
  ∃ V, (((W.setCell ⟨b, 0, none⟩ v0).setCell ⟨b, 1, none⟩ v1).setCell ⟨b, 2, none⟩ v2).setCell ⟨b, 3, none⟩ v3 = V ∧
   V.heap[b]? = some (.cells #[v0, v1, v2, v3] t (0, 0)) ∧ Below n w V ∧ Kept (· ≠ b) W V := by
 refine ⟨_, rfl, ?_⟩
 have hK : ∀ X, Kept (· ≠ b) W X → ∀ i v, Kept (· ≠ b) W (X.setCell ⟨b, i, none⟩ v) := fun X hX i v => hX.set (fun _ h => h rfl) _ _
 have hG : ∀ X, Below n w X → ∀ i v, Below n w (X.setCell ⟨b, i, none⟩ v) := fun X hX i v => hX.setCell (p := ⟨b, i, none⟩) hn _
 refine ⟨?_, hG _ (hG _ (hG _ (hG _ hB _ _) _ _) _ _) _ _, hK _ (hK _ (hK _ (hK _ Kept.refl _ _) _ _) _ _) _ _⟩
 clear hK hG hB
 replace h : (W.setCell ⟨b, 0, none⟩ v0).heap[b]? = some (.cells #[v0, x1, x2, x3] t (0, 0)) := hSk h v0
 generalize W.setCell ⟨b, 0, none⟩ v0 = W at h ⊢
 replace h : (W.setCell ⟨b, 1, none⟩ v1).heap[b]? = some (.cells #[v0, v1, x2, x3] t (0, 0)) := hSk h v1
 generalize W.setCell ⟨b, 1, none⟩ v1 = W at h ⊢
 replace h : (W.setCell ⟨b, 2, none⟩ v2).heap[b]? = some (.cells #[v0, v1, v2, x3] t (0, 0)) := hSk h v2
 generalize W.setCell ⟨b, 2, none⟩ v2 = W at h ⊢
 exact hSk h v3
section
variable {l : List UInt8} {a0 a1 a2 a3 : Int} {s0 s1 s2 s3 st sz : Rd} {ns : List Int} {es : List Ent}
theorem rdRy_of (h0 : rMost 4611686018427387904 (some l) = (a0, s0)) (h1 : rNum s0 = (a1, s1)) (h2 : rMost 100 s1 = (a2, s2)) (hi : iter (stepL (rMost 4611686018427387904)) a2.toNat ([], s2) = (ns, st)) (h3 : rMost 100 st = (a3, s3)) (ht : iter (stepL rEnt) a3.toNat ([], s3) = (es, sz)) :
  rdRy l = (⟨a0, a1, ns, es⟩, sz) := by
 unfold rdRy
 simp only [h0, h1, h2, hi, h3, ht]
theorem getRy_some (he : sz = some []) (h0 : rMost 4611686018427387904 (some l) = (a0, s0)) (h1 : rNum s0 = (a1, s1)) (h2 : rMost 100 s1 = (a2, s2)) (hi : iter (stepL (rMost 4611686018427387904)) a2.toNat ([], s2) = (ns, st)) (h3 : rMost 100 st = (a3, s3)) (ht : iter (stepL rEnt) a3.toNat ([], s3) = (es, sz)) :
  getRy l = some ⟨a0, a1, ns, es⟩ := by
 unfold getRy
 rw [rdRy_of h0 h1 h2 hi h3 ht, if_pos he]
theorem getRy_none (he : sz ≠ some []) (h0 : rMost 4611686018427387904 (some l) = (a0, s0)) (h1 : rNum s0 = (a1, s1)) (h2 : rMost 100 s1 = (a2, s2)) (hi : iter (stepL (rMost 4611686018427387904)) a2.toNat ([], s2) = (ns, st)) (h3 : rMost 100 st = (a3, s3)) (ht : iter (stepL rEnt) a3.toNat ([], s3) = (es, sz)) :
  getRy l = none := by
 unfold getRy
 rw [rdRy_of h0 h1 h2 hi h3 ht, if_neg he]
end
theorem wrap_i64_nonneg {a : Int} (h0 : 0 ≤ a) (h1 : a < 9223372036854775808) : IntKind.i64.wrap a = a := by
 have : ¬ (a < -9223372036854775808 ∨ 9223372036854775807 < a) := by omega
 simp only [IntKind.wrap, IntKind.signed, IntKind.bits]
 simp
 omega
theorem GrowE.keep' {α : Type} {enc : α → List Value} {A B : World} {base size : Nat} {t : TypeId} {v : Value} {l : List α} {q : Nat → Prop} (h : GrowE enc A base t size v l) (hk : Kept q A B) (hq : ∀ k, base ≤ k → k < A.heap.size → q k) : GrowE enc B base t size v l :=
 ⟨h.1, by
  rcases h.2 with h2 | ⟨g, cap, cur, rfl, h3, h4, h5⟩
  ·exact .inl h2
  ·exact .inr ⟨g, cap, cur, rfl, h3, hk.known (hq _ h3 (Array.getElem?_eq_some_iff.1 h4).1) h4, h5⟩⟩
theorem und_ints' : Tryz.prog.underlying 57 = some (.slice 3) := by kernel_rfl
theorem info_int' : (Tryz.prog.info? 3).map (fun i => (i.zero, i.size, i.bytes)) = some (some (.int .i64 0), 1, 8) := by kernel_rfl
theorem und_ents' : Tryz.prog.underlying 58 = some (.slice 116) := by kernel_rfl
theorem info_ent' : (Tryz.prog.info? 116).map (fun i => (i.zero, i.size, i.bytes)) = some (some (.agg #[.int .u64 0, .int .u64 0, .string ⟨#[]⟩, .int .u64 0]), 4, 40) := by kernel_rfl
attribute [-go_sem] Builtin.append_
set_option maxRecDepth 100000 in
set_option maxHeartbeats 4000000 in
theorem GetReply_any (s : ByteArray) (fm ff : Addr) (w : World) (hs : s.size < 4294967281) (hE : ∀ W, Below w.heap.size w W → GF fm ff W) :
  Calls Tryz.prog 25 #[.string s] w (RyPost (getRy s.data.toList) w) := by
 obtain ⟨Wr, hWr, hXr, hBr, hsr⟩ := boxes1 w #[.int .i64 0, .int .u64 0, .slice none 0 0, .slice none 0 0] 60
 obtain ⟨W0, hW0, hX0, hB0, hs0⟩ := boxes1 Wr #[.string s, .bool false] 130
 obtain ⟨W1, hW1, hX1, hB1, hs1⟩ := boxes1 W0 #[.int .i64 0, .int .u64 0, .slice none 0 0, .slice none 0 0] 60
 have hX10 := known hB1 (Nat.le_refl _) hX0
 have hne : W0.heap.size ≠ Wr.heap.size := by omega
 have hql : Wr.heap.size ≤ W0.heap.size := by omega
 obtain ⟨l, hl⟩ : ∃ l, s.data.toList = l := ⟨_, rfl⟩
 have hll : l.length < 4294967281 := by rw [← hl, Array.length_toList]; exact hs
 have hsl : s = ⟨l.toArray⟩ := by rw [← hl]
 rw [hl]
 have HR0 : Hid (RdAt Wr.heap.size (some l) W1) := ⟨hll, by rw [← hsl]; exact hX10⟩
 have HQ0 : Hid (W1.heap[W0.heap.size]? = some (.cells #[.int .i64 0, .int .u64 0, .slice none 0 0, .slice none 0 0] 60 (0, 0))) := hX1
 have HB0 : Hid (Below Wr.heap.size Wr W1) := hB0.trans (hB1.mono hB0.size)
 have HE : Hid (∀ W, Below Wr.heap.size Wr W → GF fm ff W) := fun W hb => hE W (hBr.trans (hb.mono hBr.size))
 have HRes : Hid (∀ W, Below Wr.heap.size Wr W → W.heap[w.heap.size]? = some (.cells #[.int .i64 0, .int .u64 0, .slice none 0 0, .slice none 0 0] 60 (0, 0)) ∧ Below w.heap.size w W) := fun W hb => ⟨known hb (Nat.le_refl _) hXr, hBr.trans (hb.mono hBr.size)⟩
 have HNE := Lib.hid hne
 have HWr : Hid (w.heap.size < Wr.heap.size) := by rw [Hid]; omega
 have HQL := Lib.hid hql
 clear hX0 hX1 hX10 hXr hB0 hB1 hBr hs0 hs1 hsr hE hll hsl hl hs hne hql
 go_enter Tryz.func25, Tryz.ntmps25
 obtain ⟨a0, s0, ha⟩ : ∃ a s, rMost 4611686018427387904 (some l) = (a, s) := ⟨_, _, rfl⟩
 have hc := rdmost_x 4611686018427387904 Wr.heap.size (some l) fm ff W1 ⟨by decide, by decide⟩ HR0.out (HE.out _ HB0.out)
 have hm := rMost_le (m := 4611686018427387904) (by decide) (some l)
 rw [ha] at hc hm
 obtain ⟨ml0, mu0⟩ : 0 ≤ a0 ∧ a0 ≤ 4611686018427387904 := hm
 have HA0 := Lib.hid ha
 have HC := Lib.hid hc
 clear hc ha
 go_wp2_with fail
 refine HC.out.mono ?_
 rintro e w1 ⟨rfl, hr, hk⟩
 clear HC
 have hq : w1.heap[W0.heap.size]? = some (.cells #[.int .i64 0, .int .u64 0, .slice none 0 0, .slice none 0 0] 60 (0, 0)) := hk.known HNE.out HQ0.out
 have hb : Below Wr.heap.size Wr w1 := HB0.out.trans (hk.below (fun k hk => Nat.ne_of_lt hk) HB0.out.size)
 have c0 : w1.cell? ⟨W0.heap.size, 0, none⟩ = some (.int .i64 0) := cCc hq 0
 have f0 : w1.frozen? ⟨W0.heap.size, 0, none⟩ = false := cFz hq 0
 obtain ⟨V1, hV1, hVX, hVA, hVB, -⟩ := box_set (i := 0) hq (.int .i64 a0)
 have HQ1 : Hid (V1.heap[W0.heap.size]? = some (.cells #[.int .i64 a0, .int .u64 0, .slice none 0 0, .slice none 0 0] 60 (0, 0))) := hVX
 have HR1 : Hid (RdAt Wr.heap.size s0 V1) := by rw [Hid, ← hV1]; exact hr.keep (Kept.refl.set (q := (· ≠ W0.heap.size)) (fun _ h => h rfl) _ _) (Ne.symm HNE.out)
 have HB1 : Hid (Below Wr.heap.size Wr V1) := hVB _ _ HQL.out hb
 clear hr hk hq hVX hVA hVB hb HQ0 HR0 HB0
 obtain ⟨a1, s1, ha⟩ : ∃ a s, rNum s0 = (a, s) := ⟨_, _, rfl⟩
 have hc := rdnum_x Wr.heap.size s0 fm ff V1 HR1.out (HE.out _ HB1.out)
 rw [ha] at hc
 have HA1 := Lib.hid ha
 have HC := Lib.hid hc
 clear hc ha
 go_wp2_with fail
 refine HC.out.mono ?_
 rintro e w2 ⟨rfl, hr, hk⟩
 clear HC
 have hq : w2.heap[W0.heap.size]? = some (.cells #[.int .i64 a0, .int .u64 0, .slice none 0 0, .slice none 0 0] 60 (0, 0)) := hk.known HNE.out HQ1.out
 have hb : Below Wr.heap.size Wr w2 := HB1.out.trans (hk.below (fun k hk => Nat.ne_of_lt hk) HB1.out.size)
 have c1 : w2.cell? ⟨W0.heap.size, 1, none⟩ = some (.int .u64 0) := cCc hq 1
 have f1 : w2.frozen? ⟨W0.heap.size, 1, none⟩ = false := cFz hq 1
 obtain ⟨V2, hV2, hVX, hVA, hVB, -⟩ := box_set (i := 1) hq (.int .u64 a1)
 have HQ2 : Hid (V2.heap[W0.heap.size]? = some (.cells #[.int .i64 a0, .int .u64 a1, .slice none 0 0, .slice none 0 0] 60 (0, 0))) := hVX
 have HR2 : Hid (RdAt Wr.heap.size s1 V2) := by rw [Hid, ← hV2]; exact hr.keep (Kept.refl.set (q := (· ≠ W0.heap.size)) (fun _ h => h rfl) _ _) (Ne.symm HNE.out)
 have HB2 : Hid (Below Wr.heap.size Wr V2) := hVB _ _ HQL.out hb
 clear hr hk hq hVX hVA hVB hb HQ1 HR1 HB1
 obtain ⟨a2, s2, ha⟩ : ∃ a s, rMost 100 s1 = (a, s) := ⟨_, _, rfl⟩
 have hc := rdmost_x 100 Wr.heap.size s1 fm ff V2 ⟨by decide, by decide⟩ HR2.out (HE.out _ HB2.out)
 have hm := rMost_le (m := 100) (by decide) s1
 rw [ha] at hc hm
 obtain ⟨ml2, mu2⟩ : 0 ≤ a2 ∧ a2 ≤ 100 := hm
 have HA2 := Lib.hid ha
 have HC := Lib.hid hc
 clear hc ha
 go_wp2_with fail
 refine HC.out.mono ?_
 rintro e w3 ⟨rfl, hr, hk⟩
 clear HC
 have hq : w3.heap[W0.heap.size]? = some (.cells #[.int .i64 a0, .int .u64 a1, .slice none 0 0, .slice none 0 0] 60 (0, 0)) := hk.known HNE.out HQ2.out
 have hb : Below Wr.heap.size Wr w3 := HB2.out.trans (hk.below (fun k hk => Nat.ne_of_lt hk) HB2.out.size)
 obtain ⟨nI, hnI⟩ : ∃ nI : Nat, a2 = (nI : Int) := ⟨a2.toNat, by omega⟩
 subst hnI
 have HQa : Hid (w3.heap[W0.heap.size]? = some (.cells #[.int .i64 a0, .int .u64 a1, .slice none 0 0, .slice none 0 0] 60 (0, 0))) := hq
 have HRa : Hid (RdAt Wr.heap.size s2 w3) := hr
 have HBa : Hid (Below Wr.heap.size Wr w3) := hb
 have HSa : Hid (W0.heap.size + 1 ≤ w3.heap.size) := by have := (Array.getElem?_eq_some_iff.1 hq).1; rw [Hid]; omega
 clear hr hk hq hb HQ2 HR2 HB2 ml2
 go_wp2_with fail
 go_loopw [20] (fun i wt => ∃ (j : Nat) (u : Value) (ts : List Int) (st : Rd), i = .int .u64 j ∧ j ≤ nI ∧ Hid (iter (stepL (rMost 4611686018427387904)) j ([], s2) = (ts, st)) ∧ Hid (RdAt Wr.heap.size st wt) ∧ Hid (wt.heap[W0.heap.size]? = some (.cells #[.int .i64 a0, .int .u64 a1, u, .slice none 0 0] 60 (0, 0))) ∧ Hid (GrowE encI wt (W0.heap.size + 1) 3 1 u ts) ∧ Hid (ts.length = j) ∧ Hid (Below Wr.heap.size Wr wt)) (fun i _ => nI - (intOf i).toNat)
 case atStart => exact ⟨0, .slice none 0 0, [], s2, rfl, Nat.zero_le _, rfl, HRa, HQa, GrowE.nil .., rfl, HBa⟩
 case round =>
  obtain ⟨j, u, ts, st2, rfl, hj, HIu, HR, HQ, HG, HL, HB⟩ := hrel
  by_cases hlu : j < nI
  ·obtain ⟨a, t2, ha⟩ : ∃ a s, rMost 4611686018427387904 st2 = (a, s) := ⟨_, _, rfl⟩
   have hau := rMost_le (m := 4611686018427387904) (by decide) st2
   rw [ha] at hau
   obtain ⟨ml, mu⟩ : 0 ≤ a ∧ a ≤ 4611686018427387904 := hau
   obtain ⟨D, hD⟩ : ∃ D, wr.drew = D := ⟨_, rfl⟩
   have hkD : ∀ q : Nat → Prop, Kept q wr D := fun q => by rw [← hD]; exact Kept.refl.drew
   have HRD : Hid (RdAt Wr.heap.size st2 D) := HR.out.keep (hkD fun _ => True) trivial
   have hqD : D.heap[W0.heap.size]? = some (.cells #[.int .i64 a0, .int .u64 a1, u, .slice none 0 0] 60 (0, 0)) := (hkD fun _ => True).known trivial HQ.out
   have HBD : Hid (Below Wr.heap.size Wr D) := by rw [Hid, ← hD]; exact HB.out.drew
   have HGD : Hid (GrowE encI D (W0.heap.size + 1) 3 1 u ts) := HG.out.keep (hkD fun _ => True) (fun _ _ => trivial)
   have HZD : Hid (w3.heap.size ≤ D.heap.size ∨ True) := .inr trivial
   have c9 : D.cell? ⟨W0.heap.size, 2, none⟩ = some u := cCc hqD 2
   have HQD := Lib.hid hqD
   have hc := rdmost_x 4611686018427387904 Wr.heap.size st2 fm ff D ⟨by decide, by decide⟩ HRD.out (HE.out _ HBD.out)
   rw [ha] at hc
   have HC := Lib.hid hc
   have HA := Lib.hid ha
   have HD := Lib.hid hD
   clear hc ha hkD hqD hD
   go_wp2_with fail
   refine wp_region_any (by kernel_rfl) ?_
   change wpAny _ _ _ _ _ _ _ (World.drew _)
   rw [HD.out]
   refine tk 0 (v := ?_) rfl ?_ ?_
   rotate_left
   ·intro w; go_simp; with_reducible rfl
   refine tk 2 (v := ?_) rfl ?_ ?_
   rotate_left
   ·intro w; go_simp; with_reducible rfl
   refine wpAny_ready (rs := [1, 3]) (by kernel_rfl) (by simp) ?_
   refine AllReady.cons rfl (fun K hK => ?_) ?_
   ·go_simp
    refine hK _ _ ?_
    clear hK K
    refine wpAny_ready (rs := [3]) (by kernel_rfl) (by simp) ?_
    refine AllReady.cons rfl (fun K hK => ?_) ?_
    ·go_simp
     refine HC.out.mono ?_
     rintro e x1 ⟨rfl, hr, hk1⟩
     have hw64 : IntKind.i64.wrap a = a := wrap_i64_nonneg ml (by omega)
     have HRx : Hid (RdAt Wr.heap.size t2 x1) := hr
     have hqx : x1.heap[W0.heap.size]? = some (.cells #[.int .i64 a0, .int .u64 a1, u, .slice none 0 0] 60 (0, 0)) := hk1.known HNE.out HQD.out
     have hbx : Below Wr.heap.size Wr x1 := HBD.out.trans (hk1.below (fun k hk => Nat.ne_of_lt hk) HBD.out.size)
     have hzx : W0.heap.size + 1 ≤ x1.heap.size := (Array.getElem?_eq_some_iff.1 hqx).1
     have hgx := HGD.out.keep hk1 (fun k hk => by have := HQL.out; show k ≠ Wr.heap.size; omega)
     have d9 : x1.cell? ⟨W0.heap.size, 2, none⟩ = some u := cCc hqx 2
     have e9 : (x1.alloc (.cells #[.int .i64 a] 3)).cell? ⟨W0.heap.size, 2, none⟩ = some u := by
      obtain ⟨Z, hZ, -, hBZ, -⟩ := boxes1 x1 #[.int .i64 a] 3
      rw [hZ]
      exact cCc (known hBZ (by have := (Array.getElem?_eq_some_iff.1 hqx).1; omega) hqx) 2
     obtain ⟨g, cap, x3, hap, hG3, hB3, hz3, hbl3⟩ := hgx.push (w0 := Wr) (B := Wr.heap.size) 57 und_ints' info_int' rfl (by decide) a [.int .i64 a] rfl hbx (by have := HQL.out; omega) hzx (by simp [Value.oneCell']) (by rw [HL.out]; omega) (by decide)
     rw [HL.out] at hap hG3
     have hq3 : x3.heap[W0.heap.size]? = some (.cells #[.int .i64 a0, .int .u64 a1, u, .slice none 0 0] 60 (0, 0)) := (hbl3 _ (by omega)).trans hqx
     have c6 : x3.cell? ⟨W0.heap.size, 2, none⟩ = some u := cCc hq3 2
     have f6 : x3.frozen? ⟨W0.heap.size, 2, none⟩ = false := cFz hq3 2
     obtain ⟨V, hV, hVX, hVA, hVB, -⟩ := box_set (i := 2) hq3 (.slice (some ⟨g, 0, none⟩) (j + 1) cap)
     have hkV : Kept (· ≠ W0.heap.size) x3 V := by rw [← hV]; exact Kept.refl.set (fun _ h => h rfl) _ _
     have FI : Hid (iter (stepL (rMost 4611686018427387904)) (j + 1) ([], s2) = (ts ++ [a], t2) ∧ RdAt Wr.heap.size t2 V ∧ V.heap[W0.heap.size]? = some (.cells #[.int .i64 a0, .int .u64 a1, .slice (some ⟨g, 0, none⟩) (j + 1) cap, .slice none 0 0] 60 (0, 0)) ∧ GrowE encI V (W0.heap.size + 1) 3 1 (.slice (some ⟨g, 0, none⟩) (j + 1) cap) (ts ++ [a]) ∧ (ts ++ [a]).length = j + 1 ∧ Below Wr.heap.size Wr V) := by
      refine ⟨?_, ?_, hVX, hG3.keep hkV (fun k hk => by show k ≠ W0.heap.size; omega), by rw [List.length_append, HL.out]; rfl, hVB _ _ HQL.out hB3⟩
      ·show stepL (rMost 4611686018427387904) (iter (stepL (rMost 4611686018427387904)) j ([], s2)) = _
       rw [HIu.out]
       unfold stepL
       dsimp only
       rw [HA.out]
      ·refine RdAt.keep (q := (· ≠ W0.heap.size)) ?_ hkV (Ne.symm HNE.out)
       have hSQ := HQL.out
       cases t2 with
       | none => obtain ⟨z, h⟩ := HRx.out; exact ⟨z, (hbl3 _ (by omega)).trans h⟩
       | some z => exact ⟨HRx.out.1, (hbl3 _ (by omega)).trans HRx.out.2⟩
     clear hr hk1 hqx hbx hzx hgx hG3 hB3 hz3 hbl3 hq3 hVX hVA hVB hkV
     refine hK _ _ ?_
     clear hK K
     refine wpAny_ready (rs := [4]) (by kernel_rfl) (by simp) ?_
     refine AllReady.cons rfl (fun K hK => ?_) ?_
     ·go_simp
      refine hK _ _ ?_
      clear hK K
      refine wpAny_ready (rs := [5]) (by kernel_rfl) (by simp) ?_
      refine AllReady.cons rfl (fun K hK => ?_) ?_
      ·go_simp
       refine hK _ _ ?_
       clear hK K
       refine wpAny_ready (rs := [6]) (by kernel_rfl) (by simp) ?_
       refine AllReady.cons rfl (fun K hK => ?_) ?_
       ·go_simp
        refine hK _ _ ?_
        clear hK K
        refine tk 7 (v := ?_) rfl ?_ ?_
        rotate_left
        ·intro w; go_simp; with_reducible rfl
        refine wpAny_ready (rs := [8]) (by kernel_rfl) (by simp) ?_
        refine AllReady.cons rfl (fun K hK => ?_) ?_
        ·go_simp
         refine hK _ _ ?_
         clear hK K
         refine wpAny_done (by kernel_rfl) ?_ _
         go_wp2_with fail
         go_roundw
         case rel =>
          obtain ⟨h1, h2, h3, h4, h5, h6⟩ := FI.out
          exact ⟨j + 1, _, _, _, by go_num, by omega, h1, h2, h3, h4, h5, h6⟩
         case measure => simp [intOf]; omega
        exact AllReady.nil
       exact AllReady.nil
      exact AllReady.nil
     exact AllReady.nil
    exact AllReady.nil
   refine AllReady.cons rfl (fun K hK => ?_) ?_
   ·go_simp
    refine HC.out.mono ?_
    rintro e x1 ⟨rfl, hr, hk1⟩
    have hw64 : IntKind.i64.wrap a = a := wrap_i64_nonneg ml (by omega)
    have HRx : Hid (RdAt Wr.heap.size t2 x1) := hr
    have hqx : x1.heap[W0.heap.size]? = some (.cells #[.int .i64 a0, .int .u64 a1, u, .slice none 0 0] 60 (0, 0)) := hk1.known HNE.out HQD.out
    have hbx : Below Wr.heap.size Wr x1 := HBD.out.trans (hk1.below (fun k hk => Nat.ne_of_lt hk) HBD.out.size)
    have hzx : W0.heap.size + 1 ≤ x1.heap.size := (Array.getElem?_eq_some_iff.1 hqx).1
    have hgx := HGD.out.keep hk1 (fun k hk => by have := HQL.out; show k ≠ Wr.heap.size; omega)
    have d9 : x1.cell? ⟨W0.heap.size, 2, none⟩ = some u := cCc hqx 2
    have e9 : (x1.alloc (.cells #[.int .i64 a] 3)).cell? ⟨W0.heap.size, 2, none⟩ = some u := by
     obtain ⟨Z, hZ, -, hBZ, -⟩ := boxes1 x1 #[.int .i64 a] 3
     rw [hZ]
     exact cCc (known hBZ (by have := (Array.getElem?_eq_some_iff.1 hqx).1; omega) hqx) 2
    obtain ⟨g, cap, x3, hap, hG3, hB3, hz3, hbl3⟩ := hgx.push (w0 := Wr) (B := Wr.heap.size) 57 und_ints' info_int' rfl (by decide) a [.int .i64 a] rfl hbx (by have := HQL.out; omega) hzx (by simp [Value.oneCell']) (by rw [HL.out]; omega) (by decide)
    rw [HL.out] at hap hG3
    have hq3 : x3.heap[W0.heap.size]? = some (.cells #[.int .i64 a0, .int .u64 a1, u, .slice none 0 0] 60 (0, 0)) := (hbl3 _ (by omega)).trans hqx
    have c6 : x3.cell? ⟨W0.heap.size, 2, none⟩ = some u := cCc hq3 2
    have f6 : x3.frozen? ⟨W0.heap.size, 2, none⟩ = false := cFz hq3 2
    obtain ⟨V, hV, hVX, hVA, hVB, -⟩ := box_set (i := 2) hq3 (.slice (some ⟨g, 0, none⟩) (j + 1) cap)
    have hkV : Kept (· ≠ W0.heap.size) x3 V := by rw [← hV]; exact Kept.refl.set (fun _ h => h rfl) _ _
    have FI : Hid (iter (stepL (rMost 4611686018427387904)) (j + 1) ([], s2) = (ts ++ [a], t2) ∧ RdAt Wr.heap.size t2 V ∧ V.heap[W0.heap.size]? = some (.cells #[.int .i64 a0, .int .u64 a1, .slice (some ⟨g, 0, none⟩) (j + 1) cap, .slice none 0 0] 60 (0, 0)) ∧ GrowE encI V (W0.heap.size + 1) 3 1 (.slice (some ⟨g, 0, none⟩) (j + 1) cap) (ts ++ [a]) ∧ (ts ++ [a]).length = j + 1 ∧ Below Wr.heap.size Wr V) := by
     refine ⟨?_, ?_, hVX, hG3.keep hkV (fun k hk => by show k ≠ W0.heap.size; omega), by rw [List.length_append, HL.out]; rfl, hVB _ _ HQL.out hB3⟩
     ·show stepL (rMost 4611686018427387904) (iter (stepL (rMost 4611686018427387904)) j ([], s2)) = _
      rw [HIu.out]
      unfold stepL
      dsimp only
      rw [HA.out]
     ·refine RdAt.keep (q := (· ≠ W0.heap.size)) ?_ hkV (Ne.symm HNE.out)
      have hSQ := HQL.out
      cases t2 with
      | none => obtain ⟨z, h⟩ := HRx.out; exact ⟨z, (hbl3 _ (by omega)).trans h⟩
      | some z => exact ⟨HRx.out.1, (hbl3 _ (by omega)).trans HRx.out.2⟩
    clear hr hk1 hqx hbx hzx hgx hG3 hB3 hz3 hbl3 hq3 hVX hVA hVB hkV
    refine hK _ _ ?_
    clear hK K
    refine wpAny_ready (rs := [1, 4]) (by kernel_rfl) (by simp) ?_
    refine AllReady.cons rfl (fun K hK => ?_) ?_
    ·go_simp
     refine hK _ _ ?_
     clear hK K
     refine wpAny_ready (rs := [4]) (by kernel_rfl) (by simp) ?_
     refine AllReady.cons rfl (fun K hK => ?_) ?_
     ·go_simp
      refine hK _ _ ?_
      clear hK K
      refine wpAny_ready (rs := [5]) (by kernel_rfl) (by simp) ?_
      refine AllReady.cons rfl (fun K hK => ?_) ?_
      ·go_simp
       refine hK _ _ ?_
       clear hK K
       refine wpAny_ready (rs := [6]) (by kernel_rfl) (by simp) ?_
       refine AllReady.cons rfl (fun K hK => ?_) ?_
       ·go_simp
        refine hK _ _ ?_
        clear hK K
        refine tk 7 (v := ?_) rfl ?_ ?_
        rotate_left
        ·intro w; go_simp; with_reducible rfl
        refine wpAny_ready (rs := [8]) (by kernel_rfl) (by simp) ?_
        refine AllReady.cons rfl (fun K hK => ?_) ?_
        ·go_simp
         refine hK _ _ ?_
         clear hK K
         refine wpAny_done (by kernel_rfl) ?_ _
         go_wp2_with fail
         go_roundw
         case rel =>
          obtain ⟨h1, h2, h3, h4, h5, h6⟩ := FI.out
          exact ⟨j + 1, _, _, _, by go_num, by omega, h1, h2, h3, h4, h5, h6⟩
         case measure => simp [intOf]; omega
        exact AllReady.nil
       exact AllReady.nil
      exact AllReady.nil
     exact AllReady.nil
    refine AllReady.cons rfl (fun K hK => ?_) ?_
    ·go_simp
     refine hK _ _ ?_
     clear hK K
     refine wpAny_ready (rs := [1, 5]) (by kernel_rfl) (by simp) ?_
     refine AllReady.cons rfl (fun K hK => ?_) ?_
     ·go_simp
      refine hK _ _ ?_
      clear hK K
      refine wpAny_ready (rs := [5]) (by kernel_rfl) (by simp) ?_
      refine AllReady.cons rfl (fun K hK => ?_) ?_
      ·go_simp
       refine hK _ _ ?_
       clear hK K
       refine wpAny_ready (rs := [6]) (by kernel_rfl) (by simp) ?_
       refine AllReady.cons rfl (fun K hK => ?_) ?_
       ·go_simp
        refine hK _ _ ?_
        clear hK K
        refine tk 7 (v := ?_) rfl ?_ ?_
        rotate_left
        ·intro w; go_simp; with_reducible rfl
        refine wpAny_ready (rs := [8]) (by kernel_rfl) (by simp) ?_
        refine AllReady.cons rfl (fun K hK => ?_) ?_
        ·go_simp
         refine hK _ _ ?_
         clear hK K
         refine wpAny_done (by kernel_rfl) ?_ _
         go_wp2_with fail
         go_roundw
         case rel =>
          obtain ⟨h1, h2, h3, h4, h5, h6⟩ := FI.out
          exact ⟨j + 1, _, _, _, by go_num, by omega, h1, h2, h3, h4, h5, h6⟩
         case measure => simp [intOf]; omega
        exact AllReady.nil
       exact AllReady.nil
      exact AllReady.nil
     refine AllReady.cons rfl (fun K hK => ?_) ?_
     ·go_simp
      refine hK _ _ ?_
      clear hK K
      refine wpAny_ready (rs := [1]) (by kernel_rfl) (by simp) ?_
      refine AllReady.cons rfl (fun K hK => ?_) ?_
      ·go_simp
       refine hK _ _ ?_
       clear hK K
       refine wpAny_ready (rs := [6]) (by kernel_rfl) (by simp) ?_
       refine AllReady.cons rfl (fun K hK => ?_) ?_
       ·go_simp
        refine hK _ _ ?_
        clear hK K
        refine tk 7 (v := ?_) rfl ?_ ?_
        rotate_left
        ·intro w; go_simp; with_reducible rfl
        refine wpAny_ready (rs := [8]) (by kernel_rfl) (by simp) ?_
        refine AllReady.cons rfl (fun K hK => ?_) ?_
        ·go_simp
         refine hK _ _ ?_
         clear hK K
         refine wpAny_done (by kernel_rfl) ?_ _
         go_wp2_with fail
         go_roundw
         case rel =>
          obtain ⟨h1, h2, h3, h4, h5, h6⟩ := FI.out
          exact ⟨j + 1, _, _, _, by go_num, by omega, h1, h2, h3, h4, h5, h6⟩
         case measure => simp [intOf]; omega
        exact AllReady.nil
       exact AllReady.nil
      exact AllReady.nil
     exact AllReady.nil
    exact AllReady.nil
   exact AllReady.nil
  ·obtain rfl : j = nI := by omega
   have HR3 := HR
   have HQ3 := HQ
   have HB3 := HB
   have HK3 : Hid (Kept (fun k => W0.heap.size + 1 ≤ k) wr wr) := Kept.refl
   obtain ⟨a3, s3, ha⟩ : ∃ a s, rMost 100 st2 = (a, s) := ⟨_, _, rfl⟩
   have hc := rdmost_x 100 Wr.heap.size st2 fm ff wr ⟨by decide, by decide⟩ HR3.out (HE.out _ HB3.out)
   have hm := rMost_le (m := 100) (by decide) st2
   rw [ha] at hc hm
   obtain ⟨ml3, mu3⟩ : 0 ≤ a3 ∧ a3 ≤ 100 := hm
   have HA3 := Lib.hid ha
   have HC := Lib.hid hc
   clear hc ha
   go_wp2_with fail
   refine HC.out.mono ?_
   rintro e w4 ⟨rfl, hr, hk⟩
   clear HC
   have hq : w4.heap[W0.heap.size]? = some (.cells #[.int .i64 a0, .int .u64 a1, u, .slice none 0 0] 60 (0, 0)) := hk.known HNE.out HQ3.out
   have hb : Below Wr.heap.size Wr w4 := HB3.out.trans (hk.below (fun k hk => Nat.ne_of_lt hk) HB3.out.size)
   obtain ⟨nT, hnT⟩ : ∃ nT : Nat, a3 = (nT : Int) := ⟨a3.toNat, by omega⟩
   subst hnT
   have HQb : Hid (w4.heap[W0.heap.size]? = some (.cells #[.int .i64 a0, .int .u64 a1, u, .slice none 0 0] 60 (0, 0))) := hq
   have HRb : Hid (RdAt Wr.heap.size s3 w4) := hr
   have HBb : Hid (Below Wr.heap.size Wr w4) := hb
   have HGi : Hid (GrowE encI w4 (W0.heap.size + 1) 3 1 u ts) := HG.out.keep hk (fun k hk => by have := HQL.out; show k ≠ Wr.heap.size; omega)
   have HSb : Hid (W0.heap.size + 1 ≤ w4.heap.size) := by have := (Array.getElem?_eq_some_iff.1 hq).1; rw [Hid]; omega
   clear hr hk hq hb HQ3 HR3 HB3 HK3 ml3 HG HR HQ HB
   go_wp2_with fail
   go_loopw [33] (fun i wt => ∃ (j : Nat) (v : Value) (es : List Ent) (st : Rd), i = .int .u64 j ∧ j ≤ nT ∧ Hid (iter (stepL rEnt) j ([], s3) = (es, st)) ∧ Hid (RdAt Wr.heap.size st wt) ∧ Hid (wt.heap[W0.heap.size]? = some (.cells #[.int .i64 a0, .int .u64 a1, u, v] 60 (0, 0))) ∧ Hid (GrowE Ent.enc wt w4.heap.size 116 4 v es) ∧ Hid (es.length = j) ∧ Hid (Below Wr.heap.size Wr wt) ∧ Hid (Kept (fun k => k ≠ Wr.heap.size ∧ k ≠ W0.heap.size) w4 wt)) (fun i _ => nT - (intOf i).toNat)
   case atStart => exact ⟨0, .slice none 0 0, [], s3, rfl, Nat.zero_le _, rfl, HRb, HQb, GrowE.nil .., rfl, HBb, Kept.refl⟩
   case round =>
    obtain ⟨j, v, es, st3, rfl, hj, HIe, HR, HQ, HG, HLe, HB, HKp⟩ := hrel
    by_cases hlu : j < nT
    ·have HWq : Hid (Wr.heap.size < wr.heap.size) := HR.out.lt
     have HWs : Hid (w4.heap.size ≤ wr.heap.size) := HKp.out.size
     obtain ⟨X0, hX0, hXX0, hXB0, -⟩ := boxes1 wr #[.int .u64 0, .int .u64 0, .string ⟨#[]⟩, .int .u64 0] 116
     have HX0 : Hid (X0.heap[wr.heap.size]? = some (.cells #[.int .u64 0, .int .u64 0, .string ⟨#[]⟩, .int .u64 0] 116 (0, 0))) := hXX0
     have HR0 : Hid (RdAt Wr.heap.size st3 X0) := HR.out.keep (q := fun _ => True) (Kept.of hXB0) trivial
     have HK0 : Hid (Kept (· ≠ Wr.heap.size) wr X0) := Kept.of hXB0
     clear hXX0 hXB0
     obtain ⟨e0, r0, ha⟩ : ∃ a s, rNum st3 = (a, s) := ⟨_, _, rfl⟩
     have hc := rdnum_x Wr.heap.size st3 fm ff X0 HR0.out (HE.out _ (HB.out.trans (HK0.out.below (fun k hk => Nat.ne_of_lt hk) HB.out.size)))
     rw [ha] at hc
     have HE0 := Lib.hid ha
     have HC := Lib.hid hc
     clear hc ha
     go_wp2_with fail
     refine HC.out.mono ?_
     rintro e Y0 ⟨rfl, hr, hk⟩
     clear HC
     have hx : Y0.heap[wr.heap.size]? = some (.cells #[.int .u64 0, .int .u64 0, .string ⟨#[]⟩, .int .u64 0] 116 (0, 0)) := hk.known (Nat.ne_of_gt HWq.out) HX0.out
     have c40 : Y0.cell? ⟨wr.heap.size, 0, none⟩ = some (.int .u64 0) := cCc hx 0
     have f40 : Y0.frozen? ⟨wr.heap.size, 0, none⟩ = false := cFz hx 0
     obtain ⟨X1, hV40, hVX, hVA, hVB, -⟩ := box_set (i := 0) hx (.int .u64 e0)
     have HX1 : Hid (X1.heap[wr.heap.size]? = some (.cells #[.int .u64 e0, .int .u64 0, .string ⟨#[]⟩, .int .u64 0] 116 (0, 0))) := hVX
     have HR1 : Hid (RdAt Wr.heap.size r0 X1) := by rw [Hid, ← hV40]; exact RdAt.keep (q := (· ≠ wr.heap.size)) hr (Kept.refl.set (fun _ h => h rfl) _ _) (Nat.ne_of_lt HWq.out)
     have HK1 : Hid (Kept (· ≠ Wr.heap.size) wr X1) := by rw [Hid, ← hV40]; exact (HK0.out.trans hk).set (fun h => absurd h (Nat.lt_irrefl _)) _ _
     clear hr hk hx hVX hVA hVB HX0 HR0 HK0
     obtain ⟨e1, r1, ha⟩ : ∃ a s, rNum r0 = (a, s) := ⟨_, _, rfl⟩
     have hc := rdnum_x Wr.heap.size r0 fm ff X1 HR1.out (HE.out _ (HB.out.trans (HK1.out.below (fun k hk => Nat.ne_of_lt hk) HB.out.size)))
     rw [ha] at hc
     have HE1 := Lib.hid ha
     have HC := Lib.hid hc
     clear hc ha
     go_wp2_with fail
     refine HC.out.mono ?_
     rintro e Y1 ⟨rfl, hr, hk⟩
     clear HC
     have hx : Y1.heap[wr.heap.size]? = some (.cells #[.int .u64 e0, .int .u64 0, .string ⟨#[]⟩, .int .u64 0] 116 (0, 0)) := hk.known (Nat.ne_of_gt HWq.out) HX1.out
     have c41 : Y1.cell? ⟨wr.heap.size, 1, none⟩ = some (.int .u64 0) := cCc hx 1
     have f41 : Y1.frozen? ⟨wr.heap.size, 1, none⟩ = false := cFz hx 1
     obtain ⟨X2, hV41, hVX, hVA, hVB, -⟩ := box_set (i := 1) hx (.int .u64 e1)
     have HX2 : Hid (X2.heap[wr.heap.size]? = some (.cells #[.int .u64 e0, .int .u64 e1, .string ⟨#[]⟩, .int .u64 0] 116 (0, 0))) := hVX
     have HR2 : Hid (RdAt Wr.heap.size r1 X2) := by rw [Hid, ← hV41]; exact RdAt.keep (q := (· ≠ wr.heap.size)) hr (Kept.refl.set (fun _ h => h rfl) _ _) (Nat.ne_of_lt HWq.out)
     have HK2 : Hid (Kept (· ≠ Wr.heap.size) wr X2) := by rw [Hid, ← hV41]; exact (HK1.out.trans hk).set (fun h => absurd h (Nat.lt_irrefl _)) _ _
     clear hr hk hx hVX hVA hVB HX1 HR1 HK1
     obtain ⟨e2, r2, ha⟩ : ∃ a s, rText r1 = (a, s) := ⟨_, _, rfl⟩
     have hc := rdtext_x Wr.heap.size r1 fm ff X2 HR2.out (fun W hb => HE.out W ((HB.out.trans (HK2.out.below (fun k hk => Nat.ne_of_lt hk) HB.out.size)).trans (hb.mono (HB.out.trans (HK2.out.below (fun k hk => Nat.ne_of_lt hk) HB.out.size)).size)))
     rw [ha] at hc
     have HE2 := Lib.hid ha
     have HC := Lib.hid hc
     clear hc ha
     go_wp2_with fail
     refine HC.out.mono ?_
     rintro e Y2 ⟨rfl, hr, hk⟩
     clear HC
     have hx : Y2.heap[wr.heap.size]? = some (.cells #[.int .u64 e0, .int .u64 e1, .string ⟨#[]⟩, .int .u64 0] 116 (0, 0)) := hk.known (Nat.ne_of_gt HWq.out) HX2.out
     have c42 : Y2.cell? ⟨wr.heap.size, 2, none⟩ = some (.string ⟨#[]⟩) := cCc hx 2
     have f42 : Y2.frozen? ⟨wr.heap.size, 2, none⟩ = false := cFz hx 2
     obtain ⟨X3, hV42, hVX, hVA, hVB, -⟩ := box_set (i := 2) hx (.string e2)
     have HX3 : Hid (X3.heap[wr.heap.size]? = some (.cells #[.int .u64 e0, .int .u64 e1, .string e2, .int .u64 0] 116 (0, 0))) := hVX
     have HR3 : Hid (RdAt Wr.heap.size r2 X3) := by rw [Hid, ← hV42]; exact RdAt.keep (q := (· ≠ wr.heap.size)) hr (Kept.refl.set (fun _ h => h rfl) _ _) (Nat.ne_of_lt HWq.out)
     have HK3 : Hid (Kept (· ≠ Wr.heap.size) wr X3) := by rw [Hid, ← hV42]; exact (HK2.out.trans hk).set (fun h => absurd h (Nat.lt_irrefl _)) _ _
     clear hr hk hx hVX hVA hVB HX2 HR2 HK2
     obtain ⟨e3, r3, ha⟩ : ∃ a s, rNum r2 = (a, s) := ⟨_, _, rfl⟩
     have hc := rdnum_x Wr.heap.size r2 fm ff X3 HR3.out (HE.out _ (HB.out.trans (HK3.out.below (fun k hk => Nat.ne_of_lt hk) HB.out.size)))
     rw [ha] at hc
     have HE3 := Lib.hid ha
     have HC := Lib.hid hc
     clear hc ha
     go_wp2_with fail
     refine HC.out.mono ?_
     rintro e Y3 ⟨rfl, hr, hk⟩
     clear HC
     have hx : Y3.heap[wr.heap.size]? = some (.cells #[.int .u64 e0, .int .u64 e1, .string e2, .int .u64 0] 116 (0, 0)) := hk.known (Nat.ne_of_gt HWq.out) HX3.out
     have c43 : Y3.cell? ⟨wr.heap.size, 3, none⟩ = some (.int .u64 0) := cCc hx 3
     have f43 : Y3.frozen? ⟨wr.heap.size, 3, none⟩ = false := cFz hx 3
     obtain ⟨X4, hV43, hVX, hVA, hVB, -⟩ := box_set (i := 3) hx (.int .u64 e3)
     have HX4 : Hid (X4.heap[wr.heap.size]? = some (.cells #[.int .u64 e0, .int .u64 e1, .string e2, .int .u64 e3] 116 (0, 0))) := hVX
     have HR4 : Hid (RdAt Wr.heap.size r3 X4) := by rw [Hid, ← hV43]; exact RdAt.keep (q := (· ≠ wr.heap.size)) hr (Kept.refl.set (fun _ h => h rfl) _ _) (Nat.ne_of_lt HWq.out)
     have HK4 : Hid (Kept (· ≠ Wr.heap.size) wr X4) := by rw [Hid, ← hV43]; exact (HK3.out.trans hk).set (fun h => absurd h (Nat.lt_irrefl _)) _ _
     clear hr hk hx hVX hVA hVB HX3 HR3 HK3
     have hqy : X4.heap[W0.heap.size]? = some (.cells #[.int .i64 a0, .int .u64 a1, u, v] 60 (0, 0)) := HK4.out.known HNE.out HQ.out
     have hby : Below Wr.heap.size Wr X4 := HB.out.trans (HK4.out.below (fun k hk => Nat.ne_of_lt hk) HB.out.size)
     have hgy := HG.out.keep HK4.out (fun k hk => by have := HQL.out; have := HSb.out; show k ≠ Wr.heap.size; omega)
     have c5 : X4.cell? ⟨W0.heap.size, 3, none⟩ = some v := cCc hqy 3
     have hxy := HX4.out
     obtain ⟨z0, z1, z2, z3⟩ := cl4 hxy
     obtain ⟨g, cap, x3, hap, hG3, hB3, hz3, hbl3⟩ := hgy.push (w0 := Wr) (B := Wr.heap.size) 58 und_ents' info_ent' rfl (by decide) (⟨e0, e1, e2, e3⟩ : Ent) [.int .u64 e0, .int .u64 e1, .string e2, .int .u64 e3] rfl hby (by have := HQL.out; have := HSb.out; omega) (Nat.le_trans HWs.out HK4.out.size) (by simp [Value.oneCell']) (by rw [HLe.out]; omega) (by decide)
     rw [HLe.out] at hap hG3
     have hq3 : x3.heap[W0.heap.size]? = some (.cells #[.int .i64 a0, .int .u64 a1, u, v] 60 (0, 0)) := (hbl3 _ (by have := HSb.out; omega)).trans hqy
     have c6 : x3.cell? ⟨W0.heap.size, 3, none⟩ = some v := cCc hq3 3
     have f6 : x3.frozen? ⟨W0.heap.size, 3, none⟩ = false := cFz hq3 3
     obtain ⟨V, hV, hVX, hVA, hVB, -⟩ := box_set (i := 3) hq3 (.slice (some ⟨g, 0, none⟩) (j + 1) cap)
     have hkV : Kept (· ≠ W0.heap.size) x3 V := by rw [← hV]; exact Kept.refl.set (fun _ h => h rfl) _ _
     have hkx : Kept (fun k => k ≠ Wr.heap.size ∧ k ≠ W0.heap.size) w4 x3 := ⟨hB3.os.trans HBb.out.os.symm, hB3.tape.trans HBb.out.tape.symm, hB3.output.trans HBb.out.output.symm, by have := HWs.out; have := HK4.out.size; omega, fun k hk hq => (hbl3 k hk).trans ((HK4.out.block k (Nat.lt_of_lt_of_le hk HWs.out) hq.1).trans (HKp.out.block k hk hq))⟩
     have FI : Hid (iter (stepL rEnt) (j + 1) ([], s3) = (es ++ [(⟨e0, e1, e2, e3⟩ : Ent)], r3) ∧ RdAt Wr.heap.size r3 V ∧ V.heap[W0.heap.size]? = some (.cells #[.int .i64 a0, .int .u64 a1, u, .slice (some ⟨g, 0, none⟩) (j + 1) cap] 60 (0, 0)) ∧ GrowE Ent.enc V w4.heap.size 116 4 (.slice (some ⟨g, 0, none⟩) (j + 1) cap) (es ++ [(⟨e0, e1, e2, e3⟩ : Ent)]) ∧ (es ++ [(⟨e0, e1, e2, e3⟩ : Ent)]).length = j + 1 ∧ Below Wr.heap.size Wr V ∧ Kept (fun k => k ≠ Wr.heap.size ∧ k ≠ W0.heap.size) w4 V) := by
      refine ⟨?_, ?_, hVX, hG3.keep hkV (fun k hk => by have := HSb.out; show k ≠ W0.heap.size; omega), by rw [List.length_append, HLe.out]; rfl, hVB _ _ HQL.out hB3, hkx.trans (hkV.mono fun k hk => hk.2)⟩
      ·show stepL rEnt (iter (stepL rEnt) j ([], s3)) = _
       rw [HIe.out]
       unfold stepL rEnt
       dsimp only
       rw [HE0.out]
       dsimp only
       rw [HE1.out]
       dsimp only
       rw [HE2.out]
       dsimp only
       rw [HE3.out]
      ·refine RdAt.keep (q := (· ≠ W0.heap.size)) ?_ hkV (Ne.symm HNE.out)
       have hSQ := HQL.out
       have hSs := HSb.out
       have hRx := HR4.out
       cases r3 with
       | none => obtain ⟨z, h⟩ := hRx; exact ⟨z, (hbl3 _ (by omega)).trans h⟩
       | some z => exact ⟨hRx.1, (hbl3 _ (by omega)).trans hRx.2⟩
     clear hqy hby hgy hxy hG3 hB3 hz3 hbl3 hq3 hVX hVA hVB hkV hkx
     go_wp2_with fail
     go_roundw
     case rel =>
      obtain ⟨h1, h2, h3, h4, h5, h6, h7⟩ := FI.out
      exact ⟨j + 1, _, _, _, by go_num, by omega, h1, h2, h3, h4, h5, h6, h7⟩
     case measure => simp [intOf]; omega
    ·obtain rfl : j = nT := by omega
     obtain ⟨ok, hok⟩ : ∃ ok, decide (st3 = some []) = ok := ⟨_, rfl⟩
     have hc := rdended_x Wr.heap.size st3 wr HR.out
     rw [hok] at hc
     have HC := Lib.hid hc
     have HOK := Lib.hid hok
     clear hc hok
     go_wp2_with fail
     refine HC.out.mono ?_
     rintro e w5 ⟨rfl, hk, hr⟩
     have HQe : Hid (w5.heap[W0.heap.size]? = some (.cells #[.int .i64 a0, .int .u64 a1, u, v] 60 (0, 0))) := hk.known HNE.out HQ.out
     have HBe : Hid (Below Wr.heap.size Wr w5) := HB.out.trans (hk.below (fun k hk => Nat.ne_of_lt hk) HB.out.size)
     have HGt : Hid (GrowE Ent.enc w5 w4.heap.size 116 4 v es) := HG.out.keep hk (fun k hk => by have := HSb.out; have := HQL.out; show k ≠ Wr.heap.size; omega)
     have HKe : Hid (Kept (fun k => k ≠ Wr.heap.size ∧ k ≠ W0.heap.size) w4 w5) := HKp.out.trans (hk.mono fun k hk => hk.1)
     clear hr hk HC HQ HB HG HKp
     obtain ⟨hRX, hRB⟩ := HRes.out w5 HBe.out
     obtain ⟨rf0, rf1, rf2, rf3⟩ := cz4 hRX
     obtain ⟨rc0, rc1, rc2, rc3⟩ := cl4 hRX
     cases ok with
     | true =>
      have hQX := HQe.out
      obtain ⟨qc0, qc1, qc2, qc3⟩ := cl4 hQX
      obtain ⟨V, hV, hVX, hVB, hVK⟩ := stor4 (.int .i64 a0) (.int .u64 a1) (u) (v) hRX hRB (Nat.le_refl _)
      obtain ⟨vc0, vc1, vc2, vc3⟩ := cl4 hVX
      have HF := Lib.hid hVB
      have hGi : GrowE encI V (W0.heap.size + 1) 3 1 u ts := ((HGi.out.keep HKe.out (fun k hk => by have := HQL.out; constructor <;> omega)).keep hVK (fun k hk => by have := HQL.out; have := HWr.out; show k ≠ w.heap.size; omega))
      have hGt : GrowE Ent.enc V w4.heap.size 116 4 v es := HGt.out.keep hVK (fun k hk => by have := HQL.out; have := HWr.out; have := HSb.out; show k ≠ w.heap.size; omega)
      obtain ⟨ia, ic, rfl, hsi⟩ := hGi.sl (fun x => rfl)
      obtain ⟨ta, tc, rfl, hst⟩ := hGt.sl (fun x => rfl)
      have hg : getRy l = some ⟨a0, a1, ts, es⟩ := getRy_some (decide_eq_true_iff.1 HOK.out) HA0.out HA1.out HA2.out (by simpa using HIu.out) HA3.out (by simpa using HIe.out)
      clear hRX hRB hQX hVX hVB hVK hGi hGt
      go_wp2_with fail
      refine bodyPost_ret (v := .tuple #[.agg (ryV ⟨a0, a1, ts, es⟩ ia ic ta tc), .int .i64 0]) (by simp [results, ryV, Tryz.f25, go_sem, vc0, vc1, vc2, vc3]) rfl ?_
      rw [hg]
      exact ⟨⟨_, _, _, _, rfl, hsi, hst⟩, HF.out⟩
     | false =>
      obtain ⟨V, hV, hVX, hVB, hVK⟩ := stor4 (.int .i64 0) (.int .u64 0) (.slice none 0 0) (.slice none 0 0) hRX hRB (Nat.le_refl _)
      obtain ⟨vc0, vc1, vc2, vc3⟩ := cl4 hVX
      have HF := Lib.hid hVB
      have hg : getRy l = none := getRy_none (decide_eq_false_iff_not.1 HOK.out) HA0.out HA1.out HA2.out (by simpa using HIu.out) HA3.out (by simpa using HIe.out)
      clear hRX hRB hVX hVB hVK
      go_wp2_with fail
      refine bodyPost_ret (v := .tuple #[.agg ryZ, .int .i64 200]) (by simp [results, ryZ, Tryz.f25, go_sem, vc0, vc1, vc2, vc3]) rfl ?_
      rw [hg]
      exact ⟨rfl, HF.out⟩
end Go.Proofs.YtpklkhgnjbopnaaGreatDoor
namespace Go.Proofs.YtpklkhgnjbopnaaGreatDoor
open Go Go.RowKit Go.Shelf
set_option maxRecDepth 100000 in
set_option maxHeartbeats 1000000 in
theorem ints_eq (a1 : Option Addr) (len cap1 : Nat) (l : List Int) (a2 : Option Addr) (cap2 : Nat) (w : World) (h1 : SlE encI 1 w.heap.size w a1 len l) (h2 : SlE encI 1 w.heap.size w a2 len l) (hm : len ≤ maxLen) :
  CR 67 #[.slice a1 len cap1, .slice a2 len cap2] w (.bool true) := by
 unfold maxLen at hm
 have t0 : ((len : Int) != (len : Int)) = false := by simp
 go_enter Tryz.func67, Tryz.ntmps67
 go_wp2_with fail
 go_loopw [5] (fun i wr => ∃ (k : Nat), i = .int .i64 k ∧ k ≤ len ∧ Below w.heap.size w wr) (fun i _ => len - (intOf i).toNat)
 case atStart => exact ⟨0, rfl, Nat.zero_le _, Below.refl _ _⟩
 case round =>
  obtain ⟨k, rfl, hk, hB⟩ := hrel
  by_cases hlt : k < len
  ·obtain ⟨x, b1, o1, hx, ea1, hb1, hc1⟩ := (h1.below hB).at hlt
   obtain ⟨y, b2, o2, hy, ea2, hb2, hc2⟩ := (h2.below hB).at hlt
   subst ea1; subst ea2
   obtain rfl : x = y := Option.some.inj (hx.symm.trans hy)
   have p0 : wr.cell? ⟨b1, o1 + k * 1 + 0, none⟩ = some (.int .i64 x) := hc1 0 (by omega)
   have q0 : wr.cell? ⟨b2, o2 + k * 1 + 0, none⟩ = some (.int .i64 x) := hc2 0 (by omega)
   simp only [Nat.mul_one, Nat.add_zero] at p0 q0
   have i0 : (0 : Int) ≤ (k : Int) := by omega
   have i1 : (k : Int) < (len : Int) := by omega
   have n1 : (x != x) = false := by simp
   clear hc1 hc2 hx hy h1 h2
   go_wp2_with fail
   go_quiet (fail)
   go_wp2_with fail
   go_roundw
   case rel => exact ⟨k + 1, by go_num, by omega, bDr hB _⟩
   case measure => simp [intOf]; omega
  ·obtain rfl : k = len := by omega
   clear h1 h2
   go_wp2_with fail
   go_ret
   exact ⟨rfl, hB⟩
set_option maxRecDepth 100000 in
set_option maxHeartbeats 1000000 in
theorem ents_eq (a1 : Option Addr) (len cap1 : Nat) (l : List Ent) (a2 : Option Addr) (cap2 : Nat) (w : World) (h1 : SlE Ent.enc 4 w.heap.size w a1 len l) (h2 : SlE Ent.enc 4 w.heap.size w a2 len l) (hm : len ≤ maxLen) :
  CR 68 #[.slice a1 len cap1, .slice a2 len cap2] w (.bool true) := by
 unfold maxLen at hm
 have t0 : ((len : Int) != (len : Int)) = false := by simp
 go_enter Tryz.func68, Tryz.ntmps68
 go_wp2_with fail
 go_loopw [5] (fun i wr => ∃ (k : Nat), i = .int .i64 k ∧ k ≤ len ∧ Below w.heap.size w wr) (fun i _ => len - (intOf i).toNat)
 case atStart => exact ⟨0, rfl, Nat.zero_le _, Below.refl _ _⟩
 case round =>
  obtain ⟨k, rfl, hk, hB⟩ := hrel
  by_cases hlt : k < len
  ·obtain ⟨x, b1, o1, hx, ea1, hb1, hc1⟩ := (h1.below hB).at hlt
   obtain ⟨y, b2, o2, hy, ea2, hb2, hc2⟩ := (h2.below hB).at hlt
   subst ea1; subst ea2
   obtain rfl : x = y := Option.some.inj (hx.symm.trans hy)
   have p0 : wr.cell? ⟨b1, o1 + k * 4, none⟩ = some (.int .u64 x.seq) := hc1 0 (by omega)
   have p1 : wr.cell? ⟨b1, o1 + k * 4 + 1, none⟩ = some (.int .u64 x.tm) := hc1 1 (by omega)
   have p2 : wr.cell? ⟨b1, o1 + k * 4 + 2, none⟩ = some (.string x.text) := hc1 2 (by omega)
   have p3 : wr.cell? ⟨b1, o1 + k * 4 + 3, none⟩ = some (.int .u64 x.sum) := hc1 3 (by omega)
   have q0 : wr.cell? ⟨b2, o2 + k * 4, none⟩ = some (.int .u64 x.seq) := hc2 0 (by omega)
   have q1 : wr.cell? ⟨b2, o2 + k * 4 + 1, none⟩ = some (.int .u64 x.tm) := hc2 1 (by omega)
   have q2 : wr.cell? ⟨b2, o2 + k * 4 + 2, none⟩ = some (.string x.text) := hc2 2 (by omega)
   have q3 : wr.cell? ⟨b2, o2 + k * 4 + 3, none⟩ = some (.int .u64 x.sum) := hc2 3 (by omega)
   have i0 : (0 : Int) ≤ (k : Int) := by omega
   have i1 : (k : Int) < (len : Int) := by omega
   clear hc1 hc2 hx hy h1 h2
   go_wp2_with fail
   go_quiet (fail)
   go_wp2_with fail
   go_roundw
   case rel => exact ⟨k + 1, by go_num, by omega, bDr hB _⟩
   case measure => simp [intOf]; omega
  ·obtain rfl : k = len := by omega
   clear h1 h2
   go_wp2_with fail
   go_ret
   exact ⟨rfl, hB⟩
set_option maxRecDepth 100000 in
set_option maxHeartbeats 1000000 in
theorem same_eq (y : Ry) (n1 : Option Addr) (c1 : Nat) (e1 : Option Addr) (d1 : Nat) (n2 : Option Addr) (c2 : Nat) (e2 : Option Addr) (d2 : Nat) (w : World) (hn : y.nots.length ≤ maxLen) (he : y.ents.length ≤ maxLen) (hN1 : SlE encI 1 w.heap.size w n1 y.nots.length y.nots) (hE1 : SlE Ent.enc 4 w.heap.size w e1 y.ents.length y.ents) (hN2 : SlE encI 1 w.heap.size w n2 y.nots.length y.nots) (hE2 : SlE Ent.enc 4 w.heap.size w e2 y.ents.length y.ents) :
  CR 31 #[.agg (ryV y n1 c1 e1 d1), .agg (ryV y n2 c2 e2 d2)] w (.bool true) := by
 obtain ⟨W, hW, hX, hY, hB, hs⟩ := boxes2 w (ryV y n1 c1 e1 d1) 60 (ryV y n2 c2 e2 d2) 60
 have HI := Lib.hid fun (V : World) (hV : Below W.heap.size W V) => ints_eq n1 y.nots.length c1 y.nots n2 c2 V ((hN1.go hB).go hV) ((hN2.go hB).go hV) hn
 have HE := Lib.hid fun (V : World) (hV : Below W.heap.size W V) => ents_eq e1 y.ents.length d1 y.ents e2 d2 V ((hE1.go hB).go hV) ((hE2.go hB).go hV) he
 unfold ryV at hX hY hW ⊢
 obtain ⟨x0, x1, x2, x3⟩ := cl4 hX
 obtain ⟨z0, z1, z2, z3⟩ := cl4 hY
 have HF := Lib.hid fun (V : World) (hV : Below W.heap.size W V) => And.intro (cCc (known hV (Nat.le_refl _) hX) 3 : V.cell? ⟨w.heap.size, 3, none⟩ = some (.slice e1 y.ents.length d1)) (cCc (known hV (Nat.le_refl _) hY) 3 : V.cell? ⟨w.heap.size + 1, 3, none⟩ = some (.slice e2 y.ents.length d2))
 have HBW := Lib.hid hB
 have t0 : (y.e == y.e) = true := by simp
 have t1 : (y.n == y.n) = true := by simp
 clear hX hY hB hs hN1 hE1 hN2 hE2 hn he
 go_enter Tryz.func31, Tryz.ntmps31
 go_wp2_with fail
 refine (HI.out W (Below.refl _ _)).mono ?_
 rintro e w1 ⟨rfl, hb⟩
 obtain ⟨k1, k2⟩ := HF.out _ hb
 have HE1 := Lib.hid (HE.out _ hb)
 have HB1 := Lib.hid hb
 clear hb
 go_wp2_with fail
 refine HE1.out.mono ?_
 rintro e w2 ⟨rfl, hb⟩
 have HB2 : Hid (Below w.heap.size w w2) := (HBW.out.trans (HB1.out.mono HBW.out.size)).trans (hb.mono (Nat.le_trans HBW.out.size HB1.out.size))
 clear hb
 go_wp2_with fail
 go_ret
 exact ⟨rfl, HB2.out⟩
end Go.Proofs.YtpklkhgnjbopnaaGreatDoor
namespace Go.Proofs.YtpklkhgnjbopnaaGreatDoor
open Go Go.RowKit Go.Shelf
theorem four_or (n b : Nat) (hb : b < 256) : bits .or .u32 ((n : Int) * 256 % 4294967296) ((b : Int) % 4294967296) = (((n * 256 + b) % 4294967296 : Nat) : Int) := by
 have e1 : (n : Int) * 256 % 4294967296 = ((n * 256 % 4294967296 : Nat) : Int) := by omega
 have e3 : (b : Int) % 4294967296 = (b : Int) := by omega
 have e2 : n * 256 % 4294967296 = (n % 16777216) <<< 8 := by rw [Nat.shiftLeft_eq]; omega
 rw [e1, e3]
 have e4 : bits .or .u32 ((n * 256 % 4294967296 : Nat) : Int) (b : Int) = (((n * 256 % 4294967296) ||| b : Nat) : Int) := by
  have h1 : n * 256 % 4294967296 ||| b < 2 ^ 32 := Nat.or_lt_two_pow (by omega) (by omega)
  have h2 : IntKind.u32.wrap ((n * 256 % 4294967296 ||| b : Nat) : Int) = ((n * 256 % 4294967296 ||| b : Nat) : Int) := by rw [IntKind.wrap_u32]; omega
  have h5 : IntKind.u32.bits = 32 := rfl
  have h3 : (((n * 256 % 4294967296 : Nat) : Int) % ((2 ^ IntKind.u32.bits : Nat) : Int)).toNat = n * 256 % 4294967296 := by rw [h5]; omega
  have h4 : ((b : Int) % ((2 ^ IntKind.u32.bits : Nat) : Int)).toNat = b := by rw [h5]; omega
  unfold bits
  dsimp only
  rw [BitVec.toNat_or, BitVec.toNat_ofInt, BitVec.toNat_ofInt, h3, h4, h2]
 rw [e4, e2, ← Nat.shiftLeft_add_eq_or_of_lt (by omega : b < 2 ^ 8), Nat.shiftLeft_eq]
 omega
theorem take_byte (s : ByteArray) (k : Nat) (h : k < s.size) : s.data.toList.take (k + 1) = s.data.toList.take k ++ [s[k]'h] := by
 have h2 : k < s.data.toList.length := by rw [Array.length_toList]; exact h
 rw [List.take_succ_eq_append_getElem h2]
 rfl
set_option maxHeartbeats 1000000 in
theorem fnumber_any (s : ByteArray) (hs : s.size < 4294967281) (w : World) :
  Calls Tryz.prog 96 #[.string s] w fun e w' => e = .returned (.int .u32 (fourN s.data.toList)) ∧ w' = w := by
 go_enter Tryz.func96, Tryz.ntmps96
 go_wp2_with fail
 go_loopw [3, 7] (fun n i wr => ∃ k : Nat, n = .int .u32 (fourN (s.data.toList.take k)) ∧ i = .int .i64 k ∧ k ≤ s.size ∧ wr = w) (fun _ i _ => s.size - (intOf i).toNat)
 case atStart => exact ⟨0, rfl, rfl, Nat.zero_le _, rfl⟩
 case round =>
  obtain ⟨k, rfl, rfl, hk, rfl⟩ := hrel
  by_cases hlt : k < s.size
  ·go_wp2_with fail
   refine ⟨⟨k + 1, ?_, by go_num, by omega, trivial⟩, by simp [intOf]; omega⟩
   rw [four_or _ _ (UInt8.toNat_lt _), take_byte s k hlt, fourN_snoc]
   rfl
  ·obtain rfl : k = s.size := by omega
   go_wp2_with fail
   go_ret
   exact ⟨by show Ending.returned (.int .u32 _) = _; rw [List.take_of_length_le (by rw [Array.length_toList]; exact Nat.le_refl _)], rfl⟩
theorem take1_any (b g : Nat) (x : UInt8) (p : Nat × Nat) (W : World) (hp : p.1 < 65521 ∧ p.2 < 65521) (h : W.heap[b]? = some (.cells #[.int .u32 p.1, .int .u32 p.2] 224 (0, 0))) (hx : W.heap[g]? = some (.cells #[.int .u8 x.toNat] 5 (0, 0))) :
  Calls Tryz.prog 119 #[.pointer (some ⟨b, 0, none⟩), .slice (some ⟨g, 0, none⟩) 1 1] W fun e w' => e = .returned (.tuple #[]) ∧ w'.heap[b]? = some (.cells #[.int .u32 (ckStep p x).1, .int .u32 (ckStep p x).2] 224 (0, 0)) ∧ Kept (· ≠ b) W w' := by
 go_enter Tryz.func119, Tryz.ntmps119
 go_wp2_with fail
 go_loopw [8] (fun i wr => (i = .int .i64 0 ∧ wr = W) ∨ (i = .int .i64 1 ∧ Hid (wr.heap[b]? = some (.cells #[.int .u32 (ckStep p x).1, .int .u32 (ckStep p x).2] 224 (0, 0))) ∧ Hid (Kept (· ≠ b) W wr))) (fun i _ => 1 - (intOf i).toNat)
 case atStart => exact .inl ⟨rfl, rfl⟩
 case round =>
  rcases hrel with ⟨rfl, rfl⟩ | ⟨rfl, h1, h2⟩
  ·have cx : wr.cell? ⟨g, 0, none⟩ = some (.int .u8 x.toNat) := cCc hx 0
   obtain ⟨c0, c1⟩ := cl2 h
   have f0 : wr.frozen? ⟨b, 0, none⟩ = false := cFz h 0
   have hx256 := UInt8.toNat_lt x
   have hA : ((p.1 : Int) + (x.toNat : Int)) % 65521 = ((ckStep p x).1 : Int) := by show _ = (((p.1 + x.toNat) % 65521 : Nat) : Int); omega
   have hA3 : (ckStep p x).1 < 65521 := Nat.mod_lt _ (by decide)
   have hA2 : ((p.2 : Int) + ((ckStep p x).1 : Int)) % 65521 = ((ckStep p x).2 : Int) := by
    show _ = (((p.2 + (ckStep p x).1) % 65521 : Nat) : Int)
    omega
   obtain ⟨V1, hV1, hVX, -, -, -⟩ := box_set (i := 0) h (.int .u32 (((p.1 : Int) + (x.toNat : Int)) % 65521))
   have hX1 : V1.heap[b]? = some (.cells #[.int .u32 ((ckStep p x).1 : Int), .int .u32 (p.2 : Int)] 224 (0, 0)) := by rw [hVX, ← hA]; rfl
   have hK1 : Kept (· ≠ b) wr V1 := by rw [← hV1]; exact Kept.refl.set (fun _ h => h rfl) _ _
   obtain ⟨D, hD⟩ : ∃ D, V1.drew = D := ⟨_, rfl⟩
   have hXD : D.heap[b]? = some (.cells #[.int .u32 ((ckStep p x).1 : Int), .int .u32 (p.2 : Int)] 224 (0, 0)) := by rw [← hD]; exact hX1
   obtain ⟨d0, d1⟩ := cl2 hXD
   have g1 : D.frozen? ⟨b, 1, none⟩ = false := cFz hXD 1
   have FI : Hid (∀ v, (D.setCell ⟨b, 1, none⟩ v).heap[b]? = some (.cells #[.int .u32 ((ckStep p x).1 : Int), v] 224 (0, 0)) ∧ Kept (· ≠ b) wr (D.setCell ⟨b, 1, none⟩ v)) := fun v => ⟨hSk hXD v, by rw [← hD]; exact hK1.drew.set (fun _ h => h rfl) _ _⟩
   have HD := Lib.hid hD
   have HE2 := Lib.hid hA2
   clear hA hA2 hVX hX1 hK1 hD hXD
   go_wp2_with fail
   refine wp_region_any (by kernel_rfl) ?_
   change wpAny _ _ _ _ _ _ _ (World.drew _)
   rw [HD.out]
   refine tk 0 (v := ?_) rfl ?_ ?_
   rotate_left
   ·intro w; go_simp; with_reducible rfl
   refine tk 1 (v := ?_) rfl ?_ ?_
   rotate_left
   ·intro w; go_simp; with_reducible rfl
   refine tk 2 (v := ?_) rfl ?_ ?_
   rotate_left
   ·intro w; go_simp; with_reducible rfl
   refine tk 3 (v := ?_) rfl ?_ ?_
   rotate_left
   ·intro w; go_simp; with_reducible rfl
   refine tk 4 (v := ?_) rfl ?_ ?_
   rotate_left
   ·intro w; go_simp; with_reducible rfl
   refine tk 6 (v := ?_) rfl ?_ ?_
   rotate_left
   ·intro w; go_simp; with_reducible rfl
   refine tk 7 (v := ?_) rfl ?_ ?_
   rotate_left
   ·intro w; go_simp; with_reducible rfl
   refine tk 8 (v := ?_) rfl ?_ ?_
   rotate_left
   ·intro w; go_simp; with_reducible rfl
   refine tk 9 (v := ?_) rfl ?_ ?_
   rotate_left
   ·intro w; go_simp; with_reducible rfl
   refine wpAny_ready (rs := [5, 10]) (by kernel_rfl) (by simp) ?_
   refine AllReady.cons rfl (fun K hK => ?_) ?_
   ·go_simp
    refine hK _ _ ?_
    clear hK K
    refine wpAny_ready (rs := [10]) (by kernel_rfl) (by simp) ?_
    refine AllReady.cons rfl (fun K hK => ?_) ?_
    ·go_simp
     refine hK _ _ ?_
     clear hK K
     refine tk 11 (v := ?_) rfl ?_ ?_
     rotate_left
     ·intro w; go_simp; with_reducible rfl
     refine tk 12 (v := ?_) rfl ?_ ?_
     rotate_left
     ·intro w; go_simp; with_reducible rfl
     refine tk 13 (v := ?_) rfl ?_ ?_
     rotate_left
     ·intro w; go_simp; with_reducible rfl
     refine tk 14 (v := ?_) rfl ?_ ?_
     rotate_left
     ·intro w; go_simp; with_reducible rfl
     refine tk 15 (v := ?_) rfl ?_ ?_
     rotate_left
     ·intro w; go_simp; with_reducible rfl
     refine wpAny_ready (rs := [16]) (by kernel_rfl) (by simp) ?_
     refine AllReady.cons rfl (fun K hK => ?_) ?_
     ·go_simp
      refine hK _ _ ?_
      clear hK K
      refine wpAny_done (by kernel_rfl) ?_ _
      go_wp2_with fail
      go_roundw
      case rel => exact .inr ⟨by go_num, by rw [Hid, (FI.out _).1]; have h2 : ((p.2 : Int) + ((ckStep p x).1 : Int)) % 65521 = ((ckStep p x).2 : Int) := HE2.out; rw [h2], Lib.hid (FI.out _).2⟩
      case measure => simp [intOf]
     exact AllReady.nil
    exact AllReady.nil
   refine AllReady.cons rfl (fun K hK => ?_) ?_
   ·go_simp
    refine hK _ _ ?_
    clear hK K
    refine wpAny_ready (rs := [5]) (by kernel_rfl) (by simp) ?_
    refine AllReady.cons rfl (fun K hK => ?_) ?_
    ·go_simp
     refine hK _ _ ?_
     clear hK K
     refine tk 11 (v := ?_) rfl ?_ ?_
     rotate_left
     ·intro w; go_simp; with_reducible rfl
     refine tk 12 (v := ?_) rfl ?_ ?_
     rotate_left
     ·intro w; go_simp; with_reducible rfl
     refine tk 13 (v := ?_) rfl ?_ ?_
     rotate_left
     ·intro w; go_simp; with_reducible rfl
     refine tk 14 (v := ?_) rfl ?_ ?_
     rotate_left
     ·intro w; go_simp; with_reducible rfl
     refine tk 15 (v := ?_) rfl ?_ ?_
     rotate_left
     ·intro w; go_simp; with_reducible rfl
     refine wpAny_ready (rs := [16]) (by kernel_rfl) (by simp) ?_
     refine AllReady.cons rfl (fun K hK => ?_) ?_
     ·go_simp
      refine hK _ _ ?_
      clear hK K
      refine wpAny_done (by kernel_rfl) ?_ _
      go_wp2_with fail
      go_roundw
      case rel => exact .inr ⟨by go_num, by rw [Hid, (FI.out _).1]; have h2 : ((p.2 : Int) + ((ckStep p x).1 : Int)) % 65521 = ((ckStep p x).2 : Int) := HE2.out; rw [h2], Lib.hid (FI.out _).2⟩
      case measure => simp [intOf]
     exact AllReady.nil
    exact AllReady.nil
   exact AllReady.nil
  ·go_wp2_with fail
   go_end0
   exact ⟨rfl, h1.out, h2.out⟩
set_option maxHeartbeats 1000000 in
theorem Check_any (s : ByteArray) (hs : s.size < 4294967281) (w : World) :
  Calls Tryz.prog 95 #[.string s] w fun e w' => e = .returned (.int .u32 (checkN s.data.toList)) ∧ Below w.heap.size w w' := by
 obtain ⟨W, hW, hX, hB, hsz⟩ := boxes1 w #[.int .u32 1, .int .u32 0] 224
 obtain ⟨c0, c1⟩ := cl2 hX
 obtain ⟨f0, f1⟩ := cz2 hX
 obtain ⟨V, hV, hVX, -, hVB, -⟩ := box_set (i := 1) hX (.int .u32 0)
 have HX : Hid (V.heap[w.heap.size]? = some (.cells #[.int .u32 ((ckPair (s.data.toList.take 0)).1 : Int), .int .u32 ((ckPair (s.data.toList.take 0)).2 : Int)] 224 (0, 0))) := hVX
 have HB : Hid (Below w.heap.size w V) := hVB _ _ (Nat.le_refl _) hB
 clear hX hB hsz hVX hVB
 go_enter Tryz.func95, Tryz.ntmps95
 go_wp2_with fail
 go_loopw [9] (fun i wr => ∃ k : Nat, i = .int .i64 k ∧ k ≤ s.size ∧ Hid (wr.heap[w.heap.size]? = some (.cells #[.int .u32 ((ckPair (s.data.toList.take k)).1 : Int), .int .u32 ((ckPair (s.data.toList.take k)).2 : Int)] 224 (0, 0))) ∧ Hid (Below w.heap.size w wr)) (fun i _ => s.size - (intOf i).toNat)
 case atStart => exact ⟨0, rfl, Nat.zero_le _, HX, HB⟩
 case round =>
  obtain ⟨k, rfl, hk, HX, HB⟩ := hrel
  by_cases hlt : k < s.size
  ·obtain ⟨X, hX, hXX, hXB, -⟩ := boxes1 wr #[.int .u8 ((s[k]'hlt).toNat)] 5
   have HC := Lib.hid (take1_any w.heap.size wr.heap.size (s[k]'hlt) _ X (ckPair_lt _) (known hXB (Nat.le_refl _) HX.out) hXX)
   have HBX : Hid (Below w.heap.size w X) := HB.out.trans (hXB.mono HB.out.size)
   clear hXX hXB HX HB
   go_wp2_with fail
   refine HC.out.mono ?_
   rintro e X2 ⟨rfl, h1, h2⟩
   have FI : Hid (X2.heap[w.heap.size]? = some (.cells #[.int .u32 ((ckPair (s.data.toList.take (k + 1))).1 : Int), .int .u32 ((ckPair (s.data.toList.take (k + 1))).2 : Int)] 224 (0, 0)) ∧ Below w.heap.size w X2) := ⟨by rw [take_byte s k hlt, ckPair_snoc]; exact h1, HBX.out.trans (h2.below (fun k hk => Nat.ne_of_lt hk) HBX.out.size)⟩
   clear h1 h2 HC
   go_wp2_with fail
   go_roundw
   case rel => exact ⟨k + 1, by go_num, by omega, Lib.hid FI.out.1, Lib.hid FI.out.2⟩
   case measure => simp [intOf]; omega
  ·obtain rfl : k = s.size := by omega
   have hx := HX.out
   rw [List.take_of_length_le (by rw [Array.length_toList]; exact Nat.le_refl _)] at hx
   have hlt1 := (ckPair_lt s.data.toList)
   obtain ⟨c0, c1⟩ := cl2 hx
   clear hx HX
   go_wp2_with fail
   go_ret
   refine ⟨?_, HB.out⟩
   show Ending.returned (.int .u32 _) = Ending.returned (.int .u32 _)
   congr 2
end Go.Proofs.YtpklkhgnjbopnaaGreatDoor
