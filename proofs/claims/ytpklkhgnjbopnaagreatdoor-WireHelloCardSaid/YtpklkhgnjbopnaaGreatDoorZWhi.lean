/- Package wire: answer to a hello on the third connection; Feed of a hello. Law WireHello. -/
import Derived.Test.YtpklkhgnjbopnaaGreatDoorZWhg
namespace Go.Proofs.YtpklkhgnjbopnaaGreatDoor
open Go Go.RowKit Go.Shelf
def lnOf (r : (Int × Int × Int) × Int) : Ln := ⟨r.1.1, r.1.2.1, r.1.2.2, r.2 == 0, false, ⟨#[]⟩⟩
theorem WireAt.set2 {W : World} {b : Nat} {c : Value} {l m n : Ln} (h : WireAt W b c l m n) (i : Nat) (v : Value) {k : Ln} (e : (wcells c l m n).setIfInBounds i v = wcells c l m k) : WireAt (W.setCell ⟨b, i, none⟩ v) b c l m k := by
 have h2 := hSk h v (i := i)
 rw [e] at h2
 exact h2
theorem keptBelow {b : Nat} {w V : World} (h : Kept (· ≠ b) w V) (hb : b ≤ w.heap.size) : Below b w V := h.below (fun _ hk => Nat.ne_of_lt hk) hb
theorem authR_range (A B : Int) (ids : List Int) (s : ByteArray) (now : Int) : ((authR A B ids s now).2 = 0 ∨ (authR A B ids s now).2 = 170 ∨ (authR A B ids s now).2 = 171) ∧ ((authR A B ids s now).2 ≠ 0 → (authR A B ids s now).1 = (0, 0, 0)) := by
 unfold authR
 split
 ·exact ⟨.inr (.inl rfl), fun _ => rfl⟩
 ·split
  ·unfold chkR
   split
   ·exact ⟨.inr (.inl rfl), fun _ => rfl⟩
   ·split
    ·split
     ·exact ⟨.inr (.inr rfl), fun _ => rfl⟩
     ·exact ⟨.inl rfl, fun h => absurd rfl h⟩
    ·exact ⟨.inr (.inl rfl), fun _ => rfl⟩
  ·exact ⟨.inr (.inl rfl), fun _ => rfl⟩
set_option maxRecDepth 100000 in
set_option maxHeartbeats 2000000 in
theorem answer_hello2 (b c : Nat) (A B : Int) (ids : List Int) (l m n : Ln) (s : ByteArray) (now : Int) (T : ByteArray) (fm ff : Addr) (w : World) (hs : s.size < 4294967281) (hTz : T.size < 4294967281) (hE : ∀ V, Below b w V → GF fm ff V) (hC : CollAt c A B ids b w) (hq : msgOf s.data.toList = .hello now T) (h : WireAt w b (.pointer (some ⟨c, 0, none⟩)) l m n) (hc : n.closed = false) (hl : n.left = ⟨#[]⟩) :
  Calls Tryz.prog 38 #[.pointer (some ⟨b, 0, none⟩), .pointer (some ⟨b, 13, none⟩), .string s] w fun e w' => e = .returned (.agg #[.int .i64 (authR A B ids T now).2, .int .u64 0, .slice none 0 0, .slice none 0 0]) ∧ WireAt w' b (.pointer (some ⟨c, 0, none⟩)) l m (lnOf (authR A B ids T now)) ∧ Kept (· ≠ b) w w' := by
 have hbl := (Array.getElem?_eq_some_iff.1 h).1
 obtain ⟨W, hW, hX, hB, hsz⟩ := boxes1 w #[.int .i64 0, .int .u64 0, .slice none 0 0, .slice none 0 0] 60
 have hM := message_any s fm ff hs W (fun V hV => hE V ((hB.trans (hV.mono hB.size)).mono (Nat.le_of_lt hbl)))
 rw [hq] at hM
 have HM := Lib.hid hM
 have HAu : Hid (∀ V, Below b w V → b ≤ V.heap.size → CR 16 #[.pointer (some ⟨c, 0, none⟩), .string T, .int .u64 now] V (clV (authR A B ids T now))) := fun V hV hbV => cAuth_any c A B ids T now fm ff V hTz (hE V hV) ((hC.below hV).mono hbV)
 obtain ⟨⟨⟨t, r, u⟩, er⟩, hr⟩ : ∃ x, authR A B ids T now = x := ⟨_, rfl⟩
 rw [hr] at HAu ⊢
 unfold clV at HAu
 dsimp only at HAu ⊢
 have HF : Hid (∀ V, Below W.heap.size W V → V.cell? ⟨b, 0, none⟩ = some (.pointer (some ⟨c, 0, none⟩)) ∧ V.heap[w.heap.size]? = some (.cells #[.int .i64 0, .int .u64 0, .slice none 0 0, .slice none 0 0] 60 (0, 0)) ∧ Below w.heap.size w V ∧ Below b w V ∧ b ≤ V.heap.size ∧ WireAt V b (.pointer (some ⟨c, 0, none⟩)) l m n ∧ b < w.heap.size) := fun V hV => by
  have h2 : Below w.heap.size w V := hB.trans (hV.mono hB.size)
  have h3 := h.go h2
  have := h2.size
  exact ⟨cCc h3 0, known hV (Nat.le_refl _) hX, h2, h2.mono (Nat.le_of_lt hbl), by omega, h3, hbl⟩
 obtain ⟨tn, rl, un, kn, cl, lf⟩ := n
 dsimp only at hc hl
 subst hc
 subst hl
 clear hM hE hq h hX hB hs hC hr hTz hbl
 go_enter Tryz.func38, Tryz.ntmps38
 go_wp2_with fail
 refine HM.out.mono ?_
 rintro e w1 ⟨rfl, hb⟩
 have hA1 : ∀ w, (Instr.typeAssert (.iface 150 (.agg #[.int .u64 now, .string T])) 147 150 true).run Tryz.prog w = .ok (.tuple #[.agg #[.int .u64 now, .string T], .bool true]) w := fun w => by kernel_rfl
 obtain ⟨V, hV, hVX, hBV, -⟩ := boxes1 w1 #[.int .u64 now, .string T] 150
 have hBWV : Below W.heap.size W V := hb.trans (hBV.mono hb.size)
 obtain ⟨D, hD⟩ : ∃ D, V.drew = D := ⟨_, rfl⟩
 have HD : Hid (V.drew = D) := hD
 have hWD : Below W.heap.size W D := by rw [← hD]; exact hBWV.drew
 have hmD : D.heap[w1.heap.size]? = some (.cells #[.int .u64 now, .string T] 150 (0, 0)) := by rw [← hD]; exact hVX
 have HD2 := Lib.hid hWD
 have HSm : Hid (∀ Y, Below D.heap.size D Y → (Y.cell? ⟨b, 0, none⟩ = some (.pointer (some ⟨c, 0, none⟩)) ∧ Y.cell? ⟨w1.heap.size, 0, none⟩ = some (.int .u64 now)) ∧ Y.cell? ⟨w1.heap.size, 1, none⟩ = some (.string T)) := fun Y hY =>
  ⟨⟨(HF.out Y (hWD.trans (hY.mono hWD.size))).1, cCc (known hY (Nat.le_refl _) hmD) 0⟩, cCc (known hY (Nat.le_refl _) hmD) 1⟩
 have HAn : Hid (∀ Y, Below D.heap.size D Y → CR 16 #[.pointer (some ⟨c, 0, none⟩), .string T, .int .u64 now] Y (.tuple #[.agg #[.int .u64 t, .int .i64 r, .int .u64 u], .int .i64 er])) := fun Y hY => by
  obtain ⟨-, -, -, h4, h5, -⟩ := HF.out Y (hWD.trans (hY.mono hWD.size))
  exact HAu.out Y h4 h5
 obtain ⟨⟨d0, d1⟩, d2⟩ := HSm.out D (Below.refl _ _)
 obtain ⟨v0, -⟩ := HF.out V hBWV
 obtain ⟨a0, a1⟩ := cl2 hVX
 clear hb hVX hBV hBWV hD hWD hmD HM
 go_wp2_with fail
 refine wp_region_held_drew (S := fun w' => (w'.cell? ⟨b, 0, none⟩ = some (.pointer (some ⟨c, 0, none⟩)) ∧ w'.cell? ⟨w1.heap.size, 0, none⟩ = some (.int .u64 now)) ∧ w'.cell? ⟨w1.heap.size, 1, none⟩ = some (.string T)) (by kernel_rfl) (by rw [HD.out]; exact ⟨⟨d0, d1⟩, d2⟩) (fun hS => ?_)
 rw [HD.out] at hS ⊢
 refine wpAnyH_take (i := 0) (v := ?_) rfl (by kernel_rfl) (by kernel_rfl) (by kernel_rfl) (fun _ _ _ h => h) (Or.inl ⟨by rfl, ?_⟩) (by assumption) ?_
 rotate_left
 ·intro w hSw; go_simp; with_reducible rfl
 refine wpAnyH_take (i := 1) (v := ?_) rfl (by kernel_rfl) (by kernel_rfl) (by kernel_rfl) (fun _ _ _ h => h) (Or.inl ⟨by rfl, ?_⟩) (by assumption) ?_
 rotate_left
 ·intro w hSw; go_simp; with_reducible rfl
 refine wpAnyH_take (i := 2) (v := ?_) rfl (by kernel_rfl) (by kernel_rfl) (by kernel_rfl) (fun _ _ _ h => h) (Or.inl ⟨by rfl, ?_⟩) (by assumption) ?_
 rotate_left
 ·intro w hSw; go_simp; with_reducible rfl
 refine wpAnyH_take (i := 3) (v := ?_) rfl (by kernel_rfl) (by kernel_rfl) (by kernel_rfl) (fun _ _ _ h => h) (Or.inl ⟨by rfl, ?_⟩) (by assumption) ?_
 rotate_left
 ·intro w hSw; go_split_ands; go_simp; with_reducible rfl
 refine wpAnyH_take (i := 4) (v := ?_) rfl (by kernel_rfl) (by kernel_rfl) (by kernel_rfl) (fun _ _ _ h => h) (Or.inl ⟨by rfl, ?_⟩) (by assumption) ?_
 rotate_left
 ·intro w hSw; go_simp; with_reducible rfl
 refine wpAnyH_take (i := 5) (v := ?_) rfl (by kernel_rfl) (by kernel_rfl) (by kernel_rfl) (fun _ _ _ h => h) (Or.inl ⟨by rfl, ?_⟩) (by assumption) ?_
 rotate_left
 ·intro w hSw; go_split_ands; go_simp; with_reducible rfl
 refine wpAnyH_take (i := 6) (v := ?_) rfl (by kernel_rfl) (by kernel_rfl) (by kernel_rfl) (fun _ _ _ h => h) (Or.inl ⟨by rfl, ?_⟩) (by assumption) ?_
 rotate_left
 ·intro w hSw; go_simp; with_reducible rfl
 refine wpAnyH_take (i := 7) (v := ?_) rfl (by kernel_rfl) (by kernel_rfl) (by kernel_rfl) (fun _ _ _ h => h) (Or.inl ⟨by rfl, ?_⟩) (by assumption) ?_
 rotate_left
 ·intro w hSw; go_split_ands; go_simp; with_reducible rfl
 refine wpAnyH_ready (rs := [8, 12]) (by kernel_rfl) (by simp) ?_
 refine AllReadyH.cons rfl (fun K hK => ?_) ?_
 ·go_simp
  refine (HAn.out D (Below.refl _ _)).mono ?_
  rintro e x1 ⟨rfl, hb⟩
  have HX1 : Hid (Below D.heap.size D x1) := hb
  clear hb
  refine hK.out _ _ ?_ (fun hS2 => ?_)
  ·exact HSm.out x1 HX1.out
  clear hK K hS
  have hS := hS2
  clear hS2
  refine wpAnyH_take (i := 9) (v := ?_) rfl (by kernel_rfl) (by kernel_rfl) (by kernel_rfl) (fun _ _ _ h => h) (Or.inl ⟨by rfl, ?_⟩) (by assumption) ?_
  rotate_left
  ·intro w hSw; go_simp; with_reducible rfl
  refine wpAnyH_take (i := 10) (v := ?_) rfl (by kernel_rfl) (by kernel_rfl) (by kernel_rfl) (fun _ _ _ h => h) (Or.inl ⟨by rfl, ?_⟩) (by assumption) ?_
  rotate_left
  ·intro w hSw; go_simp; with_reducible rfl
  refine wpAnyH_take (i := 11) (v := ?_) rfl (by kernel_rfl) (by kernel_rfl) (by kernel_rfl) (fun _ _ _ h => h) (Or.inl ⟨by rfl, ?_⟩) (by assumption) ?_
  rotate_left
  ·intro w hSw; go_simp; with_reducible rfl
  refine wpAnyH_ready (rs := [12]) (by kernel_rfl) (by simp) ?_
  refine AllReadyH.cons rfl (fun K hK => ?_) ?_
  ·obtain ⟨Y, hY, hYX, hBY, -⟩ := boxes1 x1 #[.int .u64 0, .int .i64 0, .int .u64 0] 34
   have HY : Hid (Below D.heap.size D Y) := HX1.out.trans (hBY.mono HX1.out.size)
   have HCY : Hid (Y.heap[x1.heap.size]? = some (.cells #[.int .u64 0, .int .i64 0, .int .u64 0] 34 (0, 0))) := hYX
   clear hYX hBY
   go_simp
   refine hK.out _ _ ?_ (fun hS2 => ?_)
   ·exact HSm.out Y HY.out
   clear hK K hS
   have hS := hS2
   clear hS2
   refine wpAnyH_ready (rs := [13]) (by kernel_rfl) (by simp) ?_
   refine AllReadyH.cons rfl (fun K hK => ?_) ?_
   ·have hCX := HCY.out
    obtain ⟨U, hU, hUX, hUB, -⟩ := stor3 (.int .u64 t) (.int .i64 r) (.int .u64 u) hCX HY.out (HX1.out.size)
    obtain ⟨f0, f1, f2⟩ := cz3 hCX
    obtain ⟨z0, z1, z2⟩ := cl3 hCX
    obtain ⟨y0, y1, y2⟩ := cl3 hUX
    have HU := Lib.hid hUB
    clear hCX hUX hUB
    go_simp
    refine hK.out _ _ ?_ (fun hS2 => ?_)
    ·exact HSm.out U HU.out
    clear hK K hS
    have hS := hS2
    clear hS2
    refine wpAnyH_ready (rs := [14]) (by kernel_rfl) (by simp) ?_
    refine AllReadyH.cons rfl (fun K hK => ?_) ?_
    ·go_simp
     refine hK.out _ _ ?_ (fun hS2 => ?_)
     ·exact hS
     clear hK K hS
     have hS := hS2
     clear hS2
     refine wpAnyH_done (by kernel_rfl) ?_ _
     clear hS
     obtain ⟨-, hRX, hBU, -, -, hWU, hbl⟩ := HF.out U (HD2.out.trans (HU.out.mono HD2.out.size))
     obtain ⟨g0, g1, g2, g3, g4, g5⟩ := hWU.at2
     have h0 : U.frozen? ⟨b, 13, none⟩ = false := cFz hWU 13
     obtain ⟨U1, hU1⟩ : ∃ X, U.setCell ⟨b, 13, none⟩ (.int .u64 t) = X := ⟨_, rfl⟩
     have hW1 : WireAt U1 b (.pointer (some ⟨c, 0, none⟩)) l m ⟨t, rl, un, kn, false, ⟨#[]⟩⟩ := by rw [← hU1]; exact hWU.set2 13 _ rfl
     have hK1 : Kept (· ≠ b) U U1 := by rw [← hU1]; exact Kept.refl.set (b := b) (fun _ h => h rfl) 13 _
     have q1 : U1.cell? ⟨b, 14, none⟩ = some (.int .i64 rl) := cCc hW1 14
     have h1 : U1.frozen? ⟨b, 14, none⟩ = false := cFz hW1 14
     obtain ⟨U2, hU2⟩ : ∃ X, U1.setCell ⟨b, 14, none⟩ (.int .i64 r) = X := ⟨_, rfl⟩
     have hW2 : WireAt U2 b (.pointer (some ⟨c, 0, none⟩)) l m ⟨t, r, un, kn, false, ⟨#[]⟩⟩ := by rw [← hU2]; exact hW1.set2 14 _ rfl
     have hK2 : Kept (· ≠ b) U U2 := by rw [← hU2]; exact hK1.set (b := b) (fun _ h => h rfl) 14 _
     have q2 : U2.cell? ⟨b, 15, none⟩ = some (.int .u64 un) := cCc hW2 15
     have h2 : U2.frozen? ⟨b, 15, none⟩ = false := cFz hW2 15
     obtain ⟨U3, hU3⟩ : ∃ X, U2.setCell ⟨b, 15, none⟩ (.int .u64 u) = X := ⟨_, rfl⟩
     have hW3 : WireAt U3 b (.pointer (some ⟨c, 0, none⟩)) l m ⟨t, r, u, kn, false, ⟨#[]⟩⟩ := by rw [← hU3]; exact hW2.set2 15 _ rfl
     have hK3 : Kept (· ≠ b) U U3 := by rw [← hU3]; exact hK2.set (b := b) (fun _ h => h rfl) 15 _
     have q3 : U3.cell? ⟨b, 16, none⟩ = some (.bool kn) := cCc hW3 16
     have h3 : U3.frozen? ⟨b, 16, none⟩ = false := cFz hW3 16
     obtain ⟨U4, hU4⟩ : ∃ X, U3.setCell ⟨b, 16, none⟩ (.bool (er == 0)) = X := ⟨_, rfl⟩
     have hW4 : WireAt U4 b (.pointer (some ⟨c, 0, none⟩)) l m ⟨t, r, u, er == 0, false, ⟨#[]⟩⟩ := by rw [← hU4]; exact hW3.set2 16 _ rfl
     have hK4 : Kept (· ≠ b) U U4 := by rw [← hU4]; exact hK3.set (b := b) (fun _ h => h rfl) 16 _
     have hR4 := hK4.known (show w.heap.size ≠ b from Nat.ne_of_gt hbl) hRX
     obtain ⟨n0, n1, n2, n3⟩ := cl4 hR4
     have n9 : U4.frozen? ⟨w.heap.size, 0, none⟩ = false := cFz hR4 0
     obtain ⟨V1, hV1⟩ : ∃ V1, U4.setCell ⟨w.heap.size, 0, none⟩ (.int .i64 er) = V1 := ⟨_, rfl⟩
     have hX1 : V1.heap[w.heap.size]? = some (.cells #[.int .i64 er, .int .u64 0, .slice none 0 0, .slice none 0 0] 60 (0, 0)) := by rw [← hV1]; exact hSk hR4 _
     obtain ⟨o0, o1, o2, o3⟩ := cl4 hX1
     have p1 : V1.frozen? ⟨w.heap.size, 1, none⟩ = false := cFz hX1 1
     have p2 : V1.frozen? ⟨w.heap.size, 2, none⟩ = false := cFz hX1 2
     have p3 : V1.frozen? ⟨w.heap.size, 3, none⟩ = false := cFz hX1 3
     have j1 : V1.setCell ⟨w.heap.size, 1, none⟩ (.int .u64 0) = V1 := set_same hX1 rfl
     have j2 : V1.setCell ⟨w.heap.size, 2, none⟩ (.slice none 0 0) = V1 := set_same hX1 rfl
     have j3 : V1.setCell ⟨w.heap.size, 3, none⟩ (.slice none 0 0) = V1 := set_same hX1 rfl
     have HFin : Hid (WireAt V1 b (.pointer (some ⟨c, 0, none⟩)) l m ⟨t, r, u, er == 0, false, ⟨#[]⟩⟩ ∧ Kept (· ≠ b) w V1) := by
      have hKV : Kept (fun k => k ≠ w.heap.size) U4 V1 := by rw [← hV1]; exact Kept.refl.set (b := w.heap.size) (fun _ h => h rfl) 0 _
      refine ⟨hKV.known (show b ≠ w.heap.size from Nat.ne_of_lt hbl) hW4, ?_⟩
      exact ⟨hKV.os.trans (hK4.os.trans hBU.os), hKV.tape.trans (hK4.tape.trans hBU.tape), hKV.output.trans (hK4.output.trans hBU.output), Nat.le_trans hBU.size (Nat.le_trans hK4.size hKV.size), fun k hk hq => (hKV.block k (Nat.lt_of_lt_of_le hk (Nat.le_trans hBU.size hK4.size)) (Nat.ne_of_lt hk)).trans ((hK4.block k (Nat.lt_of_lt_of_le hk hBU.size) hq).trans (hBU.block k hk))⟩
     clear hRX hBU hWU hbl hW1 hW2 hW3 hW4 hK1 hK2 hK3 hK4 hR4 hX1
     go_wp2_with fail
     exact bodyPost_ret (v := .agg #[.int .i64 er, .int .u64 0, .slice none 0 0, .slice none 0 0]) (by simp [results, Tryz.results38, go_sem, o0, o1, o2, o3]) rfl ⟨rfl, HFin.out⟩
    exact AllReadyH.nil
   exact AllReadyH.nil
  exact AllReadyH.nil
 refine AllReadyH.cons rfl (fun K hK => ?_) ?_
 ·obtain ⟨Y, hY, hYX, hBY, -⟩ := boxes1 D #[.int .u64 0, .int .i64 0, .int .u64 0] 34
  have HY : Hid (Below D.heap.size D Y) := hBY
  have HCY : Hid (Y.heap[D.heap.size]? = some (.cells #[.int .u64 0, .int .i64 0, .int .u64 0] 34 (0, 0))) := hYX
  clear hYX hBY
  go_simp
  refine hK.out _ _ ?_ (fun hS2 => ?_)
  ·exact HSm.out Y HY.out
  clear hK K hS
  have hS := hS2
  clear hS2
  refine wpAnyH_ready (rs := [8]) (by kernel_rfl) (by simp) ?_
  refine AllReadyH.cons rfl (fun K hK => ?_) ?_
  ·go_simp
   refine (HAn.out Y HY.out).mono ?_
   rintro e x1 ⟨rfl, hb⟩
   have HX1 : Hid (Below D.heap.size D x1) := HY.out.trans (hb.mono HY.out.size)
   have HCx : Hid (x1.heap[D.heap.size]? = some (.cells #[.int .u64 0, .int .i64 0, .int .u64 0] 34 (0, 0))) := known hb (Nat.le_refl _) HCY.out
   clear hb
   refine hK.out _ _ ?_ (fun hS2 => ?_)
   ·exact HSm.out x1 HX1.out
   clear hK K hS
   have hS := hS2
   clear hS2
   refine wpAnyH_take (i := 9) (v := ?_) rfl (by kernel_rfl) (by kernel_rfl) (by kernel_rfl) (fun _ _ _ h => h) (Or.inl ⟨by rfl, ?_⟩) (by assumption) ?_
   rotate_left
   ·intro w hSw; go_simp; with_reducible rfl
   refine wpAnyH_take (i := 10) (v := ?_) rfl (by kernel_rfl) (by kernel_rfl) (by kernel_rfl) (fun _ _ _ h => h) (Or.inl ⟨by rfl, ?_⟩) (by assumption) ?_
   rotate_left
   ·intro w hSw; go_simp; with_reducible rfl
   refine wpAnyH_take (i := 11) (v := ?_) rfl (by kernel_rfl) (by kernel_rfl) (by kernel_rfl) (fun _ _ _ h => h) (Or.inl ⟨by rfl, ?_⟩) (by assumption) ?_
   rotate_left
   ·intro w hSw; go_simp; with_reducible rfl
   refine wpAnyH_ready (rs := [13]) (by kernel_rfl) (by simp) ?_
   refine AllReadyH.cons rfl (fun K hK => ?_) ?_
   ·have hCX := HCx.out
    obtain ⟨U, hU, hUX, hUB, -⟩ := stor3 (.int .u64 t) (.int .i64 r) (.int .u64 u) hCX HX1.out (Nat.le_refl _)
    obtain ⟨f0, f1, f2⟩ := cz3 hCX
    obtain ⟨z0, z1, z2⟩ := cl3 hCX
    obtain ⟨y0, y1, y2⟩ := cl3 hUX
    have HU := Lib.hid hUB
    clear hCX hUX hUB
    go_simp
    refine hK.out _ _ ?_ (fun hS2 => ?_)
    ·exact HSm.out U HU.out
    clear hK K hS
    have hS := hS2
    clear hS2
    refine wpAnyH_ready (rs := [14]) (by kernel_rfl) (by simp) ?_
    refine AllReadyH.cons rfl (fun K hK => ?_) ?_
    ·go_simp
     refine hK.out _ _ ?_ (fun hS2 => ?_)
     ·exact hS
     clear hK K hS
     have hS := hS2
     clear hS2
     refine wpAnyH_done (by kernel_rfl) ?_ _
     clear hS
     obtain ⟨-, hRX, hBU, -, -, hWU, hbl⟩ := HF.out U (HD2.out.trans (HU.out.mono HD2.out.size))
     obtain ⟨g0, g1, g2, g3, g4, g5⟩ := hWU.at2
     have h0 : U.frozen? ⟨b, 13, none⟩ = false := cFz hWU 13
     obtain ⟨U1, hU1⟩ : ∃ X, U.setCell ⟨b, 13, none⟩ (.int .u64 t) = X := ⟨_, rfl⟩
     have hW1 : WireAt U1 b (.pointer (some ⟨c, 0, none⟩)) l m ⟨t, rl, un, kn, false, ⟨#[]⟩⟩ := by rw [← hU1]; exact hWU.set2 13 _ rfl
     have hK1 : Kept (· ≠ b) U U1 := by rw [← hU1]; exact Kept.refl.set (b := b) (fun _ h => h rfl) 13 _
     have q1 : U1.cell? ⟨b, 14, none⟩ = some (.int .i64 rl) := cCc hW1 14
     have h1 : U1.frozen? ⟨b, 14, none⟩ = false := cFz hW1 14
     obtain ⟨U2, hU2⟩ : ∃ X, U1.setCell ⟨b, 14, none⟩ (.int .i64 r) = X := ⟨_, rfl⟩
     have hW2 : WireAt U2 b (.pointer (some ⟨c, 0, none⟩)) l m ⟨t, r, un, kn, false, ⟨#[]⟩⟩ := by rw [← hU2]; exact hW1.set2 14 _ rfl
     have hK2 : Kept (· ≠ b) U U2 := by rw [← hU2]; exact hK1.set (b := b) (fun _ h => h rfl) 14 _
     have q2 : U2.cell? ⟨b, 15, none⟩ = some (.int .u64 un) := cCc hW2 15
     have h2 : U2.frozen? ⟨b, 15, none⟩ = false := cFz hW2 15
     obtain ⟨U3, hU3⟩ : ∃ X, U2.setCell ⟨b, 15, none⟩ (.int .u64 u) = X := ⟨_, rfl⟩
     have hW3 : WireAt U3 b (.pointer (some ⟨c, 0, none⟩)) l m ⟨t, r, u, kn, false, ⟨#[]⟩⟩ := by rw [← hU3]; exact hW2.set2 15 _ rfl
     have hK3 : Kept (· ≠ b) U U3 := by rw [← hU3]; exact hK2.set (b := b) (fun _ h => h rfl) 15 _
     have q3 : U3.cell? ⟨b, 16, none⟩ = some (.bool kn) := cCc hW3 16
     have h3 : U3.frozen? ⟨b, 16, none⟩ = false := cFz hW3 16
     obtain ⟨U4, hU4⟩ : ∃ X, U3.setCell ⟨b, 16, none⟩ (.bool (er == 0)) = X := ⟨_, rfl⟩
     have hW4 : WireAt U4 b (.pointer (some ⟨c, 0, none⟩)) l m ⟨t, r, u, er == 0, false, ⟨#[]⟩⟩ := by rw [← hU4]; exact hW3.set2 16 _ rfl
     have hK4 : Kept (· ≠ b) U U4 := by rw [← hU4]; exact hK3.set (b := b) (fun _ h => h rfl) 16 _
     have hR4 := hK4.known (show w.heap.size ≠ b from Nat.ne_of_gt hbl) hRX
     obtain ⟨n0, n1, n2, n3⟩ := cl4 hR4
     have n9 : U4.frozen? ⟨w.heap.size, 0, none⟩ = false := cFz hR4 0
     obtain ⟨V1, hV1⟩ : ∃ V1, U4.setCell ⟨w.heap.size, 0, none⟩ (.int .i64 er) = V1 := ⟨_, rfl⟩
     have hX1 : V1.heap[w.heap.size]? = some (.cells #[.int .i64 er, .int .u64 0, .slice none 0 0, .slice none 0 0] 60 (0, 0)) := by rw [← hV1]; exact hSk hR4 _
     obtain ⟨o0, o1, o2, o3⟩ := cl4 hX1
     have p1 : V1.frozen? ⟨w.heap.size, 1, none⟩ = false := cFz hX1 1
     have p2 : V1.frozen? ⟨w.heap.size, 2, none⟩ = false := cFz hX1 2
     have p3 : V1.frozen? ⟨w.heap.size, 3, none⟩ = false := cFz hX1 3
     have j1 : V1.setCell ⟨w.heap.size, 1, none⟩ (.int .u64 0) = V1 := set_same hX1 rfl
     have j2 : V1.setCell ⟨w.heap.size, 2, none⟩ (.slice none 0 0) = V1 := set_same hX1 rfl
     have j3 : V1.setCell ⟨w.heap.size, 3, none⟩ (.slice none 0 0) = V1 := set_same hX1 rfl
     have HFin : Hid (WireAt V1 b (.pointer (some ⟨c, 0, none⟩)) l m ⟨t, r, u, er == 0, false, ⟨#[]⟩⟩ ∧ Kept (· ≠ b) w V1) := by
      have hKV : Kept (fun k => k ≠ w.heap.size) U4 V1 := by rw [← hV1]; exact Kept.refl.set (b := w.heap.size) (fun _ h => h rfl) 0 _
      refine ⟨hKV.known (show b ≠ w.heap.size from Nat.ne_of_lt hbl) hW4, ?_⟩
      exact ⟨hKV.os.trans (hK4.os.trans hBU.os), hKV.tape.trans (hK4.tape.trans hBU.tape), hKV.output.trans (hK4.output.trans hBU.output), Nat.le_trans hBU.size (Nat.le_trans hK4.size hKV.size), fun k hk hq => (hKV.block k (Nat.lt_of_lt_of_le hk (Nat.le_trans hBU.size hK4.size)) (Nat.ne_of_lt hk)).trans ((hK4.block k (Nat.lt_of_lt_of_le hk hBU.size) hq).trans (hBU.block k hk))⟩
     clear hRX hBU hWU hbl hW1 hW2 hW3 hW4 hK1 hK2 hK3 hK4 hR4 hX1
     go_wp2_with fail
     exact bodyPost_ret (v := .agg #[.int .i64 er, .int .u64 0, .slice none 0 0, .slice none 0 0]) (by simp [results, Tryz.results38, go_sem, o0, o1, o2, o3]) rfl ⟨rfl, HFin.out⟩
    exact AllReadyH.nil
   exact AllReadyH.nil
  exact AllReadyH.nil
 exact AllReadyH.nil
end Go.Proofs.YtpklkhgnjbopnaaGreatDoor
namespace Go.Proofs.YtpklkhgnjbopnaaGreatDoor
open Go Go.RowKit Go.Shelf
theorem und_cfgs : Tryz.prog.underlying 42 = some (.slice 41) := by kernel_rfl
theorem take_cfgs (a : Option Addr) (len cap m : Nat) (w : World) (h : m ≤ cap) : (Instr.slice 42 (.slice a len cap) none (some (.int .i64 (m : Int))) none).run Tryz.prog w = .ok (.slice a m cap) w := by
 have hz := dropA_zero a cap 3
 unfold dropA at hz
 have hs : (sizeOf 41).run Tryz.prog w = .ok 3 w := by kernel_rfl
 have he : Tryz.prog.elem 42 = 41 := by kernel_rfl
 rw [run_slice_h (t := 42) (a := a) (len := len) (cap := cap) (w := w) (ht := by rw [he]; exact und_cfgs) (kh := .i64) (h := (m : Int)) (by omega) (by omega), he, hs]
 simp only [Result.andThen, sliced, Int.toNat_natCast, Nat.sub_zero, hz]
theorem eg_claim : Tryz.prog.eqGuardType Tryz.prog.depth 34 = false := by kernel_rfl
theorem eq_claim (x1 x2 x3 y1 y2 y3 : Int) (w : World) : (binOp .eql 34 (.agg #[.int .u64 x1, .int .i64 x2, .int .u64 x3]) (.agg #[.int .u64 y1, .int .i64 y2, .int .u64 y3])).run Tryz.prog w = .ok (.bool (x1 == y1 && (x2 == y2 && x3 == y3))) w := by
 have h1 : Tryz.prog.underlying 34 = some (.struct (Tryz.prog.fieldsOf 34)) := by kernel_rfl
 have h2 : Tryz.prog.stoodInHeld 34 = false := by kernel_rfl
 have h3 : (Tryz.prog.fieldsOf 34).toList = [{ name := "Tenant", type := 22, offset := 0, embedded := false, tag := "", pkgPath := "", byteOffset := 0 }, { name := "Role", type := 3, offset := 1, embedded := false, tag := "", pkgPath := "", byteOffset := 8 }, { name := "Until", type := 22, offset := 2, embedded := false, tag := "", pkgPath := "", byteOffset := 16 }] := by kernel_rfl
 rw [run_eql_struct, run_equalIn_agg w 9999 _ _ _ h1 h2, h3]
 cases ha : (x1 == y1) <;> cases hb : (x2 == y2) <;> cases hc : (x3 == y3) <;> simp [go_sem, ha, hb, hc, Tryz.underlying3, Tryz.underlying22]
theorem auth_mint (A B : Int) (ids : List Int) (tn rl un now : Int) (hi : tn ∈ ids) (ht : U64 tn) (hu : U64 un) (h1 : 1 ≤ rl) (h3 : rl ≤ 3) : authR A B ids (mintT (keyC A B tn).1 (keyC A B tn).2 tn rl un) now = if un < now then ((0, 0, 0), 171) else ((tn, rl, un), 0) := by
 unfold authR
 rw [tBody_mint _ _ tn rl un ht hu h1 h3]
 dsimp only
 rw [if_pos hi]
 exact chkR_mint _ _ tn rl un now ht hu h1 h3
theorem mintT_size (A B tn rl un : Int) : (mintT A B tn rl un).size ≤ 35 := by
 have := bodyB_size tn rl un
 unfold mintT
 rw [ByteArray.size_append, tokSum_size]
 omega
theorem auth_minted (A B : Int) (ids : List Int) (tn rl un now : Int) (ht : U64 tn) (hu : U64 un) : ∃ T er c1 e1, cMintR A B ids tn rl un = (T, er) ∧ T.size ≤ 200 ∧ authR A B ids T now = (c1, e1) ∧ ((er = 0 ∧ ((un < now ∧ c1 = (0, 0, 0) ∧ e1 = 171) ∨ (now ≤ un ∧ c1 = (tn, rl, un) ∧ e1 = 0))) ∨ (er = 170 ∧ c1 = (0, 0, 0) ∧ e1 = 170)) := by
 unfold cMintR
 by_cases h : tn ∈ ids ∧ 1 ≤ rl ∧ rl ≤ 3
 ·have hm := mintT_size (keyC A B tn).1 (keyC A B tn).2 tn rl un
  rw [if_pos h]
  by_cases h2 : un < now
  ·exact ⟨_, _, _, _, rfl, by omega, (auth_mint A B ids tn rl un now h.1 ht hu h.2.1 h.2.2).trans (if_pos h2), .inl ⟨rfl, .inl ⟨h2, rfl, rfl⟩⟩⟩
  ·exact ⟨_, _, _, _, rfl, by omega, (auth_mint A B ids tn rl un now h.1 ht hu h.2.1 h.2.2).trans (if_neg h2), .inl ⟨rfl, .inr ⟨by omega, rfl, rfl⟩⟩⟩
 ·rw [if_neg h]
  exact ⟨_, _, (0, 0, 0), 170, rfl, by decide, rfl, .inr ⟨rfl, rfl, rfl⟩⟩
theorem Feed_hello2 (b c : Nat) (A B : Int) (ids : List Int) (l m n : Ln) (now : Int) (T : ByteArray) (fm ff : Addr) (w : World) (hT : T.size ≤ 200) (hn : U64 now) (hE : ∀ V, Below b w V → GF fm ff V) (hG : ∀ V, Below b w V → Fr.GT V) (hC : CollAt c A B ids b w) (h : WireAt w b (.pointer (some ⟨c, 0, none⟩)) l m n) (hc : n.closed = false) (hl : n.left = ⟨#[]⟩) :
  Calls Tryz.prog 8 #[.pointer (some ⟨b, 0, none⟩), .int .i64 2, .string ⟨(mkF (helB now T)).toArray⟩] w fun e w' => (∃ t, e = .returned (.tuple #[.string t, .int .i64 0])) ∧ WireAt w' b (.pointer (some ⟨c, 0, none⟩)) l m (lnOf (authR A B ids T now)) ∧ Kept (· ≠ b) w w' := by
 have hbl := (Array.getElem?_eq_some_iff.1 h).1
 have hlen := helB_len now (tok := T) (by omega)
 have hmk : (mkF (helB now T)).length ≤ 3000 := by
  have h2 := (numsB_one_len ((helB now T).length : Int)).2
  unfold mkF
  simp only [List.length_cons, List.length_append, fourB_len]
  omega
 have hF : Frames (mkF (helB now T)) [helB now T] [] 20 := by
  have e := rdF_mk (l := helB now T) (fun e => by rw [e] at hlen; exact absurd hlen.1 (by decide)) hlen.2 []
  rw [List.append_nil] at e
  exact .step e (.stop rfl)
 have hr := authR_range A B ids T now
 refine Feed_one2 b (.pointer (some ⟨c, 0, none⟩)) l m n (lnOf (authR A B ids T now)) ⟨(mkF (helB now T)).toArray⟩ (helB now T) (authR A B ids T now).2 fm ff w (by rw [str_size]; omega) (hE w (Below.refl _ _)) (hG w (Below.refl _ _)) hF h hc hl rfl rfl (by omega) (by omega) ?_
 intro V hV hK
 have hbV := keptBelow hK (Nat.le_of_lt hbl)
 exact answer_hello2 b c A B ids l m n ⟨(helB now T).toArray⟩ now T fm ff V (by rw [str_size]; omega) (by omega) (fun U hU => hE U (hbV.trans hU)) (hC.below hbV) (msgOf_hel hn (by omega)) hV hc hl
theorem who_lnOf (r : (Int × Int × Int) × Int) (h : r.2 ≠ 0 → r.1 = (0, 0, 0)) : (if (lnOf r).known then (lnOf r).tnt else 0) = r.1.1 ∧ (if (lnOf r).known then (lnOf r).role else 0) = r.1.2.1 ∧ (if (lnOf r).known then (lnOf r).till else 0) = r.1.2.2 := by
 obtain ⟨⟨t, x, u⟩, e⟩ := r
 unfold lnOf
 dsimp only at h ⊢
 by_cases h0 : e = 0
 ·subst h0
  exact ⟨rfl, rfl, rfl⟩
 ·have h1 := h h0
  cases h1
  have h2 : (e == 0) = false := beq_eq_false_iff_ne.2 h0
  rw [h2]
  exact ⟨rfl, rfl, rfl⟩
theorem who_hello (b c : Nat) (l m : Ln) (r : (Int × Int × Int) × Int) (h : r.2 ≠ 0 → r.1 = (0, 0, 0)) (w : World) (hW : WireAt w b (.pointer (some ⟨c, 0, none⟩)) l m (lnOf r)) :
  CR 10 #[.pointer (some ⟨b, 0, none⟩), .int .i64 2] w (.tuple #[.agg #[.int .u64 r.1.1, .int .i64 r.1.2.1, .int .u64 r.1.2.2], .bool (r.2 == 0)]) := by
 have h1 := Who2_any b _ l m (lnOf r) w hW rfl
 obtain ⟨e1, e2, e3⟩ := who_lnOf r h
 rw [e1, e2, e3] at h1
 exact h1
set_option maxRecDepth 100000 in
set_option maxHeartbeats 8000000 in
theorem wireHello_any (A B : Int) (l : List Cfg) (a : Option Addr) (len cap : Nat) (tn rl un now : Int) (s : ByteArray) (fm ff : Addr) (w : World) (_hA : U64 A) (_hB2 : U64 B) (hT : SlC encC 3 w.heap.size w a len cap l) (hU : ∀ i ∈ l, Cfg.ok i) (ht : U64 tn) (_hr : I64 rl) (hu : U64 un) (hn : U64 now) (hE : GF fm ff w) (hG : Fr.GT w) :
  Calls Tryz.prog 4 #[.agg #[.int .u64 A, .int .u64 B], .slice a len cap, .agg #[.int .u64 tn, .int .i64 rl, .int .u64 un], .int .u64 now, .string s] w fun e w' => e = .returned (.bool true) ∧ Below w.heap.size w w' := by
 obtain ⟨W, hW, hX, hY, hB, -⟩ := boxes2 w #[.int .u64 A, .int .u64 B] 24 #[.int .u64 tn, .int .i64 rl, .int .u64 un] 34
 obtain ⟨k0, k1⟩ := cl2 hX
 have HSh := Lib.hid (shown20_any fm ff W (hE.below hB) (hG.go hB))
 have hll := hT.1.1
 obtain ⟨m, hm⟩ : ∃ m : Nat, min len 10 = m := ⟨_, rfl⟩
 have em : min (len : Int) 10 = (m : Int) := by omega
 have hcap := hT.2.1
 have tk := fun V => take_cfgs a len cap m V (by omega)
 have hS : SlE encC 3 w.heap.size w a m (l.take m) := hT.1.take m (by omega)
 have HC : Hid (∀ V, Below W.heap.size W V → Calls Tryz.prog 13 #[.agg #[.int .u64 A, .int .u64 B], .slice a m cap] V (NewPost A B (l.take m) V)) := fun V hV => collNew_any A B (l.take m) a m cap V ((hS.below (hB.trans (hV.mono hB.size))).mono (Nat.le_trans hB.size hV.size)) (fun x hx => (hU x (List.mem_of_mem_take hx)).1) (by omega)
 have HK : Hid (∀ V, Below W.heap.size W V → (V.cell? ⟨w.heap.size, 0, none⟩ = some (.int .u64 A) ∧ V.cell? ⟨w.heap.size, 1, none⟩ = some (.int .u64 B)) ∧ V.cell? ⟨w.heap.size + 1, 0, none⟩ = some (.int .u64 tn) ∧ V.cell? ⟨w.heap.size + 1, 1, none⟩ = some (.int .i64 rl) ∧ V.cell? ⟨w.heap.size + 1, 2, none⟩ = some (.int .u64 un)) := fun V hV => by
  have y := known hV (Nat.le_refl _) hX
  have z := known hV (Nat.le_refl _) hY
  exact ⟨⟨cCc y 0, cCc y 1⟩, cCc z 0, cCc z 1, cCc z 2⟩
 have HEW : Hid (GF fm ff W ∧ Fr.GT W) := ⟨hE.below hB, hG.go hB⟩
 have HBW := Lib.hid hB
 obtain ⟨ids, hids⟩ : ∃ ids, (l.take m).map Cfg.id = ids := ⟨_, rfl⟩
 obtain ⟨T, er, c1, e1, hM, hTs, hAu, hcs⟩ := auth_minted A B ids tn rl un now ht hu
 have hsm : (min (s.size : Int) 200).toNat = min s.size 200 := by omega
 obtain ⟨S, hS2⟩ : ∃ S, s.extract 0 (min s.size 200) = S := ⟨_, rfl⟩
 have hSz : S.size ≤ 200 := by rw [← hS2, ByteArray.size_extract]; omega
 have HMi : Hid (∀ c V, CollAt c A B ids V.heap.size V → CR 14 #[.pointer (some ⟨c, 0, none⟩), .agg #[.int .u64 tn, .int .i64 rl, .int .u64 un]] V (.tuple #[.string T, .int .i64 er])) := fun c V h => by
  have := cMint_any c A B ids tn rl un V h ht hu
  rwa [hM] at this
 have HH1 := Lib.hid fun V => Hello_ok now T hn (by omega) V
 have HH2 := Lib.hid fun V => Hello_ok now S hn (by omega) V
 obtain ⟨⟨⟨y1, y2, y3⟩, j⟩, hAy⟩ : ∃ x, authR A B ids S now = x := ⟨_, rfl⟩
 have hry := authR_range A B ids S now
 rw [hAy] at hry
 dsimp only at hry
 have HAy : Hid (∀ c V, GF fm ff V → CollAt c A B ids V.heap.size V → CR 16 #[.pointer (some ⟨c, 0, none⟩), .string S, .int .u64 now] V (.tuple #[.agg #[.int .u64 y1, .int .i64 y2, .int .u64 y3], .int .i64 j])) := fun c V hE h => by
  have := cAuth_any c A B ids S now fm ff V (by omega) hE h
  rwa [hAy] at this
 have HF1 := Lib.hid fun b c l m n w => Feed_hello2 b c A B ids l m n now T fm ff w hTs hn
 have HF2 := Lib.hid fun b c l m n w => Feed_hello2 b c A B ids l m n now S fm ff w hSz hn
 rw [hAu] at HF1
 rw [hAy] at HF2
 have HTs := Lib.hid hTs
 have HSz := Lib.hid hSz
 have HCS := Lib.hid hcs
 have HRY := Lib.hid hry
 have HIds : Hid ((l.take m).map Cfg.id = ids) := hids
 obtain ⟨GT1, hGT1⟩ : ∃ X, mkF (helB now T) = X := ⟨_, rfl⟩
 obtain ⟨GS1, hGS1⟩ : ∃ X, mkF (helB now S) = X := ⟨_, rfl⟩
 rw [hGT1] at HH1 HF1
 rw [hGS1] at HH2 HF2
 clear hX hY hB hE hG _hA _hB2 hT hU ht _hr hu hn hll hm hcap hS hM hTs hAu hcs hSz hAy hry hids hGT1 hGS1
 go_enter Tryz.func4, Tryz.ntmps4
 go_wp2_with fail
 refine HSh.out.mono ?_
 rintro e w1 ⟨rfl, hb⟩
 have HB1 := Lib.hid hb
 have HC1 := Lib.hid (HC.out w1 hb)
 obtain ⟨⟨g0, g1⟩, -⟩ := HK.out w1 hb
 clear hb k0 k1 HSh
 go_wp2_with fail
 refine HC1.out.mono ?_
 rintro e w2 ⟨rfl | ⟨c, rfl, hcl⟩, hb2⟩
 ·have HB2 : Hid (Below w.heap.size w w2) := HBW.out.trans ((HB1.out.trans (hb2.mono HB1.out.size)).mono HBW.out.size)
  have HN := Lib.hid (wireNew_nil w2)
  clear hb2 g0 g1
  go_wp2_with fail
  refine HN.out.mono ?_
  rintro e w3 ⟨rfl, hb3⟩
  have HB3 : Hid (Below w.heap.size w w3) := HB2.out.trans (hb3.mono HB2.out.size)
  clear hb3
  go_wp2_with fail
  go_ret
  exact ⟨rfl, HB3.out⟩
 ·have HB2 : Hid (Below W.heap.size W w2) := HB1.out.trans (hb2.mono HB1.out.size)
  have hcl2 : CollAt c A B ids w2.heap.size w2 := by rw [← HIds.out]; exact hcl
  have HCL := Lib.hid hcl2
  have HN := Lib.hid (wireNew_any ⟨c, 0, none⟩ w2)
  clear hb2 hcl hcl2 g0 g1
  go_wp2_with fail
  refine HN.out.mono ?_
  rintro e w3 ⟨rfl, hWA, hb3⟩
  have HB3 := Lib.hid hb3
  have HWA := Lib.hid hWA
  have HBW3 : Hid (Below W.heap.size W w3) := HB2.out.trans (hb3.mono HB2.out.size)
  have HM1 := Lib.hid (HMi.out c w3 ((HCL.out.below hb3).mono hb3.size))
  obtain ⟨⟨k0, k1⟩, x0, x1, x2⟩ := HK.out w3 HBW3.out
  clear hb3 hWA
  go_wp2_with fail
  refine HM1.out.mono ?_
  rintro e w4 ⟨rfl, hb⟩
  have HB4 : Hid (Below w3.heap.size w3 w4) := hb
  clear hb
  go_wp2_with fail
  refine (HH1.out _).mono ?_
  rintro e w5 ⟨rfl, hb⟩
  have HB5 : Hid (Below w3.heap.size w3 w5) := HB4.out.trans (hb.mono HB4.out.size)
  clear hb
  go_wp2_with fail
  refine (HH2.out _).mono ?_
  rintro e w6 ⟨rfl, hb⟩
  have HB6 : Hid (Below w3.heap.size w3 w6) := HB5.out.trans (hb.mono HB5.out.size)
  have HQ : Hid (∀ V, Below w2.heap.size w2 V → GF fm ff V ∧ Fr.GT V ∧ CollAt c A B ids w2.heap.size V) := fun V hV => by
   have h2 := HB2.out.trans (hV.mono HB2.out.size)
   exact ⟨HEW.out.1.below h2, HEW.out.2.go h2, HCL.out.below hV⟩
  have hb6 : Below w2.heap.size w2 w6 := HB3.out.trans (HB6.out.mono HB3.out.size)
  have HA6 := Lib.hid (HAy.out c w6 (HQ.out w6 hb6).1 ((HQ.out w6 hb6).2.2.mono hb6.size))
  clear hb hb6
  go_wp2_with fail
  refine HA6.out.mono ?_
  rintro e w7 ⟨rfl, hb⟩
  have hb7 : Below w3.heap.size w3 w7 := HB6.out.trans (hb.mono HB6.out.size)
  obtain ⟨w8, hw8, hX8, hB8, -⟩ := boxes1 w7 #[.int .u64 y1, .int .i64 y2, .int .u64 y3] 34
  have hb8 : Below w3.heap.size w3 w8 := hb7.trans (hB8.mono hb7.size)
  have hb28 : Below w2.heap.size w2 w8 := HB3.out.trans (hb8.mono HB3.out.size)
  have hWA8 : WireAt w8 w2.heap.size (.pointer (some ⟨c, 0, none⟩)) ln0 ln0 ln0 := HWA.out.go hb8
  have HF1' := Lib.hid (HF1.out w2.heap.size c ln0 ln0 ln0 w8 (fun V hV => (HQ.out V (hb28.trans hV)).1) (fun V hV => (HQ.out V (hb28.trans hV)).2.1) (HQ.out w8 hb28).2.2 hWA8 rfl rfl)
  have HB28 := Lib.hid hb28
  have HX8 := Lib.hid hX8
  have HYB : Hid (w2.heap.size < w7.heap.size) := by
   have h1 := (Array.getElem?_eq_some_iff.1 HWA.out).1
   have h2 := hb7.size
   rw [Hid]
   omega
  clear hb hb7 hX8 hB8 hb8 hb28 hWA8
  go_wp2_with fail
  refine HF1'.out.mono ?_
  rintro e w9 ⟨⟨_, rfl⟩, hWA9, hK9⟩
  have HK9 := Lib.hid hK9
  have HB29 : Hid (Below w2.heap.size w2 w9) := HB28.out.trans (keptBelow hK9 HB28.out.size)
  have HX9 : Hid (w9.heap[w7.heap.size]? = some (.cells #[.int .u64 y1, .int .i64 y2, .int .u64 y3] 34 (0, 0))) := hK9.known (Nat.ne_of_gt HYB.out) HX8.out
  have HWA9 := Lib.hid hWA9
  have HW1 := Lib.hid (who_hello w2.heap.size c ln0 ln0 (c1, e1) (by
   intro h
   rcases HCS.out with ⟨-, ⟨-, h1, -⟩ | ⟨-, -, h1⟩⟩ | ⟨-, h1, -⟩
   ·exact h1
   ·exact absurd h1 h
   ·exact h1) w9 hWA9)
  clear hK9 hWA9
  go_wp2_with fail
  refine HW1.out.mono ?_
  rintro e w10 ⟨rfl, hb⟩
  obtain ⟨⟨a1, a2, a3⟩, ha⟩ : ∃ x, c1 = x := ⟨_, rfl⟩
  subst ha
  dsimp only
  obtain ⟨w11, hw11, hX11, hB11, -⟩ := boxes1 w10 #[.int .u64 a1, .int .i64 a2, .int .u64 a3] 34
  have hb9 : Below w9.heap.size w9 w11 := hb.trans (hB11.mono hb.size)
  have hb211 : Below w2.heap.size w2 w11 := HB29.out.trans (hb9.mono HB29.out.size)
  have HF2' := Lib.hid (HF2.out w2.heap.size c ln0 ln0 (lnOf ((a1, a2, a3), e1)) w11 (fun V hV => (HQ.out V (hb211.trans hV)).1) (fun V hV => (HQ.out V (hb211.trans hV)).2.1) (HQ.out w11 hb211).2.2 (HWA9.out.go hb9) rfl rfl)
  have HB211 := Lib.hid hb211
  have HX11 := Lib.hid (And.intro hX11 (known hb9 (Nat.le_refl _) HX9.out))
  have HAB : Hid (w2.heap.size < w10.heap.size) := by
   have h1 := (Array.getElem?_eq_some_iff.1 HX9.out).1
   have h2 := hb.size
   have h3 := HYB.out
   rw [Hid]
   omega
  clear hb hX11 hB11 hb9 hb211
  go_wp2_with fail
  refine HF2'.out.mono ?_
  rintro e w12 ⟨⟨_, rfl⟩, hWA12, hK12⟩
  have HB212 : Hid (Below w2.heap.size w2 w12) := HB211.out.trans (keptBelow hK12 HB211.out.size)
  have HX12 : Hid (w12.heap[w10.heap.size]? = some (.cells #[.int .u64 a1, .int .i64 a2, .int .u64 a3] 34 (0, 0)) ∧ w12.heap[w7.heap.size]? = some (.cells #[.int .u64 y1, .int .i64 y2, .int .u64 y3] 34 (0, 0))) := ⟨hK12.known (Nat.ne_of_gt HAB.out) HX11.out.1, hK12.known (Nat.ne_of_gt HYB.out) HX11.out.2⟩
  have HWA12 := Lib.hid hWA12
  have HW2 := Lib.hid (who_hello w2.heap.size c ln0 ln0 ((y1, y2, y3), j) HRY.out.2 w12 hWA12)
  clear hK12 hWA12
  go_wp2_with fail
  refine HW2.out.mono ?_
  rintro e w13 ⟨rfl, hb⟩
  dsimp only
  obtain ⟨w14, hw14, hX14, hB14, -⟩ := boxes1 w13 #[.int .u64 y1, .int .i64 y2, .int .u64 y3] 34
  have hb12 : Below w12.heap.size w12 w14 := hb.trans (hB14.mono hb.size)
  have hb214 : Below w2.heap.size w2 w14 := HB212.out.trans (hb12.mono HB212.out.size)
  have ha14 := known hb12 (Nat.le_refl _) HX12.out.1
  have hy14 := known hb12 (Nat.le_refl _) HX12.out.2
  have hWA14 := HWA12.out.go hb12
  have HO := Lib.hid (open2 w2.heap.size _ _ _ _ w14 hWA14)
  obtain ⟨-, m0, m1, m2⟩ := HK.out w14 (HB2.out.trans (hb214.mono HB2.out.size))
  obtain ⟨aa0, aa1, aa2⟩ := cl3 ha14
  obtain ⟨yy0, yy1, yy2⟩ := cl3 hy14
  obtain ⟨bb0, bb1, bb2⟩ := cl3 hX14
  have HBF : Hid (Below w.heap.size w w14) := HBW.out.trans ((HB2.out.trans (hb214.mono HB2.out.size)).mono HBW.out.size)
  have n0 := eg_claim
  have n1 : ∀ w, (binOp .eql 34 (.agg #[.int .u64 y1, .int .i64 y2, .int .u64 y3]) (.agg #[.int .u64 y1, .int .i64 y2, .int .u64 y3])).run Tryz.prog w = .ok (.bool true) w := fun w => by rw [eq_claim]; simp
  have n3 : ((j == 0) == (j == 0)) = true := beq_self_eq_true _
  have hcs := HCS.out
  clear hb hB14 hb12 hb214 ha14 hy14 hX14 hWA14 k0 k1 x0 x1 x2
  rcases hcs with ⟨rfl, ⟨h1, h2, rfl⟩ | ⟨h1, h2, rfl⟩⟩ | ⟨rfl, h2, rfl⟩
  ·cases h2
   have g1 : ¬ now ≤ un := by omega
   clear h1
   go_wp2_with fail
   refine HO.out.mono ?_
   rintro e w15 ⟨rfl, hb⟩
   have HB15 : Hid (Below w.heap.size w w15) := HBF.out.trans (hb.mono HBF.out.size)
   clear hb
   go_wp2_with fail
   go_ret
   exact ⟨rfl, HB15.out⟩
  ·cases h2
   have n2 : ∀ w, (binOp .eql 34 (.agg #[.int .u64 tn, .int .i64 rl, .int .u64 un]) (.agg #[.int .u64 tn, .int .i64 rl, .int .u64 un])).run Tryz.prog w = .ok (.bool true) w := fun w => by rw [eq_claim]; simp
   go_wp2_with fail
   refine HO.out.mono ?_
   rintro e w15 ⟨rfl, hb⟩
   have HB15 : Hid (Below w.heap.size w w15) := HBF.out.trans (hb.mono HBF.out.size)
   clear hb
   go_wp2_with fail
   go_ret
   exact ⟨rfl, HB15.out⟩
  ·cases h2
   go_wp2_with fail
   go_ret
   exact ⟨rfl, HBF.out⟩
end Go.Proofs.YtpklkhgnjbopnaaGreatDoor
