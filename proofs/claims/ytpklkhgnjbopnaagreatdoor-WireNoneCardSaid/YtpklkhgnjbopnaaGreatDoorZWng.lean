/- References: aviaryref01.Child, aviaryref19.Key, whatever they are. Printed by gen_wnd.py. References: aviaryref15.New, aviaryref18.New. Printed by gen_wne.py. References: aviaryref19.at where there is none, New of one config. Printed by gen_wnf.py. Law WireNone. -/
import Derived.Test.YtpklkhgnjbopnaaGreatDoorZWna
import Derived.Test.YtpklkhgnjbopnaaGreatDoorZWsh
import Derived.Test.YtpklkhgnjbopnaaGreatDoorZWnc
namespace Go.Proofs.YtpklkhgnjbopnaaGreatDoor
open Go Go.RowKit Go.Shelf
set_option maxRecDepth 100000 in
set_option maxHeartbeats 4000000 in
theorem Child01_some (A B : Int) (s : ByteArray) (w : World) (hA : U64 A) (hB : U64 B) (hs : s.size < 4294967280) : Calls Tryz.prog 109 #[.agg #[.int .u64 A, .int .u64 B], .string s] w fun e w' => ∃ a b, e = .returned (.agg #[.int .u64 a, .int .u64 b]) ∧ Below w.heap.size w w' := by
 have hl : ¬ 9223372036854775807 < 1 + s.size := by omega
 have HS0 := Lib.hid fun V => ref01_Sum_some A B ((⟨#[0]⟩ : ByteArray) ++ s) V hA hB (by rw [ByteArray.size_append]; show 1 + s.size < _; omega)
 have HS1 := Lib.hid fun V => ref01_Sum_some A B ((⟨#[1]⟩ : ByteArray) ++ s) V hA hB (by rw [ByteArray.size_append]; show 1 + s.size < _; omega)
 obtain ⟨W, hW, hX0, hX1, hB0, hs0⟩ := boxes2 w #[.int .u64 A, .int .u64 B] 24 #[.int .u64 0, .int .u64 0] 24
 obtain ⟨D, hD⟩ : ∃ D, W.drew = D := ⟨_, rfl⟩
 have hBD : Below w.heap.size w D := by rw [← hD]; exact hB0.drew
 have hXD0 : D.heap[w.heap.size]? = some (.cells #[.int .u64 A, .int .u64 B] 24 (0, 0)) := by rw [← hD]; exact hX0
 have hXD1 : D.heap[w.heap.size + 1]? = some (.cells #[.int .u64 0, .int .u64 0] 24 (0, 0)) := by rw [← hD]; exact hX1
 have HF : Hid (∀ V, Below D.heap.size D V → V.cell? ⟨w.heap.size, 0, none⟩ = some (.int .u64 A) ∧ V.cell? ⟨w.heap.size, 1, none⟩ = some (.int .u64 B)) := fun V hV => by
  have y0 := known hV (Nat.le_refl _) hXD0
  exact ⟨cCc y0 0, cCc y0 1⟩
 have HG : Hid (∀ V, Below D.heap.size D V → ∀ S0 S1 : Int, ∃ U, (V.setCell ⟨w.heap.size + 1, 0, none⟩ (.int .u64 S0)).setCell ⟨w.heap.size + 1, 1, none⟩ (.int .u64 S1) = U ∧ (V.cell? ⟨w.heap.size + 1, 0, none⟩ = some (.int .u64 0) ∧ V.frozen? ⟨w.heap.size + 1, 0, none⟩ = false) ∧
   ((V.setCell ⟨w.heap.size + 1, 0, none⟩ (.int .u64 S0)).cell? ⟨w.heap.size + 1, 1, none⟩ = some (.int .u64 0) ∧ (V.setCell ⟨w.heap.size + 1, 0, none⟩ (.int .u64 S0)).frozen? ⟨w.heap.size + 1, 1, none⟩ = false) ∧
   (U.cell? ⟨w.heap.size + 1, 0, none⟩ = some (.int .u64 S0) ∧ U.cell? ⟨w.heap.size + 1, 1, none⟩ = some (.int .u64 S1)) ∧ (U.cell? ⟨w.heap.size, 0, none⟩ = some (.int .u64 A) ∧ U.cell? ⟨w.heap.size, 1, none⟩ = some (.int .u64 B)) ∧ Hid (Below w.heap.size w U)) := fun V hV S0 S1 => by
  have y0 := known hV (Nat.le_refl _) hXD0
  have y1 := known hV (Nat.le_refl _) hXD1
  have y2 := hSk y1 (i := 0) (.int .u64 S0)
  have y3 := hSk y2 (i := 1) (.int .u64 S1)
  have y4 := (Below.heap_setCell (V.setCell ⟨w.heap.size + 1, 0, none⟩ (.int .u64 S0)) ⟨w.heap.size + 1, 1, none⟩ (.int .u64 S1) w.heap.size (by show w.heap.size ≠ w.heap.size + 1; omega)).trans ((Below.heap_setCell V ⟨w.heap.size + 1, 0, none⟩ (.int .u64 S0) w.heap.size (by show w.heap.size ≠ w.heap.size + 1; omega)).trans y0)
  exact ⟨_, rfl, ⟨cCc y1 0, cFz y1 0⟩, ⟨cCc y2 1, cFz y2 1⟩, ⟨cCc y3 0, cCc y3 1⟩, ⟨cCc y4 0, cCc y4 1⟩, ((hBD.trans (hV.mono hBD.size)).setCell (p := ⟨w.heap.size + 1, 0, none⟩) (Nat.le_succ _) _).setCell (p := ⟨w.heap.size + 1, 1, none⟩) (Nat.le_succ _) _⟩
 have HD := Lib.hid hD
 clear hX0 hX1 hB0 hs0 hD hBD hXD0 hXD1
 go_enter Tryz.func109, Tryz.ntmps109
 go_wp2_with fail
 refine wp_region_held_drew (S := fun w' => w'.cell? ⟨w.heap.size, 0, none⟩ = some (.int .u64 A) ∧ w'.cell? ⟨w.heap.size, 1, none⟩ = some (.int .u64 B)) (by kernel_rfl) (by rw [HD.out]; exact HF.out D (Below.refl _ _)) (fun hS => ?_)
 rw [HD.out] at hS ⊢
 refine wpAnyH_take (i := 0) (v := ?_) rfl (by kernel_rfl) (by kernel_rfl) (by kernel_rfl) (fun _ _ _ h => h) (Or.inl ⟨by rfl, ?_⟩) (by assumption) ?_
 rotate_left
 ·intro w hSw; go_split_ands; go_simp; with_reducible rfl
 refine wpAnyH_take (i := 1) (v := ?_) rfl (by kernel_rfl) (by kernel_rfl) (by kernel_rfl) (fun _ _ _ h => h) (Or.inl ⟨by rfl, ?_⟩) (by assumption) ?_
 rotate_left
 ·intro w hSw; go_simp; with_reducible rfl
 refine wpAnyH_take (i := 2) (v := ?_) rfl (by kernel_rfl) (by kernel_rfl) (by kernel_rfl) (fun _ _ _ h => h) (Or.inl ⟨by rfl, ?_⟩) (by assumption) ?_
 rotate_left
 ·intro w hSw; go_simp; with_reducible rfl
 refine wpAnyH_take (i := 4) (v := ?_) rfl (by kernel_rfl) (by kernel_rfl) (by kernel_rfl) (fun _ _ _ h => h) (Or.inl ⟨by rfl, ?_⟩) (by assumption) ?_
 rotate_left
 ·intro w hSw; go_split_ands; go_simp; with_reducible rfl
 refine wpAnyH_take (i := 5) (v := ?_) rfl (by kernel_rfl) (by kernel_rfl) (by kernel_rfl) (fun _ _ _ h => h) (Or.inl ⟨by rfl, ?_⟩) (by assumption) ?_
 rotate_left
 ·intro w hSw; go_simp; with_reducible rfl
 refine wpAnyH_take (i := 6) (v := ?_) rfl (by kernel_rfl) (by kernel_rfl) (by kernel_rfl) (fun _ _ _ h => h) (Or.inl ⟨by rfl, ?_⟩) (by assumption) ?_
 rotate_left
 ·intro w hSw; go_simp; with_reducible rfl
 refine wpAnyH_ready (rs := [3]) (by kernel_rfl) (by simp) ?_
 refine AllReadyH.cons rfl (fun K hK => ?_) ?_
 ·go_simp
  refine (HS0.out _).mono ?_
  rintro e x1 ⟨n0, rfl, hb⟩
  have HXx1 := Lib.hid hb
  clear hb
  refine hK.out _ _ ?_ (fun hS2 => ?_)
  ·exact HF.out _ HXx1.out
  clear hK K hS
  have hS := hS2
  clear hS2
  refine wpAnyH_ready (rs := [7]) (by kernel_rfl) (by simp) ?_
  refine AllReadyH.cons rfl (fun K hK => ?_) ?_
  ·go_simp
   refine (HS1.out _).mono ?_
   rintro e x2 ⟨n1, rfl, hb⟩
   have HXx2 : Hid (Below D.heap.size D x2) := HXx1.out.trans (hb.mono HXx1.out.size)
   clear hb
   obtain ⟨U, hU, ⟨r0, r1⟩, ⟨r2, r3⟩, ⟨r4, r5⟩, hSU, HE⟩ := HG.out x2 HXx2.out n0 n1
   refine hK.out _ _ ?_ (fun hS2 => ?_)
   ·exact HF.out _ HXx2.out
   clear hK K hS
   have hS := hS2
   clear hS2
   refine wpAnyH_take (i := 8) (v := ?_) rfl (by kernel_rfl) (by kernel_rfl) (by kernel_rfl) (fun _ _ _ h => h) (Or.inl ⟨by rfl, ?_⟩) (by assumption) ?_
   rotate_left
   ·intro w hSw; go_simp; with_reducible rfl
   refine wpAnyH_ready (rs := [9]) (by kernel_rfl) (by simp) ?_
   refine AllReadyH.cons rfl (fun K hK => ?_) ?_
   ·go_simp
    refine hK.out _ _ ?_ (fun hS2 => ?_)
    ·exact hSU
    clear hK K hS
    have hS := hS2
    clear hS2
    refine wpAnyH_done (by kernel_rfl) ?_ _
    go_wp2_with fail
    exact bodyPost_ret (v := .agg #[.int .u64 n0, .int .u64 n1]) (by simp [results, Tryz.results109, go_sem, r4, r5]) rfl ⟨_, _, rfl, HE.out⟩
   exact AllReadyH.nil
  exact AllReadyH.nil
 exact AllReadyH.nil
set_option maxRecDepth 100000 in
set_option maxHeartbeats 4000000 in
theorem Key19_some (A B id : Int) (w : World) (hA : U64 A) (hB : U64 B) (hu : U64 id) : Calls Tryz.prog 78 #[.agg #[.int .u64 A, .int .u64 B], .int .u64 id] w fun e w' => ∃ a b, e = .returned (.agg #[.int .u64 a, .int .u64 b]) ∧ Below w.heap.size w w' := by
 have hpz := putR_size id
 obtain ⟨p, hp⟩ : ∃ p, putR id = p := ⟨_, rfl⟩
 have HP : Hid (∀ V, CR 57 #[.int .u64 id] V (.string p)) := fun V => hp ▸ refPut_any id hu V
 rw [hp] at hpz
 have hl : ¬ 9223372036854775807 < 6 + p.size := by omega
 have HC := Lib.hid fun V => Child01_some A B ((⟨#[116, 101, 110, 97, 110, 116]⟩ : ByteArray) ++ p) V hA hB (by rw [ByteArray.size_append]; show 6 + p.size < _; omega)
 clear hp hpz
 obtain ⟨W, hW, hX0, hX1, hB0, hs0⟩ := boxes2 w #[.int .u64 A, .int .u64 B] 24 #[.int .u64 0, .int .u64 0] 24
 obtain ⟨D, hD⟩ : ∃ D, W.drew = D := ⟨_, rfl⟩
 have hBD : Below w.heap.size w D := by rw [← hD]; exact hB0.drew
 have hXD0 : D.heap[w.heap.size]? = some (.cells #[.int .u64 A, .int .u64 B] 24 (0, 0)) := by rw [← hD]; exact hX0
 have hXD1 : D.heap[w.heap.size + 1]? = some (.cells #[.int .u64 0, .int .u64 0] 24 (0, 0)) := by rw [← hD]; exact hX1
 have HF : Hid (∀ V, Below D.heap.size D V → V.cell? ⟨w.heap.size, 0, none⟩ = some (.int .u64 A) ∧ V.cell? ⟨w.heap.size, 1, none⟩ = some (.int .u64 B)) := fun V hV => by
  have y0 := known hV (Nat.le_refl _) hXD0
  exact ⟨cCc y0 0, cCc y0 1⟩
 have HG : Hid (∀ V, Below D.heap.size D V → ∀ S0 S1 : Int, ∃ U, (V.setCell ⟨w.heap.size + 1, 0, none⟩ (.int .u64 S0)).setCell ⟨w.heap.size + 1, 1, none⟩ (.int .u64 S1) = U ∧ (V.cell? ⟨w.heap.size + 1, 0, none⟩ = some (.int .u64 0) ∧ V.frozen? ⟨w.heap.size + 1, 0, none⟩ = false) ∧
   ((V.setCell ⟨w.heap.size + 1, 0, none⟩ (.int .u64 S0)).cell? ⟨w.heap.size + 1, 1, none⟩ = some (.int .u64 0) ∧ (V.setCell ⟨w.heap.size + 1, 0, none⟩ (.int .u64 S0)).frozen? ⟨w.heap.size + 1, 1, none⟩ = false) ∧
   (U.cell? ⟨w.heap.size + 1, 0, none⟩ = some (.int .u64 S0) ∧ U.cell? ⟨w.heap.size + 1, 1, none⟩ = some (.int .u64 S1)) ∧ (U.cell? ⟨w.heap.size, 0, none⟩ = some (.int .u64 A) ∧ U.cell? ⟨w.heap.size, 1, none⟩ = some (.int .u64 B)) ∧ Hid (Below w.heap.size w U)) := fun V hV S0 S1 => by
  have y0 := known hV (Nat.le_refl _) hXD0
  have y1 := known hV (Nat.le_refl _) hXD1
  have y2 := hSk y1 (i := 0) (.int .u64 S0)
  have y3 := hSk y2 (i := 1) (.int .u64 S1)
  have y4 := (Below.heap_setCell (V.setCell ⟨w.heap.size + 1, 0, none⟩ (.int .u64 S0)) ⟨w.heap.size + 1, 1, none⟩ (.int .u64 S1) w.heap.size (by show w.heap.size ≠ w.heap.size + 1; omega)).trans ((Below.heap_setCell V ⟨w.heap.size + 1, 0, none⟩ (.int .u64 S0) w.heap.size (by show w.heap.size ≠ w.heap.size + 1; omega)).trans y0)
  exact ⟨_, rfl, ⟨cCc y1 0, cFz y1 0⟩, ⟨cCc y2 1, cFz y2 1⟩, ⟨cCc y3 0, cCc y3 1⟩, ⟨cCc y4 0, cCc y4 1⟩, ((hBD.trans (hV.mono hBD.size)).setCell (p := ⟨w.heap.size + 1, 0, none⟩) (Nat.le_succ _) _).setCell (p := ⟨w.heap.size + 1, 1, none⟩) (Nat.le_succ _) _⟩
 have HD := Lib.hid hD
 clear hX0 hX1 hB0 hs0 hD hBD hXD0 hXD1
 go_enter Tryz.func78, Tryz.ntmps78
 go_wp2_with fail
 refine wp_region_held_drew (S := fun w' => w'.cell? ⟨w.heap.size, 0, none⟩ = some (.int .u64 A) ∧ w'.cell? ⟨w.heap.size, 1, none⟩ = some (.int .u64 B)) (by kernel_rfl) (by rw [HD.out]; exact HF.out D (Below.refl _ _)) (fun hS => ?_)
 rw [HD.out] at hS ⊢
 refine wpAnyH_take (i := 0) (v := ?_) rfl (by kernel_rfl) (by kernel_rfl) (by kernel_rfl) (fun _ _ _ h => h) (Or.inl ⟨by rfl, ?_⟩) (by assumption) ?_
 rotate_left
 ·intro w hSw; go_split_ands; go_simp; with_reducible rfl
 refine wpAnyH_take (i := 1) (v := ?_) rfl (by kernel_rfl) (by kernel_rfl) (by kernel_rfl) (fun _ _ _ h => h) (Or.inl ⟨by rfl, ?_⟩) (by assumption) ?_
 rotate_left
 ·intro w hSw; go_simp; with_reducible rfl
 refine wpAnyH_ready (rs := [2]) (by kernel_rfl) (by simp) ?_
 refine AllReadyH.cons rfl (fun K hK => ?_) ?_
 ·go_simp
  refine (HP.out _).mono ?_
  rintro e x1 ⟨rfl, hb⟩
  have HXx1 := Lib.hid hb
  clear hb
  refine hK.out _ _ ?_ (fun hS2 => ?_)
  ·exact HF.out _ HXx1.out
  clear hK K hS
  have hS := hS2
  clear hS2
  refine wpAnyH_take (i := 3) (v := ?_) rfl (by kernel_rfl) (by kernel_rfl) (by kernel_rfl) (fun _ _ _ h => h) (Or.inl ⟨by rfl, ?_⟩) (by assumption) ?_
  rotate_left
  ·intro w hSw; go_simp; with_reducible rfl
  refine wpAnyH_ready (rs := [4]) (by kernel_rfl) (by simp) ?_
  refine AllReadyH.cons rfl (fun K hK => ?_) ?_
  ·go_simp
   refine (HC.out _).mono ?_
   rintro e x2 ⟨n0, n1, rfl, hb⟩
   have HXx2 : Hid (Below D.heap.size D x2) := HXx1.out.trans (hb.mono HXx1.out.size)
   clear hb
   obtain ⟨U, hU, ⟨r0, r1⟩, ⟨r2, r3⟩, ⟨r4, r5⟩, hSU, HE⟩ := HG.out x2 HXx2.out n0 n1
   refine hK.out _ _ ?_ (fun hS2 => ?_)
   ·exact HF.out _ HXx2.out
   clear hK K hS
   have hS := hS2
   clear hS2
   refine wpAnyH_ready (rs := [5]) (by kernel_rfl) (by simp) ?_
   refine AllReadyH.cons rfl (fun K hK => ?_) ?_
   ·go_simp
    refine hK.out _ _ ?_ (fun hS2 => ?_)
    ·exact hSU
    clear hK K hS
    have hS := hS2
    clear hS2
    refine wpAnyH_done (by kernel_rfl) ?_ _
    go_wp2_with fail
    exact bodyPost_ret (v := .agg #[.int .u64 n0, .int .u64 n1]) (by simp [results, Tryz.results78, go_sem, r4, r5]) rfl ⟨_, _, rfl, HE.out⟩
   exact AllReadyH.nil
  exact AllReadyH.nil
 exact AllReadyH.nil
end Go.Proofs.YtpklkhgnjbopnaaGreatDoor
namespace Go.Proofs.YtpklkhgnjbopnaaGreatDoor
open Go Go.RowKit Go.Shelf
set_option maxRecDepth 100000 in
theorem ref15_New_any (w : World) : CR 108 #[] w (.agg #[.int .u64 1, .slice none 0 0]) := by
 obtain ⟨W, hW, hX, hB, hsz⟩ := boxes1 w #[.int .u64 0, .slice none 0 0] 166
 have f0 : W.frozen? ⟨w.heap.size, 0, none⟩ = false := cFz hX 0
 have c0 : W.cell? ⟨w.heap.size, 0, none⟩ = some (.int .u64 0) := cCc hX 0
 obtain ⟨V, hV⟩ : ∃ V, W.setCell ⟨w.heap.size, 0, none⟩ (.int .u64 1) = V := ⟨_, rfl⟩
 have hVX : V.heap[w.heap.size]? = some (.cells #[.int .u64 1, .slice none 0 0] 166 (0, 0)) := by rw [← hV]; exact hSk hX _
 have HB : Hid (Below w.heap.size w V) := by rw [Hid, ← hV]; exact hB.setCell (p := ⟨w.heap.size, 0, none⟩) (Nat.le_refl _) _
 obtain ⟨v0, v1⟩ := cl2 hVX
 have f1 : V.frozen? ⟨w.heap.size, 1, none⟩ = false := cFz hVX 1
 have s1 : V.setCell ⟨w.heap.size, 1, none⟩ (.slice none 0 0) = V := set_same hVX rfl
 clear hX hB hsz hVX
 go_enter Tryz.func108, Tryz.ntmps108
 go_wp2_with fail
 exact bodyPost_ret (v := .agg #[.int .u64 1, .slice none 0 0]) (by simp [results, Tryz.results108, go_sem, v0, v1]) rfl ⟨rfl, HB.out⟩
set_option maxRecDepth 100000 in
set_option maxHeartbeats 2000000 in
theorem ref18_New_some (id bud life A B : Int) (w : World) (hb1 : 0 ≤ bud) (hb2 : bud ≤ 1000000) : Calls Tryz.prog 77 #[.agg #[.int .u64 id, .int .i64 bud, .int .u64 life], .agg #[.int .u64 A, .int .u64 B]] w fun e w' => ∃ b, e = .returned (.tuple #[.pointer (some ⟨b, 0, none⟩), .int .i64 0]) ∧ Below w.heap.size w w' := by
 obtain ⟨W, hW, hX0, hX1, hB0, hs0⟩ := boxes2 w #[.int .u64 id, .int .i64 bud, .int .u64 life] 41 #[.int .u64 A, .int .u64 B] 24
 have h1 : ¬ bud < 0 := by omega
 have h2 : ¬ 1000000 < bud := by omega
 have HN := Lib.hid fun V => ref15_New_any V
 obtain ⟨c0, c1, c2⟩ := cl3 hX0
 obtain ⟨D, hD⟩ : ∃ D, W.drew = D := ⟨_, rfl⟩
 have HBD : Hid (Below w.heap.size w D) := by rw [Hid, ← hD]; exact hB0.drew
 have hXD0 : D.heap[w.heap.size]? = some (.cells #[.int .u64 id, .int .i64 bud, .int .u64 life] 41 (0, 0)) := by rw [← hD]; exact hX0
 have hXD1 : D.heap[w.heap.size + 1]? = some (.cells #[.int .u64 A, .int .u64 B] 24 (0, 0)) := by rw [← hD]; exact hX1
 have HF : Hid (∀ V, Below D.heap.size D V → (fun w' => w'.cell? ⟨w.heap.size, 0, none⟩ = some (.int .u64 id) ∧ w'.cell? ⟨w.heap.size, 1, none⟩ = some (.int .i64 bud) ∧ w'.cell? ⟨w.heap.size, 2, none⟩ = some (.int .u64 life) ∧ w'.cell? ⟨w.heap.size + 1, 0, none⟩ = some (.int .u64 A) ∧ w'.cell? ⟨w.heap.size + 1, 1, none⟩ = some (.int .u64 B)) V) := fun V hV => by
  have y0 := known hV (Nat.le_refl _) hXD0
  have y1 := known hV (Nat.le_refl _) hXD1
  exact ⟨cCc y0 0, cCc y0 1, cCc y0 2, cCc y1 0, cCc y1 1⟩
 have HD := Lib.hid hD
 clear hX0 hX1 hB0 hs0 hD hXD0 hXD1 hb1 hb2
 go_enter Tryz.func77, Tryz.ntmps77
 go_wp2_with fail
 refine wp_region_held_drew (S := fun w' => w'.cell? ⟨w.heap.size, 0, none⟩ = some (.int .u64 id) ∧ w'.cell? ⟨w.heap.size, 1, none⟩ = some (.int .i64 bud) ∧ w'.cell? ⟨w.heap.size, 2, none⟩ = some (.int .u64 life) ∧ w'.cell? ⟨w.heap.size + 1, 0, none⟩ = some (.int .u64 A) ∧ w'.cell? ⟨w.heap.size + 1, 1, none⟩ = some (.int .u64 B)) (by kernel_rfl) (by rw [HD.out]; exact HF.out D (Below.refl _ _)) (fun hS => ?_)
 rw [HD.out] at hS ⊢
 refine wpAnyH_take (i := 0) (v := ?_) rfl (by kernel_rfl) (by kernel_rfl) (by kernel_rfl) (fun _ _ _ h => h) (Or.inl ⟨by rfl, ?_⟩) (by assumption) ?_
 rotate_left
 ·intro w hSw; go_split_ands; go_simp; with_reducible rfl
 refine wpAnyH_take (i := 1) (v := ?_) rfl (by kernel_rfl) (by kernel_rfl) (by kernel_rfl) (fun _ _ _ h => h) (Or.inl ⟨by rfl, ?_⟩) (by assumption) ?_
 rotate_left
 ·intro w hSw; go_split_ands; go_simp; with_reducible rfl
 refine wpAnyH_ready (rs := [2]) (by kernel_rfl) (by simp) ?_
 refine AllReadyH.cons rfl (fun K hK => ?_) ?_
 ·go_simp
  refine (HN.out _).mono ?_
  rintro e x1 ⟨rfl, hb⟩
  have HX1 := Lib.hid hb
  clear hb
  refine hK.out _ _ ?_ (fun hS2 => ?_)
  ·exact HF.out _ HX1.out
  clear hK K hS
  have hS := hS2
  clear hS2
  refine wpAnyH_take (i := 3) (v := ?_) rfl (by kernel_rfl) (by kernel_rfl) (by kernel_rfl) (fun _ _ _ h => h) (Or.inl ⟨by rfl, ?_⟩) (by assumption) ?_
  rotate_left
  ·intro w hSw; go_simp; with_reducible rfl
  refine wpAnyH_ready (rs := [4]) (by kernel_rfl) (by simp) ?_
  refine AllReadyH.cons rfl (fun K hK => ?_) ?_
  ·go_simp
   refine hK.out _ _ ?_ (fun hS2 => ?_)
   ·exact HF.out _ (HX1.out.alloc HX1.out.size _)
   clear hK K hS
   have hS := hS2
   clear hS2
   refine wpAnyH_ready (rs := [5]) (by kernel_rfl) (by simp) ?_
   refine AllReadyH.cons rfl (fun K hK => ?_) ?_
   ·go_simp
    refine hK.out _ _ ?_ (fun hS2 => ?_)
    ·exact hS
    clear hK K hS
    have hS := hS2
    clear hS2
    refine wpAnyH_ready (rs := [6]) (by kernel_rfl) (by simp) ?_
    refine AllReadyH.cons rfl (fun K hK => ?_) ?_
    ·go_simp
     refine hK.out _ _ ?_ (fun hS2 => ?_)
     ·exact hS
     clear hK K hS
     have hS := hS2
     clear hS2
     refine wpAnyH_done (by kernel_rfl) ?_ _
     go_wp2_with fail
     go_ret2
     exact ⟨_, rfl, HBD.out.trans ((HX1.out.alloc HX1.out.size _).mono HBD.out.size)⟩
    exact AllReadyH.nil
   exact AllReadyH.nil
  exact AllReadyH.nil
 exact AllReadyH.nil
end Go.Proofs.YtpklkhgnjbopnaaGreatDoor
namespace Go.Proofs.YtpklkhgnjbopnaaGreatDoor
open Go Go.RowKit Go.Shelf
theorem at19_none (b : Nat) (n : Int) (w : World) (h : w.cell? ⟨b, 0, none⟩ = some (.slice none 0 0)) : Calls Tryz.prog 79 #[.pointer (some ⟨b, 0, none⟩), .int .u64 n] w fun e w' => e = .returned (.int .i64 (-1)) ∧ w' = w := by
 go_enter Tryz.func79, Tryz.ntmps79
 go_wp2_with fail
 go_loopw [5] (fun i wr => i = .int .i64 0 ∧ wr = w) (fun _ _ => 0)
 case atStart => exact ⟨rfl, rfl⟩
 case round =>
  obtain ⟨rfl, rfl⟩ := hrel
  go_wp2_with fail
  go_ret
  exact ⟨rfl, rfl⟩
theorem und_tens18 : Tryz.prog.underlying 155 = some (.slice 158) := by kernel_rfl
theorem info_tens18 : (Tryz.prog.info? 158).map (fun i => (i.zero, i.size, i.bytes)) = some (some (.pointer none), 1, 8) := by kernel_rfl
attribute [-go_sem] Builtin.append_
set_option maxRecDepth 100000 in
set_option maxHeartbeats 4000000 in
theorem ref19_New_one (A B id bud life : Int) (g c : Nat) (w : World) (hA : U64 A) (hB2 : U64 B) (hu : U64 id) (hb1 : 0 ≤ bud) (hb2 : bud ≤ 1000000) (h0 : w.heap[g]? = some (.cells #[.int .u64 id, .int .i64 bud, .int .u64 life] 41 (0, 0))) :
  Calls Tryz.prog 42 #[.agg #[.int .u64 A, .int .u64 B], .slice (some ⟨g, 0, none⟩) 1 c] w fun e w' => ∃ b, e = .returned (.tuple #[.pointer (some ⟨b, 0, none⟩), .int .i64 0]) ∧ Below w.heap.size w w' := by
 have HN := Lib.hid fun X Y V => ref18_New_some id bud life X Y V hb1 hb2
 have HK := Lib.hid fun V => Key19_some A B id V hA hB2 hu
 obtain ⟨W, hW, hX0, hX1, hB, hs⟩ := boxes2 w #[.int .u64 A, .int .u64 B] 24 #[.slice none 0 0] 157
 have h0W := known hB (Nat.le_refl _) h0
 obtain ⟨D, hD⟩ : ∃ D, W.drew = D := ⟨_, rfl⟩
 have hD0 : D.heap[g]? = some (.cells #[.int .u64 id, .int .i64 bud, .int .u64 life] 41 (0, 0)) := by rw [← hD]; exact h0W
 have hD1 : D.heap[w.heap.size]? = some (.cells #[.int .u64 A, .int .u64 B] 24 (0, 0)) := by rw [← hD]; exact hX0
 have hD2 : D.heap[w.heap.size + 1]? = some (.cells #[.slice none 0 0] 157 (0, 0)) := by rw [← hD]; exact hX1
 have HBD : Hid (Below w.heap.size w D) := by rw [Hid, ← hD]; exact hB.drew
 have HF : Hid (∀ V, Below D.heap.size D V → (fun w' => w'.cell? ⟨g, 0, none⟩ = some (.int .u64 id) ∧ w'.cell? ⟨g, 1, none⟩ = some (.int .i64 bud) ∧ w'.cell? ⟨g, 2, none⟩ = some (.int .u64 life) ∧ w'.cell? ⟨w.heap.size, 0, none⟩ = some (.int .u64 A) ∧ w'.cell? ⟨w.heap.size, 1, none⟩ = some (.int .u64 B)) V) := fun V hV => by
  have y0 := known hV (Nat.le_refl _) hD0
  have y1 := known hV (Nat.le_refl _) hD1
  exact ⟨cCc y0 0, cCc y0 1, cCc y0 2, cCc y1 0, cCc y1 1⟩
 have HG : Hid (∀ V, Below D.heap.size D V → V.cell? ⟨w.heap.size + 1, 0, none⟩ = some (.slice none 0 0) ∧ Hid (w.heap.size + 1 < V.heap.size ∧ w.heap.size ≤ V.heap.size) ∧ V.heap[w.heap.size + 1]? = some (.cells #[.slice none 0 0] 157 (0, 0))) := fun V hV => by
  have y2 := known hV (Nat.le_refl _) hD2
  have hlt := (Array.getElem?_eq_some_iff.1 y2).1
  exact ⟨cCc y2 0, ⟨hlt, by omega⟩, y2⟩
 have HD := Lib.hid hD
 clear hX0 hX1 hB hs h0 h0W hu hb1 hb2 hD hD0 hD1 hD2 hA hB2
 go_enter Tryz.func42, Tryz.ntmps42
 go_wp2_with fail
 go_loopw [7] (fun i wr => (i = .int .i64 0 ∧ wr = W) ∨ (i = .int .i64 1 ∧ Hid (Below w.heap.size w wr))) (fun i _ => 1 - (intOf i).toNat)
 case atStart => exact .inl ⟨rfl, rfl⟩
 case round =>
  rcases hrel with ⟨rfl, rfl⟩ | ⟨rfl, h1⟩
  ·go_wp2_with fail
   refine wp_region_held_drew (S := fun w' => w'.cell? ⟨g, 0, none⟩ = some (.int .u64 id) ∧ w'.cell? ⟨g, 1, none⟩ = some (.int .i64 bud) ∧ w'.cell? ⟨g, 2, none⟩ = some (.int .u64 life) ∧ w'.cell? ⟨w.heap.size, 0, none⟩ = some (.int .u64 A) ∧ w'.cell? ⟨w.heap.size, 1, none⟩ = some (.int .u64 B)) (by kernel_rfl) (by rw [HD.out]; exact HF.out D (Below.refl _ _)) (fun hS => ?_)
   rw [HD.out] at hS ⊢
   refine wpAnyH_take (i := 0) (v := ?_) rfl (by kernel_rfl) (by kernel_rfl) (by kernel_rfl) (fun _ _ _ h => h) (Or.inl ⟨by rfl, ?_⟩) (by assumption) ?_
   rotate_left
   ·intro w hSw; go_split_ands; go_simp; with_reducible rfl
   refine wpAnyH_take (i := 1) (v := ?_) rfl (by kernel_rfl) (by kernel_rfl) (by kernel_rfl) (fun _ _ _ h => h) (Or.inl ⟨by rfl, ?_⟩) (by assumption) ?_
   rotate_left
   ·intro w hSw; go_split_ands; go_simp; with_reducible rfl
   refine wpAnyH_take (i := 2) (v := ?_) rfl (by kernel_rfl) (by kernel_rfl) (by kernel_rfl) (fun _ _ _ h => h) (Or.inl ⟨by rfl, ?_⟩) (by assumption) ?_
   rotate_left
   ·intro w hSw; go_split_ands; go_simp; with_reducible rfl
   refine wpAnyH_take (i := 3) (v := ?_) rfl (by kernel_rfl) (by kernel_rfl) (by kernel_rfl) (fun _ _ _ h => h) (Or.inl ⟨by rfl, ?_⟩) (by assumption) ?_
   rotate_left
   ·intro w hSw; go_split_ands; go_simp; with_reducible rfl
   refine wpAnyH_take (i := 4) (v := ?_) rfl (by kernel_rfl) (by kernel_rfl) (by kernel_rfl) (fun _ _ _ h => h) (Or.inl ⟨by rfl, ?_⟩) (by assumption) ?_
   rotate_left
   ·intro w hSw; go_split_ands; go_simp; with_reducible rfl
   refine wpAnyH_take (i := 5) (v := ?_) rfl (by kernel_rfl) (by kernel_rfl) (by kernel_rfl) (fun _ _ _ h => h) (Or.inl ⟨by rfl, ?_⟩) (by assumption) ?_
   rotate_left
   ·intro w hSw; go_split_ands; go_simp; with_reducible rfl
   refine wpAnyH_take (i := 6) (v := ?_) rfl (by kernel_rfl) (by kernel_rfl) (by kernel_rfl) (fun _ _ _ h => h) (Or.inl ⟨by rfl, ?_⟩) (by assumption) ?_
   rotate_left
   ·intro w hSw; go_split_ands; go_simp; with_reducible rfl
   refine wpAnyH_take (i := 7) (v := ?_) rfl (by kernel_rfl) (by kernel_rfl) (by kernel_rfl) (fun _ _ _ h => h) (Or.inl ⟨by rfl, ?_⟩) (by assumption) ?_
   rotate_left
   ·intro w hSw; go_split_ands; go_simp; with_reducible rfl
   refine wpAnyH_take (i := 8) (v := ?_) rfl (by kernel_rfl) (by kernel_rfl) (by kernel_rfl) (fun _ _ _ h => h) (Or.inl ⟨by rfl, ?_⟩) (by assumption) ?_
   rotate_left
   ·intro w hSw; go_split_ands; go_simp; with_reducible rfl
   refine wpAnyH_take (i := 9) (v := ?_) rfl (by kernel_rfl) (by kernel_rfl) (by kernel_rfl) (fun _ _ _ h => h) (Or.inl ⟨by rfl, ?_⟩) (by assumption) ?_
   rotate_left
   ·intro w hSw; go_split_ands; go_simp; with_reducible rfl
   refine wpAnyH_ready (rs := [10]) (by kernel_rfl) (by simp) ?_
   refine AllReadyH.cons rfl (fun K hK => ?_) ?_
   ·go_simp
    refine (HK.out _).mono ?_
    rintro e x1 ⟨ka, kb, rfl, hb⟩
    have HX1 := Lib.hid hb
    clear hb
    refine hK.out _ _ ?_ (fun hS2 => ?_)
    ·exact HF.out _ HX1.out
    clear hK K hS
    have hS := hS2
    clear hS2
    refine wpAnyH_ready (rs := [11]) (by kernel_rfl) (by simp) ?_
    refine AllReadyH.cons rfl (fun K hK => ?_) ?_
    ·go_simp
     refine (HN.out _ _ _).mono ?_
     rintro e x2 ⟨tb, rfl, hb⟩
     have HX2 : Hid (Below D.heap.size D x2) := HX1.out.trans (hb.mono HX1.out.size)
     clear hb
     refine hK.out _ _ ?_ (fun hS2 => ?_)
     ·exact HF.out _ HX2.out
     clear hK K hS
     have hS := hS2
     clear hS2
     refine wpAnyH_take (i := 12) (v := ?_) rfl (by kernel_rfl) (by kernel_rfl) (by kernel_rfl) (fun _ _ _ h => h) (Or.inl ⟨by rfl, ?_⟩) (by assumption) ?_
     rotate_left
     ·intro w hSw; go_split_ands; go_simp; with_reducible rfl
     refine wpAnyH_take (i := 13) (v := ?_) rfl (by kernel_rfl) (by kernel_rfl) (by kernel_rfl) (fun _ _ _ h => h) (Or.inl ⟨by rfl, ?_⟩) (by assumption) ?_
     rotate_left
     ·intro w hSw; go_split_ands; go_simp; with_reducible rfl
     refine wpAnyH_take (i := 14) (v := ?_) rfl (by kernel_rfl) (by kernel_rfl) (by kernel_rfl) (fun _ _ _ h => h) (Or.inl ⟨by rfl, ?_⟩) (by assumption) ?_
     rotate_left
     ·intro w hSw; go_split_ands; go_simp; with_reducible rfl
     refine wpAnyH_ready (rs := [15]) (by kernel_rfl) (by simp) ?_
     refine AllReadyH.cons rfl (fun K hK => ?_) ?_
     ·go_simp
      refine hK.out _ _ ?_ (fun hS2 => ?_)
      ·exact hS
      clear hK K hS
      have hS := hS2
      clear hS2
      refine wpAnyH_ready (rs := [16]) (by kernel_rfl) (by simp) ?_
      refine AllReadyH.cons rfl (fun K hK => ?_) ?_
      ·go_simp
       refine hK.out _ _ ?_ (fun hS2 => ?_)
       ·exact hS
       clear hK K hS
       have hS := hS2
       clear hS2
       refine wpAnyH_done (by kernel_rfl) ?_ _
       clear hS
       obtain ⟨q1, q2, q3⟩ := HG.out x2 HX2.out
       have q0 := (HF.out x2 HX2.out).1
       have HAt := Lib.hid (at19_none (w.heap.size + 1) id x2 q1)
       obtain ⟨g6, cap6, w6, hap6, -, hB6, hz6, hbl6, -⟩ := append_one Tryz.prog 155 und_tens18 info_tens18 rfl (by decide) (World.ownsRow_nil x2 x2.heap.size 158 1) (Below.refl w.heap.size x2) q2.out.2 (Nat.le_refl _) [.pointer (some ⟨tb, 0, none⟩)] rfl (by simp [Value.oneCell']) (by decide) (by decide)
       simp only [Nat.zero_add] at hap6
       have z3 : w6.heap[w.heap.size + 1]? = some (.cells #[.slice none 0 0] 157 (0, 0)) := (hbl6 _ q2.out.1).trans q3
       have c6 : w6.cell? ⟨w.heap.size + 1, 0, none⟩ = some (.slice none 0 0) := cCc z3 0
       have f6 : w6.frozen? ⟨w.heap.size + 1, 0, none⟩ = false := cFz z3 0
       have HE : Hid (Below w.heap.size w (w6.setCell ⟨w.heap.size + 1, 0, none⟩ (.slice (some ⟨g6, 0, none⟩) 1 cap6))) := ((HBD.out.trans (HX2.out.mono HBD.out.size)).trans hB6).setCell (p := ⟨w.heap.size + 1, 0, none⟩) (Nat.le_succ _) _
       clear hB6 hz6 hbl6 z3 q2 q3
       go_wp2_with fail
       refine HAt.out.mono ?_
       rintro e w8 ⟨rfl, hw⟩
       have hw := hw.symm
       subst hw
       go_wp2_with (at_builtin; refine wp_append_eq rfl _ _ _ rfl rfl rfl hap6 ?_)
       refine ⟨.inr ⟨rfl, HE.out⟩, by simp [intOf]⟩
      exact AllReadyH.nil
     exact AllReadyH.nil
    exact AllReadyH.nil
   exact AllReadyH.nil
  ·go_wp2_with fail
   go_ret2
   exact ⟨_, rfl, h1.out⟩
end Go.Proofs.YtpklkhgnjbopnaaGreatDoor
namespace Go.Proofs.YtpklkhgnjbopnaaGreatDoor
open Go Go.RowKit Go.Shelf
set_option maxRecDepth 100000 in
theorem made_one (A B id bud life : Int) (g c : Nat) (w : World) (hA : U64 A) (hB2 : U64 B) (hu : U64 id) (hb1 : 0 ≤ bud) (hb2 : bud ≤ 1000000) (h0 : w.heap[g]? = some (.cells #[.int .u64 id, .int .i64 bud, .int .u64 life] 41 (0, 0))) :
  Calls Tryz.prog 11 #[.agg #[.int .u64 A, .int .u64 B], .slice (some ⟨g, 0, none⟩) 1 c] w fun e w' => ∃ b d, e = .returned (.tuple #[.pointer (some b), .pointer (some d), .int .i64 0]) ∧ Below w.heap.size w w' := by
 obtain ⟨W, hW, hX, hB, -⟩ := boxes1 w #[.int .u64 A, .int .u64 B] 24
 have h0W := known hB (Nat.le_refl _) h0
 obtain ⟨k0, k1⟩ := cl2 hX
 have HC := Lib.hid (collNew_one A B id bud life g c W hu hb1 hb2 h0W)
 have HR := Lib.hid fun V (hV : Below W.heap.size W V) => ref19_New_one A B id bud life g c V hA hB2 hu hb1 hb2 (known hV (Nat.le_refl _) h0W)
 have HK : Hid (∀ V, Below W.heap.size W V → V.cell? ⟨w.heap.size, 0, none⟩ = some (.int .u64 A) ∧ V.cell? ⟨w.heap.size, 1, none⟩ = some (.int .u64 B)) := fun V hV => by
  have y := known hV (Nat.le_refl _) hX
  exact ⟨cCc y 0, cCc y 1⟩
 have HB := Lib.hid hB
 clear hX hB h0 h0W hA hB2 hu hb1 hb2
 go_enter Tryz.func11, Tryz.ntmps11
 go_wp2_with fail
 refine HC.out.mono ?_
 rintro e w1 ⟨cb, rfl, hb⟩
 obtain ⟨j0, j1⟩ := HK.out w1 hb
 have HR1 := Lib.hid (HR.out w1 hb)
 have HB1 : Hid (Below w.heap.size w w1) := HB.out.trans (hb.mono HB.out.size)
 clear hb k0 k1
 go_wp2_with fail
 refine HR1.out.mono ?_
 rintro e w2 ⟨db, rfl, hb⟩
 have HN := Lib.hid (wireNew_any ⟨cb, 0, none⟩ w2)
 have HB2 : Hid (Below w.heap.size w w2) := HB1.out.trans (hb.mono HB1.out.size)
 clear hb
 go_wp2_with fail
 refine HN.out.mono ?_
 rintro e w3 ⟨rfl, -, hb⟩
 have HB3 : Hid (Below w.heap.size w w3) := HB2.out.trans (hb.mono HB2.out.size)
 clear hb
 go_wp2_with fail
 go_ret3
 exact ⟨_, _, rfl, HB3.out.alloc HB3.out.size _⟩
set_option maxRecDepth 100000 in
set_option maxHeartbeats 4000000 in
theorem wireNone_any (n : Int) (s : ByteArray) (A B : Int) (fm ff : Addr) (w : World) (hn : I64 n) (hA : U64 A) (hB2 : U64 B) (hE : GF fm ff w) (hT : Fr.GT w) :
  Calls Tryz.prog 3 #[.int .i64 n, .string s, .agg #[.int .u64 A, .int .u64 B]] w fun e w' => e = .returned (.bool true) ∧ Below w.heap.size w w' := by
 obtain ⟨W, hW, hX, hB, -⟩ := boxes1 w #[.int .u64 A, .int .u64 B] 24
 obtain ⟨k0, k1⟩ := cl2 hX
 have HSh := Lib.hid (shown20_any fm ff W (hE.below hB) (hT.go hB))
 have HCUT := Lib.hid fun V => cut20_any s V
 have HF1 := Lib.hid fun t V => Feed_nil n t V
 have HW1 := Lib.hid fun V => Who_shut (.pointer none) n V (fun U => Open_nil n U)
 have HO1 := Lib.hid fun V => Open_nil n V
 have HNil := Lib.hid fun V => wireNew_nil V
 have HK : Hid (∀ V, Below W.heap.size W V → V.cell? ⟨w.heap.size, 0, none⟩ = some (.int .u64 A) ∧ V.cell? ⟨w.heap.size, 1, none⟩ = some (.int .u64 B)) := fun V hV => by
  have y := known hV (Nat.le_refl _) hX
  exact ⟨cCc y 0, cCc y 1⟩
 have HBW := Lib.hid hB
 have HM := Lib.hid fun g V h => made_one A B 1 0 0 g 1 V hA hB2 ⟨by decide, by decide⟩ (by decide) (by decide) h
 clear hX hB hE hT hA hB2
 go_enter Tryz.func3, Tryz.ntmps3
 go_wp2_with fail
 refine HSh.out.mono ?_
 rintro e w1 ⟨rfl, hb⟩
 have HB1 := Lib.hid hb
 clear hb k0 k1
 go_wp2_with fail
 refine (HNil.out _).mono ?_
 rintro e w2 ⟨rfl, hb⟩
 have HB2 : Hid (Below W.heap.size W w2) := HB1.out.trans (hb.mono HB1.out.size)
 clear hb
 go_wp2_with fail
 refine (HCUT.out _).mono ?_
 rintro e w3 ⟨rfl, hw⟩
 have hw := hw.symm
 subst hw
 go_wp2_with fail
 refine (HF1.out _ _).mono ?_
 rintro e w4 ⟨rfl, hb⟩
 have HB4 : Hid (Below W.heap.size W w4) := HB2.out.trans (hb.mono HB2.out.size)
 clear hb
 go_wp2_with fail
 refine (HW1.out _).mono ?_
 rintro e w5 ⟨rfl, hb⟩
 have HB5 : Hid (Below W.heap.size W w5) := HB4.out.trans (hb.mono HB4.out.size)
 obtain ⟨j0, j1⟩ := HK.out w5 HB5.out
 obtain ⟨V, hV, hVV, hBV, hzV⟩ := boxes1 w5 #[.int .u64 0, .int .i64 0, .int .u64 0] 34
 obtain ⟨X, hX, hXX, hBX, -⟩ := boxes1 V #[.int .u64 1, .int .i64 0, .int .u64 0] 41
 rw [hzV] at hXX
 have HM1 := Lib.hid (HM.out (w5.heap.size + 1) X hXX)
 have HBV : Hid (Below W.heap.size W V) := HB5.out.trans (hBV.mono HB5.out.size)
 have HBX : Hid (Below W.heap.size W X) := HBV.out.trans (hBX.mono HBV.out.size)
 obtain ⟨v0, v1⟩ := HK.out V HBV.out
 obtain ⟨z0, z1, z2⟩ := cl3 hVV
 obtain ⟨f0, f1, f2⟩ := cz3 hVV
 have e0 : V.setCell ⟨w5.heap.size, 0, none⟩ (.int .u64 0) = V := set_same hVV rfl
 have e1 : V.setCell ⟨w5.heap.size, 1, none⟩ (.int .i64 0) = V := set_same hVV rfl
 have e2 : V.setCell ⟨w5.heap.size, 2, none⟩ (.int .u64 0) = V := set_same hVV rfl
 obtain ⟨u0, u1⟩ := HK.out X HBX.out
 clear hb hXX hBX hVV hBV
 go_wp2_with fail
 refine HM1.out.mono ?_
 rintro e w6 ⟨wb, db, rfl, hb⟩
 have HB6 : Hid (Below w.heap.size w w6) := HBW.out.trans ((HBX.out.trans (hb.mono HBX.out.size)).mono HBW.out.size)
 clear hb j0 j1 u0 u1 v0 v1 HM HM1 HK
 obtain ⟨m, hm, hm2⟩ : ∃ m : Int, (decide (0 ≤ m) && decide (m < 16)) = false ∧ ((n < 0 ∧ m = n) ∨ (0 ≤ n ∧ 16 ≤ n ∧ m = n) ∨ (0 ≤ n ∧ n < 16 ∧ m = n + 16)) := by
  by_cases h1 : n < 0
  ·exact ⟨n, by simp; omega, .inl ⟨h1, rfl⟩⟩
  ·by_cases h2 : n < 16
   ·exact ⟨n + 16, by simp; omega, .inr (.inr ⟨by omega, h2, rfl⟩)⟩
   ·exact ⟨n, by simp; omega, .inr (.inl ⟨by omega, by omega, rfl⟩)⟩
 have HF2 := Lib.hid fun t V => Feed_arg wb m t V hm
 have HW2 := Lib.hid fun V => Who_shut (.pointer (some wb)) m V (fun U => Open_arg wb m U hm)
 have HO2 := Lib.hid fun V => Open_arg wb m V hm
 have HO3 := Lib.hid fun V => Open_nil m V
 obtain ⟨hn1, hn2⟩ := hn
 clear hm
 rcases hm2 with ⟨h1, rfl⟩ | ⟨h1, h2, rfl⟩ | ⟨h1, h2, rfl⟩
 ·have h1' : ¬ 0 ≤ m := by omega
  go_wp2_with fail
  refine (HCUT.out _).mono ?_
  rintro e w7 ⟨rfl, hw⟩
  have hw := hw.symm
  subst hw
  go_wp2_with fail
  refine (HF2.out _ _).mono ?_
  rintro e w8 ⟨rfl, hb⟩
  have HB8 : Hid (Below w.heap.size w w8) := HB6.out.trans (hb.mono HB6.out.size)
  clear hb
  go_wp2_with fail
  refine (HW2.out _).mono ?_
  rintro e w9 ⟨rfl, hb⟩
  have HB9 : Hid (Below w.heap.size w w9) := HB8.out.trans (hb.mono HB8.out.size)
  obtain ⟨Y, hY, hYY, hBY, hzY⟩ := boxes1 w9 #[.int .u64 0, .int .i64 0, .int .u64 0] 34
  obtain ⟨y0, y1, y2⟩ := cl3 hYY
  obtain ⟨g0, g1, g2⟩ := cz3 hYY
  have p0 : Y.setCell ⟨w9.heap.size, 0, none⟩ (.int .u64 0) = Y := set_same hYY rfl
  have p1 : Y.setCell ⟨w9.heap.size, 1, none⟩ (.int .i64 0) = Y := set_same hYY rfl
  have p2 : Y.setCell ⟨w9.heap.size, 2, none⟩ (.int .u64 0) = Y := set_same hYY rfl
  have HBY : Hid (Below w.heap.size w Y) := HB9.out.trans (hBY.mono HB9.out.size)
  clear hb hYY hBY
  go_wp2_with fail
  refine (HO3.out _).mono ?_
  rintro e wa ⟨rfl, hw⟩
  have hw := hw.symm
  subst hw
  go_wp2_with fail
  refine (HO2.out _).mono ?_
  rintro e wc ⟨rfl, hw⟩
  have hw := hw.symm
  subst hw
  go_wp2_with fail
  go_ret
  exact ⟨rfl, HBY.out⟩
 ·have h2' : ¬ m < 16 := by omega
  go_wp2_with fail
  refine (HCUT.out _).mono ?_
  rintro e w7 ⟨rfl, hw⟩
  have hw := hw.symm
  subst hw
  go_wp2_with fail
  refine (HF2.out _ _).mono ?_
  rintro e w8 ⟨rfl, hb⟩
  have HB8 : Hid (Below w.heap.size w w8) := HB6.out.trans (hb.mono HB6.out.size)
  clear hb
  go_wp2_with fail
  refine (HW2.out _).mono ?_
  rintro e w9 ⟨rfl, hb⟩
  have HB9 : Hid (Below w.heap.size w w9) := HB8.out.trans (hb.mono HB8.out.size)
  obtain ⟨Y, hY, hYY, hBY, hzY⟩ := boxes1 w9 #[.int .u64 0, .int .i64 0, .int .u64 0] 34
  obtain ⟨y0, y1, y2⟩ := cl3 hYY
  obtain ⟨g0, g1, g2⟩ := cz3 hYY
  have p0 : Y.setCell ⟨w9.heap.size, 0, none⟩ (.int .u64 0) = Y := set_same hYY rfl
  have p1 : Y.setCell ⟨w9.heap.size, 1, none⟩ (.int .i64 0) = Y := set_same hYY rfl
  have p2 : Y.setCell ⟨w9.heap.size, 2, none⟩ (.int .u64 0) = Y := set_same hYY rfl
  have HBY : Hid (Below w.heap.size w Y) := HB9.out.trans (hBY.mono HB9.out.size)
  clear hb hYY hBY
  go_wp2_with fail
  refine (HO3.out _).mono ?_
  rintro e wa ⟨rfl, hw⟩
  have hw := hw.symm
  subst hw
  go_wp2_with fail
  refine (HO2.out _).mono ?_
  rintro e wc ⟨rfl, hw⟩
  have hw := hw.symm
  subst hw
  go_wp2_with fail
  go_ret
  exact ⟨rfl, HBY.out⟩
 ·go_wp2_with fail
  refine (HCUT.out _).mono ?_
  rintro e w7 ⟨rfl, hw⟩
  have hw := hw.symm
  subst hw
  go_wp2_with fail
  refine (HF2.out _ _).mono ?_
  rintro e w8 ⟨rfl, hb⟩
  have HB8 : Hid (Below w.heap.size w w8) := HB6.out.trans (hb.mono HB6.out.size)
  clear hb
  go_wp2_with fail
  refine (HW2.out _).mono ?_
  rintro e w9 ⟨rfl, hb⟩
  have HB9 : Hid (Below w.heap.size w w9) := HB8.out.trans (hb.mono HB8.out.size)
  obtain ⟨Y, hY, hYY, hBY, hzY⟩ := boxes1 w9 #[.int .u64 0, .int .i64 0, .int .u64 0] 34
  obtain ⟨y0, y1, y2⟩ := cl3 hYY
  obtain ⟨g0, g1, g2⟩ := cz3 hYY
  have p0 : Y.setCell ⟨w9.heap.size, 0, none⟩ (.int .u64 0) = Y := set_same hYY rfl
  have p1 : Y.setCell ⟨w9.heap.size, 1, none⟩ (.int .i64 0) = Y := set_same hYY rfl
  have p2 : Y.setCell ⟨w9.heap.size, 2, none⟩ (.int .u64 0) = Y := set_same hYY rfl
  have HBY : Hid (Below w.heap.size w Y) := HB9.out.trans (hBY.mono HB9.out.size)
  clear hb hYY hBY
  go_wp2_with fail
  refine (HO3.out _).mono ?_
  rintro e wa ⟨rfl, hw⟩
  have hw := hw.symm
  subst hw
  go_wp2_with fail
  refine (HO2.out _).mono ?_
  rintro e wc ⟨rfl, hw⟩
  have hw := hw.symm
  subst hw
  go_wp2_with fail
  go_ret
  exact ⟨rfl, HBY.out⟩
end Go.Proofs.YtpklkhgnjbopnaaGreatDoor
