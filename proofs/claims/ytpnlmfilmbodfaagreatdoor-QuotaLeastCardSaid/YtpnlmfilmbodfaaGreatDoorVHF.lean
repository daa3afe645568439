/- Package hll: tell, done, blank, begin. Package hll: done, blank, begin. Package hll: begin, add. Package hll: Of, Add, Lower. Package hll: Lower. -/
import Derived.Test.YtpnlmfilmbodfaaGreatDoorVHA
import Derived.Test.YtpnlmfilmbodfaaGreatDoorVF7
import Derived.BigRegion
namespace Go.Proofs.YtpnlmfilmbodfaaGreatDoor
open Go Go.RowKit Go.Shelf
theorem gb_set (W : World) (b o : Nat) (v : Value) : W.grownBy (W.setCell ⟨b, o, none⟩ v) (some b) :=
  ⟨rfl, rfl, rfl, (KeepsWalks.setCell W _ v).size, fun k _ hk => Below.heap_setCell _ _ _ k (fun e => hk (by rw [e]))⟩
theorem gb_drew {W V : World} {row : Option Nat} (h : W.grownBy V row) : W.grownBy V.drew row := ⟨h.os, h.tape, h.output, h.size, h.block⟩
set_option maxRecDepth 100000 in
set_option maxHeartbeats 1000000 in
theorem tell_any (bt : Int) (s : ByteArray) (g len cap p k : Nat) (r : List Nat) (w : World) (hr : RegsAt w g r) (hp : p < r.length) (hl : r.length = len) :
    Calls Tryz.prog 297 #[.agg #[.int .i64 bt, .string s, .slice (some ⟨g, 0, none⟩) len cap, .func (.func 294) #[] #[]], .int .i64 p, .int .u8 k] w fun e w' => e = .returned (.tuple #[]) ∧ RegsAt w' g (hlTell r p k) ∧ w.grownBy w' (some g) := by
  obtain ⟨x, hx⟩ : ∃ x, r[p]? = some x := ⟨_, List.getElem?_eq_getElem hp⟩
  obtain ⟨W0, hW0, hX0, hB0, hs0⟩ := boxes1 w #[.int .i64 bt, .string s, .slice (some ⟨g, 0, none⟩) len cap, .func (.func 294) #[] #[]] 365
  have hr0 : RegsAt W0.drew g r := (hr.go hB0).block rfl
  have hp2 : (p : Int) < len := by omega
  let Inv : World → Prop := fun W => W = W0.drew
  have q0 : ∀ X : WIn Inv, X.world.cell? ⟨w.heap.size, 1, none⟩ = some (.string s) := fun X => by rw [X.ok]; exact cCc hX0 1
  have q2 : ∀ X : WIn Inv, X.world.cell? ⟨w.heap.size, 2, none⟩ = some (.slice (some ⟨g, 0, none⟩) len cap) := fun X => by rw [X.ok]; exact cCc hX0 2
  have q3 : ∀ X : WIn Inv, X.world.cell? ⟨w.heap.size, 3, none⟩ = some (.func (.func 294) #[] #[]) := fun X => by rw [X.ok]; exact cCc hX0 3
  have q4 : ∀ X : WIn Inv, X.world.cell? ⟨g, p, none⟩ = some (.int .u8 x) := fun X => by rw [X.ok]; exact hr0.cell hx
  have KG : Hid (∀ X : WIn Inv, Calls Tryz.prog 294 #[.int .u8 x, .int .u8 k] X.world fun e w' => e = .returned (.int .u8 (max (x : Int) k)) ∧ ∃ Y : WIn Inv, w' = Y.world) := fun X => (greater_any x k X.world).mono fun e w' h => ⟨h.1, X, h.2⟩
  have hne : Nonempty (WIn Inv) := ⟨⟨W0.drew, rfl⟩⟩
  have hI0 : Hid (Inv W0.drew) := rfl
  have hfin : Hid (∀ X : WIn Inv, X.world = W0.drew) := fun X => X.ok
  have HR := Lib.hid hr0
  have HX := Lib.hid hx
  have HG : Hid (w.grownBy W0 none) := by rw [← hW0]; exact World.grownBy_alloc w _ none
  clear_value Inv
  clear hr hr0 hx
  go_enter Tryz.func297, Tryz.ntmps297
  go_wp2_with fail
  refine wp_region_class_lit Inv (l := [_, _, _, _, _, _, _, _, _, _, _, _, _]) (o := _) rfl (by kernel_rfl) (by kernel_rfl) (by kernel_rfl) hI0.out ?_
  repeat (first | go_big_quiet_step ((go_at_call 294; with_reducible exact KG.out _)) | quiet_step ((go_at_call 294; with_reducible exact KG.out _)))
  refine wpQuiet_nil ?_
  rintro _ ⟨X, rfl⟩
  rw [hfin.out X]
  clear hfin hI0 hne KG q0 q2 q3 q4 hW0
  have d0 := HR.out.cell HX.out
  have d1 := HR.out.frozen HX.out
  go_wp2_with fail
  go_end0
  have e : (max (x : Int) (k : Int)) = ((max (r.getD p 0) k : Nat) : Int) := by rw [List.getD_eq_getElem?_getD, HX.out]; simp only [Option.getD_some]; omega
  rw [e]
  exact ⟨rfl, (RegsAt.set (W := W0.drew) HR.out p _).block rfl, gb_drew ((HG.out.but (some g)).trans (gb_set W0 g p _))⟩
end Go.Proofs.YtpnlmfilmbodfaaGreatDoor
namespace Go.Proofs.YtpnlmfilmbodfaaGreatDoor
open Go Go.RowKit Go.Shelf
theorem und_bytes8 : Tryz.prog.underlying 127 = some (.slice 5) := by kernel_rfl
theorem info_u8 : (Tryz.prog.info? 5).map (fun i => (i.zero, i.size, i.bytes)) = some (some (.int .u8 0), 1, 1) := by kernel_rfl
def hlStr (r : List Nat) : ByteArray := strOfNums (r.map fun (n : Nat) => (n : Int))
theorem make_u8 (w : World) (len : Nat) (h : len ≤ 1000) : ∃ w1, (Instr.makeSlice 127 (.int .i64 (len : Int)) (.int .i64 (len : Int))).run Tryz.prog w = .ok (.slice (some ⟨w.heap.size, 0, none⟩) len len) w1 ∧ RegsAt w1 w.heap.size (List.replicate len 0) ∧ Below w.heap.size w w1 ∧ w1.heap.size = w.heap.size + 1 := by
  obtain ⟨i, hi, hz, hsize, hby⟩ := info_parts info_u8
  have hr := run_makeSlice (P := Tryz.prog) (w := w) 127 5 i _ und_bytes8 hi hz .i64 .i64 (len : Int) (len : Int) (by omega) (Int.le_refl _) (by rw [hsize]; omega) (by rw [hby]; omega) (by omega)
  rw [Int.toNat_natCast] at hr
  refine ⟨_, hr, ⟨_, (0, 0), World.alloc_heap_new _ _, fun j x hx => ?_, .inl rfl⟩, (Below.refl _ w).alloc (Nat.le_refl _) _, by simp⟩
  rw [List.getElem?_replicate] at hx
  split at hx
  · cases hx
    rename_i hj
    rw [hsize, Nat.mul_one]
    simp [madeCells, Value.cells, hj, Nat.mod_one]
  · cases hx
theorem str_cells {W : World} {g len cap : Nat} {r : List Nat} (hr : RegsAt W g r) (hl : r.length = len) : (convert 127 9 (.slice (some ⟨g, 0, none⟩) len cap)).run Tryz.prog W = .ok (.string (hlStr r)) W :=
  run_convert_bytes_arg W 127 5 und_bytes8 Tryz.underlying5 g 0 len cap (r.map fun (n : Nat) => (n : Int)) (by rw [List.length_map, hl]) (fun i hi => by
    have hx := List.getElem?_eq_getElem (show i < r.length by omega)
    rw [Nat.zero_add, hr.cell hx]
    simp [List.getD_eq_getElem?_getD, hx]) 9 Tryz.underlying9
set_option maxRecDepth 100000 in
set_option maxHeartbeats 1000000 in
theorem hdone_any (bt : Int) (s : ByteArray) (g len cap : Nat) (pk : Value) (r : List Nat) (w : World) (hr : RegsAt w g r) (hl : r.length = len) :
    Calls Tryz.prog 291 #[.agg #[.int .i64 bt, .string s, .slice (some ⟨g, 0, none⟩) len cap, pk]] w fun e w' => e = .returned (.agg #[.int .i64 bt, .string (hlStr r)]) ∧ Below w.heap.size w w' := by
  obtain ⟨W0, hW0, hX0, hX1, hB0, hs0⟩ := boxes2 w #[.int .i64 bt, .string s, .slice (some ⟨g, 0, none⟩) len cap, pk] 365 #[.int .i64 0, .string ⟨#[]⟩] 26
  have hcv := str_cells (cap := cap) (hr.go hB0) hl
  have c0 : W0.cell? ⟨w.heap.size, 0, none⟩ = some (.int .i64 bt) := cCc hX0 0
  have c1 : W0.cell? ⟨w.heap.size, 1, none⟩ = some (.string s) := cCc hX0 1
  have c2 : W0.cell? ⟨w.heap.size, 2, none⟩ = some (.slice (some ⟨g, 0, none⟩) len cap) := cCc hX0 2
  have c3 : W0.cell? ⟨w.heap.size, 3, none⟩ = some (pk) := cCc hX0 3
  have d0 : W0.cell? ⟨w.heap.size + 1, 0, none⟩ = some (.int .i64 0) := cCc hX1 0
  have d1 : W0.cell? ⟨w.heap.size + 1, 1, none⟩ = some (.string ⟨#[]⟩) := cCc hX1 1
  have f0 : W0.frozen? ⟨w.heap.size + 1, 0, none⟩ = false := cFz hX1 0
  have f1 : W0.frozen? ⟨w.heap.size + 1, 1, none⟩ = false := cFz hX1 1
  generalize hlStr r = out at hcv ⊢
  have HX := Lib.hid hX1
  clear hr hl hX0 hX1
  go_enter Tryz.func291, Tryz.ntmps291
  go_wp2_with fail
  have hX2 := set_cells2 (u := .int .i64 bt) (v := .string out) HX.out
  have hB2 := (hB0.setCell (p := ⟨w.heap.size + 1, 0, none⟩) (Nat.le_succ _) (.int .i64 bt)).setCell (p := ⟨w.heap.size + 1, 1, none⟩) (Nat.le_succ _) (.string out)
  generalize (W0.setCell ⟨w.heap.size + 1, 0, none⟩ (.int .i64 bt)).setCell ⟨w.heap.size + 1, 1, none⟩ (.string out) = V at hX2 hB2 ⊢
  have k0 : V.cell? ⟨w.heap.size + 1, 0, none⟩ = some (.int .i64 bt) := cCc hX2 0
  have k1 : V.cell? ⟨w.heap.size + 1, 1, none⟩ = some (.string out) := cCc hX2 1
  exact bodyPost_ret (v := .agg #[.int .i64 bt, .string out]) (by simp [results, Tryz.f291, go_sem, k0, k1]) rfl ⟨rfl, hB2⟩
theorem st_fn {W : World} {B off : Nat} {cs : Array Value} {t : TypeId} {old : Value} (h : W.heap[B]? = some (.cells cs t (0, 0))) (ho : cs[off]? = some old) (f : Fn) : (store ⟨B, off, none⟩ (.func f #[] #[])).run Tryz.prog W = .ok () (W.setCell ⟨B, off, none⟩ (.func f #[] #[])) := by
  rw [run_store Tryz.prog W ⟨B, off, none⟩ _ _ (by rfl)]
  simp [World.cell?, World.frozen?, h, ho]
set_option maxRecDepth 100000 in
set_option maxHeartbeats 1000000 in
theorem blank_any (b : Nat) (w : World) (h1 : 3 ≤ b) (h2 : b ≤ 8) :
    Calls Tryz.prog 288 #[.int .i64 b] w fun e w' => ∃ g, e = .returned (.tuple #[.agg #[.int .i64 b, .string ⟨#[]⟩, .slice (some ⟨g, 0, none⟩) (2 ^ b) (2 ^ b), .func (.func 294) #[] #[]], .nilIface]) ∧ RegsAt w' g (hlNone b) ∧ w.heap.size ≤ g ∧ Below w.heap.size w w' := by
  have hib : ∀ w, Calls Tryz.prog 234 #[.int .i64 b] w fun e w' => e = .returned (.bool true) ∧ w' = w := fun w => (isBits_any b w).mono fun e w' ⟨h3, h4⟩ => ⟨by rw [h3]; simp [isBitsB]; omega, h4.symm⟩
  have hp : 2 ^ b ≤ 2 ^ 8 := Nat.pow_le_pow_right (by omega) h2
  have hw : IntKind.i64.wrap (2 ^ b) = ((2 ^ b : Nat) : Int) := by
    have h9 : ∀ n : Nat, n ≤ 256 → IntKind.i64.wrap (n : Int) = n := fun n h => IntWalk.i64_in _ (by omega)
    simpa using h9 (2 ^ b) hp
  unfold hlNone
  generalize 2 ^ b = len at hp hw ⊢
  obtain ⟨W0, hW0, hX0, hB0, hs0⟩ := boxes1 w #[.int .i64 0, .string ⟨#[]⟩, .slice none 0 0, .nilFunc] 365
  obtain ⟨W1, hmk, hr1, hB1, hs1⟩ := make_u8 W0 len (by omega)
  have hX1 := (hB1.block _ (by omega)).trans hX0
  rw [hs0] at hmk hr1
  have d0 : W1.cell? ⟨w.heap.size, 0, none⟩ = some (.int .i64 0) := cCc hX1 0
  have d1 : W1.cell? ⟨w.heap.size, 1, none⟩ = some (.string ⟨#[]⟩) := cCc hX1 1
  have d2 : W1.cell? ⟨w.heap.size, 2, none⟩ = some (.slice none 0 0) := cCc hX1 2
  have d3 : W1.cell? ⟨w.heap.size, 3, none⟩ = some (.nilFunc) := cCc hX1 3
  have f0 : W1.frozen? ⟨w.heap.size, 0, none⟩ = false := cFz hX1 0
  have f1 : W1.frozen? ⟨w.heap.size, 1, none⟩ = false := cFz hX1 1
  have f2 : W1.frozen? ⟨w.heap.size, 2, none⟩ = false := cFz hX1 2
  have f3 : W1.frozen? ⟨w.heap.size, 3, none⟩ = false := cFz hX1 3
  have HR := Lib.hid hr1
  have HB := Lib.hid (hB0.trans (hB1.mono hB0.size))
  obtain ⟨W4, hW4⟩ : ∃ W4, ((W1.setCell ⟨w.heap.size, 0, none⟩ (.int .i64 b)).setCell ⟨w.heap.size, 1, none⟩ (.string ⟨#[]⟩)).setCell ⟨w.heap.size, 2, none⟩ (.slice (some ⟨w.heap.size + 1, 0, none⟩) len len) = W4 := ⟨_, rfl⟩
  have hX4 : W4.heap[w.heap.size]? = some (.cells #[.int .i64 b, .string ⟨#[]⟩, .slice (some ⟨w.heap.size + 1, 0, none⟩) len len, .nilFunc] 365 (0, 0)) := by rw [← hW4]; exact hSk (hSk (hSk hX1 _) _) _
  have hB4 : Below w.heap.size w W4 := by rw [← hW4]; exact (((hB0.trans (hB1.mono hB0.size)).setCell (p := ⟨w.heap.size, 0, none⟩) (Nat.le_refl _) _).setCell (p := ⟨w.heap.size, 1, none⟩) (Nat.le_refl _) _).setCell (p := ⟨w.heap.size, 2, none⟩) (Nat.le_refl _) _
  have hr4 : RegsAt W4 (w.heap.size + 1) (List.replicate len 0) := by rw [← hW4]; exact ((hr1.other (by omega) _).other (by omega) _).other (by omega) _
  have hst := st_fn (off := 3) hX4 rfl (.func 294)
  clear hp hX0 hX1 hr1 hB0 hB1 hs1
  go_enter Tryz.func288, Tryz.ntmps288
  go_wp2_with (first | (go_at_call 234; refine (hib _).mono ?_; rintro e w' ⟨rfl, rfl⟩) | fail)
  have hX5 : (W4.setCell ⟨w.heap.size, 3, none⟩ (.func (.func 294) #[] #[])).heap[w.heap.size]? = some (.cells #[.int .i64 b, .string ⟨#[]⟩, .slice (some ⟨w.heap.size + 1, 0, none⟩) len len, .func (.func 294) #[] #[]] 365 (0, 0)) := hSk hX4 _
  have hB5 := hB4.setCell (p := ⟨w.heap.size, 3, none⟩) (Nat.le_refl _) (.func (.func 294) #[] #[])
  have hr5 := hr4.other (b := w.heap.size) (o := 3) (by omega) (.func (.func 294) #[] #[])
  generalize W4.setCell ⟨w.heap.size, 3, none⟩ (.func (.func 294) #[] #[]) = V at hX5 hB5 hr5 ⊢
  have k0 : V.cell? ⟨w.heap.size, 0, none⟩ = some (.int .i64 b) := cCc hX5 0
  have k1 : V.cell? ⟨w.heap.size, 1, none⟩ = some (.string ⟨#[]⟩) := cCc hX5 1
  have k2 : V.cell? ⟨w.heap.size, 2, none⟩ = some (.slice (some ⟨w.heap.size + 1, 0, none⟩) len len) := cCc hX5 2
  have k3 : V.cell? ⟨w.heap.size, 3, none⟩ = some (.func (.func 294) #[] #[]) := cCc hX5 3
  exact bodyPost_ret (v := .tuple #[.agg #[.int .i64 b, .string ⟨#[]⟩, .slice (some ⟨w.heap.size + 1, 0, none⟩) len len, .func (.func 294) #[] #[]], .nilIface]) (by simp [results, Tryz.f288, go_sem, k0, k1, k2, k3]) rfl ⟨_, rfl, hr5, Nat.le_succ _, hB5⟩
end Go.Proofs.YtpnlmfilmbodfaaGreatDoor
namespace Go.Proofs.YtpnlmfilmbodfaaGreatDoor
open Go Go.RowKit Go.Shelf
attribute [local go_sem] Oper.semAt_some
theorem hlStr_size (r : List Nat) : (hlStr r).size = r.length := by simp [hlStr, strOfNums, ByteArray.size]
theorem hlStr_nums (r : List Nat) (h : ∀ x ∈ r, x < 256) : (hlStr r).data.toList.map (·.toNat) = r := by
  unfold hlStr
  rw [strOfNums_data, List.map_map, List.map_map]
  conv => rhs; rw [← List.map_id r]
  refine List.map_congr_left (fun x hx => ?_)
  have := h x hx
  simp [UInt8.toNat_ofNat']
  omega
theorem le_getD {r : List Nat} {m : Nat} (h : ∀ i, r.getD i 0 ≤ m) : ∀ x ∈ r, x ≤ m := fun x hx => by
  obtain ⟨i, hi⟩ := List.getElem?_of_mem hx
  have := h i
  rwa [List.getD_eq_getElem?_getD, hi] at this
theorem hlRight_str (b : Nat) (r : List Nat) (h1 : 3 ≤ b) (h2 : b ≤ 8) (hl : r.length = 2 ^ b) (hr : ∀ i, r.getD i 0 ≤ 65 - b) : hlRight b (hlStr r) = true := by
  have h3 := le_getD hr
  have hn := hlStr_nums r (fun x hx => by have := h3 x hx; omega)
  unfold hlRight
  have e1 : isBitsB b = true := by simp [isBitsB]; omega
  have e2 : (((hlStr r).size : Int) == 2 ^ (b : Int).toNat) = true := by rw [beq_iff_eq, hlStr_size, hl, Int.toNat_natCast]; simp
  have e3 : regsOk b (hlStr r) = true := by
    unfold regsOk
    rw [List.all_eq_true]
    intro c hc
    have : c.toNat ∈ r := by rw [← hn]; exact List.mem_map_of_mem hc
    have := h3 _ this
    simp
    omega
  rw [e1, e2, e3]; rfl
theorem wp_range_all1 {α : Type} {P : Program} {g : Operand} {ps : Array Tmp} {assign body : Code} {Q : Exit → Act → World → Prop} {a : Act} {w : World} (L : List Nat) (s1 : Nat) (v1 : α → Value)
    {gf : Nat} {lb : Array Value} (hg : a.eval g = .func (.func gf) #[] lb) (eg : ∀ args w, (callFunc gf args).run P w = .ok (.enter gf args) w)
    {encs : α → Array Value} {xs : List α} {N : Nat} {w0 : World} (hseq : SeqStopsK Fence.wide 8 P gf lb encs (KL L) (fun ys => ys = xs) (fun pre => pre <+: xs) N w0)
    (hL : ∀ b ∈ L, b < w.heap.size) (hb0 : Below w0.heap.size w0 w) (hps : ∀ x, (encs x).size = ps.size)
    (I : List α → World → Prop) (hI : OwnFrom w.heap.size I) (h0 : I [] w)
    (hassign : ∀ (l : Nat) (pre : List α) (x : α) (W : World) (K : Act → World → Prop), I pre W → (I pre W → K { tmps := ((ps.zip (encs x)).foldl (fun t (p, v) => t.setIfInBounds p v) a.tmps).setIfInBounds s1 (v1 x), defers := [] } W) →
      assign.wpIn (Fence.wide.inRound l) 7 P (Exit.then K (fun _ _ _ => False)) { tmps := (ps.zip (encs x)).foldl (fun t (p, v) => t.setIfInBounds p v) a.tmps, defers := [] } W)
    (hbody : ∀ (l : Nat) (pre : List α) (x : α) (W : World), I pre W → pre.length < N → body.wpIn (Fence.wide.inRound l) 7 P (ownPostG w.heap.size (KL L) I (fun _ _ _ => False) (pre ++ [x]) W) { tmps := ((ps.zip (encs x)).foldl (fun t (p, v) => t.setIfInBounds p v) a.tmps).setIfInBounds s1 (v1 x), defers := [] } W)
    (hdone : ∀ (D : Nat) (W : World), w.heap.size ≤ D → I xs W → W.heap[D]? = some (.deferred (some [])) → Q .normal { a with defers := { target := .collected D, args := #[] } :: a.defers } W) :
    (Code.rangeFunc g ps assign body).wp P Q a w :=
  wp_range_all L (fun x => ((ps.zip (encs x)).foldl (fun t (p, v) => t.setIfInBounds p v) a.tmps).setIfInBounds s1 (v1 x)) hg eg hseq hL hb0 hps I hI h0 hassign hbody hdone
def AI (b g B : Nat) (wv : Array Value) (r : List Nat) (w : World) (pre : List { n : Int // U64 n }) (W : World) : Prop := RegsAt W g (hlSum b r (pre.map fun x => x.1.toNat)) ∧ W.heap[B]? = some (.cells wv 365 (0, 0)) ∧ w.grownBy W (some g)
theorem ai_own (b g B : Nat) (wv : Array Value) (r : List Nat) (w : World) (C : Nat) (hC : w.heap.size ≤ C) : OwnFrom C (AI b g B wv r w) := fun pre X Y row hs hg hr => by
  obtain ⟨h1, h2, h3⟩ := hs
  have hne : ∀ k o, X.heap[k]? = some o → o.isCells = true → some k ≠ row := fun k o hk hc e => by
    obtain ⟨-, o', ho', hc'⟩ := hr k e.symm
    rw [hk] at ho'
    cases ho'
    rw [hc] at hc'
    cases hc'
  obtain ⟨cs, fz, hc, -⟩ := id h1
  exact ⟨h1.grown hg (hne _ _ hc rfl), (hg.block _ (Array.getElem?_eq_some_iff.1 h2).1 (hne _ _ h2 rfl)).trans h2, h3.andThen hg (fun j e => .inl (Nat.le_trans hC (hr j e).1))⟩
set_option maxRecDepth 100000 in
set_option maxHeartbeats 2000000 in
theorem hadd_any (b : Nat) (s : ByteArray) (g cap : Nat) (r : List Nat) (l : List Int) (a : Option Addr) (len lcap : Nat) (w : World) (h1 : 3 ≤ b) (h2 : b ≤ 8) (hr : RegsAt w g r) (hl : r.length = 2 ^ b) (hL : SlE encU 1 w.heap.size w a len l) (hu : U64s l) (hne : 0 < len → ∀ x, a = some x → x.block ≠ g) (hlen : len ≤ 1000) :
    Calls Tryz.prog 290 #[.agg #[.int .i64 b, .string s, .slice (some ⟨g, 0, none⟩) (2 ^ b) cap, .func (.func 294) #[] #[]], .slice a len lcap] w fun e w' => e = .returned (.tuple #[]) ∧ RegsAt w' g (hlSum b r (l.map Int.toNat)) ∧ w.grownBy w' (some g) := by
  refine calls_marks Tryz.func290 rfl ?_
  simp only [Tryz.ntmps290, List.size_toArray, List.length_cons, List.length_nil, Nat.reduceAdd, Nat.reduceSub, Array.replicate_succ, Array.replicate_zero, List.push_toArray, List.append_toArray, List.nil_append, List.cons_append]
  obtain ⟨W0, hW0, hX0, hB0, hs0⟩ := boxes1 w #[.int .i64 b, .string s, .slice (some ⟨g, 0, none⟩) (2 ^ b) cap, .func (.func 294) #[] #[]] 365
  obtain ⟨W1, hW1, hX1, hB1, hs1⟩ := boxes1 W0 #[.slice a len lcap] 22
  have HW1 := Lib.hid hW1
  clear hW1
  go_wp2_with (go_at_call 295; refine (slicesValues_any _ _ _ _).mono ?_; rintro e w' ⟨rfl, rfl⟩; rw [HW1.out])
  have hgl := hr.lt
  have hz1 : W1.heap.size = w.heap.size + 2 := by omega
  have hbx : W1.heap[w.heap.size]? = some (.cells #[.int .i64 b, .string s, .slice (some ⟨g, 0, none⟩) (2 ^ b) cap, .func (.func 294) #[] #[]] 365 (0, 0)) := (hB1.block _ (by omega)).trans hX0
  rw [hs0] at hX1
  have hBw : Below w.heap.size w W1 := hB0.trans (hB1.mono hB0.size)
  have hgw : w.grownBy W1 (some g) := ((by rw [← hW0]; exact World.grownBy_alloc w _ _ : w.grownBy W0 (some g))).trans (by rw [← HW1.out]; exact World.grownBy_alloc W0 _ _)
  obtain ⟨bl, hbl, hblt, hblg⟩ : ∃ bl, (0 < len → ∀ x, a = some x → x.block = bl) ∧ bl < w.heap.size + 2 ∧ bl ≠ g := by
    rcases Nat.eq_zero_or_pos len with h | h
    · exact ⟨w.heap.size + 1, fun h' => by omega, by omega, by omega⟩
    · obtain ⟨x, bb, off, -, e, hb, -⟩ := hL.at h
      exact ⟨bb, fun _ y hy => by rw [e] at hy; cases hy; rfl, by omega, hne h _ e⟩
  obtain ⟨ls, hls⟩ : ∃ ls : List { n : Int // U64 n }, ls.map (·.1) = l := ⟨l.attachWith U64 (fun n hn => hu n hn), List.attachWith_map_subtype_val _⟩
  subst hls
  have hseq := values_kl (fun x : { n : Int // U64 n } => x.1) (w.heap.size + 1) bl w.heap.size a len lcap ls (by omega) W1 (by omega) hX1 (hL.below hBw) hbl
  have HL := Lib.hid hl
  have H12 : Hid (3 ≤ b ∧ b ≤ 8) := ⟨h1, h2⟩
  have hI0 : AI b g w.heap.size #[.int .i64 b, .string s, .slice (some ⟨g, 0, none⟩) (2 ^ b) cap, .func (.func 294) #[] #[]] r w [] W1 := ⟨hr.block (hBw.block _ hr.lt), hbx, hgw⟩
  clear hW0 hX0 hX1 hL hu hne hbl hl h1 h2
  refine wp_range_all1 [w.heap.size + 1, bl] 4 (fun x : { n : Int // U64 n } => .int .u64 x.1) (gf := 300) (lb := #[.pointer (some ⟨w.heap.size + 1, 0, none⟩)]) rfl (enters_of Tryz.func300 (by kernel_rfl) rfl)
    hseq (by intro k hk; simp at hk; omega) (Below.refl _ _) (fun _ => rfl) (AI b g w.heap.size #[.int .i64 b, .string s, .slice (some ⟨g, 0, none⟩) (2 ^ b) cap, .func (.func 294) #[] #[]] r w) (ai_own b g w.heap.size _ r w _ hBw.size) hI0 ?assign ?body ?fin
  case assign =>
    rintro l pre x W K hI hK
    simp only [List.zip_toArray, List.zip_cons_cons, List.zip_nil_right, List.size_toArray, List.foldl_toArray', List.foldl_cons, List.foldl_nil, List.setIfInBounds_toArray, List.set_cons_succ, List.set_cons_zero] at hK ⊢
    gi_wp2
    exact hI
  case body =>
    rintro lo pre x W ⟨hR, hX, hG⟩ hlt
    simp only [List.zip_toArray, List.zip_cons_cons, List.zip_nil_right, List.size_toArray, List.foldl_toArray', List.foldl_cons, List.foldl_nil, List.setIfInBounds_toArray, List.set_cons_succ, List.set_cons_zero]
    have hP := Place_any b x.1 W H12.out.1 H12.out.2 x.2
    have hx0 := x.2
    generalize hn : x.1 = n at hP hx0
    have hat := hlAt_lt b n.toNat H12.out.2 (by unfold U64 at hx0; omega)
    have hrk := hlRank_le b n.toNat H12.out.2
    have HS : Hid (hlTell (hlSum b r (pre.map fun x => x.1.toNat)) (hlAt b n.toNat) (hlRank b n.toNat) = hlSum b r ((pre ++ [x]).map fun x => x.1.toNat)) := by
      unfold Hid hlSum
      rw [List.map_append, List.foldl_append, List.map_singleton, hn]
      rfl
    have hlen2 := hlSum_len b (pre.map fun x => x.1.toNat) r
    rw [HL.out] at hlen2
    generalize hlAt b n.toNat = q at hP hat HS
    generalize hlRank b n.toNat = k at hP hrk HS
    generalize hlSum b r (pre.map fun x => x.1.toNat) = r1 at hR hlen2 HS
    have hT := tell_any b s g (2 ^ b) cap q k r1 W hR (by omega) hlen2
    have hku : IntKind.u8.wrap (k : Int) = (k : Int) := by have : k < 256 := by omega
                                                           simp [IntKind.wrap, IntKind.bits, IntKind.signed]; omega
    have c0 : W.cell? ⟨w.heap.size, 0, none⟩ = some (.int .i64 b) := cCc hX 0
    have c1 : W.cell? ⟨w.heap.size, 1, none⟩ = some (.string s) := cCc hX 1
    have c2 : W.cell? ⟨w.heap.size, 2, none⟩ = some (.slice (some ⟨g, 0, none⟩) (2 ^ b) cap) := cCc hX 2
    have c3 : W.cell? ⟨w.heap.size, 3, none⟩ = some (.func (.func 294) #[] #[]) := cCc hX 3
    have HG := Lib.hid hG
    have HX := Lib.hid hX
    clear hG hX hx0 hn hR hat hlen2 hrk
    gi_wp2_with fail
    refine ⟨trivial, (CallsIn.inRound lo (callsIn_wide.2 hP)).mono ?_⟩
    rintro e W6 ⟨rfl, rfl⟩
    gi_wp2_with fail
    refine ⟨trivial, (CallsIn.inRound lo (callsIn_wide.2 hT)).mono ?_⟩
    rintro e W7 ⟨rfl, hR7, hG7⟩
    gi_wp2_with fail
    refine ⟨KeepsFrom.of_grownBy hG7 (fun j e => by cases e; omega), KL.grown hG7 (fun k hk => by simp at hk; rcases hk with rfl | rfl <;> (intro e; cases e; omega)), by rw [← HS.out]; exact hR7, (hG7.block _ (Array.getElem?_eq_some_iff.1 HX.out).1 (fun e => by cases e; omega)).trans HX.out, HG.out.trans hG7⟩
  case fin =>
    rintro D W hD ⟨hR, hX, hG⟩ hK
    have hne : some g ≠ some D := fun e => by cases e; omega
    refine marks_ret1 (v := .tuple #[]) hK (results_none rfl _ _ _) ⟨rfl, ?_, ?_⟩
    · rw [List.map_map]
      exact hR.grown (grownBy_putObj' _ D _) hne
    · exact hG.andThen (grownBy_putObj' _ D _) (fun j e => by cases e; exact .inl (by omega))
end Go.Proofs.YtpnlmfilmbodfaaGreatDoor
namespace Go.Proofs.YtpnlmfilmbodfaaGreatDoor
open Go Go.RowKit Go.Shelf
set_option maxRecDepth 100000 in
set_option maxHeartbeats 1000000 in
theorem hOf_any (b : Nat) (l : List Int) (a : Option Addr) (len cap : Nat) (w : World) (h1 : 3 ≤ b) (h2 : b ≤ 8) (hL : SlE encU 1 w.heap.size w a len l) (hu : U64s l) (hlen : len ≤ 1000) :
    Calls Tryz.prog 284 #[.int .i64 b, .slice a len cap] w fun e w' => e = .returned (.tuple #[.agg #[.int .i64 b, .string (hlStr (hlSum b (hlNone b) (l.map Int.toNat)))], .int .i64 0]) ∧ Below w.heap.size w w' := by
  have hB := fun w => blank_any b w h1 h2
  obtain ⟨W0, hW0, hX0, hB0, hs0⟩ := boxes1 w #[.int .i64 0, .string ⟨#[]⟩] 26
  have HX0 := Lib.hid hX0
  have HL := Lib.hid hL
  have HU := Lib.hid hu
  have H12 : Hid (3 ≤ b ∧ b ≤ 8) := ⟨h1, h2⟩
  obtain ⟨out, hout⟩ : ∃ out, hlStr (hlSum b (hlNone b) (l.map Int.toNat)) = out := ⟨_, rfl⟩
  rw [hout]
  have HOUT := Lib.hid hout
  clear hL hu hX0 h1 h2 hout
  go_enter Tryz.func284, Tryz.ntmps284
  go_wp2_with fail
  refine (hB _).mono ?_
  rintro e w1 ⟨g, rfl, hr1, hg1, hb1⟩
  obtain ⟨W2, hW2, hX2, hB2, hs2⟩ := boxes1 w1 #[.int .i64 b, .string ⟨#[]⟩, .slice (some ⟨g, 0, none⟩) (2 ^ b) (2 ^ b), .nilFunc] 365
  have hst := st_fn (off := 3) hX2 rfl (.func 294)
  obtain ⟨W3, hW3⟩ : ∃ W3, W2.setCell ⟨w1.heap.size, 3, none⟩ (.func (.func 294) #[] #[]) = W3 := ⟨_, rfl⟩
  have hX3 : W3.heap[w1.heap.size]? = some (.cells #[.int .i64 b, .string ⟨#[]⟩, .slice (some ⟨g, 0, none⟩) (2 ^ b) (2 ^ b), .func (.func 294) #[] #[]] 365 (0, 0)) := by rw [← hW3]; exact hSk hX2 _
  have hgl := hr1.lt
  have hB13 : Below w1.heap.size w1 W3 := by rw [← hW3]; exact hB2.setCell (p := ⟨w1.heap.size, 3, none⟩) (Nat.le_refl _) _
  have hr3 : RegsAt W3 g (hlNone b) := hr1.go hB13
  have hBw : Below w.heap.size w W3 := (hB0.trans (hb1.mono hB0.size)).trans (hB13.mono (by have := hb1.size; omega))
  have hA := hadd_any b ⟨#[]⟩ g (2 ^ b) (hlNone b) l a len cap W3 H12.out.1 H12.out.2 hr3 (by simp [hlNone]) ((HL.out.below hBw).mono hBw.size) HU.out (fun h x hx => by obtain ⟨y, bb, off, -, e, hb, -⟩ := HL.out.at h; rw [e] at hx; cases hx; show bb ≠ g; omega) hlen
  have c0 : W3.cell? ⟨w1.heap.size, 0, none⟩ = some (.int .i64 b) := cCc hX3 0
  have c1 : W3.cell? ⟨w1.heap.size, 1, none⟩ = some (.string ⟨#[]⟩) := cCc hX3 1
  have c2 : W3.cell? ⟨w1.heap.size, 2, none⟩ = some (.slice (some ⟨g, 0, none⟩) (2 ^ b) (2 ^ b)) := cCc hX3 2
  have c3 : W3.cell? ⟨w1.heap.size, 3, none⟩ = some (.func (.func 294) #[] #[]) := cCc hX3 3
  have HR := Lib.hid (hlSum_len b (l.map Int.toNat) (hlNone b))
  clear hX2 hr1 hr3 hB2
  go_wp2_with fail
  refine hA.mono ?_
  rintro e w4 ⟨rfl, hr4, hg4⟩
  have hX4 := (hg4.block _ (Array.getElem?_eq_some_iff.1 hX3).1 (fun e => by cases e; omega)).trans hX3
  have hB4 : Below w.heap.size w w4 := hBw.grown hg4 hBw.size (fun k e => by cases e; omega)
  have hX04 := known (hb1.trans (hB13.mono hb1.size)) (Nat.le_refl _) HX0.out
  have hX05 := (hg4.block _ (Array.getElem?_eq_some_iff.1 hX04).1 (fun e => by cases e; omega)).trans hX04
  have hD := hdone_any b ⟨#[]⟩ g (2 ^ b) (2 ^ b) (.func (.func 294) #[] #[]) _ w4 hr4 (by rw [HR.out]; simp [hlNone])
  rw [HOUT.out] at hD
  have d0 : w4.cell? ⟨w1.heap.size, 0, none⟩ = some (.int .i64 b) := cCc hX4 0
  have d1 : w4.cell? ⟨w1.heap.size, 1, none⟩ = some (.string ⟨#[]⟩) := cCc hX4 1
  have d2 : w4.cell? ⟨w1.heap.size, 2, none⟩ = some (.slice (some ⟨g, 0, none⟩) (2 ^ b) (2 ^ b)) := cCc hX4 2
  have d3 : w4.cell? ⟨w1.heap.size, 3, none⟩ = some (.func (.func 294) #[] #[]) := cCc hX4 3
  go_wp2_with fail
  refine hD.mono ?_
  rintro e w5 ⟨rfl, hb5⟩
  have hX5 := known hb5 (Nat.le_refl _) hX05
  have hB5 := hB4.trans (hb5.mono hB4.size)
  have q0 : w5.cell? ⟨w.heap.size, 0, none⟩ = some (.int .i64 0) := cCc hX5 0
  have q1 : w5.cell? ⟨w.heap.size, 1, none⟩ = some (.string ⟨#[]⟩) := cCc hX5 1
  have f0 : w5.frozen? ⟨w.heap.size, 0, none⟩ = false := cFz hX5 0
  have f1 : w5.frozen? ⟨w.heap.size, 1, none⟩ = false := cFz hX5 1
  have hX6 := set_cells2 (u := .int .i64 b) (v := .string out) hX5
  have hB6 := (hB5.setCell (p := ⟨w.heap.size, 0, none⟩) (Nat.le_refl _) (.int .i64 b)).setCell (p := ⟨w.heap.size, 1, none⟩) (Nat.le_refl _) (.string out)
  go_wp2_with fail
  generalize (w5.setCell ⟨w.heap.size, 0, none⟩ (.int .i64 b)).setCell ⟨w.heap.size, 1, none⟩ (.string out) = V at hX6 hB6 ⊢
  have k0 : V.cell? ⟨w.heap.size, 0, none⟩ = some (.int .i64 b) := cCc hX6 0
  have k1 : V.cell? ⟨w.heap.size, 1, none⟩ = some (.string out) := cCc hX6 1
  exact bodyPost_ret (v := .tuple #[.agg #[.int .i64 b, .string out], .int .i64 0]) (by simp [results, Tryz.f284, go_sem, k0, k1]) rfl ⟨rfl, hB6⟩
end Go.Proofs.YtpnlmfilmbodfaaGreatDoor
namespace Go.Proofs.YtpnlmfilmbodfaaGreatDoor
open Go Go.RowKit Go.Shelf
def lowK (b : Nat) (r : List Nat) (k : Nat) : List Nat := (List.range (2 ^ (b - 1))).map fun i => if i < k then max (upR (r.getD (2 * i) 0)) (oneR (r.getD (2 * i + 1) 0)) else 0
theorem lowK_len (b : Nat) (r : List Nat) (k : Nat) : (lowK b r k).length = 2 ^ (b - 1) := by simp [lowK]
theorem lowK_at (b : Nat) (r : List Nat) (k i : Nat) (hi : i < 2 ^ (b - 1)) : (lowK b r k).getD i 0 = if i < k then max (upR (r.getD (2 * i) 0)) (oneR (r.getD (2 * i + 1) 0)) else 0 := by
  simp [lowK, List.getD_eq_getElem?_getD, hi]
theorem lowK_0 (b : Nat) (r : List Nat) : lowK b r 0 = hlNone (b - 1) := by
  refine getD_ext _ _ (by rw [lowK_len]; simp [hlNone]) (fun i hi => ?_)
  rw [lowK_len] at hi
  rw [lowK_at _ _ _ _ hi, if_neg (by omega)]
  simp [hlNone, List.getD_eq_getElem?_getD, hi]
theorem lowK_all (b : Nat) (r : List Nat) : lowK b r (2 ^ (b - 1)) = hlLow b r := by
  refine getD_ext _ _ (by rw [lowK_len, hlLow_len]) (fun i hi => ?_)
  rw [lowK_len] at hi
  rw [lowK_at _ _ _ _ hi, if_pos hi, low_at _ _ _ hi]
theorem lowK_step (b : Nat) (r : List Nat) (k : Nat) : hlTell (hlTell (lowK b r k) k (upR (r.getD (2 * k) 0))) k (oneR (r.getD (2 * k + 1) 0)) = lowK b r (k + 1) := by
  refine getD_ext _ _ (by simp only [hlTell_len, lowK_len]) (fun i hi => ?_)
  simp only [hlTell_len, lowK_len] at hi
  rw [tell_at, tell_at, lowK_at _ _ _ _ hi, lowK_at _ _ _ _ hi, hlTell_len, lowK_len]
  by_cases h : k = i
  · subst h
    rw [if_pos ⟨rfl, hi⟩, if_pos ⟨rfl, hi⟩, if_neg (by omega), if_pos (by omega)]
    omega
  · rw [if_neg (fun e => h e.1), if_neg (fun e => h e.1)]
    by_cases h2 : i < k
    · rw [if_pos h2, if_pos (by omega)]
    · rw [if_neg h2, if_neg (by omega)]
theorem tell_zero (r : List Nat) (p : Nat) : hlTell r p 0 = r := by
  refine getD_ext _ _ (hlTell_len _ _ _) (fun i _ => ?_)
  rw [tell_at]
  split <;> omega
theorem str_byte (r : List Nat) (h : ∀ x ∈ r, x < 256) (i : Nat) (hi : i < (hlStr r).size) : ((hlStr r)[i]'hi).toNat = r.getD i 0 := by
  have h1 := hlStr_nums r h
  have h2 : (hlStr r).data.toList[i]? = some ((hlStr r)[i]'hi) := by
    rw [List.getElem?_eq_getElem (by rw [Array.length_toList]; exact hi)]; rfl
  have h3 : r[i]? = some ((hlStr r)[i]'hi).toNat := by
    conv => lhs; rw [← h1]
    rw [List.getElem?_map, h2]; rfl
  rw [List.getD_eq_getElem?_getD, h3]; rfl
set_option maxRecDepth 100000 in
set_option maxHeartbeats 2000000 in
theorem hLower_any (b : Nat) (r : List Nat) (w : World) (h1 : 4 ≤ b) (h2 : b ≤ 8) (hl : r.length = 2 ^ b) (hr : ∀ i, r.getD i 0 ≤ 65 - b) :
    Calls Tryz.prog 312 #[.agg #[.int .i64 b, .string (hlStr r)]] w fun e w' => e = .returned (.tuple #[.agg #[.int .i64 ((b - 1 : Nat) : Int), .string (hlStr (hlLow b r))], .int .i64 0]) ∧ Below w.heap.size w w' := by
  have hR : Hid (∀ w1, Calls Tryz.prog 212 #[.agg #[.int .i64 b, .string (hlStr r)]] w1 fun e w' => e = .returned (.bool true) ∧ Below w1.heap.size w1 w') := fun w1 => (hll_Right_any b (hlStr r) w1).mono fun e w' h => ⟨by rw [h.1, hlRight_str b r (by omega) h2 hl hr], h.2⟩
  have hB : Hid (∀ w, Calls Tryz.prog 288 #[.int .i64 ((b : Int) - 1)] w fun e w' => ∃ g, e = .returned (.tuple #[.agg #[.int .i64 ((b : Int) - 1), .string ⟨#[]⟩, .slice (some ⟨g, 0, none⟩) (2 ^ (b - 1)) (2 ^ (b - 1)), .func (.func 294) #[] #[]], .nilIface]) ∧ RegsAt w' g (hlNone (b - 1)) ∧ w.heap.size ≤ g ∧ Below w.heap.size w w') := fun w => by
    have := blank_any (b - 1) w (by omega) (by omega)
    rw [show (((b - 1 : Nat)) : Int) = (b : Int) - 1 by omega] at this
    exact this
  have hby : Hid (∀ (i : Nat) (hi : i < (hlStr r).size), ((hlStr r)[i]'hi).toNat = r.getD i 0) := fun i hi => str_byte r (fun x hx => by have := le_getD hr x hx; omega) i hi
  have hz := hlStr_size r
  rw [hl] at hz
  rw [show (((b - 1 : Nat)) : Int) = (b : Int) - 1 by omega]
  obtain ⟨out, hout⟩ : ∃ out, hlStr (hlLow b r) = out := ⟨_, rfl⟩
  rw [hout]
  have HOUT := Lib.hid hout
  have HRG := Lib.hid hr
  generalize hlStr r = s at hR hby hz ⊢
  have HZ := Lib.hid hz
  have H12 : Hid (4 ≤ b ∧ b ≤ 8) := ⟨h1, h2⟩
  obtain ⟨W0, hW0, hXp, hX0, hB0, hs0⟩ := boxes2 w #[.int .i64 b, .string s] 26 #[.int .i64 0, .string ⟨#[]⟩] 26
  have HX0 := Lib.hid hX0
  have HXP := Lib.hid hXp
  have z0 : W0.cell? ⟨w.heap.size, 0, none⟩ = some (.int .i64 b) := cCc hXp 0
  have z1 : W0.cell? ⟨w.heap.size, 1, none⟩ = some (.string s) := cCc hXp 1
  clear hX0 hl hr hXp hout hz
  go_enter Tryz.func312, Tryz.ntmps312
  go_wp2_with fail
  refine (hR.out _).mono ?_
  rintro e w1 ⟨rfl, hb1⟩
  have hXp1 := known hb1 (Nat.le_refl _) HXP.out
  have y0 : w1.cell? ⟨w.heap.size, 0, none⟩ = some (.int .i64 b) := cCc hXp1 0
  have y1 : w1.cell? ⟨w.heap.size, 1, none⟩ = some (.string s) := cCc hXp1 1
  go_wp2_with fail
  refine (hB.out _).mono ?_
  rintro e w2 ⟨g, rfl, hr2, hg2, hb2⟩
  obtain ⟨W2, hW2, hX2, hB2, hs2⟩ := boxes1 w2 #[.int .i64 ((b : Int) - 1), .string ⟨#[]⟩, .slice (some ⟨g, 0, none⟩) (2 ^ (b - 1)) (2 ^ (b - 1)), .nilFunc] 365
  have hst := st_fn (off := 3) hX2 rfl (.func 294)
  obtain ⟨W3, hW3⟩ : ∃ W3, W2.setCell ⟨w2.heap.size, 3, none⟩ (.func (.func 294) #[] #[]) = W3 := ⟨_, rfl⟩
  have hX3 : W3.heap[w2.heap.size]? = some (.cells #[.int .i64 ((b : Int) - 1), .string ⟨#[]⟩, .slice (some ⟨g, 0, none⟩) (2 ^ (b - 1)) (2 ^ (b - 1)), .func (.func 294) #[] #[]] 365 (0, 0)) := by rw [← hW3]; exact hSk hX2 _
  have hgl := hr2.lt
  have hB23 : Below w2.heap.size w2 W3 := by rw [← hW3]; exact hB2.setCell (p := ⟨w2.heap.size, 3, none⟩) (Nat.le_refl _) _
  have hs3 : W3.heap.size = w2.heap.size + 1 := by rw [← hW3, size_set, hs2]
  have hB02 : Below w.heap.size w w2 := (hB0.trans (hb1.mono hB0.size)).trans (hb2.mono (by have := hb1.size; omega))
  have hBw : Below w.heap.size w W3 := hB02.trans (hB23.mono hB02.size)
  have hr3 := hr2.go hB23
  have c0 : W3.cell? ⟨w2.heap.size, 0, none⟩ = some (.int .i64 ((b : Int) - 1)) := cCc hX3 0
  have c1 : W3.cell? ⟨w2.heap.size, 1, none⟩ = some (.string ⟨#[]⟩) := cCc hX3 1
  have c2 : W3.cell? ⟨w2.heap.size, 2, none⟩ = some (.slice (some ⟨g, 0, none⟩) (2 ^ (b - 1)) (2 ^ (b - 1))) := cCc hX3 2
  have c3 : W3.cell? ⟨w2.heap.size, 3, none⟩ = some (.func (.func 294) #[] #[]) := cCc hX3 3
  have hN8 : 2 ^ (b - 1) ≤ 2 ^ 7 := Nat.pow_le_pow_right (by omega) (by have := H12.out.2; omega)
  have hw : wrap64 (2 ^ (b - 1)) = ((2 ^ (b - 1) : Nat) : Int) := by
    have h9 : ∀ n : Nat, n ≤ 128 → wrap64 (n : Int) = n := fun n h => wrap64_nat n (by omega)
    simpa using h9 (2 ^ (b - 1)) hN8
  have hZN : Hid (s.size = 2 * 2 ^ (b - 1)) := by have := HZ.out; rw [← Nat.pow_succ', show (b - 1).succ = b by have := H12.out.1; omega]; exact this
  have HK0 := Lib.hid (lowK_0 b r)
  have HKA := Lib.hid (lowK_all b r)
  have HKL := Lib.hid (fun k => lowK_len b r k)
  generalize 2 ^ (b - 1) = N at hN8 hw hZN HKA HKL c2 hX3 hr3 hW2 hX2 ⊢
  have HT : Hid (∀ (W : World) (rr : List Nat) (p q : Nat), RegsAt W g rr → rr.length = N → p < N → Calls Tryz.prog 297 #[.agg #[.int .i64 ((b : Int) - 1), .string ⟨#[]⟩, .slice (some ⟨g, 0, none⟩) N N, .func (.func 294) #[] #[]], .int .i64 p, .int .u8 q] W fun e w' => e = .returned (.tuple #[]) ∧ RegsAt w' g (hlTell rr p q) ∧ W.grownBy w' (some g)) := fun W rr p q h hlen hp => tell_any _ _ g N N p q rr W h (by omega) hlen
  have HBX : Hid (∀ W, W3.grownBy W (some g) → W.heap[w2.heap.size]? = some (.cells #[.int .i64 ((b : Int) - 1), .string ⟨#[]⟩, .slice (some ⟨g, 0, none⟩) N N, .func (.func 294) #[] #[]] 365 (0, 0)) ∧ W.heap[w.heap.size]? = some (.cells #[.int .i64 b, .string s] 26 (0, 0)) ∧ W.heap[w.heap.size + 1]? = some (.cells #[.int .i64 0, .string ⟨#[]⟩] 26 (0, 0))) := fun W hG => by
    have h1 := hb1.size
    have h2 := hb2.size
    refine ⟨(hG.block _ (Array.getElem?_eq_some_iff.1 hX3).1 (fun e => by cases e; omega)).trans hX3, ?_, ?_⟩
    · exact (hG.block w.heap.size (by omega) (fun e => by cases e; omega)).trans (known (hb2.trans (hB23.mono hb2.size)) (Nat.le_refl _) hXp1)
    · exact (hG.block (w.heap.size + 1) (by omega) (fun e => by cases e; omega)).trans (known (hb2.trans (hB23.mono hb2.size)) (Nat.le_refl _) (known hb1 (Nat.le_refl _) HX0.out))
  have HBW := Lib.hid hBw
  have HGG : Hid (w.heap.size ≤ g) := by have := hb1.size; show w.heap.size ≤ g; omega
  clear hX2 hX3 hXp1 hB2 hB23 hb1 hb2 hBw hB02 hR hB hr2
  go_wp2_with fail
  rw [hw]
  go_loopw [6, 7, 28] (fun _ _ i wr => ∃ k : Nat, k ≤ N ∧ i = .int .i64 k ∧ RegsAt wr g (lowK b r k) ∧ W3.grownBy wr (some g)) (fun _ _ i _ => N - (intOf i).toNat)
  case atStart => exact ⟨0, Nat.zero_le _, rfl, by rw [HK0.out]; exact hr3, World.grownBy.refl _ _⟩
  case round =>
    obtain ⟨k, hk, rfl, hR, hG⟩ := hrel
    obtain ⟨hX5, hXp5, hX05⟩ := HBX.out wr hG
    have d0 : wr.cell? ⟨w2.heap.size, 0, none⟩ = some (.int .i64 ((b : Int) - 1)) := cCc hX5 0
    have d1 : wr.cell? ⟨w2.heap.size, 1, none⟩ = some (.string ⟨#[]⟩) := cCc hX5 1
    have d2 : wr.cell? ⟨w2.heap.size, 2, none⟩ = some (.slice (some ⟨g, 0, none⟩) N N) := cCc hX5 2
    have d3 : wr.cell? ⟨w2.heap.size, 3, none⟩ = some (.func (.func 294) #[] #[]) := cCc hX5 3
    have u0 : wr.cell? ⟨w.heap.size, 0, none⟩ = some (.int .i64 b) := cCc hXp5 0
    have u1 : wr.cell? ⟨w.heap.size, 1, none⟩ = some (.string s) := cCc hXp5 1
    have HG := Lib.hid hG
    by_cases hlt : k < N
    · have hs1 : 2 * k < s.size := by have := hZN.out; omega
      have hs2 : 2 * k + 1 < s.size := by have := hZN.out; omega
      have ex := hby.out (2 * k) hs1
      have ey := hby.out (2 * k + 1) hs2
      have HS := Lib.hid (lowK_step b r k)
      have hx256 : r.getD (2 * k) 0 ≤ 65 := by have := HRG.out (2 * k); omega
      generalize r.getD (2 * k) 0 = x at ex HS hx256
      generalize r.getD (2 * k + 1) 0 = y at ey HS
      have hlk := HKL.out k
      generalize lowK b r k = r0 at hR HS hlk
      have hm : ((x : Int) + 1) % 256 = ((x + 1 : Nat) : Int) := by omega
      clear hX5 hXp5 hX05 hG
      by_cases hx : x = 0
      · subst hx
        by_cases hy : y = 0
        · subst hy
          go_wp2_with fail
          go_roundw
          case rel => exact ⟨k + 1, by omega, by simp, by rw [← HS.out]; show RegsAt _ g (hlTell (hlTell r0 k 0) k 0); rw [tell_zero, tell_zero]; exact hR, HG.out⟩
          case measure => simp [intOf]; omega
        · have t1 : ((y : Int) != 0) = true := by rw [bne_iff_ne]; omega
          go_wp2_with fail
          refine (HT.out wr r0 k 1 hR hlk hlt).mono ?_
          rintro e w6 ⟨rfl, hR6, hG6⟩
          go_wp2_with fail
          go_roundw
          case rel => exact ⟨k + 1, by omega, by simp, by rw [← HS.out]; show RegsAt _ g (hlTell (hlTell r0 k 0) k (oneR y)); rw [tell_zero, show oneR y = 1 from if_neg hy]; exact hR6, HG.out.trans hG6⟩
          case measure => simp [intOf]; omega
      · have t0 : ((x : Int) != 0) = true := by rw [bne_iff_ne]; omega
        have hux : upR x = x + 1 := if_neg hx
        rw [hux] at HS
        go_wp2_with fail
        refine (HT.out wr r0 k (x + 1) hR hlk hlt).mono ?_
        rintro e w6 ⟨rfl, hR6, hG6⟩
        obtain ⟨hX6, hXp6, hX06⟩ := HBX.out w6 (HG.out.trans hG6)
        have a0 : w6.cell? ⟨w2.heap.size, 0, none⟩ = some (.int .i64 ((b : Int) - 1)) := cCc hX6 0
        have a1 : w6.cell? ⟨w2.heap.size, 1, none⟩ = some (.string ⟨#[]⟩) := cCc hX6 1
        have a2 : w6.cell? ⟨w2.heap.size, 2, none⟩ = some (.slice (some ⟨g, 0, none⟩) N N) := cCc hX6 2
        have a3 : w6.cell? ⟨w2.heap.size, 3, none⟩ = some (.func (.func 294) #[] #[]) := cCc hX6 3
        have v0 : w6.cell? ⟨w.heap.size, 0, none⟩ = some (.int .i64 b) := cCc hXp6 0
        have v1 : w6.cell? ⟨w.heap.size, 1, none⟩ = some (.string s) := cCc hXp6 1
        by_cases hy : y = 0
        · subst hy
          clear hX6 hXp6 hX06
          go_wp2_with fail
          go_roundw
          case rel => exact ⟨k + 1, by omega, by simp, by rw [← HS.out]; show RegsAt _ g (hlTell (hlTell r0 k (x + 1)) k 0); rw [tell_zero]; exact hR6, HG.out.trans hG6⟩
          case measure => simp [intOf]; omega
        · have t1 : ((y : Int) != 0) = true := by rw [bne_iff_ne]; omega
          clear hX6 hXp6 hX06
          go_wp2_with fail
          refine (HT.out w6 _ k 1 hR6 (by rw [hlTell_len]; exact hlk) hlt).mono ?_
          rintro e w7 ⟨rfl, hR7, hG7⟩
          go_wp2_with fail
          go_roundw
          case rel => exact ⟨k + 1, by omega, by simp, by rw [← HS.out, show oneR y = 1 from if_neg hy]; exact hR7, (HG.out.trans hG6).trans hG7⟩
          case measure => simp [intOf]; omega
    · obtain rfl : k = N := by omega
      have hD := hdone_any ((b : Int) - 1) ⟨#[]⟩ g k k (.func (.func 294) #[] #[]) _ wr hR (HKL.out k)
      rw [HKA.out, HOUT.out] at hD
      have hB4 : Below w.heap.size w wr := HBW.out.grown HG.out HBW.out.size (fun j e => by cases e; exact HGG.out)
      clear hR hX5 hXp5 hG
      go_wp2_with fail
      refine hD.mono ?_
      rintro e w5 ⟨rfl, hb5⟩
      have hX5 := known hb5 (Nat.le_refl _) hX05
      have hB5 := hB4.trans (hb5.mono hB4.size)
      have q0 : w5.cell? ⟨w.heap.size + 1, 0, none⟩ = some (.int .i64 0) := cCc hX5 0
      have q1 : w5.cell? ⟨w.heap.size + 1, 1, none⟩ = some (.string ⟨#[]⟩) := cCc hX5 1
      have f0 : w5.frozen? ⟨w.heap.size + 1, 0, none⟩ = false := cFz hX5 0
      have f1 : w5.frozen? ⟨w.heap.size + 1, 1, none⟩ = false := cFz hX5 1
      have hX6 := set_cells2 (u := .int .i64 ((b : Int) - 1)) (v := .string out) hX5
      have hB6 := (hB5.setCell (p := ⟨w.heap.size + 1, 0, none⟩) (Nat.le_succ _) (.int .i64 ((b : Int) - 1))).setCell (p := ⟨w.heap.size + 1, 1, none⟩) (Nat.le_succ _) (.string out)
      go_wp2_with fail
      generalize (w5.setCell ⟨w.heap.size + 1, 0, none⟩ (.int .i64 ((b : Int) - 1))).setCell ⟨w.heap.size + 1, 1, none⟩ (.string out) = V at hX6 hB6 ⊢
      have j0 : V.cell? ⟨w.heap.size + 1, 0, none⟩ = some (.int .i64 ((b : Int) - 1)) := cCc hX6 0
      have j1 : V.cell? ⟨w.heap.size + 1, 1, none⟩ = some (.string out) := cCc hX6 1
      exact bodyPost_ret (v := .tuple #[.agg #[.int .i64 ((b : Int) - 1), .string out], .int .i64 0]) (by simp [results, Tryz.f312, go_sem, j0, j1]) rfl ⟨rfl, hB6⟩
end Go.Proofs.YtpnlmfilmbodfaaGreatDoor
