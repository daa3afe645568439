/- aviarylaw10.Few. Package hll: tell, done, blank, begin. Package hll: done, blank, begin. Package hll: begin, add. Package hll: Of, Add, Lower. Package hll: Lower. Histograms as plain data: bins put into rising bins, buckets half as fine. No program in sight. Sketches at work as plain data: a number added, one level lower. No program in sight. Sketches at work as plain data: two merged. No program in sight. -/
import Derived.Test.YthbhmnakmhambaaGreatDoorZL4
import Derived.Test.YthbhmnakmhambaaGreatDoorZF6
import Derived.Test.YthbhmnakmhambaaGreatDoorZA8
namespace Go.Proofs.YthbhmnakmhambaaGreatDoor
open Go Go.RowKit
def Sk.cut (x : Sk) : Sk := { x with e := x.e.take 70, hr := cutN 260 x.hr, cl := x.cl.take 200, gl := x.gl.take 300 }
def SS.cut (s : SS) : SS := { s with el := min s.el 70, cl := min s.cl 200, gl := min s.gl 300 }
theorem SlC.take_min {α : Type} {enc : α → List Value} {k n₀ : Nat} {w : World} {a : Option Addr} {len cap : Nat} {l : List α} (h : SlC enc k n₀ w a len cap l) (m : Nat) : SlC enc k n₀ w a (min len m) cap (l.take m) := by
 have h1 := h.take (min len m) (Nat.min_le_left _ _)
 have h2 : l.take (min len m) = l.take m := by rw [h.1.1, Nat.min_comm]; exact List.take_eq_take_min.symm
 rwa [h2] at h1
theorem SS.At.cut {s : SS} {n : Nat} {w : World} {x : Sk} (h : s.At n w x) : s.cut.At n w x.cut := ⟨h.e.take_min 70, h.c.take_min 200, h.g.take_min 300⟩
theorem wp_region_class_lit {P : Program} (Inv : World → Prop) {id : Nat} {Q : Exit → Act → World → Prop} {a : Act} {w : World} {L l : List Oper} {o : Oper} (hl : L = l ++ [o]) (hm : P.follows .mixedOrders = true) (hB : Region.lexB .any l.toArray = true) (hb : lastB .any l.toArray o = true) (hC : Inv w.drew)
  (h : wpQuiet P l.toArray (fun w' => ∃ X : WIn Inv, w' = X.world) (fun a' => ∀ w', (∃ X : WIn Inv, w' = X.world) → o.wp P a' w' (fun a'' w'' => Q .normal a'' w'') Q) l a) : (Code.region id L.toArray true).wp P Q a w := by
 subst hl
 exact wp_region_class_last Inv hm hB hb hC h
theorem und_sketch : Tryz.prog.underlying 39 = some (.struct (Tryz.prog.fieldsOf 39)) := by kernel_rfl
theorem size_sketch : (Tryz.prog.info? 39).map (·.size) = some 10 := by kernel_rfl
structure FewIn (x : Sk) (s : SS) (w W : World) : Prop where
 box : W.heap[w.heap.size]? = some (.cells #[.int .i64 x.kind, .int .i64 x.level, .slice s.ea s.el s.ec, .int .i64 x.hb, .string x.hr, .int .i64 x.cr, .int .i64 x.cc, .slice s.ca s.cl s.cc, .int .i64 x.gf, .slice s.ga s.gl s.gc] 39 (0, 0))
 res : W.heap[w.heap.size + 1]? = some (.cells #[.int .i64 0, .int .i64 0, .slice none 0 0, .int .i64 0, .string ⟨#[]⟩, .int .i64 0, .int .i64 0, .slice none 0 0, .int .i64 0, .slice none 0 0] 39 (0, 0))
 below : Below w.heap.size w W
theorem FewIn.go {x : Sk} {s : SS} {w W W' : World} (h : FewIn x s w W) (hb : Below W.heap.size W W') : FewIn x s w W' := ⟨known hb (Nat.le_refl _) h.box, known hb (Nat.le_refl _) h.res, h.below.trans (hb.mono h.below.size)⟩
set_option maxRecDepth 100000 in
set_option maxHeartbeats 2000000 in
theorem few10_any (x : Sk) (s : SS) (w : World) (h : s.At w.heap.size w x) :
  Calls Tryz.prog 51 #[skVal x s] w fun e w' => e = .returned (skVal x.cut s.cut) ∧ Below w.heap.size w w' := by
 have he := h.e.2.1
 have hc := h.c.2.1
 have hg := h.g.2.1
 unfold skVal
 obtain ⟨W0, hW0, hX0, hX1, hB0, hs0⟩ := boxes2 w #[.int .i64 x.kind, .int .i64 x.level, .slice s.ea s.el s.ec, .int .i64 x.hb, .string x.hr, .int .i64 x.cr, .int .i64 x.cc, .slice s.ca s.cl s.cc, .int .i64 x.gf, .slice s.ga s.gl s.gc] 39 #[.int .i64 0, .int .i64 0, .slice none 0 0, .int .i64 0, .string ⟨#[]⟩, .int .i64 0, .int .i64 0, .slice none 0 0, .int .i64 0, .slice none 0 0] 39
 have hI : FewIn x s w W0 := ⟨hX0, hX1, hB0⟩
 let Inv : World → Prop := FewIn x s w
 have hgo : ∀ W W', Inv W → Below W.heap.size W W' → Inv W' := fun W W' h hb => FewIn.go h hb
 have q0 : ∀ X : WIn Inv, X.world.cell? ⟨w.heap.size, 0, none⟩ = some (.int .i64 x.kind) := fun X => cCc X.ok.box 0
 have q1 : ∀ X : WIn Inv, X.world.cell? ⟨w.heap.size, 1, none⟩ = some (.int .i64 x.level) := fun X => cCc X.ok.box 1
 have q2 : ∀ X : WIn Inv, X.world.cell? ⟨w.heap.size, 2, none⟩ = some (.slice s.ea s.el s.ec) := fun X => cCc X.ok.box 2
 have q3 : ∀ X : WIn Inv, X.world.cell? ⟨w.heap.size, 3, none⟩ = some (.int .i64 x.hb) := fun X => cCc X.ok.box 3
 have q4 : ∀ X : WIn Inv, X.world.cell? ⟨w.heap.size, 4, none⟩ = some (.string x.hr) := fun X => cCc X.ok.box 4
 have q5 : ∀ X : WIn Inv, X.world.cell? ⟨w.heap.size, 5, none⟩ = some (.int .i64 x.cr) := fun X => cCc X.ok.box 5
 have q6 : ∀ X : WIn Inv, X.world.cell? ⟨w.heap.size, 6, none⟩ = some (.int .i64 x.cc) := fun X => cCc X.ok.box 6
 have q7 : ∀ X : WIn Inv, X.world.cell? ⟨w.heap.size, 7, none⟩ = some (.slice s.ca s.cl s.cc) := fun X => cCc X.ok.box 7
 have q8 : ∀ X : WIn Inv, X.world.cell? ⟨w.heap.size, 8, none⟩ = some (.int .i64 x.gf) := fun X => cCc X.ok.box 8
 have q9 : ∀ X : WIn Inv, X.world.cell? ⟨w.heap.size, 9, none⟩ = some (.slice s.ga s.gl s.gc) := fun X => cCc X.ok.box 9
 have K6 : Hid (∀ X : WIn Inv, Calls Tryz.prog 81 #[.agg #[.slice s.ea s.el s.ec]] X.world fun e w' => e = .returned (.agg #[.slice s.ea (min s.el 70) s.ec]) ∧ ∃ Y : WIn Inv, w' = Y.world) := fun X => calls_class_below hgo (few06_any _ _ _ X.world he)
 have K7 : Hid (∀ X : WIn Inv, Calls Tryz.prog 82 #[.agg #[.int .i64 x.hb, .string x.hr]] X.world fun e w' => e = .returned (.agg #[.int .i64 x.hb, .string (cutN 260 x.hr)]) ∧ ∃ Y : WIn Inv, w' = Y.world) := fun X => calls_class_below hgo (few07_any _ _ X.world)
 have K8 : Hid (∀ X : WIn Inv, Calls Tryz.prog 83 #[.agg #[.int .i64 x.cr, .int .i64 x.cc, .slice s.ca s.cl s.cc]] X.world fun e w' => e = .returned (.agg #[.int .i64 x.cr, .int .i64 x.cc, .slice s.ca (min s.cl 200) s.cc]) ∧ ∃ Y : WIn Inv, w' = Y.world) := fun X => calls_class_below hgo (few08_any _ _ _ _ _ X.world hc)
 have K9 : Hid (∀ X : WIn Inv, Calls Tryz.prog 84 #[.agg #[.int .i64 x.gf, .slice s.ga s.gl s.gc]] X.world fun e w' => e = .returned (.agg #[.int .i64 x.gf, .slice s.ga (min s.gl 300) s.gc]) ∧ ∃ Y : WIn Inv, w' = Y.world) := fun X => calls_class_below hgo (few09_any _ _ _ _ X.world hg)
 have hfin : Hid (∀ X : WIn Inv, FewIn x s w X.world) := fun X => X.ok
 have hI0 : Hid (Inv W0.drew) := hI.go (Below.refl _ _).drew
 have hne : Nonempty (WIn Inv) := ⟨⟨_, hI0.out⟩⟩
 clear h hI hgo hX0 hX1 hB0 hs0
 clear_value Inv
 go_enter Tryz.func51, Tryz.ntmps51
 go_wp2_with fail
 refine wp_region_class_lit Inv (l := [_, _, _, _, _, _, _, _, _, _, _, _, _, _, _, _, _]) (o := _) rfl (by kernel_rfl) (by kernel_rfl) (by kernel_rfl) hI0.out ?_
 repeat (first | go_big_quiet_step ((first | (go_at_call 81; with_reducible exact K6.out _) | (go_at_call 82; with_reducible exact K7.out _) | (go_at_call 83; with_reducible exact K8.out _) | (go_at_call 84; with_reducible exact K9.out _))) | quiet_step ((first | (go_at_call 81; with_reducible exact K6.out _) | (go_at_call 82; with_reducible exact K7.out _) | (go_at_call 83; with_reducible exact K8.out _) | (go_at_call 84; with_reducible exact K9.out _))))
 refine wpQuiet_nil ?_
 rintro _ ⟨X, rfl⟩
 have hF := hfin.out X
 have hres := hF.res
 have hbel := hF.below
 generalize X.world = W at hres hbel
 clear hF hfin hI0 hne K6 K7 K8 K9 q0 q1 q2 q3 q4 q5 q6 q7 q8 q9 hW0
 obtain ⟨d0, d1, d2, d3, d4, d5, d6, d7, d8, d9⟩ := cl10 hres
 obtain ⟨f0, f1, f2, f3, f4, f5, f6, f7, f8, f9⟩ := cz10 hres
 go_wp2_with fail
 refine bodyPost_ret (results_cell_row rfl _ _ (w.heap.size + 1) 39 #[.int .i64 x.kind, .int .i64 x.level, .slice s.ea (min s.el 70) s.ec, .int .i64 x.hb, .string (cutN 260 x.hr), .int .i64 x.cr, .int .i64 x.cc, .slice s.ca (min s.cl 200) s.cc, .int .i64 x.gf, .slice s.ga (min s.gl 300) s.gc] (0, 0) _ rfl (set10 hres) und_sketch rfl size_sketch) rfl ⟨rfl, ((((((((((hbel.setCell (p := ⟨w.heap.size + 1, 0, none⟩) (Nat.le_succ _) _).setCell (p := ⟨w.heap.size + 1, 1, none⟩) (Nat.le_succ _) _).setCell (p := ⟨w.heap.size + 1, 2, none⟩) (Nat.le_succ _) _).setCell (p := ⟨w.heap.size + 1, 3, none⟩) (Nat.le_succ _) _).setCell (p := ⟨w.heap.size + 1, 4, none⟩) (Nat.le_succ _) _).setCell (p := ⟨w.heap.size + 1, 5, none⟩) (Nat.le_succ _) _).setCell (p := ⟨w.heap.size + 1, 6, none⟩) (Nat.le_succ _) _).setCell (p := ⟨w.heap.size + 1, 7, none⟩) (Nat.le_succ _) _).setCell (p := ⟨w.heap.size + 1, 8, none⟩) (Nat.le_succ _) _).setCell (p := ⟨w.heap.size + 1, 9, none⟩) (Nat.le_succ _) _)⟩
end Go.Proofs.YthbhmnakmhambaaGreatDoor
namespace Go.Proofs.YthbhmnakmhambaaGreatDoor
open Go Go.RowKit Go.Shelf
theorem gb_set (W : World) (b o : Nat) (v : Value) : W.grownBy (W.setCell ⟨b, o, none⟩ v) (some b) :=
 ⟨rfl, rfl, rfl, (KeepsWalks.setCell W _ v).size, fun k _ hk => Below.heap_setCell _ _ _ k (fun e => hk (by rw [e]))⟩
theorem gb_drew {W V : World} {row : Option Nat} (h : W.grownBy V row) : W.grownBy V.drew row := ⟨h.os, h.tape, h.output, h.size, h.block⟩
set_option maxRecDepth 100000 in
set_option maxHeartbeats 1000000 in
theorem tell_any (bt : Int) (s : ByteArray) (g len cap p k : Nat) (r : List Nat) (w : World) (hr : RegsAt w g r) (hp : p < r.length) (hl : r.length = len) :
  Calls Tryz.prog 205 #[.agg #[.int .i64 bt, .string s, .slice (some ⟨g, 0, none⟩) len cap, .func (.func 202) #[] #[]], .int .i64 p, .int .u8 k] w fun e w' => e = .returned (.tuple #[]) ∧ RegsAt w' g (hlTell r p k) ∧ w.grownBy w' (some g) := by
 obtain ⟨x, hx⟩ : ∃ x, r[p]? = some x := ⟨_, List.getElem?_eq_getElem hp⟩
 obtain ⟨W0, hW0, hX0, hB0, hs0⟩ := boxes1 w #[.int .i64 bt, .string s, .slice (some ⟨g, 0, none⟩) len cap, .func (.func 202) #[] #[]] 303
 have hr0 : RegsAt W0.drew g r := (hr.go hB0).block rfl
 have hp2 : (p : Int) < len := by omega
 let Inv : World → Prop := fun W => W = W0.drew
 have q0 : ∀ X : WIn Inv, X.world.cell? ⟨w.heap.size, 1, none⟩ = some (.string s) := fun X => by rw [X.ok]; exact cCc hX0 1
 have q2 : ∀ X : WIn Inv, X.world.cell? ⟨w.heap.size, 2, none⟩ = some (.slice (some ⟨g, 0, none⟩) len cap) := fun X => by rw [X.ok]; exact cCc hX0 2
 have q3 : ∀ X : WIn Inv, X.world.cell? ⟨w.heap.size, 3, none⟩ = some (.func (.func 202) #[] #[]) := fun X => by rw [X.ok]; exact cCc hX0 3
 have q4 : ∀ X : WIn Inv, X.world.cell? ⟨g, p, none⟩ = some (.int .u8 x) := fun X => by rw [X.ok]; exact hr0.cell hx
 have KG : Hid (∀ X : WIn Inv, Calls Tryz.prog 202 #[.int .u8 x, .int .u8 k] X.world fun e w' => e = .returned (.int .u8 (max (x : Int) k)) ∧ ∃ Y : WIn Inv, w' = Y.world) := fun X => (greater_any x k X.world).mono fun e w' h => ⟨h.1, X, h.2⟩
 have hne : Nonempty (WIn Inv) := ⟨⟨W0.drew, rfl⟩⟩
 have hI0 : Hid (Inv W0.drew) := rfl
 have hfin : Hid (∀ X : WIn Inv, X.world = W0.drew) := fun X => X.ok
 have HR := Lib.hid hr0
 have HX := Lib.hid hx
 have HG : Hid (w.grownBy W0 none) := by rw [← hW0]; exact World.grownBy_alloc w _ none
 clear_value Inv
 clear hr hr0 hx
 go_enter Tryz.func205, Tryz.ntmps205
 go_wp2_with fail
 refine wp_region_class_lit Inv (l := [_, _, _, _, _, _, _, _, _, _, _, _, _]) (o := _) rfl (by kernel_rfl) (by kernel_rfl) (by kernel_rfl) hI0.out ?_
 repeat (first | go_big_quiet_step ((go_at_call 202; with_reducible exact KG.out _)) | quiet_step ((go_at_call 202; with_reducible exact KG.out _)))
 refine wpQuiet_nil ?_
 rintro _ ⟨X, rfl⟩
 rw [hfin.out X]
 clear hfin hI0 hne KG q0 q2 q3 q4 hW0
 have d0 := HR.out.cell HX.out
 have d1 := HR.out.frozen HX.out
 go_wp2_with fail
 go_end0
 have e : (max (x : Int) (k : Int)) = ((max (r.getD p 0) k : Nat) : Int) := by rw [List.getD_eq_getElem?_getD, HX.out]; simp only [Option.getD_some]; omega
 rw [e]
 exact ⟨rfl, (RegsAt.set (W := W0.drew) HR.out p _).block rfl, gb_drew ((HG.out.but (some g)).trans (gb_set W0 g p _))⟩
end Go.Proofs.YthbhmnakmhambaaGreatDoor
namespace Go.Proofs.YthbhmnakmhambaaGreatDoor
open Go Go.RowKit Go.Shelf
theorem und_bytes8 : Tryz.prog.underlying 181 = some (.slice 5) := by kernel_rfl
theorem info_u8 : (Tryz.prog.info? 5).map (fun i => (i.zero, i.size, i.bytes)) = some (some (.int .u8 0), 1, 1) := by kernel_rfl
def hlStr (r : List Nat) : ByteArray := strOfNums (r.map fun (n : Nat) => (n : Int))
theorem make_u8 (w : World) (len : Nat) (h : len ≤ 1000) : ∃ w1, (Instr.makeSlice 181 (.int .i64 (len : Int)) (.int .i64 (len : Int))).run Tryz.prog w = .ok (.slice (some ⟨w.heap.size, 0, none⟩) len len) w1 ∧ RegsAt w1 w.heap.size (List.replicate len 0) ∧ Below w.heap.size w w1 ∧ w1.heap.size = w.heap.size + 1 := by
 obtain ⟨i, hi, hz, hsize, hby⟩ := info_parts info_u8
 have hr := run_makeSlice (P := Tryz.prog) (w := w) 181 5 i _ und_bytes8 hi hz .i64 .i64 (len : Int) (len : Int) (by omega) (Int.le_refl _) (by rw [hsize]; omega) (by rw [hby]; omega) (by omega)
 rw [Int.toNat_natCast] at hr
 refine ⟨_, hr, ⟨_, (0, 0), World.alloc_heap_new _ _, fun j x hx => ?_, .inl rfl⟩, (Below.refl _ w).alloc (Nat.le_refl _) _, by simp⟩
 rw [List.getElem?_replicate] at hx
 split at hx
 ·cases hx
  rename_i hj
  rw [hsize, Nat.mul_one]
  simp [madeCells, Value.cells, hj, Nat.mod_one]
 ·cases hx
theorem str_cells {W : World} {g len cap : Nat} {r : List Nat} (hr : RegsAt W g r) (hl : r.length = len) : (convert 181 9 (.slice (some ⟨g, 0, none⟩) len cap)).run Tryz.prog W = .ok (.string (hlStr r)) W :=
 run_convert_bytes_arg W 181 5 und_bytes8 Tryz.underlying5 g 0 len cap (r.map fun (n : Nat) => (n : Int)) (by rw [List.length_map, hl]) (fun i hi => by
  have hx := List.getElem?_eq_getElem (show i < r.length by omega)
  rw [Nat.zero_add, hr.cell hx]
  simp [List.getD_eq_getElem?_getD, hx]) 9 Tryz.underlying9
set_option maxRecDepth 100000 in
set_option maxHeartbeats 1000000 in
theorem hdone_any (bt : Int) (s : ByteArray) (g len cap : Nat) (pk : Value) (r : List Nat) (w : World) (hr : RegsAt w g r) (hl : r.length = len) :
  Calls Tryz.prog 199 #[.agg #[.int .i64 bt, .string s, .slice (some ⟨g, 0, none⟩) len cap, pk]] w fun e w' => e = .returned (.agg #[.int .i64 bt, .string (hlStr r)]) ∧ Below w.heap.size w w' := by
 obtain ⟨W0, hW0, hX0, hX1, hB0, hs0⟩ := boxes2 w #[.int .i64 bt, .string s, .slice (some ⟨g, 0, none⟩) len cap, pk] 303 #[.int .i64 0, .string ⟨#[]⟩] 32
 have hcv := str_cells (cap := cap) (hr.go hB0) hl
 obtain ⟨c0, c1, c2, c3⟩ := cl4 hX0
 obtain ⟨d0, d1⟩ := cl2 hX1
 obtain ⟨f0, f1⟩ := cz2 hX1
 generalize hlStr r = out at hcv ⊢
 have HX := Lib.hid hX1
 clear hr hl hX0 hX1
 go_enter Tryz.func199, Tryz.ntmps199
 go_wp2_with fail
 have hX2 := set_cells2 (u := .int .i64 bt) (v := .string out) HX.out
 have hB2 := (hB0.setCell (p := ⟨w.heap.size + 1, 0, none⟩) (Nat.le_succ _) (.int .i64 bt)).setCell (p := ⟨w.heap.size + 1, 1, none⟩) (Nat.le_succ _) (.string out)
 generalize (W0.setCell ⟨w.heap.size + 1, 0, none⟩ (.int .i64 bt)).setCell ⟨w.heap.size + 1, 1, none⟩ (.string out) = V at hX2 hB2 ⊢
 obtain ⟨k0, k1⟩ := cl2 hX2
 exact bodyPost_ret (v := .agg #[.int .i64 bt, .string out]) (by simp [results, Tryz.f199, go_sem, k0, k1]) rfl ⟨rfl, hB2⟩
theorem st_fn {W : World} {B off : Nat} {cs : Array Value} {t : TypeId} {old : Value} (h : W.heap[B]? = some (.cells cs t (0, 0))) (ho : cs[off]? = some old) (f : Fn) : (store ⟨B, off, none⟩ (.func f #[] #[])).run Tryz.prog W = .ok () (W.setCell ⟨B, off, none⟩ (.func f #[] #[])) := by
 rw [run_store Tryz.prog W ⟨B, off, none⟩ _ _ (by rfl)]
 simp [World.cell?, World.frozen?, h, ho]
set_option maxRecDepth 100000 in
set_option maxHeartbeats 1000000 in
theorem blank_any (b : Nat) (w : World) (h1 : 3 ≤ b) (h2 : b ≤ 8) :
  Calls Tryz.prog 196 #[.int .i64 b] w fun e w' => ∃ g, e = .returned (.tuple #[.agg #[.int .i64 b, .string ⟨#[]⟩, .slice (some ⟨g, 0, none⟩) (2 ^ b) (2 ^ b), .func (.func 202) #[] #[]], .nilIface]) ∧ RegsAt w' g (hlNone b) ∧ w.heap.size ≤ g ∧ Below w.heap.size w w' := by
 have hib : ∀ w, Calls Tryz.prog 153 #[.int .i64 b] w fun e w' => e = .returned (.bool true) ∧ w' = w := fun w => (isBits_any b w).mono fun e w' ⟨h3, h4⟩ => ⟨by rw [h3]; simp [isBitsB]; omega, h4.symm⟩
 have hp : 2 ^ b ≤ 2 ^ 8 := Nat.pow_le_pow_right (by omega) h2
 have hw : IntKind.i64.wrap (2 ^ b) = ((2 ^ b : Nat) : Int) := by
  have h9 : ∀ n : Nat, n ≤ 256 → IntKind.i64.wrap (n : Int) = n := fun n h => IntWalk.i64_in _ (by omega)
  simpa using h9 (2 ^ b) hp
 unfold hlNone
 generalize 2 ^ b = len at hp hw ⊢
 obtain ⟨W0, hW0, hX0, hB0, hs0⟩ := boxes1 w #[.int .i64 0, .string ⟨#[]⟩, .slice none 0 0, .nilFunc] 303
 obtain ⟨W1, hmk, hr1, hB1, hs1⟩ := make_u8 W0 len (by omega)
 have hX1 := (hB1.block _ (by omega)).trans hX0
 rw [hs0] at hmk hr1
 obtain ⟨d0, d1, d2, d3⟩ := cl4 hX1
 obtain ⟨f0, f1, f2, f3⟩ := cz4 hX1
 have HR := Lib.hid hr1
 have HB := Lib.hid (hB0.trans (hB1.mono hB0.size))
 obtain ⟨W4, hW4⟩ : ∃ W4, ((W1.setCell ⟨w.heap.size, 0, none⟩ (.int .i64 b)).setCell ⟨w.heap.size, 1, none⟩ (.string ⟨#[]⟩)).setCell ⟨w.heap.size, 2, none⟩ (.slice (some ⟨w.heap.size + 1, 0, none⟩) len len) = W4 := ⟨_, rfl⟩
 have hX4 : W4.heap[w.heap.size]? = some (.cells #[.int .i64 b, .string ⟨#[]⟩, .slice (some ⟨w.heap.size + 1, 0, none⟩) len len, .nilFunc] 303 (0, 0)) := by rw [← hW4]; exact hSk (hSk (hSk hX1 _) _) _
 have hB4 : Below w.heap.size w W4 := by rw [← hW4]; exact (((hB0.trans (hB1.mono hB0.size)).setCell (p := ⟨w.heap.size, 0, none⟩) (Nat.le_refl _) _).setCell (p := ⟨w.heap.size, 1, none⟩) (Nat.le_refl _) _).setCell (p := ⟨w.heap.size, 2, none⟩) (Nat.le_refl _) _
 have hr4 : RegsAt W4 (w.heap.size + 1) (List.replicate len 0) := by rw [← hW4]; exact ((hr1.other (by omega) _).other (by omega) _).other (by omega) _
 have hst := st_fn (off := 3) hX4 rfl (.func 202)
 clear hp hX0 hX1 hr1 hB0 hB1 hs1
 go_enter Tryz.func196, Tryz.ntmps196
 go_wp2_with (first | (go_at_call 153; refine (hib _).mono ?_; rintro e w' ⟨rfl, rfl⟩) | fail)
 have hX5 : (W4.setCell ⟨w.heap.size, 3, none⟩ (.func (.func 202) #[] #[])).heap[w.heap.size]? = some (.cells #[.int .i64 b, .string ⟨#[]⟩, .slice (some ⟨w.heap.size + 1, 0, none⟩) len len, .func (.func 202) #[] #[]] 303 (0, 0)) := hSk hX4 _
 have hB5 := hB4.setCell (p := ⟨w.heap.size, 3, none⟩) (Nat.le_refl _) (.func (.func 202) #[] #[])
 have hr5 := hr4.other (b := w.heap.size) (o := 3) (by omega) (.func (.func 202) #[] #[])
 generalize W4.setCell ⟨w.heap.size, 3, none⟩ (.func (.func 202) #[] #[]) = V at hX5 hB5 hr5 ⊢
 obtain ⟨k0, k1, k2, k3⟩ := cl4 hX5
 exact bodyPost_ret (v := .tuple #[.agg #[.int .i64 b, .string ⟨#[]⟩, .slice (some ⟨w.heap.size + 1, 0, none⟩) len len, .func (.func 202) #[] #[]], .nilIface]) (by simp [results, Tryz.f196, go_sem, k0, k1, k2, k3]) rfl ⟨_, rfl, hr5, Nat.le_succ _, hB5⟩
end Go.Proofs.YthbhmnakmhambaaGreatDoor
namespace Go.Proofs.YthbhmnakmhambaaGreatDoor
open Go Go.RowKit Go.Shelf
attribute [local go_sem] Oper.semAt_some
theorem hlStr_size (r : List Nat) : (hlStr r).size = r.length := by simp [hlStr, strOfNums, ByteArray.size]
theorem hlStr_nums (r : List Nat) (h : ∀ x ∈ r, x < 256) : (hlStr r).data.toList.map (·.toNat) = r := by
 unfold hlStr
 rw [strOfNums_data, List.map_map, List.map_map]
 conv => rhs; rw [← List.map_id r]
 refine List.map_congr_left (fun x hx => ?_)
 have := h x hx
 simp [UInt8.toNat_ofNat']
 omega
theorem le_getD {r : List Nat} {m : Nat} (h : ∀ i, r.getD i 0 ≤ m) : ∀ x ∈ r, x ≤ m := fun x hx => by
 obtain ⟨i, hi⟩ := List.getElem?_of_mem hx
 have := h i
 rwa [List.getD_eq_getElem?_getD, hi] at this
theorem hlRight_str (b : Nat) (r : List Nat) (h1 : 3 ≤ b) (h2 : b ≤ 8) (hl : r.length = 2 ^ b) (hr : ∀ i, r.getD i 0 ≤ 65 - b) : hlRight b (hlStr r) = true := by
 have h3 := le_getD hr
 have hn := hlStr_nums r (fun x hx => by have := h3 x hx; omega)
 unfold hlRight
 have e1 : isBitsB b = true := by simp [isBitsB]; omega
 have e2 : (((hlStr r).size : Int) == 2 ^ (b : Int).toNat) = true := by rw [beq_iff_eq, hlStr_size, hl, Int.toNat_natCast]; simp
 have e3 : regsOk b (hlStr r) = true := by
  unfold regsOk
  rw [List.all_eq_true]
  intro c hc
  have : c.toNat ∈ r := by rw [← hn]; exact List.mem_map_of_mem hc
  have := h3 _ this
  simp
  omega
 rw [e1, e2, e3]; rfl
theorem wp_range_all1 {α : Type} {P : Program} {g : Operand} {ps : Array Tmp} {assign body : Code} {Q : Exit → Act → World → Prop} {a : Act} {w : World} (L : List Nat) (s1 : Nat) (v1 : α → Value)
  {gf : Nat} {lb : Array Value} (hg : a.eval g = .func (.func gf) #[] lb) (eg : ∀ args w, (callFunc gf args).run P w = .ok (.enter gf args) w)
  {encs : α → Array Value} {xs : List α} {N : Nat} {w0 : World} (hseq : SeqStopsK Fence.wide 8 P gf lb encs (KL L) (fun ys => ys = xs) (fun pre => pre <+: xs) N w0)
  (hL : ∀ b ∈ L, b < w.heap.size) (hb0 : Below w0.heap.size w0 w) (hps : ∀ x, (encs x).size = ps.size)
  (I : List α → World → Prop) (hI : OwnFrom w.heap.size I) (h0 : I [] w)
  (hassign : ∀ (l : Nat) (pre : List α) (x : α) (W : World) (K : Act → World → Prop), I pre W → (I pre W → K { tmps := ((ps.zip (encs x)).foldl (fun t (p, v) => t.setIfInBounds p v) a.tmps).setIfInBounds s1 (v1 x), defers := [] } W) →
   assign.wpIn (Fence.wide.inRound l) 7 P (Exit.then K (fun _ _ _ => False)) { tmps := (ps.zip (encs x)).foldl (fun t (p, v) => t.setIfInBounds p v) a.tmps, defers := [] } W)
  (hbody : ∀ (l : Nat) (pre : List α) (x : α) (W : World), I pre W → pre.length < N → body.wpIn (Fence.wide.inRound l) 7 P (ownPostG w.heap.size (KL L) I (fun _ _ _ => False) (pre ++ [x]) W) { tmps := ((ps.zip (encs x)).foldl (fun t (p, v) => t.setIfInBounds p v) a.tmps).setIfInBounds s1 (v1 x), defers := [] } W)
  (hdone : ∀ (D : Nat) (W : World), w.heap.size ≤ D → I xs W → W.heap[D]? = some (.deferred (some [])) → Q .normal { a with defers := { target := .collected D, args := #[] } :: a.defers } W) :
  (Code.rangeFunc g ps assign body).wp P Q a w :=
 wp_range_all L (fun x => ((ps.zip (encs x)).foldl (fun t (p, v) => t.setIfInBounds p v) a.tmps).setIfInBounds s1 (v1 x)) hg eg hseq hL hb0 hps I hI h0 hassign hbody hdone
def AI (b g B : Nat) (wv : Array Value) (r : List Nat) (w : World) (pre : List { n : Int // U64 n }) (W : World) : Prop := RegsAt W g (hlSum b r (pre.map fun x => x.1.toNat)) ∧ W.heap[B]? = some (.cells wv 303 (0, 0)) ∧ w.grownBy W (some g)
theorem ai_own (b g B : Nat) (wv : Array Value) (r : List Nat) (w : World) (C : Nat) (hC : w.heap.size ≤ C) : OwnFrom C (AI b g B wv r w) := fun pre X Y row hs hg hr => by
 obtain ⟨h1, h2, h3⟩ := hs
 have hne : ∀ k o, X.heap[k]? = some o → o.isCells = true → some k ≠ row := fun k o hk hc e => by
  obtain ⟨-, o', ho', hc'⟩ := hr k e.symm
  rw [hk] at ho'
  cases ho'
  rw [hc] at hc'
  cases hc'
 obtain ⟨cs, fz, hc, -⟩ := id h1
 exact ⟨h1.grown hg (hne _ _ hc rfl), (hg.block _ (Array.getElem?_eq_some_iff.1 h2).1 (hne _ _ h2 rfl)).trans h2, h3.andThen hg (fun j e => .inl (Nat.le_trans hC (hr j e).1))⟩
set_option maxRecDepth 100000 in
set_option maxHeartbeats 2000000 in
theorem hadd_any (b : Nat) (s : ByteArray) (g cap : Nat) (r : List Nat) (l : List Int) (a : Option Addr) (len lcap : Nat) (w : World) (h1 : 3 ≤ b) (h2 : b ≤ 8) (hr : RegsAt w g r) (hl : r.length = 2 ^ b) (hL : SlE encU 1 w.heap.size w a len l) (hu : U64s l) (hne : 0 < len → ∀ x, a = some x → x.block ≠ g) (hlen : len ≤ 1000) :
  Calls Tryz.prog 198 #[.agg #[.int .i64 b, .string s, .slice (some ⟨g, 0, none⟩) (2 ^ b) cap, .func (.func 202) #[] #[]], .slice a len lcap] w fun e w' => e = .returned (.tuple #[]) ∧ RegsAt w' g (hlSum b r (l.map Int.toNat)) ∧ w.grownBy w' (some g) := by
 refine calls_marks Tryz.func198 rfl ?_
 simp only [Tryz.ntmps198, List.size_toArray, List.length_cons, List.length_nil, Nat.reduceAdd, Nat.reduceSub, Array.replicate_succ, Array.replicate_zero, List.push_toArray, List.append_toArray, List.nil_append, List.cons_append]
 obtain ⟨W0, hW0, hX0, hB0, hs0⟩ := boxes1 w #[.int .i64 b, .string s, .slice (some ⟨g, 0, none⟩) (2 ^ b) cap, .func (.func 202) #[] #[]] 303
 obtain ⟨W1, hW1, hX1, hB1, hs1⟩ := boxes1 W0 #[.slice a len lcap] 28
 have HW1 := Lib.hid hW1
 clear hW1
 go_wp2_with (go_at_call 203; refine (slicesValues_any _ _ _ _).mono ?_; rintro e w' ⟨rfl, rfl⟩; rw [HW1.out])
 have hgl := hr.lt
 have hz1 : W1.heap.size = w.heap.size + 2 := by omega
 have hbx : W1.heap[w.heap.size]? = some (.cells #[.int .i64 b, .string s, .slice (some ⟨g, 0, none⟩) (2 ^ b) cap, .func (.func 202) #[] #[]] 303 (0, 0)) := (hB1.block _ (by omega)).trans hX0
 rw [hs0] at hX1
 have hBw : Below w.heap.size w W1 := hB0.trans (hB1.mono hB0.size)
 have hgw : w.grownBy W1 (some g) := ((by rw [← hW0]; exact World.grownBy_alloc w _ _ : w.grownBy W0 (some g))).trans (by rw [← HW1.out]; exact World.grownBy_alloc W0 _ _)
 obtain ⟨bl, hbl, hblt, hblg⟩ : ∃ bl, (0 < len → ∀ x, a = some x → x.block = bl) ∧ bl < w.heap.size + 2 ∧ bl ≠ g := by
  rcases Nat.eq_zero_or_pos len with h | h
  ·exact ⟨w.heap.size + 1, fun h' => by omega, by omega, by omega⟩
  ·obtain ⟨x, bb, off, -, e, hb, -⟩ := hL.at h
   exact ⟨bb, fun _ y hy => by rw [e] at hy; cases hy; rfl, by omega, hne h _ e⟩
 obtain ⟨ls, hls⟩ : ∃ ls : List { n : Int // U64 n }, ls.map (·.1) = l := ⟨l.attachWith U64 (fun n hn => hu n hn), List.attachWith_map_subtype_val _⟩
 subst hls
 have hseq := values_kl (fun x : { n : Int // U64 n } => x.1) (w.heap.size + 1) bl w.heap.size a len lcap ls (by omega) W1 (by omega) hX1 (hL.below hBw) hbl
 have HL := Lib.hid hl
 have H12 : Hid (3 ≤ b ∧ b ≤ 8) := ⟨h1, h2⟩
 have hI0 : AI b g w.heap.size #[.int .i64 b, .string s, .slice (some ⟨g, 0, none⟩) (2 ^ b) cap, .func (.func 202) #[] #[]] r w [] W1 := ⟨hr.block (hBw.block _ hr.lt), hbx, hgw⟩
 clear hW0 hX0 hX1 hL hu hne hbl hl h1 h2
 refine wp_range_all1 [w.heap.size + 1, bl] 4 (fun x : { n : Int // U64 n } => .int .u64 x.1) (gf := 208) (lb := #[.pointer (some ⟨w.heap.size + 1, 0, none⟩)]) rfl (enters_of Tryz.func208 (by kernel_rfl) rfl)
  hseq (by intro k hk; simp at hk; omega) (Below.refl _ _) (fun _ => rfl) (AI b g w.heap.size #[.int .i64 b, .string s, .slice (some ⟨g, 0, none⟩) (2 ^ b) cap, .func (.func 202) #[] #[]] r w) (ai_own b g w.heap.size _ r w _ hBw.size) hI0 ?assign ?body ?fin
 case assign =>
  rintro l pre x W K hI hK
  simp only [List.zip_toArray, List.zip_cons_cons, List.zip_nil_right, List.size_toArray, List.foldl_toArray', List.foldl_cons, List.foldl_nil, List.setIfInBounds_toArray, List.set_cons_succ, List.set_cons_zero] at hK ⊢
  gi_wp2
  exact hI
 case body =>
  rintro lo pre x W ⟨hR, hX, hG⟩ hlt
  simp only [List.zip_toArray, List.zip_cons_cons, List.zip_nil_right, List.size_toArray, List.foldl_toArray', List.foldl_cons, List.foldl_nil, List.setIfInBounds_toArray, List.set_cons_succ, List.set_cons_zero]
  have hP := Place_any b x.1 W H12.out.1 H12.out.2 x.2
  have hx0 := x.2
  generalize hn : x.1 = n at hP hx0
  have hat := hlAt_lt b n.toNat H12.out.2 (by unfold U64 at hx0; omega)
  have hrk := hlRank_le b n.toNat H12.out.2
  have HS : Hid (hlTell (hlSum b r (pre.map fun x => x.1.toNat)) (hlAt b n.toNat) (hlRank b n.toNat) = hlSum b r ((pre ++ [x]).map fun x => x.1.toNat)) := by
   unfold Hid hlSum
   rw [List.map_append, List.foldl_append, List.map_singleton, hn]
   rfl
  have hlen2 := hlSum_len b (pre.map fun x => x.1.toNat) r
  rw [HL.out] at hlen2
  generalize hlAt b n.toNat = q at hP hat HS
  generalize hlRank b n.toNat = k at hP hrk HS
  generalize hlSum b r (pre.map fun x => x.1.toNat) = r1 at hR hlen2 HS
  have hT := tell_any b s g (2 ^ b) cap q k r1 W hR (by omega) hlen2
  have hku : IntKind.u8.wrap (k : Int) = (k : Int) := by have : k < 256 := by omega
                                                         simp [IntKind.wrap, IntKind.bits, IntKind.signed]; omega
  obtain ⟨c0, c1, c2, c3⟩ := cl4 hX
  have HG := Lib.hid hG
  have HX := Lib.hid hX
  clear hG hX hx0 hn hR hat hlen2 hrk
  gi_wp2_with fail
  refine ⟨trivial, (CallsIn.inRound lo (callsIn_wide.2 hP)).mono ?_⟩
  rintro e W6 ⟨rfl, rfl⟩
  gi_wp2_with fail
  refine ⟨trivial, (CallsIn.inRound lo (callsIn_wide.2 hT)).mono ?_⟩
  rintro e W7 ⟨rfl, hR7, hG7⟩
  gi_wp2_with fail
  refine ⟨KeepsFrom.of_grownBy hG7 (fun j e => by cases e; omega), KL.grown hG7 (fun k hk => by simp at hk; rcases hk with rfl | rfl <;> (intro e; cases e; omega)), by rw [← HS.out]; exact hR7, (hG7.block _ (Array.getElem?_eq_some_iff.1 HX.out).1 (fun e => by cases e; omega)).trans HX.out, HG.out.trans hG7⟩
 case fin =>
  rintro D W hD ⟨hR, hX, hG⟩ hK
  have hne : some g ≠ some D := fun e => by cases e; omega
  refine marks_ret1 (v := .tuple #[]) hK (results_none rfl _ _ _) ⟨rfl, ?_, ?_⟩
  ·rw [List.map_map]
   exact hR.grown (grownBy_putObj' _ D _) hne
  ·exact hG.andThen (grownBy_putObj' _ D _) (fun j e => by cases e; exact .inl (by omega))
end Go.Proofs.YthbhmnakmhambaaGreatDoor
namespace Go.Proofs.YthbhmnakmhambaaGreatDoor
open Go Go.RowKit Go.Shelf
set_option maxRecDepth 100000 in
set_option maxHeartbeats 1000000 in
theorem hOf_any (b : Nat) (l : List Int) (a : Option Addr) (len cap : Nat) (w : World) (h1 : 3 ≤ b) (h2 : b ≤ 8) (hL : SlE encU 1 w.heap.size w a len l) (hu : U64s l) (hlen : len ≤ 1000) :
  Calls Tryz.prog 193 #[.int .i64 b, .slice a len cap] w fun e w' => e = .returned (.tuple #[.agg #[.int .i64 b, .string (hlStr (hlSum b (hlNone b) (l.map Int.toNat)))], .int .i64 0]) ∧ Below w.heap.size w w' := by
 have hB := fun w => blank_any b w h1 h2
 obtain ⟨W0, hW0, hX0, hB0, hs0⟩ := boxes1 w #[.int .i64 0, .string ⟨#[]⟩] 32
 have HX0 := Lib.hid hX0
 have HL := Lib.hid hL
 have HU := Lib.hid hu
 have H12 : Hid (3 ≤ b ∧ b ≤ 8) := ⟨h1, h2⟩
 obtain ⟨out, hout⟩ : ∃ out, hlStr (hlSum b (hlNone b) (l.map Int.toNat)) = out := ⟨_, rfl⟩
 rw [hout]
 have HOUT := Lib.hid hout
 clear hL hu hX0 h1 h2 hout
 go_enter Tryz.func193, Tryz.ntmps193
 go_wp2_with fail
 refine (hB _).mono ?_
 rintro e w1 ⟨g, rfl, hr1, hg1, hb1⟩
 obtain ⟨W2, hW2, hX2, hB2, hs2⟩ := boxes1 w1 #[.int .i64 b, .string ⟨#[]⟩, .slice (some ⟨g, 0, none⟩) (2 ^ b) (2 ^ b), .nilFunc] 303
 have hst := st_fn (off := 3) hX2 rfl (.func 202)
 obtain ⟨W3, hW3⟩ : ∃ W3, W2.setCell ⟨w1.heap.size, 3, none⟩ (.func (.func 202) #[] #[]) = W3 := ⟨_, rfl⟩
 have hX3 : W3.heap[w1.heap.size]? = some (.cells #[.int .i64 b, .string ⟨#[]⟩, .slice (some ⟨g, 0, none⟩) (2 ^ b) (2 ^ b), .func (.func 202) #[] #[]] 303 (0, 0)) := by rw [← hW3]; exact hSk hX2 _
 have hgl := hr1.lt
 have hB13 : Below w1.heap.size w1 W3 := by rw [← hW3]; exact hB2.setCell (p := ⟨w1.heap.size, 3, none⟩) (Nat.le_refl _) _
 have hr3 : RegsAt W3 g (hlNone b) := hr1.go hB13
 have hBw : Below w.heap.size w W3 := (hB0.trans (hb1.mono hB0.size)).trans (hB13.mono (by have := hb1.size; omega))
 have hA := hadd_any b ⟨#[]⟩ g (2 ^ b) (hlNone b) l a len cap W3 H12.out.1 H12.out.2 hr3 (by simp [hlNone]) ((HL.out.below hBw).mono hBw.size) HU.out (fun h x hx => by obtain ⟨y, bb, off, -, e, hb, -⟩ := HL.out.at h; rw [e] at hx; cases hx; show bb ≠ g; omega) hlen
 obtain ⟨c0, c1, c2, c3⟩ := cl4 hX3
 have HR := Lib.hid (hlSum_len b (l.map Int.toNat) (hlNone b))
 clear hX2 hr1 hr3 hB2
 go_wp2_with fail
 refine hA.mono ?_
 rintro e w4 ⟨rfl, hr4, hg4⟩
 have hX4 := (hg4.block _ (Array.getElem?_eq_some_iff.1 hX3).1 (fun e => by cases e; omega)).trans hX3
 have hB4 : Below w.heap.size w w4 := hBw.grown hg4 hBw.size (fun k e => by cases e; omega)
 have hX04 := known (hb1.trans (hB13.mono hb1.size)) (Nat.le_refl _) HX0.out
 have hX05 := (hg4.block _ (Array.getElem?_eq_some_iff.1 hX04).1 (fun e => by cases e; omega)).trans hX04
 have hD := hdone_any b ⟨#[]⟩ g (2 ^ b) (2 ^ b) (.func (.func 202) #[] #[]) _ w4 hr4 (by rw [HR.out]; simp [hlNone])
 rw [HOUT.out] at hD
 obtain ⟨d0, d1, d2, d3⟩ := cl4 hX4
 go_wp2_with fail
 refine hD.mono ?_
 rintro e w5 ⟨rfl, hb5⟩
 have hX5 := known hb5 (Nat.le_refl _) hX05
 have hB5 := hB4.trans (hb5.mono hB4.size)
 obtain ⟨q0, q1⟩ := cl2 hX5
 obtain ⟨f0, f1⟩ := cz2 hX5
 have hX6 := set_cells2 (u := .int .i64 b) (v := .string out) hX5
 have hB6 := (hB5.setCell (p := ⟨w.heap.size, 0, none⟩) (Nat.le_refl _) (.int .i64 b)).setCell (p := ⟨w.heap.size, 1, none⟩) (Nat.le_refl _) (.string out)
 go_wp2_with fail
 generalize (w5.setCell ⟨w.heap.size, 0, none⟩ (.int .i64 b)).setCell ⟨w.heap.size, 1, none⟩ (.string out) = V at hX6 hB6 ⊢
 obtain ⟨k0, k1⟩ := cl2 hX6
 exact bodyPost_ret (v := .tuple #[.agg #[.int .i64 b, .string out], .int .i64 0]) (by simp [results, Tryz.f193, go_sem, k0, k1]) rfl ⟨rfl, hB6⟩
end Go.Proofs.YthbhmnakmhambaaGreatDoor
namespace Go.Proofs.YthbhmnakmhambaaGreatDoor
open Go Go.RowKit Go.Shelf
def lowK (b : Nat) (r : List Nat) (k : Nat) : List Nat := (List.range (2 ^ (b - 1))).map fun i => if i < k then max (upR (r.getD (2 * i) 0)) (oneR (r.getD (2 * i + 1) 0)) else 0
theorem lowK_len (b : Nat) (r : List Nat) (k : Nat) : (lowK b r k).length = 2 ^ (b - 1) := by simp [lowK]
theorem lowK_at (b : Nat) (r : List Nat) (k i : Nat) (hi : i < 2 ^ (b - 1)) : (lowK b r k).getD i 0 = if i < k then max (upR (r.getD (2 * i) 0)) (oneR (r.getD (2 * i + 1) 0)) else 0 := by
 simp [lowK, List.getD_eq_getElem?_getD, hi]
theorem lowK_0 (b : Nat) (r : List Nat) : lowK b r 0 = hlNone (b - 1) := by
 refine getD_ext _ _ (by rw [lowK_len]; simp [hlNone]) (fun i hi => ?_)
 rw [lowK_len] at hi
 rw [lowK_at _ _ _ _ hi, if_neg (by omega)]
 simp [hlNone, List.getD_eq_getElem?_getD, hi]
theorem lowK_all (b : Nat) (r : List Nat) : lowK b r (2 ^ (b - 1)) = hlLow b r := by
 refine getD_ext _ _ (by rw [lowK_len, hlLow_len]) (fun i hi => ?_)
 rw [lowK_len] at hi
 rw [lowK_at _ _ _ _ hi, if_pos hi, low_at _ _ _ hi]
theorem lowK_step (b : Nat) (r : List Nat) (k : Nat) : hlTell (hlTell (lowK b r k) k (upR (r.getD (2 * k) 0))) k (oneR (r.getD (2 * k + 1) 0)) = lowK b r (k + 1) := by
 refine getD_ext _ _ (by simp only [hlTell_len, lowK_len]) (fun i hi => ?_)
 simp only [hlTell_len, lowK_len] at hi
 rw [tell_at, tell_at, lowK_at _ _ _ _ hi, lowK_at _ _ _ _ hi, hlTell_len, lowK_len]
 by_cases h : k = i
 ·subst h
  rw [if_pos ⟨rfl, hi⟩, if_pos ⟨rfl, hi⟩, if_neg (by omega), if_pos (by omega)]
  omega
 ·rw [if_neg (fun e => h e.1), if_neg (fun e => h e.1)]
  by_cases h2 : i < k
  ·rw [if_pos h2, if_pos (by omega)]
  ·rw [if_neg h2, if_neg (by omega)]
theorem tell_zero (r : List Nat) (p : Nat) : hlTell r p 0 = r := by
 refine getD_ext _ _ (hlTell_len _ _ _) (fun i _ => ?_)
 rw [tell_at]
 split <;> omega
theorem str_byte (r : List Nat) (h : ∀ x ∈ r, x < 256) (i : Nat) (hi : i < (hlStr r).size) : ((hlStr r)[i]'hi).toNat = r.getD i 0 := by
 have h1 := hlStr_nums r h
 have h2 : (hlStr r).data.toList[i]? = some ((hlStr r)[i]'hi) := by
  rw [List.getElem?_eq_getElem (by rw [Array.length_toList]; exact hi)]; rfl
 have h3 : r[i]? = some ((hlStr r)[i]'hi).toNat := by
  conv => lhs; rw [← h1]
  rw [List.getElem?_map, h2]; rfl
 rw [List.getD_eq_getElem?_getD, h3]; rfl
set_option maxRecDepth 100000 in
set_option maxHeartbeats 2000000 in
theorem hLower_any (b : Nat) (r : List Nat) (w : World) (h1 : 4 ≤ b) (h2 : b ≤ 8) (hl : r.length = 2 ^ b) (hr : ∀ i, r.getD i 0 ≤ 65 - b) :
  Calls Tryz.prog 221 #[.agg #[.int .i64 b, .string (hlStr r)]] w fun e w' => e = .returned (.tuple #[.agg #[.int .i64 ((b - 1 : Nat) : Int), .string (hlStr (hlLow b r))], .int .i64 0]) ∧ Below w.heap.size w w' := by
 have hR : Hid (∀ w1, Calls Tryz.prog 138 #[.agg #[.int .i64 b, .string (hlStr r)]] w1 fun e w' => e = .returned (.bool true) ∧ Below w1.heap.size w1 w') := fun w1 => (hll_Right_any b (hlStr r) w1).mono fun e w' h => ⟨by rw [h.1, hlRight_str b r (by omega) h2 hl hr], h.2⟩
 have hB : Hid (∀ w, Calls Tryz.prog 196 #[.int .i64 ((b : Int) - 1)] w fun e w' => ∃ g, e = .returned (.tuple #[.agg #[.int .i64 ((b : Int) - 1), .string ⟨#[]⟩, .slice (some ⟨g, 0, none⟩) (2 ^ (b - 1)) (2 ^ (b - 1)), .func (.func 202) #[] #[]], .nilIface]) ∧ RegsAt w' g (hlNone (b - 1)) ∧ w.heap.size ≤ g ∧ Below w.heap.size w w') := fun w => by
  have := blank_any (b - 1) w (by omega) (by omega)
  rw [show (((b - 1 : Nat)) : Int) = (b : Int) - 1 by omega] at this
  exact this
 have hby : Hid (∀ (i : Nat) (hi : i < (hlStr r).size), ((hlStr r)[i]'hi).toNat = r.getD i 0) := fun i hi => str_byte r (fun x hx => by have := le_getD hr x hx; omega) i hi
 have hz := hlStr_size r
 rw [hl] at hz
 rw [show (((b - 1 : Nat)) : Int) = (b : Int) - 1 by omega]
 obtain ⟨out, hout⟩ : ∃ out, hlStr (hlLow b r) = out := ⟨_, rfl⟩
 rw [hout]
 have HOUT := Lib.hid hout
 have HRG := Lib.hid hr
 generalize hlStr r = s at hR hby hz ⊢
 have HZ := Lib.hid hz
 have H12 : Hid (4 ≤ b ∧ b ≤ 8) := ⟨h1, h2⟩
 obtain ⟨W0, hW0, hXp, hX0, hB0, hs0⟩ := boxes2 w #[.int .i64 b, .string s] 32 #[.int .i64 0, .string ⟨#[]⟩] 32
 have HX0 := Lib.hid hX0
 have HXP := Lib.hid hXp
 obtain ⟨z0, z1⟩ := cl2 hXp
 clear hX0 hl hr hXp hout hz
 go_enter Tryz.func221, Tryz.ntmps221
 go_wp2_with fail
 refine (hR.out _).mono ?_
 rintro e w1 ⟨rfl, hb1⟩
 have hXp1 := known hb1 (Nat.le_refl _) HXP.out
 obtain ⟨y0, y1⟩ := cl2 hXp1
 go_wp2_with fail
 refine (hB.out _).mono ?_
 rintro e w2 ⟨g, rfl, hr2, hg2, hb2⟩
 obtain ⟨W2, hW2, hX2, hB2, hs2⟩ := boxes1 w2 #[.int .i64 ((b : Int) - 1), .string ⟨#[]⟩, .slice (some ⟨g, 0, none⟩) (2 ^ (b - 1)) (2 ^ (b - 1)), .nilFunc] 303
 have hst := st_fn (off := 3) hX2 rfl (.func 202)
 obtain ⟨W3, hW3⟩ : ∃ W3, W2.setCell ⟨w2.heap.size, 3, none⟩ (.func (.func 202) #[] #[]) = W3 := ⟨_, rfl⟩
 have hX3 : W3.heap[w2.heap.size]? = some (.cells #[.int .i64 ((b : Int) - 1), .string ⟨#[]⟩, .slice (some ⟨g, 0, none⟩) (2 ^ (b - 1)) (2 ^ (b - 1)), .func (.func 202) #[] #[]] 303 (0, 0)) := by rw [← hW3]; exact hSk hX2 _
 have hgl := hr2.lt
 have hB23 : Below w2.heap.size w2 W3 := by rw [← hW3]; exact hB2.setCell (p := ⟨w2.heap.size, 3, none⟩) (Nat.le_refl _) _
 have hs3 : W3.heap.size = w2.heap.size + 1 := by rw [← hW3, size_set, hs2]
 have hB02 : Below w.heap.size w w2 := (hB0.trans (hb1.mono hB0.size)).trans (hb2.mono (by have := hb1.size; omega))
 have hBw : Below w.heap.size w W3 := hB02.trans (hB23.mono hB02.size)
 have hr3 := hr2.go hB23
 obtain ⟨c0, c1, c2, c3⟩ := cl4 hX3
 have hN8 : 2 ^ (b - 1) ≤ 2 ^ 7 := Nat.pow_le_pow_right (by omega) (by have := H12.out.2; omega)
 have hw : wrap64 (2 ^ (b - 1)) = ((2 ^ (b - 1) : Nat) : Int) := by
  have h9 : ∀ n : Nat, n ≤ 128 → wrap64 (n : Int) = n := fun n h => wrap64_nat n (by omega)
  simpa using h9 (2 ^ (b - 1)) hN8
 have hZN : Hid (s.size = 2 * 2 ^ (b - 1)) := by have := HZ.out; rw [← Nat.pow_succ', show (b - 1).succ = b by have := H12.out.1; omega]; exact this
 have HK0 := Lib.hid (lowK_0 b r)
 have HKA := Lib.hid (lowK_all b r)
 have HKL := Lib.hid (fun k => lowK_len b r k)
 generalize 2 ^ (b - 1) = N at hN8 hw hZN HKA HKL c2 hX3 hr3 hW2 hX2 ⊢
 have HT : Hid (∀ (W : World) (rr : List Nat) (p q : Nat), RegsAt W g rr → rr.length = N → p < N → Calls Tryz.prog 205 #[.agg #[.int .i64 ((b : Int) - 1), .string ⟨#[]⟩, .slice (some ⟨g, 0, none⟩) N N, .func (.func 202) #[] #[]], .int .i64 p, .int .u8 q] W fun e w' => e = .returned (.tuple #[]) ∧ RegsAt w' g (hlTell rr p q) ∧ W.grownBy w' (some g)) := fun W rr p q h hlen hp => tell_any _ _ g N N p q rr W h (by omega) hlen
 have HBX : Hid (∀ W, W3.grownBy W (some g) → W.heap[w2.heap.size]? = some (.cells #[.int .i64 ((b : Int) - 1), .string ⟨#[]⟩, .slice (some ⟨g, 0, none⟩) N N, .func (.func 202) #[] #[]] 303 (0, 0)) ∧ W.heap[w.heap.size]? = some (.cells #[.int .i64 b, .string s] 32 (0, 0)) ∧ W.heap[w.heap.size + 1]? = some (.cells #[.int .i64 0, .string ⟨#[]⟩] 32 (0, 0))) := fun W hG => by
  have h1 := hb1.size
  have h2 := hb2.size
  refine ⟨(hG.block _ (Array.getElem?_eq_some_iff.1 hX3).1 (fun e => by cases e; omega)).trans hX3, ?_, ?_⟩
  ·exact (hG.block w.heap.size (by omega) (fun e => by cases e; omega)).trans (known (hb2.trans (hB23.mono hb2.size)) (Nat.le_refl _) hXp1)
  ·exact (hG.block (w.heap.size + 1) (by omega) (fun e => by cases e; omega)).trans (known (hb2.trans (hB23.mono hb2.size)) (Nat.le_refl _) (known hb1 (Nat.le_refl _) HX0.out))
 have HBW := Lib.hid hBw
 have HGG : Hid (w.heap.size ≤ g) := by have := hb1.size; show w.heap.size ≤ g; omega
 clear hX2 hX3 hXp1 hB2 hB23 hb1 hb2 hBw hB02 hR hB hr2
 go_wp2_with fail
 rw [hw]
 go_loopw [6, 7, 28] (fun _ _ i wr => ∃ k : Nat, k ≤ N ∧ i = .int .i64 k ∧ RegsAt wr g (lowK b r k) ∧ W3.grownBy wr (some g)) (fun _ _ i _ => N - (intOf i).toNat)
 case atStart => exact ⟨0, Nat.zero_le _, rfl, by rw [HK0.out]; exact hr3, World.grownBy.refl _ _⟩
 case round =>
  obtain ⟨k, hk, rfl, hR, hG⟩ := hrel
  obtain ⟨hX5, hXp5, hX05⟩ := HBX.out wr hG
  obtain ⟨d0, d1, d2, d3⟩ := cl4 hX5
  obtain ⟨u0, u1⟩ := cl2 hXp5
  have HG := Lib.hid hG
  by_cases hlt : k < N
  ·have hs1 : 2 * k < s.size := by have := hZN.out; omega
   have hs2 : 2 * k + 1 < s.size := by have := hZN.out; omega
   have ex := hby.out (2 * k) hs1
   have ey := hby.out (2 * k + 1) hs2
   have HS := Lib.hid (lowK_step b r k)
   have hx256 : r.getD (2 * k) 0 ≤ 65 := by have := HRG.out (2 * k); omega
   generalize r.getD (2 * k) 0 = x at ex HS hx256
   generalize r.getD (2 * k + 1) 0 = y at ey HS
   have hlk := HKL.out k
   generalize lowK b r k = r0 at hR HS hlk
   have hm : ((x : Int) + 1) % 256 = ((x + 1 : Nat) : Int) := by omega
   clear hX5 hXp5 hX05 hG
   by_cases hx : x = 0
   ·subst hx
    by_cases hy : y = 0
    ·subst hy
     go_wp2_with fail
     go_roundw
     case rel => exact ⟨k + 1, by omega, by simp, by rw [← HS.out]; show RegsAt _ g (hlTell (hlTell r0 k 0) k 0); rw [tell_zero, tell_zero]; exact hR, HG.out⟩
     case measure => simp [intOf]; omega
    ·have t1 : ((y : Int) != 0) = true := by rw [bne_iff_ne]; omega
     go_wp2_with fail
     refine (HT.out wr r0 k 1 hR hlk hlt).mono ?_
     rintro e w6 ⟨rfl, hR6, hG6⟩
     go_wp2_with fail
     go_roundw
     case rel => exact ⟨k + 1, by omega, by simp, by rw [← HS.out]; show RegsAt _ g (hlTell (hlTell r0 k 0) k (oneR y)); rw [tell_zero, show oneR y = 1 from if_neg hy]; exact hR6, HG.out.trans hG6⟩
     case measure => simp [intOf]; omega
   ·have t0 : ((x : Int) != 0) = true := by rw [bne_iff_ne]; omega
    have hux : upR x = x + 1 := if_neg hx
    rw [hux] at HS
    go_wp2_with fail
    refine (HT.out wr r0 k (x + 1) hR hlk hlt).mono ?_
    rintro e w6 ⟨rfl, hR6, hG6⟩
    obtain ⟨hX6, hXp6, hX06⟩ := HBX.out w6 (HG.out.trans hG6)
    obtain ⟨a0, a1, a2, a3⟩ := cl4 hX6
    obtain ⟨v0, v1⟩ := cl2 hXp6
    by_cases hy : y = 0
    ·subst hy
     clear hX6 hXp6 hX06
     go_wp2_with fail
     go_roundw
     case rel => exact ⟨k + 1, by omega, by simp, by rw [← HS.out]; show RegsAt _ g (hlTell (hlTell r0 k (x + 1)) k 0); rw [tell_zero]; exact hR6, HG.out.trans hG6⟩
     case measure => simp [intOf]; omega
    ·have t1 : ((y : Int) != 0) = true := by rw [bne_iff_ne]; omega
     clear hX6 hXp6 hX06
     go_wp2_with fail
     refine (HT.out w6 _ k 1 hR6 (by rw [hlTell_len]; exact hlk) hlt).mono ?_
     rintro e w7 ⟨rfl, hR7, hG7⟩
     go_wp2_with fail
     go_roundw
     case rel => exact ⟨k + 1, by omega, by simp, by rw [← HS.out, show oneR y = 1 from if_neg hy]; exact hR7, (HG.out.trans hG6).trans hG7⟩
     case measure => simp [intOf]; omega
  ·obtain rfl : k = N := by omega
   have hD := hdone_any ((b : Int) - 1) ⟨#[]⟩ g k k (.func (.func 202) #[] #[]) _ wr hR (HKL.out k)
   rw [HKA.out, HOUT.out] at hD
   have hB4 : Below w.heap.size w wr := HBW.out.grown HG.out HBW.out.size (fun j e => by cases e; exact HGG.out)
   clear hR hX5 hXp5 hG
   go_wp2_with fail
   refine hD.mono ?_
   rintro e w5 ⟨rfl, hb5⟩
   have hX5 := known hb5 (Nat.le_refl _) hX05
   have hB5 := hB4.trans (hb5.mono hB4.size)
   obtain ⟨q0, q1⟩ := cl2 hX5
   obtain ⟨f0, f1⟩ := cz2 hX5
   have hX6 := set_cells2 (u := .int .i64 ((b : Int) - 1)) (v := .string out) hX5
   have hB6 := (hB5.setCell (p := ⟨w.heap.size + 1, 0, none⟩) (Nat.le_succ _) (.int .i64 ((b : Int) - 1))).setCell (p := ⟨w.heap.size + 1, 1, none⟩) (Nat.le_succ _) (.string out)
   go_wp2_with fail
   generalize (w5.setCell ⟨w.heap.size + 1, 0, none⟩ (.int .i64 ((b : Int) - 1))).setCell ⟨w.heap.size + 1, 1, none⟩ (.string out) = V at hX6 hB6 ⊢
   obtain ⟨j0, j1⟩ := cl2 hX6
   exact bodyPost_ret (v := .tuple #[.agg #[.int .i64 ((b : Int) - 1), .string out], .int .i64 0]) (by simp [results, Tryz.f221, go_sem, j0, j1]) rfl ⟨rfl, hB6⟩
end Go.Proofs.YthbhmnakmhambaaGreatDoor
namespace Go.Proofs.YthbhmnakmhambaaGreatDoor
open Go Go.RowKit
abbrev BinUp (l : List (Int × Int)) : Prop := l.Pairwise (fun a b => a.1 < b.1)
def binPut : List (Int × Int) → Int → Int → List (Int × Int)
 | [], p, n => [(p, n)]
 | (q, m) :: t, p, n => if q < p then (q, m) :: binPut t p n else if q = p then (q, satI m n) :: t else (p, n) :: (q, m) :: t
def binAt (l : List (Int × Int)) (p : Int) : Option Int := (l.find? (fun b => b.1 == p)).map (·.2)
def binUp (o : Option Int) (n : Int) : Int := match o with
 | some x => satI x n
 | none => n
def hiDone (l : List (Int × Int)) : List (Int × Int) := l.filter (fun b => b.2 != 0)
def hiHalf (p : Int) : Int := if p = 0 then 0 else 1 + (p - 1) / 2
def hiBk (f : Int) (v : Nat) : Int := if v = 0 then 0 else 1 + ((Lib.bitLen v - 1) * 2 ^ f.toNat + v * 2 ^ (64 - (Lib.bitLen v - 1)) % 2 ^ 64 / 2 ^ (64 - f.toNat) : Nat)
def hiAdd (f : Int) (l : List (Int × Int)) (v : Nat) (n : Int) : List (Int × Int) := hiDone (binPut l (hiBk f v) n)
def hiPuts (acc : List (Int × Int)) (l : List (Int × Int)) : List (Int × Int) := l.foldl (fun a b => binPut a b.1 b.2) acc
def hiLow (l : List (Int × Int)) : List (Int × Int) := hiDone (hiPuts [] (l.map fun b => (hiHalf b.1, b.2)))
theorem binUp_tail {b : Int × Int} {t : List (Int × Int)} (h : BinUp (b :: t)) : BinUp t ∧ ∀ c ∈ t, b.1 < c.1 := ⟨(List.pairwise_cons.1 h).2, (List.pairwise_cons.1 h).1⟩
theorem binPut_mem : ∀ (l : List (Int × Int)) (p n : Int) (b : Int × Int), b ∈ binPut l p n → b.1 = p ∨ b ∈ l
 | [], p, n, b, h => by simp [binPut] at h; exact .inl (by rw [h])
 | (q, m) :: t, p, n, b, h => by
  unfold binPut at h
  split at h
  ·rcases List.mem_cons.1 h with rfl | h
   ·exact .inr List.mem_cons_self
   ·rcases binPut_mem t p n b h with h | h
    ·exact .inl h
    ·exact .inr (List.mem_cons_of_mem _ h)
  ·split at h
   ·rename_i h1 h2
    rcases List.mem_cons.1 h with rfl | h
    ·exact .inl h2
    ·exact .inr (List.mem_cons_of_mem _ h)
   ·rcases List.mem_cons.1 h with rfl | h
    ·exact .inl rfl
    ·exact .inr h
theorem binPut_up : ∀ (l : List (Int × Int)) (p n : Int), BinUp l → BinUp (binPut l p n)
 | [], p, n, _ => by simp [binPut]
 | (q, m) :: t, p, n, h => by
  obtain ⟨h1, h2⟩ := binUp_tail h
  unfold binPut
  split
  ·rename_i hq
   refine List.pairwise_cons.2 ⟨fun b hb => ?_, binPut_up t p n h1⟩
   rcases binPut_mem t p n b hb with e | hb
   ·rw [e]; exact hq
   ·exact h2 b hb
  ·split
   ·exact List.pairwise_cons.2 ⟨h2, h1⟩
   ·rename_i h3 h4
    refine List.pairwise_cons.2 ⟨fun b hb => ?_, h⟩
    show p < b.1
    rcases List.mem_cons.1 hb with rfl | hb
    ·show p < q; omega
    ·have h5 : q < b.1 := h2 b hb
     omega
theorem binAt_cons (b : Int × Int) (t : List (Int × Int)) (p : Int) : binAt (b :: t) p = if b.1 = p then some b.2 else binAt t p := by
 unfold binAt
 rw [List.find?_cons]
 by_cases h : b.1 = p
 ·simp [h]
 ·rw [if_neg h, beq_eq_false_iff_ne.2 h]
theorem binAt_none {t : List (Int × Int)} {p : Int} (h : ∀ b ∈ t, p < b.1) : binAt t p = none := by
 unfold binAt
 rw [List.find?_eq_none.2 (fun b hb => by have := h b hb; simp; omega)]
 rfl
theorem binAt_put : ∀ (l : List (Int × Int)) (p n r : Int), BinUp l → binAt (binPut l p n) r = if r = p then some (binUp (binAt l p) n) else binAt l r
 | [], p, n, r, _ => by
  unfold binPut
  rw [binAt_cons]
  by_cases h : r = p
  ·rw [if_pos h, if_pos h.symm]; rfl
  ·rw [if_neg h, if_neg (fun e => h e.symm)]
 | (q, m) :: t, p, n, r, hu => by
  obtain ⟨h1, h2⟩ := binUp_tail hu
  unfold binPut
  split
  ·rename_i hq
   rw [binAt_cons, binAt_put t p n r h1, binAt_cons (q, m) t p, binAt_cons (q, m) t r]
   dsimp only
   rw [if_neg (by omega : ¬ q = p)]
   by_cases h : r = p
   ·rw [if_pos h, if_neg (by omega), if_pos h]
   ·rw [if_neg h, if_neg h]
  ·split
   ·rename_i h3 h4
    subst h4
    rw [binAt_cons, binAt_cons, binAt_cons]
    dsimp only
    rw [if_pos rfl]
    by_cases h : r = q
    ·rw [if_pos h, if_pos h.symm]; rfl
    ·rw [if_neg h, if_neg (fun e => h e.symm), if_neg (fun e => h e.symm)]
   ·rename_i h3 h4
    rw [binAt_cons]
    dsimp only
    by_cases h : r = p
    ·rw [if_pos h, if_pos h.symm]
     have : binAt ((q, m) :: t) p = none := binAt_none (fun b hb => by
      rcases List.mem_cons.1 hb with rfl | hb
      ·show p < q; omega
      ·have h5 : q < b.1 := h2 b hb
       omega)
     rw [this]; rfl
    ·rw [if_neg h, if_neg (fun e => h e.symm)]
def BinsU (l : List (Int × Int)) : Prop := ∀ b ∈ l, U64 b.2
theorem binAt_u64 {l : List (Int × Int)} (h : BinsU l) {p x : Int} (hx : binAt l p = some x) : U64 x := by
 unfold binAt at hx
 cases hf : l.find? (fun b => b.1 == p) with
 | none => rw [hf] at hx; cases hx
 | some b =>
  rw [hf] at hx
  simp only [Option.map_some, Option.some.injEq] at hx
  rw [← hx]
  exact h b (List.mem_of_find?_eq_some hf)
theorem binPut_u64 : ∀ (l : List (Int × Int)) (p n : Int), BinsU l → U64 n → BinsU (binPut l p n)
 | [], p, n, _, hn => by intro b hb; simp [binPut] at hb; rw [hb]; exact hn
 | (q, m) :: t, p, n, h, hn => by
  have ht : BinsU t := fun b hb => h b (List.mem_cons_of_mem _ hb)
  unfold binPut
  split
  ·intro b hb
   rcases List.mem_cons.1 hb with rfl | hb
   ·exact h _ List.mem_cons_self
   ·exact binPut_u64 t p n ht hn b hb
  ·split
   ·intro b hb
    rcases List.mem_cons.1 hb with rfl | hb
    ·exact satI_u64 _ _ (h (q, m) List.mem_cons_self) hn
    ·exact ht b hb
   ·intro b hb
    rcases List.mem_cons.1 hb with rfl | hb
    ·exact hn
    ·exact h b hb
theorem satI_0 (n : Int) (hn : U64 n) : satI 0 n = n := by
 unfold U64 satI at *
 split <;> omega
theorem hiPuts_up : ∀ (l a : List (Int × Int)), BinUp a → BinUp (hiPuts a l)
 | [], _, h => h
 | b :: l, a, h => hiPuts_up l _ (binPut_up a b.1 b.2 h)
theorem hiPuts_u64 : ∀ (l a : List (Int × Int)), BinsU a → BinsU l → BinsU (hiPuts a l)
 | [], _, h, _ => h
 | b :: l, a, h, hl => hiPuts_u64 l _ (binPut_u64 a b.1 b.2 h (hl b List.mem_cons_self)) (fun c hc => hl c (List.mem_cons_of_mem _ hc))
theorem hiDone_up {l : List (Int × Int)} (h : BinUp l) : BinUp (hiDone l) := h.sublist List.filter_sublist
theorem hiDone_u64 {l : List (Int × Int)} (h : BinsU l) : BinsU (hiDone l) := fun b hb => h b (List.mem_filter.1 hb).1
theorem hiDone_pos {l : List (Int × Int)} : ∀ b ∈ hiDone l, b.2 ≠ 0 := fun b hb => by simpa using (List.mem_filter.1 hb).2
theorem half_bins {l : List (Int × Int)} (h : ∀ b ∈ l, b.2 ≠ 0) (hu : BinsU l) : (∀ b ∈ l.map fun b => (hiHalf b.1, b.2), b.2 ≠ 0) ∧ BinsU (l.map fun b => (hiHalf b.1, b.2)) :=
 ⟨fun c hc => by obtain ⟨d, hd, rfl⟩ := List.mem_map.1 hc; exact h d hd, fun c hc => by obtain ⟨d, hd, rfl⟩ := List.mem_map.1 hc; exact hu d hd⟩
theorem binPut_len : ∀ (l : List (Int × Int)) (p n : Int), (binPut l p n).length ≤ l.length + 1
 | [], _, _ => by simp [binPut]
 | (q, m) :: t, p, n => by
  have := binPut_len t p n
  unfold binPut
  split
  ·simp only [List.length_cons]; omega
  ·split <;> simp
theorem hiPuts_len : ∀ (l a : List (Int × Int)), (hiPuts a l).length ≤ a.length + l.length
 | [], _ => by simp [hiPuts]
 | b :: l, a => by
  have h1 := hiPuts_len l (binPut a b.1 b.2)
  have h2 := binPut_len a b.1 b.2
  show (hiPuts (binPut a b.1 b.2) l).length ≤ _
  simp only [List.length_cons]
  omega
theorem hiDone_len (l : List (Int × Int)) : (hiDone l).length ≤ l.length := List.length_filter_le _ _
theorem hiLow_len (l : List (Int × Int)) : (hiLow l).length ≤ l.length := by
 have h1 := hiDone_len (hiPuts [] (l.map fun b => (hiHalf b.1, b.2)))
 have h2 := hiPuts_len (l.map fun b => (hiHalf b.1, b.2)) []
 simp only [List.length_map, List.length_nil] at h2
 unfold hiLow
 omega
end Go.Proofs.YthbhmnakmhambaaGreatDoor
namespace Go.Proofs.YthbhmnakmhambaaGreatDoor
open Go Go.RowKit
inductive Bd where
 | num (l : List Int)
 | reg (b : Nat) (r : List Nat)
 | cnt (c : Nat) (l : List Int)
 | bkt (f : Nat) (l : List (Int × Int))
def Bd.add : Bd → Nat → Int → Option Bd
 | .num l, h, _ => (exGather l [(h : Int)]).map .num
 | .reg b r, h, _ => some (.reg b (hlAdd b r h))
 | .cnt c l, h, n => some (.cnt c (cmAdd c l h n))
 | .bkt f l, h, n => some (.bkt f (hiAdd f l h n))
def Bd.low : Bd → Bd
 | .num l => .reg 7 (hlSum 7 (hlNone 7) (l.map Int.toNat))
 | .reg b r => .reg (b - 1) (hlLow b r)
 | .cnt c l => .cnt (c / 2) (cmLow c l)
 | .bkt f l => .bkt (f - 1) (hiLow l)
def Bd.Ok (kind level : Nat) : Bd → Prop
 | .num l => kind = 1 ∧ level = 0 ∧ Up l ∧ l.length ≤ 64 ∧ U64s l
 | .reg b r => kind = 1 ∧ 1 ≤ level ∧ level ≤ 4 ∧ b + level = 8 ∧ r.length = 2 ^ b ∧ ∀ i, r.getD i 0 ≤ 65 - b
 | .cnt c l => kind = 2 ∧ level ≤ 3 ∧ c * 2 ^ level = 32 ∧ l.length = c + c ∧ U64s l
 | .bkt f l => kind = 3 ∧ level ≤ 3 ∧ f + level = 3 ∧ BinUp l ∧ (∀ b ∈ l, b.2 ≠ 0) ∧ BinsU l ∧ ∀ b ∈ l, boundsB f b.1 = true
def botN (kind : Nat) : Nat := if kind = 1 then 4 else 3
def Item.ok (i : Nat × Int) : Prop := i.1 < 2 ^ 64 ∧ U64 i.2
theorem isFine_nat (f : Nat) (hf : f ≤ 3) : isFineB (f : Int) = true := by simp [isFineB]; omega
theorem half_small : ∀ f ∈ [1, 2, 3], ∀ p ∈ List.range 26, boundsB ((f : Nat) : Int) ((p : Nat) : Int) = true → boundsB ((f : Nat) - 1 : Int) (hiHalf ((p : Nat) : Int)) = true := by decide +kernel
theorem bounds_half (f : Nat) (h1 : 1 ≤ f) (h3 : f ≤ 3) (p : Int) (h : boundsB f p = true) : boundsB ((f - 1 : Nat) : Int) (hiHalf p) = true := by
 have hp0 : 0 ≤ p := by
  unfold boundsB at h
  split at h
  ·rename_i hc
   simp only [Bool.and_eq_true, decide_eq_true_eq] at hc
   exact hc.2
  ·cases h
 have hf1 : ((f - 1 : Nat) : Int) = (f : Int) - 1 := by omega
 by_cases hs : p < 26
 ·have := half_small f (by simp; omega) p.toNat (by simp; omega)
  rw [Int.toNat_of_nonneg hp0] at this
  rw [hf1]
  exact this h
 rw [boundsB_at _ _ (by omega) (isFine_nat f h3)] at h
 have hh : hiHalf p = 1 + (p - 1) / 2 := by unfold hiHalf; rw [if_neg (by omega)]
 rw [hh, boundsB_at _ _ (by omega) (isFine_nat _ (by omega))]
 rcases (by omega : f = 1 ∨ f = 2 ∨ f = 3) with rfl | rfl | rfl
 ·simp only [show (((1 : Nat) : Int)).toNat = 1 from rfl, show (((1 - 1 : Nat) : Int)).toNat = 0 from rfl] at h ⊢
  by_cases hc : 64 ≤ (p - 1) / 2 ^ 1
  ·rw [if_pos hc] at h; cases h
  ·rw [if_neg (by omega), if_pos (by omega)]
 ·simp only [show (((2 : Nat) : Int)).toNat = 2 from rfl, show (((2 - 1 : Nat) : Int)).toNat = 1 from rfl] at h ⊢
  by_cases hc : 64 ≤ (p - 1) / 2 ^ 2
  ·rw [if_pos hc] at h; cases h
  ·rw [if_neg (by omega), if_pos (by omega)]
 ·simp only [show (((3 : Nat) : Int)).toNat = 3 from rfl, show (((3 - 1 : Nat) : Int)).toNat = 2 from rfl] at h ⊢
  by_cases hc : 64 ≤ (p - 1) / 2 ^ 3
  ·rw [if_pos hc] at h; cases h
  ·rw [if_neg (by omega), if_pos (by omega)]
theorem cnt_cases {c level : Nat} (h3 : level ≤ 3) (h : c * 2 ^ level = 32) : (level = 0 ∧ c = 32) ∨ (level = 1 ∧ c = 16) ∨ (level = 2 ∧ c = 8) ∨ (level = 3 ∧ c = 4) := by
 rcases (by omega : level = 0 ∨ level = 1 ∨ level = 2 ∨ level = 3) with rfl | rfl | rfl | rfl <;> simp only [Nat.reducePow] at h <;> omega
theorem hlSum_le (b : Nat) (hb : b ≤ 8) : ∀ (l r : List Nat), (∀ i, r.getD i 0 ≤ 65 - b) → ∀ i, (hlSum b r l).getD i 0 ≤ 65 - b
 | [], _, h => h
 | x :: l, r, h => hlSum_le b hb l _ (hlTell_le r _ _ _ h (hlRank_le b x hb))
theorem hlNone_le (b m : Nat) : ∀ i, (hlNone b).getD i 0 ≤ m := fun i => by
 unfold hlNone
 rw [List.getD_eq_getElem?_getD, List.getElem?_replicate]
 split <;> simp
theorem hlLow_le (b : Nat) (h1 : 4 ≤ b) (h2 : b ≤ 8) (r : List Nat) (h : ∀ i, r.getD i 0 ≤ 65 - b) : ∀ i, (hlLow b r).getD i 0 ≤ 65 - (b - 1) := fun i => by
 by_cases hi : i < 2 ^ (b - 1)
 ·rw [low_at _ _ _ hi]
  have g1 := h (2 * i)
  have g2 := oneR_le (r.getD (2 * i + 1) 0)
  have g3 : upR (r.getD (2 * i) 0) ≤ r.getD (2 * i) 0 + 1 := by unfold upR; split <;> omega
  omega
 ·rw [List.getD_eq_getElem?_getD, List.getElem?_eq_none (by rw [hlLow_len]; omega)]
  simp
theorem hiPuts_mem : ∀ (l a : List (Int × Int)) (x : Int × Int), x ∈ hiPuts a l → x ∈ a ∨ (∃ y ∈ a, x.1 = y.1) ∨ ∃ y ∈ l, x.1 = y.1
 | [], _, _, h => .inl h
 | b :: l, a, x, h => by
  rcases hiPuts_mem l (binPut a b.1 b.2) x h with h | ⟨y, hy, e⟩ | ⟨y, hy, e⟩
  ·rcases binPut_mem _ _ _ x h with e | h
   ·exact .inr (.inr ⟨b, List.mem_cons_self, e⟩)
   ·exact .inl h
  ·rcases binPut_mem _ _ _ y hy with e2 | h
   ·exact .inr (.inr ⟨b, List.mem_cons_self, e.trans e2⟩)
   ·exact .inr (.inl ⟨y, h, e⟩)
  ·exact .inr (.inr ⟨y, List.mem_cons_of_mem _ hy, e⟩)
theorem bd_low_ok {k L : Nat} {b : Bd} (hb : b.Ok k L) (hL : L < botN k) : b.low.Ok k (L + 1) := by
 cases b with
 | num l =>
  obtain ⟨h1, h2, h3, h4, h5⟩ := hb
  subst h1
  subst h2
  exact ⟨rfl, by omega, by omega, by omega, by rw [hlSum_len]; simp [hlNone], hlSum_le 7 (by omega) _ _ (hlNone_le 7 _)⟩
 | reg b r =>
  obtain ⟨h1, h2, h3, h4, h5, h6⟩ := hb
  subst h1
  have hL4 : L < 4 := hL
  exact ⟨rfl, by omega, by omega, by omega, by rw [hlLow_len], hlLow_le b (by omega) (by omega) r h6⟩
 | cnt c l =>
  obtain ⟨h1, h2, h3, h4, h5⟩ := hb
  subst h1
  have hL3 : L < 3 := hL
  refine ⟨rfl, by omega, ?_, by rw [cmLow_len], cmLow_u64 c l h5⟩
  rcases cnt_cases h2 h3 with ⟨rfl, rfl⟩ | ⟨rfl, rfl⟩ | ⟨rfl, rfl⟩ | ⟨rfl, rfl⟩ <;> first | rfl | omega
 | bkt f l =>
  obtain ⟨h1, h2, h3, h4, h5, h6, h7⟩ := hb
  subst h1
  have hL3 : L < 3 := hL
  obtain ⟨g1, g2⟩ := half_bins h5 h6
  refine ⟨rfl, by omega, by omega, ?_, hiDone_pos, hiDone_u64 (hiPuts_u64 _ [] (fun b hb => by cases hb) g2), ?_⟩
  ·exact hiDone_up (hiPuts_up _ [] List.Pairwise.nil)
  ·intro x hx
   rcases hiPuts_mem _ _ x (List.mem_filter.1 hx).1 with h | ⟨y, hy, e⟩ | ⟨y, hy, e⟩
   ·cases h
   ·cases hy
   ·obtain ⟨z, hz, rfl⟩ := List.mem_map.1 hy
    rw [e]
    exact bounds_half f (by omega) (by omega) z.1 (h7 z hz)
def bdNew (k : Nat) : Bd := if k = 1 then .num [] else if k = 2 then .cnt 32 (cmNone 32) else .bkt 3 []
theorem bdNew_ok (k : Nat) (h : k = 1 ∨ k = 2 ∨ k = 3) : (bdNew k).Ok k 0 := by
 rcases h with rfl | rfl | rfl
 ·exact ⟨rfl, rfl, List.Pairwise.nil, by simp, fun n hn => by cases hn⟩
 ·refine ⟨rfl, by omega, rfl, by simp [cmNone], fun n hn => ?_⟩
  rw [List.eq_of_mem_replicate hn]; exact u64_0
 ·exact ⟨rfl, by omega, rfl, List.Pairwise.nil, (fun b hb => by cases hb), (fun b hb => by cases hb), fun b hb => by cases hb⟩
end Go.Proofs.YthbhmnakmhambaaGreatDoor
namespace Go.Proofs.YthbhmnakmhambaaGreatDoor
open Go Go.RowKit
def Bd.wide : Bd → Prop
 | .num _ => False
 | _ => True
end Go.Proofs.YthbhmnakmhambaaGreatDoor
