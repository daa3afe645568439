/- aviarylaw10.Few. -/
import Derived.Test.YtpnlmfilmbodfaaGreatDoorVF6
import Derived.Test.YtpnlmfilmbodfaaGreatDoorVA8
namespace Go.Proofs.YtpnlmfilmbodfaaGreatDoor
open Go Go.RowKit
def Sk.cut (x : Sk) : Sk := { x with e := x.e.take 70, hr := cutN 260 x.hr, cl := x.cl.take 200, gl := x.gl.take 300 }
def SS.cut (s : SS) : SS := { s with el := min s.el 70, cl := min s.cl 200, gl := min s.gl 300 }
theorem SlC.take_min {α : Type} {enc : α → List Value} {k n₀ : Nat} {w : World} {a : Option Addr} {len cap : Nat} {l : List α} (h : SlC enc k n₀ w a len cap l) (m : Nat) : SlC enc k n₀ w a (min len m) cap (l.take m) := by
  have h1 := h.take (min len m) (Nat.min_le_left _ _)
  have h2 : l.take (min len m) = l.take m := by rw [h.1.1, Nat.min_comm]; exact List.take_eq_take_min.symm
  rwa [h2] at h1
theorem SS.At.cut {s : SS} {n : Nat} {w : World} {x : Sk} (h : s.At n w x) : s.cut.At n w x.cut := ⟨h.e.take_min 70, h.c.take_min 200, h.g.take_min 300⟩
theorem wp_region_class_lit {P : Program} (Inv : World → Prop) {id : Nat} {Q : Exit → Act → World → Prop} {a : Act} {w : World} {L l : List Oper} {o : Oper} (hl : L = l ++ [o]) (hm : P.follows .mixedOrders = true) (hB : Region.lexB .any l.toArray = true) (hb : lastB .any l.toArray o = true) (hC : Inv w.drew)
    (h : wpQuiet P l.toArray (fun w' => ∃ X : WIn Inv, w' = X.world) (fun a' => ∀ w', (∃ X : WIn Inv, w' = X.world) → o.wp P a' w' (fun a'' w'' => Q .normal a'' w'') Q) l a) : (Code.region id L.toArray true).wp P Q a w := by
  subst hl
  exact wp_region_class_last Inv hm hB hb hC h
theorem und_sketch : Tryz.prog.underlying 33 = some (.struct (Tryz.prog.fieldsOf 33)) := by kernel_rfl
theorem size_sketch : (Tryz.prog.info? 33).map (·.size) = some 10 := by kernel_rfl
structure FewIn (x : Sk) (s : SS) (w W : World) : Prop where
  box : W.heap[w.heap.size]? = some (.cells #[.int .i64 x.kind, .int .i64 x.level, .slice s.ea s.el s.ec, .int .i64 x.hb, .string x.hr, .int .i64 x.cr, .int .i64 x.cc, .slice s.ca s.cl s.cc, .int .i64 x.gf, .slice s.ga s.gl s.gc] 33 (0, 0))
  res : W.heap[w.heap.size + 1]? = some (.cells #[.int .i64 0, .int .i64 0, .slice none 0 0, .int .i64 0, .string ⟨#[]⟩, .int .i64 0, .int .i64 0, .slice none 0 0, .int .i64 0, .slice none 0 0] 33 (0, 0))
  below : Below w.heap.size w W
theorem FewIn.go {x : Sk} {s : SS} {w W W' : World} (h : FewIn x s w W) (hb : Below W.heap.size W W') : FewIn x s w W' := ⟨known hb (Nat.le_refl _) h.box, known hb (Nat.le_refl _) h.res, h.below.trans (hb.mono h.below.size)⟩
set_option maxRecDepth 100000 in
set_option maxHeartbeats 2000000 in
theorem few10_any (x : Sk) (s : SS) (w : World) (h : s.At w.heap.size w x) :
    Calls Tryz.prog 16 #[skVal x s] w fun e w' => e = .returned (skVal x.cut s.cut) ∧ Below w.heap.size w w' := by
  have he := h.e.2.1
  have hc := h.c.2.1
  have hg := h.g.2.1
  unfold skVal
  obtain ⟨W0, hW0, hX0, hX1, hB0, hs0⟩ := boxes2 w #[.int .i64 x.kind, .int .i64 x.level, .slice s.ea s.el s.ec, .int .i64 x.hb, .string x.hr, .int .i64 x.cr, .int .i64 x.cc, .slice s.ca s.cl s.cc, .int .i64 x.gf, .slice s.ga s.gl s.gc] 33 #[.int .i64 0, .int .i64 0, .slice none 0 0, .int .i64 0, .string ⟨#[]⟩, .int .i64 0, .int .i64 0, .slice none 0 0, .int .i64 0, .slice none 0 0] 33
  have hI : FewIn x s w W0 := ⟨hX0, hX1, hB0⟩
  let Inv : World → Prop := FewIn x s w
  have hgo : ∀ W W', Inv W → Below W.heap.size W W' → Inv W' := fun W W' h hb => FewIn.go h hb
  have q0 : ∀ X : WIn Inv, X.world.cell? ⟨w.heap.size, 0, none⟩ = some (.int .i64 x.kind) := fun X => cCc X.ok.box 0
  have q1 : ∀ X : WIn Inv, X.world.cell? ⟨w.heap.size, 1, none⟩ = some (.int .i64 x.level) := fun X => cCc X.ok.box 1
  have q2 : ∀ X : WIn Inv, X.world.cell? ⟨w.heap.size, 2, none⟩ = some (.slice s.ea s.el s.ec) := fun X => cCc X.ok.box 2
  have q3 : ∀ X : WIn Inv, X.world.cell? ⟨w.heap.size, 3, none⟩ = some (.int .i64 x.hb) := fun X => cCc X.ok.box 3
  have q4 : ∀ X : WIn Inv, X.world.cell? ⟨w.heap.size, 4, none⟩ = some (.string x.hr) := fun X => cCc X.ok.box 4
  have q5 : ∀ X : WIn Inv, X.world.cell? ⟨w.heap.size, 5, none⟩ = some (.int .i64 x.cr) := fun X => cCc X.ok.box 5
  have q6 : ∀ X : WIn Inv, X.world.cell? ⟨w.heap.size, 6, none⟩ = some (.int .i64 x.cc) := fun X => cCc X.ok.box 6
  have q7 : ∀ X : WIn Inv, X.world.cell? ⟨w.heap.size, 7, none⟩ = some (.slice s.ca s.cl s.cc) := fun X => cCc X.ok.box 7
  have q8 : ∀ X : WIn Inv, X.world.cell? ⟨w.heap.size, 8, none⟩ = some (.int .i64 x.gf) := fun X => cCc X.ok.box 8
  have q9 : ∀ X : WIn Inv, X.world.cell? ⟨w.heap.size, 9, none⟩ = some (.slice s.ga s.gl s.gc) := fun X => cCc X.ok.box 9
  have K6 : Hid (∀ X : WIn Inv, Calls Tryz.prog 64 #[.agg #[.slice s.ea s.el s.ec]] X.world fun e w' => e = .returned (.agg #[.slice s.ea (min s.el 70) s.ec]) ∧ ∃ Y : WIn Inv, w' = Y.world) := fun X => calls_class_below hgo (few06_any _ _ _ X.world he)
  have K7 : Hid (∀ X : WIn Inv, Calls Tryz.prog 65 #[.agg #[.int .i64 x.hb, .string x.hr]] X.world fun e w' => e = .returned (.agg #[.int .i64 x.hb, .string (cutN 260 x.hr)]) ∧ ∃ Y : WIn Inv, w' = Y.world) := fun X => calls_class_below hgo (few07_any _ _ X.world)
  have K8 : Hid (∀ X : WIn Inv, Calls Tryz.prog 66 #[.agg #[.int .i64 x.cr, .int .i64 x.cc, .slice s.ca s.cl s.cc]] X.world fun e w' => e = .returned (.agg #[.int .i64 x.cr, .int .i64 x.cc, .slice s.ca (min s.cl 200) s.cc]) ∧ ∃ Y : WIn Inv, w' = Y.world) := fun X => calls_class_below hgo (few08_any _ _ _ _ _ X.world hc)
  have K9 : Hid (∀ X : WIn Inv, Calls Tryz.prog 67 #[.agg #[.int .i64 x.gf, .slice s.ga s.gl s.gc]] X.world fun e w' => e = .returned (.agg #[.int .i64 x.gf, .slice s.ga (min s.gl 300) s.gc]) ∧ ∃ Y : WIn Inv, w' = Y.world) := fun X => calls_class_below hgo (few09_any _ _ _ _ X.world hg)
  have hfin : Hid (∀ X : WIn Inv, FewIn x s w X.world) := fun X => X.ok
  have hI0 : Hid (Inv W0.drew) := hI.go (Below.refl _ _).drew
  have hne : Nonempty (WIn Inv) := ⟨⟨_, hI0.out⟩⟩
  clear h hI hgo hX0 hX1 hB0 hs0
  clear_value Inv
  go_enter Tryz.func16, Tryz.ntmps16
  go_wp2_with fail
  refine wp_region_class_lit Inv (l := [_, _, _, _, _, _, _, _, _, _, _, _, _, _, _, _, _]) (o := _) rfl (by kernel_rfl) (by kernel_rfl) (by kernel_rfl) hI0.out ?_
  repeat (first | go_big_quiet_step ((first | (go_at_call 64; with_reducible exact K6.out _) | (go_at_call 65; with_reducible exact K7.out _) | (go_at_call 66; with_reducible exact K8.out _) | (go_at_call 67; with_reducible exact K9.out _))) | quiet_step ((first | (go_at_call 64; with_reducible exact K6.out _) | (go_at_call 65; with_reducible exact K7.out _) | (go_at_call 66; with_reducible exact K8.out _) | (go_at_call 67; with_reducible exact K9.out _))))
  refine wpQuiet_nil ?_
  rintro _ ⟨X, rfl⟩
  have hF := hfin.out X
  have hres := hF.res
  have hbel := hF.below
  generalize X.world = W at hres hbel
  clear hF hfin hI0 hne K6 K7 K8 K9 q0 q1 q2 q3 q4 q5 q6 q7 q8 q9 hW0
  have d0 : W.cell? ⟨w.heap.size + 1, 0, none⟩ = some (.int .i64 0) := cCc hres 0
  have d1 : W.cell? ⟨w.heap.size + 1, 1, none⟩ = some (.int .i64 0) := cCc hres 1
  have d2 : W.cell? ⟨w.heap.size + 1, 2, none⟩ = some (.slice none 0 0) := cCc hres 2
  have d3 : W.cell? ⟨w.heap.size + 1, 3, none⟩ = some (.int .i64 0) := cCc hres 3
  have d4 : W.cell? ⟨w.heap.size + 1, 4, none⟩ = some (.string ⟨#[]⟩) := cCc hres 4
  have d5 : W.cell? ⟨w.heap.size + 1, 5, none⟩ = some (.int .i64 0) := cCc hres 5
  have d6 : W.cell? ⟨w.heap.size + 1, 6, none⟩ = some (.int .i64 0) := cCc hres 6
  have d7 : W.cell? ⟨w.heap.size + 1, 7, none⟩ = some (.slice none 0 0) := cCc hres 7
  have d8 : W.cell? ⟨w.heap.size + 1, 8, none⟩ = some (.int .i64 0) := cCc hres 8
  have d9 : W.cell? ⟨w.heap.size + 1, 9, none⟩ = some (.slice none 0 0) := cCc hres 9
  have f0 : W.frozen? ⟨w.heap.size + 1, 0, none⟩ = false := cFz hres 0
  have f1 : W.frozen? ⟨w.heap.size + 1, 1, none⟩ = false := cFz hres 1
  have f2 : W.frozen? ⟨w.heap.size + 1, 2, none⟩ = false := cFz hres 2
  have f3 : W.frozen? ⟨w.heap.size + 1, 3, none⟩ = false := cFz hres 3
  have f4 : W.frozen? ⟨w.heap.size + 1, 4, none⟩ = false := cFz hres 4
  have f5 : W.frozen? ⟨w.heap.size + 1, 5, none⟩ = false := cFz hres 5
  have f6 : W.frozen? ⟨w.heap.size + 1, 6, none⟩ = false := cFz hres 6
  have f7 : W.frozen? ⟨w.heap.size + 1, 7, none⟩ = false := cFz hres 7
  have f8 : W.frozen? ⟨w.heap.size + 1, 8, none⟩ = false := cFz hres 8
  have f9 : W.frozen? ⟨w.heap.size + 1, 9, none⟩ = false := cFz hres 9
  go_wp2_with fail
  refine bodyPost_ret (results_cell_row rfl _ _ (w.heap.size + 1) 33 #[.int .i64 x.kind, .int .i64 x.level, .slice s.ea (min s.el 70) s.ec, .int .i64 x.hb, .string (cutN 260 x.hr), .int .i64 x.cr, .int .i64 x.cc, .slice s.ca (min s.cl 200) s.cc, .int .i64 x.gf, .slice s.ga (min s.gl 300) s.gc] (0, 0) _ rfl (set10 hres) und_sketch rfl size_sketch) rfl ⟨rfl, ((((((((((hbel.setCell (p := ⟨w.heap.size + 1, 0, none⟩) (Nat.le_succ _) _).setCell (p := ⟨w.heap.size + 1, 1, none⟩) (Nat.le_succ _) _).setCell (p := ⟨w.heap.size + 1, 2, none⟩) (Nat.le_succ _) _).setCell (p := ⟨w.heap.size + 1, 3, none⟩) (Nat.le_succ _) _).setCell (p := ⟨w.heap.size + 1, 4, none⟩) (Nat.le_succ _) _).setCell (p := ⟨w.heap.size + 1, 5, none⟩) (Nat.le_succ _) _).setCell (p := ⟨w.heap.size + 1, 6, none⟩) (Nat.le_succ _) _).setCell (p := ⟨w.heap.size + 1, 7, none⟩) (Nat.le_succ _) _).setCell (p := ⟨w.heap.size + 1, 8, none⟩) (Nat.le_succ _) _).setCell (p := ⟨w.heap.size + 1, 9, none⟩) (Nat.le_succ _) _)⟩
end Go.Proofs.YtpnlmfilmbodfaaGreatDoor
