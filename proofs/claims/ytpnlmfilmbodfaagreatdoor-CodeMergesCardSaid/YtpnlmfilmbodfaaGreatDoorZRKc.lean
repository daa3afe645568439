/- What rows have in common: the four sentinels. Printed by gen_rz.py. -/
import Derived.Test.YtpnlmfilmbodfaaGreatDoorZLF
import Derived.Test.YtpnlmfilmbodfaaGreatDoorZYL
import Derived.Stop.LaidTwo
namespace Go.Proofs.YtpnlmfilmbodfaaGreatDoor
open Go Go.ChangeShapes Go.WideShapes Go.ChangeAt Go.RowKit Go.Lib Go.Deep Go.Shelf
def laidS : List (String × DataW Unit) := [("aviary/field.errMore", Rows.laid_aviary_field_errMore), ("aviary/field.errField", Rows.laid_aviary_field_errField), ("aviary/code.errMore", Rows.laid_aviary_code_errMore), ("aviary/code.errCode", Rows.laid_aviary_code_errCode)]
theorem star : "*" ++ "errors.errorString" = "*errors.errorString" := by decide
theorem rowErr (u : TypeId) (h : Tryz.prog.typeName? 3 u = some "*errors.errorString") : u = 345 :=
  typeName_ptr_named (nm := "errors.errorString") (by rw [star]; kernel_rfl) (by kernel_rfl) (by decide) u (by rw [star]; exact h)
theorem gA : Tryz.prog.globalNamed "aviary/field.errMore" = some 3 := by kernel_rfl
theorem gB : Tryz.prog.globalNamed "aviary/field.errField" = some 4 := by kernel_rfl
theorem gC : Tryz.prog.globalNamed "aviary/code.errMore" = some 0 := by kernel_rfl
theorem gD : Tryz.prog.globalNamed "aviary/code.errCode" = some 1 := by kernel_rfl
theorem ge_of {W : World} (hL' : laidMet Tryz.prog laidS W) (hS : W.ShapedOpen Tryz.prog) : ∃ fm ff cm cc, GE fm ff cm cc W := by
  have hL2 : laidMet Tryz.prog (("aviary/code.errMore", Rows.laid_aviary_code_errMore) :: ("aviary/code.errCode", Rows.laid_aviary_code_errCode) :: []) W := hL'.tail.tail
  obtain ⟨a0, a1, s0, s1, c0, c1, t0, t1, hv0, hv1, -, -, -, -, -, -, hne, hb0, hb1⟩ := laid_sentinels2 hL' gA (by kernel_rfl : (Tryz.prog.globals[3]?).map (·.type) = some 90) gB (by kernel_rfl) Tryz.underlying90 rowErr Tryz.underlying345 Tryz.underlying432 rfl rfl undStr (by kernel_rfl) (by kernel_rfl)
  obtain ⟨b0, b1, r0, r1, d0, d1, u0, u1, hw0, hw1, -, -, -, -, -, -, hne2, hd0, hd1⟩ := laid_sentinels2 hL2 gC (by kernel_rfl : (Tryz.prog.globals[0]?).map (·.type) = some 90) gD (by kernel_rfl) Tryz.underlying90 rowErr Tryz.underlying345 Tryz.underlying432 rfl rfl undStr (by kernel_rfl) (by kernel_rfl)
  have k0 : W.cell? ⟨3, 0, none⟩ = some (errV a0) := by simpa using World.var?_cell gA hv0 0
  have k1 : W.cell? ⟨4, 0, none⟩ = some (errV a1) := by simpa using World.var?_cell gB hv1 0
  have k2 : W.cell? ⟨0, 0, none⟩ = some (errV b0) := by simpa using World.var?_cell gC hw0 0
  have k3 : W.cell? ⟨1, 0, none⟩ = some (errV b1) := by simpa using World.var?_cell gD hw1 0
  refine ⟨a0, a1, b0, b1, k0, k1, k2, k3, fun h => hne h.symm, fun h => hne2 h.symm, ⟨_, _, hb0⟩, ⟨_, _, hb1⟩, ⟨_, _, hd0⟩, ⟨_, _, hd1⟩, ?_⟩
  exact size_of hS
def laidC : List (String × DataW Unit) := eT :: laidS
theorem metC {W : World} (h : laidMetH Tryz.prog laidC W) : laidMet Tryz.prog laidS W ∧ handlesMet Tryz.prog [eT] W := h
abbrev tA : ByteArray := { data := #[102, 105, 101, 108, 100, 58, 32, 98, 121, 116, 101, 115, 32, 97, 114, 101, 32, 109, 105, 115, 115, 105, 110, 103] }
abbrev tB : ByteArray := { data := #[102, 105, 101, 108, 100, 58, 32, 116, 104, 101, 115, 101, 32, 98, 121, 116, 101, 115, 32, 97, 114, 101, 32, 110, 111, 110, 101] }
abbrev tC : ByteArray := { data := #[98, 121, 116, 101, 115, 32, 97, 114, 101, 32, 109, 105, 115, 115, 105, 110, 103] }
abbrev tD : ByteArray := { data := #[116, 104, 101, 115, 101, 32, 97, 114, 101, 32, 110, 111, 32, 115, 107, 101, 116, 99, 104, 39, 115, 32, 98, 121, 116, 101, 115] }
noncomputable def low : Nat := (World.holding Tryz.prog default ⟨#[], #[], []⟩).heap.size
noncomputable def laidWorldC (os : Os) : World :=
  let w0 := World.holding Tryz.prog os ⟨#[.cells #[.string tA] 432, .cells #[.string tB] 432, .cells #[.string tC] 432, .cells #[.string tD] 432], #[], []⟩
  { w0 with heap := ((((w0.heap.modify 2 typeCell).modify 3 fun
      | .cells _ t frozen => .cells #[errV ⟨low, 0, none⟩] t frozen
      | o => o).modify 4 fun
      | .cells _ t frozen => .cells #[errV ⟨low + 1, 0, none⟩] t frozen
      | o => o).modify 0 fun
      | .cells _ t frozen => .cells #[errV ⟨low + 2, 0, none⟩] t frozen
      | o => o).modify 1 fun
      | .cells _ t frozen => .cells #[errV ⟨low + 3, 0, none⟩] t frozen
      | o => o }
theorem laid_metC (os : Os) (args : Array Value) : laidMetH Tryz.prog laidC ((laidWorldC os).forCall (fun _ _ => 0) ⟨#[], args, []⟩).memory :=
  laidMetH_of_parts (show laidMet Tryz.prog laidS _ from laidMet_of_run (ps := [.cell 3 0, .cell low 0, .cell 4 0, .cell (low + 1) 0, .cell 0 0, .cell (low + 2) 0, .cell 1 0, .cell (low + 3) 0]) 8 (by kernel_rfl) (by kernel_rfl) (by kernel_rfl)) (by kernel_rfl)
end Go.Proofs.YtpnlmfilmbodfaaGreatDoor
