/- strings.Builder: copyCheck, WriteString, WriteByte at this program (the library's copyCheck holds a branch that the loader refuses, so the shelf's contracts are not laid). -/
import Derived.Test.YtpnlmfilmbodfaaGreatDoorZM2
import Derived.Test.YtpnlmfilmbodfaaGreatDoorZShelf
import Derived.Test.YtpnlmfilmbodfaaGreatDoorProg
import Derived.Shelf.Strings.BuilderF
import Derived.Shelf.Strings.BuilderK
import Derived.Shelf.Strings.BuilderRune
namespace Go.Proofs.YtpnlmfilmbodfaaGreatDoor
open Go Go.RowKit
theorem und_bp : Tryz.prog.underlying 126 = some (.pointer 129) := by kernel_rfl
theorem und_up : Tryz.prog.underlying 261 = some .unsafePointer := by kernel_rfl
theorem size_b : (Tryz.prog.info? 129).map (·.size) = some 2 := by kernel_rfl
theorem info_byte : (Tryz.prog.info? 5).map (fun i => (i.zero, i.size, i.bytes)) = some (some (.int .u8 0), 1, 1) := by kernel_rfl
theorem und_bytes : Tryz.prog.underlying 127 = some (.slice 5) := by kernel_rfl
end Go.Proofs.YtpnlmfilmbodfaaGreatDoor
