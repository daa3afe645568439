/- DERIVED: THE SHELF's CONTRACTS AT THIS DUMP, IN PLAIN WORDS (tools/lay-plain.mjs out of 'TryzShelf.lean', which tools/lay-shelf.mjs wrote): THE SAME DECLARATIONS UNDER THE SAME NAMES: 'import', 'namespace', 'open', 'def', 'theorem' AND NOTHING ELSE: no command of the shelf's: FOR A HAND-IN. Each laying: the table of numbers ('.._ren') and one theorem, a field a fact of the dump's own or the kernel's comparison; each contract: ONE APPLICATION. Package hll: greater, ahead, Place; registers at work in memory. A region that draws its order and whose last operation stands behind all others. Of no program. aviarylaw10.Few. Package hll: tell, done, blank, begin. Package hll: done, blank, begin. strings.Builder: copyCheck, WriteString, WriteByte at this program (the library's copyCheck holds a branch that the loader refuses, so the shelf's contracts are not laid). -/
import Derived.Shelf.Strings.Builder1
import Derived.Shelf.Strings.Builder2
import Derived.Shelf.Strings.OnBuilder
import Derived.Shelf.Small.Bits
import Derived.Shelf.Strings.BuilderF
import Derived.Shelf.Strings.BuilderK
import Derived.Shelf.Strings.BuilderRune
import Derived.Shelf.Utf8.AppendRune
import Derived.Shelf.Utf8.AppendRunePlain
import Derived.Shelf.Strings.Builder2Cap
import Derived.Shelf.Strconv.Itoa0
import Derived.Shelf.Strings.Search1
import Derived.Shelf.Strings.Search2
import Derived.Shelf.Strings.Search3
import Derived.Shelf.Strings.Cut
import Derived.Shelf.LaysM
import Derived.Shelf.Strings.Shaped
import Derived.Shelf.Unicode.DecodeSlow
import Derived.Shelf.Unicode.DecodeAny
import Derived.Shelf.Strings.BuilderCap
import Derived.Ground.SlgmProg
import Derived.Shelf.SortM.Plain
import Derived.Shelf.SortM.SortNone
import Derived.Shelf.SlGeneric
import Derived.Shelf.SlSortCmp.SmallK
import Derived.Ground.SlsfProg
import Derived.Laws.BytesArg
import Derived.Lib.ConvBytes
import Derived.Test.YtnegciklhanmbaaGreatDoorZEG
set_option maxHeartbeats 2000000
set_option maxRecDepth 100000
namespace Go.Proofs
open Go.Shelf
def Tryz.lays169_ren:Go.Shelf.Ren:=⟨fun | 169=>108 | n=>n,fun | 70=>203 | 9=>9 | 0=>0 | 72=>206 | 37=>204 | 127=>276 | 3=>3 | 5=>5 | n=>n,fun | n=>n⟩
theorem Tryz.lays169:Go.Proofs.Lays.n169 Tryz.prog Tryz.lays169_ren:={
 mixed:=by kernel_rfl
 f169:=Tryz.func108.trans (congrArg some (by kernel_rfl))
 t0:=Tryz.underlying0
 a0:=Tryz.isAgg0
 z0:=Tryz.sizeOf0
 v0:=Tryz.zeroValue0
 t3:=Tryz.underlying3
 a3:=Tryz.isAgg3
 z3:=Tryz.sizeOf3
 v3:=Tryz.zeroValue3
 t9:=Tryz.underlying9
 a9:=Tryz.isAgg9
 z9:=Tryz.sizeOf9
 v9:=Tryz.zeroValue9
 t37:=Tryz.underlying204
 a37:=Tryz.isAgg204
 z37:=Tryz.sizeOf204
 v37:=Tryz.zeroValue204
 t70:=Tryz.underlying203
 a70:=Tryz.isAgg203
 z70:=Tryz.sizeOf203
 v70:=Tryz.zeroValue203
 t72:=Tryz.underlying206
 a72:=Tryz.isAgg206
 z72:=Tryz.sizeOf206
 v72:=Tryz.zeroValue206
 t127:=Tryz.underlying276
 a127:=Tryz.isAgg276
 z127:=Tryz.sizeOf276
 v127:=Tryz.zeroValue276 }
theorem Tryz.Builder_Extra_169:Builder.Extra Tryz.prog Tryz.lays169_ren:={
 sizeBuilder:=by kernel_rfl
 liesBuilder:=by kernel_rfl
 t5:=Tryz.underlying5
 a5:=Tryz.isAgg5
 z5:=Tryz.sizeOf5
 v5:=Tryz.zeroValue5
 infoByte:=by kernel_rfl
 cellsByte:=by kernel_rfl
 sizeByte:=by kernel_rfl
 neB5:=by decide }
def Tryz.lays156_ren:Go.Shelf.Ren:=⟨fun | 156=>96 | 165=>143 | 166=>105 | 169=>108 | 240=>146 | 241=>184 | 276=>185 | 277=>211 | n=>n,fun | 31=>190 | 9=>9 | 3=>3 | 4=>4 | 0=>0 | 20=>20 | 72=>206 | 76=>207 | 70=>203 | 37=>204 | 75=>119 | 127=>276 | 164=>314 | 5=>5 | 80=>211 | n=>n,fun | n=>n⟩
theorem Tryz.lays156:Go.Proofs.Lays.n156 Tryz.prog Tryz.lays156_ren:={
 mixed:=by kernel_rfl
 f156:=Tryz.func96.trans (congrArg some (by kernel_rfl))
 f165:=Tryz.func143.trans (congrArg some (by kernel_rfl))
 f166:=Tryz.func105.trans (congrArg some (by kernel_rfl))
 f169:=Tryz.func108.trans (congrArg some (by kernel_rfl))
 f240:=Tryz.func146.trans (congrArg some (by kernel_rfl))
 f241:=Tryz.func184.trans (congrArg some (by kernel_rfl))
 f276:=Tryz.func185.trans (congrArg some (by kernel_rfl))
 f277:=Tryz.func211.trans (congrArg some (by kernel_rfl))
 t0:=Tryz.underlying0
 a0:=Tryz.isAgg0
 z0:=Tryz.sizeOf0
 v0:=Tryz.zeroValue0
 t3:=Tryz.underlying3
 a3:=Tryz.isAgg3
 z3:=Tryz.sizeOf3
 v3:=Tryz.zeroValue3
 t4:=Tryz.underlying4
 a4:=Tryz.isAgg4
 z4:=Tryz.sizeOf4
 v4:=Tryz.zeroValue4
 t9:=Tryz.underlying9
 a9:=Tryz.isAgg9
 z9:=Tryz.sizeOf9
 v9:=Tryz.zeroValue9
 t20:=Tryz.underlying20
 a20:=Tryz.isAgg20
 z20:=Tryz.sizeOf20
 v20:=Tryz.zeroValue20
 t31:=Tryz.underlying190
 a31:=Tryz.isAgg190
 z31:=Tryz.sizeOf190
 v31:=Tryz.zeroValue190
 t37:=Tryz.underlying204
 a37:=Tryz.isAgg204
 z37:=Tryz.sizeOf204
 v37:=Tryz.zeroValue204
 t70:=Tryz.underlying203
 a70:=Tryz.isAgg203
 z70:=Tryz.sizeOf203
 v70:=Tryz.zeroValue203
 t72:=Tryz.underlying206
 a72:=Tryz.isAgg206
 z72:=Tryz.sizeOf206
 v72:=Tryz.zeroValue206
 t75:=Tryz.underlying119
 a75:=Tryz.isAgg119
 z75:=Tryz.sizeOf119
 v75:=Tryz.zeroValue119
 t76:=Tryz.underlying207
 a76:=Tryz.isAgg207
 z76:=Tryz.sizeOf207
 v76:=Tryz.zeroValue207
 t127:=Tryz.underlying276
 a127:=Tryz.isAgg276
 z127:=Tryz.sizeOf276
 v127:=Tryz.zeroValue276
 t164:=Tryz.underlying314
 a164:=Tryz.isAgg314
 z164:=Tryz.sizeOf314
 v164:=Tryz.zeroValue314 }
theorem Tryz.Builder_Extra_156:Builder.Extra Tryz.prog Tryz.lays156_ren:={
 sizeBuilder:=by kernel_rfl
 liesBuilder:=by kernel_rfl
 t5:=Tryz.underlying5
 a5:=Tryz.isAgg5
 z5:=Tryz.sizeOf5
 v5:=Tryz.zeroValue5
 infoByte:=by kernel_rfl
 cellsByte:=by kernel_rfl
 sizeByte:=by kernel_rfl
 neB5:=by decide }
open Go.RowKit in
theorem Tryz.strings_Join (E o c:Nat) (xs:List ByteArray) (B:ByteArray) (w:World) (A:∀ (j:Nat) x,xs[j]? = some x->w.cell? ⟨E,o+j,none⟩=some (.string x)) (F:E<w.heap.size) (G:xs.length<=140737488355328) (C:xs.length<=c) (D:(Lib.join (xs.map (·.data.toList)) B.data.toList).length<=140737488355328) :
  Calls Tryz.prog 96 #[.slice (some ⟨E,o,none⟩) xs.length c,.string B] w fun e w'=>e=.returned (.string ⟨(Lib.join (xs.map (·.data.toList)) B.data.toList).toArray⟩)/\Below w.heap.size w w':=Any.strings_Join Tryz.lays156 Tryz.Builder_Extra_156 E o c xs B w A F G C D
def Tryz.lays125_ren:Go.Shelf.Ren:=⟨fun | 125=>114 | 128=>166 | 129=>147 | n=>n,fun | 46=>225 | 3=>3 | 51=>288 | 53=>22 | 4=>4 | 5=>5 | 9=>9 | n=>n,fun | n=>n⟩
theorem Tryz.lays125:Go.Proofs.Lays.n125 Tryz.prog Tryz.lays125_ren:={
 mixed:=by kernel_rfl
 f125:=Tryz.func114.trans (congrArg some (by kernel_rfl))
 f128:=Tryz.func166.trans (congrArg some (by kernel_rfl))
 f129:=Tryz.func147.trans (congrArg some (by kernel_rfl))
 t3:=Tryz.underlying3
 a3:=Tryz.isAgg3
 z3:=Tryz.sizeOf3
 v3:=Tryz.zeroValue3
 t4:=Tryz.underlying4
 a4:=Tryz.isAgg4
 z4:=Tryz.sizeOf4
 v4:=Tryz.zeroValue4
 t5:=Tryz.underlying5
 a5:=Tryz.isAgg5
 z5:=Tryz.sizeOf5
 v5:=Tryz.zeroValue5
 t9:=Tryz.underlying9
 a9:=Tryz.isAgg9
 z9:=Tryz.sizeOf9
 v9:=Tryz.zeroValue9
 t46:=Tryz.underlying225
 a46:=Tryz.isAgg225
 z46:=Tryz.sizeOf225
 v46:=Tryz.zeroValue225
 t51:=Tryz.underlying288
 a51:=Tryz.isAgg288
 z51:=Tryz.sizeOf288
 v51:=Tryz.zeroValue288
 t53:=Tryz.underlying22
 a53:=Tryz.isAgg22
 z53:=Tryz.sizeOf22
 v53:=Tryz.zeroValue22 }
theorem Tryz.bits_Len (x:Int) (w:World) (A:0<=x) (B:x<=18446744073709551615) :
  Calls Tryz.prog 114 #[.int .u64 x] w fun e w'=>e=.returned (.int .i64 (Lib.bitLen x.toNat))/\w'=w:=Any.bits_Len Tryz.lays125 x w A B
def Tryz.lays134_ren:Go.Shelf.Ren:=⟨fun | 134=>274 | 129=>147 | n=>n,fun | 53=>22 | 3=>3 | 4=>4 | 46=>225 | 5=>5 | 9=>9 | n=>n,fun | n=>n⟩
theorem Tryz.lays134:Go.Proofs.Lays.n134 Tryz.prog Tryz.lays134_ren:={
 mixed:=by kernel_rfl
 f129:=Tryz.func147.trans (congrArg some (by kernel_rfl))
 f134:=Tryz.func274.trans (congrArg some (by kernel_rfl))
 t3:=Tryz.underlying3
 a3:=Tryz.isAgg3
 z3:=Tryz.sizeOf3
 v3:=Tryz.zeroValue3
 t4:=Tryz.underlying4
 a4:=Tryz.isAgg4
 z4:=Tryz.sizeOf4
 v4:=Tryz.zeroValue4
 t5:=Tryz.underlying5
 a5:=Tryz.isAgg5
 z5:=Tryz.sizeOf5
 v5:=Tryz.zeroValue5
 t9:=Tryz.underlying9
 a9:=Tryz.isAgg9
 z9:=Tryz.sizeOf9
 v9:=Tryz.zeroValue9
 t46:=Tryz.underlying225
 a46:=Tryz.isAgg225
 z46:=Tryz.sizeOf225
 v46:=Tryz.zeroValue225
 t53:=Tryz.underlying22
 a53:=Tryz.isAgg22
 z53:=Tryz.sizeOf22
 v53:=Tryz.zeroValue22 }
theorem Tryz.bits_LeadingZeros64 (x:Int) (w:World) (A:0<=x) (B:x<=18446744073709551615) :
  Calls Tryz.prog 274 #[.int .u64 x] w fun e w'=>e=.returned (.int .i64 (64-(Lib.bitLen x.toNat:Int)))/\w'=w:=Any.bits_LeadingZeros64 Tryz.lays134 x w A B
open Go.RowKit in
theorem Tryz.Builder_String_any_f (B b:Nat) (l:List UInt8) (w:World) (h:Lib.IsBuilderF 206 5 B b (Lib.byteCells l) w) (A:B<=w.heap.size) :
  Calls Tryz.prog 108 #[.pointer (some ⟨b,0,none⟩)] w fun e w'=>e=.returned (.string ⟨l.toArray⟩)/\(Lib.IsBuilderF 206 5 B b (Lib.byteCells l) w'/\Below B w w'):=Any.Builder_String_any_f Tryz.lays169 Tryz.Builder_Extra_169 B b l w h A
def Tryz.lays242_ren:Go.Shelf.Ren:=⟨fun | 242=>183 | 278=>210 | n=>n,fun | 37=>204 | 21=>21 | 51=>288 | 4=>4 | 5=>5 | 46=>225 | n=>n,fun | n=>n⟩
theorem Tryz.lays242:Go.Proofs.Lays.n242 Tryz.prog Tryz.lays242_ren:={
 mixed:=by kernel_rfl
 f242:=Tryz.func183.trans (congrArg some (by kernel_rfl))
 f278:=Tryz.func210.trans (congrArg some (by kernel_rfl))
 t4:=Tryz.underlying4
 a4:=Tryz.isAgg4
 z4:=Tryz.sizeOf4
 v4:=Tryz.zeroValue4
 t5:=Tryz.underlying5
 a5:=Tryz.isAgg5
 z5:=Tryz.sizeOf5
 v5:=Tryz.zeroValue5
 t21:=Tryz.underlying21
 a21:=Tryz.isAgg21
 z21:=Tryz.sizeOf21
 v21:=Tryz.zeroValue21
 t37:=Tryz.underlying204
 a37:=Tryz.isAgg204
 z37:=Tryz.sizeOf204
 v37:=Tryz.zeroValue204
 t46:=Tryz.underlying225
 a46:=Tryz.isAgg225
 z46:=Tryz.sizeOf225
 v46:=Tryz.zeroValue225
 t51:=Tryz.underlying288
 a51:=Tryz.isAgg288
 z51:=Tryz.sizeOf288
 v51:=Tryz.zeroValue288 }
open Go.RowKit in
theorem Tryz.utf8_AppendRune_row (B:Nat) (v:Value) (n:Nat) (xs:List Value) (r:Int) (E : -2147483648<=r) (F:r<=2147483647) (w:World) (C:w.ownsRowF B 5 1 v n xs) (A:n+4<=140737488355328) (D:B<=w.heap.size) :
  Calls Tryz.prog 183 #[v,.int .i32 r] w fun e w'=>∃ v',e=.returned v'/\w'.ownsRowF B 5 1 v' (n+(Lib.runeCells r).length) (xs++Lib.runeCells r)/\∃ o,(w.alloc o).grownBy w' v.ownBlock:=Any.utf8_AppendRune_row Tryz.lays242 (by kernel_rfl) B v n xs r E F w C A D
def Tryz.lays129_ren:Go.Shelf.Ren:=⟨fun | 129=>147 | n=>n,fun | 53=>22 | 3=>3 | 4=>4 | 46=>225 | 5=>5 | 9=>9 | n=>n,fun | n=>n⟩
theorem Tryz.lays129:Go.Proofs.Lays.n129 Tryz.prog Tryz.lays129_ren:={
 mixed:=by kernel_rfl
 f129:=Tryz.func147.trans (congrArg some (by kernel_rfl))
 t3:=Tryz.underlying3
 a3:=Tryz.isAgg3
 z3:=Tryz.sizeOf3
 v3:=Tryz.zeroValue3
 t4:=Tryz.underlying4
 a4:=Tryz.isAgg4
 z4:=Tryz.sizeOf4
 v4:=Tryz.zeroValue4
 t5:=Tryz.underlying5
 a5:=Tryz.isAgg5
 z5:=Tryz.sizeOf5
 v5:=Tryz.zeroValue5
 t9:=Tryz.underlying9
 a9:=Tryz.isAgg9
 z9:=Tryz.sizeOf9
 v9:=Tryz.zeroValue9
 t46:=Tryz.underlying225
 a46:=Tryz.isAgg225
 z46:=Tryz.sizeOf225
 v46:=Tryz.zeroValue225
 t53:=Tryz.underlying22
 a53:=Tryz.isAgg22
 z53:=Tryz.sizeOf22
 v53:=Tryz.zeroValue22 }
theorem Tryz.bits_Len64 (x:Int) (w:World) (A:0<=x) (B:x<=18446744073709551615) :
  Calls Tryz.prog 147 #[.int .u64 x] w fun e w'=>e=.returned (.int .i64 (Lib.bitLen x.toNat))/\w'=w:=Any.bits_Len64 Tryz.lays129 x w A B
def Tryz.lays143_ren:Go.Shelf.Ren:=⟨fun | 143=>204 | 219=>205 | 217=>218 | 225=>219 | 224=>220 | 267=>221 | 266=>223 | 314=>224 | n=>n,fun | 9=>9 | 3=>3 | 4=>4 | 5=>5 | 46=>225 | 146=>380 | 51=>288 | n=>n,fun | 1=>3 | n=>n⟩
theorem Tryz.lays143:Go.Proofs.Lays.n143 Tryz.prog Tryz.lays143_ren:={
 mixed:=by kernel_rfl
 f143:=Tryz.func204.trans (congrArg some (by kernel_rfl))
 f217:=Tryz.func218.trans (congrArg some (by kernel_rfl))
 f219:=Tryz.func205.trans (congrArg some (by kernel_rfl))
 f224:=Tryz.func220.trans (congrArg some (by kernel_rfl))
 f225:=Tryz.func219.trans (congrArg some (by kernel_rfl))
 f266:=Tryz.func223.trans (congrArg some (by kernel_rfl))
 f267:=Tryz.func221.trans (congrArg some (by kernel_rfl))
 f314:=Tryz.func224.trans (congrArg some (by kernel_rfl))
 t3:=Tryz.underlying3
 a3:=Tryz.isAgg3
 z3:=Tryz.sizeOf3
 v3:=Tryz.zeroValue3
 t4:=Tryz.underlying4
 a4:=Tryz.isAgg4
 z4:=Tryz.sizeOf4
 v4:=Tryz.zeroValue4
 t5:=Tryz.underlying5
 a5:=Tryz.isAgg5
 z5:=Tryz.sizeOf5
 v5:=Tryz.zeroValue5
 t9:=Tryz.underlying9
 a9:=Tryz.isAgg9
 z9:=Tryz.sizeOf9
 v9:=Tryz.zeroValue9
 t46:=Tryz.underlying225
 a46:=Tryz.isAgg225
 z46:=Tryz.sizeOf225
 v46:=Tryz.zeroValue225
 t51:=Tryz.underlying288
 a51:=Tryz.isAgg288
 z51:=Tryz.sizeOf288
 v51:=Tryz.zeroValue288
 t146:=Tryz.underlying380
 a146:=Tryz.isAgg380
 z146:=Tryz.sizeOf380
 v146:=Tryz.zeroValue380
 g1:=by kernel_rfl }
open Go.RowKit Go.Lib in
theorem Tryz.strings_Index_one (s:ByteArray) (c:UInt8) (w:World) :
  Calls Tryz.prog 204 #[.string s,.string ⟨#[c]⟩] w fun e w'=>e=.returned (.int .i64 (Lib.indexByte s.data.toList c))/\w'=w:=Any.strings_Index_one Tryz.lays143 s c w
def Tryz.lays145_ren:Go.Shelf.Ren:=⟨fun | 145=>132 | 220=>177 | 219=>205 | 217=>218 | 225=>219 | 224=>220 | 267=>221 | 266=>223 | 314=>224 | n=>n,fun | 9=>9 | 4=>4 | 59=>249 | 3=>3 | 5=>5 | 46=>225 | 146=>380 | 51=>288 | n=>n,fun | 1=>3 | n=>n⟩
theorem Tryz.lays145:Go.Proofs.Lays.n145 Tryz.prog Tryz.lays145_ren:={
 mixed:=by kernel_rfl
 f145:=Tryz.func132.trans (congrArg some (by kernel_rfl))
 f217:=Tryz.func218.trans (congrArg some (by kernel_rfl))
 f219:=Tryz.func205.trans (congrArg some (by kernel_rfl))
 f220:=Tryz.func177.trans (congrArg some (by kernel_rfl))
 f224:=Tryz.func220.trans (congrArg some (by kernel_rfl))
 f225:=Tryz.func219.trans (congrArg some (by kernel_rfl))
 f266:=Tryz.func223.trans (congrArg some (by kernel_rfl))
 f267:=Tryz.func221.trans (congrArg some (by kernel_rfl))
 f314:=Tryz.func224.trans (congrArg some (by kernel_rfl))
 t3:=Tryz.underlying3
 a3:=Tryz.isAgg3
 z3:=Tryz.sizeOf3
 v3:=Tryz.zeroValue3
 t4:=Tryz.underlying4
 a4:=Tryz.isAgg4
 z4:=Tryz.sizeOf4
 v4:=Tryz.zeroValue4
 t5:=Tryz.underlying5
 a5:=Tryz.isAgg5
 z5:=Tryz.sizeOf5
 v5:=Tryz.zeroValue5
 t9:=Tryz.underlying9
 a9:=Tryz.isAgg9
 z9:=Tryz.sizeOf9
 v9:=Tryz.zeroValue9
 t46:=Tryz.underlying225
 a46:=Tryz.isAgg225
 z46:=Tryz.sizeOf225
 v46:=Tryz.zeroValue225
 t51:=Tryz.underlying288
 a51:=Tryz.isAgg288
 z51:=Tryz.sizeOf288
 v51:=Tryz.zeroValue288
 t59:=Tryz.underlying249
 a59:=Tryz.isAgg249
 z59:=Tryz.sizeOf249
 v59:=Tryz.zeroValue249
 t146:=Tryz.underlying380
 a146:=Tryz.isAgg380
 z146:=Tryz.sizeOf380
 v146:=Tryz.zeroValue380
 g1:=by kernel_rfl }
open Go.RowKit Go.Lib in
theorem Tryz.strings_Cut (s A:ByteArray) (m:Int) (w:World) (C:s.size<4294967281) (B:w.cell? ⟨3,0,none⟩=some (.int .i64 m)) :
  Calls Tryz.prog 132 #[.string s,.string A] w fun e w'=>e=.returned (.tuple #[.string ⟨(Lib.cut s.data.toList A.data.toList).1.toArray⟩,.string ⟨(Lib.cut s.data.toList A.data.toList).2.1.toArray⟩,.bool (Lib.cut s.data.toList A.data.toList).2.2])/\∃ n,w'=w.drewN n:=Any.strings_Cut Tryz.lays145 s A m w C B
def Tryz.lays197_ren:Go.Shelf.Ren:=⟨fun | 197=>153 | 260=>189 | n=>n,fun | 9=>9 | 21=>21 | 3=>3 | 4=>4 | 5=>5 | 105=>277 | 119=>357 | 0=>0 | 46=>225 | 139=>360 | 138=>359 | n=>n,fun | 3=>1 | 4=>2 | n=>n⟩
theorem Tryz.lays197:Go.Proofs.Lays.n197 Tryz.prog Tryz.lays197_ren:={
 mixed:=by kernel_rfl
 f197:=Tryz.func153.trans (congrArg some (by kernel_rfl))
 f260:=Tryz.func189.trans (congrArg some (by kernel_rfl))
 t0:=Tryz.underlying0
 a0:=Tryz.isAgg0
 z0:=Tryz.sizeOf0
 v0:=Tryz.zeroValue0
 t3:=Tryz.underlying3
 a3:=Tryz.isAgg3
 z3:=Tryz.sizeOf3
 v3:=Tryz.zeroValue3
 t4:=Tryz.underlying4
 a4:=Tryz.isAgg4
 z4:=Tryz.sizeOf4
 v4:=Tryz.zeroValue4
 t5:=Tryz.underlying5
 a5:=Tryz.isAgg5
 z5:=Tryz.sizeOf5
 v5:=Tryz.zeroValue5
 t9:=Tryz.underlying9
 a9:=Tryz.isAgg9
 z9:=Tryz.sizeOf9
 v9:=Tryz.zeroValue9
 t21:=Tryz.underlying21
 a21:=Tryz.isAgg21
 z21:=Tryz.sizeOf21
 v21:=Tryz.zeroValue21
 t46:=Tryz.underlying225
 a46:=Tryz.isAgg225
 z46:=Tryz.sizeOf225
 v46:=Tryz.zeroValue225
 t105:=Tryz.underlying277
 a105:=Tryz.isAgg277
 z105:=Tryz.sizeOf277
 v105:=Tryz.zeroValue277
 t119:=Tryz.underlying357
 a119:=Tryz.isAgg357
 z119:=Tryz.sizeOf357
 t138:=Tryz.underlying359
 a138:=Tryz.isAgg359
 z138:=Tryz.sizeOf359
 v138:=Tryz.zeroValue359
 t139:=Tryz.underlying360
 a139:=Tryz.isAgg360
 z139:=Tryz.sizeOf360
 v139:=Tryz.zeroValue360
 g3:=by kernel_rfl
 g4:=by kernel_rfl }
open Go.RowKit Go.Lib in
theorem Tryz.utf8_DecodeRuneInString (s:ByteArray) (w:World) (A:Lib.Utf8Tabs 1 2 w) :
  Calls Tryz.prog 153 #[.string s] w fun e w'=>e=.returned (.tuple #[.int .i32 (Lib.decodeGo s).1,.int .i64 (Lib.decodeGo s).2])/\Below w.heap.size w w':=Any.utf8_DecodeRuneInString Tryz.lays197 s w A
def Tryz.laysSlM5_f325_ren:Go.Shelf.Ren:=⟨fun | 5=>325 | 8=>114 | 7=>328 | 19=>166 | 20=>147 | 10=>329 | 11=>330 | 12=>331 | 13=>332 | 14=>333 | 15=>334 | 16=>335 | 17=>336 | 18=>337 | 30=>338 | 31=>191 | 32=>192 | 33=>339 | 34=>340 | 35=>341 | 40=>342 | n=>n,fun | 23=>25 | 25=>3 | 3=>3 | 32=>225 | 22=>25 | 0=>0 | 44=>288 | 46=>22 | 4=>4 | 36=>282 | 35=>281 | 41=>107 | 5=>5 | 9=>9 | 53=>322 | 57=>326 | 63=>361 | 64=>362 | n=>n,fun | n=>n⟩
theorem Tryz.laysSlM5_f325:Go.Proofs.SlLaysM.n5 Tryz.prog Tryz.laysSlM5_f325_ren:={
 mixed:=by kernel_rfl
 f5:=⟨Tryz.f325.name,by decide,Tryz.func325.trans (congrArg some (by kernel_rfl))⟩
 f7:=⟨Tryz.f328.name,by decide,Tryz.func328.trans (congrArg some (by kernel_rfl))⟩
 f8:=Tryz.func114.trans (congrArg some (by kernel_rfl))
 f10:=⟨Tryz.f329.name,by decide,Tryz.func329.trans (congrArg some (by kernel_rfl))⟩
 f11:=⟨Tryz.f330.name,by decide,Tryz.func330.trans (congrArg some (by kernel_rfl))⟩
 f12:=⟨Tryz.f331.name,by decide,Tryz.func331.trans (congrArg some (by kernel_rfl))⟩
 f13:=⟨Tryz.f332.name,by decide,Tryz.func332.trans (congrArg some (by kernel_rfl))⟩
 f14:=⟨Tryz.f333.name,by decide,Tryz.func333.trans (congrArg some (by kernel_rfl))⟩
 f15:=⟨Tryz.f334.name,by decide,Tryz.func334.trans (congrArg some (by kernel_rfl))⟩
 f16:=⟨Tryz.f335.name,by decide,Tryz.func335.trans (congrArg some (by kernel_rfl))⟩
 f17:=⟨Tryz.f336.name,by decide,Tryz.func336.trans (congrArg some (by kernel_rfl))⟩
 f18:=⟨Tryz.f337.name,by decide,Tryz.func337.trans (congrArg some (by kernel_rfl))⟩
 f19:=Tryz.func166.trans (congrArg some (by kernel_rfl))
 f20:=Tryz.func147.trans (congrArg some (by kernel_rfl))
 f30:=⟨Tryz.f338.name,by decide,Tryz.func338.trans (congrArg some (by kernel_rfl))⟩
 f31:=Tryz.func191.trans (congrArg some (by kernel_rfl))
 f32:=Tryz.func192.trans (congrArg some (by kernel_rfl))
 f33:=⟨Tryz.f339.name,by decide,Tryz.func339.trans (congrArg some (by kernel_rfl))⟩
 f34:=⟨Tryz.f340.name,by decide,Tryz.func340.trans (congrArg some (by kernel_rfl))⟩
 f35:=⟨Tryz.f341.name,by decide,Tryz.func341.trans (congrArg some (by kernel_rfl))⟩
 f40:=⟨Tryz.f342.name,by decide,Tryz.func342.trans (congrArg some (by kernel_rfl))⟩
 t0:=Tryz.underlying0
 a0:=Tryz.isAgg0
 z0:=Tryz.sizeOf0
 v0:=Tryz.zeroValue0
 t3:=Tryz.underlying3
 a3:=Tryz.isAgg3
 z3:=Tryz.sizeOf3
 v3:=Tryz.zeroValue3
 t4:=Tryz.underlying4
 a4:=Tryz.isAgg4
 z4:=Tryz.sizeOf4
 v4:=Tryz.zeroValue4
 t5:=Tryz.underlying5
 a5:=Tryz.isAgg5
 z5:=Tryz.sizeOf5
 v5:=Tryz.zeroValue5
 t9:=Tryz.underlying9
 a9:=Tryz.isAgg9
 z9:=Tryz.sizeOf9
 v9:=Tryz.zeroValue9
 t22:=Tryz.underlying25
 a22:=Tryz.isAgg25
 z22:=Tryz.sizeOf25
 v22:=Tryz.zeroValue25
 t23:=Tryz.underlying25
 a23:=Tryz.isAgg25
 z23:=Tryz.sizeOf25
 v23:=Tryz.zeroValue25
 t25:=Tryz.underlying3
 a25:=Tryz.isAgg3
 z25:=Tryz.sizeOf3
 v25:=Tryz.zeroValue3
 t32:=Tryz.underlying225
 a32:=Tryz.isAgg225
 z32:=Tryz.sizeOf225
 v32:=Tryz.zeroValue225
 t35:=Tryz.underlying281
 a35:=Tryz.isAgg281
 z35:=Tryz.sizeOf281
 v35:=Tryz.zeroValue281
 t36:=Tryz.underlying282
 a36:=Tryz.isAgg282
 z36:=Tryz.sizeOf282
 v36:=Tryz.zeroValue282
 t41:=Tryz.underlying107
 a41:=Tryz.isAgg107
 z41:=Tryz.sizeOf107
 v41:=Tryz.zeroValue107
 t44:=Tryz.underlying288
 a44:=Tryz.isAgg288
 z44:=Tryz.sizeOf288
 v44:=Tryz.zeroValue288
 t46:=Tryz.underlying22
 a46:=Tryz.isAgg22
 z46:=Tryz.sizeOf22
 v46:=Tryz.zeroValue22
 t53:=Tryz.underlying322
 a53:=Tryz.isAgg322
 z53:=Tryz.sizeOf322
 v53:=Tryz.zeroValue322
 t57:=Tryz.underlying326
 a57:=Tryz.isAgg326
 z57:=Tryz.sizeOf326
 v57:=Tryz.zeroValue326
 t63:=Tryz.underlying361
 a63:=Tryz.isAgg361
 z63:=Tryz.sizeOf361
 v63:=Tryz.zeroValue361
 t64:=Tryz.underlying362
 a64:=Tryz.isAgg362
 z64:=Tryz.sizeOf362
 v64:=Tryz.zeroValue362 }
open Go.Sort Go.RowKit in
theorem Tryz.slices_Sort_int (A off cap:Nat) (C:List Int) (w:World) (E:Holds (Value.int .i64) w A off C.toArray) (B:A<w.heap.size) (D:C.length<4611686018427387904) :
  Calls Tryz.prog 325 #[.slice (some ⟨A,off,none⟩) C.length cap] w fun e w' =>
   e=.returned (.tuple #[])/\∃ n F,w'=grow (putRow (Value.int .i64) (Sort.ahead w n) A off (C.mergeSort fun x y=>decide (x<=y)).toArray) F:=AnyM.slices_Sort_int Tryz.laysSlM5_f325 A off cap C w E B D
open Go.RowKit Go.Sort in
theorem Tryz.slices_Sort_int_none (p:Option Addr) (cap:Nat) (w:World) :
  Calls Tryz.prog 325 #[.slice p 0 cap] w fun e w'=>e=.returned (.tuple #[])/\w'=w:=AnyM.slices_Sort_int_none Tryz.laysSlM5_f325 p cap w
def Tryz.sortLab_ren:Go.Shelf.Ren:=⟨fun | 6=>70 | 15=>114 | 14=>113 | 28=>166 | 29=>147 | 20=>158 | 21=>159 | 22=>160 | 23=>161 | 24=>162 | 25=>163 | 26=>164 | 27=>165 | 46=>190 | 47=>191 | 48=>192 | 49=>193 | 50=>194 | 57=>213 | n=>n,fun | 22=>88 | 24=>93 | 25=>153 | 3=>3 | 39=>225 | 0=>0 | 53=>288 | 55=>22 | 4=>4 | 46=>282 | 45=>281 | 50=>107 | 5=>5 | 9=>9 | 66=>322 | 70=>326 | 76=>361 | 77=>362 | n=>n,fun | n=>n⟩
theorem Tryz.sortLab:Go.Proofs.SlLaysF0.n6 Tryz.prog Tryz.sortLab_ren:={
 mixed:=by kernel_rfl
 f6:=⟨Tryz.f70.name,by decide,Tryz.func70.trans (congrArg some (by kernel_rfl))⟩
 f14:=⟨Tryz.f113.name,by decide,Tryz.func113.trans (congrArg some (by kernel_rfl))⟩
 f15:=Tryz.func114.trans (congrArg some (by kernel_rfl))
 f20:=⟨Tryz.f158.name,by decide,Tryz.func158.trans (congrArg some (by kernel_rfl))⟩
 f21:=⟨Tryz.f159.name,by decide,Tryz.func159.trans (congrArg some (by kernel_rfl))⟩
 f22:=⟨Tryz.f160.name,by decide,Tryz.func160.trans (congrArg some (by kernel_rfl))⟩
 f23:=⟨Tryz.f161.name,by decide,Tryz.func161.trans (congrArg some (by kernel_rfl))⟩
 f24:=⟨Tryz.f162.name,by decide,Tryz.func162.trans (congrArg some (by kernel_rfl))⟩
 f25:=⟨Tryz.f163.name,by decide,Tryz.func163.trans (congrArg some (by kernel_rfl))⟩
 f26:=⟨Tryz.f164.name,by decide,Tryz.func164.trans (congrArg some (by kernel_rfl))⟩
 f27:=⟨Tryz.f165.name,by decide,Tryz.func165.trans (congrArg some (by kernel_rfl))⟩
 f28:=Tryz.func166.trans (congrArg some (by kernel_rfl))
 f29:=Tryz.func147.trans (congrArg some (by kernel_rfl))
 f46:=⟨Tryz.f190.name,by decide,Tryz.func190.trans (congrArg some (by kernel_rfl))⟩
 f47:=Tryz.func191.trans (congrArg some (by kernel_rfl))
 f48:=Tryz.func192.trans (congrArg some (by kernel_rfl))
 f49:=⟨Tryz.f193.name,by decide,Tryz.func193.trans (congrArg some (by kernel_rfl))⟩
 f50:=⟨Tryz.f194.name,by decide,Tryz.func194.trans (congrArg some (by kernel_rfl))⟩
 f57:=⟨Tryz.f213.name,by decide,Tryz.func213.trans (congrArg some (by kernel_rfl))⟩
 t0:=Tryz.underlying0
 a0:=Tryz.isAgg0
 z0:=Tryz.sizeOf0
 v0:=Tryz.zeroValue0
 t3:=Tryz.underlying3
 a3:=Tryz.isAgg3
 z3:=Tryz.sizeOf3
 v3:=Tryz.zeroValue3
 t4:=Tryz.underlying4
 a4:=Tryz.isAgg4
 z4:=Tryz.sizeOf4
 v4:=Tryz.zeroValue4
 t5:=Tryz.underlying5
 a5:=Tryz.isAgg5
 z5:=Tryz.sizeOf5
 v5:=Tryz.zeroValue5
 t9:=Tryz.underlying9
 a9:=Tryz.isAgg9
 z9:=Tryz.sizeOf9
 v9:=Tryz.zeroValue9
 t22:=Tryz.underlying88
 a22:=Tryz.isAgg88
 z22:=Tryz.sizeOf88
 v22:=Tryz.zeroValue88
 t25:=Tryz.underlying153
 a25:=Tryz.isAgg153
 z25:=Tryz.sizeOf153
 v25:=Tryz.zeroValue153
 t39:=Tryz.underlying225
 a39:=Tryz.isAgg225
 z39:=Tryz.sizeOf225
 v39:=Tryz.zeroValue225
 t45:=Tryz.underlying281
 a45:=Tryz.isAgg281
 z45:=Tryz.sizeOf281
 v45:=Tryz.zeroValue281
 t46:=Tryz.underlying282
 a46:=Tryz.isAgg282
 z46:=Tryz.sizeOf282
 v46:=Tryz.zeroValue282
 t50:=Tryz.underlying107
 a50:=Tryz.isAgg107
 z50:=Tryz.sizeOf107
 v50:=Tryz.zeroValue107
 t53:=Tryz.underlying288
 a53:=Tryz.isAgg288
 z53:=Tryz.sizeOf288
 v53:=Tryz.zeroValue288
 t55:=Tryz.underlying22
 a55:=Tryz.isAgg22
 z55:=Tryz.sizeOf22
 v55:=Tryz.zeroValue22
 t66:=Tryz.underlying322
 a66:=Tryz.isAgg322
 z66:=Tryz.sizeOf322
 v66:=Tryz.zeroValue322
 t70:=Tryz.underlying326
 a70:=Tryz.isAgg326
 z70:=Tryz.sizeOf326
 v70:=Tryz.zeroValue326
 t76:=Tryz.underlying361
 a76:=Tryz.isAgg361
 z76:=Tryz.sizeOf361
 v76:=Tryz.zeroValue361
 t77:=Tryz.underlying362
 a77:=Tryz.isAgg362
 z77:=Tryz.sizeOf362
 v77:=Tryz.zeroValue362 }
end Go.Proofs
namespace Go.Proofs.YtnegciklhanmbaaGreatDoor
open Go Go.RowKit Go.Shelf
def RegsAt (W:World) (g:Nat) (r:List Nat):Prop:=∃ cs fz,W.heap[g]? = some (.cells cs 5 fz)/\(∀ (j x:Nat),r[j]? = some x->cs[j]? = some (Value.int .u8 (x:Int)))/\(fz=(0,0)\/r.length<=fz.1)
theorem RegsAt.lt {W:World} {g:Nat} {r:List Nat} (h:RegsAt W g r):g<W.heap.size:=by
 obtain⟨B,C,A,-⟩:=h;exact (Array.getElem?_eq_some_iff.1 A).1
theorem RegsAt.cell {W:World} {g:Nat} {r:List Nat} (h:RegsAt W g r) {j x:Nat} (C:r[j]? = some x):W.cell? ⟨g,j,none⟩=some (.int .u8 (x:Int)):=by
 obtain⟨D,E,A,B,-⟩:=h;simp[World.cell?,A,B j x C]
theorem RegsAt.frozen {W:World} {g:Nat} {r:List Nat} (h:RegsAt W g r) {j x:Nat} (C:r[j]? = some x):W.frozen? ⟨g,j,none⟩=false:=by
 obtain⟨D,E,A,F,B⟩:=h;have G:=(List.getElem?_eq_some_iff.1 C).1;rcases B with rfl | B
 ·simp[World.frozen?,A]
 ·simp[World.frozen?,A];omega
theorem RegsAt.block {W A:World} {g:Nat} {r:List Nat} (h:RegsAt W g r) (hb:A.heap[g]? = W.heap[g]?):RegsAt A g r:=by
 obtain⟨B,C,D,E⟩:=h;exact⟨B,C,hb.trans D,E⟩
theorem RegsAt.grown {W B:World} {g:Nat} {r:List Nat} {row:Option Nat} (h:RegsAt W g r) (C:W.grownBy B row) (A:some g≠row):RegsAt B g r:=h.block (C.block g h.lt A)
theorem RegsAt.go {W A:World} {g:Nat} {r:List Nat} (h:RegsAt W g r) (hb:Bw W A):RegsAt A g r:=h.block (hb.block g h.lt)
theorem RegsAt.set {W:World} {g:Nat} {r:List Nat} (h:RegsAt W g r) (p k:Nat):RegsAt (W.setCell ⟨g,p,none⟩ (.int .u8 (k:Int))) g (r.set p k):=by
 obtain⟨H,E,F,D,G⟩:=h;refine⟨_,E,hSk F _,fun j x A=>?_,by rw[List.length_set];exact G⟩;rw[List.getElem?_set] at A;rw[Array.getElem?_setIfInBounds];by_cases C:p=j
 ·subst C
  by_cases B:p<r.length
  ·rw[if_pos rfl,if_pos B] at A
   cases A
   have:=D p _ (List.getElem?_eq_getElem B);rw[if_pos rfl,if_pos (Array.getElem?_eq_some_iff.1 this).1]
  ·rw[if_pos rfl,if_neg B] at A
   cases A
 ·rw[if_neg C] at A
  rw[if_neg C];exact D j x A
theorem RegsAt.other {W:World} {g b o:Nat} {r:List Nat} (h:RegsAt W g r) (A:b≠g) (v:Value):RegsAt (W.setCell ⟨b,o,none⟩ v) g r:=h.block (jaa (p:=⟨b,o,none⟩) A v)
theorem jmA (a b:Int) (w:World):Calls Tryz.prog 264 #[.int .u8 a,.int .u8 b] w fun e w'=>e=.returned (.int .u8 (max a b))/\w'=w:=by
 go_enter Tryz.func264,Tryz.ntmps264;go_wp2;go_ret;exact⟨rfl,rfl⟩
theorem jp2 (n:Int) (w:World) (B:0<=n) (C:n<=18446744073709551615):Calls Tryz.prog 271 #[.int .u64 n] w fun e w'=>e=.returned (.int .i64 (64-(Lib.bitLen n.toNat:Int)))/\w'=w:=by
 have A:=Tryz.bits_LeadingZeros64 n w B C;generalize Lib.bitLen n.toNat=m at A ⊢;go_enter Tryz.func271,Tryz.ntmps271;go_wp2_with (go_at_call 274;refine A.mono ?_;rintro e w' ⟨rfl,rfl⟩);go_ret;exact⟨rfl,rfl⟩
theorem jeJ (m:Nat):IntKind.u64.wrap (m:Int)=((m % 2^64:Nat):Int):=by simp[IntKind.wrap,IntKind.bits,IntKind.signed]
theorem jbr (m:Nat) (h:m<2^63):wrap64 (m:Int)=m:=by unfold wrap64;omega
theorem jpV (b:Nat) (n:Int) (w:World) (Q:3<=b) (L:b<=8) (J:U64 n):Calls Tryz.prog 266 #[.int .i64 b,.int .u64 n] w fun e w'=>e=.returned (.tuple #[.int .i64 (jsT b n.toNat:Nat),.int .i64 (jgB b n.toNat:Nat)])/\w'=w:=by
 obtain⟨m,rfl⟩:=Int.eq_ofNat_of_zero_le J.1;have O:m<2^64:=by have:=J.2;omega
 rw[Int.toNat_natCast];have C:∀ w,Calls Tryz.prog 199 #[.int .i64 b] w fun e w'=>e=.returned (.bool true)/\w'=w:=fun w=>(jdI b w).mono fun e w' ⟨M,N⟩=>⟨by rw[M];simp[jc5];omega,N.symm⟩
 have P:IntKind.u64.wrap ((m:Int)*2^b)=((m*2^b % 2^64:Nat):Int):=by
  rw[<- jeJ];congr 1
 have I:wrap64 ((m:Int) / 2^(64-b))=((jsT b m:Nat):Int):=by
  have M:=jqW b m L O;have N:2^b<=2^8:=Nat.pow_le_pow_right (by omega) L;rw[<- jbr (jsT b m) (by omega)];unfold jsT;congr 1
 have F:jgB b m=if m*2^b % 2^64=0 then 65-b else 65-Lib.bitLen (m*2^b % 2^64):=rfl
 have A:m*2^b % 2^64<2^64:=Nat.mod_lt _ (by decide);generalize m*2^b % 2^64=o at P F A;generalize jsT b m=q at I ⊢;generalize jgB b m=k at F ⊢;have G:=Lib.hid F;clear F J O;by_cases E:o=0
 ·subst E
  have B:Hid (((65:Int)-(b:Int))=(k:Int)):=by have:=G.out;simp at this;show _=_;omega
  go_enter Tryz.func266,Tryz.ntmps266;go_wp2_with (go_at_call 199;refine (C _).mono ?_;rintro e w' ⟨rfl,rfl⟩);go_ret2;exact⟨by rw[<- B.out,<- I];rfl,rfl⟩
 ·have S:((o:Int) != 0)=true:=by rw[bne_iff_ne];omega
  have H:=jp2 (o:Int) w (by omega) (by omega);rw[Int.toNat_natCast] at H;have D:=jhl o A E;have B:Hid ((64-(Lib.bitLen o:Int))+1=(k:Int)):=by have:=G.out;rw[if_neg E] at this;show _=_;omega
  generalize Lib.bitLen o=z at H D B;have R:(z:Int)<=64:=by omega
  clear G A E;go_enter Tryz.func266,Tryz.ntmps266;go_wp2_with (first | (go_at_call 199;refine (C _).mono ?_;rintro e w' ⟨rfl,rfl⟩) | (go_at_call 271;refine H.mono ?_;rintro e w' ⟨rfl,rfl⟩));go_ret2;exact⟨by rw[<- B.out,<- I];rfl,rfl⟩
end Go.Proofs.YtnegciklhanmbaaGreatDoor
namespace Go.Proofs.YtnegciklhanmbaaGreatDoor
open Go Go.RowKit
section
variable {P:Program} {pre:Array Oper} {o:Oper} {Q:Exit->Act->World->Prop} {md:Region.Mode}
def jui (md:Region.Mode) (pre:Array Oper) (o:Oper):Bool :=
 o.guard.isNone&&pre.toList.all (·.guard.isNone) &&
 (List.range pre.size).all (fun j=>o.after.toList.any fun e=>Region.binds md e&&e.on==j) &&
 o.after.toList.all (fun e => !Region.binds md e||decide (e.on<pre.size)) &&
 (List.range pre.size).all (fun i=>((pre[i]?).map fun p=>p.after.toList.all fun e => !Region.binds md e||decide (e.on<i)).getD true)
def juk (P:Program) (o:Oper) (Q:Exit->Act->World->Prop):Exit->Act->World->Prop
 | .normal,a,w=>o.wp P a w (fun a' w'=>Q .normal a' w') Q
 | e,a,w=>Q e a w
theorem ju5 {A:Oper} {a:Act} {w:World} {K:Act->World->Prop} (h:A.wp P a w K (juk P o Q)):A.wp P a w K Q:=by
 unfold Oper.wp at *;generalize (execOp a.eval A).run P w=r at *
 cases r with
 | ok n w' =>
  cases n<;>simp only[Oper.upon] at h ⊢ <;>
   first
    | exact h
    | exact Calls.mono h (fun e C B=>by cases e<;>first | exact B | exact (let ⟨a,w,hq⟩:=B;⟨a,w,hq⟩))
 | halt x w'=>cases x<;>simp only[Oper.upon] at h ⊢<;>exact h
theorem jcE {A:Array Oper} {L:Array Bool} {i:Nat}:i∈Region.ready md A L↔i<A.size/\L.getD i true=false/\∃ p,A[i]? = some p/\∀ e∈p.after,Region.binds md e=true->L.getD e.on false=true:=by
 unfold Region.ready;rw[List.mem_filter,List.mem_range];constructor
 ·rintro⟨C,D⟩
  rw[Bool.and_eq_true] at D;refine⟨C,by simpa using D.1,A[i],Array.getElem?_eq_getElem C,?_⟩;have B:=D.2;rw[Array.getElem?_eq_getElem C] at B;simp only[Option.map_some,Option.getD_some] at B;rw[Array.all_eq_true_iff_forall_mem] at B;intro e E hb;have:=B e E;simpa [hb] using this
 ·rintro⟨C,D,p,F,B⟩
  refine⟨C,?_⟩;rw[Bool.and_eq_true];refine⟨by simp[D],?_⟩;rw[F];simp only[Option.map_some,Option.getD_some];rw[Array.all_eq_true_iff_forall_mem];intro e E
  cases hb:Region.binds md e
  ·rfl
  ·simpa using B e E hb
structure jkD (md:Region.Mode) (pre:Array Oper) (o:Oper):Prop where
 go:o.guard=none
 gp:∀ (i:Nat) p,pre[i]? = some p->p.guard=none
 last:∀ j,j<pre.size->∃ e∈o.after,Region.binds md e=true/\e.on=j
 lt:∀ e∈o.after,Region.binds md e=true->e.on<pre.size
 lex:∀ (i:Nat) p,pre[i]? = some p->∀ e∈p.after,Region.binds md e=true->e.on<i
theorem juj (h:jui md pre o=true):jkD md pre o:=by
 simp only[jui,Bool.and_eq_true,List.all_eq_true,List.any_eq_true,List.mem_range] at h;obtain⟨⟨⟨⟨C,D⟩,E⟩,F⟩,G⟩:=h;refine⟨by simpa using C,fun i p B=>?_,fun j I=>?_,fun e A hb=>?_,fun i p B e A hb=>?_⟩
 ·have:=D p (by rw[<- Array.getElem?_toList] at B;exact List.mem_of_getElem? B)
  simpa using this
 ·obtain⟨e,A,hb,J⟩:=E j I
  exact⟨e,by simpa using A,hb,by simpa using J⟩
 ·have:=F e (by simpa using A)
  simpa [hb] using this
 ·have H:=(Array.getElem?_eq_some_iff.1 B).1
  have:=G i H;rw[B] at this;simp only[Option.map_some,Option.getD_some,List.all_eq_true] at this;have:=this e (by simpa using A);simpa [hb] using this
theorem jes (L:Array Bool) (n:Nat):(L.push false).getD n false=L.getD n false:=by
 simp only[Array.getD_eq_getD_getElem?,Array.getElem?_push];split
 ·rename_i h;subst h;simp
 ·rfl
theorem jr3 {L:Array Bool} (D:jkD md pre o) (G:L.size=pre.size) (h:Region.ready md pre L=[]):∀ j,j<pre.size->L.getD j false=true:=by
 intro j
 induction j using Nat.strongRecOn with
 | ind j ih =>
  intro A
  cases F:L.getD j false with
  | true=>rfl
  | false =>
   exfalso
   have E:j∈Region.ready md pre L:=jcE.2 ⟨A,by
    have B:j<L.size:=by omega
    simp only[Array.getD_eq_getD_getElem?,Array.getElem?_eq_getElem B,Option.getD_some] at F ⊢;exact F,pre[j],Array.getElem?_eq_getElem A,fun e C hb=>ih e.on (D.lex j _ (Array.getElem?_eq_getElem A) e C hb) (by have:=D.lex j _ (Array.getElem?_eq_getElem A) e C hb;omega)⟩
   rw[h] at E
   cases E
theorem jr4 {L:Array Bool} (F:L.size=pre.size) {i:Nat} (h:i∈Region.ready md pre L):i∈Region.ready md (pre.push o) (L.push false):=by
 obtain⟨E,A,p,D,B⟩:=jcE.1 h;refine jcE.2 ⟨by simp;omega,?_,p,?_,fun e C hb=>by rw[jes];exact B e C hb⟩
 ·have:i≠L.size:=by omega
  simpa [Array.getD_eq_getD_getElem?,Array.getElem?_push,this] using A
 ·rw[Array.getElem?_push,if_neg (by omega)];exact D
theorem jnY {L:Array Bool} (H:jkD md pre o) (J:L.size=pre.size) {i:Nat} (h:i∈Region.ready md (pre.push o) (L.push false)) :
  i∈Region.ready md pre L\/(i=pre.size/\∀ j,j<pre.size->L.getD j false=true):=by
 obtain⟨E,F,p,A,C⟩:=jcE.1 h;by_cases D:i=pre.size
 ·subst D
  rw[Array.getElem?_push_size] at A
  cases A
  refine .inr ⟨rfl,fun j G=>?_⟩;obtain⟨e,B,hb,rfl⟩:=H.last j G;rw[<- jes];exact C e B hb
 ·have I:i<pre.size:=by simp at E;omega
  rw[Array.getElem?_push,if_neg D] at A;refine .inl (jcE.2 ⟨I,?_,p,A,fun e B hb=>by rw[<- jes];exact C e B hb⟩);have:i≠L.size:=by omega
  simpa [Array.getD_eq_getD_getElem?,Array.getElem?_push,this] using F
theorem jlK {A:Array Oper} {L:Array Bool} (G:L.size=A.size) (h:∀ j,j<A.size->L.getD j false=true):Region.ready md A L=[]:=by
 rw[List.eq_nil_iff_forall_not_mem];intro i F;obtain⟨E,D,_⟩:=jcE.1 F;have B:=h i E;have C:i<L.size:=by omega
 simp only[Array.getD_eq_getD_getElem?,Array.getElem?_eq_getElem C,Option.getD_some] at D B;rw[D] at B
 cases B
theorem jgQ {B:Array Oper} {L:Array Bool} {a:Act} {w:World} (h:Region.ready md B L=[]) (D:Q .normal a w):∀ A,wpAny P md B Q A L a w
 | 0=>⟨h,D⟩
 | _+1=>⟨fun _=>D,fun i C=>by rw[h] at C;cases C⟩
theorem jl5 {K:Act->World->Prop} {a:Act} {w:World} (A:jkD md pre o) (hK:∀ a w,Q .normal a w->K a w) (h:juk P o Q .normal a w):wpOp P (pre.push o) Q pre.size K a w:=by
 unfold wpOp;rw[Array.getElem?_push_size];simp only[Region.wanted,A.go,if_true];exact .inl (Oper.wp_mono hK h)
theorem jpH (F:jkD md pre o) (C:Nat):∀ (L:Array Bool) (a:Act) (w:World),L.size=pre.size->wpAny P md pre (juk P o Q) C L a w->wpAny P md (pre.push o) Q (C+1) (L.push false) a w:=by
 have M:∀ L:Array Bool,L.size=pre.size->Region.ready md (pre.push o) (L.push false)≠[]:=fun L B G=>by
  cases hr:Region.ready md pre L with
  | nil =>
   have A:=jr3 F B hr;have J:pre.size∈Region.ready md (pre.push o) (L.push false):=jcE.2 ⟨by simp,by simp[Array.getD_eq_getD_getElem?,<- B],o,Array.getElem?_push_size,fun e Z hb=>by rw[jes];exact A _ (F.lt e Z hb)⟩;rw[G] at J;cases J
  | cons i r =>
   have J:=jr4 (o:=o) B (show i∈Region.ready md pre L by rw[hr];exact List.mem_cons_self ..);rw[G] at J;cases J
 have E:∀ (L:Array Bool),L.size=pre.size->(∀ j,j<pre.size->L.getD j false=true)->Region.ready md (pre.push o) ((L.push false).setIfInBounds pre.size true)=[]:=fun L B A=>by
  refine jlK (by simp[B]) (fun j c=>?_);simp only[Array.getD_eq_getD_getElem?,Array.getElem?_setIfInBounds,Array.size_push];by_cases I:pre.size=j
  ·rw[if_pos I,if_pos (by omega)];rfl
  ·rw[if_neg I]
   have:=A j (by simp at c;omega);rw[<- jes,Array.getD_eq_getD_getElem?] at this;exact this
 induction C with
 | zero =>
  intro L a w B h;refine⟨fun G=>absurd G (M L B),fun i N=>?_⟩;rcases jnY F B N with H | ⟨rfl,A⟩
  ·rw[h.1] at H;cases H
  ·exact jl5 F (fun a w S=>jgQ (E L B A) S _) h.2
 | succ k ih =>
  intro L a w B h;refine⟨fun G=>absurd G (M L B),fun i N=>?_⟩;rcases jnY F B N with H | ⟨rfl,A⟩
  ·have D:=h.2 i H
   obtain⟨d,_,p,O,_⟩:=jcE.1 H;have R:(pre.push o)[i]? = some p:=by rw[Array.getElem?_push,if_neg (by omega)];exact O
   unfold wpOp at D ⊢;rw[O] at D;rw[R];simp only[Region.wanted,F.gp i p O,if_true] at D ⊢;rcases D with D | ⟨D,b,v,X⟩
   ·refine .inl (Oper.wp_mono (fun U w' V=>?_) (ju5 D))
    have Y:=ih (L.setIfInBounds i true) U w' (by simp[B]) V
    have e:(L.push false).setIfInBounds i true=(L.setIfInBounds i true).push false:=by
     apply Array.ext_getElem?;intro n;simp only[Array.getElem?_setIfInBounds,Array.getElem?_push,Array.size_push,Array.size_setIfInBounds];by_cases T:i=n
     ·subst T
      rw[if_pos rfl,if_pos (by omega),if_neg (by omega),if_pos rfl,if_pos (by omega)]
     ·simp[T]
    rw[e];exact Y
   ·exact .inr ⟨D,b,v,X⟩
  ·refine jl5 F (fun a w S=>jgQ (E L B A) S _) (h.1 (jlK B A))
end
theorem jfb {P:Program} (A:World->Prop) {T:Nat} {Q:Exit->Act->World->Prop} {a:Act} {w:World} {l:List Oper} {o:Oper} (S:P.follows .mixedOrders=true) (N:Region.lexB .any l.toArray=true) (hb:jui .any l.toArray o=true) (O:A w.drew)
  (h:wpQuiet P l.toArray (fun w'=>∃ X:WIn A,w'=X.world) (fun G=>∀ w',(∃ X:WIn A,w'=X.world)->o.wp P G w' (fun D F=>Q .normal D F) Q) l a):(Code.region T (l++[o]).toArray true).wp P Q a w:=by
 refine wp_region_any S ?_;have B:=N;simp only[Region.lexB,Bool.and_eq_true] at B;have J:=wpAnyQ_lex (C:=fun w'=>∃ X:WIn A,w'=X.world) (md:=.any) B.1 l 0 (Array.replicate l.toArray.size false) a (by simp) (by simpa using B.2) h;have L:=wpAny_of_quiet (Q':=juk P o Q) (fun G w' E R=>R w' E) _ _ _ w.drew ⟨⟨_,O⟩,rfl⟩ J;have M:=jpH (juj hb) _ _ _ _ (by simp) L;have H:(l++[o]).toArray=l.toArray.push o:=by simp
 rw[H];have I:Array.replicate (l.toArray.push o).size false=(Array.replicate l.toArray.size false).push false:=by simp[Array.replicate_succ]
 rw[I];simpa using M
end Go.Proofs.YtnegciklhanmbaaGreatDoor
namespace Go.Proofs.YtnegciklhanmbaaGreatDoor
open Go Go.RowKit
def Sk.cut (x:Sk):Sk:={ x with e:=x.e.take 70,hr:=jl8 260 x.hr,cl:=x.cl.take 200,gl:=x.gl.take 300 }
def SS.cut (s:SS):SS:={ s with el:=min s.el 70,cl:=min s.cl 200,gl:=min s.gl 300 }
theorem SlC.take_min {α:Type} {enc:α->List Value} {k A:Nat} {w:World} {a:Option Addr} {len cap:Nat} {l:List α} (h:SlC enc k A w a len cap l) (m:Nat):SlC enc k A w a (min len m) cap (l.take m):=by
 have B:=h.take (min len m) (Nat.min_le_left _ _);have C:l.take (min len m)=l.take m:=by rw[h.1.1,Nat.min_comm];exact List.take_eq_take_min.symm
 rwa [C] at B
theorem SS.At.cut {s:SS} {n:Nat} {w:World} {x:Sk} (h:s.At n w x):s.cut.At n w x.cut:=⟨h.e.take_min 70,h.c.take_min 200,h.g.take_min 300⟩
theorem jaC {P:Program} (A:World->Prop) {I:Nat} {Q:Exit->Act->World->Prop} {a:Act} {w:World} {L l:List Oper} {o:Oper} (G:L=l++[o]) (H:P.follows .mixedOrders=true) (E:Region.lexB .any l.toArray=true) (hb:jui .any l.toArray o=true) (F:A w.drew)
  (h:wpQuiet P l.toArray (fun w'=>∃ X:WIn A,w'=X.world) (fun D=>∀ w',(∃ X:WIn A,w'=X.world)->o.wp P D w' (fun B C=>Q .normal B C) Q) l a):(Code.region I L.toArray true).wp P Q a w:=by
 subst G;exact jfb A H E hb F h
end Go.Proofs.YtnegciklhanmbaaGreatDoor
namespace Go.Proofs.YtnegciklhanmbaaGreatDoor
open Go Go.RowKit Go.Shelf
theorem jd9 (W:World) (b o:Nat) (v:Value):W.grownBy (W.setCell ⟨b,o,none⟩ v) (some b) :=
 ⟨rfl,rfl,rfl,(KeepsWalks.setCell W _ v).size,fun k _ A=>Below.heap_setCell _ _ _ k (fun e=>A (by rw[e]))⟩
theorem jcp {W V:World} {row:Option Nat} (h:W.grownBy V row):W.grownBy V.drew row:=⟨h.os,h.tape,h.output,h.size,h.block⟩
theorem jkn (N:Int) (s:ByteArray) (g len cap p k:Nat) (r:List Nat) (w:World) (hr:RegsAt w g r) (P:p<r.length) (b:r.length=len) :
  Calls Tryz.prog 267 #[.agg #[.int .i64 N,.string s,.slice (some ⟨g,0,none⟩) len cap,.func (.func 264) #[] #[]],.int .i64 p,.int .u8 k] w fun e w'=>e=.returned (.tuple #[])/\RegsAt w' g (jbx r p k)/\w.grownBy w' (some g):=by
 obtain⟨x,M⟩:∃ x,r[p]? = some x:=⟨_,List.getElem?_eq_getElem P⟩;obtain⟨A,F,C,J,R⟩:=jab w #[.int .i64 N,.string s,.slice (some ⟨g,0,none⟩) len cap,.func (.func 264) #[] #[]] 406;have D:RegsAt A.drew g r:=(hr.go J).block rfl;have Q:(p:Int)<len:=by omega
 let Inv:World->Prop:=fun W=>W=A.drew
 have S:∀ X:WIn Inv,X.world.cell? ⟨w.heap.size,1,none⟩=some (.string s):=fun X=>by rw[X.ok];exact cCc C 1
 have T:∀ X:WIn Inv,X.world.cell? ⟨w.heap.size,2,none⟩=some (.slice (some ⟨g,0,none⟩) len cap):=fun X=>by rw[X.ok];exact cCc C 2
 have U:∀ X:WIn Inv,X.world.cell? ⟨w.heap.size,3,none⟩=some (.func (.func 264) #[] #[]):=fun X=>by rw[X.ok];exact cCc C 3
 have V:∀ X:WIn Inv,X.world.cell? ⟨g,p,none⟩=some (.int .u8 x):=fun X=>by rw[X.ok];exact D.cell M
 have I:Hid (∀ X:WIn Inv,Calls Tryz.prog 264 #[.int .u8 x,.int .u8 k] X.world fun e w'=>e=.returned (.int .u8 (max (x:Int) k))/\∃ Y:WIn Inv,w'=Y.world):=fun X=>(jmA x k X.world).mono fun e w' h=>⟨h.1,X,h.2⟩
 have L:Nonempty (WIn Inv):=⟨⟨A.drew,rfl⟩⟩;have E:Hid (Inv A.drew):=rfl;have B:Hid (∀ X:WIn Inv,X.world=A.drew):=fun X=>X.ok
 have G:=Lib.hid D;have H:=Lib.hid M;have O:Hid (w.grownBy A none):=by rw[<- F];exact World.grownBy_alloc w _ none
 clear_value Inv;clear hr D M;go_enter Tryz.func267,Tryz.ntmps267;go_wp2_with fail;refine jaC Inv (l:=[_,_,_,_,_,_,_,_,_,_,_,_,_]) (o:=_) rfl (by kernel_rfl) (by kernel_rfl) (by kernel_rfl) E.out ?_
 repeat (first | go_big_quiet_step ((go_at_call 264;with_reducible exact I.out _)) | quiet_step ((go_at_call 264;with_reducible exact I.out _)))
 refine wpQuiet_nil ?_;rintro _ ⟨X,rfl⟩;rw[B.out X];clear B E L I S T U V F;have Z:=G.out.cell H.out;have a:=G.out.frozen H.out;go_wp2_with fail;go_end0;have e:(max (x:Int) (k:Int))=((max (r.getD p 0) k:Nat):Int):=by rw[List.getD_eq_getElem?_getD,H.out];simp only[Option.getD_some];omega
 rw[e];exact⟨rfl,(RegsAt.set (W:=A.drew) G.out p _).block rfl,jcp ((O.out.but (some g)).trans (jd9 A g p _))⟩
end Go.Proofs.YtnegciklhanmbaaGreatDoor
namespace Go.Proofs.YtnegciklhanmbaaGreatDoor
open Go Go.RowKit Go.Shelf
theorem jgt:Tryz.prog.underlying 204=some (.slice 5):=by kernel_rfl
theorem jwp:(Tryz.prog.info? 5).map (fun i=>(i.zero,i.size,i.bytes))=some (some (.int .u8 0),1,1):=by kernel_rfl
def jat (r:List Nat):ByteArray:=strOfNums (r.map fun (n:Nat)=>(n:Int))
theorem jwy (w:World) (len:Nat) (h:len<=1000):∃ C,(Instr.makeSlice 204 (.int .i64 (len:Int)) (.int .i64 (len:Int))).run Tryz.prog w=.ok (.slice (some ⟨w.heap.size,0,none⟩) len len) C/\RegsAt C w.heap.size (List.replicate len 0)/\Bw w C/\C.heap.size=w.heap.size+1:=by
 obtain⟨i,E,G,A,D⟩:=info_parts jwp;have hr:=run_makeSlice (P:=Tryz.prog) (w:=w) 204 5 i _ jgt E G .i64 .i64 (len:Int) (len:Int) (by omega) (Int.le_refl _) (by rw[A];omega) (by rw[D];omega) (by omega);rw[Int.toNat_natCast] at hr;refine⟨_,hr,⟨_,(0,0),World.alloc_heap_new _ _,fun j x B=>?_,.inl rfl⟩,(Below.refl _ w).alloc (Nat.le_refl _) _,by simp⟩;rw[List.getElem?_replicate] at B;split at B
 ·cases B
  rename_i F
  rw[A,Nat.mul_one];simp[madeCells,Value.cells,F,Nat.mod_one]
 ·cases B
theorem jsn {W:World} {g len cap:Nat} {r:List Nat} (hr:RegsAt W g r) (B:r.length=len):(convert 204 9 (.slice (some ⟨g,0,none⟩) len cap)).run Tryz.prog W=.ok (.string (jat r)) W :=
 run_convert_bytes_arg W 204 5 jgt Tryz.underlying5 g 0 len cap (r.map fun (n:Nat)=>(n:Int)) (by rw[List.length_map,B]) (fun i C=>by
  have A:=List.getElem?_eq_getElem (show i<r.length by omega);rw[Nat.zero_add,hr.cell A];simp[List.getD_eq_getElem?_getD,A]) 9 Tryz.underlying9
theorem jfL (B:Int) (s:ByteArray) (g len cap:Nat) (I:Value) (r:List Nat) (w:World) (hr:RegsAt w g r) (H:r.length=len) :
  CR 261 #[.agg #[.int .i64 B,.string s,.slice (some ⟨g,0,none⟩) len cap,I]] w (.agg #[.int .i64 B,.string (jat r)]):=by
 obtain⟨L,M,E,A,C,N⟩:=jas w #[.int .i64 B,.string s,.slice (some ⟨g,0,none⟩) len cap,I] 406 #[.int .i64 0,.string ⟨#[]⟩] 37;have G:=jsn (cap:=cap) (hr.go C) H;obtain⟨Q,c1,c2,c3⟩:=cl4 E;obtain⟨R,S⟩:=cl2 A;obtain⟨T,U⟩:=cz2 A;generalize jat r=out at G ⊢;have J:=Lib.hid A;clear hr H E A;go_enter Tryz.func261,Tryz.ntmps261;go_wp2_with fail;have F:=jbq (u:=.int .i64 B) (v:=.string out) J.out;have D:=(C.setCell (p:=⟨w.heap.size+1,0,none⟩) (Nat.le_succ _) (.int .i64 B)).setCell (p:=⟨w.heap.size+1,1,none⟩) (Nat.le_succ _) (.string out);generalize (L.setCell ⟨w.heap.size+1,0,none⟩ (.int .i64 B)).setCell ⟨w.heap.size+1,1,none⟩ (.string out)=V at F D ⊢;obtain⟨O,P⟩:=cl2 F;exact bodyPost_ret (v:=.agg #[.int .i64 B,.string out]) (by simp[results,Tryz.f261,go_sem,O,P]) rfl ⟨rfl,D⟩
theorem jpx {W:World} {B off:Nat} {C:Array Value} {t:TypeId} {A:Value} (h:W.heap[B]? = some (.cells C t (0,0))) (D:C[off]? = some A) (f:Fn):(store ⟨B,off,none⟩ (.func f #[] #[])).run Tryz.prog W=.ok () (W.setCell ⟨B,off,none⟩ (.func f #[] #[])):=by
 rw[run_store Tryz.prog W ⟨B,off,none⟩ _ _ (by rfl)];simp[World.cell?,World.frozen?,h,D]
theorem jkR (b:Nat) (w:World) (h1:3<=b) (X:b<=8) :
  Calls Tryz.prog 258 #[.int .i64 b] w fun e w'=>∃ g,e=.returned (.tuple #[.agg #[.int .i64 b,.string ⟨#[]⟩,.slice (some ⟨g,0,none⟩) (2^b) (2^b),.func (.func 264) #[] #[]],.nilIface])/\RegsAt w' g (jcl b)/\w.heap.size<=g/\Bw w w':=by
 have N:∀ w,Calls Tryz.prog 199 #[.int .i64 b] w fun e w'=>e=.returned (.bool true)/\w'=w:=fun w=>(jdI b w).mono fun e w' ⟨Y,Z⟩=>⟨by rw[Y];simp[jc5];omega,Z.symm⟩
 have P:2^b<=2^8:=Nat.pow_le_pow_right (by omega) X
 have f:IntKind.i64.wrap (2^b)=((2^b:Nat):Int):=by
  have a:∀ n:Nat,n<=256->IntKind.i64.wrap (n:Int)=n:=fun n h=>IntWalk.i64_in _ (by omega)
  simpa using a (2^b) P
 unfold jcl;generalize 2^b=len at P f ⊢;obtain⟨T,c,H,A,R⟩:=jab w #[.int .i64 0,.string ⟨#[]⟩,.slice none 0 0,.nilFunc] 406;obtain⟨U,O,D,B,S⟩:=jwy T len (by omega);have C:=(B.block _ (by omega)).trans H;rw[R] at O D;obtain⟨r,s,t,u⟩:=cl4 C;obtain⟨x,y,z,f3⟩:=cz4 C;have q:=Lib.hid D;have m:=Lib.hid (A.trans (B.mono A.size));obtain⟨E,F⟩:∃ E,((U.setCell ⟨w.heap.size,0,none⟩ (.int .i64 b)).setCell ⟨w.heap.size,1,none⟩ (.string ⟨#[]⟩)).setCell ⟨w.heap.size,2,none⟩ (.slice (some ⟨w.heap.size+1,0,none⟩) len len)=E:=⟨_,rfl⟩;have I:E.heap[w.heap.size]? = some (.cells #[.int .i64 b,.string ⟨#[]⟩,.slice (some ⟨w.heap.size+1,0,none⟩) len len,.nilFunc] 406 (0,0)):=by rw[<- F];exact hSk (hSk (hSk C _) _) _
 have M:Bw w E:=by rw[<- F];exact (((A.trans (B.mono A.size)).setCell (p:=⟨w.heap.size,0,none⟩) (Nat.le_refl _) _).setCell (p:=⟨w.heap.size,1,none⟩) (Nat.le_refl _) _).setCell (p:=⟨w.heap.size,2,none⟩) (Nat.le_refl _) _
 have Q:RegsAt E (w.heap.size+1) (List.replicate len 0):=by rw[<- F];exact ((D.other (by omega) _).other (by omega) _).other (by omega) _
 have d:=jpx (off:=3) I rfl (.func 264);clear P H C D A B S;go_enter Tryz.func258,Tryz.ntmps258;go_wp2_with (first | (go_at_call 199;refine (N _).mono ?_;rintro e w' ⟨rfl,rfl⟩) | fail);have J:(E.setCell ⟨w.heap.size,3,none⟩ (.func (.func 264) #[] #[])).heap[w.heap.size]? = some (.cells #[.int .i64 b,.string ⟨#[]⟩,.slice (some ⟨w.heap.size+1,0,none⟩) len len,.func (.func 264) #[] #[]] 406 (0,0)):=hSk I _;have G:=M.setCell (p:=⟨w.heap.size,3,none⟩) (Nat.le_refl _) (.func (.func 264) #[] #[]);have L:=Q.other (b:=w.heap.size) (o:=3) (by omega) (.func (.func 264) #[] #[]);generalize E.setCell ⟨w.heap.size,3,none⟩ (.func (.func 264) #[] #[])=V at J G L ⊢;obtain⟨i,j,k,l⟩:=cl4 J;exact bodyPost_ret (v:=.tuple #[.agg #[.int .i64 b,.string ⟨#[]⟩,.slice (some ⟨w.heap.size+1,0,none⟩) len len,.func (.func 264) #[] #[]],.nilIface]) (by simp[results,Tryz.f258,go_sem,i,j,k,l]) rfl ⟨_,rfl,L,Nat.le_succ _,G⟩
theorem jlN (W:World) (s:ByteArray):∃ B cap,(convert 9 204 (.string s)).run Tryz.prog W=.ok (.slice (some ⟨W.heap.size,0,none⟩) s.size cap) B/\RegsAt B W.heap.size (s.data.toList.map (·.toNat))/\Below W.heap.size W B/\B.heap.size=W.heap.size+1:=by
 refine⟨_,_,Lib.run_convert_string_bytes W 9 204 5 s Tryz.underlying9 jgt Tryz.underlying5,⟨_,_,Lib.bytesWorld_at_new W 5 s,fun j x A=>?_,.inr ?_⟩,?_,Lib.bytesWorld_size W _ s⟩
 ·rw[List.getElem?_map] at A
  cases hb:s.data.toList[j]? with
  | none=>rw[hb] at A;cases A
  | some y =>
   rw[hb] at A
   cases A
   have C:=(List.getElem?_eq_some_iff.1 hb).1;rw[Array.length_toList] at C;unfold Lib.bytesCells;rw[Array.getElem?_append_left (by simpa using C),Array.getElem?_map,<- Array.getElem?_toList,hb];rfl
 ·simp[Lib.bytesCells]
 ·exact (Below.refl _ W).grown (row:=none) ⟨rfl,rfl,rfl,by rw[Lib.bytesWorld_size];omega,fun k D _=>Lib.bytesWorld_at_old W _ s k D⟩ (Nat.le_refl _) (fun k e=>by cases e)
end Go.Proofs.YtnegciklhanmbaaGreatDoor
namespace Go.Proofs.YtnegciklhanmbaaGreatDoor
open Go Go.RowKit
theorem jsJ:Tryz.prog.underlying 203=some (.pointer 206):=by kernel_rfl
theorem jvE:Tryz.prog.underlying 314=some .unsafePointer:=by kernel_rfl
theorem jvA:(Tryz.prog.info? 206).map (·.size)=some 2:=by kernel_rfl
theorem jxm:liesAt Tryz.prog Tryz.prog.depth 206 (2 / Tryz.prog.cellsOf 206) 0 206 1=true:=by kernel_rfl
theorem jaB:(Tryz.prog.info? 5).map (fun i=>(i.zero,i.size,i.bytes))=some (some (.int .u8 0),1,1):=by kernel_rfl
theorem jay:Tryz.prog.underlying 204=some (.slice 5):=by kernel_rfl
theorem jhp (b:Nat) (w:World) (E:w.cell? ⟨b,0,none⟩=some (.pointer none)) (A:w.shape? b=some (206,2)) (D:w.frozen? ⟨b,0,none⟩=false) :
  Calls Tryz.prog 146 #[.pointer (some ⟨b,0,none⟩)] w fun e w'=>e=.returned (.tuple #[])/\w'=w.setCell ⟨b,0,none⟩ (.pointer (some ⟨b,0,none⟩)):=by
 obtain⟨j,C,B⟩:=Option.map_eq_some_iff.1 jvA;go_enter Tryz.func146,Tryz.ntmps146;go_wp2;rw[Lib.run_to_unsafe w ⟨b,0,none⟩ jsJ jvE C (by rw[B];decide) A (Nat.zero_lt_succ 1)];simp only[Result.andThen];rw[Oper.upon_value];go_wp2;rw[run_callFunc_extern Tryz.func185 (by kernel_rfl) (by kernel_rfl) (by kernel_rfl) (e:=Extern.AbiNoEscape.same) (by kernel_rfl)];rw[Lib.run_noEscape];simp only[Result.andThen];rw[Oper.upon_value];go_wp2;rw[Lib.run_from_unsafe w ⟨b,0,none⟩ jvE jsJ C A jxm];simp only[Result.andThen];rw[Oper.upon_value];go_wp2;go_end0;exact⟨rfl,rfl⟩
theorem jij (b:Nat) (w:World) (C:w.cell? ⟨b,0,none⟩=some (.pointer (some ⟨b,0,none⟩))) :
  Calls Tryz.prog 146 #[.pointer (some ⟨b,0,none⟩)] w fun e w'=>e=.returned (.tuple #[])/\w'=w:=by
 obtain⟨j,A,B⟩:=Option.map_eq_some_iff.1 jvA;have D:=Lib.run_neq_ptr_same (P:=Tryz.prog) w ⟨b,0,none⟩ jsJ A;go_enter Tryz.func146,Tryz.ntmps146;go_wp2;go_end0;exact⟨rfl,rfl⟩
theorem jdS (B b:Nat) (A:List Value) (w:World) (h:Lib.IsBuilderF 206 5 B b A w) :
  Calls Tryz.prog 146 #[.pointer (some ⟨b,0,none⟩)] w fun e w'=>e=.returned (.tuple #[])/\(Lib.BuilderAtF 206 5 B b (.pointer (some ⟨b,0,none⟩)) A w'/\Below B w w'/\Lib.OthersKept 5 (some b) w w'):=by
 rcases h with h | h
 ·refine (jhp b w h.cell0 h.shape h.frozen0).mono ?_
  rintro e w' ⟨rfl,rfl⟩;exact⟨rfl,h.used _,(Below.refl B w).setCell (p:=⟨b,0,none⟩) h.1 _,(Lib.OthersKept.refl _ _ w).setCell ⟨b,0,none⟩ rfl _⟩
 ·refine (jij b w h.cell0).mono ?_
  rintro e w' ⟨rfl,rfl⟩;exact⟨rfl,h,Below.refl B _,Lib.OthersKept.refl _ _ _⟩
theorem jem (B b:Nat) (H:List Value) (s:ByteArray) (w:World) (h:Lib.IsBuilderF 206 5 B b H w) (V:H.length+s.size<=140737488355328) (a:B<=w.heap.size) :
  Calls Tryz.prog 105 #[.pointer (some ⟨b,0,none⟩),.string s] w fun e w'=>e=.returned (.tuple #[.int .i64 s.size,.nilIface])/\(Lib.BuilderAtF 206 5 B b (.pointer (some ⟨b,0,none⟩)) (H++Lib.strCells s) w'/\Below B w w'/\Lib.OthersKept 5 (some b) w w'):=by
 obtain⟨i0,c,O,P,Q⟩:=info_parts jaB;go_enter Tryz.func105,Tryz.ntmps105;go_wp2_with fail;refine (jdS B b H _ h).mono ?_;rintro e R ⟨rfl,Z,G,J⟩;obtain⟨U,v,F,C,M⟩:=Z;have f:R.cell? ⟨b,0,none⟩=some (.pointer (some ⟨b,0,none⟩)):=by rw[Lib.cell_of_heap F];rfl
 have c1:R.cell? ⟨b,1,none⟩=some v:=by rw[Lib.cell_of_heap F];rfl
 go_wp2_with (at_builtin;refine Lib.wpList_append_own_stringF _ rfl _ _ 204 9 rfl B 5 i0 jay Tryz.underlying9 c O P Q _ _ _ rfl C s rfl ?c3 ?c4 ?c5 ?_)
 case c3=>unfold maxLen;omega
 case c4=>omega
 case c5=>have:=G.size;omega
 intro v' I D A _;have L:b<R.heap.size:=(Array.getElem?_eq_some_iff.1 F).1
 have E:I.heap[b]? = some (.cells #[.pointer (some ⟨b,0,none⟩),v] 206 (0,0)):=by
  rw[A.block b L (fun e=>M e.symm)];exact F
 have i:I.cell? ⟨b,0,none⟩=some (.pointer (some ⟨b,0,none⟩)):=by rw[Lib.cell_of_heap E];rfl
 have j:I.cell? ⟨b,1,none⟩=some v:=by rw[Lib.cell_of_heap E];rfl
 have l:I.frozen? ⟨b,1,none⟩=false:=Lib.frozen_of_heap E 1
 obtain⟨S,X,cap,rfl⟩:∃ S X cap,v'=.slice S X cap:=by
  rcases D.2 with⟨N,_⟩ | ⟨g,cap,Y,m,N,_⟩
  ·exact⟨_,_,_,N⟩
  ·exact⟨_,_,_,N⟩
 go_wp2;go_ret2;refine⟨rfl,?_,?_,(J.grown A (Lib.ownsRowF_kind C)).setCell ⟨b,1,none⟩ rfl _⟩
 ·exact Lib.BuilderAtF.put (T:=206) (e:=5) U E (bs':=H++Lib.strCells s) (by simpa [Lib.strCells_length] using D) (by decide)
 ·exact (G.grown A (by have:=G.size;omega) (fun k d=>(C.lt k d).1)).setCell (p:=⟨b,1,none⟩) U _
end Go.Proofs.YtnegciklhanmbaaGreatDoor
