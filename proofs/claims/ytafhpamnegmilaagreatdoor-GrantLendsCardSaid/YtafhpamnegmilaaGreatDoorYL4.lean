/- DERIVED: THE SHELF's CONTRACTS AT THIS DUMP, IN PLAIN WORDS (tools/lay-plain.mjs out of 'TryzShelf.lean', which tools/lay-shelf.mjs wrote): THE SAME DECLARATIONS UNDER THE SAME NAMES: 'import', 'namespace', 'open', 'def', 'theorem' AND NOTHING ELSE: no command of the shelf's: FOR A HAND-IN. Each laying: the table of numbers ('.._ren') and one theorem, a field a fact of the dump's own or the kernel's comparison; each contract: ONE APPLICATION. Package hll: greater, ahead, Place; registers at work in memory. Package label: the runes of names and values; names, values. Package label: values, sets of labels (ranges over slices.Values). Package label: quoted. Package label: Less; slices of labels: Equal, Clone. -/
import Derived.Shelf.Strings.Builder1
import Derived.Shelf.Strings.Builder2
import Derived.Shelf.Strings.OnBuilder
import Derived.Shelf.Small.Bits
import Derived.Shelf.Strings.BuilderF
import Derived.Shelf.Strings.BuilderK
import Derived.Shelf.Strings.BuilderRune
import Derived.Shelf.Utf8.AppendRune
import Derived.Shelf.Utf8.AppendRunePlain
import Derived.Shelf.Strings.Builder2Cap
import Derived.Shelf.Strconv.Itoa0
import Derived.Shelf.Strings.Search1
import Derived.Shelf.Strings.Search2
import Derived.Shelf.Strings.Search3
import Derived.Shelf.Strings.Cut
import Derived.Shelf.LaysM
import Derived.Shelf.Strings.Shaped
import Derived.Shelf.Unicode.DecodeSlow
import Derived.Shelf.Unicode.DecodeAny
import Derived.Shelf.Strings.BuilderCap
import Derived.Ground.SlgmProg
import Derived.Shelf.SortM.Plain
import Derived.Shelf.SortM.SortNone
import Derived.Laws.BytesArg
import Derived.Lib.ConvBytes
import Derived.Lib.MinMax
import Derived.Test.YtafhpamnegmilaaGreatDoorYLE
import Derived.Test.YtafhpamnegmilaaGreatDoorYXG
set_option maxHeartbeats 1000000
set_option maxRecDepth 100000
namespace Go.Proofs
open Go.Shelf
def Tryz.lays134_ren:Go.Shelf.Ren:=⟨fun | 134=>254 | 129=>257 | n=>n,fun | 53=>48 | 3=>3 | 4=>4 | 46=>274 | 5=>5 | 9=>9 | n=>n,fun | n=>n⟩
theorem Tryz.lays134:Go.Proofs.Lays.n134 Tryz.prog Tryz.lays134_ren:={
 mixed:=by kernel_rfl
 f129:=Tryz.func257.trans (congrArg some (by kernel_rfl))
 f134:=Tryz.func254.trans (congrArg some (by kernel_rfl))
 t3:=Tryz.underlying3
 a3:=Tryz.isAgg3
 z3:=Tryz.sizeOf3
 v3:=Tryz.zeroValue3
 t4:=Tryz.underlying4
 a4:=Tryz.isAgg4
 z4:=Tryz.sizeOf4
 v4:=Tryz.zeroValue4
 t5:=Tryz.underlying5
 a5:=Tryz.isAgg5
 z5:=Tryz.sizeOf5
 v5:=Tryz.zeroValue5
 t9:=Tryz.underlying9
 a9:=Tryz.isAgg9
 z9:=Tryz.sizeOf9
 v9:=Tryz.zeroValue9
 t46:=Tryz.underlying274
 a46:=Tryz.isAgg274
 z46:=Tryz.sizeOf274
 v46:=Tryz.zeroValue274
 t53:=Tryz.underlying48
 a53:=Tryz.isAgg48
 z53:=Tryz.sizeOf48
 v53:=Tryz.zeroValue48 }
theorem Tryz.bits_LeadingZeros64 (x:Int) (w:World) (A:0<=x) (B:x<=18446744073709551615) :
  Calls Tryz.prog 254 #[.int .u64 x] w fun e w'=>e=.returned (.int .i64 (64-(Lib.bitLen x.toNat:Int)))/\w'=w:=Any.bits_LeadingZeros64 Tryz.lays134 x w A B
def Tryz.lays129_ren:Go.Shelf.Ren:=⟨fun | 129=>257 | n=>n,fun | 53=>48 | 3=>3 | 4=>4 | 46=>274 | 5=>5 | 9=>9 | n=>n,fun | n=>n⟩
theorem Tryz.lays129:Go.Proofs.Lays.n129 Tryz.prog Tryz.lays129_ren:={
 mixed:=by kernel_rfl
 f129:=Tryz.func257.trans (congrArg some (by kernel_rfl))
 t3:=Tryz.underlying3
 a3:=Tryz.isAgg3
 z3:=Tryz.sizeOf3
 v3:=Tryz.zeroValue3
 t4:=Tryz.underlying4
 a4:=Tryz.isAgg4
 z4:=Tryz.sizeOf4
 v4:=Tryz.zeroValue4
 t5:=Tryz.underlying5
 a5:=Tryz.isAgg5
 z5:=Tryz.sizeOf5
 v5:=Tryz.zeroValue5
 t9:=Tryz.underlying9
 a9:=Tryz.isAgg9
 z9:=Tryz.sizeOf9
 v9:=Tryz.zeroValue9
 t46:=Tryz.underlying274
 a46:=Tryz.isAgg274
 z46:=Tryz.sizeOf274
 v46:=Tryz.zeroValue274
 t53:=Tryz.underlying48
 a53:=Tryz.isAgg48
 z53:=Tryz.sizeOf48
 v53:=Tryz.zeroValue48 }
theorem Tryz.bits_Len64 (x:Int) (w:World) (A:0<=x) (B:x<=18446744073709551615) :
  Calls Tryz.prog 257 #[.int .u64 x] w fun e w'=>e=.returned (.int .i64 (Lib.bitLen x.toNat))/\w'=w:=Any.bits_Len64 Tryz.lays129 x w A B
def Tryz.lays143_ren:Go.Shelf.Ren:=⟨fun | 143=>173 | 219=>174 | 217=>191 | 225=>192 | 224=>193 | 267=>194 | 266=>203 | 314=>204 | n=>n,fun | 9=>9 | 3=>3 | 4=>4 | 5=>5 | 46=>274 | 146=>297 | 51=>271 | n=>n,fun | 1=>1 | n=>n⟩
theorem Tryz.lays143:Go.Proofs.Lays.n143 Tryz.prog Tryz.lays143_ren:={
 mixed:=by kernel_rfl
 f143:=Tryz.func173.trans (congrArg some (by kernel_rfl))
 f217:=Tryz.func191.trans (congrArg some (by kernel_rfl))
 f219:=Tryz.func174.trans (congrArg some (by kernel_rfl))
 f224:=Tryz.func193.trans (congrArg some (by kernel_rfl))
 f225:=Tryz.func192.trans (congrArg some (by kernel_rfl))
 f266:=Tryz.func203.trans (congrArg some (by kernel_rfl))
 f267:=Tryz.func194.trans (congrArg some (by kernel_rfl))
 f314:=Tryz.func204.trans (congrArg some (by kernel_rfl))
 t3:=Tryz.underlying3
 a3:=Tryz.isAgg3
 z3:=Tryz.sizeOf3
 v3:=Tryz.zeroValue3
 t4:=Tryz.underlying4
 a4:=Tryz.isAgg4
 z4:=Tryz.sizeOf4
 v4:=Tryz.zeroValue4
 t5:=Tryz.underlying5
 a5:=Tryz.isAgg5
 z5:=Tryz.sizeOf5
 v5:=Tryz.zeroValue5
 t9:=Tryz.underlying9
 a9:=Tryz.isAgg9
 z9:=Tryz.sizeOf9
 v9:=Tryz.zeroValue9
 t46:=Tryz.underlying274
 a46:=Tryz.isAgg274
 z46:=Tryz.sizeOf274
 v46:=Tryz.zeroValue274
 t51:=Tryz.underlying271
 a51:=Tryz.isAgg271
 z51:=Tryz.sizeOf271
 v51:=Tryz.zeroValue271
 t146:=Tryz.underlying297
 a146:=Tryz.isAgg297
 z146:=Tryz.sizeOf297
 v146:=Tryz.zeroValue297
 g1:=by kernel_rfl }
open Go.RowKit Go.Lib in
theorem Tryz.strings_Index_one (s:ByteArray) (c:UInt8) (w:World) :
  Calls Tryz.prog 173 #[.string s,.string ⟨#[c]⟩] w fun e w'=>e=.returned (.int .i64 (Lib.indexByte s.data.toList c))/\w'=w:=Any.strings_Index_one Tryz.lays143 s c w
def Tryz.lays145_ren:Go.Shelf.Ren:=⟨fun | 145=>106 | 220=>147 | 219=>174 | 217=>191 | 225=>192 | 224=>193 | 267=>194 | 266=>203 | 314=>204 | n=>n,fun | 9=>9 | 4=>4 | 59=>153 | 3=>3 | 5=>5 | 46=>274 | 146=>297 | 51=>271 | n=>n,fun | 1=>1 | n=>n⟩
theorem Tryz.lays145:Go.Proofs.Lays.n145 Tryz.prog Tryz.lays145_ren:={
 mixed:=by kernel_rfl
 f145:=Tryz.func106.trans (congrArg some (by kernel_rfl))
 f217:=Tryz.func191.trans (congrArg some (by kernel_rfl))
 f219:=Tryz.func174.trans (congrArg some (by kernel_rfl))
 f220:=Tryz.func147.trans (congrArg some (by kernel_rfl))
 f224:=Tryz.func193.trans (congrArg some (by kernel_rfl))
 f225:=Tryz.func192.trans (congrArg some (by kernel_rfl))
 f266:=Tryz.func203.trans (congrArg some (by kernel_rfl))
 f267:=Tryz.func194.trans (congrArg some (by kernel_rfl))
 f314:=Tryz.func204.trans (congrArg some (by kernel_rfl))
 t3:=Tryz.underlying3
 a3:=Tryz.isAgg3
 z3:=Tryz.sizeOf3
 v3:=Tryz.zeroValue3
 t4:=Tryz.underlying4
 a4:=Tryz.isAgg4
 z4:=Tryz.sizeOf4
 v4:=Tryz.zeroValue4
 t5:=Tryz.underlying5
 a5:=Tryz.isAgg5
 z5:=Tryz.sizeOf5
 v5:=Tryz.zeroValue5
 t9:=Tryz.underlying9
 a9:=Tryz.isAgg9
 z9:=Tryz.sizeOf9
 v9:=Tryz.zeroValue9
 t46:=Tryz.underlying274
 a46:=Tryz.isAgg274
 z46:=Tryz.sizeOf274
 v46:=Tryz.zeroValue274
 t51:=Tryz.underlying271
 a51:=Tryz.isAgg271
 z51:=Tryz.sizeOf271
 v51:=Tryz.zeroValue271
 t59:=Tryz.underlying153
 a59:=Tryz.isAgg153
 z59:=Tryz.sizeOf153
 v59:=Tryz.zeroValue153
 t146:=Tryz.underlying297
 a146:=Tryz.isAgg297
 z146:=Tryz.sizeOf297
 v146:=Tryz.zeroValue297
 g1:=by kernel_rfl }
open Go.RowKit Go.Lib in
theorem Tryz.strings_Cut (s A:ByteArray) (m:Int) (w:World) (C:s.size<4294967281) (B:w.cell? ⟨1,0,none⟩=some (.int .i64 m)) :
  Calls Tryz.prog 106 #[.string s,.string A] w fun e w'=>e=.returned (.tuple #[.string ⟨(Lib.cut s.data.toList A.data.toList).1.toArray⟩,.string ⟨(Lib.cut s.data.toList A.data.toList).2.1.toArray⟩,.bool (Lib.cut s.data.toList A.data.toList).2.2])/\∃ n,w'=w.drewN n:=Any.strings_Cut Tryz.lays145 s A m w C B
def Tryz.lays197_ren:Go.Shelf.Ren:=⟨fun | 197=>151 | 260=>175 | n=>n,fun | 9=>9 | 21=>21 | 3=>3 | 4=>4 | 5=>5 | 105=>219 | 119=>275 | 0=>0 | 46=>274 | 139=>278 | 138=>277 | n=>n,fun | 3=>2 | 4=>3 | n=>n⟩
theorem Tryz.lays197:Go.Proofs.Lays.n197 Tryz.prog Tryz.lays197_ren:={
 mixed:=by kernel_rfl
 f197:=Tryz.func151.trans (congrArg some (by kernel_rfl))
 f260:=Tryz.func175.trans (congrArg some (by kernel_rfl))
 t0:=Tryz.underlying0
 a0:=Tryz.isAgg0
 z0:=Tryz.sizeOf0
 v0:=Tryz.zeroValue0
 t3:=Tryz.underlying3
 a3:=Tryz.isAgg3
 z3:=Tryz.sizeOf3
 v3:=Tryz.zeroValue3
 t4:=Tryz.underlying4
 a4:=Tryz.isAgg4
 z4:=Tryz.sizeOf4
 v4:=Tryz.zeroValue4
 t5:=Tryz.underlying5
 a5:=Tryz.isAgg5
 z5:=Tryz.sizeOf5
 v5:=Tryz.zeroValue5
 t9:=Tryz.underlying9
 a9:=Tryz.isAgg9
 z9:=Tryz.sizeOf9
 v9:=Tryz.zeroValue9
 t21:=Tryz.underlying21
 a21:=Tryz.isAgg21
 z21:=Tryz.sizeOf21
 v21:=Tryz.zeroValue21
 t46:=Tryz.underlying274
 a46:=Tryz.isAgg274
 z46:=Tryz.sizeOf274
 v46:=Tryz.zeroValue274
 t105:=Tryz.underlying219
 a105:=Tryz.isAgg219
 z105:=Tryz.sizeOf219
 v105:=Tryz.zeroValue219
 t119:=Tryz.underlying275
 a119:=Tryz.isAgg275
 z119:=Tryz.sizeOf275
 t138:=Tryz.underlying277
 a138:=Tryz.isAgg277
 z138:=Tryz.sizeOf277
 v138:=Tryz.zeroValue277
 t139:=Tryz.underlying278
 a139:=Tryz.isAgg278
 z139:=Tryz.sizeOf278
 v139:=Tryz.zeroValue278
 g3:=by kernel_rfl
 g4:=by kernel_rfl }
open Go.RowKit Go.Lib in
theorem Tryz.utf8_DecodeRuneInString (s:ByteArray) (w:World) (A:Lib.Utf8Tabs 2 3 w) :
  Calls Tryz.prog 151 #[.string s] w fun e w'=>e=.returned (.tuple #[.int .i32 (Lib.decodeGo s).1,.int .i64 (Lib.decodeGo s).2])/\Below w.heap.size w w':=Any.utf8_DecodeRuneInString Tryz.lays197 s w A
def Tryz.laysSlM5_f297_ren:Go.Shelf.Ren:=⟨fun | 5=>297 | 8=>301 | 7=>300 | 19=>311 | 20=>257 | 10=>302 | 11=>303 | 12=>304 | 13=>305 | 14=>306 | 15=>307 | 16=>308 | 17=>309 | 18=>310 | 30=>312 | 31=>313 | 32=>314 | 33=>315 | 34=>316 | 35=>317 | 40=>318 | n=>n,fun | 23=>25 | 25=>3 | 3=>3 | 32=>274 | 22=>25 | 0=>0 | 44=>271 | 46=>48 | 4=>4 | 36=>365 | 35=>364 | 41=>88 | 5=>5 | 9=>9 | 53=>371 | 57=>375 | 63=>377 | 64=>267 | n=>n,fun | n=>n⟩
theorem Tryz.laysSlM5_f297:Go.Proofs.SlLaysM.n5 Tryz.prog Tryz.laysSlM5_f297_ren:={
 mixed:=by kernel_rfl
 f5:=⟨Tryz.f297.name,by decide,Tryz.func297.trans (congrArg some (by kernel_rfl))⟩
 f7:=⟨Tryz.f300.name,by decide,Tryz.func300.trans (congrArg some (by kernel_rfl))⟩
 f8:=Tryz.func301.trans (congrArg some (by kernel_rfl))
 f10:=⟨Tryz.f302.name,by decide,Tryz.func302.trans (congrArg some (by kernel_rfl))⟩
 f11:=⟨Tryz.f303.name,by decide,Tryz.func303.trans (congrArg some (by kernel_rfl))⟩
 f12:=⟨Tryz.f304.name,by decide,Tryz.func304.trans (congrArg some (by kernel_rfl))⟩
 f13:=⟨Tryz.f305.name,by decide,Tryz.func305.trans (congrArg some (by kernel_rfl))⟩
 f14:=⟨Tryz.f306.name,by decide,Tryz.func306.trans (congrArg some (by kernel_rfl))⟩
 f15:=⟨Tryz.f307.name,by decide,Tryz.func307.trans (congrArg some (by kernel_rfl))⟩
 f16:=⟨Tryz.f308.name,by decide,Tryz.func308.trans (congrArg some (by kernel_rfl))⟩
 f17:=⟨Tryz.f309.name,by decide,Tryz.func309.trans (congrArg some (by kernel_rfl))⟩
 f18:=⟨Tryz.f310.name,by decide,Tryz.func310.trans (congrArg some (by kernel_rfl))⟩
 f19:=Tryz.func311.trans (congrArg some (by kernel_rfl))
 f20:=Tryz.func257.trans (congrArg some (by kernel_rfl))
 f30:=⟨Tryz.f312.name,by decide,Tryz.func312.trans (congrArg some (by kernel_rfl))⟩
 f31:=Tryz.func313.trans (congrArg some (by kernel_rfl))
 f32:=Tryz.func314.trans (congrArg some (by kernel_rfl))
 f33:=⟨Tryz.f315.name,by decide,Tryz.func315.trans (congrArg some (by kernel_rfl))⟩
 f34:=⟨Tryz.f316.name,by decide,Tryz.func316.trans (congrArg some (by kernel_rfl))⟩
 f35:=⟨Tryz.f317.name,by decide,Tryz.func317.trans (congrArg some (by kernel_rfl))⟩
 f40:=⟨Tryz.f318.name,by decide,Tryz.func318.trans (congrArg some (by kernel_rfl))⟩
 t0:=Tryz.underlying0
 a0:=Tryz.isAgg0
 z0:=Tryz.sizeOf0
 v0:=Tryz.zeroValue0
 t3:=Tryz.underlying3
 a3:=Tryz.isAgg3
 z3:=Tryz.sizeOf3
 v3:=Tryz.zeroValue3
 t4:=Tryz.underlying4
 a4:=Tryz.isAgg4
 z4:=Tryz.sizeOf4
 v4:=Tryz.zeroValue4
 t5:=Tryz.underlying5
 a5:=Tryz.isAgg5
 z5:=Tryz.sizeOf5
 v5:=Tryz.zeroValue5
 t9:=Tryz.underlying9
 a9:=Tryz.isAgg9
 z9:=Tryz.sizeOf9
 v9:=Tryz.zeroValue9
 t22:=Tryz.underlying25
 a22:=Tryz.isAgg25
 z22:=Tryz.sizeOf25
 v22:=Tryz.zeroValue25
 t23:=Tryz.underlying25
 a23:=Tryz.isAgg25
 z23:=Tryz.sizeOf25
 v23:=Tryz.zeroValue25
 t25:=Tryz.underlying3
 a25:=Tryz.isAgg3
 z25:=Tryz.sizeOf3
 v25:=Tryz.zeroValue3
 t32:=Tryz.underlying274
 a32:=Tryz.isAgg274
 z32:=Tryz.sizeOf274
 v32:=Tryz.zeroValue274
 t35:=Tryz.underlying364
 a35:=Tryz.isAgg364
 z35:=Tryz.sizeOf364
 v35:=Tryz.zeroValue364
 t36:=Tryz.underlying365
 a36:=Tryz.isAgg365
 z36:=Tryz.sizeOf365
 v36:=Tryz.zeroValue365
 t41:=Tryz.underlying88
 a41:=Tryz.isAgg88
 z41:=Tryz.sizeOf88
 v41:=Tryz.zeroValue88
 t44:=Tryz.underlying271
 a44:=Tryz.isAgg271
 z44:=Tryz.sizeOf271
 v44:=Tryz.zeroValue271
 t46:=Tryz.underlying48
 a46:=Tryz.isAgg48
 z46:=Tryz.sizeOf48
 v46:=Tryz.zeroValue48
 t53:=Tryz.underlying371
 a53:=Tryz.isAgg371
 z53:=Tryz.sizeOf371
 v53:=Tryz.zeroValue371
 t57:=Tryz.underlying375
 a57:=Tryz.isAgg375
 z57:=Tryz.sizeOf375
 v57:=Tryz.zeroValue375
 t63:=Tryz.underlying377
 a63:=Tryz.isAgg377
 z63:=Tryz.sizeOf377
 v63:=Tryz.zeroValue377
 t64:=Tryz.underlying267
 a64:=Tryz.isAgg267
 z64:=Tryz.sizeOf267
 v64:=Tryz.zeroValue267 }
open Go.Sort Go.RowKit in
theorem Tryz.slices_Sort_int (A off cap:Nat) (C:List Int) (w:World) (E:Holds (Value.int .i64) w A off C.toArray) (B:A<w.heap.size) (D:C.length<4611686018427387904) :
  Calls Tryz.prog 297 #[.slice (some ⟨A,off,none⟩) C.length cap] w fun e w' =>
   e=.returned (.tuple #[])/\∃ n F,w'=grow (putRow (Value.int .i64) (Sort.ahead w n) A off (C.mergeSort fun x y=>decide (x<=y)).toArray) F:=AnyM.slices_Sort_int Tryz.laysSlM5_f297 A off cap C w E B D
open Go.RowKit Go.Sort in
theorem Tryz.slices_Sort_int_none (p:Option Addr) (cap:Nat) (w:World) :
  Calls Tryz.prog 297 #[.slice p 0 cap] w fun e w'=>e=.returned (.tuple #[])/\w'=w:=AnyM.slices_Sort_int_none Tryz.laysSlM5_f297 p cap w
end Go.Proofs
namespace Go.Proofs.YtafhpamnegmilaaGreatDoor
open Go Go.RowKit Go.Shelf
def RegsAt (W:World) (g:Nat) (r:List Nat):Prop:=∃ cs fz,W.heap[g]? = some (.cells cs 5 fz)/\(∀ (j x:Nat),r[j]? = some x->cs[j]? = some (Value.int .u8 (x:Int)))/\(fz=(0,0)\/r.length<=fz.1)
theorem RegsAt.lt {W:World} {g:Nat} {r:List Nat} (h:RegsAt W g r):g<W.heap.size:=by
 obtain⟨cs,B,A,-⟩:=h;exact (Array.getElem?_eq_some_iff.1 A).1
theorem RegsAt.cell {W:World} {g:Nat} {r:List Nat} (h:RegsAt W g r) {j x:Nat} (C:r[j]? = some x):W.cell? ⟨g,j,none⟩=some (.int .u8 (x:Int)):=by
 obtain⟨cs,D,A,B,-⟩:=h;simp[World.cell?,A,B j x C]
theorem RegsAt.frozen {W:World} {g:Nat} {r:List Nat} (h:RegsAt W g r) {j x:Nat} (C:r[j]? = some x):W.frozen? ⟨g,j,none⟩=false:=by
 obtain⟨cs,D,A,E,B⟩:=h;have F:=(List.getElem?_eq_some_iff.1 C).1;rcases B with rfl | B
 ·simp[World.frozen?,A]
 ·simp[World.frozen?,A];omega
theorem RegsAt.block {W A:World} {g:Nat} {r:List Nat} (h:RegsAt W g r) (E:A.heap[g]? = W.heap[g]?):RegsAt A g r:=by
 obtain⟨cs,B,C,D⟩:=h;exact⟨cs,B,E.trans C,D⟩
theorem RegsAt.grown {W B:World} {g:Nat} {r:List Nat} {row:Option Nat} (h:RegsAt W g r) (C:W.grownBy B row) (A:some g≠row):RegsAt B g r:=h.block (C.block g h.lt A)
theorem RegsAt.go {W A:World} {g:Nat} {r:List Nat} (h:RegsAt W g r) (B:Bw W A):RegsAt A g r:=h.block (B.block g h.lt)
theorem RegsAt.set {W:World} {g:Nat} {r:List Nat} (h:RegsAt W g r) (p k:Nat):RegsAt (W.setCell ⟨g,p,none⟩ (.int .u8 (k:Int))) g (r.set p k):=by
 obtain⟨cs,E,F,D,G⟩:=h;refine⟨_,E,hSk F _,fun j x A=>?_,by rw[List.length_set];exact G⟩;rw[List.getElem?_set] at A;rw[Array.getElem?_setIfInBounds];by_cases C:p=j
 ·subst C
  by_cases B:p<r.length
  ·rw[if_pos rfl,if_pos B] at A
   cases A
   have:=D p _ (List.getElem?_eq_getElem B);rw[if_pos rfl,if_pos (Array.getElem?_eq_some_iff.1 this).1]
  ·rw[if_pos rfl,if_neg B] at A
   cases A
 ·rw[if_neg C] at A
  rw[if_neg C];exact D j x A
theorem RegsAt.other {W:World} {g b o:Nat} {r:List Nat} (h:RegsAt W g r) (A:b≠g) (v:Value):RegsAt (W.setCell ⟨b,o,none⟩ v) g r:=h.block (jae (p:=⟨b,o,none⟩) A v)
theorem jm5 (a b:Int) (w:World):Calls Tryz.prog 244 #[.int .u8 a,.int .u8 b] w fun e w'=>e=.returned (.int .u8 (max a b))/\w'=w:=by
 go_enter Tryz.func244,Tryz.ntmps244;go_wp2;go_ret;exact⟨rfl,rfl⟩
theorem jqh (n:Int) (w:World) (B:0<=n) (C:n<=18446744073709551615):Calls Tryz.prog 251 #[.int .u64 n] w fun e w'=>e=.returned (.int .i64 (64-(Lib.bitLen n.toNat:Int)))/\w'=w:=by
 have A:=Tryz.bits_LeadingZeros64 n w B C;generalize Lib.bitLen n.toNat=m at A ⊢;go_enter Tryz.func251,Tryz.ntmps251;go_wp2_with (go_at_call 254;refine A.mono ?_;rintro e w' ⟨rfl,rfl⟩);go_ret;exact⟨rfl,rfl⟩
theorem je9 (m:Nat):IntKind.u64.wrap (m:Int)=((m % 2^64:Nat):Int):=by simp[IntKind.wrap,IntKind.bits,IntKind.signed]
theorem jbD (m:Nat) (h:m<2^63):wrap64 (m:Int)=m:=by unfold wrap64;omega
theorem jqd (b:Nat) (n:Int) (w:World) (Q:3<=b) (L:b<=8) (J:U64 n):Calls Tryz.prog 246 #[.int .i64 b,.int .u64 n] w fun e w'=>e=.returned (.tuple #[.int .i64 (jna b n.toNat:Nat),.int .i64 (jcU b n.toNat:Nat)])/\w'=w:=by
 obtain⟨m,rfl⟩:=Int.eq_ofNat_of_zero_le J.1;have O:m<2^64:=by have:=J.2;omega
 rw[Int.toNat_natCast];have C:∀ w,Calls Tryz.prog 195 #[.int .i64 b] w fun e w'=>e=.returned (.bool true)/\w'=w:=fun w=>(jd3 b w).mono fun e w' ⟨M,N⟩=>⟨by rw[M];simp[jbP];omega,N.symm⟩
 have P:IntKind.u64.wrap ((m:Int)*2^b)=((m*2^b % 2^64:Nat):Int):=by
  rw[<- je9];congr 1
 have I:wrap64 ((m:Int) / 2^(64-b))=((jna b m:Nat):Int):=by
  have M:=jkm b m L O;have N:2^b<=2^8:=Nat.pow_le_pow_right (by omega) L;rw[<- jbD (jna b m) (by omega)];unfold jna;congr 1
 have F:jcU b m=if m*2^b % 2^64=0 then 65-b else 65-Lib.bitLen (m*2^b % 2^64):=rfl
 have A:m*2^b % 2^64<2^64:=Nat.mod_lt _ (by decide);generalize m*2^b % 2^64=o at P F A;generalize jna b m=q at I ⊢;generalize jcU b m=k at F ⊢;have G:=Lib.hid F;clear F J O;by_cases E:o=0
 ·subst E
  have B:Hid (((65:Int)-(b:Int))=(k:Int)):=by have:=G.out;simp at this;show _=_;omega
  go_enter Tryz.func246,Tryz.ntmps246;go_wp2_with (go_at_call 195;refine (C _).mono ?_;rintro e w' ⟨rfl,rfl⟩);go_ret2;exact⟨by rw[<- B.out,<- I];rfl,rfl⟩
 ·have S:((o:Int) != 0)=true:=by rw[bne_iff_ne];omega
  have H:=jqh (o:Int) w (by omega) (by omega);rw[Int.toNat_natCast] at H;have D:=jfW o A E;have B:Hid ((64-(Lib.bitLen o:Int))+1=(k:Int)):=by have:=G.out;rw[if_neg E] at this;show _=_;omega
  generalize Lib.bitLen o=z at H D B;have R:(z:Int)<=64:=by omega
  clear G A E;go_enter Tryz.func246,Tryz.ntmps246;go_wp2_with (first | (go_at_call 195;refine (C _).mono ?_;rintro e w' ⟨rfl,rfl⟩) | (go_at_call 251;refine H.mono ?_;rintro e w' ⟨rfl,rfl⟩));go_ret2;exact⟨by rw[<- B.out,<- I];rfl,rfl⟩
end Go.Proofs.YtafhpamnegmilaaGreatDoor
namespace Go.Proofs.YtafhpamnegmilaaGreatDoor
open Go Go.RowKit
structure GW (w:World):Prop where
 utf8:Lib.Utf8Tabs 2 3 w
 maxLen:∃ m,w.cell? ⟨1,0,none⟩=some (.int .i64 m)
 size:4<=w.heap.size
theorem GW.below {w w':World} (h:GW w) (A:Bw w w'):GW w' :=
 ⟨Utf8Tabs_below h.utf8 A,let ⟨m,hm⟩:=h.maxLen;⟨m,(A.cell (p:=⟨1,0,none⟩) (by have:=h.size;show 1<w.heap.size;omega)).trans hm⟩,Nat.le_trans h.size A.size⟩
def jbG (c:Int):Bool:=decide (97<=c)&&decide (c<=122)
def jbd (c:Int):Bool:=decide (32<=c)&&(c != 127)
theorem ji8 (c:Int) (w:World):Calls Tryz.prog 148 #[.int .i32 c] w fun e w'=>e=.returned (.bool (jbG c))/\w=w':=by
 by_cases A:97<=c
 ·go_enter Tryz.func148,Tryz.ntmps148
  go_wp2;go_ret;exact⟨by simp[jbG,A],rfl⟩
 ·go_enter Tryz.func148,Tryz.ntmps148
  go_wp2;go_ret;exact⟨by simp[jbG];omega,rfl⟩
theorem jif (c:Int) (w:World):Calls Tryz.prog 149 #[.int .i32 c] w fun e w'=>e=.returned (.bool (jbd c))/\w=w':=by
 by_cases A:32<=c
 ·go_enter Tryz.func149,Tryz.ntmps149
  go_wp2;go_ret;exact⟨by simp[jbd,A],rfl⟩
 ·go_enter Tryz.func149,Tryz.ntmps149
  go_wp2;go_ret;exact⟨by simp[jbd];omega,rfl⟩
def jbQ (s:ByteArray):Bool:=s.size != 0&&decide (s.size<=12)&&(rl s 0).all fun p=>jbG p.2
theorem jpn (s:ByteArray) (w:World) (T:s.size<=maxLen):CR 109 #[.string s] w (.bool (jbQ s)):=by
 unfold maxLen at T;have C:=jbr s;by_cases L:s.size=0
 ·have N:s.toList.isEmpty=true:=by rw[C];simp[L]
  have R:s.toList=[]:=by simpa using N
  clear C;go_enter Tryz.func109,Tryz.ntmps109;go_wp2_with fail;go_ret;exact⟨by simp[jbQ,L],Below.refl _ _⟩
 ·have N:s.toList.isEmpty=false:=by rw[C];simp[L]
  have R:¬ s.toList=[]:=by simpa using N
  clear C;by_cases H:s.size<=12
  ·have S:decide ((12:Int)<s.size)=false:=by simp;omega
   go_enter Tryz.func109,Tryz.ntmps109;go_wp2_with fail;go_loopw [] (fun wr=>∃ A,wr.heap[w.heap.size]? = some (.stringIter s A)/\Bw w wr/\Hid (((rl s 0).all fun p=>jbG p.2)=(rl s A).all fun p=>jbG p.2)) (fun wr=>s.size-wr.iterPos w.heap.size)
   case atStart=>exact⟨0,World.iter_heap w s 0,(Below.refl _ _).alloc (Nat.le_refl _) _,rfl⟩
   case round =>
    obtain⟨A,F,I,M⟩:=hrel;have G:=jax F;by_cases J:A<s.size
    ·obtain⟨U,O,E,D,-,-⟩:=jdG (P:=Tryz.prog) F I (Nat.le_refl _) J
     have B:=Lib.hid (jeX s A J);have V:=jdJ s A J;go_wp2_with (go_at_call 148;refine (ji8 _ _).mono ?_;rintro e w' ⟨rfl,rfl⟩)
     ·go_ret
      exact⟨by have:=M.out;simp_all [jbQ,B.out],D⟩
     ·go_roundw
      case rel=>exact⟨_,E,D,by have:=M.out;rw[B.out] at this;simp_all [Hid]⟩
      case measure=>rw[jax E,G];omega
    ·have O:∀ Q,(Instr.next (.pointer (some ⟨w.heap.size,0,none⟩)) true Q).run Tryz.prog wr=_:=fun Q=>Lib.run_next_end_at wr w.heap.size s A Q F J
     go_wp2_with fail;go_ret;exact⟨by have:=M.out;rw[jgr s A J] at this;simp[jbQ,L,H,this],I⟩
  ·have S:decide ((12:Int)<s.size)=true:=by simp;omega
   go_enter Tryz.func109,Tryz.ntmps109;go_wp2_with fail;go_ret;exact⟨by simp[jbQ,H],Below.refl _ _⟩
def jeZ (s:ByteArray) (p:Nat × Int):Bool:=p.2==65533&&((Lib.decodeGo (s.extract p.1 s.size)).2:Int)==1
def jav (s:ByteArray):Bool:=(rl s 0).all fun p => !jeZ s p
def jcW (s:ByteArray):Int:=if jav s then ((rl s 0).length:Int) else 0
theorem jhH (s:ByteArray) (w:World) (g:s.size<=maxLen) (b:GW w):CR 112 #[.string s] w (.tuple #[.int .i64 (jcW s),.bool (jav s)]):=by
 unfold maxLen at g;go_enter Tryz.func112,Tryz.ntmps112;go_wp2_with fail;go_loopw [4] (fun n wr=>∃ A k,wr.heap[w.heap.size]? = some (.stringIter s A)/\Bw w wr/\n=.int .i64 (k:Nat)/\k<=A/\Hid ((rl s 0).length=k+(rl s A).length/\(jav s=(rl s A).all fun p => !jeZ s p))) (fun _ wr=>s.size-wr.iterPos w.heap.size)
 case atStart=>exact⟨0,0,World.iter_heap w s 0,(Below.refl _ _).alloc (Nat.le_refl _) _,rfl,Nat.le_refl _,by simp[Hid,jav]⟩
 case round =>
  obtain⟨A,k,F,O,rfl,d,H⟩:=hrel;have G:=jax F;by_cases Q:A<s.size
  ·obtain⟨Z,V,D,B,R,-⟩:=jdG (P:=Tryz.prog) F O (Nat.le_refl _) Q
   have C:=Lib.hid (jeX s A Q);have h:=jdJ s A Q;have a:=(b.below B).utf8;have c:Below w.heap.size Z Z:=Below.refl _ _;by_cases I:((Utf8.decode s A).1:Int)=65533
   ·have U:(((Utf8.decode s A).1:Int)==65533)=true:=by simp[I]
    have f:(A:Int)<=s.size:=by omega
    have S:=Lib.hid I;clear I;by_cases J:((Lib.decodeGo (s.extract A s.size)).2:Int)=1
    ·have X:(((Lib.decodeGo (s.extract A s.size)).2:Int)==1)=true:=by simp[J]
     have T:=Lib.hid J;clear J;go_wp2_with (go_at_call 151;refine (Tryz.utf8_DecodeRuneInString _ _ a).mono ?_;rintro e w' ⟨rfl,E⟩);go_ret2;have L:jav s=false:=by rw[H.out.2,C.out];simp[jeZ,S.out,T.out]
     exact⟨by simp[jcW,L],B.trans (E.mono (by have:=B.size;omega))⟩
    ·have X:(((Lib.decodeGo (s.extract A s.size)).2:Int)==1)=false:=by simpa using J
     have T:=Lib.hid J;clear J;go_wp2_with (go_at_call 151;refine (Tryz.utf8_DecodeRuneInString _ _ a).mono ?_;rintro e w' ⟨rfl,E⟩);go_roundw
     case rel=>exact⟨_,k+1,(E.block _ (by rw[R];have:=(Array.getElem?_eq_some_iff.1 F).1;exact this)).trans D,B.trans (E.mono (by have:=B.size;omega)),by go_num,by omega,by have M:=H.out.1;have N:=H.out.2;rw[C.out] at M N;refine⟨by simp at M;omega,by rw[N];simp[jeZ,T.out]⟩⟩
     case measure=>rw[jax ((E.block _ (by rw[R];have:=(Array.getElem?_eq_some_iff.1 F).1;exact this)).trans D),G];omega
   ·have U:(((Utf8.decode s A).1:Int)==65533)=false:=by simpa using I
    have S:=Lib.hid I;clear I;go_wp2_with fail;go_roundw
    case rel=>exact⟨_,k+1,D,B,by go_num,by omega,by have M:=H.out.1;have N:=H.out.2;rw[C.out] at M N;refine⟨by simp at M;omega,by rw[N];simp[jeZ,S.out]⟩⟩
    case measure=>rw[jax D,G];omega
  ·have V:∀ Y,(Instr.next (.pointer (some ⟨w.heap.size,0,none⟩)) true Y).run Tryz.prog wr=_:=fun Y=>Lib.run_next_end_at wr w.heap.size s A Y F Q
   go_wp2_with fail;go_ret2;have L:=H.out;rw[jgr s A Q] at L;simp at L;exact⟨by simp[jcW,L],O⟩
end Go.Proofs.YtafhpamnegmilaaGreatDoor
namespace Go.Proofs.YtafhpamnegmilaaGreatDoor
open Go Go.RowKit Go.Shelf
attribute [local go_sem] Oper.semAt_some
def jbc (s:ByteArray):Bool:=jav s&&decide (jcW s<=24)&&(rl s 0).all fun p=>jbd p.2
theorem jnd (s:ByteArray) (w:World) (S:s.size<=maxLen) (V:GW w):CR 110 #[.string s] w (.bool (jbc s)):=by
 have O:=jhH s w S V;unfold maxLen at S;by_cases M:jav s=true
 ·by_cases T:jcW s<=24
  ·have U:decide ((24:Int)<jcW s)=false:=by simp;omega
   go_enter Tryz.func110,Tryz.ntmps110;go_wp2_with (go_at_call 112;refine O.mono ?_;rintro e w' ⟨rfl,B⟩);go_loopw [] (fun wr=>∃ A,wr.heap[w'.heap.size]? = some (.stringIter s A)/\Bw w' wr/\Hid (((rl s 0).all fun p=>jbd p.2)=(rl s A).all fun p=>jbd p.2)) (fun wr=>s.size-wr.iterPos w'.heap.size)
   case atStart=>exact⟨0,World.iter_heap w' s 0,(Below.refl _ _).alloc (Nat.le_refl _) _,rfl⟩
   case round =>
    obtain⟨A,F,H,L⟩:=hrel;have G:=jax F;have J:=B.size;by_cases I:A<s.size
    ·obtain⟨X,Q,E,D,-,-⟩:=jdG (P:=Tryz.prog) F H (Nat.le_refl _) I
     have C:=Lib.hid (jeX s A I);have Y:=jdJ s A I;go_wp2_with (go_at_call 149;refine (jif _ _).mono ?_;rintro e w' ⟨rfl,rfl⟩)
     ·go_ret
      exact⟨by have:=L.out;simp_all [jbc,C.out],B.trans (D.mono J)⟩
     ·go_roundw
      case rel=>exact⟨_,E,D,by have:=L.out;rw[C.out] at this;simp_all [Hid]⟩
      case measure=>rw[jax E,G];omega
    ·have Q:∀ R,(Instr.next (.pointer (some ⟨w'.heap.size,0,none⟩)) true R).run Tryz.prog wr=_:=fun R=>Lib.run_next_end_at wr w'.heap.size s A R F I
     go_wp2_with fail;go_ret;exact⟨by have:=L.out;rw[jgr s A I] at this;simp[jbc,M,T,this],B.trans (H.mono J)⟩
  ·have U:decide ((24:Int)<jcW s)=true:=by simp;omega
   go_enter Tryz.func110,Tryz.ntmps110;go_wp2_with (go_at_call 112;refine O.mono ?_;rintro e w' ⟨rfl,B⟩);go_ret;exact⟨by simp[jbc];intro _ h;omega,B⟩
 ·have N:jav s=false:=by simpa using M
  clear M;go_enter Tryz.func110,Tryz.ntmps110;go_wp2_with (go_at_call 112;refine O.mono ?_;rintro e w' ⟨rfl,B⟩);go_ret;exact⟨by simp[jbc,N],B⟩
structure Lab where
 name:ByteArray
 value:ByteArray
def Lab.ok (l:Lab):Prop:=l.name.size<4294967281/\l.value.size<4294967281
abbrev ji3:={ l:Lab // l.ok }
def Lab.enc (l:Lab):List Value:=[.string l.name,.string l.value]
def Labs (n₀:Nat) (w:World) (sv:Value) (ls:List Lab):Prop:=SlAt n₀ w sv ls.length (ls.flatMap Lab.enc)
theorem jkf (a:Option Addr) (len cap:Nat) (w:World) :
  Calls Tryz.prog 98 #[.slice a len cap] w fun e w'=>e=.returned (.func (.func 168) #[] #[.pointer (some ⟨w.heap.size,0,none⟩)])/\w'=w.alloc (.cells #[.slice a len cap] 58):=by
 go_enter Tryz.func98,Tryz.ntmps98;go_wp2;go_ret;exact⟨rfl,rfl⟩
theorem jri (A:List Lab) (j:Nat) (x:Lab) (h:A[j]? = some x):(A.flatMap Lab.enc)[j*2]? = some (.string x.name)/\(A.flatMap Lab.enc)[j*2+1]? = some (.string x.value):=by
 induction A generalizing j with
 | nil=>simp at h
 | cons y ys ih =>
  cases j with
  | zero=>simp at h;subst h;simp[Lab.enc]
  | succ j =>
   have:=ih j (by simpa using h);rw[show (j+1)*2=j*2+2 by omega];simp only[List.flatMap_cons,Lab.enc,List.cons_append,List.nil_append,List.getElem?_cons_succ];exact this
theorem jtZ (A:List Lab):(A.flatMap Lab.enc).length=A.length*2:=by
 induction A with
 | nil=>rfl
 | cons y ys ih=>simp[List.flatMap_cons,Lab.enc,ih];omega
theorem Labs.cells {E:Nat} {w:World} {b off cap:Nat} {A:List Lab} (h:Labs E w (.slice (some ⟨b,off,none⟩) A.length cap) A) (j:Nat) (x:Lab) (D:A[j]? = some x) :
  b<E/\w.cell? ⟨b,off+j*2,none⟩=some (.string x.name)/\w.cell? ⟨b,off+j*2+1,none⟩=some (.string x.value):=by
 rcases h with⟨h,_⟩ | ⟨H,F,C,e,G,B⟩
 ·simp at h
 ·simp only[Value.slice.injEq,Option.some.injEq,Addr.mk.injEq] at e
  obtain⟨⟨rfl,rfl,_⟩,_,rfl⟩:=e;have I:j<A.length:=(List.getElem?_eq_some_iff.1 D).1;have:=jri A j x D;rw[jtZ] at B;exact⟨G,(B (j*2) (by omega)).trans this.1,(B (j*2+1) (by omega)).trans this.2⟩
theorem jn1 (l P G b off cap:Nat) (B:List ji3) (H:B.length<4294967281) (J R:List ji3->World->Prop)
  (Y:∀ A x W,J A W->A.length<B.length->YieldAt Fence.wide 7 Tryz.prog l #[.agg #[.string x.1.name,.string x.1.value]] W fun e D =>
   (e=.returned (.bool true)/\J (A++[x]) D/\Below G W D)\/(e=.returned (.bool false)/\R (A++[x]) D))
  (W:World) (V:AbidesFrom W.heap.size J) (d:G<=W.heap.size) (U:W.cell? ⟨P,0,none⟩=some (.slice (some ⟨b,off,none⟩) B.length cap)) (Z:Labs G W (.slice (some ⟨b,off,none⟩) (B.map (·.1)).length cap) (B.map (·.1))) (T:J [] W) :
  CallsIn Fence.wide 8 Tryz.prog 168 #[.func (.yield l) #[] #[],.pointer (some ⟨P,0,none⟩)] W fun e D=>(∃ v,e=.returned v) /\
   ((∃ S,S=B/\J S D)\/(∃ A,A <+: B/\R A D)):=by
 refine callsIn_of_wp Tryz.func168 rfl trivial ?_ rfl;simp only[Tryz.ntmps168,List.size_toArray,List.length_cons,List.length_nil,Nat.reduceAdd,Nat.reduceSub,Array.replicate_succ,Array.replicate_zero,List.push_toArray,List.append_toArray,List.nil_append,List.cons_append];gi_wp2;gi_loopw [7] (fun i wr=>∃ k:Nat,k<=B.length/\i=.int .i64 k/\J (B.take k) wr/\Below G W wr) (fun i _=>B.length-(intOf i).toNat)
 case atStart=>exact⟨0,Nat.zero_le _,rfl,T,Below.refl _ _⟩
 case round =>
  obtain⟨k,m,rfl,E,C⟩:=hrel;by_cases N:k<B.length
  ·obtain⟨x,O⟩:∃ x,B[k]? = some x:=⟨_,List.getElem?_eq_getElem N⟩
   obtain⟨j,a,c⟩:=Labs.cells (SlAt.below C Z) k x.1 (by simp[O]);have L:=V _ _ (wr.alloc (.cells #[.string x.1.name,.string x.1.value] 57)) none E (World.grownBy_alloc _ _ none) (fun r e=>by cases e);obtain⟨g,tmps,assign,body,n,X⟩:=Y _ x _ L (by simp;omega);have Q:=Lib.hid O;clear O;gi_wp2;refine X.mono ?_;rintro e f (⟨rfl,I,M⟩ | ⟨rfl,F⟩)
   ·gi_wp2
    go_roundw
    case rel=>exact⟨k+1,by omega,by simp,by rw[List.take_add_one,Q.out];exact I,C.trans (((Below.refl G wr).alloc (by have:=C.size;omega) _).trans M)⟩
    case measure=>simp[intOf];omega
   ·gi_wp2
    refine bodyPost_ret (results_none rfl _ _ _) rfl ?_;exact⟨⟨_,rfl⟩,.inr ⟨_,by have h:=List.take_prefix (k+1) B;rwa [List.take_add_one,Q.out] at h,F⟩⟩
  ·obtain rfl:k=B.length:=by omega
   gi_wp2
   go_end0;exact⟨⟨_,rfl⟩,.inl ⟨_,List.take_length,E⟩⟩
theorem ji0 (l B:Nat) (J:List ji3->World->Prop) (W:World) (E:W.cell? ⟨B,0,none⟩=some (.slice none 0 0)) (D:J [] W) :
  CallsIn Fence.wide 8 Tryz.prog 168 #[.func (.yield l) #[] #[],.pointer (some ⟨B,0,none⟩)] W fun e C=>(∃ v,e=.returned v)/\J [] C:=by
 refine callsIn_of_wp Tryz.func168 rfl trivial ?_ rfl;simp only[Tryz.ntmps168,List.size_toArray,List.length_cons,List.length_nil,Nat.reduceAdd,Nat.reduceSub,Array.replicate_succ,Array.replicate_zero,List.push_toArray,List.append_toArray,List.nil_append,List.cons_append];gi_wp2;gi_loopw [7] (fun i wr=>i=.int .i64 0/\J [] wr) (fun _ _=>0)
 case atStart=>exact⟨rfl,D⟩
 case round =>
  obtain⟨rfl,A⟩:=hrel;gi_wp2;go_end0;exact⟨⟨_,rfl⟩,A⟩
theorem jgX (D G:Nat) (M:Value) (B:List ji3) (A:B.length<4294967281) (w:World) (H:D<w.heap.size) (F:G<=w.heap.size)
  (S:w.cell? ⟨D,0,none⟩=some M) (P:Labs G w M (B.map (·.1))) :
  SeqStopsK Fence.wide 8 Tryz.prog 168 #[.pointer (some ⟨D,0,none⟩)] (fun x:ji3=>#[.agg #[.string x.1.name,.string x.1.value]]) (Below G) (fun Y=>Y=B) (fun L=>L <+: B) B.length w:=fun l J O W I Q _ R N=>by
 have C:=(I.cell (p:=⟨D,0,none⟩) H).trans S;have E:Labs G W M (B.map (·.1)):=SlAt.below (I.mono F) P;rcases id E with⟨rfl,X,_⟩ | ⟨b,off,cap,rfl,a,T⟩
 ·obtain rfl:B=[]:=by simpa using X
  exact (ji0 l D J W C N).mono fun e Z ⟨U,V⟩=>⟨U,.inl ⟨_,rfl,V⟩⟩
 ·rw[List.length_map] at C
  exact jn1 l D G b off cap B A J O R W Q (Nat.le_trans F I.size) C E N
def jfO (a b:ByteArray):Bool:=Op.bytesLess a.toList b.toList||a.toList==b.toList
def jdF:ByteArray->List Lab->Bool
 | _,[]=>true
 | before,x::xs=>(jbQ x.name && !jfO x.name before&&jbc x.value)&&jdF x.name xs
def jeF:ByteArray->List Lab->ByteArray
 | before,[]=>before
 | _,x::xs=>jeF x.name xs
theorem jpo (b:ByteArray) (A:List Lab) (x:Lab):jdF b (A++[x])=(jdF b A&&(jbQ x.name && !jfO x.name (jeF b A)&&jbc x.value)):=by
 induction A generalizing b with
 | nil=>simp[jdF,jeF]
 | cons y ys ih=>simp[jdF,jeF,ih,Bool.and_assoc]
theorem jlQ (b:ByteArray) (A:List Lab) (x:Lab):jeF b (A++[x])=x.name:=by
 induction A generalizing b with
 | nil=>rfl
 | cons y ys ih=>simp[jeF,ih]
theorem jlP (b:ByteArray) (B C:List Lab) (h:B <+: C) (A:jdF b B=false):jdF b C=false:=by
 obtain⟨t,rfl⟩:=h
 induction B generalizing b with
 | nil=>simp[jdF] at A
 | cons y ys ih =>
  simp only[jdF,List.cons_append] at A ⊢;rcases Bool.and_eq_false_iff.1 A with h | h
  ·simp[h]
  ·simp[ih _ h]
def jal (ls:List Lab):Bool:=ls.length != 0&&decide (ls.length<=6)&&jdF (⟨#[]⟩:ByteArray) ls
theorem jil (L:Option Addr) (cap:Nat) (G:List ji3) (w:World) (hL:Labs w.heap.size w (.slice L G.length cap) (G.map (·.1))) (hG:GW w) (h1:decide ((6:Int)<G.length)=false) (h2:((G.length:Int)==0)=false) (h3:G.length<4294967281) :
  CR 61 #[.slice L G.length cap] w (.bool (jdF (⟨#[]⟩:ByteArray) (G.map (·.1)))):=by
 refine jay Tryz.func61 rfl ?_;simp only[Tryz.ntmps61,List.size_toArray,List.length_cons,List.length_nil,Nat.reduceAdd,Nat.reduceSub,Array.replicate_succ,Array.replicate_zero,List.push_toArray,List.append_toArray,List.nil_append,List.cons_append];go_wp2_with fail;go_step3;go_wp2_with fail;go_step3;go_wp2_with (go_at_call 98;refine (jkf _ _ _ _).mono ?_;rintro e w' ⟨rfl,rfl⟩);have z:=Boxed.new w 4 (.bool true);have j:=Boxed.new (w.alloc (.cells #[.bool true] 4)) 9 (.string (⟨#[]⟩:ByteArray));have k:=Boxed.new ((w.alloc (.cells #[.bool true] 4)).alloc (.cells #[.string (⟨#[]⟩:ByteArray)] 9)) 58 (.slice L G.length cap);have N:Bw w (((w.alloc (.cells #[.bool true] 4)).alloc (.cells #[.string (⟨#[]⟩:ByteArray)] 9)).alloc (.cells #[.slice L G.length cap] 58)):=(((Below.refl _ w).alloc (Nat.le_refl _) _).alloc (by simp) _).alloc (by simp;omega) _;simp only[World.size_alloc] at j k;have V:=(z.alloc (.cells #[.string (⟨#[]⟩:ByteArray)] 9)).alloc (.cells #[.slice L G.length cap] 58);have U:=j.alloc (.cells #[.slice L G.length cap] 58);have J:(((w.alloc (.cells #[.bool true] 4)).alloc (.cells #[.string (⟨#[]⟩:ByteArray)] 9)).alloc (.cells #[.slice L G.length cap] 58)).heap.size=w.heap.size+3:=by simp
 generalize (((w.alloc (.cells #[.bool true] 4)).alloc (.cells #[.string (⟨#[]⟩:ByteArray)] 9)).alloc (.cells #[.slice L G.length cap] 58))=W0 at V U k N J ⊢;clear z j
 refine je8 57 (fun x:ji3=>#[.string x.1.name,.string x.1.value]) 5 (gf:=168) (lb:=#[.pointer (some ⟨w.heap.size+2,0,none⟩)]) rfl (enters_of Tryz.func168 (by kernel_rfl) rfl)
  (jgX (w.heap.size+2) w.heap.size _ G h3 W0 (by omega) (by omega) k.cell (SlAt.below N hL)) (by omega) (Below.refl _ _) (fun _=>rfl)
  (fun C W=>Boxed W w.heap.size 4 (.bool true)/\Boxed W (w.heap.size+1) 9 (.string (jeF ⟨#[]⟩ (C.map (·.1))))/\jdF ⟨#[]⟩ (C.map (·.1))=true/\Bw w W)
  (fun c C W=>Boxed W w.heap.size 4 (.bool false)/\(c=.exit 0/\jdF ⟨#[]⟩ (C.map (·.1))=false)/\Bw w W)
  ((jdq _ _ _ _).and ((jdq _ _ _ _).and ((ownFrom_pure _ _).and (ownFrom_below (Nat.le_refl _) (by omega)))))
  (fun c=>(jdq _ _ _ _).and ((ownFrom_pure _ _).and (ownFrom_below (Nat.le_refl _) (by omega))))
  ⟨V,U,rfl,N⟩ ?assign ?body ?done ?stop
 case assign =>
  rintro l C x W K ⟨B,E,R,H⟩ hs hK;simp only[List.zip_toArray,List.zip_cons_cons,List.zip_nil_right,List.size_toArray,List.foldl_toArray',List.foldl_cons,List.foldl_nil,List.setIfInBounds_toArray,List.set_cons_succ,List.set_cons_zero] at hK ⊢;gi_wp2;exact⟨B.alloc _,E.alloc _,R,H.alloc H.size _⟩
 case body =>
  rintro l C x W g ⟨B,E,R,H⟩ aa Y v ab;have c0:=cCc v 0;have c1:=cCc v 1;have c2:=E.cell;have c3:=B.cell;have c4:=B.frozen;have c5:=E.frozen;have q:GW W:=hG.below H;have o:=H.size;simp at c0 c1;simp only[List.zip_toArray,List.zip_cons_cons,List.zip_nil_right,List.size_toArray,List.foldl_toArray',List.foldl_cons,List.foldl_nil,List.setIfInBounds_toArray,List.set_cons_succ,List.set_cons_zero];generalize hlast:jeF ⟨#[]⟩ (C.map (·.1))=last at c2 E;have T:=jpo ⟨#[]⟩ (C.map (·.1)) x.1;rw[R,hlast] at T;have d:=jlQ ⟨#[]⟩ (C.map (·.1)) x.1;have h:=Lib.hid T;have HL:=Lib.hid d;have b:=jpn x.1.name W (by have:=x.2.1;unfold maxLen;omega);clear T d hlast J v;have a:=B.lt;gi_wp2_with fail;refine⟨trivial,(CallsIn.inRound l (callsIn_wide.2 b)).mono ?_⟩;rintro e y ⟨rfl,A⟩;have d0:=(A.cell (p:=⟨g,0,none⟩) Y).trans c0;have d1:=(A.cell (p:=⟨g,1,none⟩) Y).trans c1;have X:=jcT A a B;have m:=jcT A E.lt E;have d2:=m.cell;have d3:=X.cell;have d4:=X.frozen;have d5:=m.frozen;have ac:=A.size;have O:Below w.heap.size W y:=A.mono o;have Q:KeepsFrom W0.heap.size W y:=jgZ A (Nat.le_refl _);clear b;by_cases r:jbQ x.1.name=true
  ·by_cases S:(Op.bytesLess x.1.name.toList last.toList||x.1.name.toList==last.toList)=true
   ·gi_wp2_with fail
    refine⟨trivial,?_⟩;gi_wp2_with fail;exact⟨Q.trans ((KeepsOthers.setCell _ _ _).from _),X.set _,⟨rfl,by rw[List.map_append,List.map_singleton,h.out,jfO,S];simp⟩,H.trans (O.setCell (p:=⟨w.heap.size,0,none⟩) (Nat.le_refl _) _)⟩
   ·have Z:(Op.bytesLess x.1.name.toList last.toList||x.1.name.toList==last.toList)=false:=by simpa using S
    clear S;have f:=jnd x.1.value y (by have:=x.2.2;unfold maxLen;omega) (q.below A);gi_wp2_with fail;refine⟨trivial,(CallsIn.inRound l (callsIn_wide.2 f)).mono ?_⟩;rintro e w2 ⟨rfl,F⟩;have f0:=(F.cell (p:=⟨g,0,none⟩) (by show g<_;omega)).trans d0;have i:=jcT F (by omega) X;have n:=jcT F (by have:=E.lt;omega) m;have k2:=n.cell;have k3:=i.cell;have k4:=i.frozen;have k5:=n.frozen;have I:Below w.heap.size W w2:=O.trans (F.mono (by omega));have M:KeepsFrom W0.heap.size W w2:=Q.trans (jgZ F (Nat.le_refl _));clear f;by_cases t:jbc x.1.value=true
    ·gi_wp2_with fail
     refine⟨M.trans ((KeepsOthers.setCell _ _ _).from _),I.setCell (p:=⟨w.heap.size+1,0,none⟩) (Nat.le_succ _) _,i.other (by omega) _,?_,?_,H.trans (I.setCell (p:=⟨w.heap.size+1,0,none⟩) (Nat.le_succ _) _)⟩
     ·rw[List.map_append,List.map_singleton,HL.out];exact n.set _
     ·rw[List.map_append,List.map_singleton,h.out,jfO,Z,r,t];rfl
    ·have u:jbc x.1.value=false:=by simpa using t
     clear t;gi_wp2_with fail;exact⟨M.trans ((KeepsOthers.setCell _ _ _).from _),i.set _,⟨rfl,by rw[List.map_append,List.map_singleton,h.out,u];simp⟩,H.trans (I.setCell (p:=⟨w.heap.size,0,none⟩) (Nat.le_refl _) _)⟩
  ·have s:jbQ x.1.name=false:=by simpa using r
   clear r;gi_wp2_with fail;refine⟨trivial,?_⟩;gi_wp2_with fail;exact⟨Q.trans ((KeepsOthers.setCell _ _ _).from _),X.set _,⟨rfl,by rw[List.map_append,List.map_singleton,h.out,s];simp⟩,H.trans (O.setCell (p:=⟨w.heap.size,0,none⟩) (Nat.le_refl _) _)⟩
 case done =>
  rintro D W hD ⟨B,E,R,H⟩ hK;have c3:=B.cell;have P:w.heap.size<=D:=by omega
  clear J;go_wp2_with fail;refine jaX hK (results_tmp rfl _ _ _) ⟨by rw[R];rfl,jgy H P hK⟩
 case stop =>
  rintro D c C W hD hp ⟨B,⟨rfl,R⟩,H⟩ hK;have c3:=B.cell;have P:w.heap.size<=D:=by omega
  clear J;go_wp2_with fail;refine jaX hK (results_tmp rfl _ _ _) ⟨by rw[jlP _ _ _ (hp.map _) R];rfl,jgy H P hK⟩
theorem jbA (C:Option Addr) (cap:Nat) (A:List ji3) (w:World) (L:Labs w.heap.size w (.slice C A.length cap) (A.map (·.1))) (J:GW w) (I:A.length<4294967281) :
  CR 61 #[.slice C A.length cap] w (.bool (jal (A.map (·.1)))):=by
 by_cases B:A.length=0
 ·have E:((A.length:Int)==0)=true:=by simp[B]
  have G:=Lib.hid B;clear B;refine jay Tryz.func61 rfl ?_;simp only[Tryz.ntmps61,List.size_toArray,List.length_cons,List.length_nil,Nat.reduceAdd,Nat.reduceSub,Array.replicate_succ,Array.replicate_zero,List.push_toArray,List.append_toArray,List.nil_append,List.cons_append];go_wp2_with fail;go_step3;go_wp2_with fail;exact jck (results_tmp rfl _ _ _) rfl ⟨by simp[jal,G.out],Below.refl _ _⟩
 ·have E:((A.length:Int)==0)=false:=by rw[beq_eq_false_iff_ne];omega
  by_cases F:A.length<=6
  ·have D:decide ((6:Int)<A.length)=false:=by simp;omega
   refine (jil C cap A w L J D E I).mono ?_;rintro e w' ⟨rfl,M⟩;exact⟨by simp[jal,F,B],M⟩
  ·have D:decide ((6:Int)<A.length)=true:=by simp;omega
   have H:=Lib.hid F;refine jay Tryz.func61 rfl ?_;simp only[Tryz.ntmps61,List.size_toArray,List.length_cons,List.length_nil,Nat.reduceAdd,Nat.reduceSub,Array.replicate_succ,Array.replicate_zero,List.push_toArray,List.append_toArray,List.nil_append,List.cons_append];go_wp2_with fail;go_step3;go_wp2_with fail;exact jck (results_tmp rfl _ _ _) rfl ⟨by simp[jal,H.out],Below.refl _ _⟩
end Go.Proofs.YtafhpamnegmilaaGreatDoor
namespace Go.Proofs.YtafhpamnegmilaaGreatDoor
open Go Go.RowKit Go.Shelf
def jbp (l:List (Nat × Int)):List UInt8:=l.flatMap fun p=>(if p.2==44||p.2==92 then [92] else [])++Lib.encodeRune p.2
end Go.Proofs.YtafhpamnegmilaaGreatDoor
namespace Go.Proofs.YtafhpamnegmilaaGreatDoor
open Go Go.RowKit Go.Shelf
deriving instance DecidableEq for Lab
def jau:List Lab->List Lab->Bool
 | [],bs=>decide (0<bs.length)
 | _::_,[]=>false
 | x::xs,y::ys=>if x.name=y.name/\x.value=y.value then jau xs ys else if x.name≠y.name then Op.bytesLess x.name.toList y.name.toList else Op.bytesLess x.value.toList y.value.toList
theorem jlT {B:Nat} {w:World} {a:Option Addr} {len:Nat} {l:List Lab} (h:SlE Lab.enc 2 B w a len l) {j:Nat} (D:j<len) :
  ∃ x b off,l[j]? = some x/\a=some ⟨b,off,none⟩/\b<B/\w.cell? ⟨b,off+j*2,none⟩=some (.string x.name)/\w.cell? ⟨b,off+j*2+1,none⟩=some (.string x.value):=by
 obtain⟨x,b,off,E,e,C,A⟩:=h.at D;exact⟨x,b,off,E,e,C,A 0 (by omega),A 1 (by omega)⟩
theorem jc0 (a b:ByteArray):(a.toList==b.toList)=decide (a=b):=by
 by_cases h:a=b
 ·subst h;simp
 ·rw[decide_eq_false h,beq_eq_false_iff_ne]
  intro e;apply h;rw[Lib.toList_data,Lib.toList_data] at e;exact ByteArray.ext (Array.ext' e)
theorem jat {α:Type} {l:List α} {k:Nat} {x:α} (h:l[k]? = some x):l.drop k=x::l.drop (k+1):=by
 obtain⟨A,rfl⟩:=List.getElem?_eq_some_iff.1 h;exact List.drop_eq_getElem_cons A
theorem jqJ:Tryz.prog.eqGuardType Tryz.prog.depth 57=false:=by kernel_rfl
theorem jqL (A B C D:ByteArray) (w:World):(binOp .eql 57 (.agg #[.string A,.string B]) (.agg #[.string C,.string D])).run Tryz.prog w=.ok (.bool (A.toList==C.toList&&B.toList==D.toList)) w:=by
 have E:Tryz.prog.underlying 57=some (.struct (Tryz.prog.fieldsOf 57)):=by kernel_rfl
 have F:Tryz.prog.stoodInHeld 57=false:=by kernel_rfl
 have G : (Tryz.prog.fieldsOf 57).toList = [{ name := "Name", type := 9, offset := 0, embedded := false, tag := "", pkgPath := "", byteOffset := 0 }, { name := "Value", type := 9, offset := 1, embedded := false, tag := "", pkgPath := "", byteOffset := 16 }] := by kernel_rfl
 rw[run_eql_struct,run_equalIn_agg w 9999 _ _ _ E F,G]
 cases ha:(A.toList==C.toList)<;>cases H:(B.toList==D.toList)<;>simp[go_sem,ha,H,Tryz.underlying9]
theorem jdN (a1:Option Addr) (A X:Nat) (M:List Lab) (a2:Option Addr) (B Y:Nat) (J:List Lab) (w:World) (Z:SlE Lab.enc 2 w.heap.size w a1 A M) (a:SlE Lab.enc 2 w.heap.size w a2 B J) (hm:A<=maxLen) (s:B<=maxLen) :
  CR 57 #[.slice a1 A X,.slice a2 B Y] w (.bool (jau M J)):=by
 unfold maxLen at hm s;have E1:=Lib.hid Z.1;have E2:=Lib.hid a.1;go_enter Tryz.func57,Tryz.ntmps57;go_wp2_with fail;go_loopw [4,10] (fun _ i wr=>∃ (k:Nat),i=.int .i64 k/\k<=A/\k<=B/\Bw w wr/\Hid (jau M J=jau (M.drop k) (J.drop k))) (fun _ i _=>A-(intOf i).toNat)
 case atStart=>exact⟨0,rfl,Nat.zero_le _,Nat.zero_le _,Below.refl _ _,rfl⟩
 case round =>
  obtain⟨k,rfl,hk,ae,T,R⟩:=hrel;have f:=T.size;by_cases r:k<A
  ·obtain⟨x,b1,o1,j,m,ac,p0,p1⟩:=jlT (Z.below T) r
   subst m;by_cases e:k<B
   ·obtain⟨y,S,l,hy,n,ad,v,z⟩:=jlT (a.below T) e
    subst n;obtain⟨F,I⟩:=x;obtain⟨D,H⟩:=y;dsimp only at p0 p1 v z;have t0:((k:Int)==(B:Int))=false:=by rw[beq_eq_false_iff_ne];omega
    have N:Hid (jau M J=if F=D/\I=H then jau (M.drop (k+1)) (J.drop (k+1)) else if F≠D then Op.bytesLess F.toList D.toList else Op.bytesLess I.toList H.toList):=by
     rw[Hid,R.out,jat j,jat hy];rfl
    clear j hy Z a R;have i0:(0:Int)<=(k:Int):=by omega
    have i1:(k:Int)<(A:Int):=by omega
    have i2:(k:Int)<(B:Int):=by omega
    obtain⟨V,aa,c,O,t⟩:=jaf wr #[.string F,.string I] 57;have u0:V.cell? ⟨S,l+k*2,none⟩=some (.string D):=(O.cell (p:=⟨S,l+k*2,none⟩) (by show S<_;omega)).trans v;have u1:V.cell? ⟨S,l+k*2+1,none⟩=some (.string H):=(O.cell (p:=⟨S,l+k*2+1,none⟩) (by show S<_;omega)).trans z;obtain⟨g,ab,Q,b,u⟩:=jaf V #[.string D,.string H] 57;have d:=(b.block wr.heap.size (by omega)).trans c;have o:Bw wr g:=O.trans (b.mono (by omega));obtain⟨r0,r1⟩:=cl2 d;have r2:g.cell? ⟨V.heap.size,0,none⟩=some (.string D):=cCc Q 0;have r3:g.cell? ⟨V.heap.size,1,none⟩=some (.string H):=cCc Q 1;clear c d Q v z t u;have P:Bw w g:=T.trans (o.mono f);have n2:=jqJ;have L:=jc0 F D;have U:=jc0 I H;by_cases C:F=D
    ·by_cases G:I=H
     ·have n1:∀ w,(binOp .eql 57 (.agg #[.string F,.string I]) (.agg #[.string D,.string H])).run Tryz.prog w=.ok (.bool true) w:=fun w=>by rw[jqL,L,U];simp[C,G]
      have E:=Lib.hid (And.intro C G);clear C G L U;go_wp2_with fail
      all_goals go_roundw
      case rel=>exact⟨k+1,by go_num,by omega,by omega,P,by rw[Hid,N.out,if_pos E.out]⟩
      case measure=>simp[intOf];omega
     ·have n1:∀ w,(binOp .eql 57 (.agg #[.string F,.string I]) (.agg #[.string D,.string H])).run Tryz.prog w=.ok (.bool false) w:=fun w=>by rw[jqL,L,U];simp[G]
      have n3:(F.toList==D.toList)=true:=by rw[L];simp[C]
      have E:Hid (¬ (F=D/\I=H)/\¬ (F≠D)):=⟨fun h=>G h.2,fun h=>h C⟩;clear C G L U;go_wp2_with fail;go_ret;exact⟨by rw[N.out,if_neg E.out.1,if_neg E.out.2];rfl,P⟩
    ·have n1:∀ w,(binOp .eql 57 (.agg #[.string F,.string I]) (.agg #[.string D,.string H])).run Tryz.prog w=.ok (.bool false) w:=fun w=>by rw[jqL,L,U];simp[C]
     have n3:(F.toList==D.toList)=false:=by rw[L];simp[C]
     have E:Hid (¬ (F=D/\I=H)/\(F≠D)):=⟨fun h=>C h.1,C⟩;clear C L U;go_wp2_with fail;go_ret;exact⟨by rw[N.out,if_neg E.out.1,if_pos E.out.2];rfl,P⟩
   ·have t0:((k:Int)==(B:Int))=true:=by rw[beq_iff_eq];omega
    have i0:(0:Int)<=(k:Int):=by omega
    have i1:(k:Int)<(A:Int):=by omega
    have N:Hid (jau M J=false):=by
     rw[Hid,R.out,jat j,(List.drop_eq_nil_of_le (by rw[<- E2.out];omega):J.drop k=[])];rfl
    have q:Bw w (wr.alloc (.cells #[.string x.name,.string x.value] 57)):=T.alloc f _;clear j Z a R;go_wp2_with fail;go_ret;exact⟨by rw[N.out];rfl,q⟩
  ·have N:Hid (jau M J=decide ((A:Int)<B)):=by
    rw[Hid,R.out,List.drop_eq_nil_of_le (by rw[<- E1.out];omega),jau,List.length_drop,<- E2.out];simp;omega
   clear Z a R;go_wp2_with fail;go_ret;exact⟨by rw[N.out];simp,T⟩
end Go.Proofs.YtafhpamnegmilaaGreatDoor
