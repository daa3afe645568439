/- DERIVED: THE SHELF's CONTRACTS AT THIS DUMP, IN PLAIN WORDS (tools/lay-plain.mjs out of 'TryzShelf.lean', which tools/lay-shelf.mjs wrote): THE SAME DECLARATIONS UNDER THE SAME NAMES: 'import', 'namespace', 'open', 'def', 'theorem' AND NOTHING ELSE: no command of the shelf's: FOR A HAND-IN. Each laying: the table of numbers ('.._ren') and one theorem, a field a fact of the dump's own or the kernel's comparison; each contract: ONE APPLICATION. Package hll: greater, ahead, Place; registers at work in memory. aviarylaw06 .. 09: Few. A region that draws its order and whose last operation stands behind all others. Of no program. aviarylaw10.Few. Package hll: tell, done, blank, begin. Package hll: done, blank, begin. -/
import Derived.Shelf.Strings.Builder1
import Derived.Shelf.Strings.Builder2
import Derived.Shelf.Strings.OnBuilder
import Derived.Shelf.Small.Bits
import Derived.Shelf.Strings.BuilderF
import Derived.Shelf.Strings.BuilderK
import Derived.Shelf.Strings.BuilderRune
import Derived.Shelf.Utf8.AppendRune
import Derived.Shelf.Utf8.AppendRunePlain
import Derived.Shelf.Strings.Builder2Cap
import Derived.Shelf.Strconv.Itoa0
import Derived.Shelf.Strings.Search1
import Derived.Shelf.Strings.Search2
import Derived.Shelf.Strings.Search3
import Derived.Shelf.Strings.Cut
import Derived.Shelf.LaysM
import Derived.Shelf.Strings.Shaped
import Derived.Shelf.Unicode.DecodeSlow
import Derived.Shelf.Unicode.DecodeAny
import Derived.Shelf.Strings.BuilderCap
import Derived.Ground.SlgmProg
import Derived.Shelf.SortM.Plain
import Derived.Shelf.SortM.SortNone
import Derived.Laws.BytesArg
import Derived.Lib.ConvBytes
import Derived.Lib.MinMax
import Derived.StillTactics
import Derived.Laws.Rows
import Derived.Test.YtieknocphiceoaaGreatDoorZXL
namespace Go.Proofs
open Go.Shelf
def Tryz.lays169_ren:Go.Shelf.Ren:=⟨fun | 169=>171 | n=>n,fun | 70=>229 | 9=>9 | 0=>0 | 72=>231 | 37=>191 | 127=>268 | 3=>3 | 5=>5 | n=>n,fun | n=>n⟩
theorem Tryz.lays169:Go.Proofs.Lays.n169 Tryz.prog Tryz.lays169_ren:={
 mixed:=by kernel_rfl
 f169:=Tryz.func171.trans (congrArg some (by kernel_rfl))
 t0:=Tryz.underlying0
 a0:=Tryz.isAgg0
 z0:=Tryz.sizeOf0
 v0:=Tryz.zeroValue0
 t3:=Tryz.underlying3
 a3:=Tryz.isAgg3
 z3:=Tryz.sizeOf3
 v3:=Tryz.zeroValue3
 t9:=Tryz.underlying9
 a9:=Tryz.isAgg9
 z9:=Tryz.sizeOf9
 v9:=Tryz.zeroValue9
 t37:=Tryz.underlying191
 a37:=Tryz.isAgg191
 z37:=Tryz.sizeOf191
 v37:=Tryz.zeroValue191
 t70:=Tryz.underlying229
 a70:=Tryz.isAgg229
 z70:=Tryz.sizeOf229
 v70:=Tryz.zeroValue229
 t72:=Tryz.underlying231
 a72:=Tryz.isAgg231
 z72:=Tryz.sizeOf231
 v72:=Tryz.zeroValue231
 t127:=Tryz.underlying268
 a127:=Tryz.isAgg268
 z127:=Tryz.sizeOf268
 v127:=Tryz.zeroValue268 }
theorem Tryz.Builder_Extra_169:Builder.Extra Tryz.prog Tryz.lays169_ren:={
 sizeBuilder:=by kernel_rfl
 liesBuilder:=by kernel_rfl
 t5:=Tryz.underlying5
 a5:=Tryz.isAgg5
 z5:=Tryz.sizeOf5
 v5:=Tryz.zeroValue5
 infoByte:=by kernel_rfl
 cellsByte:=by kernel_rfl
 sizeByte:=by kernel_rfl
 neB5:=by decide }
def Tryz.lays156_ren:Go.Shelf.Ren:=⟨fun | 156=>130 | 165=>172 | 166=>173 | 169=>171 | 240=>196 | 241=>198 | 276=>213 | 277=>215 | n=>n,fun | 31=>141 | 9=>9 | 3=>3 | 4=>4 | 0=>0 | 20=>20 | 72=>231 | 76=>233 | 70=>229 | 37=>191 | 75=>124 | 127=>268 | 164=>269 | 5=>5 | 80=>235 | n=>n,fun | n=>n⟩
theorem Tryz.lays156:Go.Proofs.Lays.n156 Tryz.prog Tryz.lays156_ren:={
 mixed:=by kernel_rfl
 f156:=Tryz.func130.trans (congrArg some (by kernel_rfl))
 f165:=Tryz.func172.trans (congrArg some (by kernel_rfl))
 f166:=Tryz.func173.trans (congrArg some (by kernel_rfl))
 f169:=Tryz.func171.trans (congrArg some (by kernel_rfl))
 f240:=Tryz.func196.trans (congrArg some (by kernel_rfl))
 f241:=Tryz.func198.trans (congrArg some (by kernel_rfl))
 f276:=Tryz.func213.trans (congrArg some (by kernel_rfl))
 f277:=Tryz.func215.trans (congrArg some (by kernel_rfl))
 t0:=Tryz.underlying0
 a0:=Tryz.isAgg0
 z0:=Tryz.sizeOf0
 v0:=Tryz.zeroValue0
 t3:=Tryz.underlying3
 a3:=Tryz.isAgg3
 z3:=Tryz.sizeOf3
 v3:=Tryz.zeroValue3
 t4:=Tryz.underlying4
 a4:=Tryz.isAgg4
 z4:=Tryz.sizeOf4
 v4:=Tryz.zeroValue4
 t9:=Tryz.underlying9
 a9:=Tryz.isAgg9
 z9:=Tryz.sizeOf9
 v9:=Tryz.zeroValue9
 t20:=Tryz.underlying20
 a20:=Tryz.isAgg20
 z20:=Tryz.sizeOf20
 v20:=Tryz.zeroValue20
 t31:=Tryz.underlying141
 a31:=Tryz.isAgg141
 z31:=Tryz.sizeOf141
 v31:=Tryz.zeroValue141
 t37:=Tryz.underlying191
 a37:=Tryz.isAgg191
 z37:=Tryz.sizeOf191
 v37:=Tryz.zeroValue191
 t70:=Tryz.underlying229
 a70:=Tryz.isAgg229
 z70:=Tryz.sizeOf229
 v70:=Tryz.zeroValue229
 t72:=Tryz.underlying231
 a72:=Tryz.isAgg231
 z72:=Tryz.sizeOf231
 v72:=Tryz.zeroValue231
 t75:=Tryz.underlying124
 a75:=Tryz.isAgg124
 z75:=Tryz.sizeOf124
 v75:=Tryz.zeroValue124
 t76:=Tryz.underlying233
 a76:=Tryz.isAgg233
 z76:=Tryz.sizeOf233
 v76:=Tryz.zeroValue233
 t127:=Tryz.underlying268
 a127:=Tryz.isAgg268
 z127:=Tryz.sizeOf268
 v127:=Tryz.zeroValue268
 t164:=Tryz.underlying269
 a164:=Tryz.isAgg269
 z164:=Tryz.sizeOf269
 v164:=Tryz.zeroValue269 }
theorem Tryz.Builder_Extra_156:Builder.Extra Tryz.prog Tryz.lays156_ren:={
 sizeBuilder:=by kernel_rfl
 liesBuilder:=by kernel_rfl
 t5:=Tryz.underlying5
 a5:=Tryz.isAgg5
 z5:=Tryz.sizeOf5
 v5:=Tryz.zeroValue5
 infoByte:=by kernel_rfl
 cellsByte:=by kernel_rfl
 sizeByte:=by kernel_rfl
 neB5:=by decide }
open Go.RowKit in
theorem Tryz.strings_Join (bk o c:Nat) (xs:List ByteArray) (sep:ByteArray) (w:World) (hcells:∀ (j:Nat) x,xs[j]? = some x->w.cell? ⟨bk,o+j,none⟩=some (.string x)) (hbk:bk<w.heap.size) (hN:xs.length<=140737488355328) (hcap:xs.length<=c) (hlen:(Lib.join (xs.map (·.data.toList)) sep.data.toList).length<=140737488355328) :
  Calls Tryz.prog 130 #[.slice (some ⟨bk,o,none⟩) xs.length c,.string sep] w fun e w'=>e=.returned (.string ⟨(Lib.join (xs.map (·.data.toList)) sep.data.toList).toArray⟩)/\Below w.heap.size w w':=Any.strings_Join Tryz.lays156 Tryz.Builder_Extra_156 bk o c xs sep w hcells hbk hN hcap hlen
def Tryz.lays134_ren:Go.Shelf.Ren:=⟨fun | 134=>275 | 129=>278 | n=>n,fun | 53=>55 | 3=>3 | 4=>4 | 46=>306 | 5=>5 | 9=>9 | n=>n,fun | n=>n⟩
theorem Tryz.lays134:Go.Proofs.Lays.n134 Tryz.prog Tryz.lays134_ren:={
 mixed:=by kernel_rfl
 f129:=Tryz.func278.trans (congrArg some (by kernel_rfl))
 f134:=Tryz.func275.trans (congrArg some (by kernel_rfl))
 t3:=Tryz.underlying3
 a3:=Tryz.isAgg3
 z3:=Tryz.sizeOf3
 v3:=Tryz.zeroValue3
 t4:=Tryz.underlying4
 a4:=Tryz.isAgg4
 z4:=Tryz.sizeOf4
 v4:=Tryz.zeroValue4
 t5:=Tryz.underlying5
 a5:=Tryz.isAgg5
 z5:=Tryz.sizeOf5
 v5:=Tryz.zeroValue5
 t9:=Tryz.underlying9
 a9:=Tryz.isAgg9
 z9:=Tryz.sizeOf9
 v9:=Tryz.zeroValue9
 t46:=Tryz.underlying306
 a46:=Tryz.isAgg306
 z46:=Tryz.sizeOf306
 v46:=Tryz.zeroValue306
 t53:=Tryz.underlying55
 a53:=Tryz.isAgg55
 z53:=Tryz.sizeOf55
 v53:=Tryz.zeroValue55 }
theorem Tryz.bits_LeadingZeros64 (x:Int) (w:World) (h0:0<=x) (h1:x<=18446744073709551615) :
  Calls Tryz.prog 275 #[.int .u64 x] w fun e w'=>e=.returned (.int .i64 (64-(Lib.bitLen x.toNat:Int)))/\w'=w:=Any.bits_LeadingZeros64 Tryz.lays134 x w h0 h1
open Go.RowKit in
theorem Tryz.Builder_String_any_f (B b:Nat) (l:List UInt8) (w:World) (h:Lib.IsBuilderF 231 5 B b (Lib.byteCells l) w) (hBw:B<=w.heap.size) :
  Calls Tryz.prog 171 #[.pointer (some ⟨b,0,none⟩)] w fun e w'=>e=.returned (.string ⟨l.toArray⟩)/\(Lib.IsBuilderF 231 5 B b (Lib.byteCells l) w'/\Below B w w'):=Any.Builder_String_any_f Tryz.lays169 Tryz.Builder_Extra_169 B b l w h hBw
def Tryz.lays242_ren:Go.Shelf.Ren:=⟨fun | 242=>197 | 278=>214 | n=>n,fun | 37=>191 | 21=>21 | 51=>286 | 4=>4 | 5=>5 | 46=>306 | n=>n,fun | n=>n⟩
theorem Tryz.lays242:Go.Proofs.Lays.n242 Tryz.prog Tryz.lays242_ren:={
 mixed:=by kernel_rfl
 f242:=Tryz.func197.trans (congrArg some (by kernel_rfl))
 f278:=Tryz.func214.trans (congrArg some (by kernel_rfl))
 t4:=Tryz.underlying4
 a4:=Tryz.isAgg4
 z4:=Tryz.sizeOf4
 v4:=Tryz.zeroValue4
 t5:=Tryz.underlying5
 a5:=Tryz.isAgg5
 z5:=Tryz.sizeOf5
 v5:=Tryz.zeroValue5
 t21:=Tryz.underlying21
 a21:=Tryz.isAgg21
 z21:=Tryz.sizeOf21
 v21:=Tryz.zeroValue21
 t37:=Tryz.underlying191
 a37:=Tryz.isAgg191
 z37:=Tryz.sizeOf191
 v37:=Tryz.zeroValue191
 t46:=Tryz.underlying306
 a46:=Tryz.isAgg306
 z46:=Tryz.sizeOf306
 v46:=Tryz.zeroValue306
 t51:=Tryz.underlying286
 a51:=Tryz.isAgg286
 z51:=Tryz.sizeOf286
 v51:=Tryz.zeroValue286 }
open Go.RowKit in
theorem Tryz.utf8_AppendRune_row (B:Nat) (v:Value) (n:Nat) (xs:List Value) (r:Int) (hr0 : -2147483648<=r) (hr1:r<=2147483647) (w:World) (hown:w.ownsRowF B 5 1 v n xs) (hlen:n+4<=140737488355328) (hBw:B<=w.heap.size) :
  Calls Tryz.prog 197 #[v,.int .i32 r] w fun e w'=>∃ v',e=.returned v'/\w'.ownsRowF B 5 1 v' (n+(Lib.runeCells r).length) (xs++Lib.runeCells r)/\∃ o,(w.alloc o).grownBy w' v.ownBlock:=Any.utf8_AppendRune_row Tryz.lays242 (by kernel_rfl) B v n xs r hr0 hr1 w hown hlen hBw
def Tryz.lays129_ren:Go.Shelf.Ren:=⟨fun | 129=>278 | n=>n,fun | 53=>55 | 3=>3 | 4=>4 | 46=>306 | 5=>5 | 9=>9 | n=>n,fun | n=>n⟩
theorem Tryz.lays129:Go.Proofs.Lays.n129 Tryz.prog Tryz.lays129_ren:={
 mixed:=by kernel_rfl
 f129:=Tryz.func278.trans (congrArg some (by kernel_rfl))
 t3:=Tryz.underlying3
 a3:=Tryz.isAgg3
 z3:=Tryz.sizeOf3
 v3:=Tryz.zeroValue3
 t4:=Tryz.underlying4
 a4:=Tryz.isAgg4
 z4:=Tryz.sizeOf4
 v4:=Tryz.zeroValue4
 t5:=Tryz.underlying5
 a5:=Tryz.isAgg5
 z5:=Tryz.sizeOf5
 v5:=Tryz.zeroValue5
 t9:=Tryz.underlying9
 a9:=Tryz.isAgg9
 z9:=Tryz.sizeOf9
 v9:=Tryz.zeroValue9
 t46:=Tryz.underlying306
 a46:=Tryz.isAgg306
 z46:=Tryz.sizeOf306
 v46:=Tryz.zeroValue306
 t53:=Tryz.underlying55
 a53:=Tryz.isAgg55
 z53:=Tryz.sizeOf55
 v53:=Tryz.zeroValue55 }
theorem Tryz.bits_Len64 (x:Int) (w:World) (h0:0<=x) (h1:x<=18446744073709551615) :
  Calls Tryz.prog 278 #[.int .u64 x] w fun e w'=>e=.returned (.int .i64 (Lib.bitLen x.toNat))/\w'=w:=Any.bits_Len64 Tryz.lays129 x w h0 h1
def Tryz.lays197_ren:Go.Shelf.Ren:=⟨fun | 197=>190 | 260=>212 | n=>n,fun | 9=>9 | 21=>21 | 3=>3 | 4=>4 | 5=>5 | 105=>258 | 119=>307 | 0=>0 | 46=>306 | 139=>310 | 138=>309 | n=>n,fun | 3=>2 | 4=>3 | n=>n⟩
theorem Tryz.lays197:Go.Proofs.Lays.n197 Tryz.prog Tryz.lays197_ren:={
 mixed:=by kernel_rfl
 f197:=Tryz.func190.trans (congrArg some (by kernel_rfl))
 f260:=Tryz.func212.trans (congrArg some (by kernel_rfl))
 t0:=Tryz.underlying0
 a0:=Tryz.isAgg0
 z0:=Tryz.sizeOf0
 v0:=Tryz.zeroValue0
 t3:=Tryz.underlying3
 a3:=Tryz.isAgg3
 z3:=Tryz.sizeOf3
 v3:=Tryz.zeroValue3
 t4:=Tryz.underlying4
 a4:=Tryz.isAgg4
 z4:=Tryz.sizeOf4
 v4:=Tryz.zeroValue4
 t5:=Tryz.underlying5
 a5:=Tryz.isAgg5
 z5:=Tryz.sizeOf5
 v5:=Tryz.zeroValue5
 t9:=Tryz.underlying9
 a9:=Tryz.isAgg9
 z9:=Tryz.sizeOf9
 v9:=Tryz.zeroValue9
 t21:=Tryz.underlying21
 a21:=Tryz.isAgg21
 z21:=Tryz.sizeOf21
 v21:=Tryz.zeroValue21
 t46:=Tryz.underlying306
 a46:=Tryz.isAgg306
 z46:=Tryz.sizeOf306
 v46:=Tryz.zeroValue306
 t105:=Tryz.underlying258
 a105:=Tryz.isAgg258
 z105:=Tryz.sizeOf258
 v105:=Tryz.zeroValue258
 t119:=Tryz.underlying307
 a119:=Tryz.isAgg307
 z119:=Tryz.sizeOf307
 t138:=Tryz.underlying309
 a138:=Tryz.isAgg309
 z138:=Tryz.sizeOf309
 v138:=Tryz.zeroValue309
 t139:=Tryz.underlying310
 a139:=Tryz.isAgg310
 z139:=Tryz.sizeOf310
 v139:=Tryz.zeroValue310
 g3:=by kernel_rfl
 g4:=by kernel_rfl }
open Go.RowKit Go.Lib in
theorem Tryz.utf8_DecodeRuneInString (s:ByteArray) (w:World) (hT:Lib.Utf8Tabs 2 3 w) :
  Calls Tryz.prog 190 #[.string s] w fun e w'=>e=.returned (.tuple #[.int .i32 (Lib.decodeGo s).1,.int .i64 (Lib.decodeGo s).2])/\Below w.heap.size w w':=Any.utf8_DecodeRuneInString Tryz.lays197 s w hT
def Tryz.laysSlM5_f318_ren:Go.Shelf.Ren:=⟨fun | 5=>318 | 8=>322 | 7=>321 | 19=>332 | 20=>278 | 10=>323 | 11=>324 | 12=>325 | 13=>326 | 14=>327 | 15=>328 | 16=>329 | 17=>330 | 18=>331 | 30=>333 | 31=>334 | 32=>335 | 33=>336 | 34=>337 | 35=>338 | 40=>339 | n=>n,fun | 23=>25 | 25=>3 | 3=>3 | 32=>306 | 22=>25 | 0=>0 | 44=>286 | 46=>55 | 4=>4 | 36=>379 | 35=>378 | 41=>29 | 5=>5 | 9=>9 | 53=>385 | 57=>389 | 63=>391 | 64=>281 | n=>n,fun | n=>n⟩
theorem Tryz.laysSlM5_f318:Go.Proofs.SlLaysM.n5 Tryz.prog Tryz.laysSlM5_f318_ren:={
 mixed:=by kernel_rfl
 f5:=⟨Tryz.f318.name,by decide,Tryz.func318.trans (congrArg some (by kernel_rfl))⟩
 f7:=⟨Tryz.f321.name,by decide,Tryz.func321.trans (congrArg some (by kernel_rfl))⟩
 f8:=Tryz.func322.trans (congrArg some (by kernel_rfl))
 f10:=⟨Tryz.f323.name,by decide,Tryz.func323.trans (congrArg some (by kernel_rfl))⟩
 f11:=⟨Tryz.f324.name,by decide,Tryz.func324.trans (congrArg some (by kernel_rfl))⟩
 f12:=⟨Tryz.f325.name,by decide,Tryz.func325.trans (congrArg some (by kernel_rfl))⟩
 f13:=⟨Tryz.f326.name,by decide,Tryz.func326.trans (congrArg some (by kernel_rfl))⟩
 f14:=⟨Tryz.f327.name,by decide,Tryz.func327.trans (congrArg some (by kernel_rfl))⟩
 f15:=⟨Tryz.f328.name,by decide,Tryz.func328.trans (congrArg some (by kernel_rfl))⟩
 f16:=⟨Tryz.f329.name,by decide,Tryz.func329.trans (congrArg some (by kernel_rfl))⟩
 f17:=⟨Tryz.f330.name,by decide,Tryz.func330.trans (congrArg some (by kernel_rfl))⟩
 f18:=⟨Tryz.f331.name,by decide,Tryz.func331.trans (congrArg some (by kernel_rfl))⟩
 f19:=Tryz.func332.trans (congrArg some (by kernel_rfl))
 f20:=Tryz.func278.trans (congrArg some (by kernel_rfl))
 f30:=⟨Tryz.f333.name,by decide,Tryz.func333.trans (congrArg some (by kernel_rfl))⟩
 f31:=Tryz.func334.trans (congrArg some (by kernel_rfl))
 f32:=Tryz.func335.trans (congrArg some (by kernel_rfl))
 f33:=⟨Tryz.f336.name,by decide,Tryz.func336.trans (congrArg some (by kernel_rfl))⟩
 f34:=⟨Tryz.f337.name,by decide,Tryz.func337.trans (congrArg some (by kernel_rfl))⟩
 f35:=⟨Tryz.f338.name,by decide,Tryz.func338.trans (congrArg some (by kernel_rfl))⟩
 f40:=⟨Tryz.f339.name,by decide,Tryz.func339.trans (congrArg some (by kernel_rfl))⟩
 t0:=Tryz.underlying0
 a0:=Tryz.isAgg0
 z0:=Tryz.sizeOf0
 v0:=Tryz.zeroValue0
 t3:=Tryz.underlying3
 a3:=Tryz.isAgg3
 z3:=Tryz.sizeOf3
 v3:=Tryz.zeroValue3
 t4:=Tryz.underlying4
 a4:=Tryz.isAgg4
 z4:=Tryz.sizeOf4
 v4:=Tryz.zeroValue4
 t5:=Tryz.underlying5
 a5:=Tryz.isAgg5
 z5:=Tryz.sizeOf5
 v5:=Tryz.zeroValue5
 t9:=Tryz.underlying9
 a9:=Tryz.isAgg9
 z9:=Tryz.sizeOf9
 v9:=Tryz.zeroValue9
 t22:=Tryz.underlying25
 a22:=Tryz.isAgg25
 z22:=Tryz.sizeOf25
 v22:=Tryz.zeroValue25
 t23:=Tryz.underlying25
 a23:=Tryz.isAgg25
 z23:=Tryz.sizeOf25
 v23:=Tryz.zeroValue25
 t25:=Tryz.underlying3
 a25:=Tryz.isAgg3
 z25:=Tryz.sizeOf3
 v25:=Tryz.zeroValue3
 t32:=Tryz.underlying306
 a32:=Tryz.isAgg306
 z32:=Tryz.sizeOf306
 v32:=Tryz.zeroValue306
 t35:=Tryz.underlying378
 a35:=Tryz.isAgg378
 z35:=Tryz.sizeOf378
 v35:=Tryz.zeroValue378
 t36:=Tryz.underlying379
 a36:=Tryz.isAgg379
 z36:=Tryz.sizeOf379
 v36:=Tryz.zeroValue379
 t41:=Tryz.underlying29
 a41:=Tryz.isAgg29
 z41:=Tryz.sizeOf29
 v41:=Tryz.zeroValue29
 t44:=Tryz.underlying286
 a44:=Tryz.isAgg286
 z44:=Tryz.sizeOf286
 v44:=Tryz.zeroValue286
 t46:=Tryz.underlying55
 a46:=Tryz.isAgg55
 z46:=Tryz.sizeOf55
 v46:=Tryz.zeroValue55
 t53:=Tryz.underlying385
 a53:=Tryz.isAgg385
 z53:=Tryz.sizeOf385
 v53:=Tryz.zeroValue385
 t57:=Tryz.underlying389
 a57:=Tryz.isAgg389
 z57:=Tryz.sizeOf389
 v57:=Tryz.zeroValue389
 t63:=Tryz.underlying391
 a63:=Tryz.isAgg391
 z63:=Tryz.sizeOf391
 v63:=Tryz.zeroValue391
 t64:=Tryz.underlying281
 a64:=Tryz.isAgg281
 z64:=Tryz.sizeOf281
 v64:=Tryz.zeroValue281 }
open Go.Sort Go.RowKit in
theorem Tryz.slices_Sort_int (blk off cap:Nat) (zs:List Int) (w:World) (hH:Holds (Value.int .i64) w blk off zs.toArray) (hblk:blk<w.heap.size) (hsz:zs.length<4611686018427387904) :
  Calls Tryz.prog 318 #[.slice (some ⟨blk,off,none⟩) zs.length cap] w fun e w' =>
   e=.returned (.tuple #[])/\∃ n os,w'=grow (putRow (Value.int .i64) (Sort.ahead w n) blk off (zs.mergeSort fun x y=>decide (x<=y)).toArray) os:=AnyM.slices_Sort_int Tryz.laysSlM5_f318 blk off cap zs w hH hblk hsz
open Go.RowKit Go.Sort in
theorem Tryz.slices_Sort_int_none (p:Option Addr) (cap:Nat) (w:World) :
  Calls Tryz.prog 318 #[.slice p 0 cap] w fun e w'=>e=.returned (.tuple #[])/\w'=w:=AnyM.slices_Sort_int_none Tryz.laysSlM5_f318 p cap w
end Go.Proofs
namespace Go.Proofs.YtieknocphiceoaaGreatDoor
open Go Go.RowKit Go.Shelf
def RegsAt (W:World) (g:Nat) (r:List Nat):Prop:=∃ cs fz,W.heap[g]? = some (.cells cs 5 fz)/\(∀ (j x:Nat),r[j]? = some x->cs[j]? = some (Value.int .u8 (x:Int)))/\(fz=(0,0)\/r.length<=fz.1)
theorem RegsAt.lt {W:World} {g:Nat} {r:List Nat} (h:RegsAt W g r):g<W.heap.size:=by
 obtain⟨cs,fz,h1,-⟩:=h;exact (Array.getElem?_eq_some_iff.1 h1).1
theorem RegsAt.cell {W:World} {g:Nat} {r:List Nat} (h:RegsAt W g r) {j x:Nat} (hx:r[j]? = some x):W.cell? ⟨g,j,none⟩=some (.int .u8 (x:Int)):=by
 obtain⟨cs,fz,h1,h2,-⟩:=h;simp[World.cell?,h1,h2 j x hx]
theorem RegsAt.frozen {W:World} {g:Nat} {r:List Nat} (h:RegsAt W g r) {j x:Nat} (hx:r[j]? = some x):W.frozen? ⟨g,j,none⟩=false:=by
 obtain⟨cs,fz,h1,h2,h3⟩:=h;have hj:=(List.getElem?_eq_some_iff.1 hx).1;rcases h3 with rfl | h3
 ·simp[World.frozen?,h1]
 ·simp[World.frozen?,h1];omega
theorem RegsAt.block {W W':World} {g:Nat} {r:List Nat} (h:RegsAt W g r) (hb:W'.heap[g]? = W.heap[g]?):RegsAt W' g r:=by
 obtain⟨cs,fz,h1,h2⟩:=h;exact⟨cs,fz,hb.trans h1,h2⟩
theorem RegsAt.grown {W W':World} {g:Nat} {r:List Nat} {row:Option Nat} (h:RegsAt W g r) (hg:W.grownBy W' row) (hne:some g≠row):RegsAt W' g r:=h.block (hg.block g h.lt hne)
theorem RegsAt.go {W W':World} {g:Nat} {r:List Nat} (h:RegsAt W g r) (hb:Below W.heap.size W W'):RegsAt W' g r:=h.block (hb.block g h.lt)
theorem RegsAt.set {W:World} {g:Nat} {r:List Nat} (h:RegsAt W g r) (p k:Nat):RegsAt (W.setCell ⟨g,p,none⟩ (.int .u8 (k:Int))) g (r.set p k):=by
 obtain⟨cs,fz,h1,h2,h3⟩:=h;refine⟨_,fz,hSk h1 _,fun j x hx=>?_,by rw[List.length_set];exact h3⟩;rw[List.getElem?_set] at hx;rw[Array.getElem?_setIfInBounds];by_cases hp:p=j
 ·subst hp
  by_cases hl:p<r.length
  ·rw[if_pos rfl,if_pos hl] at hx
   cases hx
   have:=h2 p _ (List.getElem?_eq_getElem hl);rw[if_pos rfl,if_pos (Array.getElem?_eq_some_iff.1 this).1]
  ·rw[if_pos rfl,if_neg hl] at hx
   cases hx
 ·rw[if_neg hp] at hx
  rw[if_neg hp];exact h2 j x hx
theorem RegsAt.other {W:World} {g b o:Nat} {r:List Nat} (h:RegsAt W g r) (hne:b≠g) (v:Value):RegsAt (W.setCell ⟨b,o,none⟩ v) g r:=h.block (jam (p:=⟨b,o,none⟩) hne v)
theorem jj7 (a b:Int) (w:World):Calls Tryz.prog 265 #[.int .u8 a,.int .u8 b] w fun e w'=>e=.returned (.int .u8 (max a b))/\w'=w:=by
 go_enter Tryz.func265,Tryz.ntmps265;go_wp2;go_ret;exact⟨rfl,rfl⟩
theorem jms (n:Int) (w:World) (h0:0<=n) (h1:n<=18446744073709551615):Calls Tryz.prog 272 #[.int .u64 n] w fun e w'=>e=.returned (.int .i64 (64-(Lib.bitLen n.toNat:Int)))/\w'=w:=by
 have hcall:=Tryz.bits_LeadingZeros64 n w h0 h1;generalize Lib.bitLen n.toNat=m at hcall ⊢;go_enter Tryz.func272,Tryz.ntmps272;go_wp2_with (go_at_call 275;refine hcall.mono ?_;rintro e w' ⟨rfl,rfl⟩);go_ret;exact⟨rfl,rfl⟩
theorem jd2 (m:Nat):IntKind.u64.wrap (m:Int)=((m % 2^64:Nat):Int):=by simp[IntKind.wrap,IntKind.bits,IntKind.signed]
theorem jbl (m:Nat) (h:m<2^63):wrap64 (m:Int)=m:=by unfold wrap64;omega
set_option maxRecDepth 100000 in
set_option maxHeartbeats 1000000 in
theorem jmo (b:Nat) (n:Int) (w:World) (h1:3<=b) (h2:b<=8) (hn:U64 n):Calls Tryz.prog 267 #[.int .i64 b,.int .u64 n] w fun e w'=>e=.returned (.tuple #[.int .i64 (jka b n.toNat:Nat),.int .i64 (jcs b n.toNat:Nat)])/\w'=w:=by
 obtain⟨m,rfl⟩:=Int.eq_ofNat_of_zero_le hn.1;have hm:m<2^64:=by have:=hn.2;omega
 rw[Int.toNat_natCast];have hib:∀ w,Calls Tryz.prog 216 #[.int .i64 b] w fun e w'=>e=.returned (.bool true)/\w'=w:=fun w=>(jdi b w).mono fun e w' ⟨h3,h4⟩=>⟨by rw[h3];simp[jby];omega,h4.symm⟩
 have hw:IntKind.u64.wrap ((m:Int)*2^b)=((m*2^b % 2^64:Nat):Int):=by
  rw[<- jd2];congr 1
 have hd:wrap64 ((m:Int) / 2^(64-b))=((jka b m:Nat):Int):=by
  have h3:=jh5 b m h2 hm;have h4:2^b<=2^8:=Nat.pow_le_pow_right (by omega) h2;rw[<- jbl (jka b m) (by omega)];unfold jka;congr 1
 have hk:jcs b m=if m*2^b % 2^64=0 then 65-b else 65-Lib.bitLen (m*2^b % 2^64):=rfl
 have ho64:m*2^b % 2^64<2^64:=Nat.mod_lt _ (by decide);generalize m*2^b % 2^64=o at hw hk ho64;generalize jka b m=q at hd ⊢;generalize jcs b m=k at hk ⊢;have HK:=Lib.hid hk;clear hk hn hm;by_cases h0:o=0
 ·subst h0
  have HK2:Hid (((65:Int)-(b:Int))=(k:Int)):=by have:=HK.out;simp at this;show _=_;omega
  go_enter Tryz.func267,Tryz.ntmps267;go_wp2_with (go_at_call 216;refine (hib _).mono ?_;rintro e w' ⟨rfl,rfl⟩);go_ret2;exact⟨by rw[<- HK2.out,<- hd];rfl,rfl⟩
 ·have t0:((o:Int) != 0)=true:=by rw[bne_iff_ne];omega
  have hA:=jms (o:Int) w (by omega) (by omega);rw[Int.toNat_natCast] at hA;have hlen:=jeE o ho64 h0;have HK2:Hid ((64-(Lib.bitLen o:Int))+1=(k:Int)):=by have:=HK.out;rw[if_neg h0] at this;show _=_;omega
  generalize Lib.bitLen o=z at hA hlen HK2;have hz:(z:Int)<=64:=by omega
  clear HK ho64 h0;go_enter Tryz.func267,Tryz.ntmps267;go_wp2_with (first | (go_at_call 216;refine (hib _).mono ?_;rintro e w' ⟨rfl,rfl⟩) | (go_at_call 272;refine hA.mono ?_;rintro e w' ⟨rfl,rfl⟩));go_ret2;exact⟨by rw[<- HK2.out,<- hd];rfl,rfl⟩
end Go.Proofs.YtieknocphiceoaaGreatDoor
namespace Go.Proofs.YtieknocphiceoaaGreatDoor
open Go Go.RowKit
theorem jn7:Tryz.prog.underlying 41=some (.struct (Tryz.prog.fieldsOf 41)):=by kernel_rfl
theorem jl3:(Tryz.prog.info? 41).map (·.size)=some 1:=by kernel_rfl
theorem jrs:Tryz.prog.underlying 43=some (.struct (Tryz.prog.fieldsOf 43)):=by kernel_rfl
theorem jpQ:(Tryz.prog.info? 43).map (·.size)=some 2:=by kernel_rfl
theorem jrr:Tryz.prog.underlying 45=some (.struct (Tryz.prog.fieldsOf 45)):=by kernel_rfl
theorem jpP:(Tryz.prog.info? 45).map (·.size)=some 3:=by kernel_rfl
theorem jpX:Tryz.prog.underlying 48=some (.struct (Tryz.prog.fieldsOf 48)):=by kernel_rfl
theorem jnO:(Tryz.prog.info? 48).map (·.size)=some 2:=by kernel_rfl
theorem jcH {W:World} {B:Nat} {x y z u v q:Value} {t:TypeId} (h:W.heap[B]? = some (.cells #[x,y,z] t (0,0))):(((W.setCell ⟨B,0,none⟩ u).setCell ⟨B,1,none⟩ v).setCell ⟨B,2,none⟩ q).heap[B]? = some (.cells #[u,v,q] t (0,0)):=hSk (hSk (hSk h u) v) q
theorem jki (len n:Nat):(min (len:Int) n).toNat=min len n:=by omega
set_option maxRecDepth 100000 in
set_option maxHeartbeats 1000000 in
theorem jmS (a:Option Addr) (len cap:Nat) (w:World) (hc:len<=cap) :
  Calls Tryz.prog 131 #[.agg #[.slice a len cap]] w fun e w'=>e=.returned (.agg #[.slice a (min len 70) cap])/\Below w.heap.size w w':=by
 obtain⟨W0,hW0,hX0,hB0,hs0⟩:=jah w #[.slice a len cap] 41;have c0:W0.cell? ⟨w.heap.size,0,none⟩=some (.slice a len cap):=cCc hX0 0;have HM:=Lib.hid (jki len 70);go_enter Tryz.func131,Tryz.ntmps131;go_wp2_with fail;refine bodyPost_ret (results_cell_row rfl _ _ (w.heap.size+1) 41 #[.slice a (min (len:Int) 70).toNat cap] (0,0) _ rfl (by rw[<- hs0];exact World.alloc_heap_new _ _) jn7 rfl jl3) rfl ⟨by rw[<- HM.out];rfl,hB0.alloc hB0.size _⟩
set_option maxRecDepth 100000 in
set_option maxHeartbeats 1000000 in
theorem jmT (b:Int) (s:ByteArray) (w:World) :
  Calls Tryz.prog 132 #[.agg #[.int .i64 b,.string s]] w fun e w'=>e=.returned (.agg #[.int .i64 b,.string (jmh 260 s)])/\Below w.heap.size w w':=by
 obtain⟨W0,hW0,hX0,hX1,hB0,hs0⟩:=jaS w #[.int .i64 b,.string s] 43 #[.int .i64 0,.string ⟨#[]⟩] 43;obtain⟨c0,c1⟩:=cl2 hX0;have d0:W0.cell? ⟨w.heap.size+1,0,none⟩=some (.int .i64 0):=cCc hX1 0;have f0:W0.frozen? ⟨w.heap.size+1,0,none⟩=false:=Lib.frozen_of_heap hX1 0;have d1:W0.cell? ⟨w.heap.size+1,1,none⟩=some (.string ⟨#[]⟩):=cCc hX1 1;have f1:W0.frozen? ⟨w.heap.size+1,1,none⟩=false:=Lib.frozen_of_heap hX1 1;have m1:0<=min (s.size:Int) 260:=by omega
 have m2:min (s.size:Int) 260<=s.size:=by omega
 go_enter Tryz.func132,Tryz.ntmps132;go_wp2_with fail;go_region;go_wp2_with fail;refine bodyPost_ret (results_cell_row rfl _ _ (w.heap.size+1) 43 #[.int .i64 b,.string (s.extract 0 (min (s.size:Int) 260).toNat)] (0,0) _ rfl (jb1 hX1) jrs rfl jpQ) rfl ⟨rfl,Below.drew (((hB0.setCell (p:=⟨w.heap.size+1,0,none⟩) (Nat.le_succ _) _).setCell (p:=⟨w.heap.size+1,1,none⟩) (Nat.le_succ _) _))⟩
set_option maxRecDepth 100000 in
set_option maxHeartbeats 1000000 in
theorem jmU (r c:Int) (a:Option Addr) (len cap:Nat) (w:World) (hc:len<=cap) :
  Calls Tryz.prog 133 #[.agg #[.int .i64 r,.int .i64 c,.slice a len cap]] w fun e w'=>e=.returned (.agg #[.int .i64 r,.int .i64 c,.slice a (min len 200) cap])/\Below w.heap.size w w':=by
 obtain⟨W0,hW0,hX0,hX1,hB0,hs0⟩:=jaS w #[.int .i64 r,.int .i64 c,.slice a len cap] 45 #[.int .i64 0,.int .i64 0,.slice none 0 0] 45;obtain⟨c0,c1,c2⟩:=cl3 hX0;have d0:W0.cell? ⟨w.heap.size+1,0,none⟩=some (.int .i64 0):=cCc hX1 0;have f0:W0.frozen? ⟨w.heap.size+1,0,none⟩=false:=Lib.frozen_of_heap hX1 0;have d1:W0.cell? ⟨w.heap.size+1,1,none⟩=some (.int .i64 0):=cCc hX1 1;have f1:W0.frozen? ⟨w.heap.size+1,1,none⟩=false:=Lib.frozen_of_heap hX1 1;have d2:W0.cell? ⟨w.heap.size+1,2,none⟩=some (.slice none 0 0):=cCc hX1 2;have f2:W0.frozen? ⟨w.heap.size+1,2,none⟩=false:=Lib.frozen_of_heap hX1 2;have m1:0<=min (len:Int) 200:=by omega
 have m2:min (len:Int) 200<=cap:=by omega
 have HM:=Lib.hid (jki len 200);go_enter Tryz.func133,Tryz.ntmps133;go_wp2_with fail;go_region;go_wp2_with fail;refine bodyPost_ret (results_cell_row rfl _ _ (w.heap.size+1) 45 #[.int .i64 r,.int .i64 c,.slice a (min (len:Int) 200).toNat cap] (0,0) _ rfl (jcH hX1) jrr rfl jpP) rfl ⟨by rw[<- HM.out];rfl,Below.drew ((((hB0.setCell (p:=⟨w.heap.size+1,0,none⟩) (Nat.le_succ _) _).setCell (p:=⟨w.heap.size+1,1,none⟩) (Nat.le_succ _) _).setCell (p:=⟨w.heap.size+1,2,none⟩) (Nat.le_succ _) _))⟩
set_option maxRecDepth 100000 in
set_option maxHeartbeats 1000000 in
theorem jmV (f:Int) (a:Option Addr) (len cap:Nat) (w:World) (hc:len<=cap) :
  Calls Tryz.prog 134 #[.agg #[.int .i64 f,.slice a len cap]] w fun e w'=>e=.returned (.agg #[.int .i64 f,.slice a (min len 300) cap])/\Below w.heap.size w w':=by
 obtain⟨W0,hW0,hX0,hX1,hB0,hs0⟩:=jaS w #[.int .i64 f,.slice a len cap] 48 #[.int .i64 0,.slice none 0 0] 48;obtain⟨c0,c1⟩:=cl2 hX0;have d0:W0.cell? ⟨w.heap.size+1,0,none⟩=some (.int .i64 0):=cCc hX1 0;have f0:W0.frozen? ⟨w.heap.size+1,0,none⟩=false:=Lib.frozen_of_heap hX1 0;have d1:W0.cell? ⟨w.heap.size+1,1,none⟩=some (.slice none 0 0):=cCc hX1 1;have f1:W0.frozen? ⟨w.heap.size+1,1,none⟩=false:=Lib.frozen_of_heap hX1 1;have m1:0<=min (len:Int) 300:=by omega
 have m2:min (len:Int) 300<=cap:=by omega
 have HM:=Lib.hid (jki len 300);go_enter Tryz.func134,Tryz.ntmps134;go_wp2_with fail;go_region;go_wp2_with fail;refine bodyPost_ret (results_cell_row rfl _ _ (w.heap.size+1) 48 #[.int .i64 f,.slice a (min (len:Int) 300).toNat cap] (0,0) _ rfl (jb1 hX1) jpX rfl jnO) rfl ⟨by rw[<- HM.out];rfl,Below.drew (((hB0.setCell (p:=⟨w.heap.size+1,0,none⟩) (Nat.le_succ _) _).setCell (p:=⟨w.heap.size+1,1,none⟩) (Nat.le_succ _) _))⟩
end Go.Proofs.YtieknocphiceoaaGreatDoor
namespace Go.Proofs.YtieknocphiceoaaGreatDoor
open Go Go.RowKit
section
variable {P:Program} {pre:Array Oper} {o:Oper} {Q:Exit->Act->World->Prop} {md:Region.Mode}
def jpo (md:Region.Mode) (pre:Array Oper) (o:Oper):Bool :=
 o.guard.isNone&&pre.toList.all (·.guard.isNone) &&
 (List.range pre.size).all (fun j=>o.after.toList.any fun e=>Region.binds md e&&e.on==j) &&
 o.after.toList.all (fun e => !Region.binds md e||decide (e.on<pre.size)) &&
 (List.range pre.size).all (fun i=>((pre[i]?).map fun p=>p.after.toList.all fun e => !Region.binds md e||decide (e.on<i)).getD true)
def jpq (P:Program) (o:Oper) (Q:Exit->Act->World->Prop):Exit->Act->World->Prop
 | .normal,a,w=>o.wp P a w (fun a' w'=>Q .normal a' w') Q
 | e,a,w=>Q e a w
theorem jpZ {o':Oper} {a:Act} {w:World} {K:Act->World->Prop} (h:o'.wp P a w K (jpq P o Q)):o'.wp P a w K Q:=by
 unfold Oper.wp at *;generalize (execOp a.eval o').run P w=r at *
 cases r with
 | ok n w' =>
  cases n<;>simp only[Oper.upon] at h ⊢ <;>
   first
    | exact h
    | exact Calls.mono h (fun e w'' he=>by cases e<;>first | exact he | exact (let ⟨a,w,hq⟩:=he;⟨a,w,hq⟩))
 | halt x w'=>cases x<;>simp only[Oper.upon] at h ⊢<;>exact h
theorem jcu {ops:Array Oper} {L:Array Bool} {i:Nat}:i∈Region.ready md ops L↔i<ops.size/\L.getD i true=false/\∃ p,ops[i]? = some p/\∀ e∈p.after,Region.binds md e=true->L.getD e.on false=true:=by
 unfold Region.ready;rw[List.mem_filter,List.mem_range];constructor
 ·rintro⟨h1,h2⟩
  rw[Bool.and_eq_true] at h2;refine⟨h1,by simpa using h2.1,ops[i],Array.getElem?_eq_getElem h1,?_⟩;have h3:=h2.2;rw[Array.getElem?_eq_getElem h1] at h3;simp only[Option.map_some,Option.getD_some] at h3;rw[Array.all_eq_true_iff_forall_mem] at h3;intro e he hb;have:=h3 e he;simpa [hb] using this
 ·rintro⟨h1,h2,p,hp,h3⟩
  refine⟨h1,?_⟩;rw[Bool.and_eq_true];refine⟨by simp[h2],?_⟩;rw[hp];simp only[Option.map_some,Option.getD_some];rw[Array.all_eq_true_iff_forall_mem];intro e he
  cases hb:Region.binds md e
  ·rfl
  ·simpa using h3 e he hb
structure jiG (md:Region.Mode) (pre:Array Oper) (o:Oper):Prop where
 go:o.guard=none
 gp:∀ (i:Nat) p,pre[i]? = some p->p.guard=none
 last:∀ j,j<pre.size->∃ e∈o.after,Region.binds md e=true/\e.on=j
 lt:∀ e∈o.after,Region.binds md e=true->e.on<pre.size
 lex:∀ (i:Nat) p,pre[i]? = some p->∀ e∈p.after,Region.binds md e=true->e.on<i
theorem jpp (h:jpo md pre o=true):jiG md pre o:=by
 simp only[jpo,Bool.and_eq_true,List.all_eq_true,List.any_eq_true,List.mem_range] at h;obtain⟨⟨⟨⟨h1,h2⟩,h3⟩,h4⟩,h5⟩:=h;refine⟨by simpa using h1,fun i p hp=>?_,fun j hj=>?_,fun e he hb=>?_,fun i p hp e he hb=>?_⟩
 ·have:=h2 p (by rw[<- Array.getElem?_toList] at hp;exact List.mem_of_getElem? hp)
  simpa using this
 ·obtain⟨e,he,hb,ho⟩:=h3 j hj
  exact⟨e,by simpa using he,hb,by simpa using ho⟩
 ·have:=h4 e (by simpa using he)
  simpa [hb] using this
 ·have hi:=(Array.getElem?_eq_some_iff.1 hp).1
  have:=h5 i hi;rw[hp] at this;simp only[Option.map_some,Option.getD_some,List.all_eq_true] at this;have:=this e (by simpa using he);simpa [hb] using this
theorem jdN (L:Array Bool) (n:Nat):(L.push false).getD n false=L.getD n false:=by
 simp only[Array.getD_eq_getD_getElem?,Array.getElem?_push];split
 ·rename_i h;subst h;simp
 ·rfl
theorem jnJ {L:Array Bool} (hk:jiG md pre o) (hL:L.size=pre.size) (h:Region.ready md pre L=[]):∀ j,j<pre.size->L.getD j false=true:=by
 intro j
 induction j using Nat.strongRecOn with
 | ind j ih =>
  intro hj
  cases hv:L.getD j false with
  | true=>rfl
  | false =>
   exfalso
   have hm:j∈Region.ready md pre L:=jcu.2 ⟨hj,by
    have hjl:j<L.size:=by omega
    simp only[Array.getD_eq_getD_getElem?,Array.getElem?_eq_getElem hjl,Option.getD_some] at hv ⊢;exact hv,pre[j],Array.getElem?_eq_getElem hj,fun e he hb=>ih e.on (hk.lex j _ (Array.getElem?_eq_getElem hj) e he hb) (by have:=hk.lex j _ (Array.getElem?_eq_getElem hj) e he hb;omega)⟩
   rw[h] at hm
   cases hm
theorem jnK {L:Array Bool} (hL:L.size=pre.size) {i:Nat} (h:i∈Region.ready md pre L):i∈Region.ready md (pre.push o) (L.push false):=by
 obtain⟨h1,h2,p,hp,h3⟩:=jcu.1 h;refine jcu.2 ⟨by simp;omega,?_,p,?_,fun e he hb=>by rw[jdN];exact h3 e he hb⟩
 ·have:i≠L.size:=by omega
  simpa [Array.getD_eq_getD_getElem?,Array.getElem?_push,this] using h2
 ·rw[Array.getElem?_push,if_neg (by omega)];exact hp
theorem jk9 {L:Array Bool} (hk:jiG md pre o) (hL:L.size=pre.size) {i:Nat} (h:i∈Region.ready md (pre.push o) (L.push false)) :
  i∈Region.ready md pre L\/(i=pre.size/\∀ j,j<pre.size->L.getD j false=true):=by
 obtain⟨h1,h2,p,hp,h3⟩:=jcu.1 h;by_cases hi:i=pre.size
 ·subst hi
  rw[Array.getElem?_push_size] at hp
  cases hp
  refine .inr ⟨rfl,fun j hj=>?_⟩;obtain⟨e,he,hb,rfl⟩:=hk.last j hj;rw[<- jdN];exact h3 e he hb
 ·have hs:i<pre.size:=by simp at h1;omega
  rw[Array.getElem?_push,if_neg hi] at hp;refine .inl (jcu.2 ⟨hs,?_,p,hp,fun e he hb=>by rw[<- jdN];exact h3 e he hb⟩);have:i≠L.size:=by omega
  simpa [Array.getD_eq_getD_getElem?,Array.getElem?_push,this] using h2
theorem jjr {ops:Array Oper} {L:Array Bool} (hL:L.size=ops.size) (h:∀ j,j<ops.size->L.getD j false=true):Region.ready md ops L=[]:=by
 rw[List.eq_nil_iff_forall_not_mem];intro i hi;obtain⟨h1,h2,_⟩:=jcu.1 hi;have h3:=h i h1;have hjl:i<L.size:=by omega
 simp only[Array.getD_eq_getD_getElem?,Array.getElem?_eq_getElem hjl,Option.getD_some] at h2 h3;rw[h2] at h3
 cases h3
theorem jfx {ops:Array Oper} {L:Array Bool} {a:Act} {w:World} (h:Region.ready md ops L=[]) (hq:Q .normal a w):∀ fuel,wpAny P md ops Q fuel L a w
 | 0=>⟨h,hq⟩
 | _+1=>⟨fun _=>hq,fun i hi=>by rw[h] at hi;cases hi⟩
theorem jjL {K:Act->World->Prop} {a:Act} {w:World} (hk:jiG md pre o) (hK:∀ a w,Q .normal a w->K a w) (h:jpq P o Q .normal a w):wpOp P (pre.push o) Q pre.size K a w:=by
 unfold wpOp;rw[Array.getElem?_push_size];simp only[Region.wanted,hk.go,if_true];exact .inl (Oper.wp_mono hK h)
theorem jmf (hk:jiG md pre o) (fuel:Nat):∀ (L:Array Bool) (a:Act) (w:World),L.size=pre.size->wpAny P md pre (jpq P o Q) fuel L a w->wpAny P md (pre.push o) Q (fuel+1) (L.push false) a w:=by
 have hne:∀ L:Array Bool,L.size=pre.size->Region.ready md (pre.push o) (L.push false)≠[]:=fun L hL h0=>by
  cases hr:Region.ready md pre L with
  | nil =>
   have hall:=jnJ hk hL hr;have hm:pre.size∈Region.ready md (pre.push o) (L.push false):=jcu.2 ⟨by simp,by simp[Array.getD_eq_getD_getElem?,<- hL],o,Array.getElem?_push_size,fun e he hb=>by rw[jdN];exact hall _ (hk.lt e he hb)⟩;rw[h0] at hm;cases hm
  | cons i r =>
   have hm:=jnK (o:=o) hL (show i∈Region.ready md pre L by rw[hr];exact List.mem_cons_self ..);rw[h0] at hm;cases hm
 have hend:∀ (L:Array Bool),L.size=pre.size->(∀ j,j<pre.size->L.getD j false=true)->Region.ready md (pre.push o) ((L.push false).setIfInBounds pre.size true)=[]:=fun L hL hall=>by
  refine jjr (by simp[hL]) (fun j hj=>?_);simp only[Array.getD_eq_getD_getElem?,Array.getElem?_setIfInBounds,Array.size_push];by_cases hjp:pre.size=j
  ·rw[if_pos hjp,if_pos (by omega)];rfl
  ·rw[if_neg hjp]
   have:=hall j (by simp at hj;omega);rw[<- jdN,Array.getD_eq_getD_getElem?] at this;exact this
 induction fuel with
 | zero =>
  intro L a w hL h;refine⟨fun h0=>absurd h0 (hne L hL),fun i hi=>?_⟩;rcases jk9 hk hL hi with h1 | ⟨rfl,hall⟩
  ·rw[h.1] at h1;cases h1
  ·exact jjL hk (fun a w hq=>jfx (hend L hL hall) hq _) h.2
 | succ k ih =>
  intro L a w hL h;refine⟨fun h0=>absurd h0 (hne L hL),fun i hi=>?_⟩;rcases jk9 hk hL hi with h1 | ⟨rfl,hall⟩
  ·have h2:=h.2 i h1
   obtain⟨hs,_,p,hp,_⟩:=jcu.1 h1;have hp':(pre.push o)[i]? = some p:=by rw[Array.getElem?_push,if_neg (by omega)];exact hp
   unfold wpOp at h2 ⊢;rw[hp] at h2;rw[hp'];simp only[Region.wanted,hk.gp i p hp,if_true] at h2 ⊢;rcases h2 with h2 | ⟨h2,b,v,h3⟩
   ·refine .inl (Oper.wp_mono (fun a' w' h'=>?_) (jpZ h2))
    have h4:=ih (L.setIfInBounds i true) a' w' (by simp[hL]) h'
    have e:(L.push false).setIfInBounds i true=(L.setIfInBounds i true).push false:=by
     apply Array.ext_getElem?;intro n;simp only[Array.getElem?_setIfInBounds,Array.getElem?_push,Array.size_push,Array.size_setIfInBounds];by_cases h5:i=n
     ·subst h5
      rw[if_pos rfl,if_pos (by omega),if_neg (by omega),if_pos rfl,if_pos (by omega)]
     ·simp[h5]
    rw[e];exact h4
   ·exact .inr ⟨h2,b,v,h3⟩
  ·refine jjL hk (fun a w hq=>jfx (hend L hL hall) hq _) (h.1 (jjr hL hall))
end
theorem jed {P:Program} (Inv:World->Prop) {id:Nat} {Q:Exit->Act->World->Prop} {a:Act} {w:World} {l:List Oper} {o:Oper} (hm:P.follows .mixedOrders=true) (hB:Region.lexB .any l.toArray=true) (hb:jpo .any l.toArray o=true) (hC:Inv w.drew)
  (h:wpQuiet P l.toArray (fun w'=>∃ X:WIn Inv,w'=X.world) (fun a'=>∀ w',(∃ X:WIn Inv,w'=X.world)->o.wp P a' w' (fun a'' w''=>Q .normal a'' w'') Q) l a):(Code.region id (l++[o]).toArray true).wp P Q a w:=by
 refine wp_region_any hm ?_;have hB':=hB;simp only[Region.lexB,Bool.and_eq_true] at hB';have h1:=wpAnyQ_lex (C:=fun w'=>∃ X:WIn Inv,w'=X.world) (md:=.any) hB'.1 l 0 (Array.replicate l.toArray.size false) a (by simp) (by simpa using hB'.2) h;have h2:=wpAny_of_quiet (Q':=jpq P o Q) (fun a' w' hw' hh=>hh w' hw') _ _ _ w.drew ⟨⟨_,hC⟩,rfl⟩ h1;have h3:=jmf (jpp hb) _ _ _ _ (by simp) h2;have e1:(l++[o]).toArray=l.toArray.push o:=by simp
 rw[e1];have e2:Array.replicate (l.toArray.push o).size false=(Array.replicate l.toArray.size false).push false:=by simp[Array.replicate_succ]
 rw[e2];simpa using h3
end Go.Proofs.YtieknocphiceoaaGreatDoor
namespace Go.Proofs.YtieknocphiceoaaGreatDoor
open Go Go.RowKit
def Sk.cut (x:Sk):Sk:={ x with e:=x.e.take 70,hr:=jmh 260 x.hr,cl:=x.cl.take 200,gl:=x.gl.take 300 }
def SS.cut (s:SS):SS:={ s with el:=min s.el 70,cl:=min s.cl 200,gl:=min s.gl 300 }
theorem SlC.take_min {α:Type} {enc:α->List Value} {k n₀:Nat} {w:World} {a:Option Addr} {len cap:Nat} {l:List α} (h:SlC enc k n₀ w a len cap l) (m:Nat):SlC enc k n₀ w a (min len m) cap (l.take m):=by
 have h1:=h.take (min len m) (Nat.min_le_left _ _);have h2:l.take (min len m)=l.take m:=by rw[h.1.1,Nat.min_comm];exact List.take_eq_take_min.symm
 rwa [h2] at h1
theorem SS.At.cut {s:SS} {n:Nat} {w:World} {x:Sk} (h:s.At n w x):s.cut.At n w x.cut:=⟨h.e.take_min 70,h.c.take_min 200,h.g.take_min 300⟩
theorem jcX {P:Program} (Inv:World->Prop) {id:Nat} {Q:Exit->Act->World->Prop} {a:Act} {w:World} {L l:List Oper} {o:Oper} (hl:L=l++[o]) (hm:P.follows .mixedOrders=true) (hB:Region.lexB .any l.toArray=true) (hb:jpo .any l.toArray o=true) (hC:Inv w.drew)
  (h:wpQuiet P l.toArray (fun w'=>∃ X:WIn Inv,w'=X.world) (fun a'=>∀ w',(∃ X:WIn Inv,w'=X.world)->o.wp P a' w' (fun a'' w''=>Q .normal a'' w'') Q) l a):(Code.region id L.toArray true).wp P Q a w:=by
 subst hl;exact jed Inv hm hB hb hC h
theorem jmc:Tryz.prog.underlying 50=some (.struct (Tryz.prog.fieldsOf 50)):=by kernel_rfl
theorem jkq:(Tryz.prog.info? 50).map (·.size)=some 10:=by kernel_rfl
structure FewIn (x:Sk) (s:SS) (w W:World):Prop where
 box:W.heap[w.heap.size]? = some (.cells #[.int .i64 x.kind,.int .i64 x.level,.slice s.ea s.el s.ec,.int .i64 x.hb,.string x.hr,.int .i64 x.cr,.int .i64 x.cc,.slice s.ca s.cl s.cc,.int .i64 x.gf,.slice s.ga s.gl s.gc] 50 (0,0))
 res:W.heap[w.heap.size+1]? = some (.cells #[.int .i64 0,.int .i64 0,.slice none 0 0,.int .i64 0,.string ⟨#[]⟩,.int .i64 0,.int .i64 0,.slice none 0 0,.int .i64 0,.slice none 0 0] 50 (0,0))
 below:Below w.heap.size w W
theorem FewIn.go {x:Sk} {s:SS} {w W W':World} (h:FewIn x s w W) (hb:Below W.heap.size W W'):FewIn x s w W':=⟨jak hb (Nat.le_refl _) h.box,jak hb (Nat.le_refl _) h.res,h.below.trans (hb.mono h.below.size)⟩
set_option maxRecDepth 100000 in
set_option maxHeartbeats 2000000 in
theorem jba (x:Sk) (s:SS) (w:World) (h:s.At w.heap.size w x) :
  Calls Tryz.prog 82 #[jdI x s] w fun e w'=>e=.returned (jdI x.cut s.cut)/\Below w.heap.size w w':=by
 have he:=h.e.2.1;have hc:=h.c.2.1;have hg:=h.g.2.1;unfold jdI;obtain⟨W0,hW0,hX0,hX1,hB0,hs0⟩:=jaS w #[.int .i64 x.kind,.int .i64 x.level,.slice s.ea s.el s.ec,.int .i64 x.hb,.string x.hr,.int .i64 x.cr,.int .i64 x.cc,.slice s.ca s.cl s.cc,.int .i64 x.gf,.slice s.ga s.gl s.gc] 50 #[.int .i64 0,.int .i64 0,.slice none 0 0,.int .i64 0,.string ⟨#[]⟩,.int .i64 0,.int .i64 0,.slice none 0 0,.int .i64 0,.slice none 0 0] 50;have hI:FewIn x s w W0:=⟨hX0,hX1,hB0⟩;let Inv:World->Prop:=FewIn x s w;have hgo:∀ W W',Inv W->Below W.heap.size W W'->Inv W':=fun W W' h hb=>FewIn.go h hb
 have q0:∀ X:WIn Inv,X.world.cell? ⟨w.heap.size,0,none⟩=some (.int .i64 x.kind):=fun X=>cCc X.ok.box 0
 have q1:∀ X:WIn Inv,X.world.cell? ⟨w.heap.size,1,none⟩=some (.int .i64 x.level):=fun X=>cCc X.ok.box 1
 have q2:∀ X:WIn Inv,X.world.cell? ⟨w.heap.size,2,none⟩=some (.slice s.ea s.el s.ec):=fun X=>cCc X.ok.box 2
 have q3:∀ X:WIn Inv,X.world.cell? ⟨w.heap.size,3,none⟩=some (.int .i64 x.hb):=fun X=>cCc X.ok.box 3
 have q4:∀ X:WIn Inv,X.world.cell? ⟨w.heap.size,4,none⟩=some (.string x.hr):=fun X=>cCc X.ok.box 4
 have q5:∀ X:WIn Inv,X.world.cell? ⟨w.heap.size,5,none⟩=some (.int .i64 x.cr):=fun X=>cCc X.ok.box 5
 have q6:∀ X:WIn Inv,X.world.cell? ⟨w.heap.size,6,none⟩=some (.int .i64 x.cc):=fun X=>cCc X.ok.box 6
 have q7:∀ X:WIn Inv,X.world.cell? ⟨w.heap.size,7,none⟩=some (.slice s.ca s.cl s.cc):=fun X=>cCc X.ok.box 7
 have q8:∀ X:WIn Inv,X.world.cell? ⟨w.heap.size,8,none⟩=some (.int .i64 x.gf):=fun X=>cCc X.ok.box 8
 have q9:∀ X:WIn Inv,X.world.cell? ⟨w.heap.size,9,none⟩=some (.slice s.ga s.gl s.gc):=fun X=>cCc X.ok.box 9
 have K6:Hid (∀ X:WIn Inv,Calls Tryz.prog 131 #[.agg #[.slice s.ea s.el s.ec]] X.world fun e w'=>e=.returned (.agg #[.slice s.ea (min s.el 70) s.ec])/\∃ Y:WIn Inv,w'=Y.world):=fun X=>jab hgo (jmS _ _ _ X.world he)
 have K7:Hid (∀ X:WIn Inv,Calls Tryz.prog 132 #[.agg #[.int .i64 x.hb,.string x.hr]] X.world fun e w'=>e=.returned (.agg #[.int .i64 x.hb,.string (jmh 260 x.hr)])/\∃ Y:WIn Inv,w'=Y.world):=fun X=>jab hgo (jmT _ _ X.world)
 have K8:Hid (∀ X:WIn Inv,Calls Tryz.prog 133 #[.agg #[.int .i64 x.cr,.int .i64 x.cc,.slice s.ca s.cl s.cc]] X.world fun e w'=>e=.returned (.agg #[.int .i64 x.cr,.int .i64 x.cc,.slice s.ca (min s.cl 200) s.cc])/\∃ Y:WIn Inv,w'=Y.world):=fun X=>jab hgo (jmU _ _ _ _ _ X.world hc)
 have K9:Hid (∀ X:WIn Inv,Calls Tryz.prog 134 #[.agg #[.int .i64 x.gf,.slice s.ga s.gl s.gc]] X.world fun e w'=>e=.returned (.agg #[.int .i64 x.gf,.slice s.ga (min s.gl 300) s.gc])/\∃ Y:WIn Inv,w'=Y.world):=fun X=>jab hgo (jmV _ _ _ _ X.world hg)
 have hfin:Hid (∀ X:WIn Inv,FewIn x s w X.world):=fun X=>X.ok
 have hI0:Hid (Inv W0.drew):=hI.go (Below.refl _ _).drew;have hne:Nonempty (WIn Inv):=⟨⟨_,hI0.out⟩⟩;clear h hI hgo hX0 hX1 hB0 hs0;clear_value Inv;go_enter Tryz.func82,Tryz.ntmps82;go_wp2_with fail;refine jcX Inv (l:=[_,_,_,_,_,_,_,_,_,_,_,_,_,_,_,_,_]) (o:=_) rfl (by kernel_rfl) (by kernel_rfl) (by kernel_rfl) hI0.out ?_
 repeat (first | go_big_quiet_step ((first | (go_at_call 131;with_reducible exact K6.out _) | (go_at_call 132;with_reducible exact K7.out _) | (go_at_call 133;with_reducible exact K8.out _) | (go_at_call 134;with_reducible exact K9.out _))) | quiet_step ((first | (go_at_call 131;with_reducible exact K6.out _) | (go_at_call 132;with_reducible exact K7.out _) | (go_at_call 133;with_reducible exact K8.out _) | (go_at_call 134;with_reducible exact K9.out _))))
 refine wpQuiet_nil ?_;rintro _ ⟨X,rfl⟩;have hF:=hfin.out X;have hres:=hF.res;have hbel:=hF.below;generalize X.world=W at hres hbel;clear hF hfin hI0 hne K6 K7 K8 K9 q0 q1 q2 q3 q4 q5 q6 q7 q8 q9 hW0;obtain⟨d0,d1,d2,d3,d4,d5,d6,d7,d8,d9⟩:=jaL hres;obtain⟨f0,f1,f2,f3,f4,f5,f6,f7,f8,f9⟩:=jdJ hres;go_wp2_with fail;refine bodyPost_ret (results_cell_row rfl _ _ (w.heap.size+1) 50 #[.int .i64 x.kind,.int .i64 x.level,.slice s.ea (min s.el 70) s.ec,.int .i64 x.hb,.string (jmh 260 x.hr),.int .i64 x.cr,.int .i64 x.cc,.slice s.ca (min s.cl 200) s.cc,.int .i64 x.gf,.slice s.ga (min s.gl 300) s.gc] (0,0) _ rfl (jrf hres) jmc rfl jkq) rfl ⟨rfl,((((((((((hbel.setCell (p:=⟨w.heap.size+1,0,none⟩) (Nat.le_succ _) _).setCell (p:=⟨w.heap.size+1,1,none⟩) (Nat.le_succ _) _).setCell (p:=⟨w.heap.size+1,2,none⟩) (Nat.le_succ _) _).setCell (p:=⟨w.heap.size+1,3,none⟩) (Nat.le_succ _) _).setCell (p:=⟨w.heap.size+1,4,none⟩) (Nat.le_succ _) _).setCell (p:=⟨w.heap.size+1,5,none⟩) (Nat.le_succ _) _).setCell (p:=⟨w.heap.size+1,6,none⟩) (Nat.le_succ _) _).setCell (p:=⟨w.heap.size+1,7,none⟩) (Nat.le_succ _) _).setCell (p:=⟨w.heap.size+1,8,none⟩) (Nat.le_succ _) _).setCell (p:=⟨w.heap.size+1,9,none⟩) (Nat.le_succ _) _)⟩
end Go.Proofs.YtieknocphiceoaaGreatDoor
namespace Go.Proofs.YtieknocphiceoaaGreatDoor
open Go Go.RowKit Go.Shelf
theorem jfs (W:World) (b o:Nat) (v:Value):W.grownBy (W.setCell ⟨b,o,none⟩ v) (some b) :=
 ⟨rfl,rfl,rfl,(KeepsWalks.setCell W _ v).size,fun k _ hk=>Below.heap_setCell _ _ _ k (fun e=>hk (by rw[e]))⟩
theorem jen {W V:World} {row:Option Nat} (h:W.grownBy V row):W.grownBy V.drew row:=⟨h.os,h.tape,h.output,h.size,h.block⟩
set_option maxRecDepth 100000 in
set_option maxHeartbeats 1000000 in
theorem jlh (bt:Int) (s:ByteArray) (g len cap p k:Nat) (r:List Nat) (w:World) (hr:RegsAt w g r) (hp:p<r.length) (hl:r.length=len) :
  Calls Tryz.prog 268 #[.agg #[.int .i64 bt,.string s,.slice (some ⟨g,0,none⟩) len cap,.func (.func 265) #[] #[]],.int .i64 p,.int .u8 k] w fun e w'=>e=.returned (.tuple #[])/\RegsAt w' g (jbo r p k)/\w.grownBy w' (some g):=by
 obtain⟨x,hx⟩:∃ x,r[p]? = some x:=⟨_,List.getElem?_eq_getElem hp⟩;obtain⟨W0,hW0,hX0,hB0,hs0⟩:=jah w #[.int .i64 bt,.string s,.slice (some ⟨g,0,none⟩) len cap,.func (.func 265) #[] #[]] 331;have hr0:RegsAt W0.drew g r:=(hr.go hB0).block rfl;have hp2:(p:Int)<len:=by omega
 let Inv:World->Prop:=fun W=>W=W0.drew
 have q0:∀ X:WIn Inv,X.world.cell? ⟨w.heap.size,1,none⟩=some (.string s):=fun X=>by rw[X.ok];exact cCc hX0 1
 have q2:∀ X:WIn Inv,X.world.cell? ⟨w.heap.size,2,none⟩=some (.slice (some ⟨g,0,none⟩) len cap):=fun X=>by rw[X.ok];exact cCc hX0 2
 have q3:∀ X:WIn Inv,X.world.cell? ⟨w.heap.size,3,none⟩=some (.func (.func 265) #[] #[]):=fun X=>by rw[X.ok];exact cCc hX0 3
 have q4:∀ X:WIn Inv,X.world.cell? ⟨g,p,none⟩=some (.int .u8 x):=fun X=>by rw[X.ok];exact hr0.cell hx
 have KG:Hid (∀ X:WIn Inv,Calls Tryz.prog 265 #[.int .u8 x,.int .u8 k] X.world fun e w'=>e=.returned (.int .u8 (max (x:Int) k))/\∃ Y:WIn Inv,w'=Y.world):=fun X=>(jj7 x k X.world).mono fun e w' h=>⟨h.1,X,h.2⟩
 have hne:Nonempty (WIn Inv):=⟨⟨W0.drew,rfl⟩⟩;have hI0:Hid (Inv W0.drew):=rfl;have hfin:Hid (∀ X:WIn Inv,X.world=W0.drew):=fun X=>X.ok
 have HR:=Lib.hid hr0;have HX:=Lib.hid hx;have HG:Hid (w.grownBy W0 none):=by rw[<- hW0];exact World.grownBy_alloc w _ none
 clear_value Inv;clear hr hr0 hx;go_enter Tryz.func268,Tryz.ntmps268;go_wp2_with fail;refine jcX Inv (l:=[_,_,_,_,_,_,_,_,_,_,_,_,_]) (o:=_) rfl (by kernel_rfl) (by kernel_rfl) (by kernel_rfl) hI0.out ?_
 repeat (first | go_big_quiet_step ((go_at_call 265;with_reducible exact KG.out _)) | quiet_step ((go_at_call 265;with_reducible exact KG.out _)))
 refine wpQuiet_nil ?_;rintro _ ⟨X,rfl⟩;rw[hfin.out X];clear hfin hI0 hne KG q0 q2 q3 q4 hW0;have d0:=HR.out.cell HX.out;have d1:=HR.out.frozen HX.out;go_wp2_with fail;go_end0;have e:(max (x:Int) (k:Int))=((max (r.getD p 0) k:Nat):Int):=by rw[List.getD_eq_getElem?_getD,HX.out];simp only[Option.getD_some];omega
 rw[e];exact⟨rfl,(RegsAt.set (W:=W0.drew) HR.out p _).block rfl,jen ((HG.out.but (some g)).trans (jfs W0 g p _))⟩
end Go.Proofs.YtieknocphiceoaaGreatDoor
namespace Go.Proofs.YtieknocphiceoaaGreatDoor
open Go Go.RowKit Go.Shelf
theorem jfm:Tryz.prog.underlying 191=some (.slice 5):=by kernel_rfl
theorem jqP:(Tryz.prog.info? 5).map (fun i=>(i.zero,i.size,i.bytes))=some (some (.int .u8 0),1,1):=by kernel_rfl
def jaA (r:List Nat):ByteArray:=strOfNums (r.map fun (n:Nat)=>(n:Int))
theorem jkg (w:World) (len:Nat) (h:len<=1000):∃ w1,(Instr.makeSlice 191 (.int .i64 (len:Int)) (.int .i64 (len:Int))).run Tryz.prog w=.ok (.slice (some ⟨w.heap.size,0,none⟩) len len) w1/\RegsAt w1 w.heap.size (List.replicate len 0)/\Below w.heap.size w w1/\w1.heap.size=w.heap.size+1:=by
 obtain⟨i,hi,hz,hsize,hby⟩:=info_parts jqP;have hr:=run_makeSlice (P:=Tryz.prog) (w:=w) 191 5 i _ jfm hi hz .i64 .i64 (len:Int) (len:Int) (by omega) (Int.le_refl _) (by rw[hsize];omega) (by rw[hby];omega) (by omega);rw[Int.toNat_natCast] at hr;refine⟨_,hr,⟨_,(0,0),World.alloc_heap_new _ _,fun j x hx=>?_,.inl rfl⟩,(Below.refl _ w).alloc (Nat.le_refl _) _,by simp⟩;rw[List.getElem?_replicate] at hx;split at hx
 ·cases hx
  rename_i hj
  rw[hsize,Nat.mul_one];simp[madeCells,Value.cells,hj,Nat.mod_one]
 ·cases hx
theorem je0 {W:World} {g len cap:Nat} {r:List Nat} (hr:RegsAt W g r) (hl:r.length=len):(convert 191 9 (.slice (some ⟨g,0,none⟩) len cap)).run Tryz.prog W=.ok (.string (jaA r)) W :=
 run_convert_bytes_arg W 191 5 jfm Tryz.underlying5 g 0 len cap (r.map fun (n:Nat)=>(n:Int)) (by rw[List.length_map,hl]) (fun i hi=>by
  have hx:=List.getElem?_eq_getElem (show i<r.length by omega);rw[Nat.zero_add,hr.cell hx];simp[List.getD_eq_getElem?_getD,hx]) 9 Tryz.underlying9
set_option maxRecDepth 100000 in
set_option maxHeartbeats 1000000 in
theorem ji0 (bt:Int) (s:ByteArray) (g len cap:Nat) (pk:Value) (r:List Nat) (w:World) (hr:RegsAt w g r) (hl:r.length=len) :
  Calls Tryz.prog 262 #[.agg #[.int .i64 bt,.string s,.slice (some ⟨g,0,none⟩) len cap,pk]] w fun e w'=>e=.returned (.agg #[.int .i64 bt,.string (jaA r)])/\Below w.heap.size w w':=by
 obtain⟨W0,hW0,hX0,hX1,hB0,hs0⟩:=jaS w #[.int .i64 bt,.string s,.slice (some ⟨g,0,none⟩) len cap,pk] 331 #[.int .i64 0,.string ⟨#[]⟩] 43;have hcv:=je0 (cap:=cap) (hr.go hB0) hl;obtain⟨c0,c1,c2,c3⟩:=cl4 hX0;obtain⟨d0,d1⟩:=cl2 hX1;obtain⟨f0,f1⟩:=cz2 hX1;generalize jaA r=out at hcv ⊢;have HX:=Lib.hid hX1;clear hr hl hX0 hX1;go_enter Tryz.func262,Tryz.ntmps262;go_wp2_with fail;have hX2:=jb1 (u:=.int .i64 bt) (v:=.string out) HX.out;have hB2:=(hB0.setCell (p:=⟨w.heap.size+1,0,none⟩) (Nat.le_succ _) (.int .i64 bt)).setCell (p:=⟨w.heap.size+1,1,none⟩) (Nat.le_succ _) (.string out);generalize (W0.setCell ⟨w.heap.size+1,0,none⟩ (.int .i64 bt)).setCell ⟨w.heap.size+1,1,none⟩ (.string out)=V at hX2 hB2 ⊢;obtain⟨k0,k1⟩:=cl2 hX2;exact bodyPost_ret (v:=.agg #[.int .i64 bt,.string out]) (by simp[results,Tryz.f262,go_sem,k0,k1]) rfl ⟨rfl,hB2⟩
theorem jrk {W:World} {B off:Nat} {cs:Array Value} {t:TypeId} {old:Value} (h:W.heap[B]? = some (.cells cs t (0,0))) (ho:cs[off]? = some old) (f:Fn):(store ⟨B,off,none⟩ (.func f #[] #[])).run Tryz.prog W=.ok () (W.setCell ⟨B,off,none⟩ (.func f #[] #[])):=by
 rw[run_store Tryz.prog W ⟨B,off,none⟩ _ _ (by rfl)];simp[World.cell?,World.frozen?,h,ho]
set_option maxRecDepth 100000 in
set_option maxHeartbeats 1000000 in
theorem jiP (b:Nat) (w:World) (h1:3<=b) (h2:b<=8) :
  Calls Tryz.prog 259 #[.int .i64 b] w fun e w'=>∃ g,e=.returned (.tuple #[.agg #[.int .i64 b,.string ⟨#[]⟩,.slice (some ⟨g,0,none⟩) (2^b) (2^b),.func (.func 265) #[] #[]],.nilIface])/\RegsAt w' g (jaY b)/\w.heap.size<=g/\Below w.heap.size w w':=by
 have hib:∀ w,Calls Tryz.prog 216 #[.int .i64 b] w fun e w'=>e=.returned (.bool true)/\w'=w:=fun w=>(jdi b w).mono fun e w' ⟨h3,h4⟩=>⟨by rw[h3];simp[jby];omega,h4.symm⟩
 have hp:2^b<=2^8:=Nat.pow_le_pow_right (by omega) h2
 have hw:IntKind.i64.wrap (2^b)=((2^b:Nat):Int):=by
  have h9:∀ n:Nat,n<=256->IntKind.i64.wrap (n:Int)=n:=fun n h=>IntWalk.i64_in _ (by omega)
  simpa using h9 (2^b) hp
 unfold jaY;generalize 2^b=len at hp hw ⊢;obtain⟨W0,hW0,hX0,hB0,hs0⟩:=jah w #[.int .i64 0,.string ⟨#[]⟩,.slice none 0 0,.nilFunc] 331;obtain⟨W1,hmk,hr1,hB1,hs1⟩:=jkg W0 len (by omega);have hX1:=(hB1.block _ (by omega)).trans hX0;rw[hs0] at hmk hr1;obtain⟨d0,d1,d2,d3⟩:=cl4 hX1;obtain⟨f0,f1,f2,f3⟩:=cz4 hX1;have HR:=Lib.hid hr1;have HB:=Lib.hid (hB0.trans (hB1.mono hB0.size));obtain⟨W4,hW4⟩:∃ W4,((W1.setCell ⟨w.heap.size,0,none⟩ (.int .i64 b)).setCell ⟨w.heap.size,1,none⟩ (.string ⟨#[]⟩)).setCell ⟨w.heap.size,2,none⟩ (.slice (some ⟨w.heap.size+1,0,none⟩) len len)=W4:=⟨_,rfl⟩;have hX4:W4.heap[w.heap.size]? = some (.cells #[.int .i64 b,.string ⟨#[]⟩,.slice (some ⟨w.heap.size+1,0,none⟩) len len,.nilFunc] 331 (0,0)):=by rw[<- hW4];exact hSk (hSk (hSk hX1 _) _) _
 have hB4:Below w.heap.size w W4:=by rw[<- hW4];exact (((hB0.trans (hB1.mono hB0.size)).setCell (p:=⟨w.heap.size,0,none⟩) (Nat.le_refl _) _).setCell (p:=⟨w.heap.size,1,none⟩) (Nat.le_refl _) _).setCell (p:=⟨w.heap.size,2,none⟩) (Nat.le_refl _) _
 have hr4:RegsAt W4 (w.heap.size+1) (List.replicate len 0):=by rw[<- hW4];exact ((hr1.other (by omega) _).other (by omega) _).other (by omega) _
 have hst:=jrk (off:=3) hX4 rfl (.func 265);clear hp hX0 hX1 hr1 hB0 hB1 hs1;go_enter Tryz.func259,Tryz.ntmps259;go_wp2_with (first | (go_at_call 216;refine (hib _).mono ?_;rintro e w' ⟨rfl,rfl⟩) | fail);have hX5:(W4.setCell ⟨w.heap.size,3,none⟩ (.func (.func 265) #[] #[])).heap[w.heap.size]? = some (.cells #[.int .i64 b,.string ⟨#[]⟩,.slice (some ⟨w.heap.size+1,0,none⟩) len len,.func (.func 265) #[] #[]] 331 (0,0)):=hSk hX4 _;have hB5:=hB4.setCell (p:=⟨w.heap.size,3,none⟩) (Nat.le_refl _) (.func (.func 265) #[] #[]);have hr5:=hr4.other (b:=w.heap.size) (o:=3) (by omega) (.func (.func 265) #[] #[]);generalize W4.setCell ⟨w.heap.size,3,none⟩ (.func (.func 265) #[] #[])=V at hX5 hB5 hr5 ⊢;obtain⟨k0,k1,k2,k3⟩:=cl4 hX5;exact bodyPost_ret (v:=.tuple #[.agg #[.int .i64 b,.string ⟨#[]⟩,.slice (some ⟨w.heap.size+1,0,none⟩) len len,.func (.func 265) #[] #[]],.nilIface]) (by simp[results,Tryz.f259,go_sem,k0,k1,k2,k3]) rfl ⟨_,rfl,hr5,Nat.le_succ _,hB5⟩
theorem jjz (W:World) (s:ByteArray):∃ W1 cap,(convert 9 191 (.string s)).run Tryz.prog W=.ok (.slice (some ⟨W.heap.size,0,none⟩) s.size cap) W1/\RegsAt W1 W.heap.size (s.data.toList.map (·.toNat))/\Below W.heap.size W W1/\W1.heap.size=W.heap.size+1:=by
 refine⟨_,_,Lib.run_convert_string_bytes W 9 191 5 s Tryz.underlying9 jfm Tryz.underlying5,⟨_,_,Lib.bytesWorld_at_new W 5 s,fun j x hx=>?_,.inr ?_⟩,?_,Lib.bytesWorld_size W _ s⟩
 ·rw[List.getElem?_map] at hx
  cases hb:s.data.toList[j]? with
  | none=>rw[hb] at hx;cases hx
  | some y =>
   rw[hb] at hx
   cases hx
   have hj:=(List.getElem?_eq_some_iff.1 hb).1;rw[Array.length_toList] at hj;unfold Lib.bytesCells;rw[Array.getElem?_append_left (by simpa using hj),Array.getElem?_map,<- Array.getElem?_toList,hb];rfl
 ·simp[Lib.bytesCells]
 ·exact (Below.refl _ W).grown (row:=none) ⟨rfl,rfl,rfl,by rw[Lib.bytesWorld_size];omega,fun k hk _=>Lib.bytesWorld_at_old W _ s k hk⟩ (Nat.le_refl _) (fun k e=>by cases e)
end Go.Proofs.YtieknocphiceoaaGreatDoor
