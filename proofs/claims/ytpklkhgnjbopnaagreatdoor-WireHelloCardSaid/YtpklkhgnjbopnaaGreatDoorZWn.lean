/- Package frame: Make. Package wire: made, Ask. Package wire: framed. Package wire: messageOf. errors.As at a target of type **frame.fault: lines of the worked example ToyasAs turned to this program; frame.errno, isFull. Package frame: read. Package frame: read, the check. Printed by gen_wn.py. -/
import Derived.Test.YtpklkhgnjbopnaaGreatDoorZWf
namespace Go.Proofs.YtpklkhgnjbopnaaGreatDoor
open Go Go.RowKit Go.Shelf
theorem und_bytes' : Tryz.prog.underlying 84 = some (.slice 5) := by kernel_rfl
theorem und_string' : Tryz.prog.underlying 9 = some .string := by kernel_rfl
theorem info_u8' : (Tryz.prog.info? 5).map (fun i => (i.zero, i.size, i.bytes)) = some (some (.int .u8 0), 1, 1) := by kernel_rfl
def encY (x : UInt8) : List Value := [.int .u8 x.toNat]
theorem encY_cells (l : List UInt8) : l.flatMap encY = Lib.byteCells l := by
 induction l with
 | nil => rfl
 | cons x l ih => rw [List.flatMap_cons, ih]; rfl
set_option maxRecDepth 100000 in
theorem four_cells (n : Nat) (hn : n < 4294967296) : #[Value.int .u8 ((n : Int) / 16777216), .int .u8 ((n : Int) / 65536 % 256), .int .u8 ((n : Int) / 256 % 256), .int .u8 ((n : Int) % 256)] = (Lib.byteCells (fourB n)).toArray := by
 have e : (n : Int) / 16777216 = ((n / 16777216 % 256 : Nat) : Int) := by omega
 have e2 : (n : Int) / 65536 % 256 = ((n / 65536 % 256 : Nat) : Int) := by omega
 have e3 : (n : Int) / 256 % 256 = ((n / 256 % 256 : Nat) : Int) := by omega
 have e4 : (n : Int) % 256 = ((n % 256 : Nat) : Int) := by omega
 rw [e, e2, e3, e4, ← u8_of (n / 16777216), ← u8_of (n / 65536), ← u8_of (n / 256), ← u8_of n]
 rfl
theorem nums_bytes (l : List UInt8) : strOfNums (l.map fun b => (b.toNat : Int)) = ⟨l.toArray⟩ := by
 have h : ((fun n : Int => UInt8.ofNat n.toNat) ∘ fun b : UInt8 => (b.toNat : Int)) = id := funext fun b => by
  show UInt8.ofNat ((b.toNat : Int)).toNat = b
  rw [Int.toNat_natCast]
  exact UInt8.ofNat_toNat
 unfold strOfNums
 rw [List.map_map, h, List.map_id]
attribute [-go_sem] Builtin.append_
set_option maxRecDepth 100000 in
set_option maxHeartbeats 1000000 in
theorem Make_ok (s : ByteArray) (h1 : 0 < s.size) (h2 : s.size ≤ 2000) (w : World) :
  Calls Tryz.prog 73 #[.string s] w fun e w' => e = .returned (.tuple #[.string ⟨(mkF s.data.toList).toArray⟩, .int .i64 0]) ∧ Below w.heap.size w w' := by
 have he2 : s.toList.isEmpty = false := by
  rw [toList_isEmpty, beq_eq_false_iff_ne]
  omega
 have hne : ¬ s.toList = [] := by
  intro e
  rw [e] at he2
  cases he2
 obtain ⟨W, hW, hX, hB, hsz⟩ := boxes1 w #[.int .u8 167] 5
 have hP := field_Put_any (s.size : Int) W ⟨by omega, by omega⟩
 have HP := Lib.hid hP
 have hown : W.ownsRow w.heap.size 5 1 (.slice (some ⟨w.heap.size, 0, none⟩) 1 1) 1 (Lib.byteCells [167]) := ⟨rfl, .inr ⟨w.heap.size, 1, #[.int .u8 167], rfl, Nat.le_refl _, hX, Nat.le_refl _, by unfold maxLen; omega, rfl, rfl⟩⟩
 have HO := Lib.hid hown
 have HB := Lib.hid hB
 have HZ : Hid (w.heap.size ≤ W.heap.size) := by rw [Hid]; omega
 clear hX hB hsz hP hown
 have hle : ¬ (2000 < (s.size : Int)) := by omega
 go_enter Tryz.func73, Tryz.ntmps73
 go_wp2_with fail
 refine HP.out.mono ?_
 rintro e w1 ⟨rfl, hb1⟩
 obtain ⟨iu, hi, hz0, hz1, hz2⟩ := info_parts info_u8'
 have hpl : (strOfNums (putNums s.size)).size ≤ 9 := by rw [strOfNums_size]; have := numsB_one_len (s.size : Int); rw [numsB_one, List.length_map] at this; exact this.2
 obtain ⟨v1, w2, hap1, ho1, hg1, -⟩ := Lib.run_append_own_string (P := Tryz.prog) w1 w.heap.size 84 9 84 5 iu und_bytes' und_string' hi hz0 hz1 hz2 _ 1 _ (owns_go8 HO.out hb1) (strOfNums (putNums s.size)) (by unfold maxLen; omega) (by omega) (Nat.le_trans HZ.out hb1.size)
 have HO1 := Lib.hid ho1
 have hb1' : Below w.heap.size w w1 := HB.out.trans (hb1.mono HZ.out)
 have HB1 : Hid (Below w.heap.size w w2) := hb1'.grown hg1 hb1'.size (fun k hk => ((owns_go8 HO.out hb1).lt k hk).1)
 have HZ1 : Hid (w.heap.size ≤ w2.heap.size) := HB1.out.size
 obtain ⟨v2, w3, hap2, ho2, hg2, -⟩ := Lib.run_append_own_string (P := Tryz.prog) w2 w.heap.size 84 9 84 5 iu und_bytes' und_string' hi hz0 hz1 hz2 _ _ _ HO1.out s (by unfold maxLen; omega) (by omega) HZ1.out
 have HO2 := Lib.hid ho2
 have HB2 : Hid (Below w.heap.size w w3) := HB1.out.grown hg2 HB1.out.size (fun k hk => (HO1.out.lt k hk).1)
 have HZ2 : Hid (w.heap.size ≤ w3.heap.size) := HB2.out.size
 have HC := Lib.hid (Check_any s (by omega) w3)
 clear hb1 ho1 hg1 ho2 hg2 hb1' hi hz0 hz1 hz2
 go_wp2_with fail
 refine HC.out.mono ?_
 rintro e w4 ⟨rfl, hb4⟩
 have hn := checkN_lt s.data.toList
 obtain ⟨n, hcn⟩ : ∃ n, checkN s.data.toList = n := ⟨_, rfl⟩
 rw [hcn] at hn ⊢
 have HB4 : Hid (Below w.heap.size w w4) := HB2.out.trans (hb4.mono HZ2.out)
 have hO4 := owns_go8 HO2.out hb4
 obtain ⟨Z, hZ, hZX, hZB, hZs⟩ := boxes1 w4 #[.int .u8 ((n : Int) / 16777216), .int .u8 ((n : Int) / 65536 % 256), .int .u8 ((n : Int) / 256 % 256), .int .u8 ((n : Int) % 256)] 5
 rw [four_cells n hn] at hZX
 have hsrc : SlE encY 1 Z.heap.size Z (some ⟨w4.heap.size, 0, none⟩) 4 (fourB n) := ⟨rfl, fun j x hx => ⟨_, 0, rfl, by omega, fun i hi => by
  obtain rfl : i = 0 := by omega
  rw [show 0 + j * 1 + 0 = j by omega, cCc hZX j]
  unfold Lib.byteCells
  simp [encY, hx]⟩⟩
 have hbZ : Below w.heap.size w Z := HB4.out.trans (hZB.mono HB4.out.size)
 obtain ⟨v5, w5, hap5, ho5, hB5, -⟩ := append_elems Tryz.prog (w0 := w) (B := w.heap.size) (base := w.heap.size) (cap := 4) 84 und_bytes' info_u8' rfl (by decide) (owns_go8 hO4 hZB) hbZ (Nat.le_refl _) hbZ.size (fun x => rfl) hsrc (fun x u hu => by simp [encY] at hu; subst hu; rfl) (by omega) (by omega) (by decide)
 have hall : Lib.byteCells [167] ++ Lib.strCells (strOfNums (putNums s.size)) ++ Lib.strCells s ++ (fourB n).flatMap encY = ((mkF s.data.toList).map fun b => (b.toNat : Int)).map (Value.int .u8) := by
  rw [encY_cells, strCells_nums, Lib.strCells_eq, ← Lib.byteCells_append, ← Lib.byteCells_append, ← Lib.byteCells_append]
  unfold mkF Lib.byteCells
  rw [hcn, numsB_one, List.map_map, Array.length_toList, List.append_assoc, List.append_assoc]
  rfl
 rw [hall] at ho5
 have hlen : 1 + (strOfNums (putNums s.size)).size + s.size + 4 = ((mkF s.data.toList).map fun b => (b.toNat : Int)).length := by
  have := ho5.1
  rw [List.length_map] at this
  omega
 have hcv := conv_own _ hlen (by omega) ho5
 have hst : strOfNums ((mkF s.data.toList).map fun b => (b.toNat : Int)) = ⟨(mkF s.data.toList).toArray⟩ := nums_bytes _
 rw [hst] at hcv
 have HB5 := Lib.hid hB5
 clear hb4 HC hO4 hZX hZB hZs hsrc hbZ ho5 hB5 hall hlen hst
 go_wp2_with fail
 go_ret2
 exact ⟨rfl, HB5.out⟩
end Go.Proofs.YtpklkhgnjbopnaaGreatDoor
namespace Go.Proofs.YtpklkhgnjbopnaaGreatDoor
open Go Go.RowKit Go.Shelf
set_option maxHeartbeats 1000000 in
theorem made_ok (s : ByteArray) (h1 : 0 < s.size) (h2 : s.size ≤ 2000) (w : World) :
  CR 49 #[.string s] w (.tuple #[.string ⟨(mkF s.data.toList).toArray⟩, .int .i64 0]) := by
 have HM := Lib.hid (Make_ok s h1 h2 w)
 go_enter Tryz.func49, Tryz.ntmps49
 go_wp2_with fail
 refine HM.out.mono ?_
 rintro e w1 ⟨rfl, hb⟩
 have HB := Lib.hid hb
 clear hb HM
 go_wp2_with fail
 go_ret2
 exact ⟨rfl, HB.out⟩
theorem askB_len {r : Rq} (h : r.ok = true) : 0 < (askB r).length ∧ (askB r).length ≤ 2000 := by
 unfold Rq.ok at h
 simp only [Bool.and_eq_true, decide_eq_true_eq] at h
 obtain ⟨⟨⟨⟨⟨⟨⟨_, _⟩, _⟩, _⟩, h5⟩, h6⟩, h7⟩, h8⟩ := h
 have e1 := (numsB_one_len r.op).2
 have e2 := (numsB_one_len r.now).2
 have e3 := textB_len r.labels
 have e4 := textB_len r.scope
 have e5 := (numsB_one_len r.kind).2
 have e6 := (numsB_one_len (r.items.length : Int)).2
 have e7 := itemsB_len r.items
 have e8 := (numsB_one_len r.h).2
 have e9 := (numsB_one_len r.tnt).2
 have e10 := (numsB_one_len r.id).2
 have e11 := (numsB_one_len (r.tens.length : Int)).2
 have e12 := (numsB_len r.tens).2
 unfold askB Rq.B
 simp only [List.length_cons, List.length_append]
 omega
set_option maxRecDepth 100000 in
set_option maxHeartbeats 1000000 in
theorem Ask_ok (r : Rq) (ia : Option Addr) (ic : Nat) (ta : Option Addr) (tc : Nat) (w : World) (hw : r.Wf) (hl : r.labels.size < 4294967281) (hs : r.scope.size < 4294967281) (hI : SlE encIt 2 w.heap.size w ia r.items.length r.items) (hT : SlE encU 1 w.heap.size w ta r.tens.length r.tens) (hok : r.ok = true) :
  CR 28 #[.agg (rqV r ia ic ta tc)] w (.tuple #[.string ⟨(mkF (askB r)).toArray⟩, .int .i64 0]) := by
 obtain ⟨W, hW, hX, hB, hsz⟩ := boxes1 w (rqV r ia ic ta tc) 56
 have hP := PutReq_any r ia ic ta tc W hw hl hs (hI.go hB) (hT.go hB)
 rw [hok] at hP
 change CR 19 _ W (.tuple #[.string ⟨r.B.toArray⟩, .int .i64 0]) at hP
 unfold rqV at hP hX hW ⊢
 obtain ⟨c0, c1, c2, c3, c4, c5, c6, c7, c8, c9⟩ := cl10 hX
 have HP := Lib.hid hP
 have HBW := Lib.hid hB
 clear hP hX hB hsz hI hT
 go_enter Tryz.func28, Tryz.ntmps28
 go_wp2_with fail
 refine HP.out.mono ?_
 rintro e w1 ⟨rfl, hb⟩
 have HB : Hid (Below w.heap.size w w1) := HBW.out.trans (hb.mono HBW.out.size)
 clear hb HP
 obtain ⟨W2, hW2, -, hB2, -⟩ := boxes1 w1 #[.int .u8 2] 5
 have hcv : (convert 84 9 (.slice (some ⟨w1.heap.size, 0, none⟩) 1 1)).run Tryz.prog (w1.alloc (.cells #[.int .u8 2] 5)) = .ok (.string ⟨#[2]⟩) (w1.alloc (.cells #[.int .u8 2] 5)) := conv_new w1 [2] 1
 rw [hW2] at hcv
 have HB2 : Hid (Below w.heap.size w W2) := HB.out.trans (hB2.mono HB.out.size)
 have hL := askB_len hok
 have hd : ((⟨#[2]⟩ : ByteArray) ++ ⟨r.B.toArray⟩).data.toList = askB r := by rw [ByteArray.data_append]; simp [askB]
 have hz : ((⟨#[2]⟩ : ByteArray) ++ ⟨r.B.toArray⟩).size = (askB r).length := by rw [← hd]; exact Array.length_toList.symm
 have HM := Lib.hid (made_ok ((⟨#[2]⟩ : ByteArray) ++ ⟨r.B.toArray⟩) (by omega) (by omega) W2)
 rw [hd] at HM
 have hnl : ¬ 9223372036854775807 < 1 + r.B.length := by have h := hL.2; unfold askB at h; rw [List.length_cons] at h; omega
 clear hB2 hd hz hL
 go_wp2_with fail
 refine HM.out.mono ?_
 rintro e w3 ⟨rfl, hb⟩
 have HB3 : Hid (Below w.heap.size w w3) := HB2.out.trans (hb.mono HB2.out.size)
 clear hb HM
 go_wp2_with fail
 go_ret2
 exact ⟨rfl, HB3.out⟩
end Go.Proofs.YtpklkhgnjbopnaaGreatDoor
namespace Go.Proofs.YtpklkhgnjbopnaaGreatDoor
open Go Go.RowKit Go.Shelf
set_option maxRecDepth 100000 in
set_option maxHeartbeats 1000000 in
theorem framed_ok (y : Ry) (na : Option Addr) (nc : Nat) (ea : Option Addr) (ec : Nat) (w : World) (hn : U64 y.n) (he : ∀ x ∈ y.ents, (U64 x.seq ∧ U64 x.tm ∧ U64 x.sum) ∧ x.text.size < 4294967281) (hI : SlE encI 1 w.heap.size w na y.nots.length y.nots) (hE : SlE Ent.enc 4 w.heap.size w ea y.ents.length y.ents) (hok : y.ok = true) (h0 : 0 < y.B.length) (h1 : y.B.length ≤ 2000) :
  CR 37 #[.agg (ryV y na nc ea ec)] w (.string ⟨(mkF y.B).toArray⟩) := by
 obtain ⟨W, hW, hX, hB, hsz⟩ := boxes1 w (ryV y na nc ea ec) 60
 have hP := PutReply_any y na nc ea ec W hn he (hI.go hB) (hE.go hB)
 rw [hok] at hP
 change CR 21 _ W (.tuple #[.string ⟨y.B.toArray⟩, .int .i64 0]) at hP
 unfold ryV at hP hX hW ⊢
 obtain ⟨c0, c1, c2, c3⟩ := cl4 hX
 have HP := Lib.hid hP
 have HBW := Lib.hid hB
 have HM : Hid (∀ W, Calls Tryz.prog 73 #[.string ⟨y.B.toArray⟩] W fun e w' => e = .returned (.tuple #[.string ⟨(mkF y.B).toArray⟩, .int .i64 0]) ∧ Below W.heap.size W w') := fun W => Make_ok ⟨y.B.toArray⟩ h0 h1 W
 clear hP hX hB hsz hI hE h0 h1
 go_enter Tryz.func37, Tryz.ntmps37
 go_wp2_with fail
 refine HP.out.mono ?_
 rintro e w1 ⟨rfl, hb⟩
 have HB : Hid (Below w.heap.size w w1) := HBW.out.trans (hb.mono HBW.out.size)
 clear hb HP
 go_wp2_with fail
 refine (HM.out _).mono ?_
 rintro e w2 ⟨rfl, hb⟩
 have HB2 : Hid (Below w.heap.size w w2) := HB.out.trans (hb.mono HB.out.size)
 clear hb HM
 go_wp2_with fail
 go_ret
 exact ⟨rfl, HB2.out⟩
end Go.Proofs.YtpklkhgnjbopnaaGreatDoor
namespace Go.Proofs.YtpklkhgnjbopnaaGreatDoor
open Go Go.RowKit Go.Shelf
def MsgPost (m : Msg) (w : World) (e : Ending) (w' : World) : Prop := (match m with
 | .hello now tok => e = .returned (.iface 150 (.agg #[.int .u64 now, .string tok]))
 | .ask q => ∃ ia ic ta tc, e = .returned (.iface 152 (.agg (rqV q ia ic ta tc))) ∧ SlE encIt 2 w'.heap.size w' ia q.items.length q.items ∧ SlE encU 1 w'.heap.size w' ta q.tens.length q.tens
 | .noise => e = .returned (.iface 198 (.agg #[]))) ∧ Below w.heap.size w w'
set_option maxRecDepth 100000 in
set_option maxHeartbeats 1000000 in
theorem message_none (s : ByteArray) (h : s.size = 0) (w : World) : Calls Tryz.prog 74 #[.string s] w (MsgPost .noise w) := by
 have he2 : s.toList.isEmpty = true := by rw [toList_isEmpty, h]; rfl
 have hne : s.toList = [] := List.isEmpty_iff.1 he2
 go_enter Tryz.func74, Tryz.ntmps74
 go_wp2_with fail
 go_ret
 exact ⟨rfl, Below.refl _ _⟩
set_option maxRecDepth 100000 in
set_option maxHeartbeats 4000000 in
theorem message_other (s t : ByteArray) (f : UInt8) (hlt : 0 < s.size) (hf : s[0]'hlt = f) (_ht : s.extract 1 s.size = t) (h1 : f ≠ 1) (h2 : f ≠ 2) (w : World) : Calls Tryz.prog 74 #[.string s] w (MsgPost .noise w) := by
 have he2 : s.toList.isEmpty = false := by
  rw [toList_isEmpty, beq_eq_false_iff_ne]
  omega
 have hne : ¬ s.toList = [] := by
  intro e
  rw [e] at he2
  cases he2
 have g1 : ¬ (f.toNat : Int) = 1 := fun e => h1 (UInt8.toNat_inj.1 (by have h : (1 : UInt8).toNat = 1 := rfl; omega))
 have g2 : ¬ (f.toNat : Int) = 2 := fun e => h2 (UInt8.toNat_inj.1 (by have h : (2 : UInt8).toNat = 2 := rfl; omega))
 go_enter Tryz.func74, Tryz.ntmps74
 go_wp2_with fail
 go_ret
 exact ⟨rfl, Below.refl _ _⟩
set_option maxRecDepth 100000 in
set_option maxHeartbeats 4000000 in
theorem message_ask (s t : ByteArray) (fm ff : Addr) (hlt : 0 < s.size) (hf : s[0]'hlt = 2) (ht : s.extract 1 s.size = t) (hz : t.size < 4294967281) (w : World) (hE : ∀ W, Below w.heap.size w W → GF fm ff W) : Calls Tryz.prog 74 #[.string s] w (MsgPost (match getRq t.data.toList with | some q => .ask q | none => .noise) w) := by
 have he2 : s.toList.isEmpty = false := by
  rw [toList_isEmpty, beq_eq_false_iff_ne]
  omega
 have hne : ¬ s.toList = [] := by
  intro e
  rw [e] at he2
  cases he2
 have HG := Lib.hid (GetReq_any t fm ff w hz hE)
 obtain ⟨o, ho⟩ : ∃ o, getRq t.data.toList = o := ⟨_, rfl⟩
 rw [ho] at HG ⊢
 obtain ⟨P, hP⟩ : ∃ P, MsgPost (match o with | some q => .ask q | none => .noise) w = P := ⟨_, rfl⟩
 rw [hP]
 have HP := Lib.hid hP
 clear hP hE ho hz
 go_enter Tryz.func74, Tryz.ntmps74
 go_wp2_with fail
 refine HG.out.mono ?_
 rintro e w1 ⟨h, hb⟩
 have HB := Lib.hid hb
 clear hb HG
 cases o with
 | none =>
  obtain rfl := h
  have HF : Hid (P = MsgPost .noise w) := HP.out.symm
  obtain ⟨X, hX, hXX, hXB, -⟩ := boxes1 w1 #[.int .i64 0, .int .u64 0, .string ⟨#[]⟩, .string ⟨#[]⟩, .int .i64 0, .slice none 0 0, .int .u64 0, .int .u64 0, .int .u64 0, .slice none 0 0] 56
  obtain ⟨c0, c1, c2, c3, c4, c5, c6, c7, c8, c9⟩ := cl10 hXX
  obtain ⟨f0, f1, f2, f3, f4, f5, f6, f7, f8, f9⟩ := cz10 hXX
  obtain ⟨V, hV, hVX, hVB, -⟩ := stor10 (.int .i64 0) (.int .u64 0) (.string ⟨#[]⟩) (.string ⟨#[]⟩) (.int .i64 0) (.slice none 0 0) (.int .u64 0) (.int .u64 0) (.int .u64 0) (.slice none 0 0) hXX (HB.out.trans (hXB.mono HB.out.size)) HB.out.size
  have HBX : Hid (Below w.heap.size w V) := hVB
  clear HP hXX hXB hVX hVB
  unfold rqZ
  go_wp2_with fail
  rw [HF.out]
  exact ⟨rfl, HBX.out⟩
 | some q =>
  obtain ⟨ia, ic, ta, tc, rfl, h1, h2⟩ := h
  have HF : Hid (P = MsgPost (.ask q) w) := HP.out.symm
  obtain ⟨X, hX, hXX, hXB, -⟩ := boxes1 w1 #[.int .i64 q.op, .int .u64 q.now, .string q.labels, .string q.scope, .int .i64 q.kind, .slice ia q.items.length ic, .int .u64 q.h, .int .u64 q.tnt, .int .u64 q.id, .slice ta q.tens.length tc] 56
  obtain ⟨c0, c1, c2, c3, c4, c5, c6, c7, c8, c9⟩ := cl10 hXX
  have HBX : Hid (Below w.heap.size w X) := HB.out.trans (hXB.mono HB.out.size)
  have HS := Lib.hid (And.intro (h1.go hXB) (h2.go hXB))
  clear HP h1 h2 hXX hXB
  unfold rqV
  go_wp2_with fail
  rw [HF.out]
  exact ⟨⟨ia, ic, ta, tc, rfl, HS.out.1, HS.out.2⟩, HBX.out⟩
set_option maxRecDepth 100000 in
set_option maxHeartbeats 4000000 in
theorem message_hello (s t : ByteArray) (fm ff : Addr) (hlt : 0 < s.size) (hf : s[0]'hlt = 1) (ht : s.extract 1 s.size = t) (hz : t.size < 4294967281) (w : World) (hE : ∀ W, Below w.heap.size w W → GF fm ff W) : Calls Tryz.prog 74 #[.string s] w (MsgPost (if (rdHel t.data.toList).2 = some [] then .hello (rdHel t.data.toList).1.1 (rdHel t.data.toList).1.2 else .noise) w) := by
 have he2 : s.toList.isEmpty = false := by
  rw [toList_isEmpty, beq_eq_false_iff_ne]
  omega
 have hne : ¬ s.toList = [] := by
  intro e
  rw [e] at he2
  cases he2
 obtain ⟨P, hP⟩ : ∃ P, MsgPost (if (rdHel t.data.toList).2 = some [] then .hello (rdHel t.data.toList).1.1 (rdHel t.data.toList).1.2 else .noise) w = P := ⟨_, rfl⟩
 rw [hP]
 have HP := Lib.hid hP
 clear hP
 obtain ⟨W, hW, hX, hB, hsz⟩ := boxes1 w #[.string t, .bool false] 130
 obtain ⟨l, hl⟩ : ∃ l, t.data.toList = l := ⟨_, rfl⟩
 have hll : l.length < 4294967281 := by rw [← hl, Array.length_toList]; exact hz
 have hsl : t = ⟨l.toArray⟩ := by rw [← hl]
 have HR : Hid (RdAt w.heap.size (some l) W) := ⟨hll, by rw [← hsl]; exact hX⟩
 have HB := Lib.hid hB
 have HE := Lib.hid hE
 rw [hl] at HP
 obtain ⟨a0, s0, ha⟩ : ∃ a s, rNum (some l) = (a, s) := ⟨_, _, rfl⟩
 have hc := rdnum_x w.heap.size (some l) fm ff W HR.out (hE _ hB)
 rw [ha] at hc
 have HA0 := Lib.hid ha
 have HC := Lib.hid hc
 clear hX hB hsz hl hll hsl hE ha hc
 go_enter Tryz.func74, Tryz.ntmps74
 go_wp2_with fail
 refine HC.out.mono ?_
 rintro e w1 ⟨rfl, hr, hk⟩
 have HR1 := Lib.hid hr
 have HB1 : Hid (Below w.heap.size w w1) := HB.out.trans (hk.below (fun k hk => Nat.ne_of_lt hk) HB.out.size)
 obtain ⟨a1, s1, ha⟩ : ∃ a s, rText s0 = (a, s) := ⟨_, _, rfl⟩
 have hc := rdtext_x w.heap.size s0 fm ff w1 HR1.out (fun X hb => HE.out X (HB1.out.trans (hb.mono HB1.out.size)))
 rw [ha] at hc
 have HA1 := Lib.hid ha
 have HC1 := Lib.hid hc
 clear hr hk HC ha hc
 go_wp2_with fail
 refine HC1.out.mono ?_
 rintro e w2 ⟨rfl, hr, hk⟩
 have HB2 : Hid (Below w.heap.size w w2) := HB1.out.trans (hk.below (fun k hk => Nat.ne_of_lt hk) HB1.out.size)
 obtain ⟨ok, hok⟩ : ∃ ok, decide (s1 = some []) = ok := ⟨_, rfl⟩
 have hc := rdended_x w.heap.size s1 w2 hr
 rw [hok] at hc
 have HC2 := Lib.hid hc
 have HOK := Lib.hid hok
 clear hr hk HC1 hc hok
 go_wp2_with fail
 refine HC2.out.mono ?_
 rintro e w3 ⟨rfl, hk, hr⟩
 have HB3 : Hid (Below w.heap.size w w3) := HB2.out.trans (hk.below (fun k hk => Nat.ne_of_lt hk) HB2.out.size)
 clear hr hk HC2
 have hH : rdHel l = ((a0, a1), s1) := by
  unfold rdHel
  simp only [HA0.out, HA1.out]
 cases ok with
 | true =>
  have hs1 := decide_eq_true_iff.1 HOK.out
  have HF : Hid (P = MsgPost (.hello a0 a1) w) := by rw [Hid, ← HP.out, hH, hs1]; rfl
  clear hH hs1
  go_wp2_with fail
  rw [HF.out]
  exact ⟨rfl, HB3.out⟩
 | false =>
  have hs1 := decide_eq_false_iff_not.1 HOK.out
  have HF : Hid (P = MsgPost .noise w) := by rw [Hid, ← HP.out, hH, if_neg hs1]
  clear hH hs1
  go_wp2_with fail
  rw [HF.out]
  exact ⟨rfl, HB3.out⟩
theorem head_tail (s t : ByteArray) (f : UInt8) (hlt : 0 < s.size) (hf : s[0]'hlt = f) (ht : s.extract 1 s.size = t) : s.data.toList = f :: t.data.toList := by
 rw [← ht, extract_tail]
 have h2 : 0 < s.data.toList.length := by rw [Array.length_toList]; exact hlt
 have h3 : s.data.toList[0]'h2 = f := by rw [← hf]; rfl
 generalize s.data.toList = q at h2 h3 ⊢
 cases q with
 | nil => simp at h2
 | cons x q => simp at h3; rw [h3]; rfl
theorem message_any (s : ByteArray) (fm ff : Addr) (hs : s.size < 4294967281) (w : World) (hE : ∀ W, Below w.heap.size w W → GF fm ff W) : Calls Tryz.prog 74 #[.string s] w (MsgPost (msgOf s.data.toList) w) := by
 by_cases h0 : s.size = 0
 ·have e : s.data.toList = [] := List.eq_nil_of_length_eq_zero (by rw [Array.length_toList]; exact h0)
  rw [e]
  exact message_none s h0 w
 ·have hlt : 0 < s.size := by omega
  have e := head_tail s _ _ hlt rfl rfl
  have hz : (s.extract 1 s.size).size < 4294967281 := by rw [ByteArray.size_extract]; omega
  rw [e]
  unfold msgOf
  dsimp only
  split
  ·rename_i h1
   exact message_hello s _ fm ff hlt h1 rfl hz w hE
  ·rename_i h1
   split
   ·rename_i h2
    exact message_ask s _ fm ff hlt h2 rfl hz w hE
   ·rename_i h2
    exact message_other s _ _ hlt rfl rfl h1 h2 w
end Go.Proofs.YtpklkhgnjbopnaaGreatDoor
namespace Go.Proofs.YtpklkhgnjbopnaaGreatDoor.Fr
open Go Go.RowKit Go.Extern.Stop Go.Stop Go.Extern
def FaultAt (W : World) (v : Value) (no : Int) : Prop := ∃ b, v = .iface 189 (.pointer (some ⟨b, 0, none⟩)) ∧ W.heap[b]? = some (.cells #[.int .i64 no] 191 (0, 0))
theorem as_nil (t : Value) (w : World) :
  Calls Tryz.prog 97 #[.nilIface, t] w fun e w' => e = .returned (.bool false) ∧ w' = w := by
 go_enter Tryz.func97, Tryz.ntmps97
 go_wp2
 go_ret
 exact ⟨rfl, rfl⟩
theorem as_valueOf27 (t : Addr) (w : World) : (ReflectliteValue.unpack (.iface 193 (.pointer (some t)))).run Tryz.prog w
  = .ok (.agg #[.pointer (some ⟨6, 193, none⟩), .pointer (some ⟨w.heap.size, 0, none⟩), .int .u64 150]) (w.alloc (.cells #[.pointer (some t)] 193)) := by kernel_rfl
theorem as_type27 (a : Addr) (w : World) : (ReflectliteValue.methodAny (ReflectliteValue.valueError "reflectlite.Value.Type" 0) (fun t _ _ _ => ReflectliteType.toType t) #[.agg #[.pointer (some ⟨6, 193, none⟩), .pointer (some a), .int .u64 150]]).run Tryz.prog w
  = .ok (.iface 283 (.agg #[.pointer (some ⟨6, 193, none⟩)])) w := by kernel_rfl
theorem as_methodKind (h : Value) (w : World) : (Go.method 742 283 (.agg #[h]) "Kind").run Tryz.prog w = .ok (342, h) w := by kernel_rfl
theorem as_kind27 (w : World) : ((ReflectliteType.abiMethod fun t => (fun a : Nat => Value.int IntKind.u8 (a : Int)) <$> Rtype.kind t) #[.pointer (some ⟨6, 193, none⟩)]).run Tryz.prog w = .ok (.int .u8 22) w := by kernel_rfl
theorem as_kind25 (w : World) : ((ReflectliteType.abiMethod fun t => (fun a : Nat => Value.int IntKind.u8 (a : Int)) <$> Rtype.kind t) #[.pointer (some ⟨6, 189, none⟩)]).run Tryz.prog w = .ok (.int .u8 22) w := by kernel_rfl
theorem rlm (z : Sem Value) (f : TypeId → Addr → Nat → Nat → Sem Value) (v : Value) :
  ReflectliteValue.method z f #[v] = (do match ← ReflectliteValue.parts v with | none => z | some (t, a, fl) => f t a fl (fl % 32)) := rfl
theorem as_parts27 (a : Addr) (w : World) : (ReflectliteValue.parts (.agg #[.pointer (some ⟨6, 193, none⟩), .pointer (some a), .int .u64 150])).run Tryz.prog w = .ok (some (193, a, 150)) w := by kernel_rfl
theorem as_isNil27 (a p : Addr) (W : World) (ha : W.cell? a = some (.pointer (some p))) :
  (ReflectliteValue.method (ReflectliteValue.valueError "reflectlite.Value.IsNil" 0) ReflectliteValue.isNil #[.agg #[.pointer (some ⟨6, 193, none⟩), .pointer (some a), .int .u64 150]]).run Tryz.prog W = .ok (.bool false) W := by
 rw [rlm]
 simp only [Sem.run_bind, as_parts27, Result.andThen]
 simp [ReflectliteValue.isNil, loadVar, isAgg, underlying, Tryz.underlying193, ha, Result.andThen]
theorem as_methodElem (h : Value) (w : World) : (Go.method 742 283 (.agg #[h]) "Elem").run Tryz.prog w = .ok (358, .agg #[h]) w := by kernel_rfl
theorem as_methodImplements (h : Value) (w : World) : (Go.method 742 283 (.agg #[h]) "Implements").run Tryz.prog w = .ok (359, .agg #[h]) w := by kernel_rfl
theorem as_methodAssignableTo (h : Value) (w : World) : (Go.method 742 283 (.agg #[h]) "AssignableTo").run Tryz.prog w = .ok (356, .agg #[h]) w := by kernel_rfl
theorem as_elem27 (w : World) : (ReflectliteType.method ReflectliteType.elem #[.agg #[.pointer (some ⟨6, 193, none⟩)]]).run Tryz.prog w = .ok (.iface 283 (.agg #[.pointer (some ⟨6, 189, none⟩)])) w := by kernel_rfl
theorem as_implements25 (w : World) : (ReflectliteType.relation "Implements" ReflectliteType.implements_ #[.agg #[.pointer (some ⟨6, 189, none⟩)], .iface 283 (.agg #[.pointer (some ⟨6, 88, none⟩)])]).run Tryz.prog w = .ok (.bool true) w := by kernel_rfl
theorem as_typeOf25 (v : Value) (w : World) : (ReflectliteType.typeOf #[.iface 189 v]).run Tryz.prog w = .ok (.iface 283 (.agg #[.pointer (some ⟨6, 189, none⟩)])) w := by kernel_rfl
theorem as_assignable25 (w : World) : (ReflectliteType.relation "AssignableTo" ReflectliteType.assignableTo #[.agg #[.pointer (some ⟨6, 189, none⟩)], .iface 283 (.agg #[.pointer (some ⟨6, 189, none⟩)])]).run Tryz.prog w = .ok (.bool true) w := by kernel_rfl
theorem as_valueOf25 (e : Addr) (w : World) : (ReflectliteValue.unpack (.iface 189 (.pointer (some e)))).run Tryz.prog w
  = .ok (.agg #[.pointer (some ⟨6, 189, none⟩), .pointer (some ⟨w.heap.size, 0, none⟩), .int .u64 150]) (w.alloc (.cells #[.pointer (some e)] 189)) := by kernel_rfl
theorem as_elemOf27 (w : World) : (Rtype.elem? 193).run Tryz.prog w = .ok (some 189) w := by kernel_rfl
theorem as_mk25 (p : Addr) (w : World) : (ReflectliteValue.mk 189 p ReflectliteValue.flagAddr).run Tryz.prog w = .ok (.agg #[.pointer (some ⟨6, 189, none⟩), .pointer (some p), .int .u64 406]) w := by kernel_rfl
theorem as_elemV27 (a p : Addr) (W : World) (ha : W.cell? a = some (.pointer (some p))) :
  (ReflectliteValue.method (ReflectliteValue.valueError "reflectlite.Value.Elem" 0) ReflectliteValue.elem #[.agg #[.pointer (some ⟨6, 193, none⟩), .pointer (some a), .int .u64 150]]).run Tryz.prog W
   = .ok (.agg #[.pointer (some ⟨6, 189, none⟩), .pointer (some p), .int .u64 406]) W := by
 rw [rlm]
 simp only [Sem.run_bind, as_parts27, Result.andThen]
 simp [ReflectliteValue.elem, loadVar, isAgg, underlying, Tryz.underlying193, ha, Result.andThen, as_elemOf27, as_mk25]
theorem rls (v x : Value) : ReflectliteValue.set #[v, x] = (do
  let (some (dst, a, fl), some (src, b, _)) := (← ReflectliteValue.parts v, ← ReflectliteValue.parts x)
   | unsupported (.noEntry "extern/(internal/reflectlite.Value).Set.zeroValue")
  if fl / ReflectliteValue.flagAddr % 2 == 0 then unsupported (.noEntry "extern/(internal/reflectlite.Value).Set.unaddressable")
  let val ← loadVar src b
  if ← Rtype.directlyAssignable dst src then storeVar dst a val
  else if ← Rtype.implements dst src then
   if (← Rtype.kind src) == 20 then
    match val with
    | .nilIface => unsupported (.noEntry "extern/reflectlite: a nil value of one interface type handed on as a value of another")
    | _ => storeVar dst a val
   else storeVar dst a (.iface src val)
  else panicString ("reflectlite.Set: value of type " ++ (← Rtype.spelt src) ++ " is not assignable to type " ++ (← Rtype.spelt dst))
  pure (.tuple #[])) := rfl
theorem as_parts25a (a : Addr) (w : World) : (ReflectliteValue.parts (.agg #[.pointer (some ⟨6, 189, none⟩), .pointer (some a), .int .u64 406])).run Tryz.prog w = .ok (some (189, a, 406)) w := by kernel_rfl
theorem as_parts25 (a : Addr) (w : World) : (ReflectliteValue.parts (.agg #[.pointer (some ⟨6, 189, none⟩), .pointer (some a), .int .u64 150])).run Tryz.prog w = .ok (some (189, a, 150)) w := by kernel_rfl
theorem as_direct25 (w : World) : (Rtype.directlyAssignable 189 189).run Tryz.prog w = .ok true w := by kernel_rfl
theorem as_set25 (ta b e : Addr) (old : Value) (W : World) (hb : W.cell? b = some (.pointer (some e))) (ht : W.cell? ta = some old) (hf : W.frozen? ta = false) :
  (ReflectliteValue.set #[.agg #[.pointer (some ⟨6, 189, none⟩), .pointer (some ta), .int .u64 406], .agg #[.pointer (some ⟨6, 189, none⟩), .pointer (some b), .int .u64 150]]).run Tryz.prog W
   = .ok (.tuple #[]) (W.setCell ta (.pointer (some e))) := by
 rw [rls]
 simp only [Sem.run_bind, as_parts25a, as_parts25, Result.andThen]
 simp [ReflectliteValue.flagAddr, loadVar, isAgg, underlying, Tryz.underlying189, hb, Result.andThen, as_direct25, storeVar, Value.cells, storeCells, Addr.add]
 rw [run_store Tryz.prog W ta _ _ (by rfl)]
 simp [ht, hf]
set_option maxHeartbeats 4000000 in
theorem as_hit (e t : Addr) (old : Value) (w : World) (hg : w.cell? ⟨0, 0, none⟩ = some (.iface 283 (.agg #[.pointer (some ⟨6, 88, none⟩)]))) (ht0 : w.cell? t = some old) (hf0 : w.frozen? t = false) :
  Calls Tryz.prog 97 #[.iface 189 (.pointer (some e)), .iface 193 (.pointer (some t))] w fun ev w' => ev = .returned (.bool true) ∧ w' = ((((w.alloc (.cells #[.pointer (some t)] 193)).alloc (.cells #[.pointer (some ⟨6, 193, none⟩), .pointer (some ⟨w.heap.size, 0, none⟩), .int .u64 150] 228)).alloc (.cells #[.pointer (some ⟨6, 193, none⟩), .pointer (some ⟨w.heap.size, 0, none⟩), .int .u64 150] 228)).alloc (.cells #[.pointer (some e)] 189)).setCell t (.pointer (some e)) := by
 have h6 := @run_callFunc_extern Tryz.prog 120 _ (fun args => ReflectliteValue.unpack (args.getD 0 (.tuple #[]))) Tryz.func120 (by kernel_rfl) (by kernel_rfl) (by kernel_rfl) (by kernel_rfl)
 have h7 := @run_callFunc_extern Tryz.prog 121 _ (ReflectliteValue.methodAny (ReflectliteValue.valueError "reflectlite.Value.Type" 0) (fun t _ _ _ => ReflectliteType.toType t)) Tryz.func121 (by kernel_rfl) (by kernel_rfl) (by kernel_rfl) (by kernel_rfl)
 have h8 := @run_callFunc_extern Tryz.prog 122 _ (ReflectliteValue.method (ReflectliteValue.valueError "reflectlite.Value.IsNil" 0) ReflectliteValue.isNil) Tryz.func122 (by kernel_rfl) (by kernel_rfl) (by kernel_rfl) (by kernel_rfl)
 have h27 := @run_callFunc_extern Tryz.prog 342 _ (ReflectliteType.abiMethod fun t => do pure (.int .u8 (← Rtype.kind t))) Tryz.func342 (by kernel_rfl) (by kernel_rfl) (by kernel_rfl) (by kernel_rfl)
 have h37 := @run_callFunc_extern Tryz.prog 358 _ (ReflectliteType.method ReflectliteType.elem) Tryz.func358 (by kernel_rfl) (by kernel_rfl) (by kernel_rfl) (by kernel_rfl)
 have h38 := @run_callFunc_extern Tryz.prog 359 _ (ReflectliteType.relation "Implements" ReflectliteType.implements_) Tryz.func359 (by kernel_rfl) (by kernel_rfl) (by kernel_rfl) (by kernel_rfl)
 have h10 := @run_callFunc_extern Tryz.prog 145 _ ReflectliteType.typeOf Tryz.func145 (by kernel_rfl) (by kernel_rfl) (by kernel_rfl) (by kernel_rfl)
 have h35 := @run_callFunc_extern Tryz.prog 356 _ (ReflectliteType.relation "AssignableTo" ReflectliteType.assignableTo) Tryz.func356 (by kernel_rfl) (by kernel_rfl) (by kernel_rfl) (by kernel_rfl)
 have h11 := @run_callFunc_extern Tryz.prog 146 _ (ReflectliteValue.method (ReflectliteValue.valueError "reflectlite.Value.Elem" 0) ReflectliteValue.elem) Tryz.func146 (by kernel_rfl) (by kernel_rfl) (by kernel_rfl) (by kernel_rfl)
 have h12 := @run_callFunc_extern Tryz.prog 147 _ ReflectliteValue.set Tryz.func147 (by kernel_rfl) (by kernel_rfl) (by kernel_rfl) (by kernel_rfl)
 have tO := as_typeOf25
 have mA := as_methodAssignableTo
 have a25 := as_assignable25
 have v25 := as_valueOf25
 have f6 := as_valueOf27
 have f7 := as_type27
 have mK := as_methodKind
 have mE := as_methodElem
 have mI := as_methodImplements
 have k27 := as_kind27
 have k25 := as_kind25
 have e27 := as_elem27
 have i25 := as_implements25
 have n8 := as_isNil27 ⟨w.heap.size, 0, none⟩ t ((w.alloc (.cells #[.pointer (some t)] 193)).alloc (.cells #[.pointer (some ⟨6, 193, none⟩), .pointer (some ⟨w.heap.size, 0, none⟩), .int .u64 150] 228)) (by simp)
 have hlt : 0 < w.heap.size := World.block_lt_of_cell? w _ hg
 have hg2 : ((w.alloc (.cells #[.pointer (some t)] 193)).alloc (.cells #[.pointer (some ⟨6, 193, none⟩), .pointer (some ⟨w.heap.size, 0, none⟩), .int .u64 150] 228)).cell? ⟨0, 0, none⟩ = some (.iface 283 (.agg #[.pointer (some ⟨6, 88, none⟩)])) := by
  rw [World.cell?_alloc_lt _ _ ⟨0, 0, none⟩ (by simp <;> omega), World.cell?_alloc_lt _ _ ⟨0, 0, none⟩ hlt]; exact hg
 have htl : t.block < w.heap.size := by
  rcases Nat.lt_or_ge t.block w.heap.size with h | h
  ·exact h
  ·simp [World.cell?, Array.getElem?_eq_none h] at ht0
 have el := as_elemV27 ⟨w.heap.size, 0, none⟩ t (((w.alloc (.cells #[.pointer (some t)] 193)).alloc (.cells #[.pointer (some ⟨6, 193, none⟩), .pointer (some ⟨w.heap.size, 0, none⟩), .int .u64 150] 228)).alloc (.cells #[.pointer (some ⟨6, 193, none⟩), .pointer (some ⟨w.heap.size, 0, none⟩), .int .u64 150] 228)) (by rw [World.cell?_alloc_lt _ _ ⟨w.heap.size, 0, none⟩ (by simp; omega)]; simp)
 have st := as_set25 t ⟨w.heap.size + 1 + 1 + 1, 0, none⟩ e old ((((w.alloc (.cells #[.pointer (some t)] 193)).alloc (.cells #[.pointer (some ⟨6, 193, none⟩), .pointer (some ⟨w.heap.size, 0, none⟩), .int .u64 150] 228)).alloc (.cells #[.pointer (some ⟨6, 193, none⟩), .pointer (some ⟨w.heap.size, 0, none⟩), .int .u64 150] 228)).alloc (.cells #[.pointer (some e)] 189))
  (by rw [World.cell?_alloc_at _ _ _ _ (by simp)]; rfl)
  (by rw [World.cell?_alloc_lt _ _ t (by simp; omega), World.cell?_alloc_lt _ _ t (by simp; omega), World.cell?_alloc_lt _ _ t (by simp; omega), World.cell?_alloc_lt _ _ t htl]; exact ht0)
  (by rw [World.frozen?_alloc_old _ _ t (by simp; omega), World.frozen?_alloc_old _ _ t (by simp; omega), World.frozen?_alloc_old _ _ t (by simp; omega), World.frozen?_alloc_old _ _ t (Nat.ne_of_lt htl)]; exact hf0)
 go_enter Tryz.func97, Tryz.ntmps97
 go_wp2
 refine wp_loop_rounds 1 ?_
 rw [rounds_succ]
 go_wp2
 go_ret
 exact ⟨rfl, rfl⟩
def GT (w : World) : Prop := w.cell? ⟨0, 0, none⟩ = some (.iface 283 (.agg #[.pointer (some ⟨6, 88, none⟩)]))
theorem GT.lt {w : World} (h : GT w) : 0 < w.heap.size := World.block_lt_of_cell? w _ h
theorem GT.go {w w' : World} (h : GT w) (hb : Below w.heap.size w w') : GT w' := (hb.cell (p := ⟨0, 0, none⟩) h.lt).trans h
theorem errno_nil (w : World) : Calls Tryz.prog 70 #[.nilIface] w fun e w' => e = .returned (.int .i64 0) ∧ Below w.heap.size w w' := by
 have hA := fun t => as_nil t (w.alloc (.cells #[.pointer none] 189))
 go_enter Tryz.func70, Tryz.ntmps70
 go_wp2_with fail
 refine (hA _).mono ?_
 rintro e w1 ⟨rfl, rfl⟩
 go_wp2_with fail
 go_ret
 exact ⟨rfl, (Below.refl _ w).alloc (Nat.le_refl _) _⟩
theorem errno_fault (v : Value) (no : Int) (w : World) (hg : GT w) (hf : FaultAt w v no) : Calls Tryz.prog 70 #[v] w fun e w' => e = .returned (.int .i64 no) ∧ Below w.heap.size w w' := by
 obtain ⟨b, rfl, hb⟩ := hf
 obtain ⟨W1, hW1, hX1, hB1, hs1⟩ := boxes1 w #[.pointer none] 189
 have hA := as_hit ⟨b, 0, none⟩ ⟨w.heap.size, 0, none⟩ (.pointer none) W1 (hg.go hB1) (cCc hX1 0) (cFz hX1 0)
 obtain ⟨W2, hW2⟩ : ∃ W2, (((W1.alloc (.cells #[.pointer (some ⟨w.heap.size, 0, none⟩)] 193)).alloc (.cells #[.pointer (some ⟨6, 193, none⟩), .pointer (some ⟨W1.heap.size, 0, none⟩), .int .u64 150] 228)).alloc (.cells #[.pointer (some ⟨6, 193, none⟩), .pointer (some ⟨W1.heap.size, 0, none⟩), .int .u64 150] 228)).alloc (.cells #[.pointer (some ⟨b, 0, none⟩)] 189) = W2 := ⟨_, rfl⟩
 have hB2 : Below W1.heap.size W1 W2 := by
  rw [← hW2]
  exact ((((Below.refl _ W1).alloc (Nat.le_refl _) _).alloc (by simp <;> omega) _).alloc (by simp <;> omega) _).alloc (by simp <;> omega) _
 rw [hW2] at hA
 have hX2 := known hB2 (Nat.le_refl _) hX1
 have hbw := (Array.getElem?_eq_some_iff.1 hb).1
 have hb2 := known (hB1.trans (hB2.mono hB1.size)) (Nat.le_refl _) hb
 have hX3 : (W2.setCell ⟨w.heap.size, 0, none⟩ (.pointer (some ⟨b, 0, none⟩))).heap[w.heap.size]? = some (.cells #[.pointer (some ⟨b, 0, none⟩)] 189 (0, 0)) := hSk hX2 _
 have hb3 := (heap_set_other (W := W2) (p := ⟨w.heap.size, 0, none⟩) (b := b) (by show w.heap.size ≠ b; omega) (.pointer (some ⟨b, 0, none⟩))).trans hb2
 have hB3 : Below w.heap.size w (W2.setCell ⟨w.heap.size, 0, none⟩ (.pointer (some ⟨b, 0, none⟩))) := (hB1.trans (hB2.mono hB1.size)).setCell (p := ⟨w.heap.size, 0, none⟩) (Nat.le_refl _) _
 obtain ⟨W3, hW3⟩ : ∃ W3, W2.setCell ⟨w.heap.size, 0, none⟩ (.pointer (some ⟨b, 0, none⟩)) = W3 := ⟨_, rfl⟩
 rw [hW3] at hA hX3 hb3 hB3
 have c0 : W3.cell? ⟨w.heap.size, 0, none⟩ = some (.pointer (some ⟨b, 0, none⟩)) := cCc hX3 0
 have d0 : W3.cell? ⟨b, 0, none⟩ = some (.int .i64 no) := cCc hb3 0
 have HB3 := Lib.hid hB3
 clear hg hb hX1 hB1 hW2 hB2 hX2 hb2 hX3 hb3 hB3 hW3
 go_enter Tryz.func70, Tryz.ntmps70
 go_wp2_with fail
 refine hA.mono ?_
 rintro e w1 ⟨rfl, rfl⟩
 go_wp2_with fail
 go_ret
 exact ⟨rfl, HB3.out⟩
end Go.Proofs.YtpklkhgnjbopnaaGreatDoor.Fr
namespace Go.Proofs.YtpklkhgnjbopnaaGreatDoor
open Go Go.RowKit Go.Shelf
set_option maxRecDepth 100000 in
set_option maxHeartbeats 1000000 in
theorem read_empty (s : ByteArray) (h : s.size = 0) (w : World) : Calls Tryz.prog 69 #[.string s] w fun e w' => ∃ v, e = .returned (.tuple #[.string ⟨#[]⟩, .string s, v]) ∧ Fr.FaultAt w' v 20 ∧ Below w.heap.size w w' := by
 have he2 : s.toList.isEmpty = true := by rw [toList_isEmpty, h]; rfl
 have hne : s.toList = [] := List.isEmpty_iff.1 he2
 obtain ⟨W, hW, hX, hB, -⟩ := boxes1 w #[.int .i64 20] 191
 have HF : Hid (Fr.FaultAt W (.iface 189 (.pointer (some ⟨w.heap.size, 0, none⟩))) 20 ∧ Below w.heap.size w W) := ⟨⟨_, rfl, hX⟩, hB⟩
 clear hX hB
 go_enter Tryz.func69, Tryz.ntmps69
 go_wp2_with fail
 refine wp_scope_once 0 rfl ?_
 go_wp2_with fail
 go_step3
 refine And.intro (rfl : (0 : Nat) = 0) ?_
 go_wp2_with fail
 rw [Exit.noGoto_ret]
 go_ret3
 exact ⟨_, rfl, HF.out.1, HF.out.2⟩
set_option maxRecDepth 100000 in
set_option maxHeartbeats 1000000 in
theorem read_mark (s : ByteArray) (f : UInt8) (hlt : 0 < s.size) (hf : s[0]'hlt = f) (h : f ≠ 167) (w : World) : Calls Tryz.prog 69 #[.string s] w fun e w' => ∃ v, e = .returned (.tuple #[.string ⟨#[]⟩, .string s, v]) ∧ Fr.FaultAt w' v 30 ∧ Below w.heap.size w w' := by
 have he2 : s.toList.isEmpty = false := by
  rw [toList_isEmpty, beq_eq_false_iff_ne]
  omega
 have hne : ¬ s.toList = [] := by
  intro e
  rw [e] at he2
  cases he2
 have g1 : ¬ (f.toNat : Int) = 167 := fun e => h (UInt8.toNat_inj.1 (by have h : (167 : UInt8).toNat = 167 := rfl; omega))
 have g2 : ((f.toNat : Int) == 167) = false := by rw [beq_eq_false_iff_ne]; exact g1
 obtain ⟨W, hW, hX, hB, -⟩ := boxes1 w #[.int .i64 30] 191
 have HF : Hid (Fr.FaultAt W (.iface 189 (.pointer (some ⟨w.heap.size, 0, none⟩))) 30 ∧ Below w.heap.size w W) := ⟨⟨_, rfl, hX⟩, hB⟩
 clear hX hB
 go_enter Tryz.func69, Tryz.ntmps69
 go_wp2_with fail
 refine wp_scope_once 0 rfl ?_
 go_wp2_with fail
 go_step3
 refine And.intro (rfl : (0 : Nat) = 0) ?_
 go_wp2_with fail
 rw [Exit.noGoto_ret]
 go_ret3
 exact ⟨_, rfl, HF.out.1, HF.out.2⟩
set_option maxRecDepth 100000 in
set_option maxHeartbeats 2000000 in
theorem read_more (s t : ByteArray) (fm ff : Addr) (hlt : 0 < s.size) (hf : s[0]'hlt = 167) (ht : s.extract 1 s.size = t) (hz : t.size < 4294967281) (hg : getN t.data.toList = .more) (w : World) (hE : GF fm ff w) : Calls Tryz.prog 69 #[.string s] w fun e w' => ∃ v, e = .returned (.tuple #[.string ⟨#[]⟩, .string s, v]) ∧ Fr.FaultAt w' v 20 ∧ Below w.heap.size w w' := by
 have he2 : s.toList.isEmpty = false := by
  rw [toList_isEmpty, beq_eq_false_iff_ne]
  omega
 have hne : ¬ s.toList = [] := by
  intro e
  rw [e] at he2
  cases he2
 have hG := Get_any t fm ff w hz hE
 rw [hg] at hG
 unfold getRes at hG
 dsimp only at hG
 have HG := Lib.hid hG
 clear hG hg hE hz
 go_enter Tryz.func69, Tryz.ntmps69
 go_wp2_with fail
 refine wp_scope_once 0 rfl ?_
 go_wp2_with fail
 refine HG.out.mono ?_
 rintro e w1 ⟨rfl, hb⟩
 obtain ⟨W, hW, hX, hB, -⟩ := boxes1 w1 #[.int .i64 20] 191
 have HF : Hid (Fr.FaultAt W (.iface 189 (.pointer (some ⟨w1.heap.size, 0, none⟩))) 20 ∧ Below w.heap.size w W) := ⟨⟨_, rfl, hX⟩, hb.trans (hB.mono hb.size)⟩
 clear hX hB hb HG
 go_wp2_with fail
 go_step3
 refine And.intro (rfl : (0 : Nat) = 0) ?_
 go_wp2_with fail
 rw [Exit.noGoto_ret]
 go_ret3
 exact ⟨_, rfl, HF.out.1, HF.out.2⟩
set_option maxRecDepth 100000 in
set_option maxHeartbeats 2000000 in
theorem read_bad (s t : ByteArray) (fm ff : Addr) (hlt : 0 < s.size) (hf : s[0]'hlt = 167) (ht : s.extract 1 s.size = t) (hz : t.size < 4294967281) (hg : getN t.data.toList = .bad) (w : World) (hE : GF fm ff w) : Calls Tryz.prog 69 #[.string s] w fun e w' => ∃ v, e = .returned (.tuple #[.string ⟨#[]⟩, .string s, v]) ∧ Fr.FaultAt w' v 30 ∧ Below w.heap.size w w' := by
 have he2 : s.toList.isEmpty = false := by
  rw [toList_isEmpty, beq_eq_false_iff_ne]
  omega
 have hne : ¬ s.toList = [] := by
  intro e
  rw [e] at he2
  cases he2
 have hG := Get_any t fm ff w hz hE
 rw [hg] at hG
 unfold getRes at hG
 dsimp only at hG
 have HG := Lib.hid hG
 clear hG hg hE hz
 go_enter Tryz.func69, Tryz.ntmps69
 go_wp2_with fail
 refine wp_scope_once 0 rfl ?_
 go_wp2_with fail
 refine HG.out.mono ?_
 rintro e w1 ⟨rfl, hb⟩
 obtain ⟨W, hW, hX, hB, -⟩ := boxes1 w1 #[.int .i64 30] 191
 have HF : Hid (Fr.FaultAt W (.iface 189 (.pointer (some ⟨w1.heap.size, 0, none⟩))) 30 ∧ Below w.heap.size w W) := ⟨⟨_, rfl, hX⟩, hb.trans (hB.mono hb.size)⟩
 clear hX hB hb HG
 go_wp2_with fail
 go_step3
 refine And.intro (rfl : (0 : Nat) = 0) ?_
 go_wp2_with fail
 rw [Exit.noGoto_ret]
 go_ret3
 exact ⟨_, rfl, HF.out.1, HF.out.2⟩
set_option maxRecDepth 100000 in
set_option maxHeartbeats 2000000 in
theorem read_none (s t : ByteArray) (fm ff : Addr) (n : Int) (r : List UInt8) (hlt : 0 < s.size) (hf : s[0]'hlt = 167) (ht : s.extract 1 s.size = t) (hz : t.size < 4294967281) (hg : getN t.data.toList = .got n r) (hu : U64 n) (h0 : n = 0) (w : World) (hE : GF fm ff w) : Calls Tryz.prog 69 #[.string s] w fun e w' => ∃ v, e = .returned (.tuple #[.string ⟨#[]⟩, .string s, v]) ∧ Fr.FaultAt w' v 30 ∧ Below w.heap.size w w' := by
 have he2 : s.toList.isEmpty = false := by
  rw [toList_isEmpty, beq_eq_false_iff_ne]
  omega
 have hne : ¬ s.toList = [] := by
  intro e
  rw [e] at he2
  cases he2
 have hG := Get_any t fm ff w hz hE
 rw [hg] at hG
 unfold getRes at hG
 dsimp only at hG
 have HG := Lib.hid hG
 obtain ⟨hu0, hu1⟩ := hu
 subst h0
 clear hG hg hE hz
 go_enter Tryz.func69, Tryz.ntmps69
 go_wp2_with fail
 refine wp_scope_once 0 rfl ?_
 go_wp2_with fail
 refine HG.out.mono ?_
 rintro e w1 ⟨rfl, hb⟩
 obtain ⟨W, hW, hX, hB, -⟩ := boxes1 w1 #[.int .i64 30] 191
 have HF : Hid (Fr.FaultAt W (.iface 189 (.pointer (some ⟨w1.heap.size, 0, none⟩))) 30 ∧ Below w.heap.size w W) := ⟨⟨_, rfl, hX⟩, hb.trans (hB.mono hb.size)⟩
 clear hX hB hb HG
 go_wp2_with fail
 go_step3
 refine And.intro (rfl : (0 : Nat) = 0) ?_
 go_wp2_with fail
 rw [Exit.noGoto_ret]
 go_ret3
 exact ⟨_, rfl, HF.out.1, HF.out.2⟩
set_option maxRecDepth 100000 in
set_option maxHeartbeats 2000000 in
theorem read_long (s t : ByteArray) (fm ff : Addr) (n : Int) (r : List UInt8) (hlt : 0 < s.size) (hf : s[0]'hlt = 167) (ht : s.extract 1 s.size = t) (hz : t.size < 4294967281) (hg : getN t.data.toList = .got n r) (hu : U64 n) (h0 : 2000 < n) (w : World) (hE : GF fm ff w) : Calls Tryz.prog 69 #[.string s] w fun e w' => ∃ v, e = .returned (.tuple #[.string ⟨#[]⟩, .string s, v]) ∧ Fr.FaultAt w' v 30 ∧ Below w.heap.size w w' := by
 have he2 : s.toList.isEmpty = false := by
  rw [toList_isEmpty, beq_eq_false_iff_ne]
  omega
 have hne : ¬ s.toList = [] := by
  intro e
  rw [e] at he2
  cases he2
 have hG := Get_any t fm ff w hz hE
 rw [hg] at hG
 unfold getRes at hG
 dsimp only at hG
 have HG := Lib.hid hG
 obtain ⟨hu0, hu1⟩ := hu
 have hn0 : ¬ n = 0 := by omega
 clear hG hg hE hz
 go_enter Tryz.func69, Tryz.ntmps69
 go_wp2_with fail
 refine wp_scope_once 0 rfl ?_
 go_wp2_with fail
 refine HG.out.mono ?_
 rintro e w1 ⟨rfl, hb⟩
 obtain ⟨W, hW, hX, hB, -⟩ := boxes1 w1 #[.int .i64 30] 191
 have HF : Hid (Fr.FaultAt W (.iface 189 (.pointer (some ⟨w1.heap.size, 0, none⟩))) 30 ∧ Below w.heap.size w W) := ⟨⟨_, rfl, hX⟩, hb.trans (hB.mono hb.size)⟩
 clear hX hB hb HG
 go_wp2_with fail
 go_step3
 refine And.intro (rfl : (0 : Nat) = 0) ?_
 go_wp2_with fail
 rw [Exit.noGoto_ret]
 go_ret3
 exact ⟨_, rfl, HF.out.1, HF.out.2⟩
set_option maxRecDepth 100000 in
set_option maxHeartbeats 2000000 in
theorem read_short (s t : ByteArray) (fm ff : Addr) (n : Int) (r : List UInt8) (hlt : 0 < s.size) (hf : s[0]'hlt = 167) (ht : s.extract 1 s.size = t) (hz : t.size < 4294967281) (hg : getN t.data.toList = .got n r) (hu : U64 n) (h0 : 0 < n) (h1 : n ≤ 2000) (hr : r.length < 4294967281) (h2 : (r.length : Int) < n + 4) (w : World) (hE : GF fm ff w) : Calls Tryz.prog 69 #[.string s] w fun e w' => ∃ v, e = .returned (.tuple #[.string ⟨#[]⟩, .string s, v]) ∧ Fr.FaultAt w' v 20 ∧ Below w.heap.size w w' := by
 have he2 : s.toList.isEmpty = false := by
  rw [toList_isEmpty, beq_eq_false_iff_ne]
  omega
 have hne : ¬ s.toList = [] := by
  intro e
  rw [e] at he2
  cases he2
 have hG := Get_any t fm ff w hz hE
 rw [hg] at hG
 unfold getRes at hG
 dsimp only at hG
 have HG := Lib.hid hG
 obtain ⟨hu0, hu1⟩ := hu
 have hn0 : ¬ n = 0 := by omega
 have hn1 : ¬ 2000 < n := by omega
 have hn2 : (n == 0) = false := by rw [beq_eq_false_iff_ne]; omega
 have hn3 : (n == 0 || decide (2000 < n)) = false := by rw [hn2, decide_eq_false hn1]; rfl
 clear hG hg hE hz
 go_enter Tryz.func69, Tryz.ntmps69
 go_wp2_with fail
 refine wp_scope_once 0 rfl ?_
 go_wp2_with fail
 refine HG.out.mono ?_
 rintro e w1 ⟨rfl, hb⟩
 obtain ⟨W, hW, hX, hB, -⟩ := boxes1 w1 #[.int .i64 20] 191
 have HF : Hid (Fr.FaultAt W (.iface 189 (.pointer (some ⟨w1.heap.size, 0, none⟩))) 20 ∧ Below w.heap.size w W) := ⟨⟨_, rfl, hX⟩, hb.trans (hB.mono hb.size)⟩
 clear hX hB hb HG
 go_wp2_with fail
 go_step3
 refine And.intro (rfl : (0 : Nat) = 0) ?_
 go_wp2_with fail
 rw [Exit.noGoto_ret]
 go_ret3
 exact ⟨_, rfl, HF.out.1, HF.out.2⟩
end Go.Proofs.YtpklkhgnjbopnaaGreatDoor
namespace Go.Proofs.YtpklkhgnjbopnaaGreatDoor
open Go Go.RowKit Go.Shelf
set_option maxRecDepth 100000 in
set_option maxHeartbeats 2000000 in
theorem read_got (s t : ByteArray) (fm ff : Addr) (n : Int) (r : List UInt8) (hlt : 0 < s.size) (hf : s[0]'hlt = 167) (ht : s.extract 1 s.size = t) (hz : t.size < 4294967281) (hg : getN t.data.toList = .got n r) (h0 : 0 < n) (h1 : n ≤ 2000) (hr : r.length < 4294967281) (h2 : n + 4 ≤ (r.length : Int)) (h5 : checkN (r.take n.toNat) = fourN ((r.drop n.toNat).take 4)) (w : World) (hE : GF fm ff w) : Calls Tryz.prog 69 #[.string s] w fun e w' => e = .returned (.tuple #[.string ⟨(r.take n.toNat).toArray⟩, .string ⟨(r.drop (n.toNat + 4)).toArray⟩, .nilIface]) ∧ Below w.heap.size w w' := by
 have he2 : s.toList.isEmpty = false := by
  rw [toList_isEmpty, beq_eq_false_iff_ne]
  omega
 have hne : ¬ s.toList = [] := by
  intro e
  rw [e] at he2
  cases he2
 have hG := Get_any t fm ff w hz hE
 rw [hg] at hG
 unfold getRes at hG
 dsimp only at hG
 have HG := Lib.hid hG
 have hn0 : ¬ n = 0 := by omega
 have hn1 : ¬ 2000 < n := by omega
 have hn2 : (n == 0) = false := by rw [beq_eq_false_iff_ne]; omega
 have hn3 : (n == 0 || decide (2000 < n)) = false := by rw [hn2, decide_eq_false hn1]; rfl
 have hn4 : ¬ (r.length : Int) < n + 4 := by omega
 obtain ⟨B, hBo⟩ : ∃ B, (⟨r.toArray⟩ : ByteArray).extract 0 n.toNat = B := ⟨_, rfl⟩
 obtain ⟨L, hLo⟩ : ∃ L, (⟨r.toArray⟩ : ByteArray).extract n.toNat r.length = L := ⟨_, rfl⟩
 obtain ⟨F, hFo⟩ : ∃ F, L.extract 0 4 = F := ⟨_, rfl⟩
 have hBd : B.data.toList = r.take n.toNat := by rw [← hBo, ByteArray.data_extract, Array.toList_extract, List.extract_eq_take_drop]; simp
 have hLd : L.data.toList = r.drop n.toNat := by rw [← hLo, ByteArray.data_extract, Array.toList_extract, List.extract_eq_take_drop]; exact List.take_of_length_le (by rw [List.length_drop]; exact Nat.le_refl _)
 have hLz : L.size = r.length - n.toNat := by rw [← List.length_drop, ← hLd]; exact Array.length_toList.symm
 have hFd : F.data.toList = (r.drop n.toNat).take 4 := by rw [← hFo, ByteArray.data_extract, Array.toList_extract, List.extract_eq_take_drop, ← hLd]; simp
 have hBz : B.size ≤ 2000 := by rw [← hBo, ByteArray.size_extract]; omega
 have hFz : F.size ≤ 4 := by rw [← hFo, ByteArray.size_extract]; omega
 have HBe : Hid (B = ⟨(r.take n.toNat).toArray⟩) := by rw [Hid, ← hBd]
 have HEe : Hid (L.extract 4 L.size = ⟨(r.drop (n.toNat + 4)).toArray⟩) := by
  have e : (L.extract 4 L.size).data.toList = r.drop (n.toNat + 4) := by
   rw [ByteArray.data_extract, Array.toList_extract, List.extract_eq_take_drop, hLd, List.drop_drop]
   exact List.take_of_length_le (by rw [List.length_drop, hLz]; omega)
  rw [Hid, ← e]
 obtain ⟨c1, hc1⟩ : ∃ c, checkN (r.take n.toNat) = c := ⟨_, rfl⟩
 obtain ⟨c2, hc2⟩ : ∃ c, fourN ((r.drop n.toNat).take 4) = c := ⟨_, rfl⟩
 rw [hc1, hc2] at h5
 have hcc : ((c1 : Int) != (c2 : Int)) = false := by rw [h5]; simp
 have HC : Hid (∀ W, Calls Tryz.prog 95 #[.string B] W fun e w' => e = .returned (.int .u32 c1) ∧ Below W.heap.size W w') := fun W => by rw [← hc1, ← hBd]; exact Check_any B (by omega) W
 have HN : Hid (∀ W, Calls Tryz.prog 96 #[.string F] W fun e w' => e = .returned (.int .u32 c2) ∧ w' = W) := fun W => by rw [← hc2, ← hFd]; exact fnumber_any F (by omega) W
 have hL4 : (4 : Int) ≤ (L.size : Int) := by omega
 have HBo := Lib.hid hBo
 have HLo := Lib.hid hLo
 have HFo := Lib.hid hFo
 clear hBd hLd hFd hBz hFz hLz hBo hLo hFo hc1 hc2 h5
 clear hG hg hE hz
 go_enter Tryz.func69, Tryz.ntmps69
 go_wp2_with fail
 refine wp_scope_once 0 rfl ?_
 go_wp2_with fail
 refine HG.out.mono ?_
 rintro e w1 ⟨rfl, hb⟩
 have HB := Lib.hid hb
 clear hb HG
 go_wp2_with fail
 go_quiet (fail)
 rw [HBo.out, HLo.out]
 obtain ⟨D, hD⟩ : ∃ D, (w1.drewN nq).drew = D := ⟨_, rfl⟩
 have HBD : Hid (Below w.heap.size w D) := by rw [Hid, ← hD]; exact (bDr HB.out _).drew
 have HD := Lib.hid hD
 clear hD HB
 go_wp2_with fail
 refine wp_region_any (by kernel_rfl) ?_
 change wpAny _ _ _ _ _ _ _ (World.drew _)
 rw [HD.out]
 refine tk 0 (v := ?_) rfl ?_ ?_
 rotate_left
 ·intro w; go_simp; with_reducible rfl
 refine tk 2 (v := ?_) rfl ?_ ?_
 rotate_left
 ·intro w; go_simp; with_reducible rfl
 refine tk 3 (v := ?_) rfl ?_ ?_
 rotate_left
 ·intro w; go_simp; with_reducible rfl
 refine wpAny_ready (rs := [1]) (by kernel_rfl) (by simp) ?_
 refine AllReady.cons rfl (fun K hK => ?_) ?_
 ·go_simp
  refine (HC.out _).mono ?_
  rintro e x1 ⟨rfl, hb⟩
  have HB1 : Hid (Below w.heap.size w x1) := HBD.out.trans (hb.mono HBD.out.size)
  clear hb
  refine hK _ _ ?_
  clear hK K
  refine wpAny_ready (rs := [4]) (by kernel_rfl) (by simp) ?_
  refine AllReady.cons rfl (fun K hK => ?_) ?_
  ·go_simp
   rw [HFo.out]
   refine (HN.out _).mono ?_
   rintro e x2 ⟨rfl, rfl⟩
   refine hK _ _ ?_
   clear hK K
   refine wpAny_ready (rs := [5]) (by kernel_rfl) (by simp) ?_
   refine AllReady.cons rfl (fun K hK => ?_) ?_
   ·go_simp
    refine hK _ _ ?_
    clear hK K
    refine wpAny_done (by kernel_rfl) ?_ _
    go_wp2_with fail
    go_quiet (fail)
    go_wp2_with fail
    dsimp only [Exit.jump]
    go_ret3
    rw [HBe.out, HEe.out]
    exact ⟨rfl, bDr HB1.out _⟩
   exact AllReady.nil
  exact AllReady.nil
 exact AllReady.nil
set_option maxRecDepth 100000 in
set_option maxHeartbeats 2000000 in
theorem read_sum (s t : ByteArray) (fm ff : Addr) (n : Int) (r : List UInt8) (hlt : 0 < s.size) (hf : s[0]'hlt = 167) (ht : s.extract 1 s.size = t) (hz : t.size < 4294967281) (hg : getN t.data.toList = .got n r) (h0 : 0 < n) (h1 : n ≤ 2000) (hr : r.length < 4294967281) (h2 : n + 4 ≤ (r.length : Int)) (h5 : ¬ checkN (r.take n.toNat) = fourN ((r.drop n.toNat).take 4)) (w : World) (hE : GF fm ff w) : Calls Tryz.prog 69 #[.string s] w fun e w' => ∃ v, e = .returned (.tuple #[.string ⟨#[]⟩, .string s, v]) ∧ Fr.FaultAt w' v 31 ∧ Below w.heap.size w w' := by
 have he2 : s.toList.isEmpty = false := by
  rw [toList_isEmpty, beq_eq_false_iff_ne]
  omega
 have hne : ¬ s.toList = [] := by
  intro e
  rw [e] at he2
  cases he2
 have hG := Get_any t fm ff w hz hE
 rw [hg] at hG
 unfold getRes at hG
 dsimp only at hG
 have HG := Lib.hid hG
 have hn0 : ¬ n = 0 := by omega
 have hn1 : ¬ 2000 < n := by omega
 have hn2 : (n == 0) = false := by rw [beq_eq_false_iff_ne]; omega
 have hn3 : (n == 0 || decide (2000 < n)) = false := by rw [hn2, decide_eq_false hn1]; rfl
 have hn4 : ¬ (r.length : Int) < n + 4 := by omega
 obtain ⟨B, hBo⟩ : ∃ B, (⟨r.toArray⟩ : ByteArray).extract 0 n.toNat = B := ⟨_, rfl⟩
 obtain ⟨L, hLo⟩ : ∃ L, (⟨r.toArray⟩ : ByteArray).extract n.toNat r.length = L := ⟨_, rfl⟩
 obtain ⟨F, hFo⟩ : ∃ F, L.extract 0 4 = F := ⟨_, rfl⟩
 have hBd : B.data.toList = r.take n.toNat := by rw [← hBo, ByteArray.data_extract, Array.toList_extract, List.extract_eq_take_drop]; simp
 have hLd : L.data.toList = r.drop n.toNat := by rw [← hLo, ByteArray.data_extract, Array.toList_extract, List.extract_eq_take_drop]; exact List.take_of_length_le (by rw [List.length_drop]; exact Nat.le_refl _)
 have hLz : L.size = r.length - n.toNat := by rw [← List.length_drop, ← hLd]; exact Array.length_toList.symm
 have hFd : F.data.toList = (r.drop n.toNat).take 4 := by rw [← hFo, ByteArray.data_extract, Array.toList_extract, List.extract_eq_take_drop, ← hLd]; simp
 have hBz : B.size ≤ 2000 := by rw [← hBo, ByteArray.size_extract]; omega
 have hFz : F.size ≤ 4 := by rw [← hFo, ByteArray.size_extract]; omega
 have HBe : Hid (B = ⟨(r.take n.toNat).toArray⟩) := by rw [Hid, ← hBd]
 have HEe : Hid (L.extract 4 L.size = ⟨(r.drop (n.toNat + 4)).toArray⟩) := by
  have e : (L.extract 4 L.size).data.toList = r.drop (n.toNat + 4) := by
   rw [ByteArray.data_extract, Array.toList_extract, List.extract_eq_take_drop, hLd, List.drop_drop]
   exact List.take_of_length_le (by rw [List.length_drop, hLz]; omega)
  rw [Hid, ← e]
 obtain ⟨c1, hc1⟩ : ∃ c, checkN (r.take n.toNat) = c := ⟨_, rfl⟩
 obtain ⟨c2, hc2⟩ : ∃ c, fourN ((r.drop n.toNat).take 4) = c := ⟨_, rfl⟩
 rw [hc1, hc2] at h5
 have hcc : ((c1 : Int) != (c2 : Int)) = true := by rw [bne_iff_ne]; omega
 have HC : Hid (∀ W, Calls Tryz.prog 95 #[.string B] W fun e w' => e = .returned (.int .u32 c1) ∧ Below W.heap.size W w') := fun W => by rw [← hc1, ← hBd]; exact Check_any B (by omega) W
 have HN : Hid (∀ W, Calls Tryz.prog 96 #[.string F] W fun e w' => e = .returned (.int .u32 c2) ∧ w' = W) := fun W => by rw [← hc2, ← hFd]; exact fnumber_any F (by omega) W
 have hL4 : (4 : Int) ≤ (L.size : Int) := by omega
 have HBo := Lib.hid hBo
 have HLo := Lib.hid hLo
 have HFo := Lib.hid hFo
 clear hBd hLd hFd hBz hFz hLz hBo hLo hFo hc1 hc2 h5
 clear hG hg hE hz
 go_enter Tryz.func69, Tryz.ntmps69
 go_wp2_with fail
 refine wp_scope_once 0 rfl ?_
 go_wp2_with fail
 refine HG.out.mono ?_
 rintro e w1 ⟨rfl, hb⟩
 have HB := Lib.hid hb
 clear hb HG
 go_wp2_with fail
 go_quiet (fail)
 rw [HBo.out, HLo.out]
 obtain ⟨D, hD⟩ : ∃ D, (w1.drewN nq).drew = D := ⟨_, rfl⟩
 have HBD : Hid (Below w.heap.size w D) := by rw [Hid, ← hD]; exact (bDr HB.out _).drew
 have HD := Lib.hid hD
 clear hD HB
 go_wp2_with fail
 refine wp_region_any (by kernel_rfl) ?_
 change wpAny _ _ _ _ _ _ _ (World.drew _)
 rw [HD.out]
 refine tk 0 (v := ?_) rfl ?_ ?_
 rotate_left
 ·intro w; go_simp; with_reducible rfl
 refine tk 2 (v := ?_) rfl ?_ ?_
 rotate_left
 ·intro w; go_simp; with_reducible rfl
 refine tk 3 (v := ?_) rfl ?_ ?_
 rotate_left
 ·intro w; go_simp; with_reducible rfl
 refine wpAny_ready (rs := [1]) (by kernel_rfl) (by simp) ?_
 refine AllReady.cons rfl (fun K hK => ?_) ?_
 ·go_simp
  refine (HC.out _).mono ?_
  rintro e x1 ⟨rfl, hb⟩
  have HB1 : Hid (Below w.heap.size w x1) := HBD.out.trans (hb.mono HBD.out.size)
  clear hb
  refine hK _ _ ?_
  clear hK K
  refine wpAny_ready (rs := [4]) (by kernel_rfl) (by simp) ?_
  refine AllReady.cons rfl (fun K hK => ?_) ?_
  ·go_simp
   rw [HFo.out]
   refine (HN.out _).mono ?_
   rintro e x2 ⟨rfl, rfl⟩
   refine hK _ _ ?_
   clear hK K
   refine wpAny_ready (rs := [5]) (by kernel_rfl) (by simp) ?_
   refine AllReady.cons rfl (fun K hK => ?_) ?_
   ·go_simp
    refine hK _ _ ?_
    clear hK K
    refine wpAny_done (by kernel_rfl) ?_ _
    obtain ⟨W, hW, hX, hB, -⟩ := boxes1 x2 #[.int .i64 31] 191
    have HF : Hid (Fr.FaultAt W (.iface 189 (.pointer (some ⟨x2.heap.size, 0, none⟩))) 31 ∧ Below w.heap.size w W) := ⟨⟨_, rfl, hX⟩, HB1.out.trans (hB.mono HB1.out.size)⟩
    clear hX hB
    go_wp2_with fail
    go_step3
    refine And.intro (rfl : (0 : Nat) = 0) ?_
    go_wp2_with fail
    rw [Exit.noGoto_ret]
    go_ret3
    exact ⟨_, rfl, HF.out.1, HF.out.2⟩
   exact AllReady.nil
  exact AllReady.nil
 exact AllReady.nil
end Go.Proofs.YtpklkhgnjbopnaaGreatDoor
