/- The reference of layer 20: PutReq at any request. The reference of layer 20: PutReply. Printed by gen_wce.py. References: aviaryref03 Check, four, Make; aviaryref20 framed, Hello, Ask; aviaryref02.PutText. Printed by gen_wcg.py. -/
import Derived.Test.YtpklkhgnjbopnaaGreatDoorVWcc
namespace Go.Proofs.YtpklkhgnjbopnaaGreatDoor
open Go Go.RowKit Go.Shelf
theorem foldItems (l : List (Nat × Int)) (hl : ∀ i ∈ l, U64 (i.1 : Int) ∧ U64 i.2) : ∀ s : ByteArray, (l.foldl (fun s i => s ++ putR (i.1 : Int) ++ putR i.2) s).data.toList = s.data.toList ++ l.flatMap itemB := by
 induction l with
 | nil => intro s; simp
 | cons x l ih =>
  intro s
  obtain ⟨h1, h2⟩ := hl x (List.mem_cons_self)
  rw [List.foldl_cons, ih (fun i hi => hl i (List.mem_cons_of_mem _ hi)), ByteArray.data_append, Array.toList_append, ByteArray.data_append, Array.toList_append, putR_list _ h1, putR_list _ h2, List.flatMap_cons]
  rw [show itemB x = numsB [(x.1 : Int)] ++ numsB [x.2] from numsB_append [(x.1 : Int)] [x.2]]
  simp only [List.append_assoc]
theorem foldNums (l : List Int) (hl : ∀ n ∈ l, U64 n) : ∀ s : ByteArray, (l.foldl (fun s n => s ++ putR n) s).data.toList = s.data.toList ++ numsB l := by
 induction l with
 | nil => intro s; simp [numsB]
 | cons x l ih =>
  intro s
  rw [List.foldl_cons, ih (fun i hi => hl i (List.mem_cons_of_mem _ hi)), ByteArray.data_append, Array.toList_append, putR_list _ (hl x List.mem_cons_self), show numsB (x :: l) = numsB [x] ++ numsB l from numsB_append [x] l, List.append_assoc]
theorem rqS_eq (r : Rq) (hok : r.ok = true) (hw : r.Wf) : rqS3 r r.tens.length = ⟨r.B.toArray⟩ := by
 obtain ⟨⟨o0, o1⟩, ⟨k0, k1⟩, hi, ht, hlb, hsc⟩ := Rq.okD hok
 apply ByteArray.ext
 apply Array.toList_inj.1
 unfold rqS3 rqS2 rqS1
 rw [List.take_length, List.take_length, foldNums _ hw.tens]
 simp only [ByteArray.data_append, Array.toList_append]
 rw [foldItems _ hw.items]
 unfold rqS0
 simp only [ByteArray.data_append, Array.toList_append]
 rw [putR_list r.op ⟨o0, by omega⟩, putR_list r.now hw.now, putR_list (r.labels.size : Int) ⟨by omega, by omega⟩, putR_list (r.scope.size : Int) ⟨by omega, by omega⟩, putR_list r.kind ⟨k0, by omega⟩, putR_list (r.items.length : Int) ⟨by omega, by omega⟩, putR_list r.h hw.h, putR_list r.tnt hw.tnt, putR_list r.id hw.id, putR_list (r.tens.length : Int) ⟨by omega, by omega⟩]
 unfold Rq.B textB
 simp only [List.append_assoc]
set_option maxRecDepth 100000 in
set_option maxHeartbeats 4000000 in
theorem ref20_PutReq_bad (r : Rq) (ia : Option Addr) (ic : Nat) (ta : Option Addr) (tc : Nat) (w : World) (hok : r.ok = false) :
  CR 20 #[.agg (rqV r ia ic ta tc)] w (.tuple #[.string ⟨#[]⟩, .int .i64 200]) := by
 obtain ⟨W, hW, hX, hB, hsz⟩ := boxes1 w (rqV r ia ic ta tc) 56
 have hd : (r.op < 0) ∨ (¬ r.op < 0 ∧ 255 < r.op) ∨ (¬ r.op < 0 ∧ ¬ 255 < r.op ∧ r.kind < 0) ∨ (¬ r.op < 0 ∧ ¬ 255 < r.op ∧ ¬ r.kind < 0 ∧ 255 < r.kind) ∨
   (¬ r.op < 0 ∧ ¬ 255 < r.op ∧ ¬ r.kind < 0 ∧ ¬ 255 < r.kind ∧ (400 : Int) < (r.labels.size : Int)) ∨
   (¬ r.op < 0 ∧ ¬ 255 < r.op ∧ ¬ r.kind < 0 ∧ ¬ 255 < r.kind ∧ ¬ (400 : Int) < (r.labels.size : Int) ∧ (400 : Int) < (r.scope.size : Int)) ∨
   (¬ r.op < 0 ∧ ¬ 255 < r.op ∧ ¬ r.kind < 0 ∧ ¬ 255 < r.kind ∧ ¬ (400 : Int) < (r.labels.size : Int) ∧ ¬ (400 : Int) < (r.scope.size : Int) ∧ (50 : Int) < (r.items.length : Int)) ∨
   (¬ r.op < 0 ∧ ¬ 255 < r.op ∧ ¬ r.kind < 0 ∧ ¬ 255 < r.kind ∧ ¬ (400 : Int) < (r.labels.size : Int) ∧ ¬ (400 : Int) < (r.scope.size : Int) ∧ ¬ (50 : Int) < (r.items.length : Int) ∧ (8 : Int) < (r.tens.length : Int)) := by
  unfold Rq.ok at hok
  simp only [Bool.and_eq_false_iff, decide_eq_false_iff_not] at hok
  omega
 unfold rqV at hX hW ⊢
 obtain ⟨c0, c1, c2, c3, c4, c5, c6, c7, c8, c9⟩ := cl10 hX
 have HB := Lib.hid hB
 clear hX hB hsz hok
 rcases hd with h1 | ⟨h1, h2⟩ | ⟨h1, h2, h3⟩ | ⟨h1, h2, h3, h4⟩ | ⟨h1, h2, h3, h4, h5⟩ | ⟨h1, h2, h3, h4, h5, h6⟩ | ⟨h1, h2, h3, h4, h5, h6, h7⟩ | ⟨h1, h2, h3, h4, h5, h6, h7, h8⟩
 all_goals
  go_enter Tryz.func20, Tryz.ntmps20
  go_wp2_with fail
  go_ret2
  exact ⟨rfl, HB.out⟩
theorem ref20_PutReq_any (r : Rq) (ia : Option Addr) (ic : Nat) (ta : Option Addr) (tc : Nat) (w : World) (hw : r.Wf) (hI : SlE encIt 2 w.heap.size w ia r.items.length r.items) (hT : SlE encU 1 w.heap.size w ta r.tens.length r.tens) :
  CR 20 #[.agg (rqV r ia ic ta tc)] w (.tuple #[.string (if r.ok then ⟨r.B.toArray⟩ else ⟨#[]⟩), .int .i64 (if r.ok then 0 else 200)]) := by
 cases hok : r.ok with
 | true =>
  have h := ref20_PutReq_ok r ia ic ta tc w hw hI hT hok
  rw [rqS_eq r hok hw] at h
  exact h
 | false => exact ref20_PutReq_bad r ia ic ta tc w hok
end Go.Proofs.YtpklkhgnjbopnaaGreatDoor
namespace Go.Proofs.YtpklkhgnjbopnaaGreatDoor
open Go Go.RowKit Go.Shelf
theorem cat_mk (a b : List UInt8) : (⟨a.toArray⟩ : ByteArray) ++ ⟨b.toArray⟩ = ⟨(a ++ b).toArray⟩ := by
 apply ByteArray.ext
 apply Array.toList_inj.1
 rw [ByteArray.data_append, Array.toList_append]
theorem num20_B (n : Int) (h0 : 0 ≤ n) (h1 : n ≤ 9223372036854775807) (w : World) : CR 56 #[.int .i64 n] w (.string ⟨(numsB [n]).toArray⟩) := by
 rw [← putR_eq n ⟨h0, by omega⟩]
 exact num20_any n h0 h1 w
theorem refPut_B (n : Int) (hn : U64 n) (w : World) : CR 57 #[.int .u64 n] w (.string ⟨(numsB [n]).toArray⟩) := by
 rw [← putR_eq n hn]
 exact refPut_any n hn w
theorem strB_size (n : Int) : (⟨(numsB [n]).toArray⟩ : ByteArray).size ≤ 9 := by rw [str_size]; exact (numsB_one_len n).2
def entsB (l : List Ent) (k : Nat) : List UInt8 := (l.take k).flatMap entB
theorem entsB_step {l : List Ent} {k : Nat} {x : Ent} (h : l[k]? = some x) : entsB l (k + 1) = entsB l k ++ entB x := by
 unfold entsB
 rw [take_snoc' h, List.flatMap_append]
 simp
theorem entB_lenR {x : Ent} (h : x.text.size ≤ 400) : (entB x).length ≤ 440 := by
 have h1 := (numsB_one_len x.seq).2
 have h2 := (numsB_one_len x.tm).2
 have h3 := textB_len x.text
 have h4 := (numsB_one_len x.sum).2
 unfold entB
 simp only [List.length_append]
 omega
theorem entsB_len {l : List Ent} : ∀ {k : Nat}, (∀ x ∈ l.take k, x.text.size ≤ 400) → (entsB l k).length ≤ 440 * k
 | 0, _ => Nat.zero_le _
 | k + 1, h => by
  cases hx : l[k]? with
  | none =>
   have e : l.take (k + 1) = l.take k := by rw [List.take_add_one, hx]; simp
   have := entsB_len (k := k) (fun x hx => h x (by rw [e]; exact hx))
   unfold entsB at this ⊢
   rw [e]
   omega
  | some x =>
   have e := take_snoc' hx
   have h1 := entsB_len (k := k) (fun y hy => h y (by rw [e]; exact List.mem_append_left _ hy))
   have h2 := entB_lenR (h x (by rw [e]; exact List.mem_append_right _ List.mem_cons_self))
   rw [entsB_step hx, List.length_append]
   omega
theorem nums_step {l : List Int} {k : Nat} {x : Int} (h : l[k]? = some x) : numsB (l.take (k + 1)) = numsB (l.take k) ++ numsB [x] := by
 rw [take_snoc' h, numsB_append]
set_option maxRecDepth 100000 in
set_option maxHeartbeats 4000000 in
theorem ref20_PutReply_in (e n : Int) (nots : List Int) (ents : List Ent) (nl el : Nat) (na : Option Addr) (nc : Nat) (ea : Option Addr) (ec : Nat) (w : World) (e0 : 0 ≤ e) (e1 : e ≤ 4611686018427387904) (n1 : nl ≤ 100) (t1 : el ≤ 100)
  (hn : U64 n) (he : ∀ x ∈ ents, (U64 x.seq ∧ U64 x.tm ∧ U64 x.sum) ∧ x.text.size < 4294967281) (hI : SlE encI 1 w.heap.size w na nl nots) (hE : SlE Ent.enc 4 w.heap.size w ea el ents) :
  CR 22 #[.agg #[.int .i64 e, .int .u64 n, .slice na nl nc, .slice ea el ec]] w (.tuple #[.string (if Ry.ok ⟨e, n, nots, ents⟩ then ⟨(Ry.B ⟨e, n, nots, ents⟩).toArray⟩ else ⟨#[]⟩), .int .i64 (if Ry.ok ⟨e, n, nots, ents⟩ then 0 else 200)]) := by
 obtain ⟨RS, hRS⟩ : ∃ RS : ByteArray, (if Ry.ok ⟨e, n, nots, ents⟩ then (⟨(Ry.B ⟨e, n, nots, ents⟩).toArray⟩ : ByteArray) else ⟨#[]⟩) = RS := ⟨_, rfl⟩
 obtain ⟨RE, hRE⟩ : ∃ RE : Int, (if Ry.ok ⟨e, n, nots, ents⟩ then (0 : Int) else 200) = RE := ⟨_, rfl⟩
 rw [hRS, hRE]
 have hnl := hI.1
 have hel := hE.1
 have HBad : Hid (Ry.ok ⟨e, n, nots, ents⟩ = false → (⟨#[]⟩ : ByteArray) = RS ∧ (200 : Int) = RE) := fun h => by
  rw [h] at hRS hRE
  exact ⟨hRS, hRE⟩
 have HNo : Hid ((∃ m ∈ nots, smallB m = false) → (⟨#[]⟩ : ByteArray) = RS ∧ (200 : Int) = RE) := fun ⟨m, hm, hb⟩ => HBad.out (Ry.notOk fun h => by have := h.2.2.2.1 m hm; rw [hb] at this; cases this)
 have HNo2 : Hid ((∃ x ∈ ents, ¬ x.text.size ≤ 400) → (⟨#[]⟩ : ByteArray) = RS ∧ (200 : Int) = RE) := fun ⟨x, hx, hb⟩ => HBad.out (Ry.notOk fun h => hb (h.2.2.2.2 x hx))
 have HFin : Hid ((∀ m ∈ nots, smallB m = true) → (∀ x ∈ ents, x.text.size ≤ 400) → (⟨((numsB [e] ++ numsB [n] ++ numsB [(nl : Int)] ++ numsB (nots.take nl) ++ numsB [(el : Int)]) ++ entsB ents el).toArray⟩ : ByteArray) = RS ∧ (0 : Int) = RE) := fun h1 h2 => by
  have hok : Ry.ok ⟨e, n, nots, ents⟩ = true := by
   unfold Ry.ok
   simp only [Bool.and_eq_true, decide_eq_true_eq, List.all_eq_true]
   refine ⟨⟨⟨⟨?_, by omega⟩, by omega⟩, h1⟩, h2⟩
   unfold smallB
   rw [Bool.and_eq_true, decide_eq_true_eq, decide_eq_true_eq]
   exact ⟨e0, e1⟩
  rw [hok] at hRS hRE
  refine ⟨hRS ▸ ?_, hRE⟩
  show _ = (⟨(Ry.B ⟨e, n, nots, ents⟩).toArray⟩ : ByteArray)
  unfold Ry.B entsB
  dsimp only
  rw [hnl, hel, List.take_length, List.take_length]
  simp only [List.append_assoc]
 clear hRS hRE
 obtain ⟨W, hW, hX, hB, -⟩ := boxes1 w #[.int .i64 e, .int .u64 n, .slice na nl nc, .slice ea el ec] 60
 obtain ⟨c0, c1, c2, c3⟩ := cl4 hX
 have HC : Hid (∀ V, Below W.heap.size W V → V.cell? ⟨w.heap.size, 0, none⟩ = some (.int .i64 e) ∧ V.cell? ⟨w.heap.size, 1, none⟩ = some (.int .u64 n) ∧ V.cell? ⟨w.heap.size, 2, none⟩ = some (.slice na nl nc) ∧ V.cell? ⟨w.heap.size, 3, none⟩ = some (.slice ea el ec)) := fun V hV => by
  have y := known hV (Nat.le_refl _) hX
  exact ⟨cCc y 0, cCc y 1, cCc y 2, cCc y 3⟩
 have HI : Hid (SlE encI 1 W.heap.size W na nl nots) := (hI.below hB).mono hB.size
 have HE : Hid (SlE Ent.enc 4 W.heap.size W ea el ents) := (hE.below hB).mono hB.size
 have HEn := Lib.hid he
 have HLn := Lib.hid (And.intro hnl hel)
 have HB := Lib.hid hB
 have KN : Hid (∀ m V, 0 ≤ m → m ≤ 9223372036854775807 → CR 56 #[.int .i64 m] V (.string ⟨(numsB [m]).toArray⟩)) := fun m V h0 h1 => num20_B m h0 h1 V
 have KP : Hid (∀ m V, U64 m → CR 57 #[.int .u64 m] V (.string ⟨(numsB [m]).toArray⟩)) := fun m V h => refPut_B m h V
 have HU := Lib.hid hn
 have z0 := strB_size e
 have z1 := strB_size n
 have z2 := strB_size (nl : Int)
 have hcat : Hid ((⟨(numsB [e]).toArray⟩ : ByteArray) ++ ⟨(numsB [n]).toArray⟩ ++ ⟨(numsB [(nl : Int)]).toArray⟩ = ⟨((numsB [e] ++ numsB [n] ++ numsB [(nl : Int)]) ++ numsB (nots.take 0)).toArray⟩) := by
  rw [Hid, cat_mk, cat_mk]
  simp [numsB]
 obtain ⟨P0, hP0⟩ : ∃ P : ByteArray, ⟨(numsB [e]).toArray⟩ = P := ⟨_, rfl⟩
 obtain ⟨P1, hP1⟩ : ∃ P : ByteArray, ⟨(numsB [n]).toArray⟩ = P := ⟨_, rfl⟩
 obtain ⟨P2, hP2⟩ : ∃ P : ByteArray, ⟨(numsB [(nl : Int)]).toArray⟩ = P := ⟨_, rfl⟩
 have K0 : Hid (∀ V, CR 56 #[.int .i64 e] V (.string P0)) := fun V => hP0 ▸ KN.out e V e0 (by omega)
 have K1 : Hid (∀ V, CR 57 #[.int .u64 n] V (.string P1)) := fun V => hP1 ▸ KP.out n V hn
 have K2 : Hid (∀ V, CR 56 #[.int .i64 nl] V (.string P2)) := fun V => hP2 ▸ KN.out nl V (by omega) (by omega)
 rw [hP0] at z0 hcat
 rw [hP1] at z1 hcat
 rw [hP2] at z2 hcat
 obtain ⟨H, hH⟩ : ∃ H, numsB [e] ++ numsB [n] ++ numsB [(nl : Int)] = H := ⟨_, rfl⟩
 have hHz : H.length ≤ 27 := by
  rw [← hH]
  have h1 := (numsB_one_len e).2
  have h2 := (numsB_one_len n).2
  have h3 := (numsB_one_len (nl : Int)).2
  simp only [List.length_append]
  omega
 rw [hH] at hcat HFin
 have HHz := Lib.hid hHz
 obtain ⟨S0, hS0⟩ : ∃ S0 : ByteArray, ⟨(H ++ numsB (nots.take 0)).toArray⟩ = S0 := ⟨_, rfl⟩
 rw [hS0] at hcat
 have HS0 := Lib.hid hS0
 clear hS0
 have k1 : ¬ 9223372036854775807 < P0.size + P1.size := by omega
 have k2 : ¬ 9223372036854775807 < P0.size + P1.size + P2.size := by omega
 have m0 : ¬ e < 0 := by omega
 have m1 : ¬ 4611686018427387904 < e := by omega
 have m2 : ¬ (100 : Int) < (nl : Int) := by omega
 have m3 : ¬ (100 : Int) < (el : Int) := by omega
 have HN1 := Lib.hid (And.intro n1 t1)
 clear hX hB hn he hI hE hnl hel z0 z1 z2 hP0 hP1 hP2 hH hHz e0 e1 n1 t1
 go_enter Tryz.func22, Tryz.ntmps22
 go_wp2_with fail
 let Inv0 : World → Prop := fun V => Below W.heap.size W V
 have hgo0 : ∀ V V', Inv0 V → Below V.heap.size V V' → Inv0 V' := fun V V' h hb => Below.trans h (hb.mono (Below.size h))
 have q0 : ∀ X : WIn Inv0, X.world.cell? ⟨w.heap.size, 0, none⟩ = some (.int .i64 e) := fun X => (HC.out X.world X.ok).1
 have q1 : ∀ X : WIn Inv0, X.world.cell? ⟨w.heap.size, 1, none⟩ = some (.int .u64 n) := fun X => (HC.out X.world X.ok).2.1
 have q2 : ∀ X : WIn Inv0, X.world.cell? ⟨w.heap.size, 2, none⟩ = some (.slice na nl nc) := fun X => (HC.out X.world X.ok).2.2.1
 have q3 : ∀ X : WIn Inv0, X.world.cell? ⟨w.heap.size, 3, none⟩ = some (.slice ea el ec) := fun X => (HC.out X.world X.ok).2.2.2
 have a0 : Hid (∀ X : WIn Inv0, Calls Tryz.prog 56 #[.int .i64 e] X.world fun e w' => e = .returned (.string P0) ∧ ∃ Y : WIn Inv0, w' = Y.world) := fun X => calls_class_below hgo0 (K0.out X.world)
 have a1 : Hid (∀ X : WIn Inv0, Calls Tryz.prog 57 #[.int .u64 n] X.world fun e w' => e = .returned (.string P1) ∧ ∃ Y : WIn Inv0, w' = Y.world) := fun X => calls_class_below hgo0 (K1.out X.world)
 have a2 : Hid (∀ X : WIn Inv0, Calls Tryz.prog 56 #[.int .i64 nl] X.world fun e w' => e = .returned (.string P2) ∧ ∃ Y : WIn Inv0, w' = Y.world) := fun X => calls_class_below hgo0 (K2.out X.world)
 have hQ0 : Hid (∀ X : WIn Inv0, Below W.heap.size W X.world) := fun X => X.ok
 have hI0 : Hid (Inv0 (World.drew W)) := (Below.refl _ _).drew
 have hne0 : Nonempty (WIn Inv0) := ⟨⟨_, hI0.out⟩⟩
 clear hgo0
 clear_value Inv0
 refine wp_region_class Inv0 (by kernel_rfl) (by kernel_rfl) hI0.out ?_
 repeat (first | go_big_quiet_step ((first | (go_at_call 56; with_reducible exact a0.out _) | (go_at_call 57; with_reducible exact a1.out _) | (go_at_call 56; with_reducible exact a2.out _))) | quiet_step ((first | (go_at_call 56; with_reducible exact a0.out _) | (go_at_call 57; with_reducible exact a1.out _) | (go_at_call 56; with_reducible exact a2.out _))))
 refine wpQuiet_nil ?_
 rintro _ ⟨X, rfl⟩
 have HB0 := Lib.hid (hQ0.out X)
 generalize X.world = w1 at HB0 ⊢
 clear q0 q1 q2 q3 a0 a1 a2 hQ0 hI0 hne0 X
 clear Inv0
 rw [hcat.out]
 clear k1 k2 m0 m1 m2 m3 hcat K0 K1 K2 c0 c1 c2 c3
 go_wp2_with fail
 go_loopw [4, 5] (fun s i wr => ∃ k : Nat, s = .string ⟨(H ++ numsB (nots.take k)).toArray⟩ ∧ i = .int .i64 k ∧ k ≤ nl ∧ Hid (∀ m ∈ nots.take k, smallB m = true) ∧ Hid (Below W.heap.size W wr)) (fun _ i _ => nl - (intOf i).toNat)
 case atStart => exact ⟨0, by rw [HS0.out], rfl, Nat.zero_le _, (fun m hm => by cases hm), HB0⟩
 case round =>
  obtain ⟨k, rfl, rfl, hk, HS, HBk⟩ := hrel
  have hn1 := HN1.out.1
  obtain ⟨d0, d1, d2, d3⟩ := HC.out _ HBk.out
  by_cases hlt : k < nl
  ·obtain ⟨x, b1, o1, hx, rfl, hb1, hc1⟩ := (HI.out.below HBk.out).at hlt
   have p0 : wr.cell? ⟨b1, o1 + k * 1 + 0, none⟩ = some (.int .i64 x) := hc1 0 (by omega)
   simp only [Nat.mul_one, Nat.add_zero] at p0
   have i0 : (0 : Int) ≤ (k : Int) := by omega
   have i1 : (k : Int) < (nl : Int) := by omega
   by_cases hs : smallB x = true
   ·have hs2 := hs
    unfold smallB at hs2
    rw [Bool.and_eq_true, decide_eq_true_eq, decide_eq_true_eq] at hs2
    obtain ⟨x0, x1⟩ := hs2
    have j0 : ¬ x < 0 := by omega
    have j1 : ¬ 4611686018427387904 < x := by omega
    have HX : Hid (∀ V, Below W.heap.size W V → V.cell? ⟨w.heap.size, 2, none⟩ = some (.slice (some ⟨b1, o1, none⟩) nl nc) ∧ V.cell? ⟨b1, o1 + k, none⟩ = some (.int .i64 x)) := fun V hV => by
     obtain ⟨y, b2, o2, hy, e2, -, hc2⟩ := (HI.out.below hV).at hlt
     cases e2
     obtain rfl : x = y := Option.some.inj (hx.symm.trans hy)
     have q := hc2 0 (by omega)
     simp only [Nat.mul_one, Nat.add_zero] at q
     exact ⟨(HC.out V hV).2.2.1, q⟩
    have hlen : (H ++ numsB (nots.take k)).length ≤ 1000 := by
     have h1 := HHz.out
     have h2 := (numsB_len (nots.take k)).2
     rw [List.length_take] at h2
     rw [List.length_append]
     omega
    have hst : Hid ((⟨(H ++ numsB (nots.take k)).toArray⟩ : ByteArray) ++ ⟨(numsB [x]).toArray⟩ = ⟨(H ++ numsB (nots.take (k + 1))).toArray⟩) := by
     rw [Hid, cat_mk, nums_step hx, List.append_assoc]
    have HS1 : Hid (∀ m ∈ nots.take (k + 1), smallB m = true) := fun m hm => by
     rw [take_snoc' hx] at hm
     rcases List.mem_append.1 hm with h | h
     ·exact HS.out m h
     ·rw [List.mem_singleton.1 h]; exact hs
    have zS : (⟨(H ++ numsB (nots.take k)).toArray⟩ : ByteArray).size ≤ 1000 := by rw [str_size]; exact hlen
    have zX := strB_size x
    obtain ⟨S, hS⟩ : ∃ S : ByteArray, ⟨(H ++ numsB (nots.take k)).toArray⟩ = S := ⟨_, rfl⟩
    obtain ⟨P, hP⟩ : ∃ P : ByteArray, ⟨(numsB [x]).toArray⟩ = P := ⟨_, rfl⟩
    have KX : Hid (∀ V, CR 56 #[.int .i64 x] V (.string P)) := fun V => hP ▸ KN.out x V x0 (by omega)
    rw [hS] at hst zS ⊢
    rw [hP] at hst zX
    have kz : ¬ 9223372036854775807 < S.size + P.size := by omega
    clear hc1 hx hs hlen zS zX hS hP x0 x1
    go_wp2_with fail
    refine (KX.out _).mono ?_
    rintro e' w2 ⟨rfl, hb⟩
    have HB1 : Hid (Below W.heap.size W w2) := HBk.out.trans (hb.mono HBk.out.size)
    clear hb
    go_wp2_with fail
    rw [hst.out]
    go_roundw
    case rel =>
     exact ⟨k + 1, rfl, by go_num, by omega, HS1, HB1⟩
    case measure => simp [intOf]; omega
   ·have hmem : x ∈ nots := List.mem_of_getElem? hx
    obtain ⟨rfl, rfl⟩ := HNo.out ⟨x, hmem, by simpa using hs⟩
    have hd : x < 0 ∨ (¬ x < 0 ∧ 4611686018427387904 < x) := by
     unfold smallB at hs
     rw [Bool.and_eq_true, decide_eq_true_eq, decide_eq_true_eq] at hs
     omega
    have HBw : Hid (Below w.heap.size w wr) := HB.out.trans (HBk.out.mono HB.out.size)
    clear hc1 hx hs hmem
    rcases hd with j0 | ⟨j0, j1⟩
    all_goals
     go_wp2_with fail
     go_ret2
     exact ⟨rfl, HBw.out⟩
  ·obtain rfl : k = nl := by omega
   have hSa : ∀ m ∈ nots, smallB m = true := fun m hm => HS.out m (by rw [HLn.out.1, List.take_length]; exact hm)
   have HSa := Lib.hid hSa
   have hlen : (H ++ numsB (nots.take k)).length ≤ 1000 := by
    have h1 := HHz.out
    have h2 := (numsB_len (nots.take k)).2
    rw [List.length_take] at h2
    rw [List.length_append]
    omega
   have zS : (⟨(H ++ numsB (nots.take k)).toArray⟩ : ByteArray).size ≤ 1000 := by rw [str_size]; exact hlen
   have zX := strB_size (el : Int)
   have hst : Hid ((⟨(H ++ numsB (nots.take k)).toArray⟩ : ByteArray) ++ ⟨(numsB [(el : Int)]).toArray⟩ = ⟨((H ++ numsB (nots.take k) ++ numsB [(el : Int)]) ++ entsB ents 0).toArray⟩) := by
    rw [Hid, cat_mk]
    simp [entsB]
   have hgz : Hid ((H ++ numsB (nots.take k) ++ numsB [(el : Int)]).length ≤ 1009) := by
    rw [Hid, List.length_append]
    have := (numsB_one_len (el : Int)).2
    omega
   obtain ⟨G, hG⟩ : ∃ G, H ++ numsB (nots.take k) ++ numsB [(el : Int)] = G := ⟨_, rfl⟩
   rw [hG] at hst hgz HFin
   obtain ⟨S, hS⟩ : ∃ S : ByteArray, ⟨(H ++ numsB (nots.take k)).toArray⟩ = S := ⟨_, rfl⟩
   obtain ⟨P, hP⟩ : ∃ P : ByteArray, ⟨(numsB [(el : Int)]).toArray⟩ = P := ⟨_, rfl⟩
   obtain ⟨S1, hS1⟩ : ∃ S1 : ByteArray, ⟨(G ++ entsB ents 0).toArray⟩ = S1 := ⟨_, rfl⟩
   rw [hS1] at hst
   have HS1 := Lib.hid hS1
   clear hS1
   have ht1 := HN1.out.2
   have KX : Hid (∀ V, CR 56 #[.int .i64 el] V (.string P)) := fun V => hP ▸ KN.out el V (by omega) (by omega)
   rw [hS] at hst zS ⊢
   rw [hP] at hst zX
   have kz : ¬ 9223372036854775807 < S.size + P.size := by omega
   clear hlen zS zX hS hP hG hSa HS ht1
   go_wp2_with fail
   refine (KX.out _).mono ?_
   rintro e' w3 ⟨rfl, hb⟩
   have HB2 : Hid (Below W.heap.size W w3) := HBk.out.trans (hb.mono HBk.out.size)
   clear hb
   go_wp2_with fail
   rw [hst.out]
   clear kz hst KX d0 d1 d2 d3 HBk
   go_loopw [4, 6] (fun s i wr => ∃ j : Nat, s = .string ⟨(G ++ entsB ents j).toArray⟩ ∧ i = .int .i64 j ∧ j ≤ el ∧ Hid (∀ x ∈ ents.take j, x.text.size ≤ 400) ∧ Hid (Below W.heap.size W wr)) (fun _ i _ => el - (intOf i).toNat)
   case atStart => exact ⟨0, by rw [HS1.out], rfl, Nat.zero_le _, (fun m hm => by cases hm), HB2⟩
   case round =>
    obtain ⟨j, rfl, rfl, hj, HT, HBj⟩ := hrel
    have ht1 := HN1.out.2
    obtain ⟨d0, d1, d2, d3⟩ := HC.out _ HBj.out
    by_cases hlt2 : j < el
    ·obtain ⟨x, b1, o1, hx, rfl, hb1, hc1⟩ := (HE.out.below HBj.out).at hlt2
     have p0 : wr.cell? ⟨b1, o1 + j * 4, none⟩ = some (.int .u64 x.seq) := hc1 0 (by omega)
     have p1 : wr.cell? ⟨b1, o1 + j * 4 + 1, none⟩ = some (.int .u64 x.tm) := hc1 1 (by omega)
     have p2 : wr.cell? ⟨b1, o1 + j * 4 + 2, none⟩ = some (.string x.text) := hc1 2 (by omega)
     have p3 : wr.cell? ⟨b1, o1 + j * 4 + 3, none⟩ = some (.int .u64 x.sum) := hc1 3 (by omega)
     have i0 : (0 : Int) ≤ (j : Int) := by omega
     have i1 : (j : Int) < (el : Int) := by omega
     obtain ⟨V, hV, hVX, hBV, -⟩ := boxes1 wr #[.int .u64 x.seq, .int .u64 x.tm, .string x.text, .int .u64 x.sum] 116
     obtain ⟨v0, v1, v2, v3⟩ := cl4 hVX
     have hBWV : Below W.heap.size W V := HBj.out.trans (hBV.mono HBj.out.size)
     have HBV := Lib.hid hBWV
     have hmem : x ∈ ents := List.mem_of_getElem? hx
     by_cases hs : x.text.size ≤ 400
     ·have j0 : ¬ (400 : Int) < (x.text.size : Int) := by omega
      obtain ⟨⟨us, um, uu⟩, -⟩ := HEn.out x hmem
      have HX : Hid (∀ U, Below V.heap.size V U → U.cell? ⟨wr.heap.size, 0, none⟩ = some (.int .u64 x.seq) ∧ U.cell? ⟨wr.heap.size, 1, none⟩ = some (.int .u64 x.tm) ∧ U.cell? ⟨wr.heap.size, 2, none⟩ = some (.string x.text) ∧ U.cell? ⟨wr.heap.size, 3, none⟩ = some (.int .u64 x.sum)) := fun U hU => by
       have y := known hU (Nat.le_refl _) hVX
       exact ⟨cCc y 0, cCc y 1, cCc y 2, cCc y 3⟩
      have hlen : (G ++ entsB ents j).length ≤ 50000 := by
       have h1 := hgz.out
       have h2 := entsB_len (l := ents) (k := j) HT.out
       rw [List.length_append]
       omega
      have hst : Hid ((⟨(G ++ entsB ents j).toArray⟩ : ByteArray) ++ ⟨(numsB [x.seq]).toArray⟩ ++ ⟨(numsB [x.tm]).toArray⟩ ++ ⟨(numsB [(x.text.size : Int)]).toArray⟩ ++ x.text ++ ⟨(numsB [x.sum]).toArray⟩ = ⟨(G ++ entsB ents (j + 1)).toArray⟩) := by
       rw [Hid, entsB_step hx, show x.text = (⟨x.text.data.toList.toArray⟩ : ByteArray) from rfl, cat_mk, cat_mk, cat_mk, cat_mk, cat_mk]
       unfold entB textB
       simp only [List.append_assoc]
      have HS1 : Hid (∀ y ∈ ents.take (j + 1), y.text.size ≤ 400) := fun m hm => by
       rw [take_snoc' hx] at hm
       rcases List.mem_append.1 hm with h | h
       ·exact HT.out m h
       ·rw [List.mem_singleton.1 h]; exact hs
      have zS : (⟨(G ++ entsB ents j).toArray⟩ : ByteArray).size ≤ 50000 := by rw [str_size]; exact hlen
      have z0 := strB_size x.seq
      have z1 := strB_size x.tm
      have z2 := strB_size (x.text.size : Int)
      have z3 := strB_size x.sum
      obtain ⟨S, hS⟩ : ∃ S : ByteArray, ⟨(G ++ entsB ents j).toArray⟩ = S := ⟨_, rfl⟩
      obtain ⟨A0, hA0⟩ : ∃ P : ByteArray, ⟨(numsB [x.seq]).toArray⟩ = P := ⟨_, rfl⟩
      obtain ⟨A1, hA1⟩ : ∃ P : ByteArray, ⟨(numsB [x.tm]).toArray⟩ = P := ⟨_, rfl⟩
      obtain ⟨A2, hA2⟩ : ∃ P : ByteArray, ⟨(numsB [(x.text.size : Int)]).toArray⟩ = P := ⟨_, rfl⟩
      obtain ⟨A3, hA3⟩ : ∃ P : ByteArray, ⟨(numsB [x.sum]).toArray⟩ = P := ⟨_, rfl⟩
      have K0 : Hid (∀ V, CR 57 #[.int .u64 x.seq] V (.string A0)) := fun V => hA0 ▸ KP.out _ V us
      have K1 : Hid (∀ V, CR 57 #[.int .u64 x.tm] V (.string A1)) := fun V => hA1 ▸ KP.out _ V um
      have K2 : Hid (∀ V, CR 56 #[.int .i64 x.text.size] V (.string A2)) := fun V => hA2 ▸ KN.out _ V (by omega) (by omega)
      have K3 : Hid (∀ V, CR 57 #[.int .u64 x.sum] V (.string A3)) := fun V => hA3 ▸ KP.out _ V uu
      rw [hS] at hst zS ⊢
      rw [hA0] at hst z0
      rw [hA1] at hst z1
      rw [hA2] at hst z2
      rw [hA3] at hst z3
      have k1 : ¬ 9223372036854775807 < S.size + A0.size := by omega
      have k2 : ¬ 9223372036854775807 < S.size + A0.size + A1.size := by omega
      have k3 : ¬ 9223372036854775807 < S.size + A0.size + A1.size + A2.size := by omega
      have k4 : ¬ 9223372036854775807 < S.size + A0.size + A1.size + A2.size + x.text.size := by omega
      have k5 : ¬ 9223372036854775807 < S.size + A0.size + A1.size + A2.size + x.text.size + A3.size := by omega
      clear hc1 hx hs hlen zS z0 z1 z2 z3 hS hA0 hA1 hA2 hA3 us um uu hVX hBV hBWV hmem
      go_wp2_with fail
      let Inv3 : World → Prop := fun U => Below V.heap.size V U
      have hgo3 : ∀ V V', Inv3 V → Below V.heap.size V V' → Inv3 V' := fun V V' h hb => Below.trans h (hb.mono (Below.size h))
      have q0 : ∀ X : WIn Inv3, X.world.cell? ⟨wr.heap.size, 0, none⟩ = some (.int .u64 x.seq) := fun X => (HX.out X.world X.ok).1
      have q1 : ∀ X : WIn Inv3, X.world.cell? ⟨wr.heap.size, 1, none⟩ = some (.int .u64 x.tm) := fun X => (HX.out X.world X.ok).2.1
      have q2 : ∀ X : WIn Inv3, X.world.cell? ⟨wr.heap.size, 2, none⟩ = some (.string x.text) := fun X => (HX.out X.world X.ok).2.2.1
      have q3 : ∀ X : WIn Inv3, X.world.cell? ⟨wr.heap.size, 3, none⟩ = some (.int .u64 x.sum) := fun X => (HX.out X.world X.ok).2.2.2
      have a0 : Hid (∀ X : WIn Inv3, Calls Tryz.prog 57 #[.int .u64 x.seq] X.world fun e w' => e = .returned (.string A0) ∧ ∃ Y : WIn Inv3, w' = Y.world) := fun X => calls_class_below hgo3 (K0.out X.world)
      have a1 : Hid (∀ X : WIn Inv3, Calls Tryz.prog 57 #[.int .u64 x.tm] X.world fun e w' => e = .returned (.string A1) ∧ ∃ Y : WIn Inv3, w' = Y.world) := fun X => calls_class_below hgo3 (K1.out X.world)
      have a2 : Hid (∀ X : WIn Inv3, Calls Tryz.prog 56 #[.int .i64 x.text.size] X.world fun e w' => e = .returned (.string A2) ∧ ∃ Y : WIn Inv3, w' = Y.world) := fun X => calls_class_below hgo3 (K2.out X.world)
      have a3 : Hid (∀ X : WIn Inv3, Calls Tryz.prog 57 #[.int .u64 x.sum] X.world fun e w' => e = .returned (.string A3) ∧ ∃ Y : WIn Inv3, w' = Y.world) := fun X => calls_class_below hgo3 (K3.out X.world)
      have hQ3 : Hid (∀ X : WIn Inv3, Below V.heap.size V X.world) := fun X => X.ok
      have hI3 : Hid (Inv3 (World.drew V)) := (Below.refl _ _).drew
      have hne3 : Nonempty (WIn Inv3) := ⟨⟨_, hI3.out⟩⟩
      clear hgo3
      clear_value Inv3
      refine wp_region_class Inv3 (by kernel_rfl) (by kernel_rfl) hI3.out ?_
      repeat (first | go_big_quiet_step ((first | (go_at_call 57; with_reducible exact a0.out _) | (go_at_call 57; with_reducible exact a1.out _) | (go_at_call 56; with_reducible exact a2.out _) | (go_at_call 57; with_reducible exact a3.out _))) | quiet_step ((first | (go_at_call 57; with_reducible exact a0.out _) | (go_at_call 57; with_reducible exact a1.out _) | (go_at_call 56; with_reducible exact a2.out _) | (go_at_call 57; with_reducible exact a3.out _))))
      refine wpQuiet_nil ?_
      rintro _ ⟨X, rfl⟩
      have HB3 := Lib.hid (hQ3.out X)
      generalize X.world = w4 at HB3 ⊢
      clear q0 q1 q2 q3 a0 a1 a2 a3 hQ3 hI3 hne3 X
      clear Inv3
      rw [hst.out]
      have HB4 : Hid (Below W.heap.size W w4) := HBV.out.trans (HB3.out.mono HBV.out.size)
      go_wp2_with fail
      go_roundw
      case rel => exact ⟨j + 1, rfl, by go_num, by omega, HS1, HB4⟩
      case measure => simp [intOf]; omega
     ·obtain ⟨rfl, rfl⟩ := HNo2.out ⟨x, hmem, hs⟩
      have j0 : (400 : Int) < (x.text.size : Int) := by omega
      have HBw : Hid (Below w.heap.size w V) := HB.out.trans (HBV.out.mono HB.out.size)
      clear hc1 hx hs hmem hVX hBV hBWV
      go_wp2_with fail
      go_ret2
      exact ⟨rfl, HBw.out⟩
    ·obtain rfl : j = el := by omega
     obtain ⟨rfl, rfl⟩ := HFin.out HSa.out (fun x hx => HT.out x (by rw [HLn.out.2, List.take_length]; exact hx))
     have HBw : Hid (Below w.heap.size w wr) := HB.out.trans (HBj.out.mono HB.out.size)
     go_wp2_with fail
     go_ret2
     exact ⟨rfl, HBw.out⟩
theorem ref20_PutReply_any (y : Ry) (na : Option Addr) (nc : Nat) (ea : Option Addr) (ec : Nat) (w : World) (hn : U64 y.n) (he : ∀ x ∈ y.ents, (U64 x.seq ∧ U64 x.tm ∧ U64 x.sum) ∧ x.text.size < 4294967281) (hI : SlE encI 1 w.heap.size w na y.nots.length y.nots) (hE : SlE Ent.enc 4 w.heap.size w ea y.ents.length y.ents) :
  CR 22 #[.agg (ryV y na nc ea ec)] w (.tuple #[.string (if y.ok then ⟨y.B.toArray⟩ else ⟨#[]⟩), .int .i64 (if y.ok then 0 else 200)]) := by
 by_cases h : y.e < 0 ∨ 4611686018427387904 < y.e ∨ 100 < y.nots.length ∨ 100 < y.ents.length
 ·rw [Ry.notOk (fun h2 => by omega)]
  obtain ⟨e, n, nots, ents⟩ := y
  dsimp only at h
  unfold ryV
  dsimp only
  obtain ⟨nl, hnl⟩ : ∃ nl, nots.length = nl := ⟨_, rfl⟩
  obtain ⟨el, hel⟩ : ∃ el, ents.length = el := ⟨_, rfl⟩
  rw [hnl, hel] at h ⊢
  have hd : e < 0 ∨ (¬ e < 0 ∧ 4611686018427387904 < e) ∨ (¬ e < 0 ∧ ¬ 4611686018427387904 < e ∧ (100 : Int) < (nl : Int)) ∨ (¬ e < 0 ∧ ¬ 4611686018427387904 < e ∧ ¬ (100 : Int) < (nl : Int) ∧ (100 : Int) < (el : Int)) := by omega
  obtain ⟨W, hW, hX, hB, -⟩ := boxes1 w #[.int .i64 e, .int .u64 n, .slice na nl nc, .slice ea el ec] 60
  obtain ⟨c0, c1, c2, c3⟩ := cl4 hX
  have HB := Lib.hid hB
  clear hX hB h hn he hI hE hnl hel
  rcases hd with h1 | ⟨h1, h2⟩ | ⟨h1, h2, h3⟩ | ⟨h1, h2, h3, h4⟩
  all_goals
   go_enter Tryz.func22, Tryz.ntmps22
   go_wp2_with fail
   go_ret2
   exact ⟨rfl, HB.out⟩
 ·exact ref20_PutReply_in y.e y.n y.nots y.ents y.nots.length y.ents.length na nc ea ec w (by omega) (by omega) (by omega) (by omega) hn he hI hE
end Go.Proofs.YtpklkhgnjbopnaaGreatDoor
namespace Go.Proofs.YtpklkhgnjbopnaaGreatDoor
open Go Go.RowKit Go.Shelf
set_option maxHeartbeats 1000000 in
theorem refCheck_any (s : ByteArray) (hs : s.size < 4294967281) (w : World) : Calls Tryz.prog 118 #[.string s] w fun e w' => e = .returned (.int .u32 (checkN s.data.toList)) ∧ w' = w := by
 obtain ⟨C, hC⟩ : ∃ C, checkN s.data.toList = C := ⟨_, rfl⟩
 rw [hC]
 have HC : Hid (C = (ckPair s.data.toList).2 * 65536 + (ckPair s.data.toList).1) := by rw [Hid, ← hC]; rfl
 clear hC
 go_enter Tryz.func118, Tryz.ntmps118
 go_wp2_with fail
 go_loopw [3, 4, 5] (fun a b i wr => ∃ k : Nat, a = .int .u32 (ckPair (s.data.toList.take k)).1 ∧ b = .int .u32 (ckPair (s.data.toList.take k)).2 ∧ i = .int .i64 k ∧ k ≤ s.size ∧ wr = w) (fun _ _ i _ => s.size - (intOf i).toNat)
 case atStart => exact ⟨0, rfl, rfl, rfl, Nat.zero_le _, rfl⟩
 case round =>
  obtain ⟨k, rfl, rfl, rfl, hk, rfl⟩ := hrel
  by_cases hlt : k < s.size
  ·have i0 : (0 : Int) ≤ (k : Int) := by omega
   have i1 : (k : Int) < (s.size : Int) := by omega
   have hp := ckPair_lt (s.data.toList.take k)
   have hS : Hid (ckPair (s.data.toList.take (k + 1)) = ckStep (ckPair (s.data.toList.take k)) (s[k]'hlt)) := by rw [Hid, take_byte s k hlt, ckPair_snoc]
   obtain ⟨p, hpe⟩ : ∃ p, ckPair (s.data.toList.take k) = p := ⟨_, rfl⟩
   rw [hpe] at hp hS ⊢
   obtain ⟨p1, p2⟩ := p
   dsimp only at hp ⊢
   obtain ⟨hp1, hp2⟩ := hp
   have hx := UInt8.toNat_lt (s[k]'hlt)
   obtain ⟨q1, hq1⟩ : ∃ q : Nat, (p1 + (s[k]'hlt).toNat) % 65521 = q := ⟨_, rfl⟩
   have hq1l : q1 < 65521 := by rw [← hq1]; exact Nat.mod_lt _ (by decide)
   have hA : ((p1 : Int) + ((s[k]'hlt).toNat : Int)) % 65521 = (q1 : Int) := by omega
   have hA2 : ((p2 : Int) + (q1 : Int)) % 65521 = (((p2 + q1) % 65521 : Nat) : Int) := by omega
   have hE : Hid (ckStep (p1, p2) (s[k]'hlt) = (q1, (p2 + q1) % 65521)) := by
    rw [Hid, ← hq1]
    rfl
   clear hpe hq1
   go_wp2_with fail
   refine ⟨⟨k + 1, ?_, ?_, by go_num, by omega, trivial⟩, by simp [intOf]; omega⟩
   ·rw [hS.out, hE.out, hA]
   ·rw [hS.out, hE.out, hA2]
  ·obtain rfl : k = s.size := by omega
   have hl : s.data.toList.take s.size = s.data.toList := List.take_of_length_le (by rw [Array.length_toList]; exact Nat.le_refl _)
   rw [hl]
   have hp := ckPair_lt s.data.toList
   obtain ⟨⟨p1, p2⟩, hpe⟩ : ∃ p, ckPair s.data.toList = p := ⟨_, rfl⟩
   rw [hpe] at hp HC ⊢
   dsimp only at hp HC ⊢
   obtain ⟨hp1, hp2⟩ := hp
   have HE : Hid (65536 * (p2 : Int) + (p1 : Int) = (C : Int)) := by have := HC.out; rw [Hid]; omega
   clear hl hpe HC
   go_wp2_with fail
   go_ret
   refine ⟨?_, rfl⟩
   rw [HE.out]
   rfl
set_option maxRecDepth 100000 in
theorem four_any (n : Nat) (hn : n < 4294967296) (w : World) : CR 117 #[.int .u32 n] w (.string ⟨(fourB n).toArray⟩) := by
 have e : (n : Int) / 16777216 = ((n / 16777216 % 256 : Nat) : Int) := by omega
 have e2 : (n : Int) / 65536 % 256 = ((n / 65536 % 256 : Nat) : Int) := by omega
 have e3 : (n : Int) / 256 % 256 = ((n / 256 % 256 : Nat) : Int) := by omega
 have e4 : (n : Int) % 256 = ((n % 256 : Nat) : Int) := by omega
 have hcv : ∀ V : World, (convert 84 9 (.slice (some ⟨V.heap.size, 0, none⟩) 4 4)).run Tryz.prog (V.alloc (.cells #[.int .u8 ((n : Int) / 16777216), .int .u8 ((n : Int) / 65536 % 256), .int .u8 ((n : Int) / 256 % 256), .int .u8 ((n : Int) % 256)] 5)) = .ok (.string ⟨(fourB n).toArray⟩) (V.alloc (.cells #[.int .u8 ((n : Int) / 16777216), .int .u8 ((n : Int) / 65536 % 256), .int .u8 ((n : Int) / 256 % 256), .int .u8 ((n : Int) % 256)] 5)) := fun V => by
  have h := conv_new V [(n : Int) / 16777216, (n : Int) / 65536 % 256, (n : Int) / 256 % 256, (n : Int) % 256] 4
  have hs : strOfNums [(n : Int) / 16777216, (n : Int) / 65536 % 256, (n : Int) / 256 % 256, (n : Int) % 256] = ⟨(fourB n).toArray⟩ := by
   rw [e, e2, e3, e4]
   rfl
  rw [hs] at h
  exact h
 obtain ⟨W, hW, hX, hB, -⟩ := boxes1 w #[.int .u8 ((n : Int) / 16777216), .int .u8 ((n : Int) / 65536 % 256), .int .u8 ((n : Int) / 256 % 256), .int .u8 ((n : Int) % 256)] 5
 have hcw := hcv w
 rw [hW] at hcw
 have HB := Lib.hid hB
 obtain ⟨R, hR⟩ : ∃ R : ByteArray, ⟨(fourB n).toArray⟩ = R := ⟨_, rfl⟩
 rw [hR] at hcw ⊢
 have hn0 : (0 : Int) ≤ (n : Int) := by omega
 have hn1 : (n : Int) < 4294967296 := by omega
 have hn2 : (n : Int) ≤ 4294967295 := by omega
 have hd : (n : Int) / 16777216 % 256 = (n : Int) / 16777216 := by omega
 clear e e2 e3 e4 hcv hX hB hR hn
 go_enter Tryz.func117, Tryz.ntmps117
 go_wp2_with fail
 go_ret
 exact ⟨rfl, HB.out⟩
set_option maxRecDepth 100000 in
set_option maxHeartbeats 2000000 in
theorem refMake_ok (s : ByteArray) (h1 : 0 < s.size) (h2 : s.size ≤ 2000) (w : World) : CR 94 #[.string s] w (.tuple #[.string ⟨(mkF s.data.toList).toArray⟩, .int .i64 0]) := by
 have hP := refPut_B (s.size : Int) ⟨by omega, by omega⟩
 have hK := Lib.hid fun V => refCheck_any s (by omega) V
 have hF := Lib.hid fun V => four_any (checkN s.data.toList) (checkN_lt _) V
 have z0 := strB_size (s.size : Int)
 have z1 : (⟨(fourB (checkN s.data.toList)).toArray⟩ : ByteArray).size = 4 := by rw [str_size]; rfl
 have hcat : Hid ((⟨#[167]⟩ : ByteArray) ++ ⟨(numsB [(s.size : Int)]).toArray⟩ ++ s ++ ⟨(fourB (checkN s.data.toList)).toArray⟩ = ⟨(mkF s.data.toList).toArray⟩) := by
  rw [Hid, show (⟨#[167]⟩ : ByteArray) = ⟨([167] : List UInt8).toArray⟩ from rfl]
  conv => lhs; rw [show s = (⟨s.data.toList.toArray⟩ : ByteArray) from rfl]
  rw [cat_mk, cat_mk, cat_mk]
  unfold mkF
  rw [show (s.data.toList.length : Int) = (s.size : Int) by rw [Array.length_toList]; rfl]
  simp only [List.append_assoc, List.cons_append, List.nil_append]
 have HP := Lib.hid hP
 obtain ⟨P0, hP0⟩ : ∃ P : ByteArray, ⟨(numsB [(s.size : Int)]).toArray⟩ = P := ⟨_, rfl⟩
 obtain ⟨P1, hP1⟩ : ∃ P : ByteArray, ⟨(fourB (checkN s.data.toList)).toArray⟩ = P := ⟨_, rfl⟩
 obtain ⟨C, hC⟩ : ∃ C, checkN s.data.toList = C := ⟨_, rfl⟩
 rw [hP0] at HP z0 hcat
 rw [hP1] at hF z1 hcat
 rw [hC] at hK hF
 obtain ⟨M, hM⟩ : ∃ M : ByteArray, ⟨(mkF s.data.toList).toArray⟩ = M := ⟨_, rfl⟩
 rw [hM] at hcat ⊢
 have n1 : ¬ (s.size : Int) < 1 := by omega
 have n2 : ¬ (2000 : Int) < (s.size : Int) := by omega
 have k1 : ¬ 9223372036854775807 < 1 + P0.size := by omega
 have k2 : ¬ 9223372036854775807 < 1 + P0.size + s.size := by omega
 have k3 : ¬ 9223372036854775807 < 1 + P0.size + s.size + P1.size := by omega
 clear hP hP0 hP1 hC hM z0 h1 h2
 go_enter Tryz.func94, Tryz.ntmps94
 go_wp2_with fail
 refine (HP.out _).mono ?_
 rintro e w1 ⟨rfl, hb⟩
 have HB0 := Lib.hid hb
 clear hb
 go_wp2_with fail
 refine (hK.out _).mono ?_
 rintro e w2 ⟨rfl, hw⟩
 have hw := hw.symm
 subst hw
 go_wp2_with fail
 refine (hF.out _).mono ?_
 rintro e w3 ⟨rfl, hb⟩
 have HB3 : Hid (Below w.heap.size w w3) := HB0.out.trans (hb.mono HB0.out.size)
 clear hb
 go_wp2_with fail
 rw [hcat.out]
 go_ret2
 exact ⟨rfl, HB3.out⟩
theorem framed20_ok (s : ByteArray) (h1 : 0 < s.size) (h2 : s.size ≤ 2000) (w : World) : CR 66 #[.string s] w (.tuple #[.string ⟨(mkF s.data.toList).toArray⟩, .int .i64 0]) := by
 have HM := Lib.hid (refMake_ok s h1 h2 w)
 clear h1 h2
 go_enter Tryz.func66, Tryz.ntmps66
 go_wp2_with fail
 refine HM.out.mono ?_
 rintro e w1 ⟨rfl, hb⟩
 have HB := Lib.hid hb
 clear hb
 go_wp2_with fail
 go_ret2
 exact ⟨rfl, HB.out⟩
theorem refPutText_any (s : ByteArray) (w : World) (hs : s.size < 4294967281) : CR 65 #[.string s] w (.tuple #[.string ⟨(putT s).toArray⟩, .int .i64 (if 400 < s.size then 21 else 0)]) := by
 unfold putT
 by_cases h4 : 400 < s.size
 ·rw [if_pos h4, if_pos h4]
  have j0 : (400 : Int) < (s.size : Int) := by omega
  clear h4 hs
  go_enter Tryz.func65, Tryz.ntmps65
  go_wp2_with fail
  go_ret2
  exact ⟨rfl, Below.refl _ _⟩
 ·rw [if_neg h4, if_neg h4]
  have j0 : ¬ (400 : Int) < (s.size : Int) := by omega
  have hP := refPut_B (s.size : Int) ⟨by omega, by omega⟩
  have z0 := strB_size (s.size : Int)
  have hcat : Hid ((⟨(numsB [(s.size : Int)]).toArray⟩ : ByteArray) ++ s = ⟨(textB s).toArray⟩) := by
   rw [Hid]
   conv => lhs; rw [show s = (⟨s.data.toList.toArray⟩ : ByteArray) from rfl]
   rw [cat_mk]
   rfl
  have HP := Lib.hid hP
  obtain ⟨P0, hP0⟩ : ∃ P : ByteArray, ⟨(numsB [(s.size : Int)]).toArray⟩ = P := ⟨_, rfl⟩
  rw [hP0] at HP z0 hcat
  obtain ⟨M, hM⟩ : ∃ M : ByteArray, ⟨(textB s).toArray⟩ = M := ⟨_, rfl⟩
  rw [hM] at hcat ⊢
  have k1 : ¬ 9223372036854775807 < P0.size + s.size := by omega
  clear hP hP0 hM z0 h4 hs
  go_enter Tryz.func65, Tryz.ntmps65
  go_wp2_with fail
  refine (HP.out _).mono ?_
  rintro e w1 ⟨rfl, hb⟩
  have HB := Lib.hid hb
  clear hb
  go_wp2_with fail
  rw [hcat.out]
  go_ret2
  exact ⟨rfl, HB.out⟩
theorem refHello_bad (now : Int) (tok : ByteArray) (h : 400 < tok.size) (hs : tok.size < 4294967281) (w : World) : CR 27 #[.int .u64 now, .string tok] w (.tuple #[.string ⟨#[]⟩, .int .i64 200]) := by
 have hP := refPutText_any tok w hs
 rw [if_pos h] at hP
 have HP := Lib.hid hP
 clear hP
 go_enter Tryz.func27, Tryz.ntmps27
 go_wp2_with fail
 refine HP.out.mono ?_
 rintro e w1 ⟨rfl, hb⟩
 have HB := Lib.hid hb
 clear hb HP
 go_wp2_with fail
 go_ret2
 exact ⟨rfl, HB.out⟩
set_option maxRecDepth 100000 in
set_option maxHeartbeats 1000000 in
theorem refHello_ok (now : Int) (tok : ByteArray) (hn : U64 now) (h : tok.size ≤ 400) (w : World) : CR 27 #[.int .u64 now, .string tok] w (.tuple #[.string ⟨(mkF (helB now tok)).toArray⟩, .int .i64 0]) := by
 have hP := refPutText_any tok w (by omega)
 rw [if_neg (by omega)] at hP
 unfold putT at hP
 rw [if_neg (by omega)] at hP
 have hL := helB_len now h
 have z0 := strB_size now
 have z1 : (⟨(textB tok).toArray⟩ : ByteArray).size ≤ 409 := by rw [str_size]; have := textB_len tok; omega
 have hcat : (⟨#[1]⟩ : ByteArray) ++ ⟨(numsB [now]).toArray⟩ ++ ⟨(textB tok).toArray⟩ = ⟨(helB now tok).toArray⟩ := by
  rw [show (⟨#[1]⟩ : ByteArray) = ⟨([1] : List UInt8).toArray⟩ from rfl, cat_mk, cat_mk]
  rfl
 have HF : Hid (∀ V, CR 66 #[.string ((⟨#[1]⟩ : ByteArray) ++ ⟨(numsB [now]).toArray⟩ ++ ⟨(textB tok).toArray⟩)] V (.tuple #[.string ⟨(mkF (helB now tok)).toArray⟩, .int .i64 0])) := fun V => by
  rw [hcat]
  exact framed20_ok ⟨(helB now tok).toArray⟩ (by rw [str_size]; omega) (by rw [str_size]; omega) V
 have HN : Hid (∀ V, CR 57 #[.int .u64 now] V (.string ⟨(numsB [now]).toArray⟩)) := fun V => refPut_B now hn V
 obtain ⟨P0, hP0⟩ : ∃ P : ByteArray, ⟨(numsB [now]).toArray⟩ = P := ⟨_, rfl⟩
 obtain ⟨P1, hP1⟩ : ∃ P : ByteArray, ⟨(textB tok).toArray⟩ = P := ⟨_, rfl⟩
 rw [hP0] at HN z0 HF
 rw [hP1] at hP z1 HF
 have HP := Lib.hid hP
 have k1 : ¬ 9223372036854775807 < 1 + P0.size := by omega
 have k2 : ¬ 9223372036854775807 < 1 + P0.size + P1.size := by omega
 clear hP hP0 hP1 hL z0 z1 hcat h hn
 go_enter Tryz.func27, Tryz.ntmps27
 go_wp2_with fail
 refine HP.out.mono ?_
 rintro e w1 ⟨rfl, hb⟩
 have HB := Lib.hid hb
 clear hb HP
 go_wp2_with fail
 refine (HN.out _).mono ?_
 rintro e w2 ⟨rfl, hb⟩
 have HB2 : Hid (Below w.heap.size w w2) := HB.out.trans (hb.mono HB.out.size)
 clear hb
 go_wp2_with fail
 refine (HF.out _).mono ?_
 rintro e w3 ⟨rfl, hb⟩
 have HB3 : Hid (Below w.heap.size w w3) := HB2.out.trans (hb.mono HB2.out.size)
 clear hb
 go_wp2_with fail
 go_ret2
 exact ⟨rfl, HB3.out⟩
set_option maxRecDepth 100000 in
set_option maxHeartbeats 1000000 in
theorem refAsk_any (r : Rq) (ia : Option Addr) (ic : Nat) (ta : Option Addr) (tc : Nat) (w : World) (hw : r.Wf) (hI : SlE encIt 2 w.heap.size w ia r.items.length r.items) (hT : SlE encU 1 w.heap.size w ta r.tens.length r.tens) :
  CR 29 #[.agg (rqV r ia ic ta tc)] w (.tuple #[.string (if r.ok then ⟨(mkF (askB r)).toArray⟩ else ⟨#[]⟩), .int .i64 (if r.ok then 0 else 200)]) := by
 obtain ⟨W, hW, hX, hB, -⟩ := boxes1 w (rqV r ia ic ta tc) 56
 have hP := ref20_PutReq_any r ia ic ta tc W hw (hI.go hB) (hT.go hB)
 unfold rqV at hX hW hP ⊢
 obtain ⟨c0, c1, c2, c3, c4, c5, c6, c7, c8, c9⟩ := cl10 hX
 have HB := Lib.hid hB
 cases hok : r.ok with
 | false =>
  rw [hok] at hP
  have HP := Lib.hid hP
  clear hP hX hB hI hT hw hok
  go_enter Tryz.func29, Tryz.ntmps29
  go_wp2_with fail
  refine HP.out.mono ?_
  rintro e w1 ⟨rfl, hb⟩
  have HB1 : Hid (Below w.heap.size w w1) := HB.out.trans (hb.mono HB.out.size)
  clear hb HP
  go_wp2_with fail
  go_ret2
  exact ⟨rfl, HB1.out⟩
 | true =>
  rw [hok] at hP
  have hL := askB_len hok
  have z0 : (⟨r.B.toArray⟩ : ByteArray).size ≤ 2000 := by rw [str_size]; unfold askB at hL; rw [List.length_cons] at hL; omega
  have hcat : (⟨#[2]⟩ : ByteArray) ++ ⟨r.B.toArray⟩ = ⟨(askB r).toArray⟩ := by
   rw [show (⟨#[2]⟩ : ByteArray) = ⟨([2] : List UInt8).toArray⟩ from rfl, cat_mk]
   rfl
  have HF : Hid (∀ V, CR 66 #[.string ((⟨#[2]⟩ : ByteArray) ++ ⟨r.B.toArray⟩)] V (.tuple #[.string ⟨(mkF (askB r)).toArray⟩, .int .i64 0])) := fun V => by
   rw [hcat]
   exact framed20_ok ⟨(askB r).toArray⟩ (by rw [str_size]; omega) (by rw [str_size]; omega) V
  change CR _ _ _ (.tuple #[.string ⟨r.B.toArray⟩, .int .i64 0]) at hP
  obtain ⟨P1, hP1⟩ : ∃ P : ByteArray, ⟨r.B.toArray⟩ = P := ⟨_, rfl⟩
  rw [hP1] at hP z0 HF
  have HP := Lib.hid hP
  have k1 : ¬ 9223372036854775807 < 1 + P1.size := by omega
  clear hP hP1 hL z0 hcat hX hB hI hT hw hok
  go_enter Tryz.func29, Tryz.ntmps29
  go_wp2_with fail
  refine HP.out.mono ?_
  rintro e w1 ⟨rfl, hb⟩
  have HB1 : Hid (Below w.heap.size w w1) := HB.out.trans (hb.mono HB.out.size)
  clear hb HP
  go_wp2_with fail
  refine (HF.out _).mono ?_
  rintro e w3 ⟨rfl, hb⟩
  have HB3 : Hid (Below w.heap.size w w3) := HB1.out.trans (hb.mono HB1.out.size)
  clear hb
  go_wp2_with fail
  go_ret2
  exact ⟨rfl, HB3.out⟩
end Go.Proofs.YtpklkhgnjbopnaaGreatDoor
