/- Requests, replies and their bytes as plain data: written, read. No program in sight. errors.Is over sentinels: lines of the kit's worked proof (Sentry) turned to this program. (Printed by gen_w1.py.) Package field: errno, behind, octets, number, Get. Frames and messages as plain data. No program in sight. -/
import Derived.Test.YtpklkhgnjbopnaaGreatDoorVKQ
import Derived.Test.YtpklkhgnjbopnaaGreatDoorVUA
namespace Go.Proofs.YtpklkhgnjbopnaaGreatDoor
open Go Go.RowKit
structure Rq where
 op : Int
 now : Int
 labels : ByteArray
 scope : ByteArray
 kind : Int
 items : List (Nat × Int)
 h : Int
 tnt : Int
 id : Int
 tens : List Int
def textB (s : ByteArray) : List UInt8 := numsB [(s.size : Int)] ++ s.data.toList
def itemB (i : Nat × Int) : List UInt8 := numsB [(i.1 : Int), i.2]
def Rq.B (r : Rq) : List UInt8 := numsB [r.op] ++ (numsB [r.now] ++ (textB r.labels ++ (textB r.scope ++ (numsB [r.kind] ++ (numsB [(r.items.length : Int)] ++ (r.items.flatMap itemB ++ (numsB [r.h] ++ (numsB [r.tnt] ++ (numsB [r.id] ++ (numsB [(r.tens.length : Int)] ++ numsB r.tens))))))))))
def Rq.ok (r : Rq) : Bool := decide (0 ≤ r.op) && decide (r.op ≤ 255) && decide (0 ≤ r.kind) && decide (r.kind ≤ 255) && decide (r.items.length ≤ 50) && decide (r.tens.length ≤ 8) && decide (r.labels.size ≤ 400) && decide (r.scope.size ≤ 400)
structure Rq.Wf (r : Rq) : Prop where
 now : U64 r.now
 items : ∀ i ∈ r.items, U64 (i.1 : Int) ∧ U64 i.2
 h : U64 r.h
 tnt : U64 r.tnt
 id : U64 r.id
 tens : U64s r.tens
abbrev Rd := Option (List UInt8)
def rNum : Rd → Int × Rd
 | none => (0, none)
 | some l => match getN l with
  | .got n r => (n, some r)
  | .more => (0, none)
  | .bad => (0, none)
def rMost (m : Int) (s : Rd) : Int × Rd := if m < (rNum s).1 then (0, none) else rNum s
def rText : Rd → ByteArray × Rd
 | none => (⟨#[]⟩, none)
 | some l => match getN l with
  | .got n r => if 400 < n ∨ (r.length : Int) < n then (⟨#[]⟩, none) else (⟨(r.take n.toNat).toArray⟩, some (r.drop n.toNat))
  | .more => (⟨#[]⟩, none)
  | .bad => (⟨#[]⟩, none)
def iter {α : Type} (f : α → α) : Nat → α → α
 | 0, x => x
 | k + 1, x => f (iter f k x)
def stepL {α : Type} (f : Rd → α × Rd) (x : List α × Rd) : List α × Rd := (x.1 ++ [(f x.2).1], (f x.2).2)
def rItem (s : Rd) : (Nat × Int) × Rd := (((rNum s).1.toNat, (rNum (rNum s).2).1), (rNum (rNum s).2).2)
def rdRq (l : List UInt8) : Rq × Rd :=
 let a := rMost 255 (some l)
 let b := rNum a.2
 let c := rText b.2
 let d := rText c.2
 let e := rMost 255 d.2
 let f := rMost 50 e.2
 let g := iter (stepL rItem) f.1.toNat ([], f.2)
 let h := rNum g.2
 let i := rNum h.2
 let j := rNum i.2
 let k := rMost 8 j.2
 let m := iter (stepL rNum) k.1.toNat ([], k.2)
 (⟨a.1, b.1, c.1, d.1, e.1, g.1, h.1, i.1, j.1, m.1⟩, m.2)
def getRq (l : List UInt8) : Option Rq := if (rdRq l).2 = some [] then some (rdRq l).1 else none
structure Reads {α : Type} (f : Rd → α × Rd) (B : α → List UInt8) (P : α → Prop) : Prop where
 put : ∀ x r, P x → f (some (B x ++ r)) = (x, some r)
 inv : ∀ s x r, f s = (x, some r) → s = some (B x ++ r) ∧ P x
theorem reads_num : Reads rNum (fun n => numsB [n]) U64 := ⟨fun x r h => by
  show (match getN (numsB [x] ++ r) with | .got n r => (n, some r) | .more => (0, none) | .bad => (0, none)) = _
  rw [getN_put x h r], fun s x r h => by
  cases s with
  | none => cases h
  | some l =>
   unfold rNum at h
   dsimp only at h
   cases hg : getN l with
   | got n q =>
    rw [hg] at h
    cases h
    exact ⟨by rw [getN_inv hg], (getN_got hg).1⟩
   | more => rw [hg] at h; cases h
   | bad => rw [hg] at h; cases h⟩
theorem reads_most (m : Int) : Reads (rMost m) (fun n => numsB [n]) (fun n => U64 n ∧ n ≤ m) := ⟨fun x r h => by
  unfold rMost
  rw [reads_num.put x r h.1, if_neg (by have := h.2; show ¬ m < x; omega)], fun s x r h => by
  unfold rMost at h
  split at h
  ·cases h
  ·rename_i hm
   obtain ⟨h1, h2⟩ := reads_num.inv s x r h
   rw [h] at hm
   exact ⟨h1, h2, by have : ¬ m < x := hm; omega⟩⟩
theorem reads_text : Reads rText textB (fun s => s.size ≤ 400) := ⟨fun x r h => by
  have hx : x.data.toList.length = x.size := by rw [Array.length_toList]; rfl
  unfold textB
  rw [List.append_assoc]
  unfold rText
  dsimp only
  rw [getN_put _ (by unfold U64; omega)]
  dsimp only
  rw [if_neg (by rw [List.length_append, hx]; omega), Int.toNat_natCast, List.take_append_of_le_length (by omega), List.drop_append_of_le_length (by omega), List.take_of_length_le (by omega), List.drop_of_length_le (by omega)]
  simp, fun s x r h => by
  cases s with
  | none => cases h
  | some l =>
   unfold rText at h
   dsimp only at h
   cases hg : getN l with
   | got n q =>
    rw [hg] at h
    dsimp only at h
    split at h
    ·cases h
    ·rename_i hn
     have hu := (getN_got hg).1
     unfold U64 at hu
     cases h
     have hz : (ByteArray.mk (q.take n.toNat).toArray).size = n.toNat := by
      show (q.take n.toNat).toArray.size = _
      rw [List.size_toArray, List.length_take]
      omega
     refine ⟨?_, by rw [hz]; omega⟩
     unfold textB
     rw [hz, Int.toNat_of_nonneg hu.1, getN_inv hg, List.append_assoc]
     simp
   | more => rw [hg] at h; cases h
   | bad => rw [hg] at h; cases h⟩
theorem reads_item : Reads rItem itemB (fun i => U64 (i.1 : Int) ∧ U64 i.2) := ⟨fun x r h => by
  unfold rItem itemB
  rw [show numsB [(x.1 : Int), x.2] = numsB [(x.1 : Int)] ++ numsB [x.2] from numsB_append [_] [_], List.append_assoc, reads_num.put _ _ h.1]
  dsimp only
  rw [reads_num.put _ _ h.2]
  rfl, fun s x r h => by
  unfold rItem at h
  obtain ⟨n, t, h1⟩ : ∃ n t, rNum s = (n, t) := ⟨_, _, rfl⟩
  obtain ⟨m, u, h2⟩ : ∃ m u, rNum t = (m, u) := ⟨_, _, rfl⟩
  rw [h1] at h
  dsimp only at h
  rw [h2] at h
  cases h
  obtain ⟨e2, u2⟩ := reads_num.inv _ _ _ h2
  rw [e2] at h1
  obtain ⟨e1, u1⟩ := reads_num.inv _ _ _ h1
  have hn : ((n.toNat : Nat) : Int) = n := Int.toNat_of_nonneg u1.1
  refine ⟨?_, by rw [hn]; exact u1, u2⟩
  rw [e1]
  unfold itemB
  dsimp only
  rw [hn, show numsB [n, m] = numsB [n] ++ numsB [m] from numsB_append [n] [m], List.append_assoc]⟩
section
variable {α : Type} {f : Rd → α × Rd} {B : α → List UInt8} {P : α → Prop}
theorem Reads.iter_put (h : Reads f B P) (l : List α) (r : List UInt8) (hl : ∀ x ∈ l, P x) : ∀ k, k ≤ l.length → iter (stepL f) k ([], some (l.flatMap B ++ r)) = (l.take k, some ((l.drop k).flatMap B ++ r))
 | 0, _ => rfl
 | k + 1, hk => by
  show stepL f (iter (stepL f) k _) = _
  rw [h.iter_put l r hl k (by omega)]
  obtain ⟨x, hx⟩ : ∃ x, l[k]? = some x := ⟨_, List.getElem?_eq_getElem (by omega)⟩
  have hd : l.drop k = x :: l.drop (k + 1) := by
   rw [List.drop_eq_getElem_cons (by omega)]
   congr 1
   exact (List.getElem?_eq_some_iff.1 hx).2
  unfold stepL
  dsimp only
  rw [hd, List.flatMap_cons, List.append_assoc, h.put x _ (hl x (List.mem_of_getElem? hx)), List.take_add_one, hx]
  rfl
theorem Reads.iter_all (h : Reads f B P) (l : List α) (r : List UInt8) (hl : ∀ x ∈ l, P x) : iter (stepL f) l.length ([], some (l.flatMap B ++ r)) = (l, some r) := by
 rw [h.iter_put l r hl _ (Nat.le_refl _), List.take_length, List.drop_length]
 rfl
theorem Reads.iter_inv (h : Reads f B P) : ∀ (k : Nat) (s : Rd) (l : List α) (r : List UInt8), iter (stepL f) k ([], s) = (l, some r) → s = some (l.flatMap B ++ r) ∧ l.length = k ∧ ∀ x ∈ l, P x
 | 0, s, l, r, e => by cases e; exact ⟨rfl, rfl, (fun x hx => by cases hx)⟩
 | k + 1, s, l, r, e => by
  obtain ⟨l0, t, h0⟩ : ∃ l0 t, iter (stepL f) k ([], s) = (l0, t) := ⟨_, _, rfl⟩
  have e : stepL f (iter (stepL f) k ([], s)) = (l, some r) := e
  rw [h0] at e
  unfold stepL at e
  dsimp only at e
  obtain ⟨x, u, hx⟩ : ∃ x u, f t = (x, u) := ⟨_, _, rfl⟩
  rw [hx] at e
  cases e
  obtain ⟨e1, p1⟩ := h.inv _ _ _ hx
  subst e1
  obtain ⟨e2, hlen, hP⟩ := h.iter_inv k s l0 _ h0
  refine ⟨by rw [e2, List.flatMap_append, List.append_assoc]; simp, by rw [List.length_append, hlen]; rfl, fun y hy => ?_⟩
  rcases List.mem_append.1 hy with hy | hy
  ·exact hP y hy
  ·rw [List.mem_singleton.1 hy]; exact p1
end
theorem numsB_flat (l : List Int) : numsB l = l.flatMap fun n => numsB [n] := by
 induction l with
 | nil => rfl
 | cons x l ih => rw [List.flatMap_cons, ← ih]; exact numsB_append [x] l
theorem Rq.okD {r : Rq} (h : r.ok = true) : (0 ≤ r.op ∧ r.op ≤ 255) ∧ (0 ≤ r.kind ∧ r.kind ≤ 255) ∧ r.items.length ≤ 50 ∧ r.tens.length ≤ 8 ∧ r.labels.size ≤ 400 ∧ r.scope.size ≤ 400 := by
 simp only [Rq.ok, Bool.and_eq_true, decide_eq_true_eq] at h
 obtain ⟨⟨⟨⟨⟨⟨⟨h1, h2⟩, h3⟩, h4⟩, h5⟩, h6⟩, h7⟩, h8⟩ := h
 exact ⟨⟨h1, h2⟩, ⟨h3, h4⟩, h5, h6, h7, h8⟩
theorem rdRq_put (r : Rq) (h : r.ok = true) (hw : r.Wf) : rdRq r.B = (r, some []) := by
 obtain ⟨h1, h2, h3, h4, h5, h6⟩ := Rq.okD h
 unfold rdRq Rq.B
 rw [(reads_most 255).put _ _ ⟨by unfold U64; omega, h1.2⟩]
 dsimp only
 rw [reads_num.put _ _ hw.now]
 dsimp only
 rw [reads_text.put _ _ h5]
 dsimp only
 rw [reads_text.put _ _ h6]
 dsimp only
 rw [(reads_most 255).put _ _ ⟨by unfold U64; omega, h2.2⟩]
 dsimp only
 rw [(reads_most 50).put _ _ ⟨by unfold U64; omega, by omega⟩]
 dsimp only
 rw [Int.toNat_natCast, reads_item.iter_all _ _ hw.items]
 dsimp only
 rw [reads_num.put _ _ hw.h]
 dsimp only
 rw [reads_num.put _ _ hw.tnt]
 dsimp only
 rw [reads_num.put _ _ hw.id]
 dsimp only
 rw [(reads_most 8).put _ _ ⟨by unfold U64; omega, by omega⟩]
 dsimp only
 have e := reads_num.iter_all r.tens [] hw.tens
 rw [List.append_nil] at e
 rw [Int.toNat_natCast, numsB_flat, e]
theorem getRq_put {r : Rq} (h : r.ok = true) (hw : r.Wf) : getRq r.B = some r := by
 unfold getRq
 rw [rdRq_put r h hw, if_pos rfl]
theorem getRq_inv {l : List UInt8} {q : Rq} (h : getRq l = some q) : q.ok = true ∧ q.Wf ∧ q.B = l := by
 unfold getRq at h
 split at h
 case isFalse => cases h
 rename_i he
 injection h with h
 subst h
 unfold rdRq at he ⊢
 obtain ⟨a, sa, ha⟩ : ∃ a s, rMost 255 (some l) = (a, s) := ⟨_, _, rfl⟩
 rw [ha] at he ⊢
 dsimp only at he ⊢
 obtain ⟨b, sb, hb⟩ : ∃ a s, rNum sa = (a, s) := ⟨_, _, rfl⟩
 rw [hb] at he ⊢
 dsimp only at he ⊢
 obtain ⟨c, sc, hc⟩ : ∃ a s, rText sb = (a, s) := ⟨_, _, rfl⟩
 rw [hc] at he ⊢
 dsimp only at he ⊢
 obtain ⟨d, sd, hd⟩ : ∃ a s, rText sc = (a, s) := ⟨_, _, rfl⟩
 rw [hd] at he ⊢
 dsimp only at he ⊢
 obtain ⟨e, se, hee⟩ : ∃ a s, rMost 255 sd = (a, s) := ⟨_, _, rfl⟩
 rw [hee] at he ⊢
 dsimp only at he ⊢
 obtain ⟨f, sf, hf⟩ : ∃ a s, rMost 50 se = (a, s) := ⟨_, _, rfl⟩
 rw [hf] at he ⊢
 dsimp only at he ⊢
 obtain ⟨g, sg, hg⟩ : ∃ a s, iter (stepL rItem) f.toNat ([], sf) = (a, s) := ⟨_, _, rfl⟩
 rw [hg] at he ⊢
 dsimp only at he ⊢
 obtain ⟨i, si, hi⟩ : ∃ a s, rNum sg = (a, s) := ⟨_, _, rfl⟩
 rw [hi] at he ⊢
 dsimp only at he ⊢
 obtain ⟨j, sj, hj⟩ : ∃ a s, rNum si = (a, s) := ⟨_, _, rfl⟩
 rw [hj] at he ⊢
 dsimp only at he ⊢
 obtain ⟨k, sk, hk⟩ : ∃ a s, rNum sj = (a, s) := ⟨_, _, rfl⟩
 rw [hk] at he ⊢
 dsimp only at he ⊢
 obtain ⟨m, sm, hm⟩ : ∃ a s, rMost 8 sk = (a, s) := ⟨_, _, rfl⟩
 rw [hm] at he ⊢
 dsimp only at he ⊢
 obtain ⟨n, sn, hn⟩ : ∃ a s, iter (stepL rNum) m.toNat ([], sm) = (a, s) := ⟨_, _, rfl⟩
 rw [hn] at he ⊢
 dsimp only at he ⊢
 subst he
 obtain ⟨e12, n1, n2⟩ := reads_num.iter_inv _ _ _ _ hn
 subst e12
 obtain ⟨e11, m1, m2⟩ := (reads_most 8).inv _ _ _ hm
 subst e11
 obtain ⟨e10, k1⟩ := reads_num.inv _ _ _ hk
 subst e10
 obtain ⟨e9, j1⟩ := reads_num.inv _ _ _ hj
 subst e9
 obtain ⟨e8, i1⟩ := reads_num.inv _ _ _ hi
 subst e8
 obtain ⟨e7, g1, g2⟩ := reads_item.iter_inv _ _ _ _ hg
 subst e7
 obtain ⟨e6, f1, f2⟩ := (reads_most 50).inv _ _ _ hf
 subst e6
 obtain ⟨e5, w1, w2⟩ := (reads_most 255).inv _ _ _ hee
 subst e5
 obtain ⟨e4, d1⟩ := reads_text.inv _ _ _ hd
 subst e4
 obtain ⟨e3, c1⟩ := reads_text.inv _ _ _ hc
 subst e3
 obtain ⟨e2, b1⟩ := reads_num.inv _ _ _ hb
 subst e2
 obtain ⟨e1, a1, a2⟩ := (reads_most 255).inv _ _ _ ha
 injection e1 with e1
 have hm0 : (n.length : Int) = m := by rw [n1]; exact Int.toNat_of_nonneg m1.1
 have hf0 : (g.length : Int) = f := by rw [g1]; exact Int.toNat_of_nonneg f1.1
 refine ⟨?_, ⟨b1, g2, i1, j1, k1, n2⟩, ?_⟩
 ·have h1 := a1.1
  have h2 := w1.1
  simp only [Rq.ok, Bool.and_eq_true, decide_eq_true_eq]
  exact ⟨⟨⟨⟨⟨⟨⟨h1, a2⟩, h2⟩, w2⟩, by omega⟩, by omega⟩, c1⟩, d1⟩
 ·unfold Rq.B
  dsimp only
  rw [e1, hm0, hf0, numsB_flat n, List.append_nil]
structure Ry where
 e : Int
 n : Int
 nots : List Int
 ents : List Ent
def entB (x : Ent) : List UInt8 := numsB [x.seq] ++ (numsB [x.tm] ++ (textB x.text ++ numsB [x.sum]))
def Ry.B (y : Ry) : List UInt8 := numsB [y.e] ++ (numsB [y.n] ++ (numsB [(y.nots.length : Int)] ++ (numsB y.nots ++ (numsB [(y.ents.length : Int)] ++ y.ents.flatMap entB))))
def smallB (n : Int) : Bool := decide (0 ≤ n) && decide (n ≤ 4611686018427387904)
def Ry.ok (y : Ry) : Bool := smallB y.e && decide (y.nots.length ≤ 100) && decide (y.ents.length ≤ 100) && y.nots.all smallB && y.ents.all fun x => decide (x.text.size ≤ 400)
structure Ry.Wf (y : Ry) : Prop where
 n : U64 y.n
 ents : ∀ x ∈ y.ents, U64 x.seq ∧ U64 x.tm ∧ U64 x.sum
def rEnt (s : Rd) : Ent × Rd :=
 let a := rNum s
 let b := rNum a.2
 let c := rText b.2
 let d := rNum c.2
 (⟨a.1, b.1, c.1, d.1⟩, d.2)
def rdRy (l : List UInt8) : Ry × Rd :=
 let a := rMost 4611686018427387904 (some l)
 let b := rNum a.2
 let c := rMost 100 b.2
 let d := iter (stepL (rMost 4611686018427387904)) c.1.toNat ([], c.2)
 let e := rMost 100 d.2
 let f := iter (stepL rEnt) e.1.toNat ([], e.2)
 (⟨a.1, b.1, d.1, f.1⟩, f.2)
def getRy (l : List UInt8) : Option Ry := if (rdRy l).2 = some [] then some (rdRy l).1 else none
theorem reads_ent : Reads rEnt entB (fun x => (U64 x.seq ∧ U64 x.tm ∧ U64 x.sum) ∧ x.text.size ≤ 400) := ⟨fun x r h => by
  unfold rEnt entB
  rw [List.append_assoc, List.append_assoc, List.append_assoc, reads_num.put _ _ h.1.1]
  dsimp only
  rw [reads_num.put _ _ h.1.2.1]
  dsimp only
  rw [reads_text.put _ _ h.2]
  dsimp only
  rw [reads_num.put _ _ h.1.2.2], fun s x r h => by
  unfold rEnt at h
  obtain ⟨a, sa, ha⟩ : ∃ a t, rNum s = (a, t) := ⟨_, _, rfl⟩
  rw [ha] at h
  dsimp only at h
  obtain ⟨b, sb, hb⟩ : ∃ a t, rNum sa = (a, t) := ⟨_, _, rfl⟩
  rw [hb] at h
  dsimp only at h
  obtain ⟨c, sc, hc⟩ : ∃ a t, rText sb = (a, t) := ⟨_, _, rfl⟩
  rw [hc] at h
  dsimp only at h
  obtain ⟨d, sd, hd⟩ : ∃ a t, rNum sc = (a, t) := ⟨_, _, rfl⟩
  rw [hd] at h
  dsimp only at h
  cases h
  obtain ⟨e4, u4⟩ := reads_num.inv _ _ _ hd
  subst e4
  obtain ⟨e3, u3⟩ := reads_text.inv _ _ _ hc
  subst e3
  obtain ⟨e2, u2⟩ := reads_num.inv _ _ _ hb
  subst e2
  obtain ⟨e1, u1⟩ := reads_num.inv _ _ _ ha
  subst e1
  refine ⟨?_, ⟨u1, u2, u4⟩, u3⟩
  unfold entB
  simp only [List.append_assoc]⟩
theorem small_u64 {n : Int} (h : smallB n = true) : U64 n ∧ n ≤ 4611686018427387904 := by
 simp only [smallB, Bool.and_eq_true, decide_eq_true_eq] at h
 exact ⟨⟨h.1, by omega⟩, h.2⟩
theorem getRy_inv {l : List UInt8} {y : Ry} (h : getRy l = some y) : y.ok = true ∧ y.Wf ∧ y.B = l := by
 unfold getRy at h
 split at h
 case isFalse => cases h
 rename_i he
 injection h with h
 subst h
 unfold rdRy at he ⊢
 obtain ⟨a, sa, ha⟩ : ∃ a s, rMost 4611686018427387904 (some l) = (a, s) := ⟨_, _, rfl⟩
 rw [ha] at he ⊢
 dsimp only at he ⊢
 obtain ⟨b, sb, hb⟩ : ∃ a s, rNum sa = (a, s) := ⟨_, _, rfl⟩
 rw [hb] at he ⊢
 dsimp only at he ⊢
 obtain ⟨c, sc, hc⟩ : ∃ a s, rMost 100 sb = (a, s) := ⟨_, _, rfl⟩
 rw [hc] at he ⊢
 dsimp only at he ⊢
 obtain ⟨d, sd, hd⟩ : ∃ a s, iter (stepL (rMost 4611686018427387904)) c.toNat ([], sc) = (a, s) := ⟨_, _, rfl⟩
 rw [hd] at he ⊢
 dsimp only at he ⊢
 obtain ⟨e, se, hee⟩ : ∃ a s, rMost 100 sd = (a, s) := ⟨_, _, rfl⟩
 rw [hee] at he ⊢
 dsimp only at he ⊢
 obtain ⟨f, sf, hf⟩ : ∃ a s, iter (stepL rEnt) e.toNat ([], se) = (a, s) := ⟨_, _, rfl⟩
 rw [hf] at he ⊢
 dsimp only at he ⊢
 subst he
 obtain ⟨e6, f1, f2⟩ := reads_ent.iter_inv _ _ _ _ hf
 subst e6
 obtain ⟨e5, w1, w2⟩ := (reads_most 100).inv _ _ _ hee
 subst e5
 obtain ⟨e4, d1, d2⟩ := (reads_most _).iter_inv _ _ _ _ hd
 subst e4
 obtain ⟨e3, c1, c2⟩ := (reads_most 100).inv _ _ _ hc
 subst e3
 obtain ⟨e2, b1⟩ := reads_num.inv _ _ _ hb
 subst e2
 obtain ⟨e1, a1, a2⟩ := (reads_most _).inv _ _ _ ha
 injection e1 with e1
 have hc0 : (d.length : Int) = c := by rw [d1]; exact Int.toNat_of_nonneg c1.1
 have he0 : (f.length : Int) = e := by rw [f1]; exact Int.toNat_of_nonneg w1.1
 have sm : ∀ n : Int, U64 n → n ≤ 4611686018427387904 → smallB n = true := fun n h h' => by
  simp only [smallB, Bool.and_eq_true, decide_eq_true_eq]
  exact ⟨h.1, h'⟩
 refine ⟨?_, ⟨b1, fun x hx => (f2 x hx).1⟩, ?_⟩
 ·simp only [Ry.ok, Bool.and_eq_true, decide_eq_true_eq, List.all_eq_true]
  exact ⟨⟨⟨⟨sm _ a1 a2, by omega⟩, by omega⟩, fun x hx => sm _ (d2 x hx).1 (d2 x hx).2⟩, fun x hx => (f2 x hx).2⟩
 ·unfold Ry.B
  dsimp only
  rw [e1, hc0, he0, numsB_flat d, List.append_nil]
end Go.Proofs.YtpklkhgnjbopnaaGreatDoor
namespace Go.Proofs.YtpklkhgnjbopnaaGreatDoor
open Go Go.RowKit Go.Extern.Stop Go.Stop Go.Extern
theorem isTypeOf (v : Value) (w : World) : (Extern.ReflectliteType.typeOf #[.iface 532 v]).run Tryz.prog w = .ok (.iface 283 (.agg #[.pointer (some ⟨6, 532, none⟩)])) w := by kernel_rfl
def cmpM : Array Value → Sem Value := Extern.ReflectliteType.method fun t => do Extern.Rtype.noPackHeld "Comparable" t; pure (.bool (← typeInfo t).comparable)
theorem isComparable (w : World) : (cmpM #[.agg #[.pointer (some ⟨6, 532, none⟩)]]).run Tryz.prog w = .ok (.bool true) w := by kernel_rfl
theorem isMethodComparable (v : Value) (w : World) : (Go.method 742 283 v "Comparable").run Tryz.prog w = .ok (357, v) w := by kernel_rfl
theorem isComp : (Tryz.prog.info? 532).map (·.comparable) = some true := by kernel_rfl
theorem isSize : (Tryz.prog.info? 630).map (·.size) = some 1 := by kernel_rfl
theorem noIsE (v : Value) (xT : TypeId) (w : World) : (Instr.typeAssert (.iface 532 v) xT 381 true).run Tryz.prog w = .ok (.tuple #[.nilIface, .bool false]) w := run_typeAssert_lacksB Tryz.underlying381 (by kernel_rfl) (by kernel_rfl) v xT w
theorem noUnwrapE (v : Value) (xT : TypeId) (w : World) : (Instr.typeAssert (.iface 532 v) xT 291 true).run Tryz.prog w = .ok (.tuple #[.nilIface, .bool false]) w := run_typeAssert_lacksB Tryz.underlying291 (by kernel_rfl) (by kernel_rfl) v xT w
theorem noUnwrapsE (v : Value) (xT : TypeId) (w : World) : (Instr.typeAssert (.iface 532 v) xT 293 true).run Tryz.prog w = .ok (.tuple #[.nilIface, .bool false]) w := run_typeAssert_lacksB Tryz.underlying293 (by kernel_rfl) (by kernel_rfl) v xT w
set_option maxRecDepth 100000 in
set_option maxHeartbeats 2000000 in
theorem is_same (a : Addr) (w : World) :
  Calls Tryz.prog 144 #[.iface 532 (.pointer (some a)), .iface 532 (.pointer (some a))] w fun e w' => e = .returned (.bool true) ∧ w' = w := by
 obtain ⟨i, hi, hcmp⟩ := Option.map_eq_some_iff.1 isComp
 obtain ⟨j, hj, hjs⟩ := Option.map_eq_some_iff.1 isSize
 have h8 := @run_callFunc_extern Tryz.prog 145 _ Extern.ReflectliteType.typeOf Tryz.func145 (by kernel_rfl) (by kernel_rfl) (by kernel_rfl) (by kernel_rfl)
 have h32 := @run_callFunc_extern Tryz.prog 357 _ cmpM Tryz.func357 (by kernel_rfl) (by kernel_rfl) (by kernel_rfl) (by kernel_rfl)
 have tT := isTypeOf
 have cT := isComparable
 have mR := isMethodComparable
 have heq := run_eql_iface_ptr_same (P := Tryz.prog) w a Tryz.underlying88 Tryz.underlying532 hi hcmp hj
 go_enter Tryz.func144, Tryz.ntmps144
 go_wp2
 refine wp_loop_rounds 1 ?_
 rw [rounds_succ]
 go_wp2
 go_ret
 exact ⟨rfl, rfl⟩
set_option maxRecDepth 100000 in
set_option maxHeartbeats 2000000 in
theorem is_other (a b : Addr) (ca cb : Array Value) (ta tb : TypeId) (w : World) (hne : a ≠ b) (ha : w.heap[a.block]? = some (.cells ca ta (0, 0))) (hb : w.heap[b.block]? = some (.cells cb tb (0, 0))) :
  Calls Tryz.prog 144 #[.iface 532 (.pointer (some a)), .iface 532 (.pointer (some b))] w fun e w' => e = .returned (.bool false) ∧ w' = w := by
 obtain ⟨i, hi, hcmp⟩ := Option.map_eq_some_iff.1 isComp
 obtain ⟨j, hj, hjs⟩ := Option.map_eq_some_iff.1 isSize
 have h8 := @run_callFunc_extern Tryz.prog 145 _ Extern.ReflectliteType.typeOf Tryz.func145 (by kernel_rfl) (by kernel_rfl) (by kernel_rfl) (by kernel_rfl)
 have h32 := @run_callFunc_extern Tryz.prog 357 _ cmpM Tryz.func357 (by kernel_rfl) (by kernel_rfl) (by kernel_rfl) (by kernel_rfl)
 have tT := isTypeOf
 have cT := isComparable
 have mR := isMethodComparable
 have nE := noIsE
 have uE := noUnwrapE
 have vE := noUnwrapsE
 have heq := run_eql_iface_ptr_other (P := Tryz.prog) w Tryz.underlying88 Tryz.underlying532 hi hcmp hj (by rw [hjs]; decide) hne ha hb
 go_enter Tryz.func144, Tryz.ntmps144
 go_wp2
 refine wp_loop_rounds 1 ?_
 rw [rounds_succ]
 go_wp2
 go_ret
 exact ⟨rfl, rfl⟩
end Go.Proofs.YtpklkhgnjbopnaaGreatDoor
namespace Go.Proofs.YtpklkhgnjbopnaaGreatDoor
open Go Go.RowKit Go.Shelf
attribute [local go_sem] Oper.semAt_some
abbrev errV (a : Addr) : Value := .iface 532 (.pointer (some a))
structure GF (fm ff : Addr) (w : World) : Prop where
 efm : w.cell? ⟨1, 0, none⟩ = some (errV fm)
 eff : w.cell? ⟨2, 0, none⟩ = some (errV ff)
 nf : ff ≠ fm
 hfm : ∃ c t, w.heap[fm.block]? = some (.cells c t (0, 0))
 hff : ∃ c t, w.heap[ff.block]? = some (.cells c t (0, 0))
 lt : 6 ≤ w.heap.size
theorem GF.below {fm ff : Addr} {w w' : World} (h : GF fm ff w) (hb : Below w.heap.size w w') : GF fm ff w' := by
 have hl := h.lt
 obtain ⟨c1, t1, h1⟩ := h.hfm
 obtain ⟨c2, t2, h2⟩ := h.hff
 exact ⟨(hb.cell (p := ⟨1, 0, none⟩) (by show 1 < _; omega)).trans h.efm, (hb.cell (p := ⟨2, 0, none⟩) (by show 2 < _; omega)).trans h.eff, h.nf,
  ⟨c1, t1, known hb (Nat.le_refl _) h1⟩, ⟨c2, t2, known hb (Nat.le_refl _) h2⟩, Nat.le_trans hl hb.size⟩
set_option maxRecDepth 100000 in
set_option maxHeartbeats 1000000 in
theorem errno_more (fm ff : Addr) (w : World) (hE : GF fm ff w) :
  Calls Tryz.prog 113 #[errV fm] w fun e w' => e = .returned (.int .i64 20) ∧ Below w.heap.size w w' := by
 have c0 := hE.efm
 have hI := is_same fm w
 clear hE
 go_enter Tryz.func113, Tryz.ntmps113
 go_wp2_with (go_at_call 144; refine hI.mono ?_; rintro e w' ⟨rfl, rfl⟩)
 go_ret
 exact ⟨rfl, Below.refl _ _⟩
set_option maxRecDepth 100000 in
set_option maxHeartbeats 1000000 in
theorem errno_field (fm ff : Addr) (w : World) (hE : GF fm ff w) :
  Calls Tryz.prog 113 #[errV ff] w fun e w' => e = .returned (.int .i64 21) ∧ Below w.heap.size w w' := by
 have c0 := hE.efm
 obtain ⟨c1, t1, h1⟩ := hE.hfm
 obtain ⟨c2, t2, h2⟩ := hE.hff
 have hI := is_other ff fm c2 c1 t2 t1 w hE.nf h2 h1
 clear hE h1 h2
 go_enter Tryz.func113, Tryz.ntmps113
 go_wp2_with (go_at_call 144; refine hI.mono ?_; rintro e w' ⟨rfl, rfl⟩)
 go_ret
 exact ⟨rfl, Below.refl _ _⟩
set_option maxRecDepth 100000 in
set_option maxHeartbeats 1000000 in
theorem behind_any (f : Nat) (w : World) (h1 : f < 256) :
  Calls Tryz.prog 142 #[.int .u8 f] w fun e w' => e = .returned (.int .i64 (behindN f)) ∧ w' = w := by
 by_cases c0 : f ≤ 240
 ·have hb : behindN f = 0 := by unfold behindN; rw [if_pos c0]
  rw [hb]
  go_enter Tryz.func142, Tryz.ntmps142
  go_wp2_with fail
  go_ret
  exact ⟨rfl, rfl⟩
 by_cases c1 : f ≤ 248
 ·have hb : behindN f = 1 := by unfold behindN; rw [if_neg c0, if_pos c1]
  rw [hb]
  go_enter Tryz.func142, Tryz.ntmps142
  go_wp2_with fail
  go_ret
  exact ⟨rfl, rfl⟩
 by_cases c2 : f = 249
 ·subst c2
  go_enter Tryz.func142, Tryz.ntmps142
  go_wp2_with fail
  go_ret
  exact ⟨rfl, rfl⟩
 ·have hb : behindN f = f - 247 := by unfold behindN; rw [if_neg c0, if_neg c1, if_neg c2]
  have e3 : ((f - 247 : Nat) : Int) = (f : Int) - 247 := by omega
  have hne : ((f : Int) == 249) = false := by simp; omega
  rw [hb, e3]
  clear hb e3 c2
  go_enter Tryz.func142, Tryz.ntmps142
  go_wp2_with fail
  go_ret
  exact ⟨rfl, rfl⟩
theorem octets_any (s : ByteArray) (w : World) :
  Calls Tryz.prog 143 #[.string s] w fun e w' => e = .returned (.func (.func 170) #[] #[.pointer (some ⟨w.heap.size, 0, none⟩)]) ∧ w' = w.alloc (.cells #[.string s] 9) := by
 go_enter Tryz.func143, Tryz.ntmps143
 go_wp2
 go_ret
 exact ⟨rfl, rfl⟩
set_option maxRecDepth 100000 in
set_option maxHeartbeats 1000000 in
theorem octets1 (l Bs : Nat) (s : ByteArray) (hreach : s.size < 4294967281) (J Jx : List (Nat × UInt8) → World → Prop)
  (hY : ∀ pre x W, J pre W → pre.length < (octs s).length → YieldAt Fence.wide 7 Tryz.prog l #[.int .i64 x.1, .int .u8 x.2.toNat] W fun e W' =>
   (e = .returned (.bool true) ∧ J (pre ++ [x]) W' ∧ KB Bs W W') ∨ (e = .returned (.bool false) ∧ Jx (pre ++ [x]) W'))
  (W : World) (hBs : W.heap[Bs]? = some (.cells #[.string s] 9 (0, 0))) (h0 : J [] W) :
  CallsIn Fence.wide 8 Tryz.prog 170 #[.func (.yield l) #[] #[], .pointer (some ⟨Bs, 0, none⟩)] W fun e W' => (∃ v, e = .returned v) ∧
   ((∃ ys, ys = octs s ∧ J ys W') ∨ (∃ pre, pre <+: octs s ∧ Jx pre W')) := by
 have hol := octs_len s
 refine callsIn_of_wp Tryz.func170 rfl trivial ?_ rfl
 simp only [Tryz.ntmps170, List.size_toArray, List.length_cons, List.length_nil, Nat.reduceAdd, Nat.reduceSub, Array.replicate_succ, Array.replicate_zero, List.push_toArray, List.append_toArray, List.nil_append, List.cons_append]
 have HO := Lib.hid hol
 have c9 : W.cell? ⟨Bs, 0, none⟩ = some (.string s) := cCc hBs 0
 clear hol
 gi_wp2
 gi_loopw [3, 6] (fun _ i wr => ∃ k : Nat, k ≤ s.size ∧ i = .int .i64 k ∧ J ((octs s).take k) wr ∧ KB Bs W wr) (fun _ i _ => s.size - (intOf i).toNat)
 case atStart => exact ⟨0, Nat.zero_le _, rfl, h0, KB.refl _ _⟩
 case round =>
  obtain ⟨k, hk, rfl, hJs, hnx⟩ := hrel
  by_cases hlt : k < s.size
  ·have hx := octs_at s k hlt
   obtain ⟨fn, tmps, assign, body, hy, hR⟩ := hY _ (k, s[k]'hlt) _ hJs (by rw [List.length_take, HO.out]; omega)
   have HX := Lib.hid hx
   have c0 : wr.cell? ⟨Bs, 0, none⟩ = some (.string s) := cCc (hnx _ hBs) 0
   clear hx
   gi_wp2
   refine hR.mono ?_
   rintro e W3 (⟨rfl, hJ3, hk3⟩ | ⟨rfl, hJx3⟩)
   ·gi_wp2
    go_roundw
    case rel => exact ⟨k + 1, by omega, by simp, by rw [take_snoc' HX.out]; exact hJ3, hnx.trans hk3⟩
    case measure => simp [intOf]; omega
   ·gi_wp2
    refine bodyPost_ret (results_none rfl _ _ _) rfl ?_
    exact ⟨⟨_, rfl⟩, .inr ⟨_, by have h := List.take_prefix (k + 1) (octs s); rwa [take_snoc' HX.out] at h, hJx3⟩⟩
  ·obtain rfl : k = s.size := by omega
   gi_wp2
   go_end0
   exact ⟨⟨_, rfl⟩, .inl ⟨_, List.take_of_length_le (by rw [HO.out]; omega), hJs⟩⟩
theorem octets_seq (Bs : Nat) (s : ByteArray) (hreach : s.size < 4294967281) (w : World) (hc : w.heap[Bs]? = some (.cells #[.string s] 9 (0, 0))) :
  SeqStopsK Fence.wide 8 Tryz.prog 170 #[.pointer (some ⟨Bs, 0, none⟩)] (fun x : Nat × UInt8 => #[.int .i64 x.1, .int .u8 x.2.toNat]) (KB Bs) (fun ys => ys = octs s) (fun pre => pre <+: octs s) (octs s).length w := fun l J Jx W hW _ _ hY h0 =>
 octets1 l Bs s hreach J Jx hY W (known hW (Nat.le_refl _) hc) h0
end Go.Proofs.YtpklkhgnjbopnaaGreatDoor
namespace Go.Proofs.YtpklkhgnjbopnaaGreatDoor
open Go Go.RowKit
def ckStep (p : Nat × Nat) (x : UInt8) : Nat × Nat := ((p.1 + x.toNat) % 65521, (p.2 + (p.1 + x.toNat) % 65521) % 65521)
def ckPair (l : List UInt8) : Nat × Nat := l.foldl ckStep (1, 0)
def checkN (l : List UInt8) : Nat := (ckPair l).2 * 65536 + (ckPair l).1
def fourB (n : Nat) : List UInt8 := [UInt8.ofNat (n / 16777216 % 256), UInt8.ofNat (n / 65536 % 256), UInt8.ofNat (n / 256 % 256), UInt8.ofNat (n % 256)]
def fourStep (n : Nat) (b : UInt8) : Nat := (n * 256 + b.toNat) % 4294967296
def fourN (l : List UInt8) : Nat := l.foldl fourStep 0
theorem ckPair_snoc (l : List UInt8) (x : UInt8) : ckPair (l ++ [x]) = ckStep (ckPair l) x := by unfold ckPair; rw [List.foldl_append]; rfl
theorem fourN_snoc (l : List UInt8) (x : UInt8) : fourN (l ++ [x]) = fourStep (fourN l) x := by unfold fourN; rw [List.foldl_append]; rfl
theorem ck_go (l : List UInt8) : ∀ p : Nat × Nat, p.1 < 65521 → p.2 < 65521 → (l.foldl ckStep p).1 < 65521 ∧ (l.foldl ckStep p).2 < 65521 := by
 induction l with
 | nil => intro p h1 h2; exact ⟨h1, h2⟩
 | cons x l ih => intro p h1 h2; exact ih (ckStep p x) (Nat.mod_lt _ (by decide)) (Nat.mod_lt _ (by decide))
theorem ckPair_lt (l : List UInt8) : (ckPair l).1 < 65521 ∧ (ckPair l).2 < 65521 := ck_go l _ (by decide) (by decide)
theorem checkN_lt (l : List UInt8) : checkN l < 4294967296 := by
 have := ckPair_lt l
 unfold checkN
 omega
theorem u8_of (n : Nat) : (UInt8.ofNat (n % 256)).toNat = n % 256 := by simp
theorem fourN_B (n : Nat) (h : n < 4294967296) : fourN (fourB n) = n := by
 unfold fourN fourB fourStep
 simp only [List.foldl_cons, List.foldl_nil, u8_of]
 omega
inductive FrR where
 | got (body rest : List UInt8)
 | err (no : Int)
def rdF : List UInt8 → FrR
 | [] => .err 20
 | m :: t => if m ≠ 167 then .err 30 else match getN t with
  | .more => .err 20
  | .bad => .err 30
  | .got n r => if n = 0 ∨ 2000 < n then .err 30 else if (r.length : Int) < n + 4 then .err 20 else
    if checkN (r.take n.toNat) ≠ fourN ((r.drop n.toNat).take 4) then .err 31 else .got (r.take n.toNat) (r.drop (n.toNat + 4))
def mkF (l : List UInt8) : List UInt8 := 167 :: (numsB [(l.length : Int)] ++ (l ++ fourB (checkN l)))
theorem fourB_len (n : Nat) : (fourB n).length = 4 := rfl
theorem rdF_mk {l : List UInt8} (h1 : l ≠ []) (h2 : l.length ≤ 2000) (r : List UInt8) : rdF (mkF l ++ r) = .got l r := by
 have h0 : 0 < l.length := List.length_pos_iff.2 h1
 unfold mkF
 rw [List.cons_append, List.append_assoc, List.append_assoc]
 unfold rdF
 dsimp only
 rw [if_neg (by decide), getN_put _ (by unfold U64; omega)]
 dsimp only
 have e1 : (l ++ (fourB (checkN l) ++ r)).length = l.length + 4 + r.length := by rw [List.length_append, List.length_append, fourB_len]; omega
 rw [if_neg (by omega), if_neg (by rw [e1]; omega), Int.toNat_natCast, List.take_left, List.drop_left]
 have e2 : (fourB (checkN l) ++ r).take 4 = fourB (checkN l) := List.take_left (l₁ := fourB (checkN l))
 have e3 : (l ++ (fourB (checkN l) ++ r)).drop (l.length + 4) = r := by
  rw [← List.append_assoc]
  have : l.length + 4 = (l ++ fourB (checkN l)).length := by rw [List.length_append, fourB_len]
  rw [this, List.drop_left]
 rw [e2, e3, fourN_B _ (checkN_lt l), if_neg (by simp)]
def helB (now : Int) (tok : ByteArray) : List UInt8 := 1 :: (numsB [now] ++ textB tok)
def askB (q : Rq) : List UInt8 := 2 :: q.B
inductive Msg where
 | hello (now : Int) (tok : ByteArray)
 | ask (q : Rq)
 | noise
def rdHel (l : List UInt8) : (Int × ByteArray) × Rd :=
 let a := rNum (some l)
 let b := rText a.2
 ((a.1, b.1), b.2)
def msgOf : List UInt8 → Msg
 | [] => .noise
 | m :: t => if m = 1 then (if (rdHel t).2 = some [] then .hello (rdHel t).1.1 (rdHel t).1.2 else .noise) else if m = 2 then (match getRq t with
  | some q => .ask q
  | none => .noise) else .noise
theorem msgOf_ask {q : Rq} (h : q.ok = true) (hw : q.Wf) : msgOf (askB q) = .ask q := by
 unfold askB msgOf
 dsimp only
 rw [if_neg (by decide), if_pos rfl, getRq_put h hw]
theorem numsB_one_len (n : Int) : 1 ≤ (numsB [n]).length ∧ (numsB [n]).length ≤ 9 := by have := numsB_len [n]; simpa using this
theorem textB_len (s : ByteArray) : (textB s).length ≤ s.size + 9 := by
 unfold textB
 have := (numsB_one_len (s.size : Int)).2
 have h : s.data.toList.length = s.size := by rw [Array.length_toList]; rfl
 rw [List.length_append, h]
 omega
end Go.Proofs.YtpklkhgnjbopnaaGreatDoor
