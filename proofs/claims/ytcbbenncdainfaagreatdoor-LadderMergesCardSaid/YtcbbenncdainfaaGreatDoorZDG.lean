/- Package ladder at any sketch, told as plain data. -/
import Derived.Test.YtcbbenncdainfaaGreatDoorZQP
namespace Go.Proofs.YtcbbenncdainfaaGreatDoor
open Go Go.RowKit Go.Shelf
structure Sk.lim (x : Sk) : Prop where
 e : U64s x.e
 c : U64s x.cl
 g : Bins x.gl
 cc : I64 x.cc
 fit : x.fit
 el : x.e.length < 2147483648
 cl : x.cl.length < 2147483648
 gl : x.gl.length < 2147483648
theorem Sk.lim.short {x : Sk} (h : x.lim) {s : SS} {n : Nat} {w : World} (hs : s.At n w x) : s.Short := ⟨by rw [hs.e.1.1]; exact h.el, by rw [hs.c.1.1]; exact h.cl, by rw [hs.g.1.1]; exact h.gl⟩
theorem Sk.lim.bd {x : Sk} (h : x.lim) (ok : skOk x = true) : ∃ k L B, x = skOf k L B ∧ Bd.Ok k L B := sk_bd x ok h.e h.c (fun b hb => (h.g b hb).2)
def zsk : Sk := skNum 0 0 []
def SkP (r : Sk × Int) (w : World) (e : Ending) (w' : World) : Prop := ∃ s : SS, e = .returned (.tuple #[.agg #[.int .i64 r.1.kind, .int .i64 r.1.level, .slice s.ea s.el s.ec, .int .i64 r.1.hb, .string r.1.hr, .int .i64 r.1.cr, .int .i64 r.1.cc, .slice s.ca s.cl s.cc, .int .i64 r.1.gf, .slice s.ga s.gl s.gc], .int .i64 r.2]) ∧ s.At w'.heap.size w' r.1 ∧ Below w.heap.size w w'
theorem SkP.good {k L : Nat} {B : Bd} {w w' : World} {e : Ending} (h : ∃ x, e = .returned (.tuple #[x, .int .i64 0]) ∧ SkB w' x k L B ∧ Below w.heap.size w w') : SkP (skOf k L B, 0) w e w' := by
 obtain ⟨x, he, ⟨y, s, rfl, rfl, hA⟩, hb⟩ := h
 exact ⟨s, he, hA, hb⟩
theorem SkP.zero {E : Int} {w w' : World} {e : Ending} (h : e = .returned (.tuple #[.agg #[.int .i64 0, .int .i64 0, .slice none 0 0, .int .i64 0, .string ⟨#[]⟩, .int .i64 0, .int .i64 0, .slice none 0 0, .int .i64 0, .slice none 0 0], .int .i64 E]) ∧ Below w.heap.size w w') : SkP (zsk, E) w e w' := ⟨⟨none, 0, 0, none, 0, 0, none, 0, 0⟩, h.1, ⟨SlC.nil, SlC.nil, SlC.nil⟩, h.2⟩
def lowS (x : Sk) : Sk × Int := if skOk x then (if x.level = bottomB x.kind then (zsk, 102) else (skLow x, 0)) else (zsk, 100)
def toS (x : Sk) (t : Int) : Sk × Int := if skOk x then (if bottomB x.kind < t then (zsk, 102) else (skTo x t.toNat, 0)) else (zsk, 100)
def mrgS (x y : Sk) : Sk × Int := if skOk x && skOk y then (if x.kind = y.kind then (skOf x.kind.toNat (wkMerge (x.level.toNat, bdOf x) (y.level.toNat, bdOf y)).1 (wkMerge (x.level.toNat, bdOf x) (y.level.toNat, bdOf y)).2, 0) else (zsk, 101)) else (zsk, 100)
theorem bot_sk {k L : Nat} {B : Bd} (h : B.Ok k L) : bottomB (skOf k L B).kind = (botN k : Int) := by rw [(skOf_kind k L B).1]; exact (bot_eq h).1
theorem lowS_sk {k L : Nat} {B : Bd} (h : B.Ok k L) : lowS (skOf k L B) = if L = botN k then (zsk, 102) else (skOf k (L + 1) B.low, 0) := by
 unfold lowS
 rw [if_pos (skOf_ok h), bot_sk h, (skOf_kind k L B).2, skLow_sk h]
 by_cases hl : L = botN k
 ·rw [if_pos (by omega), if_pos hl]
 ·rw [if_neg (by omega), if_neg hl]
theorem toS_sk {k L : Nat} {B : Bd} (h : B.Ok k L) (t : Int) : toS (skOf k L B) t = if (botN k : Int) < t then (zsk, 102) else (skOf k (wkTo (L, B) t.toNat).1 (wkTo (L, B) t.toNat).2, 0) := by
 unfold toS
 rw [if_pos (skOf_ok h), bot_sk h, skTo_sk h]
theorem mrgS_sk {k L k2 L2 : Nat} {B B2 : Bd} (h : B.Ok k L) (h2 : B2.Ok k2 L2) : mrgS (skOf k L B) (skOf k2 L2 B2) = if k = k2 then (skOf k (wkMerge (L, B) (L2, B2)).1 (wkMerge (L, B) (L2, B2)).2, 0) else (zsk, 101) := by
 unfold mrgS
 rw [skOf_ok h, skOf_ok h2, bdOf_sk h, bdOf_sk h2, (skOf_kind k L B).1, (skOf_kind k L B).2, (skOf_kind k2 L2 B2).1, (skOf_kind k2 L2 B2).2, Int.toNat_natCast, Int.toNat_natCast, Int.toNat_natCast]
 by_cases hk : k = k2
 ·rw [if_pos hk]; subst hk; simp
 ·rw [if_neg hk]; simp only [Bool.and_self, if_true]; rw [if_neg (by omega)]
section
variable {x : Sk} {s : SS} {w : World}
theorem ladder_Lower_S (hx : s.At w.heap.size w x) (hl : x.lim) (hg : GT w) :
  Calls Tryz.prog 9 #[.agg #[.int .i64 x.kind, .int .i64 x.level, .slice s.ea s.el s.ec, .int .i64 x.hb, .string x.hr, .int .i64 x.cr, .int .i64 x.cc, .slice s.ca s.cl s.cc, .int .i64 x.gf, .slice s.ga s.gl s.gc]] w (SkP (lowS x) w) := by
 cases ok : skOk x with
 | false =>
  unfold lowS
  rw [ok]
  exact (Lower_no x s w hx (hl.short hx) hl.fit ok hg).mono fun e w' h => .zero h
 | true =>
  obtain ⟨k, L, B, rfl, hB⟩ := hl.bd ok
  rw [lowS_sk hB]
  by_cases hb : L = botN k
  ·rw [if_pos hb]
   exact (Lower_bot hB hb hg ⟨_, s, rfl, rfl, hx⟩).mono fun e w' h => .zero h
  ·rw [if_neg hb]
   exact (Lower_any hB (by have := ok_bot hB; omega) ⟨_, s, rfl, rfl, hx⟩).mono fun e w' h => .good h
theorem ladder_To_S (t : Int) (hx : s.At w.heap.size w x) (hl : x.lim) (hg : GT w) :
  Calls Tryz.prog 11 #[.agg #[.int .i64 x.kind, .int .i64 x.level, .slice s.ea s.el s.ec, .int .i64 x.hb, .string x.hr, .int .i64 x.cr, .int .i64 x.cc, .slice s.ca s.cl s.cc, .int .i64 x.gf, .slice s.ga s.gl s.gc], .int .i64 t] w (SkP (toS x t) w) := by
 cases ok : skOk x with
 | false =>
  unfold toS
  rw [ok]
  exact (To_no x s t w hx (hl.short hx) hl.fit ok hg).mono fun e w' h => .zero h
 | true =>
  obtain ⟨k, L, B, rfl, hB⟩ := hl.bd ok
  rw [toS_sk hB]
  by_cases hb : (botN k : Int) < t
  ·rw [if_pos hb]
   exact (To_above t hB hb hg ⟨_, s, rfl, rfl, hx⟩).mono fun e w' h => .zero h
  ·rw [if_neg hb]
   exact (To_anyI (t := t.toNat) t hB (by omega) (by omega) ⟨_, s, rfl, rfl, hx⟩).mono fun e w' h => .good h
theorem ladder_Merge_S {y : Sk} {p : SS} (hx : s.At w.heap.size w x) (hl : x.lim) (hy : p.At w.heap.size w y) (hm : y.lim) (hg : GT w) :
  Calls Tryz.prog 7 #[.agg #[.int .i64 x.kind, .int .i64 x.level, .slice s.ea s.el s.ec, .int .i64 x.hb, .string x.hr, .int .i64 x.cr, .int .i64 x.cc, .slice s.ca s.cl s.cc, .int .i64 x.gf, .slice s.ga s.gl s.gc], .agg #[.int .i64 y.kind, .int .i64 y.level, .slice p.ea p.el p.ec, .int .i64 y.hb, .string y.hr, .int .i64 y.cr, .int .i64 y.cc, .slice p.ca p.cl p.cc, .int .i64 y.gf, .slice p.ga p.gl p.gc]] w (SkP (mrgS x y) w) := by
 cases ok : skOk x with
 | false =>
  unfold mrgS
  rw [ok]
  exact (Merge_no1 x s y p w hx (hl.short hx) hl.fit ok hg).mono fun e w' h => .zero h
 | true =>
 cases ok2 : skOk y with
 | false =>
  unfold mrgS
  rw [ok, ok2]
  obtain ⟨k, L, B, rfl, hB⟩ := hl.bd ok
  exact (Merge_no2 y p w hB ⟨_, s, rfl, rfl, hx⟩ hy (hm.short hy) hm.fit ok2 hg).mono fun e w' h => .zero h
 | true =>
  obtain ⟨k, L, B, rfl, hB⟩ := hl.bd ok
  obtain ⟨k2, L2, B2, rfl, hB2⟩ := hm.bd ok2
  rw [mrgS_sk hB hB2]
  by_cases hk : k = k2
  ·rw [if_pos hk]
   subst hk
   exact (Merge_any hB hB2 hg ⟨_, s, rfl, rfl, hx⟩ ⟨_, p, rfl, rfl, hy⟩).mono fun e w' h => .good h
  ·rw [if_neg hk]
   exact (Merge_kinds hB hB2 hk hg ⟨_, s, rfl, rfl, hx⟩ ⟨_, p, rfl, rfl, hy⟩).mono fun e w' h => .zero h
end
end Go.Proofs.YtcbbenncdainfaaGreatDoor
