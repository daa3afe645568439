/- Package hll: Merge. The reference of layer 8: Plus, New, Col, Add, Merge, Lower, Count, at counters that are right. The references of layers 7 and 9 in plain data: places digit by digit, bins put in. No program in sight. -/
import Derived.RegionIn
import Derived.Test.YtcbbenncdainfaaGreatDoorZRD
namespace Go.Proofs.YtcbbenncdainfaaGreatDoor
open Go Go.RowKit Go.Shelf
attribute [local go_sem] Oper.semAt_some
set_option maxRecDepth 100000 in
set_option maxHeartbeats 1000000 in
theorem ranks_kl1 {α : Type} (f : α → Nat × UInt8) (l Bs : Nat) (s : ByteArray) (hreach : s.size < 4294967281) (ls : List α) (hls : ls.map f = octs s) (J Jx : List α → World → Prop)
  (hY : ∀ pre x W, J pre W → pre.length < ls.length → YieldAt Fence.wide 7 Tryz.prog l #[.int .i64 (f x).1, .int .u8 (f x).2.toNat] W fun e W' =>
   (e = .returned (.bool true) ∧ J (pre ++ [x]) W' ∧ KL [Bs] W W') ∨ (e = .returned (.bool false) ∧ Jx (pre ++ [x]) W'))
  (W : World) (hBs : W.heap[Bs]? = some (.cells #[.string s] 9 (0, 0))) (h0 : J [] W) :
  CallsIn Fence.wide 8 Tryz.prog 110 #[.func (.yield l) #[] #[], .pointer (some ⟨Bs, 0, none⟩)] W fun e W' => (∃ v, e = .returned v) ∧
   ((∃ ys, ys = ls ∧ J ys W') ∨ (∃ pre, pre <+: ls ∧ Jx pre W')) := by
 have hol : ls.length = s.size := by rw [← octs_len s, ← hls, List.length_map]
 refine callsIn_of_wp Tryz.func110 rfl trivial ?_ rfl
 simp only [Tryz.ntmps110, List.size_toArray, List.length_cons, List.length_nil, Nat.reduceAdd, Nat.reduceSub, Array.replicate_succ, Array.replicate_zero, List.push_toArray, List.append_toArray, List.nil_append, List.cons_append]
 have HO := Lib.hid hol
 have HBs := Lib.hid hBs
 have HLS := Lib.hid hls
 have b0 : W.cell? ⟨Bs, 0, none⟩ = some (.string s) := cCc hBs 0
 clear hol hBs hls
 gi_wp2
 gi_loopw [3, 6] (fun _ i wr => ∃ k : Nat, k ≤ s.size ∧ i = .int .i64 k ∧ J (ls.take k) wr ∧ KL [Bs] W wr) (fun _ i _ => s.size - (intOf i).toNat)
 case atStart => exact ⟨0, Nat.zero_le _, rfl, h0, KL.refl _ _⟩
 case round =>
  obtain ⟨k, hk, rfl, hJs, hnx⟩ := hrel
  by_cases hlt : k < s.size
  ·have hx := octs_at s k hlt
   rw [← HLS.out, List.getElem?_map] at hx
   obtain ⟨y, hy0, hfy⟩ := Option.map_eq_some_iff.1 hx
   obtain ⟨fn, tmps, assign, body, hy, hR⟩ := hY _ y _ hJs (by rw [List.length_take, HO.out]; omega)
   rw [hfy] at hy
   dsimp only at hy
   have HX := Lib.hid hy0
   have hc := hnx Bs (List.mem_singleton.2 rfl) _ HBs.out
   have c0 : wr.cell? ⟨Bs, 0, none⟩ = some (.string s) := cCc hc 0
   clear hx hc hy0 hfy
   gi_wp2
   refine hR.mono ?_
   rintro e W3 (⟨rfl, hJ3, hk3⟩ | ⟨rfl, hJx3⟩)
   ·gi_wp2
    go_roundw
    case rel => exact ⟨k + 1, by omega, by simp, by rw [take_snoc' HX.out]; exact hJ3, hnx.trans hk3⟩
    case measure => simp [intOf]; omega
   ·gi_wp2
    refine bodyPost_ret (results_none rfl _ _ _) rfl ?_
    exact ⟨⟨_, rfl⟩, .inr ⟨_, by have h := List.take_prefix (k + 1) ls; rwa [take_snoc' HX.out] at h, hJx3⟩⟩
  ·obtain rfl : k = s.size := by omega
   gi_wp2
   go_end0
   exact ⟨⟨_, rfl⟩, .inl ⟨_, List.take_of_length_le (by rw [HO.out]; omega), hJs⟩⟩
theorem ranks_kl {α : Type} (f : α → Nat × UInt8) (Bs : Nat) (s : ByteArray) (hreach : s.size < 4294967281) (ls : List α) (hls : ls.map f = octs s) (w : World) (hc : w.heap[Bs]? = some (.cells #[.string s] 9 (0, 0))) :
  SeqStopsK Fence.wide 8 Tryz.prog 110 #[.pointer (some ⟨Bs, 0, none⟩)] (fun x : α => #[.int .i64 (f x).1, .int .u8 (f x).2.toNat]) (KL [Bs]) (fun ys => ys = ls) (fun pre => pre <+: ls) ls.length w := fun l J Jx W hW _ _ hY h0 =>
 ranks_kl1 f l Bs s hreach ls hls J Jx hY W (known hW (Nat.le_refl _) hc) h0
def put2 (s1 s2 : Nat) (x y : Value) (t : Array Value) : Array Value := (t.setIfInBounds s1 x).setIfInBounds s2 y
theorem wp_range_all2 {α : Type} {P : Program} {g : Operand} {ps : Array Tmp} {assign body : Code} {Q : Exit → Act → World → Prop} {a : Act} {w : World} (L : List Nat) (s1 s2 : Nat) (v1 v2 : α → Value)
  {gf : Nat} {lb : Array Value} (hg : a.eval g = .func (.func gf) #[] lb) (eg : ∀ args w, (callFunc gf args).run P w = .ok (.enter gf args) w)
  {encs : α → Array Value} {xs : List α} {N : Nat} {w0 : World} (hseq : SeqStopsK Fence.wide 8 P gf lb encs (KL L) (fun ys => ys = xs) (fun pre => pre <+: xs) N w0)
  (hL : ∀ b ∈ L, b < w.heap.size) (hb0 : Below w0.heap.size w0 w) (hps : ∀ x, (encs x).size = ps.size)
  (I : List α → World → Prop) (hI : OwnFrom w.heap.size I) (h0 : I [] w)
  (hassign : ∀ (l : Nat) (pre : List α) (x : α) (W : World) (K : Act → World → Prop), I pre W → (I pre W → K { tmps := put2 s1 s2 (v1 x) (v2 x) ((ps.zip (encs x)).foldl (fun t (p, v) => t.setIfInBounds p v) a.tmps), defers := [] } W) →
   assign.wpIn (Fence.wide.inRound l) 7 P (Exit.then K (fun _ _ _ => False)) { tmps := (ps.zip (encs x)).foldl (fun t (p, v) => t.setIfInBounds p v) a.tmps, defers := [] } W)
  (hbody : ∀ (l : Nat) (pre : List α) (x : α) (W : World), I pre W → pre.length < N → body.wpIn (Fence.wide.inRound l) 7 P (ownPostG w.heap.size (KL L) I (fun _ _ _ => False) (pre ++ [x]) W) { tmps := put2 s1 s2 (v1 x) (v2 x) ((ps.zip (encs x)).foldl (fun t (p, v) => t.setIfInBounds p v) a.tmps), defers := [] } W)
  (hdone : ∀ (D : Nat) (W : World), w.heap.size ≤ D → I xs W → W.heap[D]? = some (.deferred (some [])) → Q .normal { a with defers := { target := .collected D, args := #[] } :: a.defers } W) :
  (Code.rangeFunc g ps assign body).wp P Q a w := by
 generalize hT : (fun x => put2 s1 s2 (v1 x) (v2 x) ((ps.zip (encs x)).foldl (fun t (p, v) => t.setIfInBounds p v) a.tmps)) = T
 have e : ∀ x, put2 s1 s2 (v1 x) (v2 x) ((ps.zip (encs x)).foldl (fun t (p, v) => t.setIfInBounds p v) a.tmps) = T x := fun x => congrFun hT x
 simp only [e] at hassign hbody
 exact wp_range_all L T hg eg hseq hL hb0 hps I hI h0 hassign hbody hdone
def tellAll (r : List Nat) (l : List (Nat × UInt8)) : List Nat := l.foldl (fun r p => hlTell r p.1 p.2.toNat) r
theorem tellAll_len : ∀ (l : List (Nat × UInt8)) (r : List Nat), (tellAll r l).length = r.length
 | [], _ => rfl
 | p :: l, r => by show (tellAll (hlTell r p.1 p.2.toNat) l).length = _; rw [tellAll_len l, hlTell_len]
theorem tells_at (f : Nat → UInt8) (r : List Nat) (j : Nat) : ∀ n, (tellAll r ((List.range n).map fun i => (i, f i))).getD j 0 = if j < n ∧ j < r.length then max (r.getD j 0) (f j).toNat else r.getD j 0
 | 0 => by rw [if_neg (by omega)]; rfl
 | n + 1 => by
  have e : tellAll r ((List.range (n + 1)).map fun i => (i, f i)) = hlTell (tellAll r ((List.range n).map fun i => (i, f i))) n (f n).toNat := by
   unfold tellAll
   rw [List.range_succ, List.map_append, List.foldl_append]
   rfl
  rw [e, tell_at, tellAll_len, tells_at f r j n]
  by_cases h : n = j
  ·subst h
   by_cases h2 : n < r.length
   ·rw [if_pos ⟨rfl, h2⟩, if_neg (by omega), if_pos ⟨by omega, h2⟩]
   ·rw [if_neg (by omega), if_neg (by omega), if_neg (by omega)]
  ·rw [if_neg (fun e => h e.1)]
   by_cases h2 : j < n ∧ j < r.length
   ·rw [if_pos h2, if_pos (by omega)]
   ·rw [if_neg h2, if_neg (by omega)]
theorem tells_max (r r2 : List Nat) (hl : r.length = r2.length) (h : ∀ x ∈ r2, x < 256) : tellAll r (octs (hlStr r2)) = hlMax r r2 := by
 refine getD_ext _ _ (by rw [tellAll_len, hlMax_len]) fun i hi => ?_
 rw [tellAll_len] at hi
 have hn := hlStr_nums r2 h
 unfold octs
 rw [tells_at, hlMax_at _ _ _ hi, if_pos ⟨by rw [hlStr_size]; omega, hi⟩]
 have : ((hlStr r2).data.toList.getD i 0).toNat = r2.getD i 0 := by
  conv => rhs; rw [← hn]
  rw [List.getD_eq_getElem?_getD, List.getD_eq_getElem?_getD, List.getElem?_map]
  cases (hlStr r2).data.toList[i]? <;> rfl
 rw [this]
def XI (N g : Nat) (r : List Nat) (w : World) (pre : List { p : Nat × UInt8 // p.1 < N }) (W : World) : Prop := RegsAt W g (tellAll r (pre.map (·.1))) ∧ w.grownBy W (some g)
theorem xi_own (N g : Nat) (r : List Nat) (w : World) (C : Nat) (hC : w.heap.size ≤ C) : OwnFrom C (XI N g r w) := fun pre X Y row hs hg hr => by
 obtain ⟨h1, h3⟩ := hs
 have hne : ∀ k o, X.heap[k]? = some o → o.isCells = true → some k ≠ row := fun k o hk hc e => by
  obtain ⟨-, o', ho', hc'⟩ := hr k e.symm
  rw [hk] at ho'
  cases ho'
  rw [hc] at hc'
  cases hc'
 obtain ⟨cs, fz, hc, -⟩ := id h1
 exact ⟨h1.grown hg (hne _ _ hc rfl), h3.andThen hg (fun j e => .inl (Nat.le_trans hC (hr j e).1))⟩
set_option maxRecDepth 100000 in
set_option maxHeartbeats 2000000 in
theorem hMerge_any (b : Nat) (r r2 : List Nat) (w : World) (h1 : 3 ≤ b) (h2 : b ≤ 8) (hl : r.length = 2 ^ b) (hr : ∀ i, r.getD i 0 ≤ 65 - b) (hl2 : r2.length = 2 ^ b) (hr2 : ∀ i, r2.getD i 0 ≤ 65 - b) :
  Calls Tryz.prog 168 #[.agg #[.int .i64 b, .string (hlStr r)], .agg #[.int .i64 b, .string (hlStr r2)]] w fun e w' => e = .returned (.tuple #[.agg #[.int .i64 b, .string (hlStr (hlMax r r2))], .int .i64 0]) ∧ Below w.heap.size w w' := by
 have hR : Hid (∀ w1, Calls Tryz.prog 96 #[.agg #[.int .i64 b, .string (hlStr r2)]] w1 fun e w' => e = .returned (.bool true) ∧ Below w1.heap.size w1 w') := fun w1 => (hll_Right_any b (hlStr r2) w1).mono fun e w' h => ⟨by rw [h.1, hlRight_str b r2 h1 h2 hl2 hr2], h.2⟩
 have HBG := Lib.hid (fun w => hbegin_any b r w h1 h2 hl hr)
 have HT : Hid (∀ (s : ByteArray) (g cap : Nat) (W : World) (rr : List Nat) (p q : Nat), RegsAt W g rr → rr.length = 2 ^ b → p < 2 ^ b → Calls Tryz.prog 151 #[.agg #[.int .i64 b, .string s, .slice (some ⟨g, 0, none⟩) (2 ^ b) cap, .func (.func 148) #[] #[]], .int .i64 p, .int .u8 q] W fun e w' => e = .returned (.tuple #[]) ∧ RegsAt w' g (hlTell rr p q) ∧ W.grownBy w' (some g)) := fun s g cap W rr p q h hlen hp => tell_any _ s g (2 ^ b) cap p q rr W h (by omega) hlen
 have HD : Hid (∀ (s : ByteArray) (g cap : Nat) (W : World), RegsAt W g (hlMax r r2) → Calls Tryz.prog 145 #[.agg #[.int .i64 b, .string s, .slice (some ⟨g, 0, none⟩) (2 ^ b) cap, .func (.func 148) #[] #[]]] W fun e w' => e = .returned (.agg #[.int .i64 b, .string (hlStr (hlMax r r2))]) ∧ Below W.heap.size W w') := fun s g cap W h => hdone_any _ s g (2 ^ b) cap _ _ W h (by rw [hlMax_len, hl])
 have HTM := Lib.hid (tells_max r r2 (by omega) (fun x hx => by have := le_getD hr2 x hx; omega))
 have hO : ∀ p ∈ octs (hlStr r2), p.1 < 2 ^ b := fun p hp => by
  obtain ⟨i, hi, rfl⟩ := List.mem_map.1 hp
  rw [List.mem_range, hlStr_size, hl2] at hi
  exact hi
 have HZ : Hid ((hlStr r2).size < 4294967281) := by
  have : 2 ^ b ≤ 2 ^ 8 := Nat.pow_le_pow_right (by omega) h2
  show _ < _
  rw [hlStr_size]
  omega
 have HL : Hid (∀ l, (tellAll r l).length = 2 ^ b) := fun l => by rw [tellAll_len, hl]
 obtain ⟨ls, hls⟩ : ∃ ls : List { p : Nat × UInt8 // p.1 < 2 ^ b }, ls.map (·.1) = octs (hlStr r2) := ⟨(octs (hlStr r2)).attachWith _ hO, List.attachWith_map_subtype_val _⟩
 have HLS := Lib.hid hls
 clear hls hO
 generalize hlStr r2 = s2 at hR HTM HLS HZ ⊢
 generalize hlStr r = s at HBG ⊢
 generalize hlStr (hlMax r r2) = s3 at HD ⊢
 obtain ⟨W0, hW0, hXx, hXy, hXr, hB0, hs0⟩ := boxes3 w #[.int .i64 b, .string s] 26 #[.int .i64 b, .string s2] 26 #[.int .i64 0, .string ⟨#[]⟩] 26
 have HXx := Lib.hid hXx
 have HXy := Lib.hid hXy
 have HXr := Lib.hid hXr
 have HB0 := Lib.hid hB0
 obtain ⟨z0, z1⟩ := cl2 hXx
 clear hXx hXy hXr hB0 hl hr hl2 hr2 h1 h2
 refine calls_marks Tryz.func168 rfl ?_
 simp only [Tryz.ntmps168, List.size_toArray, List.length_cons, List.length_nil, Nat.reduceAdd, Nat.reduceSub, Array.replicate_succ, Array.replicate_zero, List.push_toArray, List.append_toArray, List.nil_append, List.cons_append]
 go_wp2_with fail
 refine (HBG.out _).mono ?_
 rintro e w2 ⟨g, cap, rfl, hrg, hg2, hb2⟩
 obtain ⟨W2, hW2, hX2, hB2, hs2⟩ := boxes1 w2 #[.int .i64 b, .string s, .slice (some ⟨g, 0, none⟩) (2 ^ b) cap, .nilFunc] 210
 have hst := st_fn (off := 3) hX2 rfl (.func 148)
 obtain ⟨W3, hW3⟩ : ∃ W3, W2.setCell ⟨w2.heap.size, 3, none⟩ (.func (.func 148) #[] #[]) = W3 := ⟨_, rfl⟩
 have hX3 : W3.heap[w2.heap.size]? = some (.cells #[.int .i64 b, .string s, .slice (some ⟨g, 0, none⟩) (2 ^ b) cap, .func (.func 148) #[] #[]] 210 (0, 0)) := by rw [← hW3]; exact hSk hX2 _
 have hB23 : Below w2.heap.size w2 W3 := by rw [← hW3]; exact hB2.setCell (p := ⟨w2.heap.size, 3, none⟩) (Nat.le_refl _) _
 have hs3 : W3.heap.size = w2.heap.size + 1 := by rw [← hW3, size_set, hs2]
 have hY3 := known (hb2.trans (hB23.mono hb2.size)) (Nat.le_refl _) HXy.out
 have hXx3 := known (hb2.trans (hB23.mono hb2.size)) (Nat.le_refl _) HXx.out
 have hr3 := hrg.go hB23
 obtain ⟨c0, c1, c2, c3⟩ := cl4 hX3
 obtain ⟨y0, y1⟩ := cl2 hY3
 obtain ⟨x0, x1⟩ := cl2 hXx3
 have HX3 := Lib.hid hX3
 have HR3 := Lib.hid hr3
 have HB23 := Lib.hid hB23
 have HG2 : Hid (w.heap.size + 3 ≤ g ∧ g < w2.heap.size) := ⟨by omega, hrg.lt⟩
 have HB2 := Lib.hid hb2
 clear hX2 hX3 hB2 hB23 hY3 hXx3 hr3 hrg hg2 hb2
 go_wp2_with fail
 refine (hR.out _).mono ?_
 rintro e w4 ⟨rfl, hb4⟩
 have hb34 : Below W0.heap.size W0 w4 := HB2.out.trans ((HB23.out.trans (hb4.mono HB23.out.size)).mono HB2.out.size)
 have hY4 := known hb34 (Nat.le_refl _) HXy.out
 have hXx4 := known hb34 (Nat.le_refl _) HXx.out
 have hXr4 := known hb34 (Nat.le_refl _) HXr.out
 have hW4 := known hb4 (Nat.le_refl _) HX3.out
 have hr4 := HR3.out.go hb4
 obtain ⟨d0, d1⟩ := cl2 hY4
 obtain ⟨k0, k1⟩ := cl2 hXx4
 obtain ⟨W5, hW5, hX5, hB5, hs5⟩ := boxes1 w4 #[.string s2] 9
 have HW5 := Lib.hid hW5
 have HXr4 := Lib.hid hXr4
 have HW4 := Lib.hid hW4
 have HR4 := Lib.hid hr4
 have HB4 := Lib.hid hb34
 have hz4 : w2.heap.size < w4.heap.size := by have := hb4.size; omega
 clear hY4 hXx4 hXr4 hW4 hr4 hb34 hW5 hb4 c0 c1 c2 c3 y0 y1 x0 x1 z0 z1
 go_wp2_with (go_at_call 104; refine (ranks_any _ _).mono ?_; rintro e w' ⟨rfl, rfl⟩; rw [HW5.out])
 have hn : w.heap.size + 3 ≤ w2.heap.size := by have := HB2.out.size; omega
 refine wp_range_all2 [w4.heap.size] 8 9 (fun x : { p : Nat × UInt8 // p.1 < 2 ^ b } => .int .i64 x.1.1) (fun x => .int .u8 x.1.2.toNat) (gf := 110) (lb := #[.pointer (some ⟨w4.heap.size, 0, none⟩)]) rfl (enters_of Tryz.func110 (by kernel_rfl) rfl)
  (ranks_kl (fun x : { p : Nat × UInt8 // p.1 < 2 ^ b } => x.1) w4.heap.size s2 HZ.out ls HLS.out W5 hX5) (by intro k hk; simp at hk; omega) (Below.refl _ _) (fun _ => rfl) (XI (2 ^ b) g r W5) (xi_own (2 ^ b) g r W5 _ (Nat.le_refl _)) ⟨HR4.out.go hB5, World.grownBy.refl _ _⟩ ?assign ?body ?fin
 case assign =>
  rintro l pre x W K hI hK
  simp only [put2, List.zip_toArray, List.zip_cons_cons, List.zip_nil_right, List.size_toArray, List.foldl_toArray', List.foldl_cons, List.foldl_nil, List.setIfInBounds_toArray, List.set_cons_succ, List.set_cons_zero] at hK ⊢
  gi_wp2
  exact hI
 case body =>
  rintro lo pre x W ⟨hR, hG⟩ hlt
  simp only [put2, List.zip_toArray, List.zip_cons_cons, List.zip_nil_right, List.size_toArray, List.foldl_toArray', List.foldl_cons, List.foldl_nil, List.setIfInBounds_toArray, List.set_cons_succ, List.set_cons_zero]
  have hx0 := x.2
  have HS : Hid (hlTell (tellAll r (pre.map (·.1))) x.1.1 x.1.2.toNat = tellAll r ((pre ++ [x]).map (·.1))) := by
   unfold Hid tellAll
   rw [List.map_append, List.foldl_append]
   rfl
  have hT := HT.out s g cap W _ x.1.1 x.1.2.toNat hR (HL.out _) hx0
  have hX : W.heap[w2.heap.size]? = some (.cells #[.int .i64 b, .string s, .slice (some ⟨g, 0, none⟩) (2 ^ b) cap, .func (.func 148) #[] #[]] 210 (0, 0)) :=
   (hG.block _ (by omega) (fun e => by cases e; have := HG2.out.2; omega)).trans (known hB5 (Nat.le_refl _) HW4.out)
  obtain ⟨c0, c1, c2, c3⟩ := cl4 hX
  have HG := Lib.hid hG
  have hg4 := HG2.out.2
  clear hG hX hR d0 d1 k0 k1
  gi_wp2_with fail
  refine ⟨trivial, (CallsIn.inRound lo (callsIn_wide.2 hT)).mono ?_⟩
  rintro e W7 ⟨rfl, hR7, hG7⟩
  gi_wp2_with fail
  exact ⟨KeepsFrom.of_grownBy hG7 (fun j e => by cases e; omega), KL.grown hG7 (fun k hk => by simp at hk; subst hk; intro e; cases e; omega), by rw [← HS.out]; exact hR7, HG.out.trans hG7⟩
 case fin =>
  rintro D W hD ⟨hR, hG⟩ hK
  rw [HLS.out, HTM.out] at hR
  have hDn := HD.out s g cap W hR
  have hX : W.heap[w2.heap.size]? = some (.cells #[.int .i64 b, .string s, .slice (some ⟨g, 0, none⟩) (2 ^ b) cap, .func (.func 148) #[] #[]] 210 (0, 0)) :=
   (hG.block _ (by omega) (fun e => by cases e; have := HG2.out.2; omega)).trans (known hB5 (Nat.le_refl _) HW4.out)
  have hRr : W.heap[w.heap.size + 2]? = some (.cells #[.int .i64 0, .string ⟨#[]⟩] 26 (0, 0)) :=
   (hG.block _ (by omega) (fun e => by cases e; have := HG2.out.1; omega)).trans (known hB5 (Nat.le_refl _) HXr4.out)
  have hBW5 : Below w.heap.size w W5 := HB0.out.trans ((HB4.out.trans (hB5.mono HB4.out.size)).mono HB0.out.size)
  have hBW : Below w.heap.size w W := hBW5.grown hG hBW5.size (fun j e => by cases e; have := HG2.out.1; omega)
  obtain ⟨c0, c1, c2, c3⟩ := cl4 hX
  have HDn := Lib.hid hDn
  clear hDn hX hR hG hBW5 d0 d1 k0 k1
  go_wp2_with fail
  refine HDn.out.mono ?_
  rintro e w6 ⟨rfl, hb6⟩
  have hR6 := known hb6 (Nat.le_refl _) hRr
  have hK6 := known hb6 (Nat.le_refl _) hK
  obtain ⟨q0, q1⟩ := cl2 hR6
  obtain ⟨f0, f1⟩ := cz2 hR6
  obtain ⟨V, hV⟩ : ∃ V, (w6.setCell ⟨w.heap.size + 1 + 1, 0, none⟩ (.int .i64 b)).setCell ⟨w.heap.size + 1 + 1, 1, none⟩ (.string s3) = V := ⟨_, rfl⟩
  have hXV : V.heap[w.heap.size + 1 + 1]? = some (.cells #[.int .i64 b, .string s3] 26 (0, 0)) := by rw [← hV]; exact set_cells2 hR6
  have hKV : V.heap[D]? = some (.deferred (some [])) := by
   rw [← hV]
   exact (heap_set_other (p := ⟨w.heap.size + 1 + 1, 1, none⟩) (by show w.heap.size + 1 + 1 ≠ D; omega) _).trans ((heap_set_other (p := ⟨w.heap.size + 1 + 1, 0, none⟩) (by show w.heap.size + 1 + 1 ≠ D; omega) _).trans hK6)
  have hBV : Below w.heap.size w V := by
   rw [← hV]
   exact ((hBW.trans (hb6.mono hBW.size)).setCell (p := ⟨w.heap.size + 1 + 1, 0, none⟩) (by show _ ≤ _ + 1 + 1; omega) _).setCell (p := ⟨w.heap.size + 1 + 1, 1, none⟩) (by show _ ≤ _ + 1 + 1; omega) _
  have hXP : (V.putObj D (.deferred none)).heap[w.heap.size + 1 + 1]? = some (.cells #[.int .i64 b, .string s3] 26 (0, 0)) := (World.putObj_heap_other (by omega)).trans hXV
  have x0 : (V.putObj D (.deferred none)).cell? ⟨w.heap.size + 1 + 1, 0, none⟩ = some (.int .i64 b) := cCc hXP 0
  have x1 : (V.putObj D (.deferred none)).cell? ⟨w.heap.size + 1 + 1, 1, none⟩ = some (.string s3) := cCc hXP 1
  have HE : Hid (V.heap[D]? = some (.deferred (some [])) ∧ Below w.heap.size w V) := ⟨hKV, hBV⟩
  clear hR6 hK6 hXV hKV hBV hXP hRr hBW hb6 hK
  go_wp2_with fail
  refine marks_ret1 (v := .tuple #[.agg #[.int .i64 b, .string s3], .int .i64 0]) HE.out.1 ?_ ?_
  ·simp [results, Tryz.f168, go_sem, x0, x1]
  ·exact ⟨rfl, bPutD HE.out.2 (by omega) HE.out.1⟩
end Go.Proofs.YtcbbenncdainfaaGreatDoor
namespace Go.Proofs.YtcbbenncdainfaaGreatDoor
open Go Go.RowKit Go.Shelf
theorem ref08_Plus_any (a b : Int) (w : World) (ha : U64 a) (hb : U64 b) : Calls Tryz.prog 72 #[.int .u64 a, .int .u64 b] w fun e w' => e = .returned (.int .u64 (satI a b)) ∧ w' = w := by
 obtain ⟨a0, a1⟩ := ha
 obtain ⟨b0, b1⟩ := hb
 by_cases hc : 18446744073709551615 - a < b
 ·have hs : satI a b = 18446744073709551615 := by unfold satI; rw [if_pos hc]
  rw [hs]
  have t1 : 18446744073709551615 - b < a := by omega
  clear hc hs
  go_enter Tryz.func72, Tryz.ntmps72
  go_wp2_with fail
  go_ret
  exact ⟨rfl, rfl⟩
 ·have hs : satI a b = a + b := by unfold satI; rw [if_neg hc]
  rw [hs]
  have t1 : ¬ 18446744073709551615 - b < a := by omega
  have t2 : IntKind.u64.wrap (a + b) = a + b := u64_small _ (by omega) (by omega)
  clear hc hs
  go_enter Tryz.func72, Tryz.ntmps72
  go_wp2_with fail
  go_ret
  exact ⟨rfl, rfl⟩
def CmsPost (c : Nat) (l : List Int) (w : World) (e : Ending) (w' : World) : Prop := ∃ a cap, e = .returned (.tuple #[.agg #[.int .i64 2, .int .i64 c, .slice a l.length cap], .int .i64 0]) ∧ SlC encU 1 w'.heap.size w' a l.length cap l ∧ Below w.heap.size w w'
theorem ref08_Right_ok (c : Nat) (l : List Int) (a : Option Addr) (len cap : Nat) (w : World) (hc : c = 4 ∨ c = 8 ∨ c = 16 ∨ c = 32) (hl : len = l.length) (hn : l.length = c + c) :
  Calls Tryz.prog 56 #[.agg #[.int .i64 2, .int .i64 c, .slice a len cap]] w fun e w' => e = .returned (.bool true) ∧ Below w.heap.size w w' := by
 have h := ref08_Right_any 2 c a len cap l w (by rcases hc with rfl | rfl | rfl | rfl <;> exact ⟨by decide, by decide⟩) hl
 have hr : cmRight 2 c l = true := by
  unfold cmRight
  rw [hn, Bool.and_eq_true]
  exact ⟨shape_any c hc, by rw [beq_iff_eq]; omega⟩
 rw [hr] at h
 exact h
theorem store3c {W : World} {b : Nat} {x y z : Value} {t : TypeId} (u v q : Value) (h : W.heap[b]? = some (.cells #[x, y, z] t (0, 0))) :
  ∃ V, ((W.setCell ⟨b, 0, none⟩ u).setCell ⟨b, 1, none⟩ v).setCell ⟨b, 2, none⟩ q = V ∧ V.heap[b]? = some (.cells #[u, v, q] t (0, 0)) ∧ OnlyAt b W V ∧ (∀ n w0, Below n w0 W → n ≤ b → Below n w0 V) :=
 ⟨_, rfl, hSk (hSk (hSk h _) _) _, (((OnlyAt.refl _ _).set _ _).set _ _).set _ _, fun _ _ hb hn => ((hb.setCell (p := ⟨b, 0, none⟩) hn _).setCell (p := ⟨b, 1, none⟩) hn _).setCell (p := ⟨b, 2, none⟩) hn _⟩
theorem wrap_small {n : Nat} (h : n < 1000) : wrap64 (n : Int) = (n : Int) := wrap64_nat n (by omega)
theorem slC_cell {l : List Int} {a : Option Addr} {len cap n i : Nat} {w : World} (h : SlC encU 1 n w a len cap l) (hi : i < l.length) : ∃ b off, a = some ⟨b, off, none⟩ ∧ b < n ∧ w.cell? ⟨b, off + i, none⟩ = some (.int .u64 (l.getD i 0)) := by
 obtain ⟨y, hy⟩ : ∃ y, l[i]? = some y := ⟨_, List.getElem?_eq_getElem hi⟩
 obtain ⟨b, off, e, hb, hc⟩ := h.1.2 i y hy
 have h1 := hc 0 (by omega)
 rw [Nat.mul_one] at h1
 refine ⟨b, off, e, hb, ?_⟩
 rw [List.getD_eq_getElem?_getD, hy]
 exact h1
end Go.Proofs.YtcbbenncdainfaaGreatDoor
namespace Go.Proofs.YtcbbenncdainfaaGreatDoor
open Go Go.RowKit Go.Shelf
theorem bitLen_is {x m : Nat} (h1 : 2 ^ m ≤ x) (h2 : x < 2 ^ (m + 1)) (h : x < 2 ^ 64) : Lib.bitLen x = m + 1 := by
 have h0 : x ≠ 0 := by have := Nat.two_pow_pos m; omega
 obtain ⟨a1, a2, a3⟩ := bitLen_bd x h h0
 generalize Lib.bitLen x = n at *
 obtain ⟨n', rfl⟩ : ∃ n', n = n' + 1 := ⟨n - 1, by omega⟩
 rw [Nat.add_sub_cancel] at a2
 have c1 := (Nat.pow_lt_pow_iff_right (a := 2) (by omega)).1 (Nat.lt_of_le_of_lt h1 a3)
 have c2 := (Nat.pow_lt_pow_iff_right (a := 2) (by omega)).1 (Nat.lt_of_le_of_lt a2 h2)
 omega
def lowZ (b n k : Nat) : Prop := n % 2 ^ (64 - b) / 2 ^ (64 - k) = 0
theorem at_step (n k : Nat) (hk : k < 64) : n / 2 ^ (64 - (k + 1)) = 2 * (n / 2 ^ (64 - k)) + n / 2 ^ (63 - k) % 2 := by
 have e1 : 64 - (k + 1) = 63 - k := by omega
 have e2 : 64 - k = (63 - k) + 1 := by omega
 rw [e1, e2, Nat.pow_succ, ← Nat.div_div_eq_div_mul]
 generalize n / 2 ^ (63 - k) = m
 omega
theorem low_digit (b n k : Nat) (hb : b ≤ k) (hk : k < 64) (h : lowZ b n k) : n % 2 ^ (64 - b) / 2 ^ (63 - k) = n / 2 ^ (63 - k) % 2 := by
 unfold lowZ at h
 have e1 : 64 - b = (63 - k) + (k + 1 - b) := by omega
 have e2 : 64 - k = (63 - k) + 1 := by omega
 have h3 : n % 2 ^ (64 - b) / 2 ^ (63 - k) = n / 2 ^ (63 - k) % 2 ^ (k + 1 - b) := by rw [e1, Nat.pow_add, Nat.mod_mul_right_div_self]
 have h4 : n / 2 ^ (63 - k) % 2 ^ (k + 1 - b) % 2 = n / 2 ^ (63 - k) % 2 := Nat.mod_mod_of_dvd _ (by rw [show k + 1 - b = (k - b) + 1 by omega, Nat.pow_succ]; exact Nat.dvd_mul_left _ _)
 rw [e2, Nat.pow_succ, ← Nat.div_div_eq_div_mul, h3] at h
 rw [h3]
 omega
theorem low_next (b n k : Nat) (hb : b ≤ k) (hk : k < 64) (h : lowZ b n k) (hd : n / 2 ^ (63 - k) % 2 = 0) : lowZ b n (k + 1) := by
 have h1 := low_digit b n k hb hk h
 unfold lowZ
 rw [show 64 - (k + 1) = 63 - k by omega, h1, hd]
theorem low_start (b n : Nat) (_hb : b ≤ 64) : lowZ b n b := by
 unfold lowZ
 exact Nat.div_eq_of_lt (Nat.mod_lt _ (Nat.two_pow_pos _))
theorem shift_mod (b n : Nat) (hb : b ≤ 64) : n * 2 ^ b % 2 ^ 64 = n % 2 ^ (64 - b) * 2 ^ b := by
 conv => lhs; rw [show 64 = (64 - b) + b by omega, Nat.pow_add, Nat.mul_mod_mul_right]
theorem rank_one (b n k : Nat) (hb : b ≤ k) (hk : k < 64) (h : lowZ b n k) (hd : n / 2 ^ (63 - k) % 2 = 1) : hlRank b n = 1 + (k - b) := by
 have h1 := low_digit b n k hb hk h
 rw [hd] at h1
 have hq1 : 2 ^ (63 - k) ≤ n % 2 ^ (64 - b) := by
  have := Nat.div_mul_le_self (n % 2 ^ (64 - b)) (2 ^ (63 - k))
  rw [h1, Nat.one_mul] at this
  exact this
 have hq2 : n % 2 ^ (64 - b) < 2 ^ (63 - k + 1) := by
  rw [Nat.pow_succ]
  have := Nat.lt_div_mul_add (a := n % 2 ^ (64 - b)) (Nat.two_pow_pos (63 - k))
  rw [h1] at this
  omega
 unfold hlRank
 rw [shift_mod b n (by omega)]
 generalize n % 2 ^ (64 - b) = q at hq1 hq2
 have p1 : 2 ^ (63 - k + b) ≤ q * 2 ^ b := by rw [Nat.pow_add]; exact Nat.mul_le_mul_right _ hq1
 have p2 : q * 2 ^ b < 2 ^ (63 - k + b + 1) := by
  rw [show 63 - k + b + 1 = (63 - k + 1) + b by omega, Nat.pow_add]
  exact Nat.mul_lt_mul_of_pos_right hq2 (Nat.two_pow_pos b)
 have p3 : 2 ^ (63 - k + b + 1) ≤ 2 ^ 64 := Nat.pow_le_pow_right (by omega) (by omega)
 have h0 : q * 2 ^ b ≠ 0 := by have := Nat.two_pow_pos (63 - k + b); omega
 rw [if_neg h0, bitLen_is p1 p2 (by omega)]
 omega
theorem rank_none (b n : Nat) (hb : b ≤ 64) (h : lowZ b n 64) : hlRank b n = 65 - b := by
 unfold lowZ at h
 simp only [Nat.sub_self, Nat.pow_zero, Nat.div_one] at h
 unfold hlRank
 rw [shift_mod b n hb, h, Nat.zero_mul, if_pos rfl]
def refPut (l : List (Int × Int)) (p n : Int) : List (Int × Int) := if n = 0 then l else binPut l p n
def refPuts (a l : List (Int × Int)) : List (Int × Int) := l.foldl (fun a b => refPut a b.1 b.2) a
theorem refPuts_eq : ∀ (l a : List (Int × Int)), (∀ b ∈ l, b.2 ≠ 0) → refPuts a l = hiPuts a l
 | [], _, _ => rfl
 | b :: l, a, h => by
  have h1 : refPut a b.1 b.2 = binPut a b.1 b.2 := if_neg (h b List.mem_cons_self)
  show refPuts (refPut a b.1 b.2) l = hiPuts (binPut a b.1 b.2) l
  rw [h1]
  exact refPuts_eq l _ (fun c hc => h c (List.mem_cons_of_mem _ hc))
theorem refPuts_done {a l : List (Int × Int)} (ha : ∀ b ∈ a, b.2 ≠ 0) (hau : BinsU a) (hl : ∀ b ∈ l, b.2 ≠ 0) (hlu : BinsU l) : refPuts a l = hiDone (hiPuts a l) := by
 rw [refPuts_eq l a hl]
 exact (hiDone_self (hiPuts_pos l a ha hau hl hlu)).symm
theorem hiLow_ref {l : List (Int × Int)} (h : ∀ b ∈ l, b.2 ≠ 0) (hu : BinsU l) : hiLow l = refPuts [] (l.map fun b => (hiHalf b.1, b.2)) := by
 rw [hiLow_eq h hu, refPuts_eq _ _ (half_bins h hu).1]
theorem refPuts_snoc (a l : List (Int × Int)) (b : Int × Int) : refPuts a (l ++ [b]) = refPut (refPuts a l) b.1 b.2 := by unfold refPuts; rw [List.foldl_append]; rfl
theorem refPut_len (l : List (Int × Int)) (p n : Int) : (refPut l p n).length ≤ l.length + 1 := by
 unfold refPut
 split
 ·omega
 ·exact binPut_len l p n
theorem refPuts_len : ∀ (l a : List (Int × Int)), (refPuts a l).length ≤ a.length + l.length
 | [], _ => Nat.le_refl _
 | b :: l, a => by
  have h1 := refPuts_len l (refPut a b.1 b.2)
  have h2 := refPut_len a b.1 b.2
  show (refPuts (refPut a b.1 b.2) l).length ≤ _
  rw [List.length_cons]
  omega
theorem binPut_less {q m p n : Int} {t : List (Int × Int)} (h : q < p) : binPut ((q, m) :: t) p n = (q, m) :: binPut t p n := by rw [binPut, if_pos h]
theorem binPut_eq {q m n : Int} {t : List (Int × Int)} : binPut ((q, m) :: t) q n = (q, satI m n) :: t := by rw [binPut, if_neg (by omega), if_pos rfl]
theorem binPut_more {q m p n : Int} {t : List (Int × Int)} (h : ¬ q < p) (h2 : q ≠ p) : binPut ((q, m) :: t) p n = (p, n) :: (q, m) :: t := by rw [binPut, if_neg h, if_neg h2]
end Go.Proofs.YtcbbenncdainfaaGreatDoor
