/- sip: number, eights, Sum. sip.Sum. -/
import Derived.Test.YtpklkhgnjbopnaaGreatDoorZW8
import Derived.Test.YtpklkhgnjbopnaaGreatDoorZSB
namespace Go.Proofs.YtpklkhgnjbopnaaGreatDoor
open Go Go.RowKit Go.Shelf
def byteAt (s : ByteArray) (k : Nat) : Int := ((s.data.getD k 0).toNat : Int)
def numK (s : ByteArray) : Nat → Int
 | 0 => 0
 | k + 1 => bits .or .u64 (numK s k) (IntKind.u64.wrap (IntKind.u64.wrap (byteAt s k) * 2 ^ (8 * k)))
theorem byteAt_eq (s : ByteArray) (k : Nat) (h : k < s.size) : ((s[k]'h).toNat : Int) = byteAt s k := by
 unfold byteAt
 have h2 : k < s.data.size := h
 rw [Array.getD_eq_getD_getElem?, Array.getElem?_eq_getElem h2]
 rfl
set_option maxHeartbeats 1000000 in
theorem number_sip (s : ByteArray) (w : World) (hs : s.size ≤ 8) :
  Calls Tryz.prog 167 #[.string s] w fun e w' => e = .returned (.int .u64 (numK s s.size)) ∧ w' = w := by
 go_enter Tryz.func167, Tryz.ntmps167
 go_wp2_with fail
 go_loopw [3, 7] (fun n i wr => ∃ k : Nat, n = .int .u64 (numK s k) ∧ i = .int .i64 k ∧ k ≤ s.size ∧ wr = w) (fun _ i _ => s.size - (intOf i).toNat)
 case atStart => exact ⟨0, rfl, rfl, Nat.zero_le _, rfl⟩
 case round =>
  obtain ⟨k, rfl, rfl, hk, rfl⟩ := hrel
  by_cases hlt : k < s.size
  ·have hb := byteAt_eq s k hlt
   go_wp2_with fail
   exact ⟨⟨k + 1, rfl, by go_num, by omega, trivial⟩, by simp [intOf]; omega⟩
  ·obtain rfl : k = s.size := by omega
   go_wp2_with fail
   go_ret
   exact ⟨rfl, rfl⟩
def chunkN (s : ByteArray) (j : Nat) : Int := numK (s.extract (8 * j) (8 * j + 8)) 8
def lastN8 (s : ByteArray) : Int := bits .or .u64 (numK (s.extract (8 * (s.size / 8)) s.size) (s.extract (8 * (s.size / 8)) s.size).size) (IntKind.u64.wrap (IntKind.u64.wrap s.size * 72057594037927936))
def eightL (s : ByteArray) : List (Int × Bool) := (List.range (s.size / 8)).map (fun j => (chunkN s j, false)) ++ [(lastN8 s, true)]
theorem eightL_len (s : ByteArray) : (eightL s).length = s.size / 8 + 1 := by simp [eightL]
theorem eightL_at (s : ByteArray) (j : Nat) (h : j < s.size / 8) : (eightL s)[j]? = some (chunkN s j, false) := by
 unfold eightL
 rw [List.getElem?_append_left (by simpa using h)]
 simp [h]
theorem eightL_end (s : ByteArray) : (eightL s)[s.size / 8]? = some (lastN8 s, true) := by
 unfold eightL
 rw [List.getElem?_append_right (by simp)]
 simp
theorem eights_any (s : ByteArray) (w : World) :
  Calls Tryz.prog 137 #[.string s] w fun e w' => e = .returned (.func (.func 166) #[] #[.pointer (some ⟨w.heap.size, 0, none⟩)]) ∧ w' = w.alloc (.cells #[.string s] 9) := by
 go_enter Tryz.func137, Tryz.ntmps137
 go_wp2
 go_ret
 exact ⟨rfl, rfl⟩
set_option maxRecDepth 100000 in
set_option maxHeartbeats 1000000 in
theorem eights1 (l Bs : Nat) (s : ByteArray) (hreach : s.size < 4294967281) (J Jx : List (Int × Bool) → World → Prop)
  (hY : ∀ pre x W, J pre W → pre.length < (eightL s).length → YieldAt Fence.wide 7 Tryz.prog l #[.int .u64 x.1, .bool x.2] W fun e W' =>
   (e = .returned (.bool true) ∧ J (pre ++ [x]) W' ∧ KB Bs W W') ∨ (e = .returned (.bool false) ∧ Jx (pre ++ [x]) W'))
  (W : World) (hJ : AbidesFrom W.heap.size J) (hBs : W.heap[Bs]? = some (.cells #[.string s] 9 (0, 0))) (h0 : J [] W) :
  CallsIn Fence.wide 8 Tryz.prog 166 #[.func (.yield l) #[] #[], .pointer (some ⟨Bs, 0, none⟩)] W fun e W' => (∃ v, e = .returned v) ∧
   ((∃ ys, ys = eightL s ∧ J ys W') ∨ (∃ pre, pre <+: eightL s ∧ Jx pre W')) := by
 have hol := eightL_len s
 refine callsIn_of_wp Tryz.func166 rfl trivial ?_ rfl
 simp only [Tryz.ntmps166, List.size_toArray, List.length_cons, List.length_nil, Nat.reduceAdd, Nat.reduceSub, Array.replicate_succ, Array.replicate_zero, List.push_toArray, List.append_toArray, List.nil_append, List.cons_append]
 have HO := Lib.hid hol
 have c9 : W.cell? ⟨Bs, 0, none⟩ = some (.string s) := cCc hBs 0
 clear hol
 gi_wp2
 gi_loopw [3] (fun i wr => ∃ j : Nat, j ≤ s.size / 8 ∧ i = .int .i64 ((8 * j : Nat) : Int) ∧ J ((eightL s).take j) wr ∧ KB Bs W wr) (fun i _ => s.size - (intOf i).toNat)
 case atStart => exact ⟨0, Nat.zero_le _, rfl, h0, KB.refl _ _⟩
 case round =>
  obtain ⟨j, hj, rfl, hJs, hnx⟩ := hrel
  have c0 : wr.cell? ⟨Bs, 0, none⟩ = some (.string s) := cCc (hnx _ hBs) 0
  by_cases hlt : j < s.size / 8
  ·have hx := eightL_at s j hlt
   have hle : 8 * j + 8 ≤ s.size := by omega
   obtain ⟨fn, tmps, assign, body, hy, hR⟩ := hY _ (chunkN s j, false) _ hJs (by rw [List.length_take, HO.out]; omega)
   have HX := Lib.hid hx
   have e8 : (s.extract (8 * j) (8 * j + 8)).size = 8 := by simp; omega
   have HC := number_sip (s.extract (8 * j) (8 * j + 8)) wr (by omega)
   rw [e8] at HC
   have hge : (8 : Int) ≤ (s.size : Int) - 8 * (j : Int) := by omega
   have HK : Hid (∀ W3, KB Bs wr W3 → KB Bs W W3) := fun W3 h => hnx.trans h
   have HP : Hid ((eightL s).take j ++ [(chunkN s j, false)] <+: eightL s) := by rw [Hid, ← take_snoc' HX.out]; exact List.take_prefix _ _
   unfold chunkN at hy
   dsimp only at hy
   obtain ⟨t, ht⟩ : ∃ t, s.extract (8 * j) (8 * j + 8) = t := ⟨_, rfl⟩
   rw [ht] at HC hy
   clear hx e8
   gi_wp2_with fail
   refine ⟨trivial, (callsIn_wide.2 HC).mono ?_⟩
   rintro e w5 ⟨rfl, rfl⟩
   gi_wp2_with fail
   refine hR.mono ?_
   rintro e W3 (⟨rfl, hJ3, hk3⟩ | ⟨rfl, hJx3⟩)
   ·gi_wp2_with fail
    go_roundw
    case rel => exact ⟨j + 1, by omega, by go_num, by rw [take_snoc' HX.out]; exact hJ3, HK.out _ hk3⟩
    case measure => simp [intOf]; omega
   ·gi_wp2_with fail
    refine bodyPost_ret (results_none rfl _ _ _) rfl ?_
    exact ⟨⟨_, rfl⟩, .inr ⟨_, HP.out, hJx3⟩⟩
  ·obtain rfl : j = s.size / 8 := by omega
   have hx := eightL_end s
   obtain ⟨fn, tmps, assign, body, hy, hR⟩ := hY _ (lastN8 s, true) _ (hJ _ _ _ none hJs (show wr.grownBy wr.drew none from ⟨rfl, rfl, rfl, Nat.le_refl _, fun _ _ _ => rfl⟩) (fun r e => by cases e)) (by rw [List.length_take, HO.out]; omega)
   have HC := Lib.hid (fun W => number_sip (s.extract (8 * (s.size / 8)) s.size) W (by simp; omega))
   have HT : Hid ((eightL s).take (s.size / 8) ++ [(lastN8 s, true)] = eightL s) := by rw [Hid, ← take_snoc' hx, List.take_of_length_le (by rw [HO.out]; exact Nat.le_refl _)]
   rw [HT.out] at hR
   have finT : Hid (∀ W3, J (eightL s) W3 → (∃ v, Ending.returned (Value.tuple #[]) = Ending.returned v) ∧ ((∃ ys, ys = eightL s ∧ J ys W3) ∨ ∃ pre, pre <+: eightL s ∧ Jx pre W3)) := fun W3 h => ⟨⟨_, rfl⟩, .inl ⟨_, rfl, h⟩⟩
   have finF : Hid (∀ W3, Jx (eightL s) W3 → (∃ v, Ending.returned (Value.tuple #[]) = Ending.returned v) ∧ ((∃ ys, ys = eightL s ∧ J ys W3) ∨ ∃ pre, pre <+: eightL s ∧ Jx pre W3)) := fun W3 h => ⟨⟨_, rfl⟩, .inr ⟨_, List.prefix_refl _, h⟩⟩
   unfold lastN8 at hy
   dsimp only at hy
   obtain ⟨t, ht⟩ : ∃ t, s.extract (8 * (s.size / 8)) s.size = t := ⟨_, rfl⟩
   rw [ht] at HC hy
   obtain ⟨q, hq⟩ : ∃ q, s.size / 8 = q := ⟨_, rfl⟩
   have h1 : 8 * q ≤ s.size := by omega
   have hge : ¬ (8 : Int) ≤ (s.size : Int) - 8 * (q : Int) := by omega
   have hz1 : (0 : Int) ≤ 8 * (q : Int) := by omega
   have hz2 : 8 * (q : Int) ≤ (s.size : Int) := by omega
   have hz3 : (8 * (q : Int)).toNat = 8 * q := by omega
   rw [hq] at ht ⊢
   clear hx hJs HT hlt hj hq
   obtain ⟨n, hn⟩ : ∃ n, numK t t.size = n := ⟨_, rfl⟩
   rw [hn] at HC hy
   clear hn
   gi_wp2_with fail
   refine wpIn_region_any (by kernel_rfl) ?_
   change wpAnyIn _ _ _ _ _ _ _ _ _ (World.drew _)
   refine wpAnyIn_take (i := 0) (v := ?_) rfl rfl (by kernel_rfl) (by kernel_rfl) (by kernel_rfl) (fun _ _ _ h => h) ⟨Or.inl ⟨by rfl, ?_⟩, fun _ => rfl⟩ ?_
   rotate_left
   ·intro w; go_simp; with_reducible rfl
   refine wpAnyIn_take (i := 2) (v := ?_) rfl rfl (by kernel_rfl) (by kernel_rfl) (by kernel_rfl) (fun _ _ _ h => h) ⟨Or.inl ⟨by rfl, ?_⟩, fun _ => rfl⟩ ?_
   rotate_left
   ·intro w; go_simp; with_reducible rfl
   refine wpAnyIn_ready (rs := [1, 5]) (by kernel_rfl) (by simp) ?_
   refine AllReadyIn.cons rfl (fun K hK => ?_) ?_
   ·go_simp
    refine hK _ _ ?_
    clear hK K
    refine wpAnyIn_take (i := 3) (v := ?_) rfl rfl (by kernel_rfl) (by kernel_rfl) (by kernel_rfl) (fun _ _ _ h => h) ⟨Or.inl ⟨by rfl, ?_⟩, fun _ => rfl⟩ ?_
    rotate_left
    ·intro w; go_simp; with_reducible rfl
    refine wpAnyIn_ready (rs := [4, 5]) (by kernel_rfl) (by simp) ?_
    refine AllReadyIn.cons rfl (fun K hK => ?_) ?_
    ·go_simp
     refine ⟨trivial, (callsIn_wide.2 (HC.out _)).mono ?_⟩
     rintro e w5 ⟨rfl, rfl⟩
     refine hK _ _ ?_
     clear hK K
     refine wpAnyIn_ready (rs := [5]) (by kernel_rfl) (by simp) ?_
     refine AllReadyIn.cons rfl (fun K hK => ?_) ?_
     ·go_simp
      refine hK _ _ ?_
      clear hK K
      refine wpAnyIn_take (i := 6) (v := ?_) rfl rfl (by kernel_rfl) (by kernel_rfl) (by kernel_rfl) (fun _ _ _ h => h) ⟨Or.inl ⟨by rfl, ?_⟩, fun _ => rfl⟩ ?_
      rotate_left
      ·intro w; go_simp; with_reducible rfl
      refine wpAnyIn_take (i := 7) (v := ?_) rfl rfl (by kernel_rfl) (by kernel_rfl) (by kernel_rfl) (fun _ _ _ h => h) ⟨Or.inl ⟨by rfl, ?_⟩, fun _ => rfl⟩ ?_
      rotate_left
      ·intro w; go_simp; with_reducible rfl
      refine wpAnyIn_take (i := 8) (v := ?_) rfl rfl (by kernel_rfl) (by kernel_rfl) (by kernel_rfl) (fun _ _ _ h => h) ⟨Or.inl ⟨by rfl, ?_⟩, fun _ => rfl⟩ ?_
      rotate_left
      ·intro w; go_simp; with_reducible rfl
      refine wpAnyIn_take (i := 9) (v := ?_) rfl rfl (by kernel_rfl) (by kernel_rfl) (by kernel_rfl) (fun _ _ _ h => h) ⟨Or.inl ⟨by rfl, ?_⟩, fun _ => rfl⟩ ?_
      rotate_left
      ·intro w; go_simp; with_reducible rfl
      refine wpAnyIn_ready (rs := [10]) (by kernel_rfl) (by simp) ?_
      refine AllReadyIn.cons rfl (fun K hK => ?_) ?_
      ·go_simp
       refine hR.mono ?_
       rintro e W3 (⟨rfl, hJ3, hk3⟩ | ⟨rfl, hJx3⟩)
       ·refine hK _ _ ?_
        clear hK K
        refine wpAnyIn_done (by kernel_rfl) ?_ _
        gi_wp2
        go_end0
        exact finT.out W3 hJ3
       ·refine hK _ _ ?_
        clear hK K
        refine wpAnyIn_done (by kernel_rfl) ?_ _
        gi_wp2
        go_end0
        exact finF.out W3 hJx3
      exact AllReadyIn.nil
     exact AllReadyIn.nil
    refine AllReadyIn.cons rfl (fun K hK => ?_) ?_
    ·go_simp
     refine hK _ _ ?_
     clear hK K
     refine wpAnyIn_take (i := 6) (v := ?_) rfl rfl (by kernel_rfl) (by kernel_rfl) (by kernel_rfl) (fun _ _ _ h => h) ⟨Or.inl ⟨by rfl, ?_⟩, fun _ => rfl⟩ ?_
     rotate_left
     ·intro w; go_simp; with_reducible rfl
     refine wpAnyIn_take (i := 7) (v := ?_) rfl rfl (by kernel_rfl) (by kernel_rfl) (by kernel_rfl) (fun _ _ _ h => h) ⟨Or.inl ⟨by rfl, ?_⟩, fun _ => rfl⟩ ?_
     rotate_left
     ·intro w; go_simp; with_reducible rfl
     refine wpAnyIn_take (i := 8) (v := ?_) rfl rfl (by kernel_rfl) (by kernel_rfl) (by kernel_rfl) (fun _ _ _ h => h) ⟨Or.inl ⟨by rfl, ?_⟩, fun _ => rfl⟩ ?_
     rotate_left
     ·intro w; go_simp; with_reducible rfl
     refine wpAnyIn_ready (rs := [4]) (by kernel_rfl) (by simp) ?_
     refine AllReadyIn.cons rfl (fun K hK => ?_) ?_
     ·go_simp
      refine ⟨trivial, (callsIn_wide.2 (HC.out _)).mono ?_⟩
      rintro e w5 ⟨rfl, rfl⟩
      refine hK _ _ ?_
      clear hK K
      refine wpAnyIn_take (i := 9) (v := ?_) rfl rfl (by kernel_rfl) (by kernel_rfl) (by kernel_rfl) (fun _ _ _ h => h) ⟨Or.inl ⟨by rfl, ?_⟩, fun _ => rfl⟩ ?_
      rotate_left
      ·intro w; go_simp; with_reducible rfl
      refine wpAnyIn_ready (rs := [10]) (by kernel_rfl) (by simp) ?_
      refine AllReadyIn.cons rfl (fun K hK => ?_) ?_
      ·go_simp
       refine hR.mono ?_
       rintro e W3 (⟨rfl, hJ3, hk3⟩ | ⟨rfl, hJx3⟩)
       ·refine hK _ _ ?_
        clear hK K
        refine wpAnyIn_done (by kernel_rfl) ?_ _
        gi_wp2
        go_end0
        exact finT.out W3 hJ3
       ·refine hK _ _ ?_
        clear hK K
        refine wpAnyIn_done (by kernel_rfl) ?_ _
        gi_wp2
        go_end0
        exact finF.out W3 hJx3
      exact AllReadyIn.nil
     exact AllReadyIn.nil
    exact AllReadyIn.nil
   refine AllReadyIn.cons rfl (fun K hK => ?_) ?_
   ·go_simp
    refine hK _ _ ?_
    clear hK K
    refine wpAnyIn_take (i := 6) (v := ?_) rfl rfl (by kernel_rfl) (by kernel_rfl) (by kernel_rfl) (fun _ _ _ h => h) ⟨Or.inl ⟨by rfl, ?_⟩, fun _ => rfl⟩ ?_
    rotate_left
    ·intro w; go_simp; with_reducible rfl
    refine wpAnyIn_take (i := 7) (v := ?_) rfl rfl (by kernel_rfl) (by kernel_rfl) (by kernel_rfl) (fun _ _ _ h => h) ⟨Or.inl ⟨by rfl, ?_⟩, fun _ => rfl⟩ ?_
    rotate_left
    ·intro w; go_simp; with_reducible rfl
    refine wpAnyIn_take (i := 8) (v := ?_) rfl rfl (by kernel_rfl) (by kernel_rfl) (by kernel_rfl) (fun _ _ _ h => h) ⟨Or.inl ⟨by rfl, ?_⟩, fun _ => rfl⟩ ?_
    rotate_left
    ·intro w; go_simp; with_reducible rfl
    refine wpAnyIn_ready (rs := [1]) (by kernel_rfl) (by simp) ?_
    refine AllReadyIn.cons rfl (fun K hK => ?_) ?_
    ·go_simp
     refine hK _ _ ?_
     clear hK K
     refine wpAnyIn_take (i := 3) (v := ?_) rfl rfl (by kernel_rfl) (by kernel_rfl) (by kernel_rfl) (fun _ _ _ h => h) ⟨Or.inl ⟨by rfl, ?_⟩, fun _ => rfl⟩ ?_
     rotate_left
     ·intro w; go_simp; with_reducible rfl
     refine wpAnyIn_ready (rs := [4]) (by kernel_rfl) (by simp) ?_
     refine AllReadyIn.cons rfl (fun K hK => ?_) ?_
     ·go_simp
      refine ⟨trivial, (callsIn_wide.2 (HC.out _)).mono ?_⟩
      rintro e w5 ⟨rfl, rfl⟩
      refine hK _ _ ?_
      clear hK K
      refine wpAnyIn_take (i := 9) (v := ?_) rfl rfl (by kernel_rfl) (by kernel_rfl) (by kernel_rfl) (fun _ _ _ h => h) ⟨Or.inl ⟨by rfl, ?_⟩, fun _ => rfl⟩ ?_
      rotate_left
      ·intro w; go_simp; with_reducible rfl
      refine wpAnyIn_ready (rs := [10]) (by kernel_rfl) (by simp) ?_
      refine AllReadyIn.cons rfl (fun K hK => ?_) ?_
      ·go_simp
       refine hR.mono ?_
       rintro e W3 (⟨rfl, hJ3, hk3⟩ | ⟨rfl, hJx3⟩)
       ·refine hK _ _ ?_
        clear hK K
        refine wpAnyIn_done (by kernel_rfl) ?_ _
        gi_wp2
        go_end0
        exact finT.out W3 hJ3
       ·refine hK _ _ ?_
        clear hK K
        refine wpAnyIn_done (by kernel_rfl) ?_ _
        gi_wp2
        go_end0
        exact finF.out W3 hJx3
      exact AllReadyIn.nil
     exact AllReadyIn.nil
    exact AllReadyIn.nil
   exact AllReadyIn.nil
theorem eights_seq (Bs : Nat) (s : ByteArray) (hreach : s.size < 4294967281) (w : World) (hc : w.heap[Bs]? = some (.cells #[.string s] 9 (0, 0))) :
  SeqStopsK Fence.wide 8 Tryz.prog 166 #[.pointer (some ⟨Bs, 0, none⟩)] (fun x : Int × Bool => #[.int .u64 x.1, .bool x.2]) (KB Bs) (fun ys => ys = eightL s) (fun pre => pre <+: eightL s) (eightL s).length w := fun l J Jx W hW hJ _ hY h0 =>
 eights1 l Bs s hreach J Jx hY W hJ (known hW (Nat.le_refl _) hc) h0
end Go.Proofs.YtpklkhgnjbopnaaGreatDoor
namespace Go.Proofs.YtpklkhgnjbopnaaGreatDoor
open Go Go.RowKit Go.Shelf
attribute [local go_sem] Oper.semAt_some
def endV (v : V4) : V4 := rndN 4 { v with c := xorI v.c 255 }
def foldV (A B : Int) (l : List (Int × Bool)) : V4 := (l.map (·.1)).foldl takeV (beginV A B)
def sipS (A B : Int) (s : ByteArray) : Int := mixV (endV (foldV A B (eightL s)))
theorem foldV_snoc (A B : Int) (l : List (Int × Bool)) (x : Int × Bool) : foldV A B (l ++ [x]) = takeV (foldV A B l) x.1 := by unfold foldV; rw [List.map_append, List.foldl_append]; rfl
theorem foldl_takeV_ok : ∀ (l : List Int) (v : V4), v.Ok → (l.foldl takeV v).Ok
 | [], _, h => h
 | _ :: l, _, h => foldl_takeV_ok l _ (takeV_ok h)
theorem foldV_ok (A B : Int) (l : List (Int × Bool)) : (foldV A B l).Ok := foldl_takeV_ok _ _ (beginV_ok A B)
theorem OnlyB.keeps {b B : Nat} {W W' : World} {c : Array Value} {t : TypeId} {fz : Nat × Nat} (h : OnlyB b W W') (hb : W.heap[b]? = some (.cells c t fz)) : KeepsFrom B W W' :=
 ⟨h.below.size, fun k o _ hk ho => by
  refine (h.other k (Array.getElem?_eq_some_iff.1 hk).1 (fun e => ?_)).trans hk
  subst e
  rw [hb] at hk
  injection hk with hk
  subst hk
  cases ho⟩
theorem eightL_true {s : ByteArray} {pr : List (Int × Bool)} {x : Int × Bool} (h : pr ++ [x] <+: eightL s) (hx : x.2 = true) : pr ++ [x] = eightL s := by
 have h1 : (eightL s)[pr.length]? = some x := by
  obtain ⟨r, hr⟩ := h
  rw [← hr, List.append_assoc]; simp
 have h2 := (List.getElem?_eq_some_iff.1 h1).1
 rw [eightL_len] at h2
 by_cases h3 : pr.length < s.size / 8
 ·rw [eightL_at s _ h3] at h1
  injection h1 with h1
  rw [← h1] at hx
  cases hx
 ·exact h.eq_of_length (by rw [eightL_len, List.length_append]; simp; omega)
set_option maxRecDepth 100000 in
set_option maxHeartbeats 2000000 in
theorem sip_Sum_any (A B : Int) (s : ByteArray) (w : World) (hs : s.size < 4294967281) : CR 110 #[.agg #[.int .u64 A, .int .u64 B], .string s] w (.int .u64 (sipS A B s)) := by
 obtain ⟨Wa, hWa, hXa, hBa, hsa⟩ := boxes1 w #[.int .u64 A, .int .u64 B] 24
 obtain ⟨a0, a1⟩ := cl2 hXa
 obtain ⟨Wb, hWb, hXb, hBb, hsb⟩ := boxes1 Wa #[.int .u64 8317987319222330741, .int .u64 7237128888997146477, .int .u64 7816392313619706465, .int .u64 8387220255154660723] 22
 rw [hsa] at hXb hBb hsb
 have hG := begin_any A B (w.heap.size + 1) Wb hXb
 have hVo := beginV_ok A B
 have HF : Hid (beginV A B = foldV A B []) := rfl
 obtain ⟨v0, hv0⟩ : ∃ v, beginV A B = v := ⟨_, rfl⟩
 rw [hv0] at hG hVo HF
 clear hv0
 refine calls_marks Tryz.func110 rfl ?_
 simp only [Tryz.ntmps110, List.size_toArray, List.length_cons, List.length_nil, Nat.reduceAdd, Nat.reduceSub, Array.replicate_succ, Array.replicate_zero, List.push_toArray, List.append_toArray, List.nil_append, List.cons_append]
 go_wp2_with fail
 go_step3
 go_wp2_with fail
 refine hG.mono ?_
 rintro e w1 ⟨rfl, hb1⟩
 obtain ⟨W2, hW2, hX2, hB2, hs2⟩ := boxes1 w1 v0.vals 267
 have hBw1 : Below w.heap.size w w1 := (hBa.trans (hBb.mono (by omega))).trans (hb1.mono (by omega))
 have hz1 := hb1.size
 have hBw2 : Below w.heap.size w W2 := hBw1.trans (hB2.mono (by omega))
 unfold V4.vals at *
 clear hG hb1 hBb hBa hXb hXa a0 a1 hWa hWb
 go_wp2_with fail
 have hX2' := Lib.hid hX2
 apply wp_label
 go_wp2_with (go_at_call 137; refine (eights_any _ _).mono ?_; rintro e w2 ⟨rfl, rfl⟩)
 obtain ⟨W3, hW3, hX3, hB3, hs3⟩ := boxes1 W2 #[.string s] 9
 rw [hs2] at hX3 hB3 hs3
 rw [hW3]
 have hseq := eights_seq (w1.heap.size + 1) s hs W3 hX3
 have hX32 : W3.heap[w1.heap.size]? = some (.cells (foldV A B []).vals 267 (0, 0)) := by rw [← HF.out]; exact (hB3.block _ (by omega)).trans hX2
 have hBw : Below w.heap.size w W3 := hBw2.trans (hB3.mono (by omega))
 have hw1 : w.heap.size ≤ w1.heap.size := hBw1.size
 have HS := Lib.hid hs
 obtain ⟨b, hb⟩ : ∃ b, w1.heap.size = b := ⟨_, rfl⟩
 rw [hb] at hX3 hB3 hs3 hseq hX32 hw1 ⊢
 clear hX2 hX2' hB2 hs2 hBw1 hz1 hBw2 hW2 hW3 hX3 hB3 hsa hsb hb hs hVo
 refine wp_range_brk2 (b + 1) 6 7 (fun x : Int × Bool => .int .u64 x.1) (fun x : Int × Bool => .bool x.2) (gf := 166) (lb := #[.pointer (some ⟨b + 1, 0, none⟩)]) rfl (enters_of Tryz.func166 (by kernel_rfl) rfl)
  hseq (by omega) (Below.refl _ _) (fun _ => rfl)
  (fun pre W => W.heap[b]? = some (.cells (foldV A B pre).vals 267 (0, 0)) ∧ Below w.heap.size w W)
  (fun pre W => (∃ pr x, pre = pr ++ [x] ∧ x.2 = true) ∧ W.heap[b]? = some (.cells (foldV A B pre).vals 267 (0, 0)) ∧ Below w.heap.size w W)
  ((ownCells _ _ (fun pre => (foldV A B pre).vals) _).and (ownFrom_below (Nat.le_refl _) hBw.size))
  ((ownFrom_pure _ _).and ((ownCells _ _ (fun pre => (foldV A B pre).vals) _).and (ownFrom_below (Nat.le_refl _) hBw.size)))
  ⟨hX32, hBw⟩ ?assign ?body ?fin
 case assign =>
  rintro l pre x W K hI hK
  simp only [List.zip_toArray, List.zip_cons_cons, List.zip_nil_right, List.size_toArray, List.foldl_toArray', List.foldl_cons, List.foldl_nil, List.setIfInBounds_toArray, List.set_cons_succ, List.set_cons_zero] at hK ⊢
  gi_wp2
  exact hI
 case body =>
  rintro l pre x W ⟨hx1, hB⟩ hlt
  simp only [List.zip_toArray, List.zip_cons_cons, List.zip_nil_right, List.size_toArray, List.foldl_toArray', List.foldl_cons, List.foldl_nil, List.setIfInBounds_toArray, List.set_cons_succ, List.set_cons_zero]
  have hA : NumAt W b (foldV A B pre) := hx1
  have HT := Lib.hid (take_any b x.1 _ W hA (foldV_ok A B pre))
  have HN : Hid (takeV (foldV A B pre) x.1 = foldV A B (pre ++ [x])) := (foldV_snoc A B pre x).symm
  have HK : Hid (∀ W', OnlyB b W W' → KeepsFrom W3.heap.size W W' ∧ KB (b + 1) W W' ∧ Below w.heap.size w W') := fun W' h => ⟨h.keeps hx1, fun o ho => (h.other _ (Array.getElem?_eq_some_iff.1 ho).1 (by omega)).trans ho, hB.trans (h.below.mono hw1)⟩
  have hbW : b < W.heap.size := hA.lt
  clear hx1 hA
  cases hx : x.2 with
  | true =>
   have HX := Lib.hid hx
   clear hx
   gi_wp2_with fail
   refine ⟨trivial, (callsIn_wide.2 HT.out).mono ?_⟩
   rintro e w4 ⟨rfl, hA4, hO4⟩
   rw [HN.out] at hA4
   obtain ⟨k1, -, k3⟩ := HK.out _ hO4
   gi_wp2_with fail
   exact ⟨k1, rfl, ⟨pre, x, rfl, HX.out⟩, hA4, k3⟩
  | false =>
   clear hx
   gi_wp2_with fail
   refine ⟨trivial, (callsIn_wide.2 HT.out).mono ?_⟩
   rintro e w4 ⟨rfl, hA4, hO4⟩
   rw [HN.out] at hA4
   obtain ⟨k1, k2, k3⟩ := HK.out _ hO4
   gi_wp2_with fail
   exact ⟨k1, k2, hA4, k3⟩
 case fin =>
  intro D W hD hI hK
  have hI2 : W.heap[b]? = some (.cells (foldV A B (eightL s)).vals 267 (0, 0)) ∧ Below w.heap.size w W := by
   rcases hI with h | ⟨pre, hp, ⟨pr, x, rfl, hx⟩, h⟩
   ·exact h
   ·rw [eightL_true hp hx] at h
    exact h
  have hDs : b + 1 < D := by omega
  obtain ⟨hA, hB⟩ := hI2
  have hA : NumAt W b (foldV A B (eightL s)) := hA
  have ho := foldV_ok A B (eightL s)
  have HE : Hid (sipS A B s = mixV (rndN 4 { foldV A B (eightL s) with c := xorI (foldV A B (eightL s)).c 255 })) := rfl
  obtain ⟨u, hu⟩ : ∃ u, foldV A B (eightL s) = u := ⟨_, rfl⟩
  rw [hu] at hA ho HE
  clear hI hu hX32 hseq
  obtain ⟨V, hV, hAV, hOV⟩ := NumAt.set (i := 2) (x := .int .u64 (xorI u.c 255)) (u := { u with c := xorI u.c 255 }) hA rfl
  obtain ⟨c0, c1, c2, c3, -, -, f2, -⟩ := hA.cells
  have hKV : V.heap[D]? = some (.deferred (some [])) := (hOV.other _ (Array.getElem?_eq_some_iff.1 hK).1 (by omega)).trans hK
  have HR := Lib.hid (rounds_any b 4 { u with c := xorI u.c 255 } V hAV ⟨ho.1, ho.2.1, u64_bits (.inl rfl), ho.2.2.2⟩ (by decide))
  have HB := Lib.hid (hB.trans (hOV.below.mono hw1))
  obtain ⟨z, hz⟩ : ∃ z, rndN 4 { u with c := xorI u.c 255 } = z := ⟨_, rfl⟩
  rw [hz] at HR HE
  have hDV : D < V.heap.size := (Array.getElem?_eq_some_iff.1 hKV).1
  clear hz hA ho hAV hOV hB hK
  go_wp2_with (go_at_call 139; refine HR.out.mono ?_; rintro e w5 ⟨rfl, hA5, hO5⟩)
  have HM := Lib.hid (mixed_any b 4 z w5 hA5)
  have hK5 : w5.heap[D]? = some (.deferred (some [])) := (hO5.other _ hDV (by omega)).trans hKV
  have HB5 := Lib.hid (HB.out.trans (hO5.below.mono hw1))
  have hz5 := hO5.below.size
  clear hA5 hO5 hKV
  go_wp2_with (go_at_call 140; refine HM.out.mono ?_; rintro e w6 ⟨rfl, hb6⟩)
  rw [Exit.noGoto_ret]
  have hK6 := (hb6.block _ (by omega)).trans hK5
  refine marks_ret1 hK6 (results_tmp rfl _ _ _) ⟨by rw [HE.out]; rfl, ?_⟩
  exact bPutD (HB5.out.trans (hb6.mono HB5.out.size)) (by omega) hK6
end Go.Proofs.YtpklkhgnjbopnaaGreatDoor
