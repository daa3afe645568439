/- Maps whose keys are integers written out: a new map that is filled, a look-up in it. Of no program. -/
import Derived.Test.YtpnlmfilmbodfaaGreatDoorVH0
import Derived.WideMake
namespace Go.Proofs.YtpnlmfilmbodfaaGreatDoor
open Go Go.RowKit
theorem alloc_put (w : World) (o o' : Obj) : { w.alloc o with heap := (w.alloc o).heap.setIfInBounds w.heap.size o' } = w.alloc o' := by
  have : (w.heap.push o).setIfInBounds w.heap.size o' = w.heap.push o' := by
    apply Array.ext
    · simp
    · intro i h1 h2
      rw [Array.getElem_setIfInBounds (by simpa using h2)]
      by_cases hi : w.heap.size = i
      · subst hi; simp
      · have h3 : i < w.heap.size := by simp at h2; omega
        simp [hi, Array.getElem_push_lt h3]
  unfold World.alloc
  simp only [this]
theorem mapUpd_alloc {P : Program} (w : World) {mty kt et : TypeId} {ik : IntKind} {clock : Nat} {es : Array MapEntry} {n : Int} (val : Value) (hm : P.underlying mty = some (.map kt et)) (hk : P.underlying kt = some (.int ik))
    (hf : Instr.findNow (.int ik) (.int ik n) es.toList 0 = some none) :
    (Instr.mapUpdate mty (.map (some w.heap.size)) (.int ik n) val).run P (w.alloc (.map es clock)) = .ok () (w.alloc (.map (es.push { key := .int ik n, val := val, born := clock }) (clock + 1))) := by
  have hb : (w.alloc (.map es clock)).heap[w.heap.size]? = some (.map es clock) := World.alloc_heap_new _ _
  have hc : (Instr.checkKey false 10000 kt (.int ik n)).run P (w.alloc (.map es clock)) = .ok () (w.alloc (.map es clock)) := MapKept.run_checkKey (k := .int ik n) hk (by simp [MapKept.IsKey]) false 9999
  simp [Instr.mapUpdate, run_underlying hm, MapKept.run_getObj_map hb, hc, MapKept.run_findKey hk hf, MapKept.run_setObj_map _ hb, Result.andThen]
  exact alloc_put w _ _
theorem look_int {P : Program} {w : World} {mty kt et : TypeId} {ik : IntKind} {r clock : Nat} {es : Array MapEntry} {n : Int} {i : Nat} {v : Value} (hm : P.underlying mty = some (.map kt et)) (hk : P.underlying kt = some (.int ik))
    (hb : w.heap[r]? = some (.map es clock)) (hf : Instr.findNow (.int ik) (.int ik n) es.toList 0 = some (some (i, v))) :
    (Instr.lookup mty (.map (some r)) (.int ik n) true).run P w = .ok (.tuple #[v, .bool true]) w ∧ (Instr.lookup mty (.map (some r)) (.int ik n) false).run P w = .ok v w := by
  have hc : ∀ b, (Instr.checkKey b 10000 kt (.int ik n)).run P w = .ok () w := fun b => MapKept.run_checkKey (k := .int ik n) hk (by simp [MapKept.IsKey]) b 9999
  constructor <;> simp [Instr.lookup, run_underlying hm, MapKept.run_getObj_map hb, hc, MapKept.run_findKey hk hf, Result.andThen]
theorem look_int_none {P : Program} {w : World} {mty kt et : TypeId} {ik : IntKind} {r clock : Nat} {es : Array MapEntry} {n : Int} {z : Value} (hm : P.underlying mty = some (.map kt et)) (hk : P.underlying kt = some (.int ik))
    (hb : w.heap[r]? = some (.map es clock)) (hz : (zeroValue et).run P w = .ok z w) (hf : Instr.findNow (.int ik) (.int ik n) es.toList 0 = some none) :
    (Instr.lookup mty (.map (some r)) (.int ik n) true).run P w = .ok (.tuple #[z, .bool false]) w := by
  have hc : ∀ b, (Instr.checkKey b 10000 kt (.int ik n)).run P w = .ok () w := fun b => MapKept.run_checkKey (k := .int ik n) hk (by simp [MapKept.IsKey]) b 9999
  simp [Instr.lookup, run_underlying hm, MapKept.run_getObj_map hb, hc, MapKept.run_findKey hk hf, hz, Result.andThen]
end Go.Proofs.YtpnlmfilmbodfaaGreatDoor
