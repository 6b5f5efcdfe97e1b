import Derived.Test.YtfabgfenelaheaaNum
import Derived.Test.YtfabgfenelaheaaSpecM
import Derived.RegionTactic
import Derived.MapKept
import Derived.Carry
import Derived.Laws.EntriesVeiled
namespace Go.Proofs.Ytfabgfenelaheaa
open Go.RowKit

theorem ck (b : Bool) (n : Nat) (k : Int) (w : World) : (Instr.checkKey b (n + 1) 5 (.int .u8 k)).run Try.prog w = .ok () w := by
  rw [Instr.checkKey]
  simp [Sem.run_bind, run_underlying Try.underlying5, Result.andThen]

theorem run_ins (w : World) (r : Nat) (es : Array MapEntry) (clock : Nat) (k : Int) (val : Value) (hb : w.heap[r]? = some (.map es clock))
    (hf : Instr.findNow (.int .u8) (.int .u8 k) es.toList 0 = some none) :
    (Instr.mapUpdate 85 (.map (some r)) (.int .u8 k) val).run Try.prog w = .ok () { w with heap := w.heap.setIfInBounds r (.map (es.push { key := .int .u8 k, val := val, born := clock }) (clock + 1)) } := by
  have hck := ck false 9999 k
  simp only [Instr.mapUpdate, Sem.run_bind, run_underlying Try.underlying85, MapKept.run_getObj_map hb, Result.andThen]
  rw [hck]
  simp [MapKept.run_setObj_map _ hb, Result.andThen, Instr.findKey, run_underlying Try.underlying5, hf]

theorem run_look (w : World) (r : Nat) (es : Array MapEntry) (clock : Nat) (k : Int) (i : Nat) (v : Value) (hb : w.heap[r]? = some (.map es clock))
    (hf : Instr.findNow (.int .u8) (.int .u8 k) es.toList 0 = some (some (i, v))) :
    (Instr.lookup 85 (.map (some r)) (.int .u8 k) true).run Try.prog w = .ok (.tuple #[v, .bool true]) w := by
  have hck : ∀ w, (Instr.checkKey es.isEmpty 10000 5 (.int .u8 k)).run Try.prog w = .ok () w := ck es.isEmpty 9999 k
  simp only [Instr.lookup, Sem.run_bind, run_underlying Try.underlying85, MapKept.run_getObj_map hb, Result.andThen, Sem.run_pure]
  simp [hck, Result.andThen, Instr.findKey, run_underlying Try.underlying5, hf]

theorem run_look_no (w : World) (r : Nat) (es : Array MapEntry) (clock : Nat) (k : Int) (z : Value) (hb : w.heap[r]? = some (.map es clock))
    (hz : ∀ w, (zeroValue 83).run Try.prog w = .ok z w)
    (hf : Instr.findNow (.int .u8) (.int .u8 k) es.toList 0 = some none) :
    (Instr.lookup 85 (.map (some r)) (.int .u8 k) true).run Try.prog w = .ok (.tuple #[z, .bool false]) w := by
  have hck : ∀ w, (Instr.checkKey es.isEmpty 10000 5 (.int .u8 k)).run Try.prog w = .ok () w := ck es.isEmpty 9999 k
  simp only [Instr.lookup, Sem.run_bind, run_underlying Try.underlying85, MapKept.run_getObj_map hb, Result.andThen, Sem.run_pure]
  simp [hck, Result.andThen, Instr.findKey, run_underlying Try.underlying5, hf, hz]

theorem zeroK (w : World) : (zeroValue 83).run Try.prog w = .ok (.agg #[.nilFunc, .nilFunc, .nilFunc]) w := by kernel_rfl

end Go.Proofs.Ytfabgfenelaheaa
