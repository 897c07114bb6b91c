/- Runs of the map operations on a map whose entries are known one by one; no program is named. Condition: the key's type is an integer type or string, so that a look-up asks nothing of memory. -/
import Derived.WalkKit
namespace Go.Proofs.YthpanohdfelkhaaGreatDoor
open Go.RowKit
section
variable {P : Program}
/-- kinds of keys that are compared without asking -/
def plainKey : TypeDesc → Value → Bool
  | .int k, .int k' _ => k == k'
  | .string, .string _ => true
  | _, _ => false
theorem run_checkKey (b : Bool) (t : TypeId) (kd : TypeDesc) (v : Value) (w : World) (ht : P.underlying t = some kd) (hk : plainKey kd v = true) :
    (Instr.checkKey b 10000 t v).run P w = .ok () w := by
  unfold Instr.checkKey
  cases kd <;> cases v <;> simp_all [plainKey, run_underlying ht]
theorem run_findKey (t : TypeId) (kd : TypeDesc) (v : Value) (es : List MapEntry) (r : Option (Nat × Value)) (w : World) (ht : P.underlying t = some kd) (hf : Instr.findNow kd v es 0 = some r) :
    (Instr.findKey t v es).run P w = .ok r w := by
  simp [Instr.findKey, run_underlying ht, hf]
theorem getObj_of {w : World} {r : Nat} {es : Array MapEntry} {clock : Nat} (hb : w.heap[r]? = some (.map es clock)) : (getObj r).run P w = .ok (.map es clock) w := by
  simp only [getObj, Sem.run, hb]
theorem setObj_of {w : World} {r : Nat} {es : Array MapEntry} {clock : Nat} {o : Obj} (hb : w.heap[r]? = some (.map es clock)) : (setObj r o).run P w = .ok () { w with heap := w.heap.setIfInBounds r o } := by
  simp only [setObj, Sem.run, hb]
theorem heap_new (w : World) (o : Obj) : (w.alloc o).heap[w.heap.size]? = some o := by
  show (w.heap.push o)[w.heap.size]? = _
  simp
/-- a store under a new key -/
theorem run_mapUpdate_new (t kt et : TypeId) (kd : TypeDesc) (r : Nat) (es : Array MapEntry) (clock : Nat) (k v : Value) (w : World)
    (ht : P.underlying t = some (.map kt et)) (hkt : P.underlying kt = some kd) (hk : plainKey kd k = true) (hb : w.heap[r]? = some (.map es clock)) (hf : Instr.findNow kd k es.toList 0 = some none) :
    (Instr.mapUpdate t (.map (some r)) k v).run P w = .ok () { w with heap := w.heap.setIfInBounds r (.map (es.push { key := k, val := v, born := clock }) (clock + 1)) } := by
  simp [Instr.mapUpdate, run_underlying ht, getObj_of hb, run_checkKey false kt kd k w hkt hk, run_findKey kt kd k es.toList none w hkt hf, setObj_of hb]
theorem setBlock_alloc (w : World) (o o' : Obj) : { (w.alloc o) with heap := (w.alloc o).heap.setIfInBounds w.heap.size o' } = w.alloc o' := by
  cases w
  simp [World.alloc, -World.alloc_eq, Array.setIfInBounds, Array.set_push]
/-- into a map that has just been made -/
theorem run_mapUpdate_alloc (t kt et : TypeId) (kd : TypeDesc) (es : Array MapEntry) (clock : Nat) (k v : Value) (w : World)
    (ht : P.underlying t = some (.map kt et)) (hkt : P.underlying kt = some kd) (hk : plainKey kd k = true) (hf : Instr.findNow kd k es.toList 0 = some none) :
    (Instr.mapUpdate t (.map (some w.heap.size)) k v).run P (w.alloc (.map es clock)) = .ok () (w.alloc (.map (es.push { key := k, val := v, born := clock }) (clock + 1))) := by
  rw [run_mapUpdate_new t kt et kd w.heap.size es clock k v _ ht hkt hk (heap_new _ _) hf, setBlock_alloc]
/-- a look-up with 'ok' that hits -/
theorem run_lookup_hit (t kt et : TypeId) (kd : TypeDesc) (r i : Nat) (es : Array MapEntry) (clock : Nat) (k v : Value) (w : World)
    (ht : P.underlying t = some (.map kt et)) (hkt : P.underlying kt = some kd) (hk : plainKey kd k = true) (hb : w.heap[r]? = some (.map es clock)) (hf : Instr.findNow kd k es.toList 0 = some (some (i, v))) :
    (Instr.lookup t (.map (some r)) k true).run P w = .ok (.tuple #[v, .bool true]) w := by
  simp [Instr.lookup, run_underlying ht, getObj_of hb, run_checkKey _ kt kd k w hkt hk, run_findKey kt kd k es.toList _ w hkt hf]
theorem run_lookup_miss (t kt et : TypeId) (kd : TypeDesc) (r : Nat) (es : Array MapEntry) (clock : Nat) (k z : Value) (w : World)
    (ht : P.underlying t = some (.map kt et)) (hkt : P.underlying kt = some kd) (hk : plainKey kd k = true) (hb : w.heap[r]? = some (.map es clock)) (hf : Instr.findNow kd k es.toList 0 = some none) (hz : (zeroValue et).run P w = .ok z w) :
    (Instr.lookup t (.map (some r)) k true).run P w = .ok (.tuple #[z, .bool false]) w := by
  simp [Instr.lookup, run_underlying ht, getObj_of hb, run_checkKey _ kt kd k w hkt hk, run_findKey kt kd k es.toList _ w hkt hf, hz]
theorem run_lookup1_hit (t kt et : TypeId) (kd : TypeDesc) (r i : Nat) (es : Array MapEntry) (clock : Nat) (k v : Value) (w : World)
    (ht : P.underlying t = some (.map kt et)) (hkt : P.underlying kt = some kd) (hk : plainKey kd k = true) (hb : w.heap[r]? = some (.map es clock)) (hf : Instr.findNow kd k es.toList 0 = some (some (i, v))) :
    (Instr.lookup t (.map (some r)) k false).run P w = .ok v w := by
  simp [Instr.lookup, run_underlying ht, getObj_of hb, run_checkKey _ kt kd k w hkt hk, run_findKey kt kd k es.toList _ w hkt hf]
theorem run_lookup1_miss (t kt et : TypeId) (kd : TypeDesc) (r : Nat) (es : Array MapEntry) (clock : Nat) (k z : Value) (w : World)
    (ht : P.underlying t = some (.map kt et)) (hkt : P.underlying kt = some kd) (hk : plainKey kd k = true) (hb : w.heap[r]? = some (.map es clock)) (hf : Instr.findNow kd k es.toList 0 = some none) (hz : (zeroValue et).run P w = .ok z w) :
    (Instr.lookup t (.map (some r)) k false).run P w = .ok z w := by
  simp [Instr.lookup, run_underlying ht, getObj_of hb, run_checkKey _ kt kd k w hkt hk, run_findKey kt kd k es.toList _ w hkt hf, hz]
end
end Go.Proofs.YthpanohdfelkhaaGreatDoor
