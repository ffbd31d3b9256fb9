/- The program's verbs: a new map of seven functions, five of them closures over a number and a function. -/
import Derived.Test.YtpppfeldnbjdpaaGreatDoorB1
import Derived.WalkSmall
import Derived.Carry
set_option linter.unusedVariables false
namespace Go.Proofs.YtpppfeldnbjdpaaGreatDoor
open Go Go.RowKit

section
variable {P : Program}

/-- The world with another object in a block. -/
def World.putObj (w : World) (r : Nat) (o : Obj) : World := { w with heap := w.heap.setIfInBounds r o }

theorem putObj_at {w : World} {r : Nat} {o o0 : Obj} (h : w.heap[r]? = some o0) : (World.putObj w r o).heap[r]? = some o := by
  have hr : r < w.heap.size := by
    rcases Nat.lt_or_ge r w.heap.size with h1 | h1
    · exact h1
    · rw [Array.getElem?_eq_none h1] at h; cases h
  simp [World.putObj, hr]
theorem putObj_other {w : World} {r k : Nat} {o : Obj} (h : k ≠ r) : (World.putObj w r o).heap[k]? = w.heap[k]? := by
  simp [World.putObj, Array.getElem?_setIfInBounds, Ne.symm h]
theorem putObj_size {w : World} {r : Nat} {o : Obj} : (World.putObj w r o).heap.size = w.heap.size := by simp [World.putObj]

theorem run_checkKey_string {b : Bool} {kt : TypeId} {w : World} {key : ByteArray} (hk : P.underlying kt = some .string) (n : Nat) : (Instr.checkKey b (n + 1) kt (.string key)).run P w = .ok () w := by
  simp [Instr.checkKey, Sem.run_bind, run_underlying hk, Sem.run_pure]

theorem run_getObj {w : World} {r : Nat} {es : Array MapEntry} {clock : Nat} (h : w.heap[r]? = some (.map es clock)) : (getObj r).run P w = .ok (.map es clock) w := by
  simp [getObj, Sem.run, h]
theorem run_setObj {w : World} {r : Nat} {es : Array MapEntry} {clock : Nat} {o : Obj} (h : w.heap[r]? = some (.map es clock)) : (setObj r o).run P w = .ok () (World.putObj w r o) := by
  simp [setObj, Sem.run, h, World.putObj]
theorem run_findKey_now {kt : TypeId} {w : World} {key : ByteArray} {es : List MapEntry} {res : Option (Nat × Value)} (hk : P.underlying kt = some .string) (hn : Instr.findNow .string (.string key) es 0 = some res) :
    (Instr.findKey kt (.string key) es).run P w = .ok res w := by
  simp [Instr.findKey, Sem.run_bind, run_underlying hk, hn, Sem.run_pure]

theorem run_insert_new {t kt et : TypeId} {w : World} {r : Nat} {es : Array MapEntry} {clock : Nat} {key : ByteArray} {v : Value} (ht : P.underlying t = some (.map kt et)) (hk : P.underlying kt = some .string)
    (h : w.heap[r]? = some (.map es clock)) (hn : Instr.findNow .string (.string key) es.toList 0 = some none) :
    (Instr.mapUpdate t (.map (some r)) (.string key) v).run P w = .ok () (World.putObj w r (.map (es.push ⟨.string key, v, clock⟩) (clock + 1))) := by
  unfold Instr.mapUpdate
  simp only [Sem.run_bind, run_underlying ht, Result.andThen_ok, run_getObj h, run_checkKey_string hk 9999, run_findKey_now hk hn, run_setObj h]

theorem run_look_hit {t kt et : TypeId} {w : World} {r : Nat} {es : Array MapEntry} {clock i : Nat} {key : ByteArray} {v : Value} (ht : P.underlying t = some (.map kt et)) (hk : P.underlying kt = some .string)
    (h : w.heap[r]? = some (.map es clock)) (hn : Instr.findNow .string (.string key) es.toList 0 = some (some (i, v))) :
    (Instr.lookup t (.map (some r)) (.string key) true).run P w = .ok (.tuple #[v, .bool true]) w := by
  unfold Instr.lookup
  simp only [Sem.run_bind, run_underlying ht, Result.andThen_ok, run_getObj h, run_checkKey_string hk 9999, run_findKey_now hk hn, Sem.run_pure]
  rfl

theorem insert_new {ops : Array Oper} {rest : List Oper} {o : Oper} {a : Act} {w : World} {Q : Exit → Act → World → Prop} (hgd : o.guard = none) {t kt et : TypeId} {m k x : Operand} (ho : o.op = .insert t m k x)
    {r : Nat} {es : Array MapEntry} {clock : Nat} {key : ByteArray} {v : Value} (hm : a.eval m = .map (some r)) (hk : a.eval k = .string key) (hx : a.eval x = v) (ht : P.underlying t = some (.map kt et)) (hkt : P.underlying kt = some .string)
    (h : w.heap[r]? = some (.map es clock)) (hn : Instr.findNow .string (.string key) es.toList 0 = some none)
    (hh : wpList P ops Q rest (a.put o.dst undef) (World.putObj w r (.map (es.push ⟨.string key, v, clock⟩) (clock + 1)))) : wpList P ops Q (o :: rest) a w :=
  wpList_plain hgd fun K hK => by
    unfold Oper.wp execOp
    simp only [ho, hm, hk, hx, Sem.run_bind, run_insert_new ht hkt h hn, Result.andThen_ok]
    exact hK _ _ hh
end
end Go.Proofs.YtpppfeldnbjdpaaGreatDoor
