/- Regions that draw their order and whose operations only read, or call what reads and makes memory: one walk in the order of the text, over the class of worlds that are as they were below the heap's end. -/
import Derived.Test.YtpppfeldnbjdpaaGreatDoorB0
import Derived.Deep.Quiet
import Derived.Deep.QuietTactic
import Derived.Deep.MidRow
import Derived.BigQuiet
import Derived.Shelf.Abstract
namespace Go.Proofs.YtpppfeldnbjdpaaGreatDoor
open Go Go.RowKit
variable {P : Program}

/-- As W was, below the end of W's heap. -/
def Kept (W w : World) : Prop := Below W.heap.size W w

theorem Kept.refl (W : World) : Kept W W := Below.refl _ _
theorem Kept.step {W w w' : World} (h : Kept W w) (hb : Below w.heap.size w w') : Kept W w' := h.trans (hb.mono h.size)
theorem Kept.cell {W w : World} (h : Kept W w) {b o : Nat} {v : Value} (hc : W.cell? ⟨b, o, none⟩ = some v) : w.cell? ⟨b, o, none⟩ = some v := by
  have hb : b < W.heap.size := World.block_lt_of_cell? W ⟨b, o, none⟩ hc
  exact (Below.cell h (p := ⟨b, o, none⟩) hb).trans hc
theorem Kept.at {W w : World} (h : Kept W w) {b : Nat} {ob : Obj} (hc : W.heap[b]? = some ob) : w.heap[b]? = some ob := by
  have hb : b < W.heap.size := by
    rcases Nat.lt_or_ge b W.heap.size with h1 | h1
    · exact h1
    · rw [Array.getElem?_eq_none h1] at hc; cases hc
  exact (Below.block h b hb).trans hc
theorem Kept.range {W w : World} (h : Kept W w) {b o : Nat} {cs : List Value} (hc : W.rangeAt b o cs) : w.rangeAt b o cs := fun j v hj => h.cell (hc j v hj)
theorem Kept.drewn (W : World) (n : Nat) : Kept W { W with drawn := n } := ⟨rfl, rfl, rfl, Nat.le_refl _, fun _ _ => rfl⟩

theorem region_kept {id : Nat} {Q : Exit → Act → World → Prop} {a : Act} {w : World} {l : List Oper} (hm : P.follows .mixedOrders = true) (hB : Region.lexB .any l.toArray = true)
    (h : wpQuiet P l.toArray (Kept w) (fun a' => ∀ w', Kept w w' → Q .normal a' w') l a) : (Code.region id l.toArray true).wp P Q a w :=
  wp_region_quiet (C := Kept w) hm hB (Kept.drewn _ _) (by simpa using h)

section
variable {o : Oper} {a : Act} {W : World} {K : Act → Prop}

theorem run_load1 {w : World} {ty : TypeId} {b off : Nat} {v : Value} (hagg : (isAgg ty).run P w = .ok false w) (hc : w.cell? ⟨b, off, none⟩ = some v) : (Instr.loadAt ty (.pointer (some ⟨b, off, none⟩))).run P w = .ok v w := by
  simp [Instr.loadAt, Instr.sureAddr, loadVar, hagg, load, Sem.run, hc]

theorem q_load1 {ty : TypeId} {x : Operand} (ho : o.op = .load ty x) {b off : Nat} {v : Value} (hx : a.eval x = .pointer (some ⟨b, off, none⟩)) (hagg : ∀ w, (isAgg ty).run P w = .ok false w)
    (hc : W.cell? ⟨b, off, none⟩ = some v) (h : K (a.put o.dst v)) : o.quiet P a (Kept W) K := by
  refine ⟨v, fun w hw => ?_, h⟩
  unfold Oper.quietAt execOp
  simp only [ho, hx, Sem.run_bind, run_load1 (hagg w) (hw.cell hc), Result.andThen_ok]
  exact ⟨rfl, rfl⟩

theorem q_loadN {ty : TypeId} {x : Operand} (ho : o.op = .load ty x) {b off : Nat} {cs : List Value} (hx : a.eval x = .pointer (some ⟨b, off, none⟩)) {d : TypeDesc}
    (hc : W.rangeAt b off cs) (hu : P.underlying ty = some d) (hd : d.isRow = true) (hi : (P.info? ty).map (·.size) = some cs.length) (h : K (a.put o.dst (.agg cs.toArray))) : o.quiet P a (Kept W) K := by
  refine ⟨.agg cs.toArray, fun w hw => ?_, h⟩
  unfold Oper.quietAt execOp
  simp only [ho, hx, Sem.run_bind, run_loadAt_mid w b off ty cs d (hw.range hc) hu hd hi, Result.andThen_ok]
  exact ⟨rfl, rfl⟩

theorem q_load {ty : TypeId} {x : Operand} (ho : o.op = .load ty x) {b : Nat} {cs : Array Value} {t : TypeId} {fr : Nat × Nat} (hx : a.eval x = .pointer (some ⟨b, 0, none⟩)) {d : TypeDesc}
    (hc : W.heap[b]? = some (.cells cs t fr)) (hu : P.underlying ty = some d) (hd : (match d with | .struct _ | .array _ _ => true | _ => false) = true) (hi : (P.info? ty).map (·.size) = some cs.size) (h : K (a.put o.dst (.agg cs))) : o.quiet P a (Kept W) K := by
  refine ⟨.agg cs, fun w hw => ?_, h⟩
  unfold Oper.quietAt execOp
  simp only [ho, hx, Sem.run_bind, Instr.loadAt, Instr.sureAddr, Sem.run_pure, run_loadVar_row w b t ty cs fr d (hw.at hc) hu hd hi, Result.andThen_ok]
  exact ⟨rfl, rfl⟩

/-- Operations that never enter a function. -/
def plainOp : Op → Bool
  | .pick .. | .fieldAddr .. | .field .. | .binOp .. | .unOp .. | .extract .. | .build .. | .indexAddr .. | .index .. | .slice .. | .convert .. => true
  | _ => false

theorem value_only {α : Type} {s : Sem α} {f : α → Value} {w w' : World} {n : Next} (h : (s >>= fun x => (pure (Next.value (f x)) : Sem Next)).run P w = .ok n w') : ∃ u, n = .value u := by
  rw [Sem.run_bind] at h
  cases hr : s.run P w with
  | ok u w1 => rw [hr] at h; simp [Result.andThen, Sem.run_pure] at h; exact ⟨f u, h.1.symm⟩
  | halt x w1 => rw [hr] at h; simp [Result.andThen] at h

theorem q_any {C : World → Prop} (hp : plainOp o.op = true) (h : o.quiet P a (fun _ => True) K) : o.quiet P a C K := by
  obtain ⟨v, h1, h2⟩ := h
  refine ⟨v, fun w _ => ?_, h2⟩
  have h3 := h1 w trivial
  unfold Oper.quietAt at *
  have hv : ∀ n w', (execOp a.eval o).run P w = .ok n w' → ∃ u, n = .value u := by
    intro n w' hr
    unfold execOp at hr
    cases ho : o.op <;> rw [ho] at hp hr <;> first | (exfalso; simp [plainOp] at hp; done) | exact value_only (f := fun x => x) hr | exact value_only hr
  cases hr : (execOp a.eval o).run P w with
  | halt x w1 => rw [hr] at h3; exact h3
  | ok n w1 =>
    obtain ⟨u, rfl⟩ := hv n w1 hr
    rw [hr] at h3
    exact h3

/-- A call of a function by its name: one value, whatever world of the class it is called in. -/
theorem q_call {f : FuncId} {args : List Operand} {ats : Array TypeId} (ho : o.op = .call { callee := .value (.func f), args := args.toArray, argTypes := ats }) (he : ∀ xs w, (callFunc f xs).run P w = .ok (.enter f xs) w)
    {v : Value} {vs : List Value} (hv : args.map a.eval = vs) (hc : ∀ w, Kept W w → Calls P f vs.toArray w (fun e w' => e = .returned v ∧ Below w.heap.size w w')) (h : K (a.put o.dst v)) : o.quiet P a (Kept W) K := by
  refine ⟨v, fun w hw => ?_, h⟩
  have hr : (execOp a.eval o).run P w = .ok (.enter f vs.toArray) w := by
    unfold execOp
    simp only [ho, resolve, List.map_toArray, hv]
    show (invoke (.fn (.func f) #[]) (#[] ++ vs.toArray)).run P w = _
    simp only [invoke, Array.empty_append, Array.append_empty]
    exact he vs.toArray w
  unfold Oper.quietAt
  rw [hr]
  exact ⟨rfl, (hc w hw).mono fun e w' ⟨h1, h2⟩ => ⟨h1, hw.step h2⟩⟩
end
end Go.Proofs.YtpppfeldnbjdpaaGreatDoor
