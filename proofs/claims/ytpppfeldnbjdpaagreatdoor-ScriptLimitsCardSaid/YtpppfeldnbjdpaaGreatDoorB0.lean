/- Small laws for walks over structs of many cells: a whole struct stored into the block that was made last; the cells of a block that stands below a call. -/
import Derived.Test.YtpppfeldnbjdpaaGreatDoorProg
import Derived.WalkKit
import Derived.Deep.WholeRow
import Derived.Laws.Tables
import Derived.Laws.Rows
import Derived.Lib.Hide
import Derived.BigFrame
import Derived.Deep.MidRow
import Derived.Lib.Builder
namespace Go.Proofs.YtpppfeldnbjdpaaGreatDoor
open Go Go.RowKit
variable {P : Program}

theorem store_new {ops : Array Oper} {rest : List Oper} {o : Oper} {a : Act} {Q : Exit → Act → World → Prop} (w0 : World) (hgd : o.guard = none) (ty : TypeId) (x y : Operand) (ho : o.op = .store ty x y)
    (g : Nat) (cells old : Array Value) (hx : a.eval x = .pointer (some ⟨g, 0, none⟩)) (hy : a.eval y = .agg cells)
    (t : TypeId) (hgs : g = w0.heap.size) (hi : (P.info? ty).map (·.size) = some cells.size)
    (hold : old.size = cells.size) (h1 : cells.all (·.oneCell') = true)
    (h : wpList P ops Q rest (a.put o.dst undef) (w0.alloc (.cells cells t))) : wpList P ops Q (o :: rest) a (w0.alloc (.cells old t)) := by
  subst hgs
  refine wpList_store_row hgd ty x y ho w0.heap.size cells hx hy t old (heap_alloc_last _ _) hi hold h1 ?_
  rw [World.setRow_alloc_new]
  exact h

theorem build_as {ops : Array Oper} {rest : List Oper} {o : Oper} {a : Act} {w : World} {Q : Exit → Act → World → Prop} (hg : o.guard = none) (t : TypeId) (parts : Array (Nat × Operand)) (ho : o.op = .build t parts)
    (cells : Array Value) (hf : P.built t (parts.map fun (i, x) => (i, a.eval x)).toList = some cells)
    (h : wpList P ops Q rest (a.put o.dst (.agg cells)) w) : wpList P ops Q (o :: rest) a w :=
  wpList_build hg t parts ho (by rw [hf]; rfl) (by rw [hf]; exact h)

theorem load_row {ops : Array Oper} {rest : List Oper} {o : Oper} {a : Act} {w : World} {Q : Exit → Act → World → Prop} (hw : Region.wanted o (yielded ops a.tmps) = true) (ty : TypeId) (x : Operand) (ho : o.op = .load ty x)
    (g : Nat) (cs : Array Value) (hx : a.eval x = .pointer (some ⟨g, 0, none⟩)) (t : TypeId) (fr : Nat × Nat) (d : TypeDesc) (hg : w.heap[g]? = some (.cells cs t fr))
    (hu : P.underlying ty = some d) (hd : (match d with | .struct _ | .array _ _ => true | _ => false) = true) (hi : (P.info? ty).map (·.size) = some cs.size)
    (h : wpList P ops Q rest (a.put o.dst (.agg cs)) w) : wpList P ops Q (o :: rest) a w :=
  BigFrame.wpList_want hw fun _ hK => wp_load_row ty x ho g hx t cs fr d hg hu hd hi (hK _ _ h)

theorem own_below {w w' : World} {base size n : Nat} {e : TypeId} {v : Value} {xs : List Value} (h : w.ownsRow base e size v n xs) (hb : Below w.heap.size w w') : w'.ownsRow base e size v n xs := by
  obtain ⟨hl, h0 | ⟨g, cap, cur, hv, hbg, hh, r⟩⟩ := h
  · exact ⟨hl, .inl h0⟩
  · have hg : g < w.heap.size := by
      rcases Nat.lt_or_ge g w.heap.size with h1 | h1
      · exact h1
      · rw [Array.getElem?_eq_none h1] at hh; cases hh
    exact ⟨hl, .inr ⟨g, cap, cur, hv, hbg, (hb.block g hg).trans hh, r⟩⟩

theorem grown_below {w w' : World} {base : Nat} {v : Value} {size n : Nat} {e : TypeId} {xs : List Value} (hown : w.ownsRow base e size v n xs) (hg : w.grownBy w' v.ownBlock) {B : Nat} (hB : B ≤ base) (hBw : B ≤ w.heap.size) : Below B w w' :=
  (Below.refl _ _).grown hg hBw fun k hk => Nat.le_trans hB (hown.lt k hk).1

theorem setRow_old (w : World) (o : Obj) (g : Nat) (cs : Array Value) (h : g < w.heap.size) : (w.alloc o).setRow g cs = (w.setRow g cs).alloc o := by
  simp only [World.setRow, World.alloc]
  congr 1
  apply Array.ext_getElem?
  intro i
  rw [Array.getElem?_modify, Array.getElem?_push, Array.getElem?_push, Array.getElem?_modify, Array.size_modify]
  by_cases hi : i = w.heap.size
  · subst hi
    rw [if_neg (by omega)]
    simp
  · simp [hi]

/-- A whole struct stored into the block that was made last but one. -/
theorem store_new2 {ops : Array Oper} {rest : List Oper} {o : Oper} {a : Act} {Q : Exit → Act → World → Prop} (w0 : World) (hgd : o.guard = none) (ty : TypeId) (x y : Operand) (ho : o.op = .store ty x y)
    (g : Nat) (cells old : Array Value) (o2 : Obj) (hx : a.eval x = .pointer (some ⟨g, 0, none⟩)) (hy : a.eval y = .agg cells)
    (t : TypeId) (hgs : g = w0.heap.size) (hi : (P.info? ty).map (·.size) = some cells.size)
    (hold : old.size = cells.size) (h1 : cells.all (·.oneCell') = true)
    (h : wpList P ops Q rest (a.put o.dst undef) ((w0.alloc (.cells cells t)).alloc o2)) : wpList P ops Q (o :: rest) a ((w0.alloc (.cells old t)).alloc o2) := by
  subst hgs
  refine wpList_store_row hgd ty x y ho w0.heap.size cells hx hy t old ((Below.heap_alloc _ _ _ (by simp)).trans (heap_alloc_last _ _)) hi hold h1 ?_
  rw [setRow_old _ _ _ _ (by simp), World.setRow_alloc_new]
  exact h

theorem new_at (w : World) (o : Obj) (g : Nat) (h : g = w.heap.size) : (w.alloc o).heap[g]? = some o := by subst h; exact heap_alloc_last w o

theorem old_at {w : World} {o o' : Obj} {g : Nat} (h : w.heap[g]? = some o) : (w.alloc o').heap[g]? = some o := by
  have hg : g < w.heap.size := by
    rcases Nat.lt_or_ge g w.heap.size with h1 | h1
    · exact h1
    · rw [Array.getElem?_eq_none h1] at h; cases h
  exact (Below.heap_alloc w o' g hg).trans h

theorem builder_below {T e : TypeId} {B b : Nat} {bs : List Value} {w w' : World} (h : Lib.IsBuilder T e B b bs w) (hb : Below w.heap.size w w') : Lib.IsBuilder T e B b bs w' := by
  rcases h with h | h
  · obtain ⟨h1, v, h2, h3, h4⟩ := h
    exact .inl ⟨h1, v, (hb.block b (Lib.BuilderAt.lt ⟨h1, v, h2, h3, h4⟩)).trans h2, own_below h3 hb, h4⟩
  · obtain ⟨h1, v, h2, h3, h4⟩ := h
    exact .inr ⟨h1, v, (hb.block b (Lib.BuilderAt.lt ⟨h1, v, h2, h3, h4⟩)).trans h2, own_below h3 hb, h4⟩

/-- A whole struct out of the middle of a row. -/
theorem load_mid {ops : Array Oper} {rest : List Oper} {o : Oper} {a : Act} {w : World} {Q : Exit → Act → World → Prop} (hw : Region.wanted o (yielded ops a.tmps) = true) (ty : TypeId) (x : Operand) (ho : o.op = .load ty x)
    (b off : Nat) (cs : Array Value) (hx : a.eval x = .pointer (some ⟨b, off, none⟩)) (d : TypeDesc) (hc : w.rangeAt b off cs.toList)
    (hu : P.underlying ty = some d) (hd : d.isRow = true) (hi : (P.info? ty).map (·.size) = some cs.size)
    (h : wpList P ops Q rest (a.put o.dst (.agg cs)) w) : wpList P ops Q (o :: rest) a w :=
  BigFrame.wpList_want hw fun _ hK => wp_load_mid ty x ho b off hx cs.toList d hc hu hd (by simpa using hi) (hK _ _ (by simpa using h))

theorem cells_at {w : World} {b : Nat} {cs : Array Value} {t : TypeId} {fr : Nat × Nat} (h : w.heap[b]? = some (.cells cs t fr)) (j : Nat) : w.cell? ⟨b, j, none⟩ = cs[j]? := by
  simp [World.cell?, h]
end Go.Proofs.YtpppfeldnbjdpaaGreatDoor
