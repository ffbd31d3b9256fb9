/- Equality of lists of labels, at one label. -/
import Derived.Test.YtpppfeldnbjdpaaGreatDoorF4
set_option linter.unusedVariables false
namespace Go.Proofs.YtpppfeldnbjdpaaGreatDoor
open Go Go.RowKit

theorem q_loadNC {P : Program} {C : World → Prop} {o : Oper} {a : Act} {K : Act → Prop} {ty : TypeId} {x : Operand} (ho : o.op = .load ty x) {b off : Nat} {cs : List Value} (hx : a.eval x = .pointer (some ⟨b, off, none⟩)) {d : TypeDesc}
    (hc : ∀ w, C w → w.rangeAt b off cs) (hu : P.underlying ty = some d) (hd : d.isRow = true) (hi : (P.info? ty).map (·.size) = some cs.length) (h : K (a.put o.dst (.agg cs.toArray))) : o.quiet P a C K := by
  refine ⟨.agg cs.toArray, fun w hw => ?_, h⟩
  unfold Oper.quietAt execOp
  simp only [ho, hx, Sem.run_bind, run_loadAt_mid w b off ty cs d (hc w hw) hu hd hi, Result.andThen_ok]
  exact ⟨rfl, rfl⟩

theorem q_run {P : Program} {C : World → Prop} {o : Oper} {a : Act} {K : Act → Prop} (v : Value) (h : ∀ w, (execOp a.eval o).run P w = .ok (.value v) w) (hk : K (a.put o.dst v)) : o.quiet P a C K :=
  ⟨v, fun w _ => by unfold Oper.quietAt; rw [h w]; exact ⟨rfl, rfl⟩, hk⟩

set_option maxHeartbeats 2000000 in
set_option maxRecDepth 100000 in
theorem equalLabels_host (b c : Nat) (hc1 : 1 ≤ c) (w : World) (hr : w.rangeAt b 0 labC.toList) :
    Calls Tryz.prog 60 #[.slice (some ⟨b, 0, none⟩) 1 c, .slice (some ⟨b, 0, none⟩) 1 c] w fun e w' => e = .returned (.bool true) ∧ ∃ n, w' = w.drewN n := by
  have HR := Lib.hid (show ∀ w', (∃ n, w' = w.drewN n) → w'.rangeAt b 0 labC.toList from fun w' ⟨n, h⟩ => by subst h; exact hr)
  clear hr
  go_enter Tryz.func60, Tryz.ntmps60
  go_wp2_with fail
  refine wp_loop_rounds 2 ?_
  rw [rounds_succ]
  go_upto_region 6 with fail
  refine region_class (fun w' => ∃ n, w' = w.drewN n) (by kernel_rfl) (by kernel_rfl) ⟨1, rfl⟩ ?_
  repeat (first
    | go_big_quiet_skip
    | (go_big_quiet_want
       first
       | ((with_reducible refine q_loadNC (ty := 97) rfl ?_ HR.out Tryz.underlying97 ?_ ?_ ?_); exact rfl; exact rfl; kernel_rfl; simp only [Act.put, List.setIfInBounds_toArray, List.set_cons_zero, List.set_cons_succ]; go_big_quiet_on)
       | (refine q_any rfl ?_; go_big_quiet_op; go_big_quiet_on)
       | (go_big_quiet_op; go_big_quiet_on)
       | (refine q_run (.bool false) (fun w' => ?_) ?_; kernel_rfl; simp only [Act.put, List.setIfInBounds_toArray, List.set_cons_zero, List.set_cons_succ]; go_big_quiet_on)))
  refine wpQuiet_nil ?_
  intro w2 hw2
  obtain ⟨n, rfl⟩ := hw2
  go_wp2_with fail
  rw [rounds_succ]
  go_wp2
  go_ret
  exact ⟨rfl, n, rfl⟩

theorem range_below {W w : World} {b : Nat} {cs : List Value} (hr : W.rangeAt b 0 cs) (hb : b < W.heap.size) (h : Below W.heap.size W w) : w.rangeAt b 0 cs := fun j v hj => (Below.cell h (p := ⟨b, 0 + j, none⟩) hb).trans (hr j v hj)

set_option maxHeartbeats 2000000 in
set_option maxRecDepth 100000 in
theorem same_alert (b c : Nat) (hc1 : 1 ≤ c) (w : World) (hb : b < w.heap.size) (hr : w.rangeAt b 0 labC.toList) :
    Calls Tryz.prog 26 #[.agg (alertC b c), .agg (alertC b c)] w fun e w' => e = .returned (.bool true) ∧ Below w.heap.size w w' := by
  have h2 : Below w.heap.size w ((w.alloc (.cells (alertC b c) 31)).alloc (.cells (alertC b c) 31)) := ((Below.refl _ _).alloc (Nat.le_refl _) _).alloc (by simp) _
  have HE := Lib.hid (equalLabels_host b c hc1 _ (range_below hr hb h2))
  have H2 := Lib.hid h2
  clear h2 hr
  unfold alertC at *
  go_enter Tryz.func26, Tryz.ntmps26
  go_wp2_with fail
  refine HE.out.mono ?_
  rintro e w' ⟨rfl, n, rfl⟩
  go_wp2_with fail
  go_ret
  exact ⟨rfl, below_drewN H2.out n⟩

theorem store_three {P : Program} {ops : Array Oper} {rest : List Oper} {o : Oper} {a : Act} {Q : Exit → Act → World → Prop} (w0 : World) (hgd : o.guard = none) (ty : TypeId) (x y : Operand) (ho : o.op = .store ty x y)
    (g j : Nat) (v1 v2 v3 : Value) (old new : Array Value) (hx : a.eval x = .pointer (some ⟨g, j, none⟩)) (hy : a.eval y = .agg #[v1, v2, v3])
    (t : TypeId) (hgs : g = w0.heap.size) (hi : (P.info? ty).map (·.size) = some 3) (hj : j + 3 ≤ old.size) (h1 : v1.oneCell' = true) (h2 : v2.oneCell' = true) (h3 : v3.oneCell' = true)
    (hnew : ((old.setIfInBounds j v1).setIfInBounds (j + 1) v2).setIfInBounds (j + 1 + 1) v3 = new)
    (h : wpList P ops Q rest (a.put o.dst undef) (w0.alloc (.cells new t))) : wpList P ops Q (o :: rest) a (w0.alloc (.cells old t)) := by
  subst hgs
  have hg : (w0.alloc (.cells old t)).heap[w0.heap.size]? = some (.cells old t (0, 0)) := heap_alloc_last _ _
  refine wpList_store_mid hgd ty x y ho w0.heap.size j #[v1, v2, v3] hx hy ?_ hi ?_ ?_
  · intro i hi'
    have hi3 : i < 3 := hi'
    have hlt : j + i < old.size := by omega
    exact ⟨by rw [cells_at hg, Array.getElem?_eq_getElem hlt]; rfl, Lib.frozen_of_heap hg _⟩
  · simp [h1, h2, h3]
  · simp only [World.setCells]
    rw [setCell_eq_setRow _ _ _ _ _ _ _ hg, setCell_eq_setRow _ _ _ _ _ _ _ (setRow_heap _ _ _ _ _ _ hg), setRow_setRow, setCell_eq_setRow _ _ _ _ _ _ _ (setRow_heap _ _ _ _ _ _ hg), setRow_setRow, hnew, World.setRow_alloc_new]
    exact h

/-- The alert's kind and instant, and nothing else. -/
def preC : Array Value := #[.int .i64 1, .int .i64 40, .int .i64 0, .slice none 0 0, .bool false, .int .i64 0, .int .i64 0, .int .i64 0, .int .i64 0, .int .i64 0, .int .i64 0, .int .i64 0, .int .i64 0, .int .i64 0, .int .i64 0, .int .i64 0, .int .i64 0, .int .i64 0, .int .i64 0, .int .i64 0, .string ⟨#[]⟩]
theorem preC_one : preC.all (·.oneCell') = true := by kernel_rfl

set_option maxHeartbeats 2000000 in
set_option maxRecDepth 100000 in
theorem named_alert (b c : Nat) (w : World) :
    Calls Tryz.prog 27 #[.agg (alertC b c)] w fun e w' => e = .returned (.agg (alertC b c)) ∧ Below w.heap.size w w' := by
  have c0 : (alertC b c)[0]? = some (.int .i64 1) := rfl
  have c1 : (alertC b c)[1]? = some (.int .i64 40) := rfl
  have c3 : (alertC b c)[3]? = some (.slice (some ⟨b, 0, none⟩) 1 c) := rfl
  have c4 : (alertC b c)[4]? = some (.bool true) := rfl
  go_enter Tryz.func27, Tryz.ntmps27
  go_wp2_with (first
    | (refine build_as rfl 31 _ rfl preC (by kernel_rfl) ?_)
    | (refine build_as rfl 25 _ rfl #[.int .i64 40, .slice (some ⟨b, 0, none⟩) 1 c, .bool true] (by kernel_rfl) ?_)
    | (refine store_new ((w.alloc (.cells (alertC b c) 31)).alloc _) rfl 31 _ _ rfl (w.heap.size + 1 + 1) preC _ rfl rfl 31 (by simp) (by kernel_rfl) rfl preC_one ?_)
    | (refine store_three ((w.alloc (.cells (alertC b c) 31)).alloc _) rfl 25 _ _ rfl (w.heap.size + 1 + 1) 2 (.int .i64 40) (.slice (some ⟨b, 0, none⟩) 1 c) (.bool true) preC (alertC b c) rfl rfl 31 (by simp) (by kernel_rfl) (by decide) rfl rfl rfl rfl ?_)
    | (refine load_row rfl 31 (.tmp 3) rfl (w.heap.size + 1 + 1) (alertC b c) rfl 31 (0, 0) _ (new_at _ _ _ (by simp)) Tryz.underlying31 rfl (by kernel_rfl) ?_)
    | (refine store_new2 (w.alloc (.cells (alertC b c) 31)) rfl 31 (.tmp 2) _ rfl (w.heap.size + 1) (alertC b c) _ _ rfl rfl 31 (by simp) (by kernel_rfl) rfl (alertC_one b c) ?_))
  refine bodyPost_ret (v := .agg (alertC b c)) (results_cell_row (p := 2) (ty := 31) Tryz.results27 _ _ (w.heap.size + 1) 31 (alertC b c) (0, 0) _ rfl (old_at (new_at _ _ _ (by simp))) Tryz.underlying31 rfl (by kernel_rfl)) rfl ⟨rfl, ?_⟩
  exact (((Below.refl _ _).alloc (Nat.le_refl _) _).alloc (by simp) _).alloc (by simp; omega) _
end Go.Proofs.YtpppfeldnbjdpaaGreatDoor
