/- The program's Valid and line, at the sane text's alert. -/
import Derived.Test.YtpppfeldnbjdpaaGreatDoorF5
set_option linter.unusedVariables false
namespace Go.Proofs.YtpppfeldnbjdpaaGreatDoor
open Go Go.RowKit

set_option maxHeartbeats 2000000 in
set_option maxRecDepth 100000 in
theorem valid_alert (b c : Nat) (hc1 : 1 ≤ c) (w : World) (hb : b < w.heap.size) (hr : w.rangeAt b 0 labC.toList) :
    Calls Tryz.prog 11 #[.agg (alertC b c)] w fun e w' => e = .returned (.bool true) ∧ Below w.heap.size w w' := by
  have c0 : (alertC b c)[0]? = some (.int .i64 1) := rfl
  have c1 : (alertC b c)[1]? = some (.int .i64 40) := rfl
  have c2 : (alertC b c)[2]? = some (.int .i64 40) := rfl
  have c3 : (alertC b c)[3]? = some (.slice (some ⟨b, 0, none⟩) 1 c) := rfl
  have c4 : (alertC b c)[4]? = some (.bool true) := rfl
  have c5 : (alertC b c)[5]? = some (.int .i64 0) := rfl
  have c6 : (alertC b c)[6]? = some (.int .i64 0) := rfl
  have c7 : (alertC b c)[7]? = some (.int .i64 0) := rfl
  have c8 : (alertC b c)[8]? = some (.int .i64 0) := rfl
  have c9 : (alertC b c)[9]? = some (.int .i64 0) := rfl
  have c10 : (alertC b c)[10]? = some (.int .i64 0) := rfl
  have c11 : (alertC b c)[11]? = some (.int .i64 0) := rfl
  have c12 : (alertC b c)[12]? = some (.int .i64 0) := rfl
  have c13 : (alertC b c)[13]? = some (.int .i64 0) := rfl
  have c14 : (alertC b c)[14]? = some (.int .i64 0) := rfl
  have c15 : (alertC b c)[15]? = some (.int .i64 0) := rfl
  have c16 : (alertC b c)[16]? = some (.int .i64 0) := rfl
  have c17 : (alertC b c)[17]? = some (.int .i64 0) := rfl
  have c18 : (alertC b c)[18]? = some (.int .i64 0) := rfl
  have c19 : (alertC b c)[19]? = some (.int .i64 0) := rfl
  have c20 : (alertC b c)[20]? = some (.string ⟨#[]⟩) := rfl
  have i1 : inB 40 0 9999999999 = true := inB_true ⟨by omega, by omega⟩
  have i2 : inB 0 0 9999999999 = true := inB_true ⟨by omega, by omega⟩
  have i3 : inB 0 (-1) 9999999999 = true := inB_true ⟨by omega, by omega⟩
  have i4 : inB 1 1 7 = true := inB_true ⟨by omega, by omega⟩
  have g1 : ((1 : Int) != 3) = true := rfl
  have g2 : ((1 : Int) == 3) = false := rfl
  have hA1 : Below w.heap.size w (w.alloc (.cells (alertC b c) 31)) := (Below.refl _ _).alloc (Nat.le_refl _) _
  have HBB := Lib.hid (fun w' (hw' : Kept (w.alloc (.cells (alertC b c) 31)) w') => (⟨Nat.lt_of_lt_of_le (by simp; omega) hw'.size, hw'.range (range_below hr hb hA1)⟩ : b < w'.heap.size ∧ w'.rangeAt b 0 labC.toList))
  clear hr hA1
  go_enter Tryz.func11, Tryz.ntmps11
  go_upto_region 5 with (go_at_call 25; refine (in_any _ _ _ _).mono ?_; rintro e w' ⟨rfl, rfl⟩)
  have h217 : (1 : Int) ≤ 1 ∧ (1 : Int) ≤ 7 := by omega
  have HA : (w.alloc (.cells (alertC b c) 31)).heap[w.heap.size]? = some (.cells (alertC b c) 31 (0, 0)) := new_at _ _ _ rfl
  refine region_kept (by kernel_rfl) (by kernel_rfl) ?_
  repeat (first
    | go_big_quiet_skip
    | (go_big_quiet_want
       first
       | ((with_reducible refine q_load1 (ty := 3) (b := w.heap.size) (off := 0) (v := .int .i64 1) rfl ?_ Tryz.isAgg3 ?_ ?_); exact rfl; exact (cells_at HA 0).trans c0; simp only [Act.put, List.setIfInBounds_toArray, List.set_cons_zero, List.set_cons_succ]; go_big_quiet_on)
       | ((with_reducible refine q_load1 (ty := 23) (b := w.heap.size) (off := 3) (v := .slice (some ⟨b, 0, none⟩) 1 c) rfl ?_ Tryz.isAgg23 ?_ ?_); exact rfl; exact (cells_at HA 3).trans c3; simp only [Act.put, List.setIfInBounds_toArray, List.set_cons_zero, List.set_cons_succ]; go_big_quiet_on)
       | ((with_reducible refine q_load (ty := 31) rfl ?_ HA Tryz.underlying31 ?_ ?_ ?_); exact rfl; exact rfl; kernel_rfl; simp only [Act.put, List.setIfInBounds_toArray, List.set_cons_zero, List.set_cons_succ]; go_big_quiet_on)
       | ((with_reducible refine q_call (f := 25) rfl enters25 ?_ (fun w' _ => in_true 1 1 7 h217 w') ?_); exact rfl; simp only [Act.put, List.setIfInBounds_toArray, List.set_cons_zero, List.set_cons_succ]; go_big_quiet_on)
       | ((with_reducible refine q_call (f := 27) rfl enters27 ?_ (fun w' _ => named_alert b c w') ?_); exact rfl; simp only [Act.put, List.setIfInBounds_toArray, List.set_cons_zero, List.set_cons_succ]; go_big_quiet_on)
       | ((with_reducible refine q_call (f := 26) rfl enters26 ?_ (fun w' hw' => same_alert b c hc1 w' (HBB.out w' hw').1 (HBB.out w' hw').2) ?_); exact rfl; simp only [Act.put, List.setIfInBounds_toArray, List.set_cons_zero, List.set_cons_succ]; go_big_quiet_on)
       | ((with_reducible refine q_call (f := 28) rfl enters28 ?_ (fun w' hw' => labelValid_host b c hc1 w' (HBB.out w' hw').2) ?_); exact rfl; simp only [Act.put, List.setIfInBounds_toArray, List.set_cons_zero, List.set_cons_succ]; go_big_quiet_on)
       | (refine q_any rfl ?_; go_big_quiet_op; go_big_quiet_on)
       | (go_big_quiet_op; go_big_quiet_on)))
  refine wpQuiet_nil ?_
  intro w2 hw2
  go_wp2
  go_ret
  exact ⟨rfl, ((Below.refl _ _).alloc (Nat.le_refl _) _).trans (hw2.mono (by simp))⟩
end Go.Proofs.YtpppfeldnbjdpaaGreatDoor
