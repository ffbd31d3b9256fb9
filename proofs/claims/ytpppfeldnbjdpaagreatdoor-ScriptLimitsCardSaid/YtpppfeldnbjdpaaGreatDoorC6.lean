/- The program's Valid, at a tick. -/
import Derived.Test.YtpppfeldnbjdpaaGreatDoorC5
import Derived.Deep.QuietTactic
import Derived.BigQuiet
import Derived.Test.YtpppfeldnbjdpaaGreatDoorB1
set_option linter.unusedVariables false
namespace Go.Proofs.YtpppfeldnbjdpaaGreatDoor
open Go Go.RowKit

set_option maxHeartbeats 400000 in
theorem labelValid_nil (w : World) :
    Calls Tryz.prog 28 #[.slice none 0 0] w fun e w' => e = .returned (.bool true) ∧ w = w' := by
  go_enter Tryz.func28, Tryz.ntmps28
  go_wp2
  refine wp_loop_rounds 1 ?_
  rw [rounds_succ]
  go_wp2
  go_ret
  exact ⟨rfl, rfl⟩

theorem enters25 : ∀ xs w, (callFunc 25 xs).run Tryz.prog w = .ok (.enter 25 xs) w := enters_of Tryz.func25 (by kernel_rfl) rfl
theorem enters26 : ∀ xs w, (callFunc 26 xs).run Tryz.prog w = .ok (.enter 26 xs) w := enters_of Tryz.func26 (by kernel_rfl) rfl
theorem enters27 : ∀ xs w, (callFunc 27 xs).run Tryz.prog w = .ok (.enter 27 xs) w := enters_of Tryz.func27 (by kernel_rfl) rfl
theorem enters28 : ∀ xs w, (callFunc 28 xs).run Tryz.prog w = .ok (.enter 28 xs) w := enters_of Tryz.func28 (by kernel_rfl) rfl

theorem labelValid_q (w : World) : Calls Tryz.prog 28 #[.slice none 0 0] w fun e w' => e = .returned (.bool true) ∧ Below w.heap.size w w' :=
  (labelValid_nil w).mono fun e w' ⟨h1, h2⟩ => ⟨h1, h2 ▸ Below.refl _ _⟩

theorem in_true (n lo hi : Int) (h : lo ≤ n ∧ n ≤ hi) (w : World) :
    Calls Tryz.prog 25 #[.int .i64 n, .int .i64 lo, .int .i64 hi] w fun e w' => e = .returned (.bool true) ∧ Below w.heap.size w w' :=
  (in_any n lo hi w).mono fun e w' ⟨h1, h2⟩ => ⟨by rw [h1, inB_true h], h2 ▸ Below.refl _ _⟩

set_option maxHeartbeats 2000000 in
set_option maxRecDepth 100000 in
theorem valid_tick (n : Nat) (hn : n ≤ 65535) (w : World) :
    Calls Tryz.prog 11 #[.agg (tickC n)] w fun e w' => e = .returned (.bool true) ∧ Below w.heap.size w w' := by
  have c0 : (tickC n)[0]? = some (.int .i64 2) := rfl
  have c1 : (tickC n)[1]? = some (.int .i64 n) := rfl
  have c2 : (tickC n)[2]? = some (.int .i64 0) := rfl
  have c3 : (tickC n)[3]? = some (.slice none 0 0) := rfl
  have c4 : (tickC n)[4]? = some (.bool false) := rfl
  have c5 : (tickC n)[5]? = some (.int .i64 0) := rfl
  have c6 : (tickC n)[6]? = some (.int .i64 0) := rfl
  have c7 : (tickC n)[7]? = some (.int .i64 0) := rfl
  have c8 : (tickC n)[8]? = some (.int .i64 0) := rfl
  have c9 : (tickC n)[9]? = some (.int .i64 0) := rfl
  have c10 : (tickC n)[10]? = some (.int .i64 0) := rfl
  have c11 : (tickC n)[11]? = some (.int .i64 0) := rfl
  have c12 : (tickC n)[12]? = some (.int .i64 0) := rfl
  have c13 : (tickC n)[13]? = some (.int .i64 0) := rfl
  have c14 : (tickC n)[14]? = some (.int .i64 0) := rfl
  have c15 : (tickC n)[15]? = some (.int .i64 0) := rfl
  have c16 : (tickC n)[16]? = some (.int .i64 0) := rfl
  have c17 : (tickC n)[17]? = some (.int .i64 0) := rfl
  have c18 : (tickC n)[18]? = some (.int .i64 0) := rfl
  have c19 : (tickC n)[19]? = some (.int .i64 0) := rfl
  have c20 : (tickC n)[20]? = some (.string ⟨#[]⟩) := rfl
  have i1 : inB (n : Int) 0 9999999999 = true := inB_tick n hn
  have i2 : inB 0 0 9999999999 = true := inB_true ⟨by omega, by omega⟩
  have i3 : inB 0 (-1) 9999999999 = true := inB_true ⟨by omega, by omega⟩
  have i4 : inB 2 1 7 = true := inB_true ⟨by omega, by omega⟩
  have g1 : ((2 : Int) != 3) = true := rfl
  have g2 : ((2 : Int) == 3) = false := rfl
  go_enter Tryz.func11, Tryz.ntmps11
  go_upto_region 5 with (go_at_call 25; refine (in_any _ _ _ _).mono ?_; rintro e w' ⟨rfl, rfl⟩)
  have h217 : (1 : Int) ≤ 2 ∧ (2 : Int) ≤ 7 := by omega
  have HA : (w.alloc (.cells (tickC n) 31)).heap[w.heap.size]? = some (.cells (tickC n) 31 (0, 0)) := new_at _ _ _ rfl
  refine region_kept (by kernel_rfl) (by kernel_rfl) ?_
  repeat (first
    | go_big_quiet_skip
    | (go_big_quiet_want
       first
       | ((with_reducible refine q_load1 (ty := 3) (b := w.heap.size) (off := 0) (v := .int .i64 2) rfl ?_ Tryz.isAgg3 ?_ ?_); exact rfl; exact (cells_at HA 0).trans c0; simp only [Act.put, List.setIfInBounds_toArray, List.set_cons_zero, List.set_cons_succ]; go_big_quiet_on)
       | ((with_reducible refine q_load1 (ty := 23) (b := w.heap.size) (off := 3) (v := .slice none 0 0) rfl ?_ Tryz.isAgg23 ?_ ?_); exact rfl; exact (cells_at HA 3).trans c3; simp only [Act.put, List.setIfInBounds_toArray, List.set_cons_zero, List.set_cons_succ]; go_big_quiet_on)
       | ((with_reducible refine q_load (ty := 31) rfl ?_ HA Tryz.underlying31 ?_ ?_ ?_); exact rfl; exact rfl; kernel_rfl; simp only [Act.put, List.setIfInBounds_toArray, List.set_cons_zero, List.set_cons_succ]; go_big_quiet_on)
       | ((with_reducible refine q_call (f := 25) rfl enters25 ?_ (fun w' _ => in_true 2 1 7 h217 w') ?_); exact rfl; simp only [Act.put, List.setIfInBounds_toArray, List.set_cons_zero, List.set_cons_succ]; go_big_quiet_on)
       | ((with_reducible refine q_call (f := 27) rfl enters27 ?_ (fun w' _ => named_tick n w') ?_); exact rfl; simp only [Act.put, List.setIfInBounds_toArray, List.set_cons_zero, List.set_cons_succ]; go_big_quiet_on)
       | ((with_reducible refine q_call (f := 26) rfl enters26 ?_ (fun w' _ => same_tick n w') ?_); exact rfl; simp only [Act.put, List.setIfInBounds_toArray, List.set_cons_zero, List.set_cons_succ]; go_big_quiet_on)
       | ((with_reducible refine q_call (f := 28) rfl enters28 ?_ (fun w' _ => labelValid_q w') ?_); exact rfl; simp only [Act.put, List.setIfInBounds_toArray, List.set_cons_zero, List.set_cons_succ]; go_big_quiet_on)
       | (refine q_any rfl ?_; go_big_quiet_op; go_big_quiet_on)
       | (go_big_quiet_op; go_big_quiet_on)))
  refine wpQuiet_nil ?_
  intro w2 hw2
  go_wp2
  go_ret
  exact ⟨rfl, ((Below.refl _ _).alloc (Nat.le_refl _) _).trans (hw2.mono (by simp))⟩
end Go.Proofs.YtpppfeldnbjdpaaGreatDoor
