/- Labels: a key, a value, a quoted value, at the label of the sane text. -/
import Derived.Test.YtpppfeldnbjdpaaGreatDoorD6
import Derived.Test.YtpppfeldnbjdpaaGreatDoorLb
set_option linter.unusedVariables false
namespace Go.Proofs.YtpppfeldnbjdpaaGreatDoor
open Go Go.RowKit

theorem enters61 : ∀ xs w, (callFunc 61 xs).run Tryz.prog w = .ok (.enter 61 xs) w := enters_of Tryz.func61 (by kernel_rfl) rfl
theorem enters62 : ∀ xs w, (callFunc 62 xs).run Tryz.prog w = .ok (.enter 62 xs) w := enters_of Tryz.func62 (by kernel_rfl) rfl
theorem enters104 : ∀ xs w, (callFunc 104 xs).run Tryz.prog w = .ok (.enter 104 xs) w := enters_of Tryz.func104 (by kernel_rfl) rfl

/-- A call of a function by its name, in a class of worlds of one's own. -/
theorem q_callC {P : Program} {C : World → Prop} {o : Oper} {a : Act} {K : Act → Prop} {f : FuncId} {args : List Operand} {ats : Array TypeId} (ho : o.op = .call { callee := .value (.func f), args := args.toArray, argTypes := ats }) (he : ∀ xs w, (callFunc f xs).run P w = .ok (.enter f xs) w)
    {v : Value} {vs : List Value} (hv : args.map a.eval = vs) (hc : ∀ w, C w → Calls P f vs.toArray w (fun e w' => e = .returned v ∧ C w')) (h : K (a.put o.dst v)) : o.quiet P a C K := by
  refine ⟨v, fun w hw => ?_, h⟩
  have hr : (execOp a.eval o).run P w = .ok (.enter f vs.toArray) w := by
    unfold execOp
    simp only [ho, resolve, List.map_toArray, hv]
    show (invoke (.fn (.func f) #[]) (#[] ++ vs.toArray)).run P w = _
    simp only [invoke, Array.empty_append, Array.append_empty]
    exact he vs.toArray w
  unfold Oper.quietAt
  rw [hr]
  exact ⟨rfl, hc w hw⟩

theorem region_class {P : Program} (C : World → Prop) {id : Nat} {Q : Exit → Act → World → Prop} {a : Act} {w : World} {l : List Oper} (hm : P.follows .mixedOrders = true) (hB : Region.lexB .any l.toArray = true) (hC : C { w with drawn := w.drawn + 1 })
    (h : wpQuiet P l.toArray C (fun a' => ∀ w', C w' → Q .normal a' w') l a) : (Code.region id l.toArray true).wp P Q a w :=
  wp_region_quiet (C := C) hm hB hC (by simpa using h)

set_option maxHeartbeats 2000000 in
set_option maxRecDepth 100000 in
theorem key_host (w : World) : Calls Tryz.prog 61 #[.string ⟨#[104, 111, 115, 116]⟩] w fun e w' => e = .returned (.bool true) ∧ w' = w := by
  go_enter Tryz.func61, Tryz.ntmps61
  go_wp2
  refine wp_loop_rounds 5 ?_
  rw [rounds_succ]; go_wp2
  rw [rounds_succ]; go_wp2
  rw [rounds_succ]; go_wp2
  rw [rounds_succ]; go_wp2
  rw [rounds_succ]; go_wp2
  go_ret
  exact ⟨rfl, rfl⟩

set_option maxHeartbeats 2000000 in
set_option maxRecDepth 100000 in
theorem value_a (w : World) : Calls Tryz.prog 62 #[.string ⟨#[97]⟩] w fun e w' => e = .returned (.bool true) ∧ w' = w := by
  go_enter Tryz.func62, Tryz.ntmps62
  go_wp2
  refine wp_loop_rounds 2 ?_
  rw [rounds_succ]; go_wp2
  rw [rounds_succ]; go_wp2
  go_ret
  exact ⟨rfl, rfl⟩

/-- WriteByte, at a list of bytes. -/
theorem wb_any (l : List UInt8) (c : UInt8) (n : Int) (hn : n = (c.toNat : Int)) (B b : Nat) (w : World) (h : Lib.IsBuilder 108 5 B b (Lib.byteCells l) w) (hl : l.length ≤ 100000) (hB : B ≤ w.heap.size) :
    Calls Tryz.prog 151 #[.pointer (some ⟨b, 0, none⟩), .int .u8 n] w fun e w' => e = .returned .nilIface ∧ Lib.IsBuilder 108 5 B b (Lib.byteCells (l ++ [c])) w' ∧ Below B w w' := by
  refine (Any.Builder_WriteByte Tryz.laysB167 Tryz.laysB_X B b _ n w h (by rw [Lib.byteCells_length]; omega) hB).mono ?_
  rintro e w' ⟨rfl, h1, h2⟩
  refine ⟨rfl, .inr ?_, h2⟩
  rw [Lib.byteCells_append, show Lib.byteCells [c] = [.int .u8 n] by rw [hn]; rfl]
  exact h1

set_option maxHeartbeats 2000000 in
set_option maxRecDepth 100000 in
theorem quoted_a (w : World) : Calls Tryz.prog 104 #[.string ⟨#[97]⟩] w fun e w' => e = .returned (.string ⟨#[34, 97, 34]⟩) ∧ Below w.heap.size w w' := by
  have H0 := Lib.hid (Lib.fresh_isBuilder 108 5 w)
  go_enter Tryz.func104, Tryz.ntmps104
  go_wp2_with fail
  refine (wb_any [] 34 _ rfl w.heap.size w.heap.size _ H0.out (by simp) (by simp)).mono ?_
  rintro e w1 ⟨rfl, h1, hb1⟩
  have H1 := Lib.hid h1
  have HB1 := Lib.hid (((Below.refl _ _).alloc (Nat.le_refl w.heap.size) _).trans hb1)
  clear h1 hb1
  go_wp2_with fail
  refine wp_loop_rounds 2 ?_
  rw [rounds_succ]; go_wp2_with fail
  refine (wb_any [34] 97 _ rfl w.heap.size w.heap.size _ H1.out (by simp) HB1.out.size).mono ?_
  rintro e w2 ⟨rfl, h2, hb2⟩
  have H2 := Lib.hid h2
  have HB2 := Lib.hid (HB1.out.trans hb2)
  clear h2 hb2
  go_wp2_with fail
  rw [rounds_succ]; go_wp2_with fail
  refine (wb_any [34, 97] 34 _ rfl w.heap.size w.heap.size _ H2.out (by simp) HB2.out.size).mono ?_
  rintro e w3 ⟨rfl, h3, hb3⟩
  have H3 := Lib.hid h3
  have HB3 := Lib.hid (HB2.out.trans hb3)
  clear h3 hb3
  go_wp2_with fail
  refine (Tryz.Builder_String w.heap.size w.heap.size [34, 97, 34] _ H3.out (by simp)).mono ?_
  rintro e w4 ⟨rfl, hb4⟩
  go_wp2
  go_ret
  exact ⟨rfl, HB3.out.trans hb4⟩

theorem enters34 : ∀ xs w, (callFunc 34 xs).run Tryz.prog w = .ok (.enter 34 xs) w := enters_of Tryz.func34 (by kernel_rfl) rfl

set_option maxHeartbeats 2000000 in
set_option maxRecDepth 100000 in
theorem unquoted_a (w : World) : Calls Tryz.prog 215 #[.string ⟨#[34, 97, 34, 125]⟩] w fun e w' => e = .returned (.tuple #[.string ⟨#[97]⟩, .string ⟨#[125]⟩, .bool true]) ∧ Below w.heap.size w w' := by
  have H0 := Lib.hid (Lib.fresh_isBuilder 108 5 w)
  go_enter Tryz.func215, Tryz.ntmps215
  go_wp2_with fail
  refine wp_loop_rounds 3 ?_
  rw [rounds_succ]; go_wp2_with fail
  refine (wb_any [] 97 _ rfl w.heap.size w.heap.size _ H0.out (by simp) (by simp)).mono ?_
  rintro e w1 ⟨rfl, h1, hb1⟩
  have H1 := Lib.hid h1
  have HB1 := Lib.hid (((Below.refl _ _).alloc (Nat.le_refl w.heap.size) _).trans hb1)
  clear h1 hb1
  go_wp2_with fail
  rw [rounds_succ]
  go_upto_region 8 with fail
  refine region_class (fun w' => Lib.IsBuilderF 108 5 w.heap.size w.heap.size (Lib.byteCells [97]) w' ∧ Below w.heap.size w w') (by kernel_rfl) (by kernel_rfl) ⟨Lib.IsBuilderF.of H1.out, HB1.out.trans ⟨rfl, rfl, rfl, Nat.le_refl _, fun _ _ => rfl⟩⟩ ?_
  repeat (first
    | go_big_quiet_skip
    | (go_big_quiet_want
       first
       | ((with_reducible refine q_callC (f := 34) rfl enters34 ?_ (fun w' hw' => (Tryz.Builder_String_k w.heap.size w.heap.size [97] w' hw'.1 (by simp)).mono (by rintro e w2 ⟨rfl, h1, h2, -⟩; exact ⟨rfl, h1, hw'.2.trans h2⟩)) ?_); exact rfl; simp only [Act.put, List.setIfInBounds_toArray, List.set_cons_zero, List.set_cons_succ]; go_big_quiet_on)
       | (refine q_any rfl ?_; go_big_quiet_op; go_big_quiet_on)
       | (go_big_quiet_op; go_big_quiet_on)))
  refine wpQuiet_nil ?_
  intro w2 hw2
  go_wp2
  go_ret3
  exact ⟨rfl, hw2.2⟩
end Go.Proofs.YtpppfeldnbjdpaaGreatDoor
