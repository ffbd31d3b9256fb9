/- Labels: Valid and Text at one label. -/
import Derived.Test.YtpppfeldnbjdpaaGreatDoorF1
import Derived.Test.YtpppfeldnbjdpaaGreatDoorB4
set_option linter.unusedVariables false
namespace Go.Proofs.YtpppfeldnbjdpaaGreatDoor
open Go Go.RowKit

/-- The label of the sane text. -/
def labC : Array Value := #[.string ⟨#[104, 111, 115, 116]⟩, .string ⟨#[97]⟩]

theorem labC_one : labC.all (·.oneCell') = true := by kernel_rfl

set_option maxHeartbeats 2000000 in
set_option maxRecDepth 100000 in
theorem labelValid_host (b c : Nat) (hc1 : 1 ≤ c) (w : World) (hr : w.rangeAt b 0 labC.toList) :
    Calls Tryz.prog 28 #[.slice (some ⟨b, 0, none⟩) 1 c] w fun e w' => e = .returned (.bool true) ∧ Below w.heap.size w w' := by
  have HR := Lib.hid hr
  clear hr
  go_enter Tryz.func28, Tryz.ntmps28
  go_wp2_with fail
  refine wp_loop_rounds 2 ?_
  rw [rounds_succ]
  go_upto_region 6 with (first
    | (refine load_mid rfl 97 (.tmp 13) rfl b 0 labC rfl _ HR.out Tryz.underlying97 rfl (by kernel_rfl) ?_)
    | (refine store_new w rfl 97 (.tmp 4) _ rfl w.heap.size labC _ rfl rfl 97 rfl (by kernel_rfl) rfl labC_one ?_))
  simp only [Act.put]
  have HA := Lib.hid (new_at w (.cells labC 97) w.heap.size rfl)
  have c0 : labC[0]? = some (.string ⟨#[104, 111, 115, 116]⟩) := rfl
  have c1 : labC[1]? = some (.string ⟨#[97]⟩) := rfl
  refine region_kept (by kernel_rfl) (by kernel_rfl) ?_
  repeat (first
    | go_big_quiet_skip
    | (go_big_quiet_want
       first
       | ((with_reducible refine q_load1 (ty := 9) (b := w.heap.size) (off := 0) (v := .string ⟨#[104, 111, 115, 116]⟩) rfl ?_ Tryz.isAgg9 ?_ ?_); exact rfl; exact (cells_at HA.out 0).trans c0; simp only [Act.put, List.setIfInBounds_toArray, List.set_cons_zero, List.set_cons_succ]; go_big_quiet_on)
       | ((with_reducible refine q_load1 (ty := 9) (b := w.heap.size) (off := 1) (v := .string ⟨#[97]⟩) rfl ?_ Tryz.isAgg9 ?_ ?_); exact rfl; exact (cells_at HA.out 1).trans c1; simp only [Act.put, List.setIfInBounds_toArray, List.set_cons_zero, List.set_cons_succ]; go_big_quiet_on)
       | ((with_reducible refine q_call (f := 61) rfl enters61 ?_ (fun w' _ => (key_host w').mono (by rintro e w2 ⟨rfl, rfl⟩; exact ⟨rfl, Below.refl _ _⟩)) ?_); exact rfl; simp only [Act.put, List.setIfInBounds_toArray, List.set_cons_zero, List.set_cons_succ]; go_big_quiet_on)
       | ((with_reducible refine q_call (f := 62) rfl enters62 ?_ (fun w' _ => (value_a w').mono (by rintro e w2 ⟨rfl, rfl⟩; exact ⟨rfl, Below.refl _ _⟩)) ?_); exact rfl; simp only [Act.put, List.setIfInBounds_toArray, List.set_cons_zero, List.set_cons_succ]; go_big_quiet_on)
       | (refine q_any rfl ?_; go_big_quiet_op; go_big_quiet_on)
       | (go_big_quiet_op; go_big_quiet_on)))
  refine wpQuiet_nil ?_
  intro w2 hw2
  have HW2 := Lib.hid (((Below.refl _ _).alloc (Nat.le_refl w.heap.size) _).trans (hw2.mono (by simp)))
  clear hw2
  go_wp2_with fail
  rw [rounds_succ]
  go_wp2
  go_ret
  exact ⟨rfl, HW2.out⟩

/-- What labels read as. -/
def labL : List UInt8 := [123, 104, 111, 115, 116, 61, 34, 97, 34, 125]

set_option maxHeartbeats 2000000 in
set_option maxRecDepth 100000 in
theorem text_host (b c : Nat) (hc1 : 1 ≤ c) (w : World) (hlaid : Laid w) (hb : b < w.heap.size) (hr : w.rangeAt b 0 labC.toList) :
    Calls Tryz.prog 71 #[.slice (some ⟨b, 0, none⟩) 1 c] w fun e w' => e = .returned (.string ⟨labL.toArray⟩) ∧ Below w.heap.size w w' := by
  obtain ⟨i0, hi, hz0, hz1, hz2⟩ := info_parts (show (Tryz.prog.info? 9).map (fun i => (i.zero, i.size, i.bytes)) = some (some (.string ⟨#[]⟩), 1, 16) by kernel_rfl)
  have HR := Lib.hid hr
  have HL := Lib.hid hlaid
  clear hr hlaid
  go_enter Tryz.func71, Tryz.ntmps71
  go_wp2_with fail
  refine (labelValid_host b c hc1 w HR.out).mono ?_
  rintro e w1 ⟨rfl, hb1⟩
  have HB1 := Lib.hid hb1
  have HR1 := Lib.hid (show w1.rangeAt b 0 labC.toList from fun j v hj => (Below.cell hb1 (p := ⟨b, 0 + j, none⟩) hb).trans (HR.out j v hj))
  have hs1 := hb1.size
  clear hb1
  go_wp2_with fail
  refine wp_loop_rounds 2 ?_
  rw [rounds_succ]
  go_upto_region 7 with (first
    | (refine load_mid rfl 97 (.tmp 13) rfl b 0 labC rfl _ HR1.out Tryz.underlying97 rfl (by kernel_rfl) ?_)
    | (refine store_new w1 rfl 97 (.tmp 5) _ rfl w1.heap.size labC _ rfl rfl 97 rfl (by kernel_rfl) rfl labC_one ?_))
  simp only [Act.put]
  have HA := Lib.hid (new_at w1 (.cells labC 97) w1.heap.size rfl)
  have c0 : labC[0]? = some (.string ⟨#[104, 111, 115, 116]⟩) := rfl
  have c1 : labC[1]? = some (.string ⟨#[97]⟩) := rfl
  refine region_move_tail (Kept (w1.alloc (.cells labC 97))) 7 _ (.slice none 0 0) rfl (by kernel_rfl) (by kernel_rfl) rfl rfl (Kept.drewn _ _) ?_
  simp only [List.take_succ_cons, List.take_zero, List.drop_succ_cons, List.drop_zero, Act.put, List.setIfInBounds_toArray, List.set_cons_zero, List.set_cons_succ]
  repeat (first
    | go_big_quiet_skip
    | (go_big_quiet_want
       first
       | ((with_reducible refine q_load1 (ty := 9) (b := w1.heap.size) (off := 0) (v := .string ⟨#[104, 111, 115, 116]⟩) rfl ?_ Tryz.isAgg9 ?_ ?_); exact rfl; exact (cells_at HA.out 0).trans c0; simp only [Act.put, List.setIfInBounds_toArray, List.set_cons_zero, List.set_cons_succ]; go_big_quiet_on)
       | ((with_reducible refine q_load1 (ty := 9) (b := w1.heap.size) (off := 1) (v := .string ⟨#[97]⟩) rfl ?_ Tryz.isAgg9 ?_ ?_); exact rfl; exact (cells_at HA.out 1).trans c1; simp only [Act.put, List.setIfInBounds_toArray, List.set_cons_zero, List.set_cons_succ]; go_big_quiet_on)
       | ((with_reducible refine q_call (f := 104) rfl enters104 ?_ (fun w' _ => quoted_a w') ?_); exact rfl; simp only [Act.put, List.setIfInBounds_toArray, List.set_cons_zero, List.set_cons_succ]; go_big_quiet_on)
       | (refine q_any rfl ?_; go_big_quiet_op; go_big_quiet_on)
       | (go_big_quiet_op; go_big_quiet_on)))
  refine wpQuiet_nil ?_
  intro w2 hw2
  have HW2 := Lib.hid (HB1.out.trans (((Below.refl _ _).alloc (Nat.le_refl w1.heap.size) _).trans (hw2.mono (by simp)) |>.mono hs1))
  clear hw2
  have hs2 := HW2.out.size
  go_wp2_with (at_builtin; refine wpList_append_own _ rfl _ _ 42 rfl w.heap.size 9 i0 (.string ⟨#[]⟩) 1 16 Tryz.underlying42 hi hz0 hz1 hz2 rfl (by decide) _ _ _ rfl (World.ownsRow_nil _ _ _ _) ⟨w2.heap.size, 0, none⟩ 1 1 [strV [104, 111, 115, 116, 61, 34, 97, 34]] rfl rfl ?c1 ?c2 ?c3 ?c4 ?c5 ?_)
  case c1 =>
    intro j u hj
    match j, hj with
    | 0, hj => simp at hj; subst hj; simp [Addr.add, strV]; rfl
  case c2 => intro u hu; simp at hu; subst hu; rfl
  case c3 => unfold maxLen; omega
  case c4 => omega
  case c5 => simp; omega
  intro v' w3 hown hgr _
  have hb3 := grown_below (World.ownsRow_nil (w2.alloc (.cells #[strV [104, 111, 115, 116, 61, 34, 97, 34]] 9)) w.heap.size 9 1) hgr (Nat.le_refl _) (by simp; omega)
  obtain ⟨g, cap, rfl⟩ := Joins.ownsRow_form hown (by simp)
  have hlt := (hown.lt g rfl).2
  have hcap1 : 1 ≤ cap := by
    obtain ⟨_, h0 | ⟨_, _, _, hv, _, _, hc, _⟩⟩ := hown
    · cases h0.1
    · cases hv; exact hc
  have hcs : ∀ (j : Nat) (x : ByteArray), [(⟨#[104, 111, 115, 116, 61, 34, 97, 34]⟩ : ByteArray)][j]? = some x → w3.cell? ⟨g, 0 + j, none⟩ = some (.string x) := by
    intro j x hj
    match j, hj with
    | 0, hj => simp at hj; subst hj; exact hown.cellAt 0 (by simp)
  have HB3 := Lib.hid ((HW2.out.alloc hs2 _).trans hb3)
  have hs3 := HB3.out.size
  have HJ := Lib.hid (Tryz.strings_Join g 0 cap [⟨#[104, 111, 115, 116, 61, 34, 97, 34]⟩] ⟨#[44]⟩ w3 hcs hlt (by simp) (by simpa using hcap1) (by decide))
  clear hown hgr hb3 hcs
  go_wp2_with fail
  rw [rounds_succ]
  go_wp2_with fail
  refine HJ.out.mono ?_
  rintro e w4 ⟨rfl, hb4⟩
  have HB4 := Lib.hid (HB3.out.trans (hb4.mono hs3))
  clear hb4 HJ
  rw [show Lib.join (List.map (·.data.toList) [(⟨#[104, 111, 115, 116, 61, 34, 97, 34]⟩ : ByteArray)]) (⟨#[44]⟩ : ByteArray).data.toList = [104, 111, 115, 116, 61, 34, 97, 34] by rfl]
  go_wp2
  go_ret
  exact ⟨rfl, HB4.out⟩
end Go.Proofs.YtpppfeldnbjdpaaGreatDoor
