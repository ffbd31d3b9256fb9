/- The program's read, at a tick that is written with a zero ahead. -/
import Derived.Test.YtpppfeldnbjdpaaGreatDoorG1
set_option linter.unusedVariables false
namespace Go.Proofs.YtpppfeldnbjdpaaGreatDoor
open Go Go.RowKit

/-- The tick that is written otherwise. -/
def oddL : List UInt8 := [116, 105, 99, 107, 32, 48, 51, 48]
theorem oddL_cut : Lib.cut oddL [32] = ([116, 105, 99, 107], [48, 51, 48], true) := by rfl
theorem oddL_len : oddL.length ≤ 100 := by decide
theorem itoa_30 : Lib.itoa 30 ≠ [48, 51, 48] := by
  have h := itoa_nat 30
  rw [show ((30 : Nat) : Int) = 30 from rfl] at h
  rw [h]
  simp [Lib.decDigits]

set_option maxHeartbeats 2000000 in
set_option maxRecDepth 100000 in
theorem read_odd (w : World) (hlaid : Laid w) :
    Calls Tryz.prog 36 #[.string ⟨oddL.toArray⟩] w fun e w' => (∃ cs, e = .returned (.tuple #[.agg cs, .bool false]) ∧ cs.size = 21 ∧ cs.all (·.oneCell') = true) ∧ Below w.heap.size w w' := by
  have HL := Lib.hid hlaid
  clear hlaid
  have hal := oddL_len
  have hlw : ∀ Z, Laid (w.alloc (.cells Z 31)) := fun Z => HL.out.below ((Below.refl _ _).alloc (Nat.le_refl _) _) HL.out.size
  have HLW := Lib.hid hlw
  clear hlw
  go_enter Tryz.func36, Tryz.ntmps36
  go_wp2_with fail
  refine (cut_any oddL 32 (by omega) _ (HLW.out _) _ _ _ oddL_cut).mono ?_
  rintro e w1 ⟨rfl, hb1⟩
  have HZ1 := Lib.hid (Kept.at hb1 (new_at w _ w.heap.size rfl))
  have HB1 := Lib.hid (((Below.refl _ _).alloc (Nat.le_refl w.heap.size) _).trans (hb1.mono (by simp)))
  clear hb1
  go_wp2_with fail
  refine (verbs_any _).mono ?_
  rintro e w2 ⟨⟨r, v3, v4, v5, v6, v7, rfl, hm, hc3, -⟩, hb2⟩
  obtain ⟨c1, c2, rfl, hc1, hc2⟩ := hc3
  have HZ2 := Lib.hid (Kept.at hb2 HZ1.out)
  have HB2 := Lib.hid (HB1.out.trans (hb2.mono HB1.out.size))
  have hlook := run_look_hit (P := Tryz.prog) (i := 2) (key := ⟨#[116, 105, 99, 107]⟩) (v := .func (.func 108) #[] #[.pointer (some ⟨c1, 0, none⟩), .pointer (some ⟨c2, 0, none⟩)]) Tryz.underlying155 Tryz.underlying9 hm rfl
  have HM := Lib.hid hm
  have HC1 := Lib.hid hc1
  have HL2 := Lib.hid (HL.out.below HB2.out HL.out.size)
  clear hb2 hm hc1 hc2 HB1 HZ1
  go_wp2_with fail
  clear hlook
  refine (tickClo_no [48, 51, 48] 30 c1 c2 (by decide) (by rfl) itoa_30 (by omega) (by omega) (by decide) w2 HL2.out HC1.out).mono ?_
  rintro e w3 ⟨⟨cs, rfl, hcs, hone⟩, hb3⟩
  have HZ3 := Lib.hid (Kept.at hb3 HZ2.out)
  have HB3 := Lib.hid (HB2.out.trans (hb3.mono HB2.out.size))
  have hs3 := HB3.out.size
  have HCS := Lib.hid (show (Tryz.prog.info? 31).map (·.size) = some cs.size by rw [hcs]; kernel_rfl)
  have HCZ : Hid (zeroC.size = cs.size) := Lib.hid (by rw [hcs]; rfl)
  have HON := Lib.hid hone
  have HC21 := Lib.hid hcs
  clear hb3 HB2 HZ2 HM HC1 HL2 hcs hone
  go_upto_region 6 with (refine store_new w3 rfl 31 (.tmp 9) _ rfl w3.heap.size cs _ rfl rfl 31 rfl HCS.out HCZ.out HON.out ?_)
  have HA := Lib.hid (new_at w3 (.cells cs 31) w3.heap.size rfl)
  have hgz := old_at (o' := .cells cs 31) HZ3.out
  have hgl : w.heap.size < (w3.alloc (.cells cs 31)).heap.size := Nat.lt_of_le_of_lt hs3 (by simp)
  have hgne : w3.heap.size ≠ w.heap.size := by
    rcases Nat.lt_or_ge w.heap.size w3.heap.size with h1 | h1
    · omega
    · have := HZ3.out; rw [Array.getElem?_eq_none h1] at this; cases this
  have HGN := Lib.hid hgne
  have HD := Lib.hid (fun w' (hw' : ButFor (w3.alloc (.cells cs 31)) w.heap.size (.cells cs 31) w') => hw'.at HGN.out HA.out)
  have HDG := Lib.hid (fun w' (hw' : ButFor (w3.alloc (.cells cs 31)) w.heap.size (.cells cs 31) w') => hw'.block hgz HCZ.out)
  clear hgne
  refine region_one_store 13 w.heap.size (.cells cs 31) _ (by kernel_rfl) (by kernel_rfl) rfl rfl hgl ?_
  repeat (first
    | (refine wpOne_skip (by exact rfl) ?_; simp only [Act.put, List.setIfInBounds_toArray, List.set_cons_zero, List.set_cons_succ])
    | (refine wpOne_want (by exact rfl) (fun K hK => ?_)
       first
       | (refine one_of_move (by decide) _ rfl ?_; go_big_quiet_op)
       | (refine one_of_assign (by decide) _ rfl ?_; go_big_quiet_op)
       | (refine one_of_quiet (by decide) rfl ?_; go_big_quiet_op)
       | (refine one_load (by decide) (ty := 31) rfl ?_ HD.out Tryz.underlying31 ?_ ?_ ?_; exact rfl; exact rfl; exact HCS.out; simp only [Act.put, List.setIfInBounds_toArray, List.set_cons_zero, List.set_cons_succ])
       | (refine one_store w.heap.size cs 31 _ _ rfl rfl rfl HDG.out HCS.out HON.out ?_; simp only [Act.put, List.setIfInBounds_toArray, List.set_cons_zero, List.set_cons_succ])
       refine hK _ ?_
       clear hK K))
  refine wpOne_nil ?_
  intro w4 hw4
  go_wp2_with fail
  refine bodyPost_ret (v := .tuple #[.agg cs, .bool false]) (results_cell_tmp (p := 2) (q := 3) (ty := 31) Tryz.results36 _ _ w.heap.size 31 cs (0, 0) _ rfl (hw4.at (putObj_at hgz)) Tryz.underlying31 rfl HCS.out) rfl ⟨⟨cs, rfl, HC21.out, HON.out⟩, ?_⟩
  refine Below.trans ?_ (Below.mono (hw4 : Below (World.putObj _ _ _).heap.size _ _) (by rw [putObj_size]; simp; omega))
  exact Below.trans (HB3.out.alloc (by omega) _) ⟨rfl, rfl, rfl, by rw [putObj_size]; exact Nat.le_refl _, fun k hk => putObj_other (show k ≠ w.heap.size by omega)⟩
end Go.Proofs.YtpppfeldnbjdpaaGreatDoor
