/- The program's read, at the alert of the sane text and at a tick that is written otherwise. -/
import Derived.Test.YtpppfeldnbjdpaaGreatDoorF7
set_option linter.unusedVariables false
namespace Go.Proofs.YtpppfeldnbjdpaaGreatDoor
open Go Go.RowKit

theorem ButFor.same {W w : World} {g b : Nat} {ob : Obj} (h : ButFor W g ob w) (hne : b ≠ g) (hb : b < W.heap.size) : w.heap[b]? = W.heap[b]? := by
  rcases h with h | h
  · exact h.block b hb
  · exact (h.block b (by rw [putObj_size]; exact hb)).trans (putObj_other hne)
theorem ButFor.size_le {W w : World} {g : Nat} {ob : Obj} (h : ButFor W g ob w) : W.heap.size ≤ w.heap.size := by
  rcases h with h | h
  · exact h.size
  · have := h.size; rw [putObj_size] at this; exact this
theorem ButFor.range {W w : World} {g b : Nat} {ob : Obj} {cs : List Value} (h : ButFor W g ob w) (hne : b ≠ g) (hb : b < W.heap.size) (hr : W.rangeAt b 0 cs) : w.rangeAt b 0 cs := fun j v hj => by
  have := hr j v hj
  simpa [World.cell?, h.same hne hb] using this

theorem alLine_cut : Lib.cut alLine [32] = ([97, 108, 101, 114, 116], alertL, true) := by rfl


set_option maxHeartbeats 2000000 in
set_option maxRecDepth 100000 in
theorem read_alert (w : World) (hlaid : Laid w) :
    Calls Tryz.prog 36 #[.string ⟨alLine.toArray⟩] w fun e w' => (∃ b c, e = .returned (.tuple #[.agg (alertC b c), .bool true])) ∧ Below w.heap.size w w' := by
  have HL := Lib.hid hlaid
  clear hlaid
  have hal := alLine_len
  have hlw : ∀ Z, Laid (w.alloc (.cells Z 31)) := fun Z => HL.out.below ((Below.refl _ _).alloc (Nat.le_refl _) _) HL.out.size
  have HLW := Lib.hid hlw
  clear hlw
  go_enter Tryz.func36, Tryz.ntmps36
  go_wp2_with fail
  refine (cut_any alLine 32 (by omega) _ (HLW.out _) _ _ _ alLine_cut).mono ?_
  rintro e w1 ⟨rfl, hb1⟩
  have HZ1 := Lib.hid (Kept.at hb1 (new_at w _ w.heap.size rfl))
  have HB1 := Lib.hid (((Below.refl _ _).alloc (Nat.le_refl w.heap.size) _).trans (hb1.mono (by simp)))
  clear hb1
  go_wp2_with fail
  refine (verbs_any _).mono ?_
  rintro e w2 ⟨⟨r, v3, v4, v5, v6, v7, rfl, hm, -⟩, hb2⟩
  have HZ2 := Lib.hid (Kept.at hb2 HZ1.out)
  have HB2 := Lib.hid (HB1.out.trans (hb2.mono HB1.out.size))
  have hlook := run_look_hit (P := Tryz.prog) (i := 0) (key := ⟨#[97, 108, 101, 114, 116]⟩) (v := .func (.func 110) #[] #[]) Tryz.underlying155 Tryz.underlying9 hm rfl
  have HM := Lib.hid hm
  have HL2 := Lib.hid (HL.out.below HB2.out HL.out.size)
  clear hb2 hm HB1 HZ1
  go_wp2_with fail
  clear hlook
  refine (alert_sane w2 HL2.out).mono ?_
  rintro e w3 ⟨⟨b, c, rfl, hc1, hb23, hb3', hr⟩, hb3⟩
  have HZ3 := Lib.hid (Kept.at hb3 HZ2.out)
  have HB3 := Lib.hid (HB2.out.trans (hb3.mono HB2.out.size))
  have hw2 : w.heap.size < w2.heap.size := by
    rcases Nat.lt_or_ge w.heap.size w2.heap.size with h | h
    · exact h
    · have := HZ2.out; rw [Array.getElem?_eq_none h] at this; cases this
  have hs3 := HB3.out.size
  have HR := Lib.hid hr
  clear hb3 HB2 HZ2 HM HL2 hr
  go_upto_region 6 with (refine store_new w3 rfl 31 (.tmp 9) _ rfl w3.heap.size (alertC b c) _ rfl rfl 31 rfl (by kernel_rfl) rfl (alertC_one b c) ?_)
  have HA := Lib.hid (new_at w3 (.cells (alertC b c) 31) w3.heap.size rfl)
  have hgz := old_at (o' := .cells (alertC b c) 31) HZ3.out
  have hgl : w.heap.size < (w3.alloc (.cells (alertC b c) 31)).heap.size := Nat.lt_of_le_of_lt hs3 (by simp)
  have hgne : w3.heap.size ≠ w.heap.size := by
    rcases Nat.lt_or_ge w.heap.size w3.heap.size with h1 | h1
    · omega
    · have := HZ3.out; rw [Array.getElem?_eq_none h1] at this; cases this
  have HGN := Lib.hid hgne
  have HD := Lib.hid (fun w' (hw' : ButFor (w3.alloc (.cells (alertC b c) 31)) w.heap.size (.cells (alertC b c) 31) w') => hw'.at HGN.out HA.out)
  have HDG := Lib.hid (fun w' (hw' : ButFor (w3.alloc (.cells (alertC b c) 31)) w.heap.size (.cells (alertC b c) 31) w') => hw'.block hgz rfl)
  have hlb : ∀ w', ButFor (w3.alloc (.cells (alertC b c) 31)) w.heap.size (.cells (alertC b c) 31) w' → Laid w' := fun w' hw' => HL.out.below ((HB3.out.alloc (by omega) _).trans (hw'.laid (Nat.le_refl _) (by omega))) HL.out.size
  have HLB := Lib.hid hlb
  have hbn : b ≠ w.heap.size := by omega
  have hra : (w3.alloc (.cells (alertC b c) 31)).rangeAt b 0 labC.toList := range_below HR.out hb3' ((Below.refl _ _).alloc (Nat.le_refl _) _)
  have hbl : b < (w3.alloc (.cells (alertC b c) 31)).heap.size := Nat.lt_of_lt_of_le hb3' (by simp)
  have HBB := Lib.hid (fun w' (hw' : ButFor (w3.alloc (.cells (alertC b c) 31)) w.heap.size (.cells (alertC b c) 31) w') => (⟨Nat.lt_of_lt_of_le hbl hw'.size_le, hw'.range hbn hbl hra⟩ : b < w'.heap.size ∧ w'.rangeAt b 0 labC.toList))
  clear hlb hgne hra hbn
  refine region_one_store 13 w.heap.size (.cells (alertC b c) 31) _ (by kernel_rfl) (by kernel_rfl) rfl rfl hgl ?_
  repeat (first
    | (refine wpOne_skip (by exact rfl) ?_; simp only [Act.put, List.setIfInBounds_toArray, List.set_cons_zero, List.set_cons_succ])
    | (refine wpOne_want (by exact rfl) (fun K hK => ?_)
       first
       | (refine one_of_move (by decide) _ rfl ?_; go_big_quiet_op)
       | (refine one_of_assign (by decide) _ rfl ?_; go_big_quiet_op)
       | (refine one_of_quiet (by decide) rfl ?_; go_big_quiet_op)
       | (refine one_load (by decide) (ty := 31) rfl ?_ HD.out Tryz.underlying31 ?_ ?_ ?_; exact rfl; exact rfl; kernel_rfl; simp only [Act.put, List.setIfInBounds_toArray, List.set_cons_zero, List.set_cons_succ])
       | (refine one_call (by decide) (f := 11) rfl enters11 ?_ (fun w' hw' => valid_alert b c hc1 w' (HBB.out w' hw').1 (HBB.out w' hw').2) ?_; exact rfl; simp only [Act.put, List.setIfInBounds_toArray, List.set_cons_zero, List.set_cons_succ])
       | (refine one_call (by decide) (f := 32) rfl enters32 ?_ (fun w' hw' => line_alert b c hc1 w' (HLB.out w' hw') (HBB.out w' hw').1 (HBB.out w' hw').2) ?_; exact rfl; simp only [Act.put, List.setIfInBounds_toArray, List.set_cons_zero, List.set_cons_succ])
       | (refine one_store w.heap.size (alertC b c) 31 _ _ rfl rfl rfl HDG.out (by kernel_rfl) (alertC_one b c) ?_; simp only [Act.put, List.setIfInBounds_toArray, List.set_cons_zero, List.set_cons_succ])
       refine hK _ ?_
       clear hK K))
  refine wpOne_nil ?_
  intro w4 hw4
  go_wp2_with fail
  have hv : (alLine ++ [10] == ((⟨alLine.toArray⟩ : ByteArray) ++ (⟨#[10]⟩ : ByteArray)).toList) = true := by
    rw [show ((⟨alLine.toArray⟩ : ByteArray) ++ (⟨#[10]⟩ : ByteArray)) = ⟨(alLine ++ [10]).toArray⟩ from str_app alLine [10], ByteArray.toList_mk]
    simp
  refine bodyPost_ret (v := .tuple #[.agg (alertC b c), .bool (alLine ++ [10] == ((⟨alLine.toArray⟩ : ByteArray) ++ (⟨#[10]⟩ : ByteArray)).toList)]) (results_cell_tmp (p := 2) (q := 3) (ty := 31) Tryz.results36 _ _ w.heap.size 31 (alertC b c) (0, 0) _ rfl (hw4.at (putObj_at hgz)) Tryz.underlying31 rfl (by kernel_rfl)) rfl ⟨⟨b, c, by rw [hv]⟩, ?_⟩
  refine Below.trans ?_ (Below.mono (hw4 : Below (World.putObj _ _ _).heap.size _ _) (by rw [putObj_size]; simp; omega))
  exact Below.trans (HB3.out.alloc (by omega) _) ⟨rfl, rfl, rfl, by rw [putObj_size]; exact Nat.le_refl _, fun k hk => putObj_other (show k ≠ w.heap.size by omega)⟩
end Go.Proofs.YtpppfeldnbjdpaaGreatDoor
