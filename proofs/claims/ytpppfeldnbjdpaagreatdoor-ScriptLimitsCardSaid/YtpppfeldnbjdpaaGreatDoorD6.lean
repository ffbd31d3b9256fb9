/- The program's read, at the line of a tick. -/
import Derived.Test.YtpppfeldnbjdpaaGreatDoorD5
import Derived.Test.YtpppfeldnbjdpaaGreatDoorB3
import Derived.Deep.DeepCutAuto
set_option linter.unusedVariables false
namespace Go.Proofs.YtpppfeldnbjdpaaGreatDoor
open Go Go.RowKit

theorem enters11 : ∀ xs w, (callFunc 11 xs).run Tryz.prog w = .ok (.enter 11 xs) w := enters_of Tryz.func11 (by kernel_rfl) rfl
theorem enters32 : ∀ xs w, (callFunc 32 xs).run Tryz.prog w = .ok (.enter 32 xs) w := enters_of Tryz.func32 (by kernel_rfl) rfl

theorem dec_space (n : Nat) : (32 : UInt8) ∉ Lib.decDigits n := fun h => by have := dec_digit n _ h; simp at this
theorem dec_line (n : Nat) : (10 : UInt8) ∉ Lib.decDigits n := fun h => by have := dec_digit n _ h; simp at this

theorem cut_tick (n : Nat) : Lib.cut (tickL n) [32] = ([116, 105, 99, 107], Lib.decDigits n, true) :=
  cut_at (a := [116, 105, 99, 107]) (b := Lib.decDigits n) (by decide)

/-- strings.Cut at a separator of one byte, whatever the world. -/
theorem cut_any (L : List UInt8) (c : UInt8) (hlen : L.length ≤ 100000) (w : World) (hlaid : Laid w) (a b : List UInt8) (ok : Bool) (h : Lib.cut L [c] = (a, b, ok)) :
    Calls Tryz.prog 35 #[.string ⟨L.toArray⟩, .string ⟨#[c]⟩] w fun e w' => e = .returned (.tuple #[.string ⟨a.toArray⟩, .string ⟨b.toArray⟩, .bool ok]) ∧ Below w.heap.size w w' := by
  obtain ⟨m, hm⟩ := hlaid.mx
  refine (Tryz.strings_Cut ⟨L.toArray⟩ ⟨#[c]⟩ m w (by simp [ByteArray.size]; omega) hm).mono ?_
  rintro e w' ⟨rfl, q, rfl⟩
  have h' : Lib.cut (⟨L.toArray⟩ : ByteArray).data.toList (⟨#[c]⟩ : ByteArray).data.toList = (a, b, ok) := h
  rw [h']
  exact ⟨rfl, below_drewN (Below.refl _ _) q⟩

set_option maxHeartbeats 2000000 in
set_option maxRecDepth 100000 in
theorem read_tick (n : Nat) (hn : n ≤ 65535) (w : World) (hlaid : Laid w) :
    Calls Tryz.prog 36 #[.string ⟨(tickL n).toArray⟩] w fun e w' => e = .returned (.tuple #[.agg (tickC n), .bool true]) ∧ Below w.heap.size w w' := by
  have HL := Lib.hid hlaid
  clear hlaid
  have hdl := decDigits_len 4 n (by omega)
  have htl := tickL_len n hn
  have HT := Lib.hid (atoi_dec n (by omega))
  have HS := Lib.hid (itoa_nat n)
  have hlw : ∀ Z, Laid (w.alloc (.cells Z 31)) := fun Z => HL.out.below ((Below.refl _ _).alloc (Nat.le_refl _) _) HL.out.size
  have HLW := Lib.hid hlw
  clear hlw
  go_enter Tryz.func36, Tryz.ntmps36
  go_wp2_with fail
  refine (cut_any (tickL n) 32 (by omega) _ (HLW.out _) _ _ _ (cut_tick n)).mono ?_
  rintro e w1 ⟨rfl, hb1⟩
  have HZ1 := Lib.hid (Kept.at hb1 (new_at w _ w.heap.size rfl))
  have HB1 := Lib.hid (((Below.refl _ _).alloc (Nat.le_refl w.heap.size) _).trans (hb1.mono (by simp)))
  clear hb1
  go_wp2_with fail
  refine (verbs_any _).mono ?_
  rintro e w2 ⟨⟨r, v3, v4, v5, v6, v7, rfl, hm, hc3, -⟩, hb2⟩
  obtain ⟨c1, c2, rfl, hc1, hc2⟩ := hc3
  have HZ2 := Lib.hid (Kept.at hb2 HZ1.out)
  have HB2 := Lib.hid (HB1.out.trans (hb2.mono HB1.out.size))
  have hlook := run_look_hit (P := Tryz.prog) (i := 2) (key := ⟨#[116, 105, 99, 107]⟩) (v := .func (.func 108) #[] #[.pointer (some ⟨c1, 0, none⟩), .pointer (some ⟨c2, 0, none⟩)]) Tryz.underlying155 Tryz.underlying9 hm rfl
  have HM := Lib.hid hm
  have HC1 := Lib.hid hc1
  have HC2 := Lib.hid hc2
  have HL2 := Lib.hid (HL.out.below HB2.out HL.out.size)
  clear hb2 hm hc1 hc2 HB1 HZ1
  go_wp2_with fail
  clear hlook
  refine (tickClo_yes (Lib.decDigits n) n c1 c2 (dec_space n) HT.out HS.out (by omega) (by omega) (by omega) w2 HL2.out HC1.out HC2.out).mono ?_
  rintro e w3 ⟨rfl, hb3⟩
  have HZ3 := Lib.hid (Kept.at hb3 HZ2.out)
  have HB3 := Lib.hid (HB2.out.trans (hb3.mono HB2.out.size))
  have HL3 := Lib.hid (HL.out.below HB3.out HL.out.size)
  have hs3 := HB3.out.size
  clear hb3 HB2 HZ2 HM HC1 HC2 HL2
  go_upto_region 6 with (refine store_new w3 rfl 31 (.tmp 9) _ rfl w3.heap.size (tickC n) _ rfl rfl 31 rfl (by kernel_rfl) rfl (tickC_one n) ?_)
  have HA := Lib.hid (new_at w3 (.cells (tickC n) 31) w3.heap.size rfl)
  have hgz := old_at (o' := .cells (tickC n) 31) HZ3.out
  have hgl : w.heap.size < (w3.alloc (.cells (tickC n) 31)).heap.size := Nat.lt_of_le_of_lt hs3 (by simp)
  have hgne : w3.heap.size ≠ w.heap.size := by
    rcases Nat.lt_or_ge w.heap.size w3.heap.size with h1 | h1
    · omega
    · have := HZ3.out; rw [Array.getElem?_eq_none h1] at this; cases this
  have HGN := Lib.hid hgne
  have HD := Lib.hid (fun w' (hw' : ButFor (w3.alloc (.cells (tickC n) 31)) w.heap.size (.cells (tickC n) 31) w') => hw'.at HGN.out HA.out)
  have HDG := Lib.hid (fun w' (hw' : ButFor (w3.alloc (.cells (tickC n) 31)) w.heap.size (.cells (tickC n) 31) w') => hw'.block hgz rfl)
  have hlb : ∀ w', ButFor (w3.alloc (.cells (tickC n) 31)) w.heap.size (.cells (tickC n) 31) w' → Laid w' := fun w' hw' => HL.out.below ((HB3.out.alloc (by omega) _).trans (hw'.laid (Nat.le_refl _) (by omega))) HL.out.size
  have HLB := Lib.hid hlb
  clear hlb hgne
  refine region_one_store 13 w.heap.size (.cells (tickC n) 31) _ (by kernel_rfl) (by kernel_rfl) rfl rfl hgl ?_
  repeat (first
    | (refine wpOne_skip (by exact rfl) ?_; simp only [Act.put, List.setIfInBounds_toArray, List.set_cons_zero, List.set_cons_succ])
    | (refine wpOne_want (by exact rfl) (fun K hK => ?_)
       first
       | (refine one_of_move (by decide) _ rfl ?_; go_big_quiet_op)
       | (refine one_of_assign (by decide) _ rfl ?_; go_big_quiet_op)
       | (refine one_of_quiet (by decide) rfl ?_; go_big_quiet_op)
       | (refine one_load (by decide) (ty := 31) rfl ?_ HD.out Tryz.underlying31 ?_ ?_ ?_; exact rfl; exact rfl; kernel_rfl; simp only [Act.put, List.setIfInBounds_toArray, List.set_cons_zero, List.set_cons_succ])
       | (refine one_call (by decide) (f := 11) rfl enters11 ?_ (fun w' _ => valid_tick n hn w') ?_; exact rfl; simp only [Act.put, List.setIfInBounds_toArray, List.set_cons_zero, List.set_cons_succ])
       | (refine one_call (by decide) (f := 32) rfl enters32 ?_ (fun w' hw' => line_tick n hn w' (HLB.out w' hw')) ?_; exact rfl; simp only [Act.put, List.setIfInBounds_toArray, List.set_cons_zero, List.set_cons_succ])
       | (refine one_store w.heap.size (tickC n) 31 _ _ rfl rfl rfl HDG.out (by kernel_rfl) (tickC_one n) ?_; simp only [Act.put, List.setIfInBounds_toArray, List.set_cons_zero, List.set_cons_succ])
       refine hK _ ?_
       clear hK K))
  refine wpOne_nil ?_
  intro w4 hw4
  go_wp2_with fail
  have hv : (tickL n ++ [10] == ((⟨(tickL n).toArray⟩ : ByteArray) ++ (⟨#[10]⟩ : ByteArray)).toList) = true := by
    rw [show ((⟨(tickL n).toArray⟩ : ByteArray) ++ (⟨#[10]⟩ : ByteArray)) = ⟨(tickL n ++ [10]).toArray⟩ from str_app (tickL n) [10], ByteArray.toList_mk]
    simp
  refine bodyPost_ret (v := .tuple #[.agg (tickC n), .bool (tickL n ++ [10] == ((⟨(tickL n).toArray⟩ : ByteArray) ++ (⟨#[10]⟩ : ByteArray)).toList)]) (results_cell_tmp (p := 2) (q := 3) (ty := 31) Tryz.results36 _ _ w.heap.size 31 (tickC n) (0, 0) _ rfl (hw4.at (putObj_at hgz)) Tryz.underlying31 rfl (by kernel_rfl)) rfl ⟨by rw [hv], ?_⟩
  refine Below.trans ?_ (Below.mono (hw4 : Below (World.putObj _ _ _).heap.size _ _) (by rw [putObj_size]; simp; omega))
  exact Below.trans (HB3.out.alloc (by omega) _) ⟨rfl, rfl, rfl, by rw [putObj_size]; exact Nat.le_refl _, fun k hk => putObj_other (show k ≠ w.heap.size by omega)⟩
end Go.Proofs.YtpppfeldnbjdpaaGreatDoor
