/- The program's values, at a text of one word. -/
import Derived.Test.YtpppfeldnbjdpaaGreatDoorD3
import Derived.Test.YtpppfeldnbjdpaaGreatDoorE0
set_option linter.unusedVariables false
namespace Go.Proofs.YtpppfeldnbjdpaaGreatDoor
open Go Go.RowKit

theorem info3 : (Tryz.prog.info? 3).map (fun i => (i.zero, i.size, i.bytes)) = some (some (.int .i64 0), 1, 8) := by kernel_rfl

theorem split_word (L : List UInt8) (hL : (32 : UInt8) ∉ L) (hlen : L.length ≤ 1000) (w : World) (hlaid : Laid w) :
    Calls Tryz.prog 157 #[.string ⟨L.toArray⟩, .string ⟨#[32]⟩] w fun e w' => e = .returned (.slice (some ⟨w.heap.size, 0, none⟩) 1 1) ∧ w' = w.alloc (.cells #[.string ⟨L.toArray⟩] 9) := by
  obtain ⟨m, hm⟩ := hlaid.mx
  refine (Tryz.strings_Split ⟨L.toArray⟩ ⟨#[32]⟩ m w (by simp [ByteArray.size]; omega) hm (by decide)).mono ?_
  rintro e w' ⟨rfl, rfl⟩
  rw [split_one hL]
  exact ⟨rfl, rfl⟩

set_option maxHeartbeats 1000000 in
set_option maxRecDepth 100000 in
theorem values_yes (L : List UInt8) (v : Int) (hL : (32 : UInt8) ∉ L) (h : Lib.atoiAll L = .ok v) (hi : Lib.itoa v = L) (h0 : 0 ≤ v) (h1 : v ≤ 9999999999) (hlen : L.length ≤ 100) (w : World) (hlaid : Laid w) :
    Calls Tryz.prog 109 #[.string ⟨L.toArray⟩, .int .i64 1] w fun e w' => (∃ b c, e = .returned (.tuple #[.slice (some ⟨b, 0, none⟩) 1 c, .bool true]) ∧ w'.cell? ⟨b, 0, none⟩ = some (.int .i64 v)) ∧ Below w.heap.size w w' := by
  obtain ⟨i0, hi0, hz0, hz1, hz2⟩ := info_parts info3
  have HSp := Lib.hid (split_word L hL (by omega) w hlaid)
  have HV := Lib.hid (fun w' hl => value_yes L v h hi h0 h1 hlen w' hl)
  have HL := Lib.hid hlaid
  clear hlaid h hi hL
  go_enter Tryz.func109, Tryz.ntmps109
  go_wp2_with fail
  refine HSp.out.mono ?_
  rintro e w1 ⟨rfl, hw1⟩
  have HB1 : Hid (Below w.heap.size w w1) := Lib.hid (by rw [hw1]; exact (Below.refl _ _).alloc (Nat.le_refl _) _)
  have hcell : w1.cell? ⟨w.heap.size, 0, none⟩ = some (.string ⟨L.toArray⟩) := by rw [hw1]; exact cells_at (new_at _ _ _ rfl) 0
  have HL1 := Lib.hid (HL.out.below HB1.out HL.out.size)
  clear hw1
  go_wp2_with fail
  refine wp_loop_rounds 2 ?_
  rw [rounds_succ]
  go_wp2_with fail
  refine (HV.out _ HL1.out).mono ?_
  rintro e w2 ⟨rfl, hb2⟩
  have HB2 := Lib.hid (HB1.out.trans (hb2.mono HB1.out.size))
  have hs2 := HB2.out.size
  clear hb2 hcell
  go_wp2_with (at_builtin; refine wpList_append_own _ rfl _ _ 22 rfl w.heap.size 3 i0 (.int .i64 0) 1 8 Tryz.underlying22 hi0 hz0 hz1 hz2 rfl (by decide) _ _ _ rfl (World.ownsRow_nil _ _ _ _) ⟨w2.heap.size, 0, none⟩ 1 1 [.int .i64 v] rfl rfl ?c1 ?c2 ?c3 ?c4 ?c5 ?_)
  case c1 =>
    intro j u hj
    match j, hj with
    | 0, hj => simp at hj; subst hj; simp [Addr.add]
  case c2 => intro u hu; simp at hu; subst hu; rfl
  case c3 => unfold maxLen; omega
  case c4 => omega
  case c5 => simp; omega
  intro v' w3 hown hgr _
  have hb3 := grown_below (World.ownsRow_nil (w2.alloc (.cells #[.int .i64 v] 3)) w.heap.size 3 1) hgr (Nat.le_refl _) (by simp; omega)
  obtain ⟨g, cap, rfl⟩ := Joins.ownsRow_form hown (by simp)
  have HC := Lib.hid (hown.cellAt 0 (by simp))
  have HB3 := Lib.hid ((HB2.out.alloc hs2 _).trans hb3)
  clear hown hgr hb3
  go_wp2
  rw [rounds_succ]
  go_wp2
  go_ret2
  exact ⟨⟨g, cap, rfl, HC.out⟩, HB3.out⟩

set_option maxHeartbeats 1000000 in
set_option maxRecDepth 100000 in
theorem values_no (L : List UInt8) (v : Int) (hL : (32 : UInt8) ∉ L) (h : Lib.atoiAll L = .ok v) (hi : Lib.itoa v ≠ L) (h0 : 0 ≤ v) (h1 : v ≤ 9999999999) (hlen : L.length ≤ 100) (w : World) (hlaid : Laid w) :
    Calls Tryz.prog 109 #[.string ⟨L.toArray⟩, .int .i64 1] w fun e w' => e = .returned (.tuple #[.slice none 0 0, .bool false]) ∧ Below w.heap.size w w' := by
  have HSp := Lib.hid (split_word L hL (by omega) w hlaid)
  have HV := Lib.hid (fun w' hl => value_no L v h hi h0 h1 hlen w' hl)
  have HL := Lib.hid hlaid
  clear hlaid h hi hL
  go_enter Tryz.func109, Tryz.ntmps109
  go_wp2_with fail
  refine HSp.out.mono ?_
  rintro e w1 ⟨rfl, hw1⟩
  have HB1 : Hid (Below w.heap.size w w1) := Lib.hid (by rw [hw1]; exact (Below.refl _ _).alloc (Nat.le_refl _) _)
  have hcell : w1.cell? ⟨w.heap.size, 0, none⟩ = some (.string ⟨L.toArray⟩) := by rw [hw1]; exact cells_at (new_at _ _ _ rfl) 0
  have HL1 := Lib.hid (HL.out.below HB1.out HL.out.size)
  clear hw1
  go_wp2_with fail
  refine wp_loop_rounds 2 ?_
  rw [rounds_succ]
  go_wp2_with fail
  refine (HV.out _ HL1.out).mono ?_
  rintro e w2 ⟨rfl, hb2⟩
  have HB2 := Lib.hid (HB1.out.trans (hb2.mono HB1.out.size))
  clear hb2 hcell
  go_wp2
  go_ret2
  exact ⟨rfl, HB2.out⟩
end Go.Proofs.YtpppfeldnbjdpaaGreatDoor
