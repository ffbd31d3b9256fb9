/- The program's value, at a text that spells a number. -/
import Derived.Test.YtpppfeldnbjdpaaGreatDoorD2
import Derived.Test.YtpppfeldnbjdpaaGreatDoorC6
import Derived.WideLaws
set_option linter.unusedVariables false
namespace Go.Proofs.YtpppfeldnbjdpaaGreatDoor
open Go Go.RowKit

theorem below_atoi {w w' : World} (h : w' = w ∨ ∃ t, w' = Lib.bytesWorld w 5 t) : Below w.heap.size w w' := by
  rcases h with rfl | ⟨t, rfl⟩
  · exact Below.refl _ _
  · exact Joins.below_bytesWorld _ _ _ _ (Nat.le_refl _)

theorem itoa_any (n : Int) (h0 : -9223372036854775808 ≤ n) (h1 : n ≤ 9223372036854775807) (w : World) (hl : Laid w) :
    Calls Tryz.prog 55 #[.int .i64 n] w fun e w' => e = .returned (.string ⟨(Lib.itoa n).toArray⟩) ∧ Below w.heap.size w w' :=
  (Tryz.strconv_Itoa n h0 h1 w hl.tab).mono fun e w' ⟨h1, k, os, h2⟩ => ⟨h1, by rw [h2]; exact Lib.below_grow _ _ (Nat.le_refl _) _ _⟩

set_option maxHeartbeats 1000000 in
set_option maxRecDepth 100000 in
theorem value_yes (L : List UInt8) (v : Int) (h : Lib.atoiAll L = .ok v) (hi : Lib.itoa v = L) (h0 : 0 ≤ v) (h1 : v ≤ 9999999999) (hlen : L.length ≤ 100) (w : World) (hlaid : Laid w) :
    Calls Tryz.prog 158 #[.string ⟨L.toArray⟩] w fun e w' => e = .returned (.tuple #[.int .i64 v, .bool true]) ∧ Below w.heap.size w w' := by
  have HL := Lib.hid hlaid
  have HI := Lib.hid hi
  have HA := Lib.hid h
  have hne : (L == [45]) = false := by
    rw [beq_eq_false_iff_ne]; rintro rfl; simp [Lib.atoiAll, Lib.parseMag] at h
  clear hlaid hi h
  go_enter Tryz.func158, Tryz.ntmps158
  go_wp2_with fail
  refine (Tryz.strconv_Atoi_ok ⟨L.toArray⟩ (by simp [ByteArray.size]; omega) v (by simpa using HA.out) _).mono ?_
  rintro e w1 ⟨rfl, hw1⟩
  have HB1 := Lib.hid (below_atoi hw1)
  have HL1 := Lib.hid (HL.out.below HB1.out HL.out.size)
  clear hw1
  go_wp2_with fail
  refine (itoa_any v (by omega) (by omega) _ HL1.out).mono ?_
  rintro e w2 ⟨rfl, hb2⟩
  rw [HI.out]
  have HB2 := Lib.hid hb2
  clear hb2
  go_wp2_with fail
  refine (in_true v 0 9999999999 ⟨h0, h1⟩ _).mono ?_
  rintro e w3 ⟨rfl, hb3⟩
  have HB3 := Lib.hid hb3
  clear hb3
  go_wp2
  go_ret2
  refine ⟨rfl, ?_⟩
  exact (HB1.out.trans (HB2.out.mono HB1.out.size)).trans (HB3.out.mono (Nat.le_trans HB1.out.size HB2.out.size))

set_option maxHeartbeats 1000000 in
set_option maxRecDepth 100000 in
theorem value_no (L : List UInt8) (v : Int) (h : Lib.atoiAll L = .ok v) (hi : Lib.itoa v ≠ L) (h0 : 0 ≤ v) (h1 : v ≤ 9999999999) (hlen : L.length ≤ 100) (w : World) (hlaid : Laid w) :
    Calls Tryz.prog 158 #[.string ⟨L.toArray⟩] w fun e w' => e = .returned (.tuple #[.int .i64 v, .bool false]) ∧ Below w.heap.size w w' := by
  have HL := Lib.hid hlaid
  have HA := Lib.hid h
  have hie : (Lib.itoa v == L) = false := by rw [beq_eq_false_iff_ne]; exact hi
  have hne : (L == [45]) = false := by
    rw [beq_eq_false_iff_ne]; rintro rfl; simp [Lib.atoiAll, Lib.parseMag] at h
  clear hlaid hi h
  go_enter Tryz.func158, Tryz.ntmps158
  go_wp2_with fail
  refine (Tryz.strconv_Atoi_ok ⟨L.toArray⟩ (by simp [ByteArray.size]; omega) v (by simpa using HA.out) _).mono ?_
  rintro e w1 ⟨rfl, hw1⟩
  have HB1 := Lib.hid (below_atoi hw1)
  have HL1 := Lib.hid (HL.out.below HB1.out HL.out.size)
  clear hw1
  go_wp2_with fail
  refine (itoa_any v (by omega) (by omega) _ HL1.out).mono ?_
  rintro e w2 ⟨rfl, hb2⟩
  have HB2 := Lib.hid hb2
  clear hb2
  go_wp2
  go_ret2
  refine ⟨rfl, ?_⟩
  exact HB1.out.trans (HB2.out.mono HB1.out.size)
end Go.Proofs.YtpppfeldnbjdpaaGreatDoor
