/- The program's Parse, at the two texts of the chapter's example; the example. -/
import Derived.Test.YtpppfeldnbjdpaaGreatDoorG3
import Derived.Test.YtpppfeldnbjdpaaGreatDoorG4
set_option linter.unusedVariables false
namespace Go.Proofs.YtpppfeldnbjdpaaGreatDoor
open Go Go.RowKit

def oddT : List UInt8 := [116, 105, 99, 107, 32, 48, 51, 48, 10]
def saneT : List UInt8 := [116, 105, 99, 107, 32, 51, 48, 10, 97, 108, 101, 114, 116, 32, 52, 48, 32, 102, 105, 114, 105, 110, 103, 32, 123, 104, 111, 115, 116, 61, 34, 97, 34, 125, 10]
def restT : List UInt8 := [97, 108, 101, 114, 116, 32, 52, 48, 32, 102, 105, 114, 105, 110, 103, 32, 123, 104, 111, 115, 116, 61, 34, 97, 34, 125, 10]
theorem tick30 : tickL 30 = [116, 105, 99, 107, 32, 51, 48] := by simp [tickL, Lib.decDigits]
theorem cut_odd : Lib.cut oddT [10] = (oddL, [], true) := by rfl
theorem cut_sane : Lib.cut saneT [10] = (tickL 30, restT, true) := by rw [tick30]; rfl
theorem cut_rest : Lib.cut restT [10] = (alLine, [], true) := by rfl

theorem read_30 (w : World) (hlaid : Laid w) : Calls Tryz.prog 36 #[.string ⟨(tickL 30).toArray⟩] w fun e w' => e = .returned (.tuple #[.agg (tickC 30), .bool true]) ∧ Below w.heap.size w w' := read_tick 30 (by omega) w hlaid

theorem row_news {cs : Array Value} (w : World) (b : Nat) (hb : b = w.heap.size) : ∀ (j : Nat) (u : Value), cs.toList[j]? = some u → (w.alloc (.cells cs 31)).cell? ((⟨b, 0, none⟩ : Addr).add j) = some u := by
  intro j u hj
  subst hb
  have h2 : cs[j]? = some u := by simpa using hj
  rw [show ((⟨w.heap.size, 0, none⟩ : Addr).add j) = ⟨w.heap.size, j, none⟩ by unfold Addr.add; split <;> simp_all]
  exact (cells_at (new_at w (.cells cs 31) w.heap.size rfl) j).trans h2

set_option maxHeartbeats 400000 in
set_option maxRecDepth 100000 in
theorem parse_odd (w : World) (hlaid : Laid w) :
    Calls Tryz.prog 16 #[.string ⟨oddT.toArray⟩] w fun e w' => e = .returned (.tuple #[.slice none 0 0, .int .i64 1, .int .i64 2]) ∧ Below w.heap.size w w' := by
  have HL := Lib.hid hlaid
  clear hlaid
  have hgt : decide ((65536 : Int) < (oddT.length : Int)) = false := by decide
  have hne : oddT.isEmpty = false := rfl
  go_enter Tryz.func16, Tryz.ntmps16
  go_wp2_with fail
  refine wp_loop_rounds 1 ?_
  rw [rounds_succ]
  go_wp2_with fail
  refine (cut_any oddT 10 (by decide) _ HL.out _ _ _ cut_odd).mono ?_
  rintro e w1 ⟨rfl, hb1⟩
  have HB1 := Lib.hid hb1
  have HL1 := Lib.hid (HL.out.below hb1 HL.out.size)
  clear hb1
  go_wp2_with fail
  refine (read_odd _ HL1.out).mono ?_
  rintro e w2 ⟨⟨cs, rfl, hcs, hone⟩, hb2⟩
  have HB2 := Lib.hid (HB1.out.trans (hb2.mono HB1.out.size))
  have HCS := Lib.hid (show (Tryz.prog.info? 31).map (·.size) = some cs.size by rw [hcs]; kernel_rfl)
  have HCZ : Hid (zeroC.size = cs.size) := Lib.hid (by rw [hcs]; rfl)
  have HON := Lib.hid hone
  have hs2 := HB2.out.size
  clear hb2 hcs hone HB1 HL1
  go_wp2_with (refine store_new w2 rfl 31 (.tmp 8) _ rfl w2.heap.size cs _ rfl rfl 31 rfl HCS.out HCZ.out HON.out ?_)
  go_ret3
  exact ⟨rfl, HB2.out.alloc hs2 _⟩

set_option maxHeartbeats 1000000 in
set_option maxRecDepth 100000 in
theorem parse_sane (w : World) (hlaid : Laid w) :
    Calls Tryz.prog 16 #[.string ⟨saneT.toArray⟩] w fun e w' => (∃ g cap, e = .returned (.tuple #[.slice (some ⟨g, 0, none⟩) 2 cap, .int .i64 0, .int .i64 0]) ∧ w'.cell? ⟨g, 1, none⟩ = some (.int .i64 30) ∧ w'.cell? ⟨g, 25, none⟩ = some (.bool true)) ∧ Below w.heap.size w w' := by
  obtain ⟨i0, hi, hz0, hz1, hz2⟩ := info_parts info31
  have HL := Lib.hid hlaid
  clear hlaid
  have hgt : decide ((65536 : Int) < (saneT.length : Int)) = false := by decide
  have hne : saneT.isEmpty = false := rfl
  have hne2 : restT.isEmpty = false := rfl
  go_enter Tryz.func16, Tryz.ntmps16
  go_wp2_with fail
  refine wp_loop_rounds 3 ?_
  rw [rounds_succ]
  go_wp2_with fail
  refine (cut_any saneT 10 (by decide) _ HL.out _ _ _ cut_sane).mono ?_
  rintro e w1 ⟨rfl, hb1⟩
  have HB1 := Lib.hid hb1
  have HL1 := Lib.hid (HL.out.below hb1 HL.out.size)
  clear hb1
  go_wp2_with fail
  refine (read_30 _ HL1.out).mono ?_
  rintro e w2 ⟨rfl, hb2⟩
  have HB2 := Lib.hid (HB1.out.trans (hb2.mono HB1.out.size))
  have hs2 := HB2.out.size
  clear hb2 HB1 HL1
  go_upto_region 12 with (refine store_new w2 rfl 31 (.tmp 8) _ rfl w2.heap.size (tickC 30) _ rfl rfl 31 rfl (by kernel_rfl) rfl (tickC_one 30) ?_)
  go_wp2_with (first
    | (refine load_row rfl 31 (.tmp 8) rfl w2.heap.size (tickC 30) rfl 31 (0, 0) _ (new_at _ _ _ rfl) Tryz.underlying31 rfl (by kernel_rfl) ?_)
    | (refine Great.wpList_buildSliceTo rfl 36 31 1 #[(0, .tmp 39)] rfl (w2.heap.size + 1) (by simp) _ rfl Tryz.underlying36 (tickC 30) (by kernel_rfl) ?_)
    | (at_builtin; refine wpList_append_own _ rfl _ _ 36 rfl w.heap.size 31 i0 (.agg zeroC) 21 192 Tryz.underlying36 hi hz0 hz1 hz2 rfl (by decide) _ _ _ rfl (World.ownsRow_nil _ _ _ _) ⟨w2.heap.size + 1, 0, none⟩ 1 1 (tickC 30).toList rfl rfl ?c1 ?c2 ?c3 ?c4 ?c5 ?_))
  case c1 => exact tick_news 30 _ _ (by simp)
  case c2 => exact tick_ones 30
  case c3 => unfold maxLen; omega
  case c4 => omega
  case c5 => simp; omega
  intro v' w3 hown hgr _
  have hb3 := grown_below (World.ownsRow_nil ((w2.alloc (.cells (tickC 30) 31)).alloc (.cells (tickC 30) 31)) w.heap.size 31 21) hgr (Nat.le_refl _) (by simp; omega)
  have HO3 : Hid (w3.ownsRow w.heap.size 31 21 v' 1 (tickC 30).toList) := Lib.hid hown
  have HB3 := Lib.hid (((HB2.out.alloc hs2 (.cells (tickC 30) 31)).alloc (by simp; omega) (.cells (tickC 30) 31)).trans hb3)
  have hs3 := HB3.out.size
  have HL3 := Lib.hid (HL.out.below HB3.out HL.out.size)
  clear hown hgr hb3 HB2
  go_wp2_with fail
  rw [rounds_succ]
  go_wp2_with fail
  refine (cut_any restT 10 (by decide) _ HL3.out _ _ _ cut_rest).mono ?_
  rintro e w4 ⟨rfl, hb4⟩
  have HO4 := Lib.hid (own_below HO3.out hb4)
  have HB4 := Lib.hid (HB3.out.trans (hb4.mono hs3))
  have HL4 := Lib.hid (HL.out.below HB4.out HL.out.size)
  clear hb4 HO3 HB3 HL3
  go_wp2_with fail
  refine (read_alert _ HL4.out).mono ?_
  rintro e w5 ⟨⟨b, c, rfl⟩, hb5⟩
  have HO5 := Lib.hid (own_below HO4.out hb5)
  have HB5 := Lib.hid (HB4.out.trans (hb5.mono HB4.out.size))
  have hs5 := HB5.out.size
  clear hb5 HO4 HB4 HL4
  go_upto_region 12 with (refine store_new w5 rfl 31 (.tmp 8) _ rfl w5.heap.size (alertC b c) _ rfl rfl 31 rfl (by kernel_rfl) rfl (alertC_one b c) ?_)
  go_wp2_with (first
    | (refine load_row rfl 31 (.tmp 8) rfl w5.heap.size (alertC b c) rfl 31 (0, 0) _ (new_at _ _ _ rfl) Tryz.underlying31 rfl (by kernel_rfl) ?_)
    | (refine Great.wpList_buildSliceTo rfl 36 31 1 #[(0, .tmp 39)] rfl (w5.heap.size + 1) (by simp) _ rfl Tryz.underlying36 (alertC b c) (by kernel_rfl) ?_)
    | (at_builtin; refine wpList_append_own _ rfl _ _ 36 rfl w.heap.size 31 i0 (.agg zeroC) 21 192 Tryz.underlying36 hi hz0 hz1 hz2 rfl (by decide) _ _ _ rfl ((HO5.out.alloc _).alloc _) ⟨w5.heap.size + 1, 0, none⟩ 1 1 (alertC b c).toList rfl rfl ?c1 ?c2 ?c3 ?c4 ?c5 ?_))
  case c1 => exact row_news _ _ (by simp)
  case c2 => intro u hu; exact (Array.all_eq_true_iff_forall_mem.1 (alertC_one b c)) u (by simpa using hu)
  case c3 => unfold maxLen; omega
  case c4 => omega
  case c5 => simp; omega
  intro v6 w6 hown hgr _
  have hb6 := grown_below ((HO5.out.alloc (.cells (alertC b c) 31)).alloc (.cells (alertC b c) 31)) hgr (Nat.le_refl _) (by simp; omega)
  have HB6 := Lib.hid (((HB5.out.alloc hs5 (.cells (alertC b c) 31)).alloc (by simp; omega) (.cells (alertC b c) 31)).trans hb6)
  obtain ⟨g, cap, rfl⟩ := Joins.ownsRow_form hown (by simp)
  have HC1 := Lib.hid ((hown.cellAt 1 (by simp)).trans (by rfl : _ = some (Value.int .i64 30)))
  have HC2 := Lib.hid ((hown.cellAt 25 (by simp)).trans (by rfl : _ = some (Value.bool true)))
  clear hown hgr hb6 HO5 HB5
  go_wp2_with fail
  rw [rounds_succ]
  go_wp2
  go_ret3
  exact ⟨⟨g, cap, rfl, by simpa using HC1.out, by simpa using HC2.out⟩, HB6.out⟩

set_option maxHeartbeats 1000000 in
set_option maxRecDepth 100000 in
theorem sane_any (w : World) (hlaid : Laid w) : Calls Tryz.prog 8 #[] w fun e w' => e = .returned (.bool true) ∧ Below w.heap.size w w' := by
  have HL := Lib.hid hlaid
  clear hlaid
  go_enter Tryz.func8, Tryz.ntmps8
  go_wp2_with fail
  refine (parse_sane w HL.out).mono ?_
  rintro e w1 ⟨⟨g, cap, rfl, h1, h25⟩, hb1⟩
  have hg : g < w1.heap.size := World.block_lt_of_cell? w1 ⟨g, 1, none⟩ h1
  have HB1 := Lib.hid hb1
  have HL1 := Lib.hid (HL.out.below hb1 HL.out.size)
  have H1 := Lib.hid h1
  have H25 := Lib.hid h25
  clear hb1 h1 h25
  go_wp2_with fail
  refine (parse_odd w1 HL1.out).mono ?_
  rintro e w2 ⟨rfl, hb2⟩
  have h1 := (hb2.cell (p := ⟨g, 1, none⟩) hg).trans H1.out
  have h25 := (hb2.cell (p := ⟨g, 25, none⟩) hg).trans H25.out
  have HB2 := Lib.hid (HB1.out.trans (hb2.mono HB1.out.size))
  clear hb2
  go_wp2
  go_ret
  exact ⟨rfl, HB2.out⟩
end Go.Proofs.YtpppfeldnbjdpaaGreatDoor
