/- The law ScriptLimits, walked. -/
import Derived.Test.YtpppfeldnbjdpaaGreatDoorG5
set_option linter.unusedVariables false
namespace Go.Proofs.YtpppfeldnbjdpaaGreatDoor
open Go Go.RowKit

set_option maxHeartbeats 1000000 in
set_option maxRecDepth 100000 in
theorem limits_walk (m : Int) (hm0 : 0 ≤ m) (hm1 : m ≤ 255) (n : Nat) (hn : n ≤ 65535) (w : World) (hlaid : Laid w) :
    Calls Tryz.prog 4 #[.int .u8 m, .int .u16 (n : Int)] w fun e w' => e = .returned (.bool true) ∧ Below w.heap.size w w' := by
  obtain ⟨i0, hi, hz0, hz1, hz2⟩ := info_parts info31
  have HL := Lib.hid hlaid
  clear hlaid
  go_enter Tryz.func4, Tryz.ntmps4
  go_wp2_with fail
  obtain ⟨k, hk⟩ : ∃ k : Nat, 199 + m % 3 = (k : Int) := ⟨(199 + m % 3).toNat, by omega⟩
  have hk1 : 199 ≤ k := by omega
  have hk2 : k ≤ 201 := by omega
  rw [hk]
  clear hk
  go_loopw [8, 6, 7] (fun i v s wr => ∃ j : Nat, j ≤ k ∧ i = .int .i64 j ∧ s = .string ⟨(ticksL n j).toArray⟩ ∧ wr.ownsRow w.heap.size 31 21 v j (actsRow n j) ∧ Below w.heap.size w wr) (fun i _ _ _ => k - (intOf i).toNat)
  case atStart => exact ⟨0, Nat.zero_le _, rfl, rfl, World.ownsRow_nil _ _ _ _, Below.refl _ _⟩
  case round =>
    obtain ⟨j, hj, rfl, rfl, hown, hbw⟩ := hrel
    have HO := Lib.hid hown
    have HB := Lib.hid hbw
    have hsw := hbw.size
    clear hown hbw
    by_cases hlt : j < k
    · go_upto_region 8 with (first
        | (refine build_as rfl 31 _ rfl (tickC n) (by kernel_rfl) ?_)
        | (refine store_new wr rfl 31 (.tmp 9) _ rfl wr.heap.size (tickC n) _ rfl rfl 31 rfl (by kernel_rfl) rfl (tickC_one n) ?_))
      simp only [Act.put]
      go_wp2_with (first
        | (refine load_row rfl 31 (.tmp 9) rfl wr.heap.size (tickC n) rfl 31 (0, 0) _ (new_at _ _ _ rfl) Tryz.underlying31 rfl (by kernel_rfl) ?_)
        | (refine Great.wpList_buildSliceTo rfl 36 31 1 #[(0, .tmp 30)] rfl (wr.heap.size + 1) (by simp) _ rfl Tryz.underlying36 (tickC n) (by kernel_rfl) ?_))
      refine (refFormat_tick n hn (wr.heap.size + 1) 1 _ (new_at _ _ _ (by simp))).mono ?_
      rintro e w2 ⟨rfl, hb2⟩
      have hb1 : Below wr.heap.size wr ((wr.alloc (.cells (tickC n) 31)).alloc (.cells (tickC n) 31)) := ((Below.refl _ _).alloc (Nat.le_refl _) _).alloc (by simp) _
      have hb3 := hb1.trans (hb2.mono hb1.size)
      have hc9 : w2.heap[wr.heap.size]? = some (.cells (tickC n) 31 (0, 0)) := Kept.at hb2 (old_at (new_at _ _ _ rfl))
      have HC9 := Lib.hid hc9
      have HO2 := Lib.hid (own_below HO.out hb3)
      have HB2 := Lib.hid (HB.out.trans (hb3.mono hsw))
      have hs2 := HB2.out.size
      have hlj := ticksL_len n hn j
      have hlt1 : (tickL n ++ [10]).length ≤ 11 := by have := tickL_len n hn; simp; omega
      have HE : Hid (ticksL n (j + 1) = ticksL n j ++ (tickL n ++ [10])) := Lib.hid rfl
      clear hb1 hb2 hb3 hc9 HO HB
      generalize tickL n ++ [10] = X at *
      go_wp2_with (first
        | (refine load_row rfl 31 (.tmp 9) rfl wr.heap.size (tickC n) rfl 31 (0, 0) _ HC9.out Tryz.underlying31 rfl (by kernel_rfl) ?_)
        | (refine Great.wpList_buildSliceTo rfl 36 31 1 #[(0, .tmp 38)] rfl w2.heap.size rfl _ rfl Tryz.underlying36 (tickC n) (by kernel_rfl) ?_)
        | (at_builtin; refine wpList_append_own _ rfl _ _ 36 rfl w.heap.size 31 i0 (.agg zeroC) 21 192 Tryz.underlying36 hi hz0 hz1 hz2 rfl (by decide) _ _ _ rfl (HO2.out.alloc _) ⟨w2.heap.size, 0, none⟩ 1 1 (tickC n).toList rfl rfl ?c1 ?c2 ?c3 ?c4 ?c5 ?_))
      case c1 => exact tick_news n _ _ rfl
      case c2 => exact tick_ones n
      case c3 => unfold maxLen; omega
      case c4 => omega
      case c5 => simp; omega
      intro v' w3 hown hgr _
      have hb3 := grown_below (HO2.out.alloc (.cells (tickC n) 31)) hgr (Nat.le_refl _) (by simp; omega)
      have HO3 : Hid (w3.ownsRow w.heap.size 31 21 v' (j + 1) (actsRow n (j + 1))) := Lib.hid hown
      have HB3 := Lib.hid ((HB2.out.alloc hs2 (.cells (tickC n) 31)).trans hb3)
      clear hown hgr hb3 HO2 HB2
      go_wp2
      go_roundw
      case rel => exact ⟨j + 1, by omega, by go_num, by rw [HE.out, ← str_app], HO3.out, HB3.out⟩
      case measure => simp [intOf]; omega
    · obtain rfl : j = k := by omega
      have HLr : Hid (Laid wr) := Lib.hid (HL.out.below HB.out HL.out.size)
      have hgj : (1 : Nat) ≤ j := by omega
      obtain ⟨g, cap, rfl⟩ := Joins.ownsRow_form HO.out (by omega)
      have hlt2 := (HO.out.lt g rfl).2
      have HR := Lib.hid (tickRow_of_own HO.out)
      have HLN := Lib.hid (ticksL_len n hn j)
      by_cases hj2 : j ≤ 200
      · go_wp2_with fail
        refine (format_ticks n j g cap hn hj2 wr HLr.out hlt2 HR.out).mono ?_
        rintro e w1 ⟨rfl, hb1⟩
        have HB1 := Lib.hid (HB.out.trans (hb1.mono hsw))
        have HL1 := Lib.hid (HL.out.below HB1.out HL.out.size)
        clear hb1
        go_wp2_with fail
        refine (parse_ticks n j hn hj2 w1 HL1.out).mono ?_
        rintro e w2 ⟨⟨v, rfl⟩, hb2⟩
        have HB2 := Lib.hid (HB1.out.trans (hb2.mono HB1.out.size))
        have HL2 := Lib.hid (HL.out.below HB2.out HL.out.size)
        clear hb2
        go_wp2_with fail
        refine (sane_any w2 HL2.out).mono ?_
        rintro e w3 ⟨rfl, hb3⟩
        have HB3 := Lib.hid (HB2.out.trans (hb3.mono HB2.out.size))
        clear hb3
        go_wp2
        go_ret
        exact ⟨rfl, HB3.out⟩
      · obtain rfl : j = 201 := by omega
        go_wp2_with fail
        refine (format_limit 201 g cap (by omega) (by omega) wr).mono ?_
        rintro e w1 ⟨rfl, hb1⟩
        have HB1 := Lib.hid (HB.out.trans (hb1.mono hsw))
        have HL1 := Lib.hid (HL.out.below HB1.out HL.out.size)
        clear hb1
        go_wp2_with fail
        refine (parse_limit n 201 hn rfl w1 HL1.out).mono ?_
        rintro e w2 ⟨rfl, hb2⟩
        have HB2 := Lib.hid (HB1.out.trans (hb2.mono HB1.out.size))
        have HL2 := Lib.hid (HL.out.below HB2.out HL.out.size)
        clear hb2
        go_wp2_with fail
        refine (sane_any w2 HL2.out).mono ?_
        rintro e w3 ⟨rfl, hb3⟩
        have HB3 := Lib.hid (HB2.out.trans (hb3.mono HB2.out.size))
        clear hb3
        go_wp2
        go_ret
        exact ⟨rfl, HB3.out⟩
end Go.Proofs.YtpppfeldnbjdpaaGreatDoor
