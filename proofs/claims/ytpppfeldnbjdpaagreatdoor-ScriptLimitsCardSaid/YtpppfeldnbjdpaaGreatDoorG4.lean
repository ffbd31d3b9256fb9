/- The program's Parse, at the text of equal ticks. -/
import Derived.Test.YtpppfeldnbjdpaaGreatDoorG2
import Derived.LoopTactic
import Derived.Great.Walk
set_option linter.unusedVariables false
namespace Go.Proofs.YtpppfeldnbjdpaaGreatDoor
open Go Go.RowKit

theorem info31 : (Tryz.prog.info? 31).map (fun i => (i.zero, i.size, i.bytes)) = some (some (.agg zeroC), 21, 192) := by kernel_rfl

theorem tick_news (n : Int) (w : World) (b : Nat) (hb : b = w.heap.size) : ∀ (j : Nat) (u : Value), (tickC n).toList[j]? = some u → (w.alloc (.cells (tickC n) 31)).cell? ((⟨b, 0, none⟩ : Addr).add j) = some u := by
  intro j u hj
  subst hb
  have h2 : (tickC n)[j]? = some u := by simpa using hj
  rw [show ((⟨w.heap.size, 0, none⟩ : Addr).add j) = ⟨w.heap.size, j, none⟩ by unfold Addr.add; split <;> simp_all]
  exact (cells_at (new_at w (.cells (tickC n) 31) w.heap.size rfl) j).trans h2
theorem tick_ones (n : Int) : ∀ u ∈ (tickC n).toList, u.oneCell' = true := fun u hu => (Array.all_eq_true_iff_forall_mem.1 (tickC_one n)) u (by simpa using hu)

set_option maxHeartbeats 400000 in
set_option maxRecDepth 100000 in
theorem parse_ticks (n k : Nat) (hn : n ≤ 65535) (hk : k ≤ 200) (w : World) (hlaid : Laid w) :
    Calls Tryz.prog 16 #[.string ⟨(ticksL n k).toArray⟩] w fun e w' => (∃ v, e = .returned (.tuple #[v, .int .i64 0, .int .i64 0])) ∧ Below w.heap.size w w' := by
  obtain ⟨i0, hi, hz0, hz1, hz2⟩ := info_parts info31
  have HL := Lib.hid hlaid
  clear hlaid
  have hlen0 := ticksL_len n hn k
  have hgt : decide ((65536 : Int) < ((ticksL n k).length : Int)) = false := by simp; omega
  go_enter Tryz.func16, Tryz.ntmps16
  go_wp2_with fail
  go_loopw [0, 2, 3] (fun s v at' wr => ∃ i : Nat, i ≤ k ∧ s = .string ⟨(ticksL n (k - i)).toArray⟩ ∧ at' = .int .i64 ((i + 1 : Nat) : Int) ∧ wr.ownsRow w.heap.size 31 21 v i (actsRow n i) ∧ Below w.heap.size w wr) (fun _ _ a _ => k + 2 - (intOf a).toNat)
  case atStart => exact ⟨0, Nat.zero_le _, rfl, rfl, World.ownsRow_nil _ _ _ _, Below.refl _ _⟩
  case round =>
    obtain ⟨i, hik, rfl, rfl, hown, hbw⟩ := hrel
    have HO := Lib.hid hown
    have HB := Lib.hid hbw
    have hsw := hbw.size
    clear hown hbw
    by_cases hlt : i < k
    · obtain ⟨m, hm⟩ : ∃ m, k - i = m + 1 := ⟨k - i - 1, by omega⟩
      rw [hm]
      have hne := ticksL_ne n m
      have hlm := ticksL_len n hn (m + 1)
      have hm2 : k - (i + 1) = m := by omega
      have HM := Lib.hid hm2
      have hmk : m + 1 ≤ k := by omega
      have HLW : Hid (Laid wr) := Lib.hid (HL.out.below HB.out HL.out.size)
      clear hm hm2
      go_wp2_with fail
      refine (cut_any (ticksL n (m + 1)) 10 (by omega) _ HLW.out _ _ _ (cut_ticks n m)).mono ?_
      rintro e w1 ⟨rfl, hb1⟩
      have HO1 := Lib.hid (own_below HO.out hb1)
      have HB1 := Lib.hid (HB.out.trans (hb1.mono hsw))
      have HLW1 : Hid (Laid w1) := Lib.hid (HL.out.below HB1.out HL.out.size)
      have hs1 := HB1.out.size
      clear hb1 HO HB HLW
      go_wp2_with fail
      refine (read_tick n hn _ HLW1.out).mono ?_
      rintro e w2 ⟨rfl, hb2⟩
      have HO2 := Lib.hid (own_below HO1.out hb2)
      have HB2 := Lib.hid (HB1.out.trans (hb2.mono hs1))
      have hs2 := HB2.out.size
      clear hb2 HO1 HB1 HLW1
      go_upto_region 12 with (refine store_new w2 rfl 31 (.tmp 8) _ rfl w2.heap.size (tickC n) _ rfl rfl 31 rfl (by kernel_rfl) rfl (tickC_one n) ?_)
      go_wp2_with (first
        | (refine load_row rfl 31 (.tmp 8) rfl w2.heap.size (tickC n) rfl 31 (0, 0) _ (new_at _ _ _ rfl) Tryz.underlying31 rfl (by kernel_rfl) ?_)
        | (refine Great.wpList_buildSliceTo rfl 36 31 1 #[(0, .tmp 39)] rfl (w2.heap.size + 1) (by simp) _ rfl Tryz.underlying36 (tickC n) (by kernel_rfl) ?_)
        | (at_builtin; refine wpList_append_own _ rfl _ _ 36 rfl w.heap.size 31 i0 (.agg zeroC) 21 192 Tryz.underlying36 hi hz0 hz1 hz2 rfl (by decide) _ _ _ rfl ((HO2.out.alloc _).alloc _) ⟨w2.heap.size + 1, 0, none⟩ 1 1 (tickC n).toList rfl rfl ?c1 ?c2 ?c3 ?c4 ?c5 ?_))
      case c1 => exact tick_news n _ _ (by simp)
      case c2 => exact tick_ones n
      case c3 => unfold maxLen; omega
      case c4 => omega
      case c5 => simp; omega
      intro v' w3 hown hgr _
      have hb3 := grown_below ((HO2.out.alloc (.cells (tickC n) 31)).alloc (.cells (tickC n) 31)) hgr (Nat.le_refl _) (by simp; omega)
      have HO3 : Hid (w3.ownsRow w.heap.size 31 21 v' (i + 1) (actsRow n (i + 1))) := Lib.hid hown
      have HB3 := Lib.hid (((HB2.out.alloc hs2 (.cells (tickC n) 31)).alloc (by simp; omega) (.cells (tickC n) 31)).trans hb3)
      clear hown hgr hb3 HO2 HB2
      go_wp2
      go_roundw
      case rel => exact ⟨i + 1, by omega, by rw [HM.out], by go_num, HO3.out, HB3.out⟩
      case measure => simp [intOf]; omega
    · obtain rfl : i = k := by omega
      have hz : ticksL n (i - i) = [] := by rw [Nat.sub_self]; rfl
      rw [hz]
      clear hz
      go_wp2
      go_ret3
      exact ⟨⟨_, rfl⟩, HB.out⟩

set_option maxHeartbeats 400000 in
set_option maxRecDepth 100000 in
theorem parse_limit (n k : Nat) (hn : n ≤ 65535) (hk : k = 201) (w : World) (hlaid : Laid w) :
    Calls Tryz.prog 16 #[.string ⟨(ticksL n k).toArray⟩] w fun e w' => e = .returned (.tuple #[.slice none 0 0, .int .i64 201, .int .i64 5]) ∧ Below w.heap.size w w' := by
  obtain ⟨i0, hi, hz0, hz1, hz2⟩ := info_parts info31
  have HL := Lib.hid hlaid
  clear hlaid
  have hlen0 := ticksL_len n hn k
  have hgt : decide ((65536 : Int) < ((ticksL n k).length : Int)) = false := by simp; omega
  have HK := Lib.hid hk
  have hk1 : k ≤ 201 := by omega
  have hk2 : 201 ≤ k := by omega
  clear hk
  go_enter Tryz.func16, Tryz.ntmps16
  go_wp2_with fail
  go_loopw [0, 2, 3] (fun s v at' wr => ∃ i : Nat, i ≤ 200 ∧ s = .string ⟨(ticksL n (k - i)).toArray⟩ ∧ at' = .int .i64 ((i + 1 : Nat) : Int) ∧ wr.ownsRow w.heap.size 31 21 v i (actsRow n i) ∧ Below w.heap.size w wr) (fun _ _ a _ => 300 - (intOf a).toNat)
  case atStart => exact ⟨0, Nat.zero_le _, rfl, rfl, World.ownsRow_nil _ _ _ _, Below.refl _ _⟩
  case round =>
    obtain ⟨i, hik, rfl, rfl, hown, hbw⟩ := hrel
    have HO := Lib.hid hown
    have HB := Lib.hid hbw
    have hsw := hbw.size
    clear hown hbw
    obtain ⟨m, hm⟩ : ∃ m, k - i = m + 1 := ⟨k - i - 1, by omega⟩
    rw [hm]
    have hne := ticksL_ne n m
    have hlm := ticksL_len n hn (m + 1)
    have hm2 : k - (i + 1) = m := by omega
    have HM := Lib.hid hm2
    have hmk : m + 1 ≤ k := by omega
    have HLW : Hid (Laid wr) := Lib.hid (HL.out.below HB.out HL.out.size)
    clear hm hm2
    by_cases hlt : i < 200
    · go_wp2_with fail
      refine (cut_any (ticksL n (m + 1)) 10 (by omega) _ HLW.out _ _ _ (cut_ticks n m)).mono ?_
      rintro e w1 ⟨rfl, hb1⟩
      have HO1 := Lib.hid (own_below HO.out hb1)
      have HB1 := Lib.hid (HB.out.trans (hb1.mono hsw))
      have HLW1 : Hid (Laid w1) := Lib.hid (HL.out.below HB1.out HL.out.size)
      have hs1 := HB1.out.size
      clear hb1 HO HB HLW
      go_wp2_with fail
      refine (read_tick n hn _ HLW1.out).mono ?_
      rintro e w2 ⟨rfl, hb2⟩
      have HO2 := Lib.hid (own_below HO1.out hb2)
      have HB2 := Lib.hid (HB1.out.trans (hb2.mono hs1))
      have hs2 := HB2.out.size
      clear hb2 HO1 HB1 HLW1
      go_upto_region 12 with (refine store_new w2 rfl 31 (.tmp 8) _ rfl w2.heap.size (tickC n) _ rfl rfl 31 rfl (by kernel_rfl) rfl (tickC_one n) ?_)
      go_wp2_with (first
        | (refine load_row rfl 31 (.tmp 8) rfl w2.heap.size (tickC n) rfl 31 (0, 0) _ (new_at _ _ _ rfl) Tryz.underlying31 rfl (by kernel_rfl) ?_)
        | (refine Great.wpList_buildSliceTo rfl 36 31 1 #[(0, .tmp 39)] rfl (w2.heap.size + 1) (by simp) _ rfl Tryz.underlying36 (tickC n) (by kernel_rfl) ?_)
        | (at_builtin; refine wpList_append_own _ rfl _ _ 36 rfl w.heap.size 31 i0 (.agg zeroC) 21 192 Tryz.underlying36 hi hz0 hz1 hz2 rfl (by decide) _ _ _ rfl ((HO2.out.alloc _).alloc _) ⟨w2.heap.size + 1, 0, none⟩ 1 1 (tickC n).toList rfl rfl ?c1 ?c2 ?c3 ?c4 ?c5 ?_))
      case c1 => exact tick_news n _ _ (by simp)
      case c2 => exact tick_ones n
      case c3 => unfold maxLen; omega
      case c4 => omega
      case c5 => simp; omega
      intro v' w3 hown hgr _
      have hb3 := grown_below ((HO2.out.alloc (.cells (tickC n) 31)).alloc (.cells (tickC n) 31)) hgr (Nat.le_refl _) (by simp; omega)
      have HO3 : Hid (w3.ownsRow w.heap.size 31 21 v' (i + 1) (actsRow n (i + 1))) := Lib.hid hown
      have HB3 := Lib.hid (((HB2.out.alloc hs2 (.cells (tickC n) 31)).alloc (by simp; omega) (.cells (tickC n) 31)).trans hb3)
      clear hown hgr hb3 HO2 HB2
      go_wp2
      go_roundw
      case rel => exact ⟨i + 1, by omega, by rw [HM.out], by go_num, HO3.out, HB3.out⟩
      case measure => simp [intOf]; omega
    · obtain rfl : i = 200 := by omega
      go_wp2_with fail
      refine (cut_any (ticksL n (m + 1)) 10 (by omega) _ HLW.out _ _ _ (cut_ticks n m)).mono ?_
      rintro e w1 ⟨rfl, hb1⟩
      have HB1 := Lib.hid (HB.out.trans (hb1.mono hsw))
      have HLW1 : Hid (Laid w1) := Lib.hid (HL.out.below HB1.out HL.out.size)
      have hs1 := HB1.out.size
      clear hb1 HO HB HLW
      go_wp2_with fail
      refine (read_tick n hn _ HLW1.out).mono ?_
      rintro e w2 ⟨rfl, hb2⟩
      have HB2 := Lib.hid (HB1.out.trans (hb2.mono hs1))
      have hs2 := HB2.out.size
      clear hb2 HB1 HLW1
      go_wp2_with (refine store_new w2 rfl 31 (.tmp 8) _ rfl w2.heap.size (tickC n) _ rfl rfl 31 rfl (by kernel_rfl) rfl (tickC_one n) ?_)
      go_ret3
      exact ⟨rfl, HB2.out.alloc hs2 _⟩
end Go.Proofs.YtpppfeldnbjdpaaGreatDoor
