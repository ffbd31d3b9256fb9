/- The program's Format, at a list of equal ticks. -/
import Derived.Test.YtpppfeldnbjdpaaGreatDoorC6
import Derived.Test.YtpppfeldnbjdpaaGreatDoorLb
import Derived.LoopTactic
set_option linter.unusedVariables false
namespace Go.Proofs.YtpppfeldnbjdpaaGreatDoor
open Go Go.RowKit

/-- So many lines of one tick. -/
def ticksL (n : Nat) : Nat → List UInt8
  | 0 => []
  | k + 1 => ticksL n k ++ (tickL n ++ [10])

theorem ticksL_len (n : Nat) (hn : n ≤ 65535) : ∀ k, (ticksL n k).length ≤ 11 * k
  | 0 => by simp [ticksL]
  | k + 1 => by
    have := ticksL_len n hn k
    have := tickL_len n hn
    simp [ticksL]; omega

/-- A row of k equal ticks. -/
def TickRow (n k b : Nat) (w : World) : Prop := ∀ i, i < k → w.rangeAt b (i * 21) (tickC n).toList

theorem TickRow.below {n k b : Nat} {w w' : World} {B : Nat} (h : TickRow n k b w) (hb : Below B w w') (hB : b < B) : TickRow n k b w' := fun i hi j v hj =>
  (hb.cell (p := ⟨b, i * 21 + j, none⟩) hB).trans (h i hi j v hj)

set_option maxHeartbeats 400000 in
theorem format_limit (k b c : Nat) (hk : 200 < k) (hk2 : k ≤ 1000) (w : World) :
    Calls Tryz.prog 13 #[.slice (some ⟨b, 0, none⟩) k c] w fun e w' => e = .returned (.tuple #[.string ⟨#[]⟩, .int .i64 5]) ∧ Below w.heap.size w w' := by
  go_enter Tryz.func13, Tryz.ntmps13
  go_wp2
  go_ret2
  exact ⟨rfl, Below.refl _ _⟩

set_option maxHeartbeats 2000000 in
set_option maxRecDepth 100000 in
theorem format_ticks (n k b c : Nat) (hn : n ≤ 65535) (hk : k ≤ 200) (w : World) (hlaid : Laid w) (hb : b < w.heap.size) (hrow : TickRow n k b w) :
    Calls Tryz.prog 13 #[.slice (some ⟨b, 0, none⟩) k c] w fun e w' => e = .returned (.tuple #[.string ⟨(ticksL n k).toArray⟩, .int .i64 0]) ∧ Below w.heap.size w w' := by
  have HL := Lib.hid hlaid
  have HR := Lib.hid hrow
  clear hlaid hrow
  have hdec : decide ((200 : Int) < (k : Int)) = false := by simp; omega
  go_enter Tryz.func13, Tryz.ntmps13
  go_wp2
  go_loopw [14] (fun i wr => ∃ j : Nat, j ≤ k ∧ i = .int .i64 j ∧ Kept (w.alloc (.cells #[.pointer none, .slice none 0 0] 108)) wr) (fun i _ => k - (intOf i).toNat)
  case atStart => exact ⟨0, Nat.zero_le _, rfl, Kept.refl _⟩
  case round =>
    obtain ⟨j, hj, rfl, hkw⟩ := hrel
    have HK := Lib.hid hkw
    have hks := hkw.size
    simp at hks
    clear hkw
    by_cases hlt : j < k
    · have hrj : wr.rangeAt b (j * 21) (tickC n).toList := (HR.out.below ((Below.refl _ _).alloc (Nat.le_refl _) _ |>.trans (HK.out.mono (by simp))) hb) j hlt
      have HRJ := Lib.hid hrj
      clear hrj
      go_wp2_with (first
        | (refine load_mid rfl 31 (.tmp 16) rfl b (j * 21) (tickC n) rfl _ HRJ.out Tryz.underlying31 rfl (by kernel_rfl) ?_)
        | (refine store_new wr rfl 31 (.tmp 6) _ rfl wr.heap.size (tickC n) _ rfl rfl 31 rfl (by kernel_rfl) rfl (tickC_one n) ?_)
        | (refine load_row rfl 31 (.tmp 6) rfl wr.heap.size (tickC n) rfl 31 (0, 0) _ (new_at _ _ _ rfl) Tryz.underlying31 rfl (by kernel_rfl) ?_))
      refine (valid_tick n hn _).mono ?_
      rintro e w1 ⟨rfl, hb1⟩
      have HK1 := Lib.hid (HK.out.step (((Below.refl _ _).alloc (Nat.le_refl _) _).trans (hb1.mono (by simp))))
      clear hb1
      go_wp2
      go_roundw
      case rel => exact ⟨j + 1, by omega, by go_num, HK1.out⟩
      case measure => simp [intOf]; omega
    · have hjk : j = k := by omega
      subst hjk
      have hstart : Lib.IsBuilder 108 5 w.heap.size w.heap.size (Lib.byteCells (ticksL n 0)) wr := builder_below (Lib.fresh_isBuilder 108 5 w) HK.out
      have hbw : Below w.heap.size w wr := ((Below.refl _ _).alloc (Nat.le_refl _) _).trans (HK.out.mono (by simp))
      have HS := Lib.hid hstart
      have HBW := Lib.hid hbw
      clear hstart hbw HK hks
      obtain ⟨wo, rfl⟩ : ∃ wo : World, wo = wr := ⟨_, rfl⟩
      go_wp2_with fail
      go_loopw [24] (fun i wx => ∃ m : Nat, m ≤ j ∧ i = .int .i64 m ∧ Lib.IsBuilder 108 5 w.heap.size w.heap.size (Lib.byteCells (ticksL n m)) wx ∧ Below w.heap.size w wx) (fun i _ => j - (intOf i).toNat)
      case atStart => exact ⟨0, Nat.zero_le _, rfl, HS.out, HBW.out⟩
      case round =>
        obtain ⟨m, hm, rfl, hI, hbx⟩ := hrel
        obtain ⟨wx, rfl⟩ : ∃ wx : World, wx = wr := ⟨_, rfl⟩
        have HI := Lib.hid hI
        have HBX := Lib.hid hbx
        have hxs := hbx.size
        clear hI hbx HS HBW
        have hlen := ticksL_len n hn m
        have hlen1 := tickL_len n hn
        by_cases hlt : m < j
        · have hrj : wx.rangeAt b (m * 21) (tickC n).toList := (HR.out.below HBX.out hb) m hlt
          have HRJ := Lib.hid hrj
          clear hrj
          go_wp2_with (first
            | (refine load_mid rfl 31 (.tmp 26) rfl b (m * 21) (tickC n) rfl _ HRJ.out Tryz.underlying31 rfl (by kernel_rfl) ?_)
            | (refine store_new wx rfl 31 (.tmp 8) _ rfl wx.heap.size (tickC n) _ rfl rfl 31 rfl (by kernel_rfl) rfl (tickC_one n) ?_)
            | (refine load_row rfl 31 (.tmp 8) rfl wx.heap.size (tickC n) rfl 31 (0, 0) _ (new_at _ _ _ rfl) Tryz.underlying31 rfl (by kernel_rfl) ?_))
          have hlx : Laid (wx.alloc (.cells (tickC n) 31)) := HL.out.below (HBX.out.alloc hxs _) HL.out.size
          have HLX := Lib.hid hlx
          clear hlx
          refine (line_tick n hn _ HLX.out).mono ?_
          rintro e w1 ⟨rfl, hb1⟩
          have hb2 : Below wx.heap.size wx w1 := ((Below.refl _ _).alloc (Nat.le_refl _) _).trans (hb1.mono (by simp))
          have hs2 := hb2.size
          have hI1 := builder_below HI.out hb2
          have HB1 := Lib.hid (HBX.out.trans (hb2.mono hxs))
          clear hb1 hb2
          have hW := Any.Builder_WriteString Tryz.laysB166 Tryz.laysB_X w.heap.size w.heap.size _ ⟨(tickL n ++ [10]).toArray⟩ w1 hI1 (by rw [Lib.byteCells_length]; simp [ByteArray.size]; omega) (by omega)
          have HW := Lib.hid hW
          clear hW hI1
          go_wp2_with fail
          refine HW.out.mono ?_
          rintro e w3 ⟨rfl, h3, hb3⟩
          have HI3 := Lib.hid h3
          have HB3 := Lib.hid (HB1.out.trans hb3)
          clear h3 hb3
          go_wp2
          go_roundw
          case rel =>
            refine ⟨m + 1, by omega, by go_num, ?_, HB3.out⟩
            have := HI3.out
            rw [Lib.strCells_toArray, ← Lib.byteCells_append] at this
            exact .inr this
          case measure => simp [intOf]; omega
        · have hmj : m = j := by omega
          subst hmj
          have hLn := Any.Builder_Len Tryz.lays170 w.heap.size w.heap.size _ wx HI.out
          have HLn := Lib.hid hLn
          have hSt := Tryz.Builder_String_any w.heap.size w.heap.size (ticksL n m) wx HI.out hxs
          have HSt := Lib.hid hSt
          clear hLn hSt
          go_wp2_with fail
          refine HLn.out.mono ?_
          rintro e w3 ⟨rfl, rfl⟩
          rw [Lib.byteCells_length]
          generalize hE : ticksL n m = L at *
          have HE := Lib.hid hE
          clear hE
          go_wp2_with fail
          refine HSt.out.mono ?_
          rintro e w4 ⟨rfl, hb4⟩
          have HB4 := Lib.hid (HBX.out.trans hb4)
          clear hb4
          go_wp2
          go_ret2
          refine ⟨?_, HB4.out⟩
          rw [HE.out]
          rfl
end Go.Proofs.YtpppfeldnbjdpaaGreatDoor
